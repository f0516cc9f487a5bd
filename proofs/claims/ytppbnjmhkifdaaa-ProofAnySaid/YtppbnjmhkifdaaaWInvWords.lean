-- PRUNED by this session (wip/tools/prunew.py) out of what print.sh wrote: 35421559b90ae4d0a3588c463048766b98c2df88dd9212a6774a882060cdf62d: not written by this session
import Derived.Test.YtppbnjmhkifdaaaWInv
import Derived.Test.YtppbnjmhkifdaaaWFootNe
namespace Go.Proofs.YtppbnjmhkifdaaaW.PrintWords
open Go.RowKit
end Go.Proofs.YtppbnjmhkifdaaaW.PrintWords
namespace Go.Proofs.YtppbnjmhkifdaaaW.PrintLast
section
variable {ops : Array Oper} {a : Act} {o og : Oper} {g : Nat} {t : Tmp} {u : Bool}
end
end Go.Proofs.YtppbnjmhkifdaaaW.PrintLast
