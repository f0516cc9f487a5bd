/- What the rows have in common: what the condition on the listed variables gives a walk, and a world that meets it. -/
import Derived.Test.YtppbnjmhkifdaaaDoorRows
import Derived.Test.YtppbnjmhkifdaaaDoorForm
import Derived.Lib.LaidTab
import Derived.Lay
import Derived.LaidHandle
import Derived.MakeChecks
import Derived.Stop.LaidErr
namespace Go.Proofs.YtppbnjmhkifdaaaDoor
open Go Go.RowKit Go.ChangeShapes

theorem own : ownKnob Tryd.prog.godebug = none := by kernel_rfl
theorem gP : Tryd.prog.globalNamed "internal/strconv.uint64pow10" = some 0 := by kernel_rfl
theorem gPType : (Tryd.prog.globals[0]?).map (·.type) = some 79 := by kernel_rfl
theorem cells79 : Tryd.prog.cellsOf 79 = 20 := by kernel_rfl
theorem cells68 : Tryd.prog.cellsOf 68 = 1 := by kernel_rfl
noncomputable abbrev lst : List (String × DataW Unit) := [("math/bits.deBruijn32tab", Rows.laid_math_bits_deBruijn32tab), ("math/bits.deBruijn64tab", Rows.laid_math_bits_deBruijn64tab), ("internal/strconv.uint64pow10", Rows.laid_internal_strconv_uint64pow10)]
theorem pow_data : (Rows.laid_internal_strconv_uint64pow10 : DataW Unit) = Lib.tabData .u64 Lib.pow10Tab := by kernel_rfl

theorem gw_of_laid {W : World} (h : laidMetH Tryd.prog lst W) : X.GW W := by
  rw [MakeChecks.laidMetH_plain _ _ _ (by kernel_rfl)] at h
  have h3 : laidMet Tryd.prog [("internal/strconv.uint64pow10", Rows.laid_internal_strconv_uint64pow10)] W := h.tail.tail
  rw [pow_data] at h3
  exact Lib.tabIs_of_head gP gPType Tryd.underlying79 Tryd.underlying68 cells68 cells79 h3

noncomputable def laidWorld (os : Os) : World := (World.holding Tryd.prog os ⟨#[], #[], []⟩).layVars Tryd.prog lst
set_option maxRecDepth 100000 in
theorem laid_met (os : Os) (args : Array Value) : laidMetH Tryd.prog lst ((laidWorld os).forCall (fun _ _ => 0) ⟨#[], args, []⟩).memory := by
  rw [MakeChecks.laidMetH_plain _ _ _ (by kernel_rfl)]
  exact laidMet_of_run' 16 (by kernel_rfl) (by kernel_rfl)
end Go.Proofs.YtppbnjmhkifdaaaDoor
