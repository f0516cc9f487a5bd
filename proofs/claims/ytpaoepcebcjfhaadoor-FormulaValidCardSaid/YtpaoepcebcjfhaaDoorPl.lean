/- 'large' ends. -/
import Derived.Test.YtpaoepcebcjfhaaDoorPc
import Derived.Test.YtpaoepcebcjfhaaDoorX5
namespace Go.Proofs.YtpaoepcebcjfhaaDoor.X
open Go Go.RowKit Go.Proofs.YtpaoepcebcjfhaaDoorW.PrintWords Go.Proofs.YtpaoepcebcjfhaaDoorW.PrintLast Go.Proofs.YtpaoepcebcjfhaaDoorW.PrintMore
theorem large_loop (a b : Int) (l2 : List S36) (l3 : List (List Int)) (hl : l3.length < 4611686018427387904) : ∀ (n i : Nat) (s : Int), i + n = l3.length → Tot (fun k => interleavelaw31_large.l0 k s (i : Int) a b l2 l3) := by
  intro n
  induction n with
  | zero =>
    intro i s hi
    refine Tot.step (f := fun _ => some (decide (s > 2000))) (fun k => ?_) (Tot.now _)
    simp only [interleavelaw31_large.l0]
    rw [if_neg (by omega)]
  | succ n ih =>
    intro i s hi
    by_cases c : s < 1048576
    · refine Tot.step (f := fun k => interleavelaw31_large.l0 k (wrap64 (s + ((rd_L2 l3 (i : Int)).length : Int))) ((i + 1 : Nat) : Int) a b l2 l3) (fun k => ?_) (ih (i + 1) _ (by omega))
      simp only [interleavelaw31_large.l0]
      rw [if_pos (by omega), if_pos c, if_pos (by omega), wrap_succ (show i < l3.length by omega) hl]
    · refine Tot.step (f := fun _ => some (decide (s > 2000))) (fun k => ?_) (Tot.now _)
      simp only [interleavelaw31_large.l0]
      rw [if_pos (by omega), if_neg c]
theorem large_tot (a b : Int) (l2 : List S36) (l3 : List (List Int)) (hl : l3.length < 4611686018427387904) : Tot (fun k => interleavelaw31_large.f k a b l2 l3) := large_loop a b l2 l3 hl l3.length 0 _ (by omega)
end Go.Proofs.YtpaoepcebcjfhaaDoor.X
