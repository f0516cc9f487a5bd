/- What the reference's Bound answers. -/
import Derived.Test.YtpaoepcebcjfhaaDoorPa
import Derived.Test.YtpaoepcebcjfhaaDoorX7
namespace Go.Proofs.YtpaoepcebcjfhaaDoor.X
open Go Go.RowKit Go.Proofs.YtpaoepcebcjfhaaDoorW.PrintWords Go.Proofs.YtpaoepcebcjfhaaDoorW.PrintLast Go.Proofs.YtpaoepcebcjfhaaDoorW.PrintMore
theorem refBound_ev (a b : Int) (q : List S36) (cl : List (List Int)) (x : Int) (h0 : -9223372036854775808 ≤ x) (h1 : x < 9223372036854775808) (hl : q.length < 4611686018427387904) :
    Ev (fun k => interleaveref31_Bound.f k a b q cl x) (bnd q x) := by
  refine Ev.at_one fun k => ?_
  unfold interleaveref31_Bound.f
  by_cases c0 : x = 0
  · rw [if_pos c0]
    simp [interleaveref31_Bound.j0, bnd, c0]
  rw [if_neg c0]
  by_cases c1 : x > (q.length : Int)
  · rw [if_pos c1]
    simp only [interleaveref31_Bound.j0]
    unfold bnd
    rw [if_pos True.intro, if_pos (by omega)]
  rw [if_neg c1, wrap64_id (x := -(q.length : Int)) (by omega) (by omega)]
  simp only [interleaveref31_Bound.j0]
  unfold bnd
  by_cases c2 : x < -(q.length : Int)
  · rw [if_pos (by simpa using c2), if_pos (by omega)]
  · rw [if_neg (by simpa using c2), if_neg (show ¬ (x = 0 ∨ (q.length : Int) < x ∨ x < -(q.length : Int)) by omega)]
    by_cases c3 : x > 0
    · rw [if_pos c3, wrap64_id (x := x - 1) (by omega) (by omega), if_pos (show 0 ≤ x - 1 by omega), if_pos (by omega), if_pos (show 0 < x by omega)]
    · rw [if_neg c3, wrap64_id (x := -x) (by omega) (by omega), wrap64_id (x := -x - 1) (by omega) (by omega), if_pos (show 0 ≤ -x - 1 by omega), if_pos (by omega), if_neg (show ¬ 0 < x by omega)]
end Go.Proofs.YtpaoepcebcjfhaaDoor.X
