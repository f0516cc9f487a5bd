/- What Holds answers, the program's and the reference's. -/
import Derived.Test.YtpaoepcebcjfhaaDoorPa
import Derived.Test.YtpaoepcebcjfhaaDoorX8h
import Derived.Test.YtpaoepcebcjfhaaDoorX10
namespace Go.Proofs.YtpaoepcebcjfhaaDoor.X
open Go Go.RowKit Go.Proofs.YtpaoepcebcjfhaaDoorW.PrintWords Go.Proofs.YtpaoepcebcjfhaaDoorW.PrintLast Go.Proofs.YtpaoepcebcjfhaaDoorW.PrintMore
def hld (x : Int) (bs : List Bool) : Bool :=
  if x = 0 ∨ (bs.length : Int) < x ∨ x < -(bs.length : Int) then false
  else if 0 < x then rdOf false bs (x - 1) else !(rdOf false bs (-x - 1))
theorem holds_f (x : Int) (bs : List Bool) (is : List Int) (h0 : -9223372036854775808 ≤ x) (h1 : x < 9223372036854775808) (hl : bs.length < 4611686018427387904) : formula_Holds.f x bs is = some (hld x bs) := by
  unfold formula_Holds.f
  by_cases c0 : x = 0
  · rw [if_pos c0]
    simp [hld, c0]
  rw [if_neg c0]
  by_cases c1 : x = -9223372036854775808
  · rw [if_pos c1]
    unfold hld
    rw [if_pos (by omega)]
  rw [if_neg c1, boolean_f (by omega) h1, Option.bind_some]
  by_cases c2 : nb x ≥ (bs.length : Int)
  · rw [if_pos c2]
    unfold hld
    unfold nb at c2
    rw [if_pos (by split at c2 <;> omega)]
  · rw [if_neg c2, Option.bind_some]
    have hb0 : 0 ≤ nb x := by unfold nb; split <;> omega
    rw [if_pos hb0, if_pos (by omega)]
    unfold nb at c2 ⊢
    unfold hld
    by_cases c3 : x < 0
    · rw [if_pos c3] at c2
      rw [if_pos c3, if_neg (by omega), if_neg (by omega), decide_eq_false (by omega)]
      cases rdOf false bs (-x - 1) <;> rfl
    · rw [if_neg c3] at c2
      rw [if_neg c3, if_neg (by omega), if_pos (by omega), decide_eq_true (by omega)]
      cases rdOf false bs (x - 1) <;> rfl
theorem refHolds_ev (x : Int) (bs : List Bool) (is : List Int) (h0 : -9223372036854775808 ≤ x) (h1 : x < 9223372036854775808) (hl : bs.length < 4611686018427387904) : Ev (fun k => interleaveref31_Holds.f k x bs is) (hld x bs) := by
  refine Ev.at_one fun k => ?_
  unfold interleaveref31_Holds.f
  by_cases c0 : x = 0
  · rw [if_pos c0]
    simp [interleaveref31_Holds.j0, hld, c0]
  rw [if_neg c0]
  by_cases c1 : x > (bs.length : Int)
  · rw [if_pos c1]
    simp only [interleaveref31_Holds.j0]
    unfold hld
    rw [if_pos True.intro, if_pos (by omega)]
  rw [if_neg c1, wrap64_id (x := -(bs.length : Int)) (by omega) (by omega)]
  simp only [interleaveref31_Holds.j0]
  unfold hld
  by_cases c2 : x < -(bs.length : Int)
  · rw [if_pos (by simpa using c2), if_pos (by omega)]
  · rw [if_neg (by simpa using c2), if_neg (show ¬ (x = 0 ∨ (bs.length : Int) < x ∨ x < -(bs.length : Int)) by omega)]
    by_cases c3 : x > 0
    · rw [if_pos c3, wrap64_id (x := x - 1) (by omega) (by omega), if_pos (show 0 ≤ x - 1 by omega), if_pos (by omega), if_pos (show 0 < x by omega)]
    · rw [if_neg c3, wrap64_id (x := -x) (by omega) (by omega), wrap64_id (x := -x - 1) (by omega) (by omega), if_pos (show 0 ≤ -x - 1 by omega), if_pos (by omega), if_neg (show ¬ 0 < x by omega)]
end Go.Proofs.YtpaoepcebcjfhaaDoor.X
