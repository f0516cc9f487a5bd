/- What the program's small functions answer, in plain terms. -/
import Derived.Test.YtpaoepcebcjfhaaDoorX3
namespace Go.Proofs.YtpaoepcebcjfhaaDoor.X
open Go Go.RowKit Go.Proofs.YtpaoepcebcjfhaaDoorW.PrintWords Go.Proofs.YtpaoepcebcjfhaaDoorW.PrintLast Go.Proofs.YtpaoepcebcjfhaaDoorW.PrintMore
theorem wrap64_id {x : Int} (h0 : -9223372036854775808 ≤ x) (h1 : x < 9223372036854775808) : wrap64 x = x := by
  unfold wrap64
  omega
theorem boolean_f {x : Int} (h0 : -9223372036854775808 < x) (h1 : x < 9223372036854775808) : formula_boolean.f x = some (nb x) := by
  unfold formula_boolean.f nb wrap64
  split
  · congr 1
    omega
  · congr 1
    omega
theorem Ev.at_one {α : Type} {g : Nat → Option α} {r : α} (h : ∀ k, g (k + 1) = some r) : Ev g r :=
  ⟨1, fun k hk => by obtain ⟨j, rfl⟩ : ∃ j, k = j + 1 := ⟨k - 1, by omega⟩; exact h j⟩
def bnd (q : List S36) (x : Int) : Int × Int × Int × Bool :=
  if x = 0 ∨ (q.length : Int) < x ∨ x < -(q.length : Int) then (0, 0, 0, false)
  else if 0 < x then ((rd_T36 q (x - 1)).f0, (rd_T36 q (x - 1)).f1, (rd_T36 q (x - 1)).f2, true)
  else ((rd_T36 q (-x - 1)).f1, (rd_T36 q (-x - 1)).f0, wrap64 (wrap64 (-(rd_T36 q (-x - 1)).f2) - 1), true)
theorem bound_ev (a b : Int) (q : List S36) (cl : List (List Int)) (x : Int) (h0 : -9223372036854775808 ≤ x) (h1 : x < 9223372036854775808) (hl : q.length < 4611686018427387904) :
    Ev (fun k => formula_Bound.f k a b q cl x) (bnd q x) := by
  refine Ev.at_one fun k => ?_
  unfold formula_Bound.f
  by_cases c0 : x = 0
  · rw [if_pos c0]
    simp [formula_Bound.j0, bnd, c0]
  rw [if_neg c0]
  by_cases c1 : x = -9223372036854775808
  · rw [if_pos c1]
    have : bnd q x = (0, 0, 0, false) := by
      unfold bnd
      rw [if_pos (by omega)]
    rw [this]
    simp [formula_Bound.j0]
  rw [if_neg c1, boolean_f (by omega) h1, Option.bind_some]
  simp only [formula_Bound.j0]
  by_cases c2 : nb x ≥ (q.length : Int)
  · rw [if_pos (by simpa using c2)]
    unfold bnd
    unfold nb at c2
    rw [if_pos (by split at c2 <;> omega)]
  · rw [if_neg (by simpa using c2), boolean_f (by omega) h1, Option.bind_some]
    have hb0 : 0 ≤ nb x := by unfold nb; split <;> omega
    rw [if_pos hb0, if_pos (by omega)]
    unfold nb at c2 ⊢
    unfold bnd
    by_cases c3 : x < 0
    · rw [if_pos c3] at c2
      rw [if_pos c3, if_pos c3, if_neg (by omega), if_neg (by omega)]
    · rw [if_neg c3] at c2
      rw [if_neg c3, if_neg c3, if_neg (by omega), if_pos (by omega)]
end Go.Proofs.YtpaoepcebcjfhaaDoor.X
