/- FormulaOpposite in plain terms: exactly one of the two constraints holds. -/
import Derived.Test.YtpaoepcebcjfhaaDoorPb
import Derived.Test.YtpaoepcebcjfhaaDoorX8
namespace Go.Proofs.YtpaoepcebcjfhaaDoor.X
open Go Go.RowKit Go.Proofs.YtpaoepcebcjfhaaDoorW.PrintWords Go.Proofs.YtpaoepcebcjfhaaDoorW.PrintLast Go.Proofs.YtpaoepcebcjfhaaDoorW.PrintMore
theorem tmod_small (a : Int) (n : Int) (hn : 0 < n) : -n < Int.tmod a n ∧ Int.tmod a n < n := by
  have h1 := Int.tmod_lt_of_pos a hn
  have h2 : -n < Int.tmod a n := by
    have := Int.lt_tmod_of_pos a hn
    exact this
  exact ⟨h2, h1⟩
theorem opposite_ev (a0 a1 a2 : Int) : Ev (fun k => interleavelaw31_FormulaOpposite.f k a0 a1 a2) true := by
  unfold interleavelaw31_FormulaOpposite.f
  simp only [Option.bind_some]
  have hc := tmod_small a0 1048576 (by decide)
  have hv := tmod_small a1 1073741824 (by decide)
  have hw := tmod_small a2 1073741824 (by decide)
  generalize Int.tmod a0 1048576 = c at *
  generalize Int.tmod a1 1073741824 = v at *
  generalize Int.tmod a2 1073741824 = u at *
  refine Ev.bind (bound_ev 2 1 [⟨0, 1, c⟩] [] 1 (by decide) (by decide) (by simp)) ?_
  refine Ev.bind (bound_ev 2 1 [⟨0, 1, c⟩] [] (-1) (by decide) (by decide) (by simp)) ?_
  have e1 : bnd [⟨0, 1, c⟩] 1 = (0, 1, c, true) := by simp [bnd, rd_T36]
  have e2 : bnd [⟨0, 1, c⟩] (-1) = (1, 0, -c - 1, true) := by
    have : wrap64 (wrap64 (-c) - 1) = -c - 1 := by
      unfold wrap64
      omega
    simp [bnd, rd_T36, this]
  rw [e1, e2]
  have e3 : wrap64 (v - u) = v - u := wrap64_id (by omega) (by omega)
  have e4 : wrap64 (u - v) = u - v := wrap64_id (by omega) (by omega)
  have e5 : (decide (v - u ≤ c) != decide (u - v ≤ -c - 1)) = true := by
    by_cases h : v - u ≤ c
    · rw [decide_eq_true h, decide_eq_false (by omega)]
      rfl
    · rw [decide_eq_false h, decide_eq_true (by omega)]
      rfl
  refine Ev.congr (f := fun k => (interleavelaw31_awake.f k).bind fun t274 => some t274) (fun k => ?_) (Ev.bind awake_ev (Ev.now true))
  rw [if_pos rfl, if_pos rfl, if_pos rfl, if_pos rfl, if_pos rfl, if_pos rfl, e3, e4, if_pos e5]
theorem pureOpposite : interleavelaw31_FormulaOpposite.Pure := fun a0 a1 a2 _ _ _ => (opposite_ev a0 a1 a2).rounds
end Go.Proofs.YtpaoepcebcjfhaaDoor.X
