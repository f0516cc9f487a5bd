/- FormulaBounds in plain terms: both Bound answer the same. -/
import Derived.Test.YtpaoepcebcjfhaaDoorPl
import Derived.Test.YtpaoepcebcjfhaaDoorPar
namespace Go.Proofs.YtpaoepcebcjfhaaDoor.X
open Go Go.RowKit Go.Proofs.YtpaoepcebcjfhaaDoorW.PrintWords Go.Proofs.YtpaoepcebcjfhaaDoorW.PrintLast Go.Proofs.YtpaoepcebcjfhaaDoorW.PrintMore
theorem bounds_loop (a b : Int) (l2 : List S36) (l3 : List (List Int)) (x : Int) (h0 : -9223372036854775808 ≤ x) (h1 : x < 9223372036854775808) (h2 : l2.length < 140737488355328) :
    ∀ (n : Nat) (y : Int), y + n = (l2.length : Int) + 2 → -(l2.length : Int) - 1 ≤ y → Ev (fun k => interleavelaw31_FormulaBounds.l0 k x y a b l2 l3) true := by
  have e1 : wrap64 ((l2.length : Int) + 1) = (l2.length : Int) + 1 := wrap64_id (by omega) (by omega)
  intro n
  induction n with
  | zero =>
    intro y hy hz
    refine Ev.step (f := fun k => (formula_Bound.f k a b l2 l3 x).bind fun bt239 => ((interleaveref31_Bound.f k a b l2 l3 x).bind fun bt244 => (if (bt239.1 == bt244.1 && (bt239.2.1 == bt244.2.1 && (bt239.2.2.1 == bt244.2.2.1))) = true then (if (bt239.2.2.2 == bt244.2.2.2) = true then ((interleavelaw31_awake.f k).bind fun t249 => (some t249)) else (some false)) else (some false)))) (fun k => ?_) ?_
    · simp only [interleavelaw31_FormulaBounds.l0]
      rw [e1, if_neg (by omega)]
    · refine Ev.bind (bound_ev a b l2 l3 x h0 h1 (by omega)) (Ev.bind (refBound_ev a b l2 l3 x h0 h1 (by omega)) ?_)
      refine Ev.congr (f := fun k => (interleavelaw31_awake.f k).bind fun t249 => (some t249)) (fun k => ?_) (Ev.bind awake_ev (Ev.now true))
      rw [if_pos (by simp), if_pos (by simp)]
  | succ n ih =>
    intro y hy hz
    refine Ev.step (f := fun k => (formula_Bound.f k a b l2 l3 y).bind fun bt250 => ((interleaveref31_Bound.f k a b l2 l3 y).bind fun bt255 => (if (!(bt250.1 == bt255.1) || (!(bt250.2.1 == bt255.2.1) || (!(bt250.2.2.1 == bt255.2.2.1)))) = true then (some false) else (if (bt250.2.2.2 != bt255.2.2.2) = true then (some false) else (interleavelaw31_FormulaBounds.l0 k x (y + 1) a b l2 l3))))) (fun k => ?_) ?_
    · simp only [interleavelaw31_FormulaBounds.l0]
      rw [e1, if_pos (by omega), wrap64_id (x := y + 1) (by omega) (by omega)]
    · refine Ev.bind (bound_ev a b l2 l3 y (by omega) (by omega) (by omega)) (Ev.bind (refBound_ev a b l2 l3 y (by omega) (by omega) (by omega)) ?_)
      refine Ev.congr (f := fun k => interleavelaw31_FormulaBounds.l0 k x (y + 1) a b l2 l3) (fun k => ?_) (ih (y + 1) (by omega) (by omega))
      rw [if_neg (by simp), if_neg (by simp)]
theorem boundsLaw (a b : Int) (l2 : List S36) (l3 : List (List Int)) (x : Int) (h0 : -9223372036854775808 ≤ x) (h1 : x < 9223372036854775808) (h2 : l2.length < 140737488355328) (hl : l3.length < 4611686018427387904) (hu : ∀ u ∈ l3, u.length < 4611686018427387904) : ∃ k, interleavelaw31_FormulaBounds.f k a b l2 l3 x = some true := by
  have hA : Ev (fun k => (interleavelaw31_awake.f k).bind fun t => some t) true := Ev.bind awake_ev (Ev.now true)
  have hj : ∀ q, Ev (fun k => interleavelaw31_FormulaBounds.j0 k x q a b l2 l3) true := by
    intro q
    refine Ev.step (f := fun k => if q = true then ((interleavelaw31_awake.f k).bind fun t => some t) else interleavelaw31_FormulaBounds.l0 k x (-(l2.length : Int) - 1) a b l2 l3) (fun k => ?_) ?_
    · simp only [interleavelaw31_FormulaBounds.j0]
      rw [wrap64_id (x := -(l2.length : Int)) (by omega) (by omega), wrap64_id (x := -(l2.length : Int) - 1) (by omega) (by omega)]
    · by_cases c : q = true
      · exact Ev.congr (fun k => if_pos c) hA
      · exact Ev.congr (fun k => if_neg c) (bounds_loop a b l2 l3 x h0 h1 h2 (2 * l2.length + 3) _ (by omega) (by omega))
  refine Ev.rounds (g := fun k => interleavelaw31_FormulaBounds.f k a b l2 l3 x) ?_
  unfold interleavelaw31_FormulaBounds.f
  obtain ⟨r, hr⟩ := large_tot a b l2 l3 hl
  refine Ev.bind hr ?_
  by_cases c : r = true
  · exact Ev.congr (fun k => if_pos c) (hj _)
  · refine Ev.congr (fun k => if_neg c) ?_
    obtain ⟨s, h3, h4⟩ := valid_tot a b l2 l3 (by omega) hl hu
    exact Ev.bind h4 (hj _)
end Go.Proofs.YtpaoepcebcjfhaaDoor.X
