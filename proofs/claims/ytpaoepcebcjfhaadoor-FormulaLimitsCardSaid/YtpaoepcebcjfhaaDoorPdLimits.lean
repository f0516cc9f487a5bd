/- FormulaLimits in plain terms: both Valid answer the same. -/
import Derived.Test.YtpaoepcebcjfhaaDoorPc
import Derived.Test.YtpaoepcebcjfhaaDoorX14
namespace Go.Proofs.YtpaoepcebcjfhaaDoor.X
open Go Go.RowKit Go.Proofs.YtpaoepcebcjfhaaDoorW.PrintWords Go.Proofs.YtpaoepcebcjfhaaDoorW.PrintLast Go.Proofs.YtpaoepcebcjfhaaDoorW.PrintMore
theorem limits_ev (a0 a1 a2 a3 a4 a5 : Int) : Ev (fun k => interleavelaw31_FormulaLimits.f k a0 a1 a2 a3 a4 a5) true := by
  have hA : Ev (fun k => (interleavelaw31_awake.f k).bind fun t => some t) true := Ev.bind awake_ev (Ev.now true)
  have hj : ∀ x, Ev (fun k => interleavelaw31_FormulaLimits.j0 k a0 a1 a2 a3 a4 a5 x) true := by
    intro x
    obtain ⟨r, h1, h2⟩ := valid_tot a0 a1 [] [[], [a2]] (by simp) (by simp) (by simp)
    obtain ⟨s, h3, h4⟩ := valid_tot a0 a1 [⟨a3, a4, a5⟩] [] (by simp) (by simp) (by simp)
    refine Ev.step (f := fun k => if x = true then ((interleavelaw31_awake.f k).bind fun t => some t) else ((formula_Valid.f k a0 a1 [] [[], [a2]]).bind fun t338 => ((interleaveref31_Valid.f k a0 a1 [] [[], [a2]]).bind fun t339 => (if t338 = t339 then ((formula_Valid.f k a0 a1 [⟨a3, a4, a5⟩] []).bind fun t340 => ((interleaveref31_Valid.f k a0 a1 [⟨a3, a4, a5⟩] []).bind fun t341 => (if t340 = t341 then ((interleavelaw31_awake.f k).bind fun t342 => (some t342)) else (some false)))) else (some false))))) (fun k => ?_) ?_
    · simp only [interleavelaw31_FormulaLimits.j0, Option.bind_some]
    · by_cases hx : x = true
      · exact Ev.congr (fun k => if_pos hx) hA
      · refine Ev.congr (fun k => if_neg hx) ?_
        refine Ev.bind h1 (Ev.bind h2 ?_)
        refine Ev.congr (fun k => if_pos rfl) ?_
        refine Ev.bind h3 (Ev.bind h4 ?_)
        exact Ev.congr (fun k => if_pos rfl) hA
  unfold interleavelaw31_FormulaLimits.f
  split
  · exact hj _
  split
  · exact hj _
  split
  · exact hj _
  · exact hj _
theorem pureLimits : interleavelaw31_FormulaLimits.Pure := fun a0 a1 a2 a3 a4 a5 _ _ _ _ _ _ => (limits_ev a0 a1 a2 a3 a4 a5).rounds
end Go.Proofs.YtpaoepcebcjfhaaDoor.X
