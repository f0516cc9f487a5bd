/- FormulaValid in plain terms: both Valid answer the same. -/
import Derived.Test.YtpaoepcebcjfhaaDoorPl
import Derived.Test.YtpaoepcebcjfhaaDoorX13
namespace Go.Proofs.YtpaoepcebcjfhaaDoor.X
open Go Go.RowKit Go.Proofs.YtpaoepcebcjfhaaDoorW.PrintWords Go.Proofs.YtpaoepcebcjfhaaDoorW.PrintLast Go.Proofs.YtpaoepcebcjfhaaDoorW.PrintMore
theorem validLaw (a b : Int) (l2 : List S36) (l3 : List (List Int)) (h2 : l2.length < 4611686018427387904) (hl : l3.length < 4611686018427387904) (hu : ∀ u ∈ l3, u.length < 4611686018427387904) : ∃ k, interleavelaw31_FormulaValid.f k a b l2 l3 = some true := by
  have hA : Ev (fun k => (interleavelaw31_awake.f k).bind fun t => some t) true := Ev.bind awake_ev (Ev.now true)
  refine Ev.rounds (g := fun k => interleavelaw31_FormulaValid.f k a b l2 l3) ?_
  unfold interleavelaw31_FormulaValid.f
  obtain ⟨r, hr⟩ := large_tot a b l2 l3 hl
  refine Ev.bind hr ?_
  by_cases c : r = true
  · exact Ev.congr (fun k => if_pos c) hA
  · refine Ev.congr (fun k => if_neg c) ?_
    obtain ⟨s, h3, h4⟩ := valid_tot a b l2 l3 h2 hl hu
    refine Ev.bind h3 (Ev.bind h4 ?_)
    exact Ev.congr (fun k => if_pos rfl) hA
end Go.Proofs.YtpaoepcebcjfhaaDoor.X
