/- FormulaHolds in plain terms: both Holds answer the same. -/
import Derived.Test.YtpaoepcebcjfhaaDoorPah
import Derived.Test.YtpaoepcebcjfhaaDoorPb
import Derived.Test.YtpaoepcebcjfhaaDoorX11
namespace Go.Proofs.YtpaoepcebcjfhaaDoor.X
open Go Go.RowKit Go.Proofs.YtpaoepcebcjfhaaDoorW.PrintWords Go.Proofs.YtpaoepcebcjfhaaDoorW.PrintLast Go.Proofs.YtpaoepcebcjfhaaDoorW.PrintMore
theorem hold_loop (bs : List Bool) (is : List Int) (a : Int) (h0 : -9223372036854775808 ≤ a) (h1 : a < 9223372036854775808) (hl : bs.length < 140737488355328) :
    ∀ (n : Nat) (x : Int), x + n = (bs.length : Int) + 2 → -(bs.length : Int) - 1 ≤ x → Ev (fun k => interleavelaw31_FormulaHolds.l0 k a x bs is) true := by
  have e1 : wrap64 ((bs.length : Int) + 1) = (bs.length : Int) + 1 := wrap64_id (by omega) (by omega)
  intro n
  induction n with
  | zero =>
    intro x hx hy
    refine Ev.step (f := fun k => (some (hld a bs)).bind fun t307 => ((interleaveref31_Holds.f k a bs is).bind fun t308 => (if (t307 == t308) = true then ((interleavelaw31_awake.f k).bind fun t309 => (some t309)) else (some false)))) (fun k => ?_) ?_
    · simp only [interleavelaw31_FormulaHolds.l0]
      rw [e1, if_neg (by omega), holds_f a bs is h0 h1 (by omega)]
    · simp only [Option.bind_some]
      refine Ev.bind (refHolds_ev a bs is h0 h1 (by omega)) ?_
      exact Ev.congr (fun k => if_pos (by simp)) (Ev.bind awake_ev (Ev.now true))
  | succ n ih =>
    intro x hx hy
    refine Ev.step (f := fun k => (some (hld x bs)).bind fun t310 => ((interleaveref31_Holds.f k x bs is).bind fun t311 => (if (t310 != t311) = true then (some false) else (interleavelaw31_FormulaHolds.l0 k a (x + 1) bs is)))) (fun k => ?_) ?_
    · simp only [interleavelaw31_FormulaHolds.l0]
      rw [e1, if_pos (by omega), holds_f x bs is (by omega) (by omega) (by omega), wrap64_id (x := x + 1) (by omega) (by omega)]
    · simp only [Option.bind_some]
      refine Ev.bind (refHolds_ev x bs is (by omega) (by omega) (by omega)) ?_
      exact Ev.congr (fun k => if_neg (by simp)) (ih (x + 1) (by omega) (by omega))
theorem holdsLaw (bs : List Bool) (is : List Int) (a : Int) (h0 : -9223372036854775808 ≤ a) (h1 : a < 9223372036854775808) (hl : bs.length < 140737488355328) : ∃ k, interleavelaw31_FormulaHolds.f k bs is a = some true := by
  refine Ev.rounds (g := fun k => interleavelaw31_FormulaHolds.f k bs is a) ?_
  unfold interleavelaw31_FormulaHolds.f
  by_cases c : (bs.length : Int) > 200
  · exact Ev.congr (fun k => if_pos c) (Ev.bind awake_ev (Ev.now true))
  · refine Ev.congr (f := fun k => interleavelaw31_FormulaHolds.l0 k a (-(bs.length : Int) - 1) bs is) (fun k => ?_) (hold_loop bs is a h0 h1 hl (2 * bs.length + 3) _ (by omega) (by omega))
    rw [if_neg c, wrap64_id (x := -(bs.length : Int)) (by omega) (by omega), wrap64_id (x := -(bs.length : Int) - 1) (by omega) (by omega)]
end Go.Proofs.YtpaoepcebcjfhaaDoor.X
