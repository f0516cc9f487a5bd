/- FormulaClauses in plain terms: the limit on the number of clauses. -/
import Derived.Test.YtpaoepcebcjfhaaDoorPc
import Derived.Test.YtpaoepcebcjfhaaDoorX15
namespace Go.Proofs.YtpaoepcebcjfhaaDoor.X
open Go Go.RowKit Go.Proofs.YtpaoepcebcjfhaaDoorW.PrintWords Go.Proofs.YtpaoepcebcjfhaaDoorW.PrintLast Go.Proofs.YtpaoepcebcjfhaaDoorW.PrintMore
theorem empty_l1 (n : Nat) (hn : n < 4611686018427387904) : ∀ (m i : Nat), i + m = n → Ev (fun k => formula_Valid.l1 k (List.replicate n ([] : List Int)) ((List.replicate n ([] : List Int)).length : Int) (i : Int) 0 0 [] (List.replicate n ([] : List Int))) 0 := by
  intro m
  induction m with
  | zero =>
    intro i hi
    refine Ev.step (f := fun _ => some 0) (fun k => ?_) (Ev.now _)
    simp only [formula_Valid.l1, List.length_replicate]
    rw [if_neg (by omega)]
  | succ m ih =>
    intro i hi
    have hr : rd_L2 (List.replicate n ([] : List Int)) (i : Int) = [] := by
      unfold rd_L2
      rw [Int.toNat_natCast, List.getD_eq_getElem?_getD, List.getElem?_replicate, if_pos (by omega)]
      rfl
    refine Ev.step (f := fun k => formula_Valid.l2 k (List.replicate n ([] : List Int)) ((List.replicate n ([] : List Int)).length : Int) (i : Int) [] 0 0 0 0 [] (List.replicate n ([] : List Int))) (fun k => ?_) ?_
    · simp only [formula_Valid.l1]
      rw [if_pos (by rw [List.length_replicate]; omega), if_pos (by omega), if_pos (by rw [List.length_replicate]; omega), hr]
      rfl
    · refine Ev.step (f := fun k => formula_Valid.l1 k (List.replicate n ([] : List Int)) ((List.replicate n ([] : List Int)).length : Int) ((i + 1 : Nat) : Int) 0 0 [] (List.replicate n ([] : List Int))) (fun k => ?_) (ih (i + 1) (by omega))
      simp only [formula_Valid.l2]
      rw [if_neg (by omega), wrap_succ (show i < n by omega) hn]
theorem clauses_ok : Ev (fun k => formula_Valid.f k 0 0 [] (List.replicate 32768 ([] : List Int))) 0 := by
  unfold formula_Valid.f
  refine Ev.congr (f := fun k => formula_Valid.j0 k false 0 0 [] (List.replicate 32768 ([] : List Int))) (fun k => ?_) ?_
  · rw [if_neg (by omega), if_neg (by omega), List.length_replicate, decide_eq_false (by omega)]
  · refine Ev.step (f := fun k => formula_Valid.j1 k false 0 0 [] (List.replicate 32768 ([] : List Int))) (fun k => ?_) ?_
    · simp only [formula_Valid.j0]
      rw [if_neg (by decide), if_neg (by omega), if_neg (by omega), List.length_nil, decide_eq_false (by omega)]
    · refine Ev.step (f := fun k => formula_Valid.l0 k [] 0 0 0 0 [] (List.replicate 32768 ([] : List Int))) (fun k => ?_) ?_
      · simp only [formula_Valid.j1]
        rw [if_neg (by decide)]
        rfl
      · refine Ev.step (f := fun k => formula_Valid.l1 k (List.replicate 32768 ([] : List Int)) ((List.replicate 32768 ([] : List Int)).length : Int) ((0 : Nat) : Int) 0 0 [] (List.replicate 32768 ([] : List Int))) (fun k => ?_) (empty_l1 32768 (by omega) 32768 0 (by omega))
        simp only [formula_Valid.l0]
        rw [if_neg (by omega)]
        rfl
theorem clauses_over : Ev (fun k => formula_Valid.f k 0 0 [] (List.replicate 32769 ([] : List Int))) 2 := by
  unfold formula_Valid.f
  refine Ev.congr (f := fun k => formula_Valid.j0 k true 0 0 [] (List.replicate 32769 ([] : List Int))) (fun k => ?_) ?_
  · rw [if_neg (by omega), if_neg (by omega), List.length_replicate, decide_eq_true (by omega)]
  · refine Ev.step (f := fun _ => some 2) (fun k => ?_) (Ev.now _)
    simp only [formula_Valid.j0]
    rw [if_pos (by decide)]
theorem clauses_ev (a0 : Bool) : Ev (fun k => interleavelaw31_FormulaClauses.f k a0) true := by
  have hA : Ev (fun k => (interleavelaw31_awake.f k).bind fun t => some t) true := Ev.bind awake_ev (Ev.now true)
  unfold interleavelaw31_FormulaClauses.f
  cases a0 with
  | true =>
    refine Ev.congr (f := fun k => (formula_Valid.f k 0 0 [] (List.replicate 32769 ([] : List Int))).bind fun t => if t = 2 then ((interleavelaw31_awake.f k).bind fun t => some t) else some false) (fun k => ?_) (Ev.bind clauses_over (Ev.congr (fun k => if_pos rfl) hA))
    rw [if_pos rfl, if_pos (by omega), if_pos (by decide)]
    rfl
  | false =>
    refine Ev.congr (f := fun k => (formula_Valid.f k 0 0 [] (List.replicate 32768 ([] : List Int))).bind fun t => if t = 0 then ((interleavelaw31_awake.f k).bind fun t => some t) else some false) (fun k => ?_) (Ev.bind clauses_ok (Ev.congr (fun k => if_pos rfl) hA))
    rw [if_neg (by decide), if_pos (by omega)]
theorem pureClauses : interleavelaw31_FormulaClauses.Pure := fun a0 => (clauses_ev a0).rounds
end Go.Proofs.YtpaoepcebcjfhaaDoor.X
