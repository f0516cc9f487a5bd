/- FormulaFormats in plain terms: a formula that is not large has a short text, and both write it. -/
import Derived.Test.YtpaoepcebcjfhaaDoorPdFormats
import Derived.Lib.ItoaLen
namespace Go.Proofs.YtpaoepcebcjfhaaDoor.X
open Go Go.RowKit Go.Proofs.YtpaoepcebcjfhaaDoorW.PrintWords Go.Proofs.YtpaoepcebcjfhaaDoorW.PrintLast Go.Proofs.YtpaoepcebcjfhaaDoorW.PrintMore
def sumL (l : List (List Int)) : Nat := (l.map List.length).sum
theorem large_val (a b : Int) (l2 : List S36) (l3 : List (List Int)) (hl : l3.length < 140737488355328) (hu : ∀ u ∈ l3, u.length < 140737488355328) : ∀ (n i : Nat) (s : Int), i + n = l3.length → 0 ≤ s → s ≤ 562949953421312 → ∃ r, Ev (fun k => interleavelaw31_large.l0 k s (i : Int) a b l2 l3) r ∧ (r = false → s + (sumL (l3.drop i) : Int) ≤ 2000) := by
  intro n
  induction n with
  | zero =>
    intro i s hi h0 h1
    refine ⟨decide (s > 2000), Ev.step (f := fun _ => some (decide (s > 2000))) (fun k => ?_) (Ev.now _), fun h => ?_⟩
    · simp only [interleavelaw31_large.l0]
      rw [if_neg (by omega)]
    · have h := of_decide_eq_false h
      rw [List.drop_of_length_le (by omega)]
      show s + ((0 : Nat) : Int) ≤ 2000
      omega
  | succ n ih =>
    intro i s hi h0 h1
    have hii : i < l3.length := by omega
    by_cases c : s < 1048576
    · have hr : rd_L2 l3 (i : Int) = l3[i] := by
        unfold rd_L2
        rw [Int.toNat_natCast, List.getD_eq_getElem?_getD, List.getElem?_eq_getElem hii]
        rfl
      have hlen : (rd_L2 l3 (i : Int)).length < 140737488355328 := by rw [hr]; exact hu _ (List.getElem_mem hii)
      have hw : wrap64 (s + ((rd_L2 l3 (i : Int)).length : Int)) = s + ((rd_L2 l3 (i : Int)).length : Int) := by
        unfold wrap64
        omega
      obtain ⟨r, hr1, hr2⟩ := ih (i + 1) (s + ((rd_L2 l3 (i : Int)).length : Int)) (by omega) (by omega) (by omega)
      refine ⟨r, Ev.step (f := fun k => interleavelaw31_large.l0 k (s + ((rd_L2 l3 (i : Int)).length : Int)) ((i + 1 : Nat) : Int) a b l2 l3) (fun k => ?_) hr1, fun h => ?_⟩
      · simp only [interleavelaw31_large.l0]
        rw [if_pos (by omega), if_pos c, if_pos (by omega), hw, wrap_next hii (by omega)]
      · have h2 := hr2 h
        have h3 : sumL (l3.drop i) = (rd_L2 l3 (i : Int)).length + sumL (l3.drop (i + 1)) := by
          rw [List.drop_eq_getElem_cons hii, hr]
          unfold sumL
          rw [List.map_cons, List.sum_cons]
        omega
    · refine ⟨decide (s > 2000), Ev.step (f := fun _ => some (decide (s > 2000))) (fun k => ?_) (Ev.now _), fun h => ?_⟩
      · simp only [interleavelaw31_large.l0]
        rw [if_pos (by omega), if_neg c]
      · have h := of_decide_eq_false h
        omega
theorem numB_len (n : Int) (h : -9223372036854775808 ≤ n ∧ n ≤ 9223372036854775807) : (numB n).length ≤ 22 := by
  have := Lib.itoa_length_le n h.1 h.2
  unfold numB
  rw [List.length_cons]
  omega
theorem nums_len (l : List Int) (h : fitI l = true) : (l.flatMap numB).length ≤ 22 * l.length := by
  induction l with
  | nil => simp
  | cons a t ih =>
    unfold fitI at h
    rw [List.all_cons, Bool.and_eq_true] at h
    have h1 := numB_len a (of_decide_eq_true h.1)
    have h2 := ih h.2
    rw [List.flatMap_cons, List.length_append, List.length_cons]
    omega
theorem line_len (w : List UInt8) (l : List Int) (h : fitI l = true) : (lineB w l).length ≤ w.length + 22 * l.length + 1 := by
  have := nums_len l h
  unfold lineB
  simp only [List.length_append, List.length_singleton]
  omega
theorem atoms_len2 (l2 : List S36) (h : (l2.all fun d => fitI [d.f0, d.f1, d.f2]) = true) : (l2.flatMap atomB).length ≤ 71 * l2.length := by
  induction l2 with
  | nil => simp
  | cons a t ih =>
    rw [List.all_cons, Bool.and_eq_true] at h
    have h1 := line_len fmtA [a.f0, a.f1, a.f2] h.1
    have h2 := ih h.2
    have h3 : fmtA.length = 4 := rfl
    rw [List.flatMap_cons, List.length_append, List.length_cons]
    simp only [List.length_cons, List.length_nil] at h1
    unfold atomB at h2 ⊢
    omega
theorem clauses_len2 (l3 : List (List Int)) (h : l3.all fitI = true) : (l3.flatMap (lineB fmtC)).length ≤ 7 * l3.length + 22 * sumL l3 := by
  induction l3 with
  | nil => simp
  | cons a t ih =>
    rw [List.all_cons, Bool.and_eq_true] at h
    have h1 := line_len fmtC a h.1
    have h2 := ih h.2
    have h3 : fmtC.length = 6 := rfl
    have h4 : sumL (a :: t) = a.length + sumL t := by unfold sumL; rw [List.map_cons, List.sum_cons]
    rw [List.flatMap_cons, List.length_append, List.length_cons, h4]
    omega
theorem fmt_len (a b : Int) (l2 : List S36) (l3 : List (List Int)) (h0 : fitI [a, b] = true) (h2 : (l2.all fun d => fitI [d.f0, d.f1, d.f2]) = true) (h3 : l3.all fitI = true) (hs : l2.length + l3.length + sumL l3 ≤ 2000) : (fmtB a b l2 l3).length ≤ 1000000 := by
  have q0 := line_len fmtH [a, b] h0
  have q2 := atoms_len2 l2 h2
  have q3 := clauses_len2 l3 h3
  have q4 : fmtH.length = 7 := rfl
  simp only [List.length_cons, List.length_nil] at q0
  unfold fmtB
  simp only [List.length_append]
  omega
theorem formatsLaw (a b : Int) (l2 : List S36) (l3 : List (List Int)) (h0 : fitI [a, b] = true) (h2 : (l2.all fun d => fitI [d.f0, d.f1, d.f2]) = true) (h3 : l3.all fitI = true) (hl2 : l2.length < 140737488355328) (hl : l3.length < 140737488355328) (hu : ∀ u ∈ l3, u.length < 140737488355328) :
    ∃ k, interleavelaw31_FormulaFormats.f k a b l2 l3 = some true := by
  have hA : Ev (fun k => (interleavelaw31_awake.f k).bind fun t => some t) true := Ev.bind awake_ev (Ev.now true)
  refine Ev.rounds (g := fun k => interleavelaw31_FormulaFormats.f k a b l2 l3) ?_
  have hw : wrap64 ((l2.length : Int) + (l3.length : Int)) = (l2.length : Int) + (l3.length : Int) := by
    unfold wrap64
    omega
  obtain ⟨r, hr1, hr2⟩ := large_val a b l2 l3 hl hu l3.length 0 ((l2.length : Int) + (l3.length : Int)) (by omega) (by omega) (by omega)
  have hr : Ev (fun k => interleavelaw31_large.f k a b l2 l3) r := by
    unfold interleavelaw31_large.f
    rw [hw]
    exact hr1
  unfold interleavelaw31_FormulaFormats.f
  refine Ev.bind hr ?_
  by_cases c : r = true
  · exact Ev.congr (fun k => if_pos c) hA
  · refine Ev.congr (fun k => if_neg c) ?_
    have h4 := hr2 (by simpa using c)
    rw [List.drop_zero] at h4
    have h5 := fmt_len a b l2 l3 h0 h2 h3 (by omega)
    have hf : formula_Format.f a b l2 l3 = some (ba (fmtB a b l2 l3)) := by
      unfold formula_Format.f
      rw [if_pos ?_]
      · rfl
      · unfold fmtOk
        rw [h0, h2, h3, decide_eq_true (by omega)]
        rfl
    rw [hf]
    simp only [Option.bind_some]
    refine Ev.bind (refFormat_ev a b l2 l3 h0 h2 h3 (by omega)) ?_
    exact Ev.congr (fun k => if_pos rfl) hA
end Go.Proofs.YtpaoepcebcjfhaaDoor.X
