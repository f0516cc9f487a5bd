/- ProofFormats in plain terms: steps that aren't large have a short text, and both write it. -/
import Derived.Test.YtppbnjmhkifdaaaDoorPa
import Derived.Test.YtppbnjmhkifdaaaDoorX7
import Derived.Lib.ItoaLen
namespace Go.Proofs.YtppbnjmhkifdaaaDoor.X
open Go Go.RowKit Go.Proofs.YtppbnjmhkifdaaaDoorW.PrintWords Go.Proofs.YtppbnjmhkifdaaaDoorW.PrintLast Go.Proofs.YtppbnjmhkifdaaaDoorW.PrintMore
def ba (l : List UInt8) : ByteArray := ⟨l.toArray⟩
theorem ba_app (a b : List UInt8) : ba a ++ ba b = ba (a ++ b) := by
  apply ByteArray.ext
  rw [ByteArray.data_append]
  simp [ba]
theorem ba_size (a : List UInt8) : (ba a).size = a.length := rfl
theorem words_loop (w : List UInt8) (l : List Int) (hf : fitI l = true) (hl : (lineB w l).length ≤ 1000000000) :
    ∀ (n i : Nat), i + n = l.length → Ev (fun k => interleaveref31_words.l0 k (ba (w ++ (l.take i).flatMap numB)) l (l.length : Int) (i : Int)) (ba (lineB w l)) := by
  have hlen : l.length ≤ 1000000000 := Nat.le_trans (Nat.le_trans (flat_len l) (by unfold lineB; simp only [List.length_append]; omega)) hl
  intro n
  induction n with
  | zero =>
    intro i hi
    have hii : i = l.length := by omega
    subst hii
    refine Ev.step (f := fun _ => some (ba (lineB w l))) (fun k => ?_) (Ev.now _)
    have hp := part_len (bs := []) (word := w) (l := l) l.length (n := 1000000000) (by simpa using hl)
    simp only [interleaveref31_words.l0]
    rw [if_neg (by omega), if_pos (by rw [ba_size]; simp only [List.nil_append] at hp; omega)]
    congr 1
    rw [show (⟨#[10]⟩ : ByteArray) = ba [10] from rfl, ba_app, List.take_length]
    unfold lineB
    rw [List.append_assoc]
  | succ n ih =>
    intro i hi
    have hii : i < l.length := by omega
    have h1 := part_len (bs := []) (word := w) (l := l) (i + 1) (n := 1000000000) (by simpa using hl)
    rw [take_next i hii] at h1
    simp only [List.nil_append, List.length_append] at h1
    have hnum : (numB (rd l (i : Int))).length = 1 + (Lib.itoa (rd l (i : Int))).length := by unfold numB; rw [List.length_cons]; omega
    have hit : strconv_Itoa.f (rd l (i : Int)) = some (ba (Lib.itoa (rd l (i : Int)))) := by
      unfold strconv_Itoa.f
      rw [if_pos ?_]
      · rfl
      · have := fitI_get hf i hii
        unfold fitI
        simp only [List.all_cons, List.all_nil, Bool.and_true]
        exact decide_eq_true this
    have hsp : (⟨#[32]⟩ : ByteArray) ++ ba (Lib.itoa (rd l (i : Int))) = ba (numB (rd l (i : Int))) := by
      rw [show (⟨#[32]⟩ : ByteArray) = ba [32] from rfl, ba_app]
      rfl
    refine Ev.step (f := fun k => interleaveref31_words.l0 k (ba (w ++ (l.take (i + 1)).flatMap numB)) l (l.length : Int) ((i + 1 : Nat) : Int)) (fun k => ?_) (ih (i + 1) (by omega))
    simp only [interleaveref31_words.l0]
    rw [if_pos (by omega), if_pos (by omega), if_pos (by omega), hit, Option.bind_some, if_pos (by rw [ba_size]; omega), hsp, if_pos (by rw [ba_size, ba_size, List.length_append]; omega), ba_app, wrapn hii (by omega), take_next i hii, List.append_assoc]
theorem words_ev (w : List UInt8) (l : List Int) (hf : fitI l = true) (hl : (lineB w l).length ≤ 1000000000) : Ev (fun k => interleaveref31_words.f k (ba w) l) (ba (lineB w l)) := by
  have h := words_loop w l hf hl l.length 0 (by omega)
  rw [List.take_zero, List.flatMap_nil, List.append_nil] at h
  exact h
theorem numB_len (n : Int) (h : -9223372036854775808 ≤ n ∧ n ≤ 9223372036854775807) : (numB n).length ≤ 22 := by
  have := Lib.itoa_length_le n h.1 h.2
  unfold numB
  rw [List.length_cons]
  omega
theorem nums_len (l : List Int) (h : fitI l = true) : (l.flatMap numB).length ≤ 22 * l.length := by
  induction l with
  | nil => simp
  | cons a t ih =>
    unfold fitI at h
    rw [List.all_cons, Bool.and_eq_true] at h
    have h1 := numB_len a (of_decide_eq_true h.1)
    have h2 := ih h.2
    rw [List.flatMap_cons, List.length_append, List.length_cons]
    omega
theorem line_len (w : List UInt8) (l : List Int) (h : fitI l = true) : (lineB w l).length ≤ w.length + 22 * l.length + 1 := by
  have := nums_len l h
  unfold lineB
  simp only [List.length_append, List.length_singleton]
  omega
/-- All numbers of a step are in range. -/
def okW (s : S28) : Prop := fitI [s.f0, s.f1, s.f3, s.f4, s.f5] = true ∧ fitI s.f2 = true
theorem fit_step {s : S28} (h : okW s) : fitI (stepN s) = true := by
  obtain ⟨h1, h2⟩ := h
  unfold fitI at h1
  simp only [List.all_cons, List.all_nil, Bool.and_true, Bool.and_eq_true] at h1
  obtain ⟨a0, a1, a3, a4, a5⟩ := h1
  unfold stepN
  split
  · unfold fitI
    simp only [List.all_cons, List.all_nil, Bool.and_true]
    exact a1
  · split
    · exact h2
    · split
      · unfold fitI
        simp only [List.all_cons, List.all_nil, Bool.and_true, Bool.and_eq_true]
        exact ⟨a3, a4, a5⟩
      · unfold fitI
        simp only [List.all_cons, List.all_nil, Bool.and_true]
        exact a0
theorem stepN_len {s : S28} (h : s.f2.length ≤ 200) : (stepN s).length ≤ 200 := by
  unfold stepN
  split
  · simp
  · split
    · exact h
    · split
      · simp
      · simp
theorem stepW_len (s : S28) : (stepW s).length ≤ 7 := by
  unfold stepW
  split
  · decide
  · split
    · decide
    · split <;> decide
theorem step_len {s : S28} (h : okW s) (hl : s.f2.length ≤ 200) : (stepB s).length ≤ 5000 := by
  have h1 := line_len (stepW s) (stepN s) (fit_step h)
  have h2 := stepN_len hl
  have h3 := stepW_len s
  unfold stepB
  omega
theorem fmt_len (l : List S28) (h : ∀ s ∈ l, okW s ∧ s.f2.length ≤ 200) : (fmtB l).length ≤ 5000 * l.length := by
  unfold fmtB
  induction l with
  | nil => simp
  | cons a t ih =>
    have h1 := step_len (h a List.mem_cons_self).1 (h a List.mem_cons_self).2
    have h2 := ih fun s hs => h s (List.mem_cons_of_mem _ hs)
    rw [List.flatMap_cons, List.length_append, List.length_cons]
    omega
theorem fmtSteps_l0 (l : List S28) (h : ∀ s ∈ l, okW s) (hl : (fmtB l).length ≤ 1000000000) (hlen : l.length ≤ 1000000) :
    ∀ (n i : Nat), i + n = l.length → Ev (fun k => interleaveref31_FormatSteps.l0 k (ba ((l.take i).flatMap stepB)) l (l.length : Int) (i : Int)) (ba (fmtB l)) := by
  intro n
  induction n with
  | zero =>
    intro i hi
    refine Ev.step (f := fun _ => some (ba (fmtB l))) (fun k => ?_) (Ev.now _)
    simp only [interleaveref31_FormatSteps.l0]
    rw [if_neg (by omega), List.take_of_length_le (by omega)]
    rfl
  | succ n ih =>
    intro i hi
    have hii : i < l.length := by omega
    have hm := rd28_mem i hii
    have hp := steps_pre l i hii hl
    rw [List.length_append] at hp
    have hw := words_ev (stepW (rd_T28 l (i : Int))) (stepN (rd_T28 l (i : Int))) (fit_step (h _ hm)) (by unfold stepB at hp; omega)
    have tail : ∀ g : Nat → Option ByteArray, Ev g (ba (stepB (rd_T28 l (i : Int)))) → Ev (fun k => (g k).bind fun t => (if (ba ((l.take i).flatMap stepB)).size + t.size ≤ 9223372036854775807 then (interleaveref31_FormatSteps.l0 k (ba ((l.take i).flatMap stepB) ++ t) l (l.length : Int) (wrap64 ((i : Int) + 1))) else (none))) (ba (fmtB l)) := by
      intro g hg
      refine Ev.bind hg (Ev.congr (fun k => if_pos (by rw [ba_size, ba_size]; omega)) ?_)
      rw [ba_app, ← steps_next l i hii, wrapn hii (by omega)]
      exact ih (i + 1) (by omega)
    have hs : Ev (fun k => interleaveref31_words.f k (ba (stepW (rd_T28 l (i : Int)))) (stepN (rd_T28 l (i : Int)))) (ba (stepB (rd_T28 l (i : Int)))) := hw
    have hT := tail _ hs
    by_cases d1 : (rd_T28 l (i : Int)).f0 = 1
    · rw [show stepW (rd_T28 l (i : Int)) = wdI by unfold stepW; rw [if_pos d1], show stepN (rd_T28 l (i : Int)) = [(rd_T28 l (i : Int)).f1] by unfold stepN; rw [if_pos d1]] at hT
      refine Ev.step (fun k => ?_) hT
      simp only [interleaveref31_FormatSteps.l0]
      rw [if_pos (by omega), if_pos (by omega), if_pos (by omega), if_pos d1]
      rfl
    by_cases d2 : (rd_T28 l (i : Int)).f0 = 2
    · rw [show stepW (rd_T28 l (i : Int)) = wdC by unfold stepW; rw [if_neg d1, if_pos d2], show stepN (rd_T28 l (i : Int)) = (rd_T28 l (i : Int)).f2 by unfold stepN; rw [if_neg d1, if_pos d2]] at hT
      refine Ev.step (fun k => ?_) hT
      simp only [interleaveref31_FormatSteps.l0]
      rw [if_pos (by omega), if_pos (by omega), if_pos (by omega), if_neg d1, if_pos d2]
      rfl
    by_cases d3 : (rd_T28 l (i : Int)).f0 = 3
    · rw [show stepW (rd_T28 l (i : Int)) = wdR by unfold stepW; rw [if_neg d1, if_neg d2, if_pos d3], show stepN (rd_T28 l (i : Int)) = [(rd_T28 l (i : Int)).f3, (rd_T28 l (i : Int)).f4, (rd_T28 l (i : Int)).f5] by unfold stepN; rw [if_neg d1, if_neg d2, if_pos d3]] at hT
      refine Ev.step (fun k => ?_) hT
      simp only [interleaveref31_FormatSteps.l0]
      rw [if_pos (by omega), if_pos (by omega), if_pos (by omega), if_neg d1, if_neg d2, if_pos d3]
      rfl
    · rw [show stepW (rd_T28 l (i : Int)) = wdS by unfold stepW; rw [if_neg d1, if_neg d2, if_neg d3], show stepN (rd_T28 l (i : Int)) = [(rd_T28 l (i : Int)).f0] by unfold stepN; rw [if_neg d1, if_neg d2, if_neg d3]] at hT
      refine Ev.step (fun k => ?_) hT
      simp only [interleaveref31_FormatSteps.l0]
      rw [if_pos (by omega), if_pos (by omega), if_pos (by omega), if_neg d1, if_neg d2, if_neg d3]
      rfl
theorem large_val (l : List S28) (hl : l.length < 140737488355328) (hs : ∀ s ∈ l, s.f2.length < 140737488355328) : ∀ (n i : Nat) (s : Int), i + n = l.length → 0 ≤ s → s < 4611686018427387904 →
    ∃ r, Ev (fun k => interleavelaw33_large.l0 k l s (i : Int)) r ∧ (r = false → s ≤ 200 ∧ ∀ j (h : j < l.length), i ≤ j → (l[j].f2.length : Int) ≤ 200) := by
  intro n
  induction n with
  | zero =>
    intro i s hi h0 h1
    refine ⟨_, Ev.step (f := fun _ => some (decide (s > 200))) (fun k => ?_) (Ev.now _), fun h => ⟨by have := of_decide_eq_false h; omega, fun j hj hij => absurd hij (by omega)⟩⟩
    simp only [interleavelaw33_large.l0]
    rw [if_neg (by omega)]
  | succ n ih =>
    intro i s hi h0 h1
    have hi' : i < l.length := by omega
    by_cases c : s < 1000
    · have hx := hs _ (List.getElem_mem hi')
      have ew : wrap64 (s + (l[i].f2.length : Int)) = s + (l[i].f2.length : Int) := wrap64_id (by omega) (by omega)
      obtain ⟨r, e, p⟩ := ih (i + 1) (s + (l[i].f2.length : Int)) (by omega) (by omega) (by omega)
      refine ⟨r, Ev.step (fun k => ?_) e, fun hr => ?_⟩
      · simp only [interleavelaw33_large.l0]
        rw [if_pos (by omega), if_pos c, if_pos (by omega), rdT_get hi', ew, wrapn hi' (by omega)]
      · obtain ⟨p1, p2⟩ := p hr
        refine ⟨by omega, fun j hj hij => ?_⟩
        by_cases d : j = i
        · subst d
          omega
        · exact p2 j hj (by omega)
    · refine ⟨_, Ev.step (f := fun _ => some (decide (s > 200))) (fun k => ?_) (Ev.now _), fun h => absurd h (by rw [decide_eq_true (by omega)]; decide)⟩
      simp only [interleavelaw33_large.l0]
      rw [if_pos (by omega), if_neg c]
/-- ProofFormats answers true. -/
theorem formatsLaw (l : List S28) (hl : l.length < 140737488355328) (hs : ∀ s ∈ l, s.f2.length < 140737488355328 ∧ okW s) : ∃ k, interleavelaw33_ProofFormats.f k l = some true := by
  refine Ev.rounds (g := fun k => interleavelaw33_ProofFormats.f k l) ?_
  have hA : Ev (fun k => (interleavelaw33_awake.f k).bind fun t => some t) true := Ev.bind awake_ev (Ev.now true)
  obtain ⟨r, e, p⟩ := large_val l hl (fun s h => (hs s h).1) l.length 0 (l.length : Int) (by omega) (by omega) (by omega)
  unfold interleavelaw33_ProofFormats.f
  refine Ev.bind (a := r) e ?_
  cases r with
  | true => exact Ev.congr (fun k => if_pos rfl) hA
  | false =>
    obtain ⟨p1, p2⟩ := p rfl
    have hok : ∀ s ∈ l, okW s ∧ s.f2.length ≤ 200 := by
      intro s hm
      obtain ⟨j, hj, ej⟩ := List.getElem_of_mem hm
      have := p2 j hj (by omega)
      rw [ej] at this
      exact ⟨(hs s hm).2, by omega⟩
    have h5 := fmt_len l hok
    refine Ev.congr (fun k => if_neg (by decide)) ?_
    have hf : proof_Format.f l = some (ba (fmtB l)) := by
      unfold proof_Format.f
      rw [if_pos ?_]
      · rfl
      · unfold fmtOk
        rw [decide_eq_true (by omega), Bool.and_true]
        exact List.all_eq_true.2 fun s hm => fit_step (hok s hm).1
    rw [hf]
    simp only [Option.bind_some]
    have h6 := fmtSteps_l0 l (fun s hm => (hok s hm).1) (by omega) (by omega) l.length 0 (by omega)
    refine Ev.bind (a := ba (fmtB l)) h6 ?_
    exact Ev.congr (fun k => if_pos rfl) hA
end Go.Proofs.YtppbnjmhkifdaaaDoor.X
