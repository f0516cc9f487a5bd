/- FormulaFormats in plain terms: the reference writes the same text. -/
import Derived.Test.YtpaoepcebcjfhaaDoorPb
import Derived.Test.YtpaoepcebcjfhaaDoorXF
namespace Go.Proofs.YtpaoepcebcjfhaaDoor.X
open Go Go.RowKit Go.Proofs.YtpaoepcebcjfhaaDoorW.PrintWords Go.Proofs.YtpaoepcebcjfhaaDoorW.PrintLast Go.Proofs.YtpaoepcebcjfhaaDoorW.PrintMore
theorem wrap_next {i n : Nat} (h : i < n) (hn : n < 4611686018427387904) : wrap64 ((i : Int) + 1) = ((i + 1 : Nat) : Int) := by
  unfold wrap64
  omega
def ba (l : List UInt8) : ByteArray := ⟨l.toArray⟩
theorem ba_app (a b : List UInt8) : ba a ++ ba b = ba (a ++ b) := by
  apply ByteArray.ext
  rw [ByteArray.data_append]
  simp [ba]
theorem ba_size (a : List UInt8) : (ba a).size = a.length := rfl
theorem words_loop (w : List UInt8) (l : List Int) (hf : fitI l = true) (hl : (lineB w l).length ≤ 1000000000) :
    ∀ (n i : Nat), i + n = l.length → Ev (fun k => interleaveref31_words.l0 k (ba (w ++ (l.take i).flatMap numB)) l (l.length : Int) (i : Int)) (ba (lineB w l)) := by
  have hlen : l.length ≤ 1000000000 := Nat.le_trans (Nat.le_trans (flat_len l) (by unfold lineB; simp only [List.length_append]; omega)) hl
  intro n
  induction n with
  | zero =>
    intro i hi
    have hii : i = l.length := by omega
    subst hii
    refine Ev.step (f := fun _ => some (ba (lineB w l))) (fun k => ?_) (Ev.now _)
    have hp := part_len (bs := []) (word := w) (l := l) l.length (n := 1000000000) (by simpa using hl)
    simp only [interleaveref31_words.l0]
    rw [if_neg (by omega), if_pos (by rw [ba_size]; simp only [List.nil_append] at hp; omega)]
    congr 1
    rw [show (⟨#[10]⟩ : ByteArray) = ba [10] from rfl, ba_app, List.take_length]
    unfold lineB
    rw [List.append_assoc]
  | succ n ih =>
    intro i hi
    have hii : i < l.length := by omega
    have h1 := part_len (bs := []) (word := w) (l := l) (i + 1) (n := 1000000000) (by simpa using hl)
    rw [take_next i hii] at h1
    simp only [List.nil_append, List.length_append] at h1
    have hnum : (numB (rd l (i : Int))).length = 1 + (Lib.itoa (rd l (i : Int))).length := by unfold numB; rw [List.length_cons]; omega
    have hit : strconv_Itoa.f (rd l (i : Int)) = some (ba (Lib.itoa (rd l (i : Int)))) := by
      unfold strconv_Itoa.f
      rw [if_pos ?_]
      · rfl
      · have := fitI_get hf i hii
        unfold fitI
        simp only [List.all_cons, List.all_nil, Bool.and_true]
        exact decide_eq_true this
    have hsp : (⟨#[32]⟩ : ByteArray) ++ ba (Lib.itoa (rd l (i : Int))) = ba (numB (rd l (i : Int))) := by
      rw [show (⟨#[32]⟩ : ByteArray) = ba [32] from rfl, ba_app]
      rfl
    refine Ev.step (f := fun k => interleaveref31_words.l0 k (ba (w ++ (l.take (i + 1)).flatMap numB)) l (l.length : Int) ((i + 1 : Nat) : Int)) (fun k => ?_) (ih (i + 1) (by omega))
    simp only [interleaveref31_words.l0]
    rw [if_pos (by omega), if_pos (by omega), if_pos (by omega), hit, Option.bind_some, if_pos (by rw [ba_size]; omega), hsp, if_pos (by rw [ba_size, ba_size, List.length_append]; omega), ba_app, wrap_next hii (by omega), take_next i hii, List.append_assoc]
theorem words_ev (w : List UInt8) (l : List Int) (hf : fitI l = true) (hl : (lineB w l).length ≤ 1000000000) : Ev (fun k => interleaveref31_words.f k (ba w) l) (ba (lineB w l)) := by
  have h := words_loop w l hf hl l.length 0 (by omega)
  rw [List.take_zero, List.flatMap_nil, List.append_nil] at h
  exact h
theorem format_l1 (l3 : List (List Int)) (h3 : l3.all fitI = true) (pre : List UInt8) (hl : (pre ++ l3.flatMap (lineB fmtC)).length ≤ 1000000000) :
    ∀ (n i : Nat), i + n = l3.length → Ev (fun k => interleaveref31_Format.l1 k (ba (pre ++ (l3.take i).flatMap (lineB fmtC))) l3 (l3.length : Int) (i : Int)) (ba (pre ++ l3.flatMap (lineB fmtC))) := by
  have hlen : l3.length ≤ 1000000000 := by
    have h1 := some_len (lineB fmtC) (fun x => by unfold lineB; simp; omega) l3
    simp only [List.length_append] at hl
    omega
  intro n
  induction n with
  | zero =>
    intro i hi
    have hii : i = l3.length := by omega
    subst hii
    refine Ev.step (f := fun _ => some (ba (pre ++ l3.flatMap (lineB fmtC)))) (fun k => ?_) (Ev.now _)
    simp only [interleaveref31_Format.l1]
    rw [if_neg (by omega), List.take_length]
  | succ n ih =>
    intro i hi
    have hii : i < l3.length := by omega
    have e1 : l3.flatMap (lineB fmtC) = (l3.take (i + 1)).flatMap (lineB fmtC) ++ (l3.drop (i + 1)).flatMap (lineB fmtC) := by rw [← List.flatMap_append, List.take_append_drop]
    have hl2 := hl
    rw [e1, clauses_next l3 i hii] at hl2
    simp only [List.length_append] at hl2
    refine Ev.step (f := fun k => (interleaveref31_words.f k (ba fmtC) (rd_L2 l3 (i : Int))).bind fun t183 => (if (ba (pre ++ (l3.take i).flatMap (lineB fmtC))).size + t183.size ≤ 9223372036854775807 then (interleaveref31_Format.l1 k (ba (pre ++ (l3.take i).flatMap (lineB fmtC)) ++ t183) l3 (l3.length : Int) ((i + 1 : Nat) : Int)) else (none))) (fun k => ?_) ?_
    · simp only [interleaveref31_Format.l1]
      rw [if_pos (by omega), if_pos (by omega), if_pos (by omega), wrap_next hii (by omega)]
      rfl
    · refine Ev.bind (words_ev fmtC (rd_L2 l3 (i : Int)) (all_get3 h3 i hii) (by omega)) ?_
      refine Ev.congr (f := fun k => interleaveref31_Format.l1 k (ba (pre ++ (l3.take (i + 1)).flatMap (lineB fmtC))) l3 (l3.length : Int) ((i + 1 : Nat) : Int)) (fun k => ?_) (ih (i + 1) (by omega))
      rw [if_pos (by rw [ba_size, ba_size, List.length_append]; omega), ba_app, clauses_next l3 i hii, List.append_assoc]
theorem format_l0 (a b : Int) (l2 : List S36) (l3 : List (List Int)) (h2 : (l2.all fun d => fitI [d.f0, d.f1, d.f2]) = true) (h3 : l3.all fitI = true) (pre : List UInt8) (hl : (pre ++ (l2.flatMap atomB ++ l3.flatMap (lineB fmtC))).length ≤ 1000000000) :
    ∀ (n i : Nat), i + n = l2.length → Ev (fun k => interleaveref31_Format.l0 k (ba (pre ++ (l2.take i).flatMap atomB)) l2 (l2.length : Int) (i : Int) a b l2 l3) (ba (pre ++ (l2.flatMap atomB ++ l3.flatMap (lineB fmtC)))) := by
  have hlen : l2.length ≤ 1000000000 := by
    have h1 := some_len atomB (fun x => by unfold atomB lineB; simp; omega) l2
    simp only [List.length_append] at hl
    omega
  intro n
  induction n with
  | zero =>
    intro i hi
    have hii : i = l2.length := by omega
    subst hii
    have hl1 := format_l1 l3 h3 (pre ++ l2.flatMap atomB) (by rw [List.append_assoc]; exact hl) l3.length 0 (by omega)
    rw [List.take_zero, List.flatMap_nil, List.append_nil, List.append_assoc] at hl1
    refine Ev.step (f := fun k => interleaveref31_Format.l1 k (ba (pre ++ l2.flatMap atomB)) l3 (l3.length : Int) ((0 : Nat) : Int)) (fun k => ?_) hl1
    simp only [interleaveref31_Format.l0]
    rw [if_neg (by omega), List.take_length]
    rfl
  | succ n ih =>
    intro i hi
    have hii : i < l2.length := by omega
    have e1 : l2.flatMap atomB = (l2.take (i + 1)).flatMap atomB ++ (l2.drop (i + 1)).flatMap atomB := by rw [← List.flatMap_append, List.take_append_drop]
    have hl2 := hl
    rw [e1, atoms_next l2 i hii] at hl2
    simp only [List.length_append] at hl2
    refine Ev.step (f := fun k => (interleaveref31_words.f k (ba fmtA) [(rd_T36 l2 (i : Int)).f0, (rd_T36 l2 (i : Int)).f1, (rd_T36 l2 (i : Int)).f2]).bind fun t181 => (if (ba (pre ++ (l2.take i).flatMap atomB)).size + t181.size ≤ 9223372036854775807 then (interleaveref31_Format.l0 k (ba (pre ++ (l2.take i).flatMap atomB) ++ t181) l2 (l2.length : Int) ((i + 1 : Nat) : Int) a b l2 l3) else (none))) (fun k => ?_) ?_
    · simp only [interleaveref31_Format.l0]
      rw [if_pos (by omega), if_pos (by omega), if_pos (by omega), wrap_next hii (by omega)]
      rfl
    · refine Ev.bind (words_ev fmtA _ (all_get h2 i hii) (by omega)) ?_
      refine Ev.congr (f := fun k => interleaveref31_Format.l0 k (ba (pre ++ (l2.take (i + 1)).flatMap atomB)) l2 (l2.length : Int) ((i + 1 : Nat) : Int) a b l2 l3) (fun k => ?_) (ih (i + 1) (by omega))
      rw [if_pos (by rw [ba_size, ba_size, List.length_append]; omega), ba_app, atoms_next l2 i hii, List.append_assoc]
theorem refFormat_ev (a b : Int) (l2 : List S36) (l3 : List (List Int)) (h0 : fitI [a, b] = true) (h2 : (l2.all fun d => fitI [d.f0, d.f1, d.f2]) = true) (h3 : l3.all fitI = true) (hl : (fmtB a b l2 l3).length ≤ 1000000000) :
    Ev (fun k => interleaveref31_Format.f k a b l2 l3) (ba (fmtB a b l2 l3)) := by
  have hl1 := hl
  unfold fmtB at hl1
  have h := format_l0 a b l2 l3 h2 h3 (lineB fmtH [a, b]) hl1 l2.length 0 (by omega)
  rw [List.take_zero, List.flatMap_nil, List.append_nil] at h
  exact Ev.bind (words_ev fmtH [a, b] h0 (by simp only [List.length_append] at hl1; omega)) h
end Go.Proofs.YtpaoepcebcjfhaaDoor.X
