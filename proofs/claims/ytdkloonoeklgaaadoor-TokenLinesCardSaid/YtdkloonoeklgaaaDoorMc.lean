/- Signs and prefixes, in plain words. -/
import Derived.Test.YtdkloonoeklgaaaDoorMb
import Derived.Lib.Split
namespace Go.Proofs.YtdkloonoeklgaaaDoor.X
open Go.RowKit Go.Proofs.YtdkloonoeklgaaaDoorW.PrintWords Go.Proofs.YtdkloonoeklgaaaDoorW.PrintLast Go.Proofs.YtdkloonoeklgaaaDoorW.PrintMore

theorem bytes_ext {a b : ByteArray} (h : a.data.toList = b.data.toList) : a = b := by
  cases a; cases b; simp only [ByteArray.mk.injEq]; exact Array.toList_inj.1 h
theorem hasPrefix_f (a b : ByteArray) : strings_HasPrefix.f a b = some (decide (a.data.toList.take b.size = b.data.toList)) := by
  unfold strings_HasPrefix.f stringslite_HasPrefix.f
  have e : (a.extract 0 ((b.size : Int) : Int).toNat).toList = a.data.toList.take b.size := by
    rw [Go.ByteArray.toList_eq, Lib.extract_from_zero]; simp
  by_cases h : (a.size : Int) ≥ (b.size : Int)
  · rw [if_pos h, if_pos (by omega), if_pos h, e, Go.ByteArray.toList_eq]
    simp only [Option.bind_some]
    congr 1
    rw [Bool.eq_iff_iff]; simp
  · rw [if_neg h]
    simp only [Option.bind_some]
    congr 1
    symm
    apply decide_eq_false
    intro h2
    have := congrArg List.length h2
    rw [List.length_take, size_data, size_data] at this
    omega
theorem wrap_nat (n : Nat) (h : n < 9223372036854775807) : wrap64 ((n : Int) + 1) = ((n + 1 : Nat) : Int) := by
  unfold wrap64; omega

theorem indexByte_nonneg (l : List UInt8) (c : UInt8) : 0 ≤ Lib.indexByte l c ↔ c ∈ l := by
  induction l with
  | nil => simp [Lib.indexByte]
  | cons b l ih =>
    have hge := Lib.indexByte_ge l c
    unfold Lib.indexByte
    by_cases h : b = c
    · subst h; simp
    · have hb : (b == c) = false := by simpa using h
      rw [hb]
      simp only [Bool.false_eq_true, if_false]
      by_cases h1 : Lib.indexByte l c = -1
      · rw [h1]
        simp only [beq_self_eq_true, if_true]
        constructor
        · intro h2; omega
        · intro h2
          rcases List.mem_cons.1 h2 with h3 | h3
          · exact absurd h3.symm h
          · have := ih.2 h3; omega
      · have hq : (Lib.indexByte l c == -1) = false := by simpa using h1
        rw [hq]
        simp only [Bool.false_eq_true, if_false]
        constructor
        · intro _; exact List.mem_cons_of_mem _ (ih.1 (by omega))
        · intro _; omega

theorem head_get (l : List UInt8) (h : 0 < l.length) : l[0] = l.headD 0 := by
  cases l with
  | nil => simp at h
  | cons c l => rfl

def sgnEnd (s : ByteArray) : Option ByteArray := if s.data.toList.headD 0 ∈ sgnOne then some (s.extract 0 1) else some ⟨#[]⟩

theorem sign_loop (s : ByteArray) (hs : 0 < s.size) (xs : List ByteArray) (hx : xs.length ≤ 1000) (d : Nat) : ∀ (k j : Nat), j ≤ xs.length → xs.length - j = d → d < k →
    token_sign.l0 k s xs (xs.length : Int) (j : Int) = (match (xs.drop j).find? (fun p => decide (s.data.toList.take p.size = p.data.toList)) with | some p => some p | none => sgnEnd s) := by
  induction d with
  | zero =>
    intro k j hj hd hk
    obtain ⟨k, rfl⟩ : ∃ m, k = m + 1 := ⟨k - 1, by omega⟩
    have e : j = xs.length := by omega
    subst e
    simp only [token_sign.l0]
    rw [if_neg (by omega), if_pos (by omega)]
    rw [List.drop_length]
    simp only [List.find?_nil, strings_IndexByte.f, Option.bind_some]
    have hb : bt s 0 = ((s.data.toList.headD 0).toNat : Int) := by
      have h0 := bt_data s 0 (by rw [size_data]; exact hs)
      rw [show ((0 : Nat) : Int) = 0 from rfl] at h0
      rw [h0]
      rw [head_get]
    have hc : (bt s 0).toNat.toUInt8 = s.data.toList.headD 0 := by rw [hb]; simp
    rw [hc]
    show (if Lib.indexByte sgnOne (s.data.toList.headD 0) ≥ 0 then _ else _) = _
    unfold sgnEnd
    have hm := indexByte_nonneg sgnOne (s.data.toList.headD 0)
    by_cases h : s.data.toList.headD 0 ∈ sgnOne
    · rw [if_pos h, if_pos (by have := hm.2 h; exact this)]
      rw [if_pos (by omega), if_pos (by omega)]
    · rw [if_neg h, if_neg (fun h2 => h (hm.1 h2))]
  | succ d ih =>
    intro k j hj hd hk
    obtain ⟨k, rfl⟩ : ∃ m, k = m + 1 := ⟨k - 1, by omega⟩
    have hlt : j < xs.length := by omega
    have hr : rdOf ByteArray.empty xs (j : Int) = xs[j] := by
      unfold rdOf; rw [Int.toNat_natCast]; simp [List.getD, hlt]
    simp only [token_sign.l0]
    rw [if_pos (by omega), if_pos (by omega), if_pos (by omega), hr, hasPrefix_f]
    simp only [Option.bind_some]
    rw [List.drop_eq_getElem_cons hlt, List.find?_cons]
    by_cases h : s.data.toList.take xs[j].size = xs[j].data.toList
    · rw [if_pos (decide_eq_true h), decide_eq_true h]
    · rw [if_neg (by rw [decide_eq_false h]; simp), decide_eq_false h]
      rw [wrap_nat j (by omega)]
      exact ih k (j + 1) (by omega) (by omega) (by omega)

theorem sign_f (s : ByteArray) (hs : 0 < s.size) : token_sign.f 8 s = some ⟨(sgnL s.data.toList).toArray⟩ := by
  unfold token_sign.f
  simp only [Option.bind_some]
  rw [show (0 : Int) = ((0 : Nat) : Int) from rfl, sign_loop s hs _ (by simp) _ 8 0 (by simp) rfl (by simp)]
  rw [List.drop_zero]
  generalize hl : s.data.toList = l
  unfold sgnL sgnTwo
  simp only [List.find?_cons, show (⟨#[124, 124]⟩ : ByteArray).size = 2 from rfl, show (⟨#[38, 38]⟩ : ByteArray).size = 2 from rfl, show (⟨#[61, 61]⟩ : ByteArray).size = 2 from rfl, show (⟨#[33, 61]⟩ : ByteArray).size = 2 from rfl, show (⟨#[60, 61]⟩ : ByteArray).size = 2 from rfl, show (⟨#[62, 61]⟩ : ByteArray).size = 2 from rfl]
  by_cases h1 : l.take 2 = [124, 124]
  · simp [h1]
  by_cases h2 : l.take 2 = [38, 38]
  · simp [h2]
  by_cases h3 : l.take 2 = [61, 61]
  · simp [h3]
  by_cases h4 : l.take 2 = [33, 61]
  · simp [h4]
  by_cases h5 : l.take 2 = [60, 61]
  · simp [h5]
  by_cases h6 : l.take 2 = [62, 61]
  · simp [h6]
  simp only [h1, h2, h3, h4, h5, h6, decide_false, List.find?_nil, List.mem_cons, List.not_mem_nil, or_false, if_false]
  unfold sgnEnd
  rw [hl]
  have hne : l.take 1 ≠ [] := by
    intro h
    have := congrArg List.length h
    rw [List.length_take, ← hl, size_data, List.length_nil] at this
    omega
  by_cases h : l.headD 0 ∈ sgnOne
  · rw [if_pos h, if_pos ⟨hne, h⟩]
    congr 1
    apply bytes_ext
    rw [Lib.extract_from_zero, hl]
  · rw [if_neg h, if_neg (fun h2 => h h2.2)]

theorem sgnL_len (l : List UInt8) : (sgnL l).length ≤ l.length ∧ (sgnL l).length ≤ 2 := by
  unfold sgnL
  split
  · rw [List.length_take]; omega
  · split
    · rw [List.length_take]; omega
    · simp
end Go.Proofs.YtdkloonoeklgaaaDoor.X
