/- Blanks and comments: skip in plain words. -/
import Derived.Test.YtdkloonoeklgaaaDoorMc
import Derived.Lib.IndexBytes
namespace Go.Proofs.YtdkloonoeklgaaaDoor.X
open Go.RowKit Go.Proofs.YtdkloonoeklgaaaDoorW.PrintWords Go.Proofs.YtdkloonoeklgaaaDoorW.PrintLast Go.Proofs.YtdkloonoeklgaaaDoorW.PrintMore

/-- Behind blanks and comments (true: within a comment): what is left, and its line. -/
def skipC : Bool → List UInt8 → Nat → List UInt8 × Nat
  | _, [], n => ([], n)
  | true, c :: l, n => if c = 10 then skipC false l (n + 1) else skipC true l n
  | false, c :: l, n => if c = 10 then skipC false l (n + 1) else if c = 32 ∨ c = 9 ∨ c = 13 then skipC false l n else if c = 47 ∧ l.headD 0 = 47 then skipC true l n else (c :: l, n)

theorem skipC_len : ∀ (b : Bool) (l : List UInt8) (n : Nat), (skipC b l n).1.length ≤ l.length
  | _, [], n => by cases ‹Bool› <;> simp [skipC]
  | true, c :: l, n => by
    unfold skipC
    split
    · have := skipC_len false l (n + 1); simp; omega
    · have := skipC_len true l n; simp; omega
  | false, c :: l, n => by
    unfold skipC
    split
    · have := skipC_len false l (n + 1); simp; omega
    · split
      · have := skipC_len false l n; simp; omega
      · split
        · have := skipC_len true l n; simp; omega
        · simp
/-- What is left is an end of the text. -/
theorem skipC_drop : ∀ (b : Bool) (l : List UInt8) (n : Nat), (skipC b l n).1 = l.drop (l.length - (skipC b l n).1.length)
  | b, [], n => by cases b <;> simp [skipC]
  | true, c :: l, n => by
    unfold skipC
    split
    · have h := skipC_drop false l (n + 1); have h2 := skipC_len false l (n + 1)
      rw [List.length_cons, Nat.sub_add_comm h2, List.drop_succ_cons]; exact h
    · have h := skipC_drop true l n; have h2 := skipC_len true l n
      rw [List.length_cons, Nat.sub_add_comm h2, List.drop_succ_cons]; exact h
  | false, c :: l, n => by
    unfold skipC
    split
    · have h := skipC_drop false l (n + 1); have h2 := skipC_len false l (n + 1)
      rw [List.length_cons, Nat.sub_add_comm h2, List.drop_succ_cons]; exact h
    · split
      · have h := skipC_drop false l n; have h2 := skipC_len false l n
        rw [List.length_cons, Nat.sub_add_comm h2, List.drop_succ_cons]; exact h
      · split
        · have h := skipC_drop true l n; have h2 := skipC_len true l n
          rw [List.length_cons, Nat.sub_add_comm h2, List.drop_succ_cons]; exact h
        · simp
theorem skipC_line : ∀ (b : Bool) (l : List UInt8) (n : Nat), n ≤ (skipC b l n).2 ∧ (skipC b l n).2 + (skipC b l n).1.length ≤ n + l.length
  | b, [], n => by cases b <;> simp [skipC]
  | true, c :: l, n => by
    unfold skipC
    split
    · have := skipC_line false l (n + 1); simp; omega
    · have := skipC_line true l n; simp; omega
  | false, c :: l, n => by
    unfold skipC
    split
    · have := skipC_line false l (n + 1); simp; omega
    · split
      · have := skipC_line false l n; simp; omega
      · split
        · have := skipC_line true l n; simp; omega
        · simp
/-- A comment ends ahead of the next line feed, or with the text. -/
theorem skipC_true : ∀ (l : List UInt8) (n : Nat), skipC true l n = if Lib.indexByte l 10 < 0 then ([], n) else skipC false (l.drop (Lib.indexByte l 10).toNat) n
  | [], n => by simp [skipC, Lib.indexByte]
  | c :: l, n => by
    have ih := skipC_true l n
    have hge := Lib.indexByte_ge l 10
    unfold Lib.indexByte
    by_cases h : c = 10
    · subst h; simp [skipC]
    · have hb : (c == 10) = false := by simpa using h
      rw [hb]
      simp only [Bool.false_eq_true, if_false]
      have e0 : skipC true (c :: l) n = skipC true l n := by rw [skipC, if_neg h]
      rw [e0]
      by_cases h1 : Lib.indexByte l 10 = -1
      · rw [ih, h1]; simp
      · have hq : (Lib.indexByte l 10 == -1) = false := by simpa using h1
        rw [ih, hq]
        simp only [Bool.false_eq_true, if_false]
        rw [if_neg (by omega), if_neg (by omega), show (Lib.indexByte l 10 + 1).toNat = (Lib.indexByte l 10).toNat + 1 from by omega, List.drop_succ_cons]

theorem drop_at (s : ByteArray) (i : Nat) (h : i < s.size) : ∃ c, s.data.toList.drop i = c :: s.data.toList.drop (i + 1) ∧ bt s i = (c.toNat : Int) := by
  have hl : i < s.data.toList.length := by rw [size_data]; exact h
  exact ⟨s.data.toList[i], List.drop_eq_getElem_cons hl, bt_data s i hl⟩
theorem byte_eq (c d : UInt8) : ((c.toNat : Int) = (d.toNat : Int)) ↔ c = d := by
  constructor
  · intro h
    exact UInt8.toNat_inj.1 (by omega)
  · rintro rfl; rfl
theorem prefix_slashes (c : UInt8) (l : List UInt8) : (c :: l).take 2 = [47, 47] ↔ c = 47 ∧ l.headD 0 = 47 := by
  cases l with
  | nil => simp
  | cons d l => simp

theorem rest_f (s : ByteArray) (i n : Nat) (hi : i ≤ s.size) : token_scanner_rest.f s i n = some (s.extract i s.size, s, (i : Int), (n : Int)) := by
  unfold token_scanner_rest.f
  rw [if_pos (by omega), if_pos (by omega), Int.toNat_natCast]

theorem skip_ev (s : ByteArray) (hs : s.size ≤ 140737488351232) (d : Nat) : ∀ (i n : Nat), i ≤ s.size → s.size - i ≤ d → n + (s.size - i) ≤ 1000000000000000000 →
    Ev (fun k => token_scanner_skip.l0 k s i n) (s, ((s.size - (skipC false (s.data.toList.drop i) n).1.length : Nat) : Int), ((skipC false (s.data.toList.drop i) n).2 : Int)) := by
  induction d with
  | zero =>
    intro i n hi hd hn
    have e : i = s.size := by omega
    subst e
    have hz : s.data.toList.drop s.size = [] := by rw [List.drop_eq_nil_iff, size_data]; exact Nat.le_refl _
    rw [hz]
    refine ⟨1, fun k hk => ?_⟩
    obtain ⟨k, rfl⟩ : ∃ m, k = m + 1 := ⟨k - 1, by omega⟩
    simp only [token_scanner_skip.l0]
    rw [if_neg (by omega)]
    simp [skipC]
  | succ d ih =>
    intro i n hi hd hn
    by_cases hlt : i < s.size
    · obtain ⟨c, hc, hb⟩ := drop_at s i hlt
      have w1 : wrap64 ((i : Int) + 1) = ((i + 1 : Nat) : Int) := wrap_nat i (by omega)
      have w2 : wrap64 ((n : Int) + 1) = ((n + 1 : Nat) : Int) := wrap_nat n (by omega)
      rw [hc]
      have b10 : ((c.toNat : Int) = 10) ↔ c = 10 := byte_eq c 10
      have b32 : ((c.toNat : Int) = 32) ↔ c = 32 := byte_eq c 32
      have b9 : ((c.toNat : Int) = 9) ↔ c = 9 := byte_eq c 9
      have b13 : ((c.toNat : Int) = 13) ↔ c = 13 := byte_eq c 13
      by_cases h10 : c = 10
      · have e : skipC false (c :: s.data.toList.drop (i + 1)) n = skipC false (s.data.toList.drop (i + 1)) (n + 1) := by rw [skipC, if_pos h10]
        rw [e]
        refine Ev.step (fun k => ?_) (ih (i + 1) (n + 1) (by omega) (by omega) (by omega))
        simp only [token_scanner_skip.l0]
        rw [if_pos (by omega), if_pos (by omega), hb, if_pos (b10.2 h10), w1, w2]
      by_cases hbl : c = 32 ∨ c = 9 ∨ c = 13
      · have e : skipC false (c :: s.data.toList.drop (i + 1)) n = skipC false (s.data.toList.drop (i + 1)) n := by rw [skipC, if_neg h10, if_pos hbl]
        rw [e]
        have key : ∀ k, token_scanner_skip.l0 (k + 1) s i n = token_scanner_skip.j1 k true s i n := by
          intro k
          simp only [token_scanner_skip.l0]
          rw [if_pos (by omega), if_pos (by omega), hb, if_neg (fun h => h10 (b10.1 h))]
          by_cases h32 : c = 32
          · rw [if_pos (b32.2 h32)]
          rw [if_neg (fun h => h32 (b32.1 h))]
          by_cases h9 : c = 9
          · rw [if_pos (b9.2 h9)]
          rw [if_neg (fun h => h9 (b9.1 h))]
          have h13 : c = 13 := by rcases hbl with h | h | h <;> simp_all
          have : ((c.toNat : Int) == 13) = true := by simpa using b13.2 h13
          rw [this]
        refine Ev.step key (Ev.step (fun k => ?_) (ih (i + 1) n (by omega) (by omega) (by omega)))
        simp only [token_scanner_skip.j1]
        rw [if_pos (by trivial), w1]
      · have key : ∀ k, token_scanner_skip.l0 (k + 1) s i n = token_scanner_skip.j1 k false s i n := by
          intro k
          simp only [token_scanner_skip.l0]
          rw [if_pos (by omega), if_pos (by omega), hb, if_neg (fun h => h10 (b10.1 h)), if_neg (fun h => hbl (.inl (b32.1 h))), if_neg (fun h => hbl (.inr (.inl (b9.1 h))))]
          have : ((c.toNat : Int) == 13) = false := by
            have := fun h => hbl (.inr (.inr (b13.1 h)))
            simpa using this
          rw [this]
        have hx : (s.extract i s.size).data.toList = c :: s.data.toList.drop (i + 1) := by rw [Lib.extract_to_end, hc]
        by_cases hcm : c = 47 ∧ (s.data.toList.drop (i + 1)).headD 0 = 47
        · have e : skipC false (c :: s.data.toList.drop (i + 1)) n = skipC true (c :: s.data.toList.drop (i + 1)) n := by
            have e1 : skipC true (c :: s.data.toList.drop (i + 1)) n = skipC true (s.data.toList.drop (i + 1)) n := by rw [skipC, if_neg h10]
            have e2 : skipC false (c :: s.data.toList.drop (i + 1)) n = skipC true (s.data.toList.drop (i + 1)) n := by rw [skipC, if_neg h10, if_neg hbl, if_pos hcm]
            rw [e1, e2]
          rw [e, skipC_true]
          have hpre : strings_HasPrefix.f (s.extract i s.size) (⟨#[47, 47]⟩ : ByteArray) = some true := by
            rw [hasPrefix_f, hx]
            have : (c :: s.data.toList.drop (i + 1)).take 2 = [47, 47] := (prefix_slashes _ _).2 hcm
            show some (decide ((c :: s.data.toList.drop (i + 1)).take 2 = [47, 47])) = some true
            rw [decide_eq_true this]
          have hidx : strings_IndexByte.f (s.extract i s.size) 10 = some (Lib.indexByte (c :: s.data.toList.drop (i + 1)) 10) := by
            unfold strings_IndexByte.f; rw [hx]; rfl
          have hsz : (s.extract i s.size).size = s.size - i := by rw [← size_data, Lib.extract_to_end, List.length_drop, size_data]
          have hj1 : ∀ k, token_scanner_skip.j1 (k + 1) false s i n = if Lib.indexByte (c :: s.data.toList.drop (i + 1)) 10 < 0 then token_scanner_skip.l0 k s (s.size : Nat) n else token_scanner_skip.l0 k s (wrap64 ((i : Int) + Lib.indexByte (c :: s.data.toList.drop (i + 1)) 10)) n := by
            intro k
            simp only [token_scanner_skip.j1]
            rw [if_neg (by simp), rest_f s i n hi]
            simp only [Option.bind_some]
            rw [hpre]
            simp only [Option.bind_some, if_true]
            rw [rest_f s i n hi]
            simp only [Option.bind_some]
            rw [hidx]
            simp only [Option.bind_some]
            split
            · rw [rest_f s i n hi]
              simp only [Option.bind_some]
              rw [hsz, show wrap64 ((i : Int) + ((s.size - i : Nat) : Int)) = ((s.size : Nat) : Int) from by unfold wrap64; omega]
            · rfl
          by_cases hneg : Lib.indexByte (c :: s.data.toList.drop (i + 1)) 10 < 0
          · rw [if_pos hneg]
            have hz : s.data.toList.drop s.size = [] := by rw [List.drop_eq_nil_iff, size_data]; exact Nat.le_refl _
            have h0 := ih s.size n (Nat.le_refl _) (by omega) (by omega)
            rw [hz] at h0
            refine Ev.step key (Ev.step (fun k => ?_) h0)
            rw [hj1, if_pos hneg]
          · rw [if_neg hneg]
            have hlen := Lib.indexByte_some (l := c :: s.data.toList.drop (i + 1)) (c := 10) (o := (Lib.indexByte (c :: s.data.toList.drop (i + 1)) 10).toNat) (by omega)
            have hjl : (Lib.indexByte (c :: s.data.toList.drop (i + 1)) 10).toNat < (c :: s.data.toList.drop (i + 1)).length := by
              have := (List.getElem?_eq_some_iff.1 hlen.1).1; exact this
            have hj0 : 0 < (Lib.indexByte (c :: s.data.toList.drop (i + 1)) 10).toNat := by
              rcases Nat.eq_zero_or_pos (Lib.indexByte (c :: s.data.toList.drop (i + 1)) 10).toNat with hz | hz
              · rw [hz] at hlen
                have := hlen.1
                simp at this
                exact absurd this h10
              · exact hz
            have hl2 : (c :: s.data.toList.drop (i + 1)).length = s.size - i := by rw [← hc, List.length_drop, size_data]
            rw [hl2] at hjl
            generalize hj : Lib.indexByte (c :: s.data.toList.drop (i + 1)) 10 = j at *
            obtain ⟨m, rfl⟩ : ∃ m : Nat, j = m := ⟨j.toNat, by omega⟩
            rw [Int.toNat_natCast] at *
            have hdr : (c :: s.data.toList.drop (i + 1)).drop m = s.data.toList.drop (i + m) := by rw [← hc, List.drop_drop]
            rw [hdr]
            refine Ev.step key (Ev.step (fun k => ?_) (ih (i + m) n (by omega) (by omega) (by omega)))
            rw [hj1, if_neg hneg, show wrap64 ((i : Int) + (m : Int)) = ((i + m : Nat) : Int) from by unfold wrap64; omega]
        · have e : skipC false (c :: s.data.toList.drop (i + 1)) n = (c :: s.data.toList.drop (i + 1), n) := by rw [skipC, if_neg h10, if_neg hbl, if_neg hcm]
          rw [e]
          have hl2 : (c :: s.data.toList.drop (i + 1)).length = s.size - i := by rw [← hc, List.length_drop, size_data]
          rw [hl2, show s.size - (s.size - i) = i from by omega]
          have hpre : strings_HasPrefix.f (s.extract i s.size) (⟨#[47, 47]⟩ : ByteArray) = some false := by
            rw [hasPrefix_f, hx]
            have : ¬ (c :: s.data.toList.drop (i + 1)).take 2 = [47, 47] := fun h => hcm ((prefix_slashes _ _).1 h)
            show some (decide ((c :: s.data.toList.drop (i + 1)).take 2 = [47, 47])) = some false
            rw [decide_eq_false this]
          refine Ev.step key ⟨1, fun k hk => ?_⟩
          obtain ⟨k, rfl⟩ : ∃ m, k = m + 1 := ⟨k - 1, by omega⟩
          simp only [token_scanner_skip.j1]
          rw [if_neg (by simp), rest_f s i n hi]
          simp only [Option.bind_some]
          rw [hpre]
          simp
    · have e : i = s.size := by omega
      exact ih i n hi (by omega) hn
end Go.Proofs.YtdkloonoeklgaaaDoor.X
