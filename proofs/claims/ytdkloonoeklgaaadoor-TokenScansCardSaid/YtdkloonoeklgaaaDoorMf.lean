/- The reference's parts come to the same plain words: keywords, bytes, numbers, signs. -/
import Derived.Test.YtdkloonoeklgaaaDoorMe
import Derived.Test.YtdkloonoeklgaaaDoorX6
namespace Go.Proofs.YtdkloonoeklgaaaDoor.X
open Go.RowKit Go.Proofs.YtdkloonoeklgaaaDoorW.PrintWords Go.Proofs.YtdkloonoeklgaaaDoorW.PrintLast Go.Proofs.YtdkloonoeklgaaaDoorW.PrintMore

theorem rdOf_nat (xs : List ByteArray) (j : Nat) (h : j < xs.length) : rdOf ByteArray.empty xs (j : Int) = xs[j] := by
  unfold rdOf; rw [Int.toNat_natCast]; simp [List.getD, h]

theorem rkw_loop (s : ByteArray) (xs : List ByteArray) (hx : xs.length ≤ 1000) (d : Nat) : ∀ j : Nat, j ≤ xs.length → xs.length - j = d →
    Ev (fun k => interleaveref01_IsKeyword.l0 k s xs j) (decide (s.data.toList ∈ (xs.drop j).map (·.data.toList))) := by
  induction d with
  | zero =>
    intro j hj hd
    have e : j = xs.length := by omega
    subst e
    refine ⟨1, fun k hk => ?_⟩
    obtain ⟨k, rfl⟩ : ∃ m, k = m + 1 := ⟨k - 1, by omega⟩
    simp only [interleaveref01_IsKeyword.l0]
    rw [if_neg (by omega), List.drop_length]
    simp
  | succ d ih =>
    intro j hj hd
    have hlt : j < xs.length := by omega
    rw [List.drop_eq_getElem_cons hlt, List.map_cons]
    by_cases h : s.data.toList = xs[j].data.toList
    · refine ⟨1, fun k hk => ?_⟩
      obtain ⟨k, rfl⟩ : ∃ m, k = m + 1 := ⟨k - 1, by omega⟩
      simp only [interleaveref01_IsKeyword.l0]
      rw [if_pos (by omega), if_pos (by omega), rdOf_nat xs j hlt, Go.ByteArray.toList_eq, Go.ByteArray.toList_eq, if_pos h.symm]
      rw [decide_eq_true (by rw [h]; exact List.mem_cons_self)]
    · have e : decide (s.data.toList ∈ xs[j].data.toList :: (xs.drop (j + 1)).map (·.data.toList)) = decide (s.data.toList ∈ (xs.drop (j + 1)).map (·.data.toList)) := by
        rw [decide_eq_decide, List.mem_cons]
        constructor
        · rintro (h2 | h2)
          · exact absurd h2 h
          · exact h2
        · exact .inr
      rw [e]
      refine Ev.step (fun k => ?_) (ih (j + 1) (by omega) (by omega))
      simp only [interleaveref01_IsKeyword.l0]
      rw [if_pos (by omega), if_pos (by omega), rdOf_nat xs j hlt, Go.ByteArray.toList_eq, Go.ByteArray.toList_eq, if_neg (fun h2 => h h2.symm), wrap_nat j (by omega)]

theorem rkw_ev (s : ByteArray) : Ev (fun k => interleaveref01_IsKeyword.f k s) (kwB s) := by
  unfold interleaveref01_IsKeyword.f interleaveref01_Keywords.f kwB
  simp only [Option.bind_some]
  rw [Go.ByteArray.toList_eq]
  have h := rkw_loop s [(⟨#[118, 97, 114]⟩ : ByteArray), (⟨#[118, 111, 108, 97, 116, 105, 108, 101]⟩ : ByteArray), (⟨#[109, 117, 116, 101, 120]⟩ : ByteArray), (⟨#[114, 119, 108, 111, 99, 107]⟩ : ByteArray), (⟨#[99, 111, 110, 100]⟩ : ByteArray), (⟨#[102, 117, 116, 117, 114, 101]⟩ : ByteArray), (⟨#[116, 104, 114, 101, 97, 100]⟩ : ByteArray), (⟨#[105, 102]⟩ : ByteArray), (⟨#[101, 108, 115, 101]⟩ : ByteArray), (⟨#[119, 104, 105, 108, 101]⟩ : ByteArray), (⟨#[108, 111, 99, 107]⟩ : ByteArray), (⟨#[114, 101, 97, 100]⟩ : ByteArray), (⟨#[119, 114, 105, 116, 101]⟩ : ByteArray), (⟨#[116, 114, 97, 110, 115, 97, 99, 116, 105, 111, 110]⟩ : ByteArray), (⟨#[97, 116, 111, 109, 105, 99]⟩ : ByteArray), (⟨#[119, 97, 105, 116]⟩ : ByteArray), (⟨#[110, 111, 116, 105, 102, 121]⟩ : ByteArray), (⟨#[110, 111, 116, 105, 102, 121, 97, 108, 108]⟩ : ByteArray), (⟨#[115, 112, 97, 119, 110]⟩ : ByteArray), (⟨#[106, 111, 105, 110]⟩ : ByteArray), (⟨#[115, 101, 116]⟩ : ByteArray), (⟨#[103, 101, 116]⟩ : ByteArray)] (by simp) _ 0 (by simp) rfl
  exact h

theorem rletter_f (c : Int) : interleaveref01_Letter.f c = some (isLet c) := by
  unfold interleaveref01_Letter.f isLet
  by_cases h1 : c ≥ 97 <;> by_cases h2 : c ≤ 122 <;> by_cases h3 : c ≥ 65 <;> simp [*] <;> omega
theorem rdigit_f (c : Int) : interleaveref01_Digit.f c = some (isDig c) := by
  unfold interleaveref01_Digit.f isDig
  by_cases h1 : c ≥ 48 <;> by_cases h2 : c ≤ 57 <;> simp [*] <;> omega
theorem rinner_f (c : Int) : interleaveref01_inner.f c = some (isInn c) := by
  unfold interleaveref01_inner.f isInn
  rw [rletter_f]
  simp only [Option.bind_some]
  cases isLet c
  · simp only [Bool.false_eq_true, if_false]
    rw [rdigit_f]
    simp only [Option.bind_some]
    cases isDig c <;> simp
  · simp

/-! ### Numbers -/
def dval : Nat → List UInt8 → Nat
  | a, [] => a
  | a, c :: l => dval (10 * a + (c.toNat - 48)) l
theorem dval_ge : ∀ (l : List UInt8) (a : Nat), a ≤ dval a l
  | [], a => Nat.le_refl _
  | c :: l, a => by
    have := dval_ge l (10 * a + (c.toNat - 48))
    unfold dval
    omega
theorem isDig_iff (c : UInt8) : isDig (c.toNat : Int) = true ↔ 48 ≤ c.toNat ∧ c.toNat ≤ 57 := by
  unfold isDig
  rw [decide_eq_true_iff]
  omega
theorem parseM_ok : ∀ (l : List UInt8) (a : Nat), (∀ c ∈ l, isDig (c.toNat : Int) = true) → dval a l ≤ 18446744073709551615 → Lib.parseUintM 18446744073709551615 a l = .ok (dval a l)
  | [], a, _, _ => rfl
  | c :: l, a, h, hv => by
    have hc := (isDig_iff c).1 (h c List.mem_cons_self)
    have hge := dval_ge l (10 * a + (c.toNat - 48))
    have e : dval a (c :: l) = dval (10 * a + (c.toNat - 48)) l := rfl
    rw [e] at hv ⊢
    have ih := parseM_ok l (10 * a + (c.toNat - 48)) (fun x hx => h x (List.mem_cons_of_mem _ hx)) hv
    unfold Lib.parseUintM
    rw [if_pos hc, if_neg (by omega), if_neg (by omega), show a * 10 + (c.toNat - 48) = 10 * a + (c.toNat - 48) from by omega, ih]
theorem parseM_range : ∀ (l : List UInt8) (a : Nat), (∀ c ∈ l, isDig (c.toNat : Int) = true) → a ≤ 18446744073709551615 → 18446744073709551615 < dval a l → Lib.parseUintM 18446744073709551615 a l = .range
  | [], a, _, ha, hv => by
    have e : dval a [] = a := rfl
    rw [e] at hv
    omega
  | c :: l, a, h, ha, hv => by
    have hc := (isDig_iff c).1 (h c List.mem_cons_self)
    have e : dval a (c :: l) = dval (10 * a + (c.toNat - 48)) l := rfl
    rw [e] at hv
    unfold Lib.parseUintM
    rw [if_pos hc]
    by_cases h1 : 1844674407370955162 ≤ a
    · rw [if_pos h1]
    · rw [if_neg h1]
      by_cases h2 : 18446744073709551615 < a * 10 + (c.toNat - 48)
      · rw [if_pos h2]
      · rw [if_neg h2, show a * 10 + (c.toNat - 48) = 10 * a + (c.toNat - 48) from by omega]
        exact parseM_range l _ (fun x hx => h x (List.mem_cons_of_mem _ hx)) (by omega) hv
theorem numBad_digits (l : List UInt8) (hne : l ≠ []) (h : ∀ c ∈ l, isDig (c.toNat : Int) = true) : numBad l = decide (9223372036854775807 < dval 0 l) := by
  by_cases h1 : dval 0 l ≤ 18446744073709551615
  · have hp := parseM_ok l 0 h h1
    cases l with
    | nil => exact absurd rfl hne
    | cons c r =>
      have hc := (isDig_iff c).1 (h c List.mem_cons_self)
      have hn : ¬ (c.toNat = 45) := by omega
      have hn2 : ¬ (c.toNat = 43 ∨ c.toNat = 45) := by omega
      have hu : Lib.parseUintB 64 (c :: r) = .ok (dval 0 (c :: r)) := by
        unfold Lib.parseUintB
        rw [if_neg hne]
        exact hp
      by_cases h2 : 9223372036854775807 < dval 0 (c :: r)
      · have hi : Lib.parseIntB 64 (c :: r) = .range := by
          unfold Lib.parseIntB
          simp only
          rw [if_neg hn2, hu]
          simp only
          rw [if_pos ⟨hn, by omega⟩]
        unfold numBad
        rw [hi, decide_eq_true h2]
      · have hi : Lib.parseIntB 64 (c :: r) = .ok ((dval 0 (c :: r) : Nat) : Int) := by
          unfold Lib.parseIntB
          simp only
          rw [if_neg hn2, hu]
          simp only
          rw [if_neg (fun h3 => h2 (by have := h3.2; omega)), if_neg (fun h3 => hn h3.1), if_neg hn]
        unfold numBad
        rw [hi, decide_eq_false h2]
  · have hp := parseM_range l 0 h (by omega) (by omega)
    cases l with
    | nil => exact absurd rfl hne
    | cons c r =>
      have hc := (isDig_iff c).1 (h c List.mem_cons_self)
      have hn2 : ¬ (c.toNat = 43 ∨ c.toNat = 45) := by omega
      have hu : Lib.parseUintB 64 (c :: r) = .range := by
        unfold Lib.parseUintB
        rw [if_neg hne]
        exact hp
      have hi : Lib.parseIntB 64 (c :: r) = .range := by
        unfold Lib.parseIntB
        simp only
        rw [if_neg hn2, hu]
      unfold numBad
      rw [hi, decide_eq_true (by omega)]
theorem wrap_in (n : Int) (h0 : 0 ≤ n) (h : n ≤ 9223372036854775807) : wrap64 n = n := by
  unfold wrap64
  rw [Int.emod_eq_of_lt (by omega) (by omega)]
  omega
theorem wrap_ten (a e : Nat) (h : 10 * a + e ≤ 9223372036854775807) : wrap64 (wrap64 (10 * (a : Int)) + (e : Int)) = ((10 * a + e : Nat) : Int) := by
  rw [wrap_in (10 * (a : Int)) (by omega) (by omega), wrap_in _ (by omega) (by omega)]
  omega
theorem dig_mod (n : Nat) (h1 : 48 ≤ n) (h2 : n ≤ 57) : ((n : Int) - 48) % 256 = ((n - 48 : Nat) : Int) := by omega
theorem over_not (a e : Nat) (h : 10 * a + e ≤ 9223372036854775807) : ¬ (a : Int) > (9223372036854775807 - (e : Int)) / 10 := by omega
theorem not_over (a e : Nat) (h : ¬ (a : Int) > (9223372036854775807 - (e : Int)) / 10) : 10 * a + e ≤ 9223372036854775807 := by omega
theorem number_ok (s : ByteArray) (hs : s.size ≤ 100000) (d : Nat) : ∀ i a : Nat, i ≤ s.size → s.size - i = d → (∀ c ∈ s.data.toList.drop i, isDig (c.toNat : Int) = true) → dval a (s.data.toList.drop i) ≤ 9223372036854775807 →
    Ev (fun k => interleaveref01_Number.l0 k s a i) (((dval a (s.data.toList.drop i) : Nat) : Int), decide ((s.size : Int) > 0)) := by
  induction d with
  | zero =>
    intro i a hi hd hdig hv
    have e : i = s.size := by omega
    subst e
    have hz : s.data.toList.drop s.size = [] := by rw [List.drop_eq_nil_iff, size_data]; exact Nat.le_refl _
    rw [hz, show dval a [] = a from rfl]
    refine ⟨1, fun k hk => ?_⟩
    obtain ⟨k, rfl⟩ : ∃ m, k = m + 1 := ⟨k - 1, by omega⟩
    simp only [interleaveref01_Number.l0]
    rw [if_neg (by omega)]
  | succ d ih =>
    intro i a hi hd hdig hv
    have a1 : i + 1 ≤ s.size := by clear hdig hv; omega
    have a2 : s.size - (i + 1) = d := by clear hdig hv; omega
    have a3 : (i : Int) < (s.size : Int) := by clear hdig hv; omega
    have a4 : (0 : Int) ≤ (i : Int) := Int.natCast_nonneg i
    have a5 : wrap64 ((i : Int) + 1) = ((i + 1 : Nat) : Int) := wrap_nat i (by clear hdig hv; omega)
    obtain ⟨c, hc, hb⟩ := drop_at s i a1
    rw [hc] at hdig hv ⊢
    have hcd := (isDig_iff c).1 (hdig c List.mem_cons_self)
    have hdc : isDig (bt s i) = true := by rw [hb]; exact hdig c List.mem_cons_self
    have ed : dval a (c :: s.data.toList.drop (i + 1)) = dval (10 * a + (c.toNat - 48)) (s.data.toList.drop (i + 1)) := rfl
    rw [ed] at hv ⊢
    have hge := dval_ge (s.data.toList.drop (i + 1)) (10 * a + (c.toNat - 48))
    have hm : (bt s i - 48) % 256 = ((c.toNat - 48 : Nat) : Int) := by rw [hb]; exact dig_mod c.toNat hcd.1 hcd.2
    have hw : wrap64 (wrap64 (10 * (a : Int)) + ((c.toNat - 48 : Nat) : Int)) = ((10 * a + (c.toNat - 48) : Nat) : Int) := wrap_ten a _ (Nat.le_trans hge hv)
    refine Ev.step (fun k => ?_) (ih (i + 1) (10 * a + (c.toNat - 48)) a1 a2 (fun x hx => hdig x (List.mem_cons_of_mem _ hx)) hv)
    simp only [interleaveref01_Number.l0]
    rw [if_pos a3, if_pos a4, rdigit_f]
    simp only [Option.bind_some]
    rw [if_pos hdc, hm, if_neg (over_not a _ (Nat.le_trans hge hv)), a5, hw]
theorem number_bad (s : ByteArray) (hs : s.size ≤ 100000) (d : Nat) : ∀ i a : Nat, i ≤ s.size → s.size - i = d → (∀ c ∈ s.data.toList.drop i, isDig (c.toNat : Int) = true) → a ≤ 9223372036854775807 → 9223372036854775807 < dval a (s.data.toList.drop i) →
    Ev (fun k => interleaveref01_Number.l0 k s a i) (0, false) := by
  induction d with
  | zero =>
    intro i a hi hd hdig ha hv
    have e : i = s.size := by omega
    subst e
    have hz : s.data.toList.drop s.size = [] := by rw [List.drop_eq_nil_iff, size_data]; exact Nat.le_refl _
    rw [hz, show dval a [] = a from rfl] at hv
    omega
  | succ d ih =>
    intro i a hi hd hdig ha hv
    have a1 : i + 1 ≤ s.size := by clear hdig hv ha; omega
    have a2 : s.size - (i + 1) = d := by clear hdig hv ha; omega
    have a3 : (i : Int) < (s.size : Int) := by clear hdig hv ha; omega
    have a4 : (0 : Int) ≤ (i : Int) := Int.natCast_nonneg i
    have a5 : wrap64 ((i : Int) + 1) = ((i + 1 : Nat) : Int) := wrap_nat i (by clear hdig hv ha; omega)
    obtain ⟨c, hc, hb⟩ := drop_at s i a1
    rw [hc] at hdig hv
    have hcd := (isDig_iff c).1 (hdig c List.mem_cons_self)
    have hdc : isDig (bt s i) = true := by rw [hb]; exact hdig c List.mem_cons_self
    have ed : dval a (c :: s.data.toList.drop (i + 1)) = dval (10 * a + (c.toNat - 48)) (s.data.toList.drop (i + 1)) := rfl
    rw [ed] at hv
    have hm : (bt s i - 48) % 256 = ((c.toNat - 48 : Nat) : Int) := by rw [hb]; exact dig_mod c.toNat hcd.1 hcd.2
    by_cases hov : (a : Int) > (9223372036854775807 - (((c.toNat - 48 : Nat) : Int))) / 10
    · refine ⟨1, fun k hk => ?_⟩
      obtain ⟨k, rfl⟩ : ∃ m, k = m + 1 := ⟨k - 1, by omega⟩
      simp only [interleaveref01_Number.l0]
      rw [if_pos a3, if_pos a4, rdigit_f]
      simp only [Option.bind_some]
      rw [if_pos hdc, hm, if_pos hov]
    · have ho := not_over a _ hov
      have hw : wrap64 (wrap64 (10 * (a : Int)) + ((c.toNat - 48 : Nat) : Int)) = ((10 * a + (c.toNat - 48) : Nat) : Int) := wrap_ten a _ ho
      refine Ev.step (fun k => ?_) (ih (i + 1) (10 * a + (c.toNat - 48)) a1 a2 (fun x hx => hdig x (List.mem_cons_of_mem _ hx)) ho hv)
      simp only [interleaveref01_Number.l0]
      rw [if_pos a3, if_pos a4, rdigit_f]
      simp only [Option.bind_some]
      rw [if_pos hdc, hm, if_neg hov, a5, hw]
theorem number_ev (s : ByteArray) (hs : s.size ≤ 100000) (h0 : 0 < s.size) (h : ∀ c ∈ s.data.toList, isDig (c.toNat : Int) = true) :
    ∃ v, Ev (fun k => interleaveref01_Number.f k s) (v, !numBad s.data.toList) := by
  have hne : s.data.toList ≠ [] := by
    intro e
    have := size_data s
    rw [e, List.length_nil] at this
    omega
  rw [numBad_digits _ hne h]
  by_cases h1 : dval 0 s.data.toList ≤ 9223372036854775807
  · have hl := number_ok s hs s.size 0 0 (by omega) (by omega) (by rw [List.drop_zero]; exact h) (by rw [List.drop_zero]; exact h1)
    rw [decide_eq_true (by omega : (s.size : Int) > 0)] at hl
    rw [decide_eq_false (by omega)]
    exact ⟨_, hl⟩
  · have hl := number_bad s hs s.size 0 0 (by omega) (by omega) (by rw [List.drop_zero]; exact h) (by omega) (by rw [List.drop_zero]; omega)
    rw [decide_eq_true (by omega)]
    exact ⟨_, hl⟩

/-! ### Signs -/
theorem sgnAt_loop (s : ByteArray) (hs : s.size ≤ 100000) (i : Nat) (hi : i ≤ s.size) (xs : List ByteArray) (hx : xs.length ≤ 1000) (hz : ∀ p ∈ xs, p.size ≤ 100) (d : Nat) : ∀ j : Nat, j ≤ xs.length → xs.length - j = d →
    Ev (fun k => interleaveref01_signAt.l0 k s i xs j) (match (xs.drop j).find? (fun p => decide ((s.data.toList.drop i).take p.size = p.data.toList)) with | some p => p | none => ⟨#[]⟩) := by
  induction d with
  | zero =>
    intro j hj hd
    have e : j = xs.length := by omega
    subst e
    refine ⟨1, fun k hk => ?_⟩
    obtain ⟨k, rfl⟩ : ∃ m, k = m + 1 := ⟨k - 1, by omega⟩
    simp only [interleaveref01_signAt.l0]
    rw [if_neg (by omega), List.drop_length]
    rfl
  | succ d ih =>
    intro j hj hd
    have hlt : j < xs.length := by omega
    have hp := hz xs[j] (List.getElem_mem hlt)
    rw [List.drop_eq_getElem_cons hlt, List.find?_cons]
    have w1 : wrap64 ((s.size : Int) - (i : Int)) = ((s.size - i : Nat) : Int) := by unfold wrap64; omega
    have w2 : wrap64 ((i : Int) + (xs[j].size : Int)) = ((i + xs[j].size : Nat) : Int) := by unfold wrap64; omega
    by_cases hfit : xs[j].size ≤ s.size - i
    · have he : (s.extract i (i + xs[j].size)).data.toList = (s.data.toList.drop i).take xs[j].size := by rw [Lib.extract_data]; congr 1; omega
      by_cases h : (s.data.toList.drop i).take xs[j].size = xs[j].data.toList
      · rw [decide_eq_true h]
        refine ⟨1, fun k hk => ?_⟩
        obtain ⟨k, rfl⟩ : ∃ m, k = m + 1 := ⟨k - 1, by omega⟩
        simp only [interleaveref01_signAt.l0]
        rw [if_pos (by omega), if_pos (by omega), rdOf_nat xs j hlt, w1, w2, if_pos (by omega), if_pos (by omega), if_pos (by omega), if_pos (by omega), Int.toNat_natCast, Int.toNat_natCast, Go.ByteArray.toList_eq, Go.ByteArray.toList_eq, he, if_pos h]
      · rw [decide_eq_false h]
        refine Ev.step (fun k => ?_) (ih (j + 1) (by omega) (by omega))
        simp only [interleaveref01_signAt.l0]
        rw [if_pos (by omega), if_pos (by omega), rdOf_nat xs j hlt, w1, w2, if_pos (by omega), if_pos (by omega), if_pos (by omega), if_pos (by omega), Int.toNat_natCast, Int.toNat_natCast, Go.ByteArray.toList_eq, Go.ByteArray.toList_eq, he, if_neg h, wrap_nat j (by omega)]
    · have h : ¬ (s.data.toList.drop i).take xs[j].size = xs[j].data.toList := by
        intro h
        have := congrArg List.length h
        rw [List.length_take, List.length_drop, size_data, size_data] at this
        omega
      rw [decide_eq_false h]
      refine Ev.step (fun k => ?_) (ih (j + 1) (by omega) (by omega))
      simp only [interleaveref01_signAt.l0]
      rw [if_pos (by omega), if_pos (by omega), rdOf_nat xs j hlt, w1, if_neg (by omega), wrap_nat j (by omega)]

theorem find_len (r : List UInt8) (n : Nat) : ∀ L : List ByteArray, (∀ p ∈ L, p.size = n) →
    L.find? (fun p => decide (r.take p.size = p.data.toList)) = if r.take n ∈ L.map (·.data.toList) then some ⟨(r.take n).toArray⟩ else none
  | [], _ => by simp
  | p :: L, h => by
    have hp : p.size = n := h p List.mem_cons_self
    have ih := find_len r n L (fun q hq => h q (List.mem_cons_of_mem _ hq))
    rw [List.find?_cons, hp, List.map_cons]
    by_cases h1 : r.take n = p.data.toList
    · rw [decide_eq_true h1, if_pos (by rw [h1]; exact List.mem_cons_self)]
      simp only
      congr 1
      apply bytes_ext
      rw [h1]
    · rw [decide_eq_false h1]
      simp only
      rw [ih]
      by_cases h2 : r.take n ∈ L.map (·.data.toList)
      · rw [if_pos h2, if_pos (List.mem_cons_of_mem _ h2)]
      · rw [if_neg h2, if_neg]
        intro h3
        rcases List.mem_cons.1 h3 with h3 | h3
        · exact h1 h3
        · exact h2 h3
def twoSigns : List ByteArray := [(⟨#[124, 124]⟩ : ByteArray), (⟨#[38, 38]⟩ : ByteArray), (⟨#[61, 61]⟩ : ByteArray), (⟨#[33, 61]⟩ : ByteArray), (⟨#[60, 61]⟩ : ByteArray), (⟨#[62, 61]⟩ : ByteArray)]
def oneSigns : List ByteArray := [(⟨#[60]⟩ : ByteArray), (⟨#[62]⟩ : ByteArray), (⟨#[43]⟩ : ByteArray), (⟨#[45]⟩ : ByteArray), (⟨#[42]⟩ : ByteArray), (⟨#[47]⟩ : ByteArray), (⟨#[37]⟩ : ByteArray), (⟨#[33]⟩ : ByteArray), (⟨#[61]⟩ : ByteArray), (⟨#[40]⟩ : ByteArray), (⟨#[41]⟩ : ByteArray), (⟨#[91]⟩ : ByteArray), (⟨#[93]⟩ : ByteArray), (⟨#[123]⟩ : ByteArray), (⟨#[125]⟩ : ByteArray), (⟨#[44]⟩ : ByteArray), (⟨#[59]⟩ : ByteArray)]
theorem signs_split : interleaveref01_Signs.f = some (twoSigns ++ oneSigns) := rfl
theorem one_mem (r : List UInt8) : r.take 1 ∈ oneSigns.map (·.data.toList) ↔ (r.take 1 ≠ [] ∧ r.headD 0 ∈ sgnOne) := by
  have e : oneSigns.map (·.data.toList) = sgnOne.map (fun c => [c]) := rfl
  rw [e, List.mem_map]
  cases r with
  | nil => simp
  | cons c l => simp
theorem find_signs (r : List UInt8) : (match (twoSigns ++ oneSigns).find? (fun p => decide (r.take p.size = p.data.toList)) with | some p => p | none => ⟨#[]⟩) = (⟨(sgnL r).toArray⟩ : ByteArray) := by
  rw [List.find?_append, find_len r 2 twoSigns (by intro p hp; simp only [twoSigns, List.mem_cons, List.not_mem_nil, or_false] at hp; rcases hp with rfl | rfl | rfl | rfl | rfl | rfl <;> rfl),
    find_len r 1 oneSigns (by intro p hp; simp only [oneSigns, List.mem_cons, List.not_mem_nil, or_false] at hp; rcases hp with rfl | rfl | rfl | rfl | rfl | rfl | rfl | rfl | rfl | rfl | rfl | rfl | rfl | rfl | rfl | rfl | rfl <;> rfl)]
  unfold sgnL
  have e2 : twoSigns.map (·.data.toList) = sgnTwo := rfl
  rw [e2]
  by_cases h : r.take 2 ∈ sgnTwo
  · rw [if_pos h, if_pos h]; rfl
  · rw [if_neg h, if_neg h]
    by_cases h1 : r.take 1 ≠ [] ∧ r.headD 0 ∈ sgnOne
    · rw [if_pos ((one_mem r).2 h1), if_pos h1]; rfl
    · rw [if_neg (fun h2 => h1 ((one_mem r).1 h2)), if_neg h1]; rfl
theorem signAt_ev (s : ByteArray) (hs : s.size ≤ 100000) (i : Nat) (hi : i ≤ s.size) : Ev (fun k => interleaveref01_signAt.f k s i) ⟨(sgnL (s.data.toList.drop i)).toArray⟩ := by
  unfold interleaveref01_signAt.f
  rw [signs_split]
  simp only [Option.bind_some]
  have h := sgnAt_loop s hs i hi (twoSigns ++ oneSigns) (by simp [twoSigns, oneSigns]) (by intro p hp; simp only [twoSigns, oneSigns, List.cons_append, List.nil_append, List.mem_cons, List.not_mem_nil, or_false] at hp; rcases hp with rfl | rfl | rfl | rfl | rfl | rfl | rfl | rfl | rfl | rfl | rfl | rfl | rfl | rfl | rfl | rfl | rfl | rfl | rfl | rfl | rfl | rfl | rfl <;> decide) _ 0 (by simp) rfl
  rw [List.drop_zero, find_signs] at h
  exact h
end Go.Proofs.YtdkloonoeklgaaaDoor.X
