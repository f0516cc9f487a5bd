/- The scanner on texts put together: other lines, tokens again, signs, one word. -/
import Derived.Test.YtdkloonoeklgaaaDoorMg
namespace Go.Proofs.YtdkloonoeklgaaaDoor.X
open Go.RowKit Go.Proofs.YtdkloonoeklgaaaDoorW.PrintWords Go.Proofs.YtdkloonoeklgaaaDoorW.PrintLast Go.Proofs.YtdkloonoeklgaaaDoorW.PrintMore

/-! ### Other lines -/
def shiftT (k : Nat) (t : S27) : S27 := ⟨t.f0, t.f1, t.f2 + k⟩
def shiftR (k : Nat) (q : List S27 × Int × Int) : List S27 × Int × Int := if q.2.1 = 0 then (q.1.map (shiftT k), 0, 0) else ([], q.2.1, q.2.2 + k)
theorem scan_shift (k : Nat) (d : Nat) : ∀ (l : List UInt8), l.length ≤ d → ∀ n, scanL l (n + k) = shiftR k (scanL l n) ∧ scanT l (n + k) = shiftR k (scanT l n) := by
  induction d with
  | zero =>
    intro l hl n
    have e0 : l = [] := List.length_eq_zero_iff.1 (by omega)
    subst e0
    exact ⟨rfl, rfl⟩
  | succ d ih =>
    intro l hl n
    cases l with
    | nil => exact ⟨rfl, rfl⟩
    | cons c l =>
      have hl' : l.length ≤ d := by rw [List.length_cons] at hl; omega
      by_cases h10 : c = 10
      · subst h10
        have h1 := (ih l hl' (n + 1)).1
        rw [scanT_lf, scanT_lf, scanL_lf, scanL_lf, show n + k + 1 = n + 1 + k from by omega, h1]
        exact ⟨rfl, rfl⟩
      · refine ⟨?_, by rw [scanT_other h10, scanT_other h10]; exact (ih l hl' n).2⟩
        by_cases hbl : c = 32 ∨ c = 9 ∨ c = 13
        · rw [scanL_bl h10 hbl, scanL_bl h10 hbl]; exact (ih l hl' n).1
        · by_cases hcm : c = 47 ∧ l.headD 0 = 47
          · rw [scanL_cm h10 hbl hcm, scanL_cm h10 hbl hcm]; exact (ih l hl' n).2
          · have ht : tokAt c l := ⟨h10, hbl, hcm⟩
            by_cases hz : (nextL (c :: l)).2.2 = 0
            · have hp := nextL_pos (r := c :: l) (by simp) hz
              have hdl : ((c :: l).drop (nextL (c :: l)).2.1.length).length ≤ d := by rw [List.length_drop, List.length_cons]; omega
              have h1 := (ih _ hdl n).1
              rw [scanL_ok ht n hz, scanL_ok ht (n + k) hz, h1]
              generalize scanL ((c :: l).drop (nextL (c :: l)).2.1.length) n = q
              unfold shiftR
              by_cases hq : q.2.1 = 0
              · rw [if_pos hq, if_pos rfl, if_pos hq, if_pos rfl]
                simp only [List.map_cons]
                congr 2
              · rw [if_neg hq, if_neg hq, if_neg hq, if_neg hq]
            · rw [scanL_bad ht n hz, scanL_bad ht (n + k) hz]
              unfold shiftR
              rw [if_neg hz]
              congr 2

/-! ### A token's text again -/
theorem spanL_all (p : Int → Bool) : ∀ l : List UInt8, (∀ c ∈ l, p (c.toNat : Int) = true) → spanL p l = l.length
  | [], _ => rfl
  | c :: l, h => by
    rw [spanL_cons, if_pos (h c List.mem_cons_self), spanL_all p l (fun x hx => h x (List.mem_cons_of_mem _ hx)), List.length_cons]
theorem take_cons {c : UInt8} {l : List UInt8} {k : Nat} (h : 0 < k) : (c :: l).take k = c :: l.take (k - 1) := by
  obtain ⟨k, rfl⟩ : ∃ m, k = m + 1 := ⟨k - 1, by omega⟩
  simp
theorem next_idem {c : UInt8} {l : List UInt8} (h : (nextL (c :: l)).2.2 = 0) : nextL (nextL (c :: l)).2.1 = nextL (c :: l) := by
  by_cases hl : isLet (c.toNat : Int) = true
  · have hnx : nextL (c :: l) = if 12 < spanL isInn (c :: l) then (0, [], 2) else (if (c :: l).take (spanL isInn (c :: l)) ∈ kwList then 3 else 1, (c :: l).take (spanL isInn (c :: l)), 0) := by
      unfold nextL; rw [if_pos (by simpa using hl)]
    have hn0 : 0 < spanL isInn (c :: l) := by
      rw [spanL_cons, if_pos (by unfold isInn; rw [hl]; rfl)]
      omega
    have hn := span_le isInn (c :: l)
    have hall := mem_spanL isInn (c :: l)
    generalize spanL isInn (c :: l) = n at *
    by_cases hb : 12 < n
    · rw [if_pos hb] at hnx; rw [hnx] at h; exact absurd h (by decide)
    · rw [if_neg hb] at hnx
      rw [hnx]
      show nextL ((c :: l).take n) = _
      have hlen : ((c :: l).take n).length = n := by rw [List.length_take]; omega
      have hsp : spanL isInn ((c :: l).take n) = n := by rw [spanL_all isInn _ hall, hlen]
      have hh : ((c :: l).take n).headD 0 = c := by rw [take_cons hn0]; rfl
      unfold nextL
      rw [hh, if_pos hl, hsp, if_neg hb, List.take_of_length_le (Nat.le_of_eq hlen)]
  · by_cases hd : isDig (c.toNat : Int) = true
    · have hnx : nextL (c :: l) = if numBad ((c :: l).take (spanL isDig (c :: l))) = true ∨ (spanL isDig (c :: l) < (c :: l).length ∧ isInn (((c :: l).drop (spanL isDig (c :: l))).headD 0).toNat = true) then (0, [], 3) else (2, (c :: l).take (spanL isDig (c :: l)), 0) := by
        unfold nextL; rw [if_neg (by simpa using hl), if_pos (by simpa using hd)]
      have hn0 : 0 < spanL isDig (c :: l) := by
        rw [spanL_cons, if_pos hd]
        omega
      have hn := span_le isDig (c :: l)
      have hall := mem_spanL isDig (c :: l)
      generalize spanL isDig (c :: l) = n at *
      by_cases hb : numBad ((c :: l).take n) = true ∨ (n < (c :: l).length ∧ isInn (((c :: l).drop n).headD 0).toNat = true)
      · rw [if_pos hb] at hnx; rw [hnx] at h; exact absurd h (by decide)
      · rw [if_neg hb] at hnx
        rw [hnx]
        show nextL ((c :: l).take n) = _
        have hlen : ((c :: l).take n).length = n := by rw [List.length_take]; omega
        have hsp : spanL isDig ((c :: l).take n) = n := by rw [spanL_all isDig _ hall, hlen]
        have hh : ((c :: l).take n).headD 0 = c := by rw [take_cons hn0]; rfl
        unfold nextL
        rw [hh, if_neg hl, if_pos hd, hsp, List.take_of_length_le (Nat.le_of_eq hlen), if_neg]
        rintro (h2 | ⟨h2, _⟩)
        · exact hb (.inl h2)
        · rw [hlen] at h2; exact absurd h2 (Nat.lt_irrefl _)
    · have hnx : nextL (c :: l) = if sgnL (c :: l) = [] then (0, [], 3) else (4, sgnL (c :: l), 0) := by
        unfold nextL; rw [if_neg (by simpa using hl), if_neg (by simpa using hd)]
      by_cases hz : sgnL (c :: l) = []
      · rw [if_pos hz] at hnx; rw [hnx] at h; exact absurd h (by decide)
      · rw [if_neg hz] at hnx
        rw [hnx]
        show nextL (sgnL (c :: l)) = _
        have hcases : (∃ e m, l = e :: m ∧ sgnL (c :: l) = [c, e] ∧ [c, e] ∈ sgnTwo) ∨ (sgnL (c :: l) = [c] ∧ c ∈ sgnOne) := by
          unfold sgnL at hz ⊢
          by_cases h1 : (c :: l).take 2 ∈ sgnTwo
          · left
            cases l with
            | nil => exact absurd h1 (by simp [sgnTwo])
            | cons e m => exact ⟨e, m, rfl, by rw [if_pos h1]; rfl, by simpa using h1⟩
          · right
            rw [if_neg h1] at hz ⊢
            by_cases h2 : (c :: l).take 1 ≠ [] ∧ (c :: l).headD 0 ∈ sgnOne
            · rw [if_pos h2]; exact ⟨by simp, by simpa using h2.2⟩
            · rw [if_neg h2] at hz; exact absurd rfl hz
        rcases hcases with ⟨e, m, rfl, hs, hm⟩ | ⟨hs, hm⟩
        · rw [hs]
          have h3 : sgnL [c, e] = [c, e] := by unfold sgnL; rw [if_pos (by simpa using hm)]; rfl
          unfold nextL
          rw [List.headD_cons, if_neg hl, if_neg hd, h3, if_neg (by simp)]
        · rw [hs]
          have h3 : sgnL [c] = [c] := by
            unfold sgnL
            rw [if_neg (by simp [sgnTwo]), if_pos ⟨by simp, by simpa using hm⟩]; rfl
          unfold nextL
          rw [List.headD_cons, if_neg hl, if_neg hd, h3, if_neg (by simp)]
theorem tokAt_take {c : UInt8} {l : List UInt8} (h : tokAt c l) (j : Nat) : tokAt c (l.take j) := by
  refine ⟨h.1, h.2.1, fun h2 => ?_⟩
  cases l with
  | nil => simp at h2
  | cons a m =>
    cases j with
    | zero => simp at h2
    | succ j =>
      rw [List.take_succ_cons, List.headD_cons] at h2
      exact h.2.2 ⟨h2.1, by rw [List.headD_cons]; exact h2.2⟩
/-- A token's text, a blank, and more. -/
theorem scan_tok_bl {c : UInt8} {t : List UInt8} (k : Int) (ht : tokAt c t) (hn : nextL (c :: t) = (k, c :: t, 0)) (x : List UInt8) (m : Nat) :
    scanL (c :: t ++ 32 :: x) m = (if (scanL x m).2.1 = 0 then (mkTok k (c :: t) m :: (scanL x m).1, 0, 0) else scanL x m) := by
  have h1 := nextL_app 32 sep_bl x c t
  rw [List.cons_append] at h1
  have ht2 : tokAt c (t ++ 32 :: x) := (tokAt_app sep_bl x).2 ht
  rw [List.cons_append, scanL_ok ht2 m (by rw [h1, hn]), h1, hn]
  have hd : (c :: (t ++ 32 :: x)).drop (c :: t).length = 32 :: x := by rw [← List.cons_append, List.drop_left']; rfl
  show (if (scanL ((c :: (t ++ 32 :: x)).drop (c :: t).length) m).2.1 = 0 then _ else _) = _
  rw [hd, scanL_bl (by decide) (.inl rfl)]
def setL (m : Nat) (t : S27) : S27 := ⟨t.f0, t.f1, m⟩
/-- The tokens' texts, a blank behind each. -/
def joined (ts : List S27) : List UInt8 := ts.flatMap fun t => t.f1.data.toList ++ [32]
theorem joined_cons (t : S27) (ts : List S27) : joined (t :: ts) = t.f1.data.toList ++ 32 :: joined ts := by simp [joined]
theorem scan_joined (m : Nat) (d : Nat) : ∀ (l : List UInt8), l.length ≤ d → ∀ n, ((scanL l n).2.1 = 0 → scanL (joined (scanL l n).1) m = ((scanL l n).1.map (setL m), 0, 0)) ∧ ((scanT l n).2.1 = 0 → scanL (joined (scanT l n).1) m = ((scanT l n).1.map (setL m), 0, 0)) := by
  induction d with
  | zero =>
    intro l hl n
    have e0 : l = [] := List.length_eq_zero_iff.1 (by omega)
    subst e0
    exact ⟨fun _ => rfl, fun _ => rfl⟩
  | succ d ih =>
    intro l hl n
    cases l with
    | nil => exact ⟨fun _ => rfl, fun _ => rfl⟩
    | cons c l =>
      have hl' : l.length ≤ d := by rw [List.length_cons] at hl; omega
      by_cases h10 : c = 10
      · subst h10
        have h1 := (ih l hl' (n + 1)).1
        rw [scanT_lf, scanL_lf]
        exact ⟨h1, h1⟩
      · refine ⟨?_, by rw [scanT_other h10]; exact (ih l hl' n).2⟩
        by_cases hbl : c = 32 ∨ c = 9 ∨ c = 13
        · rw [scanL_bl h10 hbl]; exact (ih l hl' n).1
        · by_cases hcm : c = 47 ∧ l.headD 0 = 47
          · rw [scanL_cm h10 hbl hcm]; exact (ih l hl' n).2
          · have ht : tokAt c l := ⟨h10, hbl, hcm⟩
            by_cases hz : (nextL (c :: l)).2.2 = 0
            · have hp := nextL_pos (r := c :: l) (by simp) hz
              have hid := next_idem hz
              have hdl : ((c :: l).drop (nextL (c :: l)).2.1.length).length ≤ d := by rw [List.length_drop, List.length_cons]; omega
              have h1 := (ih _ hdl n).1
              rw [scanL_ok ht n hz]
              generalize scanL ((c :: l).drop (nextL (c :: l)).2.1.length) n = q at h1
              by_cases hq : q.2.1 = 0
              · rw [if_pos hq]
                intro _
                have h2 := h1 hq
                show scanL (joined (mkTok (nextL (c :: l)).1 (nextL (c :: l)).2.1 n :: q.1)) m = _
                rw [joined_cons]
                show scanL ((nextL (c :: l)).2.1 ++ 32 :: joined q.1) m = _
                have e1 := hp.2
                rw [take_cons hp.1] at e1
                have hnx : nextL (c :: l.take ((nextL (c :: l)).2.1.length - 1)) = ((nextL (c :: l)).1, c :: l.take ((nextL (c :: l)).2.1.length - 1), 0) := by
                  rw [← e1, hid]
                  exact Prod.ext rfl (Prod.ext rfl hz)
                have h3 := scan_tok_bl (nextL (c :: l)).1 (tokAt_take ht ((nextL (c :: l)).2.1.length - 1)) hnx (joined q.1) m
                rw [← e1, h2] at h3
                rw [h3, if_pos rfl]
                rfl
              · rw [if_neg hq]
                intro h2
                exact absurd h2 hq
            · rw [scanL_bad ht n hz]
              intro h2
              exact absurd h2 hz

/-! ### Signs with blanks -/
def signsB : List ByteArray := [(⟨#[124, 124]⟩ : ByteArray), (⟨#[38, 38]⟩ : ByteArray), (⟨#[61, 61]⟩ : ByteArray), (⟨#[33, 61]⟩ : ByteArray), (⟨#[60, 61]⟩ : ByteArray), (⟨#[62, 61]⟩ : ByteArray), (⟨#[60]⟩ : ByteArray), (⟨#[62]⟩ : ByteArray), (⟨#[43]⟩ : ByteArray), (⟨#[45]⟩ : ByteArray), (⟨#[42]⟩ : ByteArray), (⟨#[47]⟩ : ByteArray), (⟨#[37]⟩ : ByteArray), (⟨#[33]⟩ : ByteArray), (⟨#[61]⟩ : ByteArray), (⟨#[40]⟩ : ByteArray), (⟨#[41]⟩ : ByteArray), (⟨#[91]⟩ : ByteArray), (⟨#[93]⟩ : ByteArray), (⟨#[123]⟩ : ByteArray), (⟨#[125]⟩ : ByteArray), (⟨#[44]⟩ : ByteArray), (⟨#[59]⟩ : ByteArray)]
theorem signB_fact : ∀ p ∈ signsB, ∃ c t, p.data.toList = c :: t ∧ tokAt c t ∧ nextL (c :: t) = (4, c :: t, 0) := by
  intro p hp
  simp only [signsB, List.mem_cons, List.not_mem_nil, or_false] at hp
  rcases hp with rfl | rfl | rfl | rfl | rfl | rfl | rfl | rfl | rfl | rfl | rfl | rfl | rfl | rfl | rfl | rfl | rfl | rfl | rfl | rfl | rfl | rfl | rfl <;>
    exact ⟨_, _, rfl, ⟨by decide, by decide, by decide⟩, rfl⟩
def sjoin (ps : List ByteArray) : List UInt8 := ps.flatMap fun p => p.data.toList ++ [32]
theorem scan_sjoin : ∀ ps : List ByteArray, (∀ p ∈ ps, p ∈ signsB) → scanL (sjoin ps) 1 = (ps.map (fun p => (⟨4, p, 1⟩ : S27)), 0, 0)
  | [], _ => rfl
  | p :: ps, h => by
    obtain ⟨c, t, e, ht, hn⟩ := signB_fact p (h p List.mem_cons_self)
    have ih := scan_sjoin ps (fun q hq => h q (List.mem_cons_of_mem _ hq))
    have e1 : sjoin (p :: ps) = c :: t ++ 32 :: sjoin ps := by
      rw [← e]; simp [sjoin]
    rw [e1, scan_tok_bl 4 ht hn, ih, if_pos rfl, List.map_cons]
    have e2 : mkTok 4 (c :: t) 1 = ⟨4, p, 1⟩ := by
      unfold mkTok
      rw [← e]
      congr 1
    rw [e2]

/-! ### Line feeds, then one word -/
theorem scan_lfs (b : Nat) (r : List UInt8) : ∀ n, scanL (List.replicate b 10 ++ r) n = scanL r (n + b) := by
  induction b with
  | zero => intro n; rfl
  | succ b ih =>
    intro n
    rw [List.replicate_succ, List.cons_append, scanL_lf, ih]
    congr 1; omega
theorem spanX (a : Nat) : spanL isInn (List.replicate a 120) = a := by
  rw [spanL_all isInn _ (by intro c hc; rw [List.mem_replicate] at hc; rw [hc.2]; decide), List.length_replicate]
theorem noKwX (a : Nat) : List.replicate (a + 1) (120 : UInt8) ∉ kwList := by
  intro h
  rw [List.replicate_succ] at h
  simp [kwList] at h
theorem nextX (a : Nat) : nextL (List.replicate (a + 1) 120) = if 12 < a + 1 then (0, [], 2) else (1, List.replicate (a + 1) 120, 0) := by
  have hh : (List.replicate (a + 1) (120 : UInt8)).headD 0 = 120 := by rw [List.replicate_succ]; rfl
  unfold nextL
  rw [hh, if_pos (by decide), spanX]
  rw [List.take_of_length_le (by rw [List.length_replicate]; exact Nat.le_refl _), if_neg (noKwX a)]
theorem tokX (a : Nat) : tokAt 120 (List.replicate a 120) := ⟨by decide, by decide, fun h => absurd h.1 (by decide)⟩
theorem scanX_long (a n : Nat) (h : 12 < a + 1) : scanL (List.replicate (a + 1) 120) n = ([], 2, (n : Int)) := by
  have hn := nextX a
  rw [if_pos h] at hn
  rw [List.replicate_succ] at hn ⊢
  rw [scanL_bad (tokX a) n (by rw [hn]; decide), hn]
theorem scanX_short (a n : Nat) (h : ¬ 12 < a + 1) : scanL (List.replicate (a + 1) 120) n = ([mkTok 1 (List.replicate (a + 1) 120) n], 0, 0) := by
  have hn := nextX a
  rw [if_neg h] at hn
  rw [List.replicate_succ] at hn ⊢
  rw [scanL_ok (tokX a) n (by rw [hn]), hn]
  show (if (scanL ((120 :: List.replicate a 120).drop (120 :: List.replicate a 120).length) n).2.1 = 0 then _ else _) = _
  rw [List.drop_length, scanL_nil]
  rfl
end Go.Proofs.YtdkloonoeklgaaaDoor.X
