/- The scanner's plain words, unfolded at the first byte; texts put together. -/
import Derived.Test.YtdkloonoeklgaaaDoorMe
namespace Go.Proofs.YtdkloonoeklgaaaDoor.X
open Go.RowKit Go.Proofs.YtdkloonoeklgaaaDoorW.PrintWords Go.Proofs.YtdkloonoeklgaaaDoorW.PrintLast Go.Proofs.YtdkloonoeklgaaaDoorW.PrintMore

/-- The tokens of l, which begins within a comment. -/
def scanT (l : List UInt8) (n : Nat) : List S27 × Int × Int := scanR ((skipC true l n).1.length + 1) (skipC true l n).1 (skipC true l n).2
theorem scanL_nil (n : Nat) : scanL [] n = ([], 0, 0) := rfl
theorem scanT_nil (n : Nat) : scanT [] n = ([], 0, 0) := rfl
theorem scanL_lf (l : List UInt8) (n : Nat) : scanL (10 :: l) n = scanL l (n + 1) := by
  have e : skipC false (10 :: l) n = skipC false l (n + 1) := by rw [skipC, if_pos rfl]
  unfold scanL; rw [e]
theorem scanL_bl {c : UInt8} (h10 : c ≠ 10) (h : c = 32 ∨ c = 9 ∨ c = 13) (l : List UInt8) (n : Nat) : scanL (c :: l) n = scanL l n := by
  have e : skipC false (c :: l) n = skipC false l n := by rw [skipC, if_neg h10, if_pos h]
  unfold scanL; rw [e]
theorem scanL_cm {c : UInt8} {l : List UInt8} (h10 : c ≠ 10) (hb : ¬ (c = 32 ∨ c = 9 ∨ c = 13)) (h : c = 47 ∧ l.headD 0 = 47) (n : Nat) : scanL (c :: l) n = scanT l n := by
  have e : skipC false (c :: l) n = skipC true l n := by rw [skipC, if_neg h10, if_neg hb, if_pos h]
  unfold scanL scanT; rw [e]
theorem scanT_lf (l : List UInt8) (n : Nat) : scanT (10 :: l) n = scanL (10 :: l) n := by
  have e : skipC true (10 :: l) n = skipC false l (n + 1) := by rw [skipC, if_pos rfl]
  have e2 : skipC false (10 :: l) n = skipC false l (n + 1) := by rw [skipC, if_pos rfl]
  unfold scanL scanT; rw [e, e2]
theorem scanT_other {c : UInt8} (h10 : c ≠ 10) (l : List UInt8) (n : Nat) : scanT (c :: l) n = scanT l n := by
  have e : skipC true (c :: l) n = skipC true l n := by rw [skipC, if_neg h10]
  unfold scanT; rw [e]
/-- A byte that begins a token. -/
def tokAt (c : UInt8) (l : List UInt8) : Prop := c ≠ 10 ∧ ¬ (c = 32 ∨ c = 9 ∨ c = 13) ∧ ¬ (c = 47 ∧ l.headD 0 = 47)
theorem scanR_scanL {f : Nat} {r : List UInt8} {n : Nat} (h : (skipC false r n).1.length < f) : scanR f (skipC false r n).1 (skipC false r n).2 = scanL r n := by
  unfold scanL
  exact scanR_fuel f _ _ _ h (by omega)
theorem scanL_ok {c : UInt8} {l : List UInt8} (h : tokAt c l) (n : Nat) (he : (nextL (c :: l)).2.2 = 0) :
    scanL (c :: l) n = (if (scanL ((c :: l).drop (nextL (c :: l)).2.1.length) n).2.1 = 0 then (mkTok (nextL (c :: l)).1 (nextL (c :: l)).2.1 n :: (scanL ((c :: l).drop (nextL (c :: l)).2.1.length) n).1, 0, 0) else scanL ((c :: l).drop (nextL (c :: l)).2.1.length) n) := by
  have e : skipC false (c :: l) n = (c :: l, n) := by rw [skipC, if_neg h.1, if_neg h.2.1, if_neg h.2.2]
  have hp := (nextL_pos (r := c :: l) (by simp) he).1
  have hl := skipC_len false ((c :: l).drop (nextL (c :: l)).2.1.length) n
  rw [List.length_drop] at hl
  have h0 : 0 < (c :: l).length := by simp
  have hf := scanR_scanL (f := (c :: l).length) (r := (c :: l).drop (nextL (c :: l)).2.1.length) (n := n) (by omega)
  have e0 : scanL (c :: l) n = scanR ((c :: l).length + 1) (c :: l) n := by unfold scanL; rw [e]
  rw [e0, scanR, if_neg (by simp), if_pos he, hf]
theorem scanL_bad {c : UInt8} {l : List UInt8} (h : tokAt c l) (n : Nat) (he : (nextL (c :: l)).2.2 ≠ 0) :
    scanL (c :: l) n = ([], (nextL (c :: l)).2.2, (n : Int)) := by
  have e : skipC false (c :: l) n = (c :: l, n) := by rw [skipC, if_neg h.1, if_neg h.2.1, if_neg h.2.2]
  have e0 : scanL (c :: l) n = scanR ((c :: l).length + 1) (c :: l) n := by unfold scanL; rw [e]
  rw [e0, scanR, if_neg (by simp), if_neg he]
theorem scanL_err (l : List UInt8) (n : Nat) (h : (scanL l n).2.1 ≠ 0) : (scanL l n).1 = [] := scanR_err _ _ _ h
theorem scanL_zero (l : List UInt8) (n : Nat) (h : (scanL l n).2.1 = 0) : (scanL l n).2.2 = 0 := scanR_ok _ _ _ h
theorem comb_ok {c : UInt8} {l : List UInt8} (h : tokAt c l) (n : Nat) (he : (nextL (c :: l)).2.2 = 0) (ts : List S27) :
    comb ts (scanL (c :: l) n) = comb (ts ++ [mkTok (nextL (c :: l)).1 (nextL (c :: l)).2.1 n]) (scanL ((c :: l).drop (nextL (c :: l)).2.1.length) n) := by
  rw [scanL_ok h n he]
  generalize scanL ((c :: l).drop (nextL (c :: l)).2.1.length) n = z
  unfold comb
  by_cases hz : z.2.1 = 0
  · rw [if_pos hz, if_pos rfl, if_pos hz]; simp
  · rw [if_neg hz, if_neg hz, if_neg hz]
theorem comb_bad {c : UInt8} {l : List UInt8} (h : tokAt c l) (n : Nat) (he : (nextL (c :: l)).2.2 ≠ 0) (ts : List S27) :
    comb ts (scanL (c :: l) n) = ([], (nextL (c :: l)).2.2, (n : Int)) := by
  rw [scanL_bad h n he]
  unfold comb
  rw [if_neg he]
theorem spanL_cons (p : Int → Bool) (c : UInt8) (l : List UInt8) : spanL p (c :: l) = if p (c.toNat : Int) = true then spanL p l + 1 else 0 := by
  unfold spanL
  rw [List.takeWhile_cons]
  split <;> simp
/-- Behind skipC: nothing, or a byte that begins a token. -/
theorem skipC_tok : ∀ (b : Bool) (l : List UInt8) (n : Nat), (skipC b l n).1 = [] ∨ ∃ c r, (skipC b l n).1 = c :: r ∧ tokAt c r
  | b, [], n => by left; cases b <;> simp [skipC]
  | true, c :: l, n => by
    unfold skipC
    split
    · exact skipC_tok false l (n + 1)
    · exact skipC_tok true l n
  | false, c :: l, n => by
    unfold skipC
    split
    · exact skipC_tok false l (n + 1)
    · split
      · exact skipC_tok false l n
      · split
        · exact skipC_tok true l n
        · rename_i h1 h2 h3
          exact .inr ⟨c, l, rfl, h1, h2, h3⟩
/-- A byte that ends every token. -/
def sepB (e : UInt8) : Prop := isInn (e.toNat : Int) = false ∧ isDig (e.toNat : Int) = false ∧ e ≠ 47 ∧ ∀ c, [c, e] ∉ sgnTwo
theorem sep_lf : sepB 10 := ⟨by decide, by decide, by decide, by intro c; simp [sgnTwo]⟩
theorem sep_bl : sepB 32 := ⟨by decide, by decide, by decide, by intro c; simp [sgnTwo]⟩
theorem spanL_app (p : Int → Bool) (e : UInt8) (he : p (e.toNat : Int) = false) (x : List UInt8) : ∀ r : List UInt8, spanL p (r ++ e :: x) = spanL p r
  | [] => by rw [List.nil_append, spanL_cons, if_neg (by rw [he]; simp)]; rfl
  | c :: r => by
    rw [List.cons_append, spanL_cons, spanL_cons, spanL_app p e he x r]
theorem take_span (p : Int → Bool) (e : UInt8) (he : p (e.toNat : Int) = false) (x r : List UInt8) : (r ++ e :: x).take (spanL p (r ++ e :: x)) = r.take (spanL p r) := by
  rw [spanL_app p e he, List.take_append_of_le_length (span_le p r)]
theorem sgnL_app (e : UInt8) (he : sepB e) (x : List UInt8) (c : UInt8) (l : List UInt8) : sgnL (c :: l ++ e :: x) = sgnL (c :: l) := by
  unfold sgnL
  cases l with
  | nil =>
    have h1 : (([c] : List UInt8) ++ e :: x).take 2 = [c, e] := by simp
    have h2 : ([c] : List UInt8).take 2 ∉ sgnTwo := by simp [sgnTwo]
    rw [h1, if_neg (he.2.2.2 c), if_neg h2]
    simp
  | cons d l => simp
theorem nextL_app (e : UInt8) (he : sepB e) (x : List UInt8) (c : UInt8) (l : List UInt8) : nextL (c :: l ++ e :: x) = nextL (c :: l) := by
  have h0 : (c :: l ++ e :: x).headD 0 = (c :: l).headD 0 := by simp
  have h1 := take_span isInn e he.1 x (c :: l)
  have h2 := take_span isDig e he.2.1 x (c :: l)
  have h3 := spanL_app isInn e he.1 x (c :: l)
  have h4 := spanL_app isDig e he.2.1 x (c :: l)
  have h5 := sgnL_app e he x c l
  have h6 : (spanL isDig (c :: l ++ e :: x) < (c :: l ++ e :: x).length ∧ isInn (((c :: l ++ e :: x).drop (spanL isDig (c :: l ++ e :: x))).headD 0).toNat = true) ↔ (spanL isDig (c :: l) < (c :: l).length ∧ isInn (((c :: l).drop (spanL isDig (c :: l))).headD 0).toNat = true) := by
    rw [h4]
    have hle := span_le isDig (c :: l)
    rcases Nat.lt_or_ge (spanL isDig (c :: l)) (c :: l).length with hlt | hge
    · have hlt2 : spanL isDig (c :: l) < (c :: l ++ e :: x).length := by rw [List.length_append]; omega
      have hd : ((c :: l ++ e :: x).drop (spanL isDig (c :: l))).headD 0 = ((c :: l).drop (spanL isDig (c :: l))).headD 0 := by
        rw [List.drop_append_of_le_length hle]
        have hne : (c :: l).drop (spanL isDig (c :: l)) ≠ [] := by
          intro h; rw [List.drop_eq_nil_iff] at h; omega
        cases hdr : (c :: l).drop (spanL isDig (c :: l)) with
        | nil => exact absurd hdr hne
        | cons a b => simp
      rw [hd]
      exact ⟨fun h => ⟨hlt, h.2⟩, fun h => ⟨hlt2, h.2⟩⟩
    · have heq : spanL isDig (c :: l) = (c :: l).length := by omega
      constructor
      · intro h
        rw [heq] at h
        rw [List.drop_append_of_le_length (Nat.le_refl _), List.drop_length] at h
        have h7 := h.2
        simp only [List.nil_append, List.headD_cons] at h7
        rw [he.1] at h7
        cases h7
      · intro h; omega
  unfold nextL
  rw [h0, h1, h2, h3, h5]
  simp only [h6]
theorem tokAt_app {e : UInt8} (he : sepB e) (x : List UInt8) {c : UInt8} {l : List UInt8} : tokAt c (l ++ e :: x) ↔ tokAt c l := by
  unfold tokAt
  cases l with
  | nil =>
    simp only [List.nil_append, List.headD_cons, List.headD_nil]
    constructor
    · rintro ⟨h1, h2, h3⟩
      exact ⟨h1, h2, fun h => absurd h.2 (by decide)⟩
    · rintro ⟨h1, h2, h3⟩
      exact ⟨h1, h2, fun h => he.2.2.1 h.2⟩
  | cons d l => simp
def lfs (l : List UInt8) : Nat := (l.filter (· == 10)).length
theorem lfs_lf (l : List UInt8) : lfs (10 :: l) = lfs l + 1 := by simp [lfs]
theorem lfs_other {c : UInt8} (h : c ≠ 10) (l : List UInt8) : lfs (c :: l) = lfs l := by simp [lfs, h]
theorem lfs_nil : lfs [] = 0 := rfl
theorem lfs_drop : ∀ (k : Nat) (l : List UInt8), (∀ c ∈ l.take k, c ≠ 10) → lfs (l.drop k) = lfs l
  | 0, l, _ => rfl
  | k + 1, [], _ => rfl
  | k + 1, c :: l, h => by
    rw [List.drop_succ_cons, lfs_drop k l (fun x hx => h x (by rw [List.take_succ_cons]; exact List.mem_cons_of_mem _ hx)), lfs_other (h c (by simp))]
/-- The first result, then the second: an error of the first stays. -/
def joinR (q z : List S27 × Int × Int) : List S27 × Int × Int := if q.2.1 = 0 then comb q.1 z else q
theorem comb_comb (ts us : List S27) (z : List S27 × Int × Int) : comb ts (comb us z) = comb (ts ++ us) z := by
  unfold comb
  by_cases h : z.2.1 = 0
  · rw [if_pos h, if_pos rfl, if_pos h]; simp
  · rw [if_neg h, if_neg h, if_neg h]
theorem mem_spanL (p : Int → Bool) : ∀ (l : List UInt8), ∀ c ∈ l.take (spanL p l), p (c.toNat : Int) = true
  | [], c, h => by simp at h
  | a :: l, c, h => by
    rw [spanL_cons] at h
    by_cases ha : p (a.toNat : Int) = true
    · rw [if_pos ha, List.take_succ_cons] at h
      rcases List.mem_cons.1 h with rfl | h
      · exact ha
      · exact mem_spanL p l c h
    · rw [if_neg ha] at h; simp at h
/-- A token has no line feed. -/
theorem nextL_nolf {r : List UInt8} (h : (nextL r).2.2 = 0) : ∀ c ∈ (nextL r).2.1, c ≠ 10 := by
  intro c hc h10
  subst h10
  unfold nextL at h hc
  by_cases hl : isLet (r.headD 0).toNat = true
  · rw [if_pos hl] at h hc
    by_cases hn : 12 < spanL isInn r
    · rw [if_pos hn] at hc; simp at hc
    · rw [if_neg hn] at hc
      have := mem_spanL isInn r 10 hc
      exact absurd this (by decide)
  · rw [if_neg hl] at h hc
    by_cases hd : isDig (r.headD 0).toNat = true
    · rw [if_pos hd] at h hc
      split at hc
      · simp at hc
      · have := mem_spanL isDig r 10 hc
        exact absurd this (by decide)
    · rw [if_neg hd] at h hc
      split at hc
      · simp at hc
      · have hs : (10 : UInt8) ∈ sgnL r := hc
        unfold sgnL at hs
        split at hs
        · rename_i h2
          simp only [sgnTwo, List.mem_cons, List.not_mem_nil, or_false] at h2
          rcases h2 with h2 | h2 | h2 | h2 | h2 | h2 <;> rw [h2] at hs <;> simp at hs
        · split at hs
          · rename_i h2
            cases r with
            | nil => simp at hs
            | cons a r =>
              simp only [List.take_succ_cons, List.take_zero, List.mem_singleton] at hs
              have h3 := h2.2
              simp only [List.headD_cons] at h3
              rw [← hs] at h3
              exact absurd h3 (by decide)
          · simp at hs
/-- A text, a byte that ends each token, and more. -/
theorem scan_app (e : UInt8) (he : sepB e) (x : List UInt8) (H : ∀ n, scanT (e :: x) n = scanL (e :: x) n) (d : Nat) : ∀ (l : List UInt8), l.length ≤ d → ∀ n,
    scanL (l ++ e :: x) n = joinR (scanL l n) (scanL (e :: x) (n + lfs l)) ∧ scanT (l ++ e :: x) n = joinR (scanT l n) (scanL (e :: x) (n + lfs l)) := by
  have hnil : ∀ z : List S27 × Int × Int, (z.2.1 = 0 → z.2.2 = 0) → (z.2.1 ≠ 0 → z.1 = []) → joinR ([], 0, 0) z = z := by
    intro z h1 h2
    show comb [] z = z
    exact comb_nil z h1 h2
  have hb : ∀ n, joinR ([], 0, 0) (scanL (e :: x) n) = scanL (e :: x) n := fun n => hnil _ (scanL_zero _ _) (scanL_err _ _)
  induction d with
  | zero =>
    intro l hl n
    have e0 : l = [] := List.length_eq_zero_iff.1 (by omega)
    subst e0
    rw [List.nil_append, lfs_nil, Nat.add_zero, scanL_nil, scanT_nil, hb, H]
    exact ⟨rfl, rfl⟩
  | succ d ih =>
    intro l hl n
    cases l with
    | nil =>
      rw [List.nil_append, lfs_nil, Nat.add_zero, scanL_nil, scanT_nil, hb, H]
      exact ⟨rfl, rfl⟩
    | cons c l =>
      have hl' : l.length ≤ d := by rw [List.length_cons] at hl; omega
      by_cases h10 : c = 10
      · subst h10
        have h1 := (ih l hl' (n + 1)).1
        rw [List.cons_append, scanT_lf, scanT_lf, scanL_lf, scanL_lf, lfs_lf, h1, show n + 1 + lfs l = n + (lfs l + 1) from by omega]
        exact ⟨rfl, rfl⟩
      · refine ⟨?_, by rw [List.cons_append, scanT_other h10, scanT_other h10, lfs_other h10]; exact (ih l hl' n).2⟩
        by_cases hbl : c = 32 ∨ c = 9 ∨ c = 13
        · rw [List.cons_append, scanL_bl h10 hbl, scanL_bl h10 hbl, lfs_other h10]; exact (ih l hl' n).1
        · by_cases hcm : c = 47 ∧ l.headD 0 = 47
          · have hcm2 : c = 47 ∧ (l ++ e :: x).headD 0 = 47 := by
              refine ⟨hcm.1, ?_⟩
              cases l with
              | nil => have := hcm.2; simp at this
              | cons a b => simpa using hcm.2
            rw [List.cons_append, scanL_cm h10 hbl hcm2, scanL_cm h10 hbl hcm, lfs_other h10]; exact (ih l hl' n).2
          · have ht : tokAt c l := ⟨h10, hbl, hcm⟩
            have ht2 : tokAt c (l ++ e :: x) := (tokAt_app he x).2 ht
            have hnx := nextL_app e he x c l
            rw [List.cons_append] at hnx ⊢
            by_cases hz : (nextL (c :: l)).2.2 = 0
            · have hp := nextL_pos (r := c :: l) (by simp) hz
              have hle := nextL_le (r := c :: l) (by simp) hz
              have hno := nextL_nolf hz
              have hdl : ((c :: l).drop (nextL (c :: l)).2.1.length).length ≤ d := by rw [List.length_drop, List.length_cons]; omega
              have h1 := (ih _ hdl n).1
              have hlf : lfs ((c :: l).drop (nextL (c :: l)).2.1.length) = lfs (c :: l) := lfs_drop _ _ (by rw [← hp.2]; exact hno)
              rw [hlf] at h1
              have hda : (c :: (l ++ e :: x)).drop (nextL (c :: l)).2.1.length = (c :: l).drop (nextL (c :: l)).2.1.length ++ e :: x := by
                rw [← List.cons_append, List.drop_append_of_le_length hle]
              rw [scanL_ok ht n hz, scanL_ok ht2 n (by rw [hnx]; exact hz), hnx, hda, h1]
              generalize scanL ((c :: l).drop (nextL (c :: l)).2.1.length) n = q
              generalize scanL (e :: x) (n + lfs (c :: l)) = z
              unfold joinR
              by_cases hq : q.2.1 = 0
              · rw [if_pos hq, if_pos hq, if_pos rfl]
                unfold comb
                by_cases hzz : z.2.1 = 0
                · rw [if_pos hzz, if_pos rfl, if_pos hzz]; rfl
                · rw [if_neg hzz, if_neg hzz, if_neg hzz]
              · rw [if_neg hq, if_neg hq, if_neg hq]
            · rw [scanL_bad ht n hz, scanL_bad ht2 n (by rw [hnx]; exact hz), hnx]
              unfold joinR
              rw [if_neg hz]
end Go.Proofs.YtdkloonoeklgaaaDoor.X
