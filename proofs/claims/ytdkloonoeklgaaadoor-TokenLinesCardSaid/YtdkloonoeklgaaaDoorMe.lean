/- Scan in plain words: the printed function comes to it. -/
import Derived.Test.YtdkloonoeklgaaaDoorMd
import Derived.Test.YtdkloonoeklgaaaDoorX5
namespace Go.Proofs.YtdkloonoeklgaaaDoor.X
open Go.RowKit Go.Proofs.YtdkloonoeklgaaaDoorW.PrintWords Go.Proofs.YtdkloonoeklgaaaDoorW.PrintLast Go.Proofs.YtdkloonoeklgaaaDoorW.PrintMore

def mkTok (k : Int) (t : List UInt8) (n : Nat) : S27 := ⟨k, ⟨t.toArray⟩, n⟩

/-- The tokens of r, which begins with no blank, from line m on; or an error and its line. -/
def scanR : Nat → List UInt8 → Nat → List S27 × Int × Int
  | 0, _, _ => ([], 0, 0)
  | f + 1, r, m =>
    if r = [] then ([], 0, 0)
    else if (nextL r).2.2 = 0 then
      (if (scanR f (skipC false (r.drop (nextL r).2.1.length) m).1 (skipC false (r.drop (nextL r).2.1.length) m).2).2.1 = 0 then
        (mkTok (nextL r).1 (nextL r).2.1 m :: (scanR f (skipC false (r.drop (nextL r).2.1.length) m).1 (skipC false (r.drop (nextL r).2.1.length) m).2).1, 0, 0)
      else scanR f (skipC false (r.drop (nextL r).2.1.length) m).1 (skipC false (r.drop (nextL r).2.1.length) m).2)
    else ([], (nextL r).2.2, m)
/-- The tokens of l from line n on. -/
def scanL (l : List UInt8) (n : Nat) : List S27 × Int × Int := scanR ((skipC false l n).1.length + 1) (skipC false l n).1 (skipC false l n).2
def comb (ts : List S27) (q : List S27 × Int × Int) : List S27 × Int × Int := if q.2.1 = 0 then (ts ++ q.1, 0, 0) else ([], q.2.1, q.2.2)

theorem nextL_pos {r : List UInt8} (hr : r ≠ []) (h : (nextL r).2.2 = 0) : 0 < (nextL r).2.1.length ∧ (nextL r).2.1 = r.take (nextL r).2.1.length := by
  have hlen : 0 < r.length := List.length_pos_iff.2 hr
  by_cases hl : isLet (r.headD 0).toNat = true
  · have hp : 0 < spanL isInn r := by
      cases r with
      | nil => exact absurd rfl hr
      | cons c l =>
        unfold spanL
        rw [List.takeWhile_cons, if_pos (by unfold isInn; simp only [List.headD_cons] at hl; rw [hl]; rfl)]
        simp
    unfold nextL at h ⊢
    rw [if_pos hl] at h ⊢
    by_cases hn : 12 < spanL isInn r
    · rw [if_pos hn] at h; exact absurd h (by decide)
    · rw [if_neg hn]
      show 0 < (r.take (spanL isInn r)).length ∧ r.take (spanL isInn r) = r.take (r.take (spanL isInn r)).length
      rw [List.length_take_of_le (span_le _ _)]
      exact ⟨hp, rfl⟩
  · by_cases hd : isDig (r.headD 0).toNat = true
    · have hp : 0 < spanL isDig r := by
        cases r with
        | nil => exact absurd rfl hr
        | cons c l =>
          unfold spanL
          rw [List.takeWhile_cons, if_pos (by simpa using hd)]
          simp
      unfold nextL at h ⊢
      rw [if_neg hl, if_pos hd] at h ⊢
      split at h
      · exact absurd h (by decide)
      · rename_i hx
        rw [if_neg hx]
        show 0 < (r.take (spanL isDig r)).length ∧ r.take (spanL isDig r) = r.take (r.take (spanL isDig r)).length
        rw [List.length_take_of_le (span_le _ _)]
        exact ⟨hp, rfl⟩
    · unfold nextL at h ⊢
      rw [if_neg hl, if_neg hd] at h ⊢
      by_cases hs : sgnL r = []
      · rw [if_pos hs] at h; exact absurd h (by decide)
      · rw [if_neg hs]
        show 0 < (sgnL r).length ∧ sgnL r = r.take (sgnL r).length
        refine ⟨List.length_pos_iff.2 hs, ?_⟩
        unfold sgnL at hs ⊢
        by_cases h1 : r.take 2 ∈ sgnTwo
        · rw [if_pos h1]
          rw [List.length_take]
          by_cases h2 : 2 ≤ r.length
          · rw [Nat.min_eq_left h2]
          · rw [Nat.min_eq_right (by omega), List.take_of_length_le (by omega), List.take_of_length_le (by omega)]
        · rw [if_neg h1] at hs ⊢
          by_cases h2 : r.take 1 ≠ [] ∧ r.headD 0 ∈ sgnOne
          · rw [if_pos h2, List.length_take, Nat.min_eq_left (by omega)]
          · rw [if_neg h2] at hs
            exact absurd rfl hs
theorem nextL_le {r : List UInt8} (hr : r ≠ []) (h : (nextL r).2.2 = 0) : (nextL r).2.1.length ≤ r.length := by
  have := (nextL_pos hr h).2
  rw [this]
  exact (List.take_sublist _ _).length_le

theorem skip_at {s : ByteArray} {j m : Nat} (hj : j ≤ s.size) : s.data.toList.drop (s.size - (skipC false (s.data.toList.drop j) m).1.length) = (skipC false (s.data.toList.drop j) m).1 := by
  have h := skipC_drop false (s.data.toList.drop j) m
  have h2 := skipC_len false (s.data.toList.drop j) m
  rw [List.length_drop, size_data] at h h2
  rw [List.drop_drop] at h
  rw [show j + (s.size - j - (skipC false (s.data.toList.drop j) m).1.length) = s.size - (skipC false (s.data.toList.drop j) m).1.length from by omega] at h
  exact h.symm

theorem scan_loop (s : ByteArray) (hs : s.size ≤ 100000) (f : Nat) : ∀ (ts : List S27) (i m : Nat), i ≤ s.size → s.size - i < f → ts.length + (s.size - i) ≤ 1000000 → m + (s.size - i) ≤ 1000000000000000000 →
    Ev (fun k => token_Scan.l0 k s ts s i m) (comb ts (scanR f (s.data.toList.drop i) m)) := by
  induction f with
  | zero => intro ts i m hi hf; omega
  | succ f ih =>
    intro ts i m hi hf hts hm
    by_cases hlt : i < s.size
    · have hne : s.data.toList.drop i ≠ [] := by
        intro h
        have := congrArg List.length h
        rw [List.length_drop, size_data, List.length_nil] at this
        omega
      have hdl : (s.data.toList.drop i).length = s.size - i := by rw [List.length_drop, size_data]
      by_cases he : (nextL (s.data.toList.drop i)).2.2 = 0
      · obtain ⟨hp, _⟩ := nextL_pos hne he
        have hle := nextL_le hne he
        rw [hdl] at hle
        generalize hq : nextL (s.data.toList.drop i) = q at *
        have hstep : ∀ k, token_Scan.l0 (k + 1) s ts s i m = (token_scanner_skip.f k s ((i + q.2.1.length : Nat) : Int) (m : Int)).bind fun b => token_Scan.l0 k s (ts ++ [mkTok q.1 q.2.1 m]) b.1 b.2.1 b.2.2 := by
          intro k
          simp only [token_Scan.l0]
          rw [if_pos (by omega)]
          unfold token_scanner_next.f
          rw [if_pos ⟨by omega, by omega, by omega, by omega⟩, Int.toNat_natCast, hq, if_pos he]
          simp only [Option.bind_some]
          rw [if_pos (by trivial), if_pos (by omega), show wrap64 ((i : Int) + (q.2.1.length : Int)) = ((i + q.2.1.length : Nat) : Int) from by unfold wrap64; omega]
          rfl
        have hskip := skip_ev s (by omega) s.size (i + q.2.1.length) m (by omega) (by omega) (by omega)
        have hln := skipC_line false (s.data.toList.drop (i + q.2.1.length)) m
        have hlen := skipC_len false (s.data.toList.drop (i + q.2.1.length)) m
        rw [List.length_drop, size_data] at hln hlen
        have hat := skip_at (s := s) (j := i + q.2.1.length) (m := m) (by omega)
        have hih := ih (ts ++ [mkTok q.1 q.2.1 m]) (s.size - (skipC false (s.data.toList.drop (i + q.2.1.length)) m).1.length) (skipC false (s.data.toList.drop (i + q.2.1.length)) m).2 (by omega) (by omega) (by rw [List.length_append, List.length_singleton]; omega) (by omega)
        rw [hat] at hih
        refine Ev.step hstep ?_
        have hb := Ev.bind (f := fun k b => token_Scan.l0 k s (ts ++ [mkTok q.1 q.2.1 m]) b.1 b.2.1 b.2.2) hskip hih
        refine Ev.congr (fun k => rfl) ?_
        have hfin : comb ts (scanR (f + 1) (s.data.toList.drop i) m) = comb (ts ++ [mkTok q.1 q.2.1 m]) (scanR f (skipC false (s.data.toList.drop (i + q.2.1.length)) m).1 (skipC false (s.data.toList.drop (i + q.2.1.length)) m).2) := by
          have hdd : (s.data.toList.drop i).drop q.2.1.length = s.data.toList.drop (i + q.2.1.length) := by rw [List.drop_drop]
          rw [scanR, if_neg hne, hq, if_pos he, hdd]
          generalize scanR f (skipC false (s.data.toList.drop (i + q.2.1.length)) m).1 (skipC false (s.data.toList.drop (i + q.2.1.length)) m).2 = z
          unfold comb
          by_cases hz : z.2.1 = 0
          · rw [if_pos hz, if_pos hz]; simp
          · rw [if_neg hz, if_neg hz, if_neg hz]
        rw [hfin]
        exact hb
      · refine ⟨1, fun k hk => ?_⟩
        obtain ⟨k, rfl⟩ : ∃ m, k = m + 1 := ⟨k - 1, by omega⟩
        simp only [token_Scan.l0]
        rw [if_pos (by omega)]
        unfold token_scanner_next.f
        rw [if_pos ⟨by omega, by omega, by omega, by omega⟩, Int.toNat_natCast, if_neg he]
        simp only [Option.bind_some]
        rw [if_neg he, scanR, if_neg hne, if_neg he]
        unfold comb
        rw [if_neg he]
    · have e : i = s.size := by omega
      subst e
      have hz : s.data.toList.drop s.size = [] := by rw [List.drop_eq_nil_iff, size_data]; exact Nat.le_refl _
      refine ⟨1, fun k hk => ?_⟩
      obtain ⟨k, rfl⟩ : ∃ m, k = m + 1 := ⟨k - 1, by omega⟩
      simp only [token_Scan.l0]
      rw [if_neg (by omega), hz, scanR, if_pos rfl]
      simp [comb]

/-- More fuel tells the same. -/
theorem scanR_fuel (f : Nat) : ∀ (g : Nat) (r : List UInt8) (m : Nat), r.length < f → r.length < g → scanR f r m = scanR g r m := by
  induction f with
  | zero => intro g r m h; omega
  | succ f ih =>
    intro g r m h hg
    obtain ⟨g, rfl⟩ : ∃ x, g = x + 1 := ⟨g - 1, by omega⟩
    rw [scanR, scanR]
    by_cases hr : r = []
    · rw [if_pos hr, if_pos hr]
    rw [if_neg hr, if_neg hr]
    by_cases he : (nextL r).2.2 = 0
    · rw [if_pos he, if_pos he]
      have hp := (nextL_pos hr he).1
      have hl := skipC_len false (r.drop (nextL r).2.1.length) m
      rw [List.length_drop] at hl
      have hrl : 0 < r.length := List.length_pos_iff.2 hr
      rw [ih g (skipC false (r.drop (nextL r).2.1.length) m).1 (skipC false (r.drop (nextL r).2.1.length) m).2 (by omega) (by omega)]
    · rw [if_neg he, if_neg he]

theorem scanR_err (f : Nat) : ∀ (r : List UInt8) (m : Nat), (scanR f r m).2.1 ≠ 0 → (scanR f r m).1 = [] := by
  induction f with
  | zero => intro r m h; simp [scanR] at h
  | succ f ih =>
    intro r m h
    rw [scanR] at h ⊢
    by_cases hr : r = []
    · rw [if_pos hr]
    rw [if_neg hr] at h ⊢
    by_cases he : (nextL r).2.2 = 0
    · rw [if_pos he] at h ⊢
      split
      · rename_i hz; rw [if_pos hz] at h; exact absurd rfl h
      · rename_i hz; exact ih _ _ hz
    · rw [if_neg he]
theorem scanR_ok (f : Nat) : ∀ (r : List UInt8) (m : Nat), (scanR f r m).2.1 = 0 → (scanR f r m).2.2 = 0 := by
  induction f with
  | zero => intro r m _; rfl
  | succ f ih =>
    intro r m h
    rw [scanR] at h ⊢
    by_cases hr : r = []
    · rw [if_pos hr]
    rw [if_neg hr] at h ⊢
    by_cases he : (nextL r).2.2 = 0
    · rw [if_pos he] at h ⊢
      split
      · rfl
      · rename_i hz; rw [if_neg hz] at h; exact absurd h hz
    · rw [if_neg he] at h; exact absurd h he
theorem comb_nil (q : List S27 × Int × Int) (h : q.2.1 = 0 → q.2.2 = 0) (h2 : q.2.1 ≠ 0 → q.1 = []) : comb [] q = q := by
  obtain ⟨a, b, c⟩ := q
  unfold comb
  by_cases hb : b = 0
  · have hb2 : b = 0 := hb
    have hc : c = 0 := h hb
    subst hb2; subst hc; rfl
  · have ha : a = [] := h2 hb
    subst ha
    rw [if_neg hb]

/-- Scan, on every text of at most 4096 bytes. -/
theorem scan_ev (s : ByteArray) (hs : s.size ≤ 4096) : Ev (fun k => token_Scan.f k s) (scanL s.data.toList 1) := by
  have h0 := skip_ev s (by omega) s.size 0 1 (by omega) (by omega) (by omega)
  have hl := skipC_len false s.data.toList 1
  have hn := skipC_line false s.data.toList 1
  rw [size_data] at hl hn
  rw [List.drop_zero] at h0
  have hat := skip_at (s := s) (j := 0) (m := 1) (by omega)
  rw [List.drop_zero] at hat
  have h1 := scan_loop s (by omega) ((skipC false s.data.toList 1).1.length + 1) [] (s.size - (skipC false s.data.toList 1).1.length) (skipC false s.data.toList 1).2 (by omega) (by omega) (by rw [List.length_nil]; omega) (by omega)
  rw [hat, comb_nil _ (scanR_ok _ _ _) (scanR_err _ _ _)] at h1
  have hb := Ev.bind (f := fun k b => token_Scan.l0 k s ([] : List S27) b.1 b.2.1 b.2.2) h0 h1
  refine Ev.congr (fun k => ?_) hb
  unfold token_Scan.f
  rw [if_neg (by omega)]
  rfl
theorem scan_long (s : ByteArray) (hs : 4096 < s.size) (k : Nat) : token_Scan.f k s = some ([], 2, 0) := by
  unfold token_Scan.f
  rw [if_pos (by omega)]
end Go.Proofs.YtdkloonoeklgaaaDoor.X
