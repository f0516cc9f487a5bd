/- The reference's scanner, whole; equal tokens; what the laws ask beside. -/
import Derived.Test.YtdkloonoeklgaaaDoorMh
import Derived.Test.YtdkloonoeklgaaaDoorX8
import Derived.Test.YtdkloonoeklgaaaDoorX9
namespace Go.Proofs.YtdkloonoeklgaaaDoor.X
open Go.RowKit Go.Proofs.YtdkloonoeklgaaaDoorW.PrintWords Go.Proofs.YtdkloonoeklgaaaDoorW.PrintLast Go.Proofs.YtdkloonoeklgaaaDoorW.PrintMore

theorem Ev.pos {α : Type} {c : Prop} [Decidable c] {f g : Nat → Option α} {r : α} (h : c) (k : Ev f r) : Ev (fun n => if c then f n else g n) r := Ev.congr (fun _ => if_pos h) k
theorem Ev.neg {α : Type} {c : Prop} [Decidable c] {f g : Nat → Option α} {r : α} (h : ¬ c) (k : Ev g r) : Ev (fun n => if c then f n else g n) r := Ev.congr (fun _ => if_neg h) k
theorem ref_loop (s : ByteArray) (hs : s.size ≤ 100000) (d : Nat) : ∀ i : Nat, i ≤ s.size → s.size - i ≤ d → ∀ (ts : List S27) (m : Nat), ts.length + (s.size - i) ≤ 1000000 → m + (s.size - i) ≤ 1000000000000 →
    Ev (fun k => interleaveref01_Scan.l0 k s ts m i) (comb ts (scanL (s.data.toList.drop i) m)) ∧ Ev (fun k => interleaveref01_Scan.l1 k s ts m i) (comb ts (scanT (s.data.toList.drop i) m)) := by
  have hend : ∀ (ts : List S27) (m : Nat), Ev (fun k => interleaveref01_Scan.l0 k s ts m (s.size : Nat)) (comb ts (scanL (s.data.toList.drop s.size) m)) ∧ Ev (fun k => interleaveref01_Scan.l1 k s ts m (s.size : Nat)) (comb ts (scanT (s.data.toList.drop s.size) m)) := by
    intro ts m
    rw [drop_end, scanL_nil, scanT_nil]
    have h0 : Ev (fun k => interleaveref01_Scan.l0 k s ts m (s.size : Nat)) (comb ts ([], 0, 0)) := by
      refine ⟨1, fun k hk => ?_⟩
      obtain ⟨k, rfl⟩ : ∃ m, k = m + 1 := ⟨k - 1, by omega⟩
      simp only [interleaveref01_Scan.l0]
      rw [if_neg (by omega)]
      simp [comb]
    refine ⟨h0, Ev.step (fun k => ?_) h0⟩
    simp only [interleaveref01_Scan.l1]
    rw [if_neg (by omega)]
  induction d with
  | zero =>
    intro i hi hd ts m _ _
    have e : i = s.size := by omega
    subst e
    exact hend ts m
  | succ d ih =>
    intro i hi hd ts m hts hm
    by_cases hlt : i < s.size
    · obtain ⟨c, hc, hb⟩ := drop_at s i hlt
      have a1 : (i : Int) < (s.size : Int) := by omega
      have a2 : (0 : Int) ≤ (i : Int) := Int.natCast_nonneg i
      have a3 : wrap64 ((i : Int) + 1) = ((i + 1 : Nat) : Int) := wrap_nat i (by omega)
      have a4 : wrap64 ((m : Int) + 1) = ((m + 1 : Nat) : Int) := wrap_nat m (by omega)
      have b10 : ((c.toNat : Int) = 10) ↔ c = 10 := byte_eq c 10
      have b32 : ((c.toNat : Int) = 32) ↔ c = 32 := byte_eq c 32
      have b9 : ((c.toNat : Int) = 9) ↔ c = 9 := byte_eq c 9
      have b13 : ((c.toNat : Int) = 13) ↔ c = 13 := byte_eq c 13
      have b47 : ((c.toNat : Int) = 47) ↔ c = 47 := byte_eq c 47
      have ihn := ih (i + 1) (by omega) (by omega)
      have key : ∀ k, interleaveref01_Scan.l0 (k + 1) s ts m i = interleaveref01_Scan.j1 k s ts m i (bt s i) i (decide (c = 32 ∨ c = 9 ∨ c = 13 ∨ c = 10)) := by
        intro k
        simp only [interleaveref01_Scan.l0]
        rw [if_pos a1, if_pos a2, hb]
        by_cases h32 : c = 32
        · rw [if_pos (b32.2 h32), decide_eq_true (.inl h32)]
        rw [if_neg (fun h => h32 (b32.1 h))]
        by_cases h9 : c = 9
        · rw [if_pos (b9.2 h9), decide_eq_true (.inr (.inl h9))]
        rw [if_neg (fun h => h9 (b9.1 h))]
        by_cases h13 : c = 13
        · rw [if_pos (b13.2 h13), decide_eq_true (.inr (.inr (.inl h13)))]
        rw [if_neg (fun h => h13 (b13.1 h))]
        congr 1
        rw [Bool.eq_iff_iff, beq_iff_eq, b10, decide_eq_true_iff]
        simp [h32, h9, h13]
      have hl1 : c ≠ 10 → Ev (fun k => interleaveref01_Scan.l1 k s ts m i) (comb ts (scanT (c :: s.data.toList.drop (i + 1)) m)) := by
        intro h10
        rw [scanT_other h10]
        refine Ev.step (fun k => ?_) (ihn ts m (by omega) (by omega)).2
        simp only [interleaveref01_Scan.l1]
        rw [if_pos a1, if_pos a2, hb, if_neg (fun h => h10 (b10.1 h)), a3]
      rw [hc]
      have hl0 : Ev (fun k => interleaveref01_Scan.l0 k s ts m i) (comb ts (scanL (c :: s.data.toList.drop (i + 1)) m)) := by
        refine Ev.step key ?_
        by_cases h10 : c = 10
        · rw [decide_eq_true (.inr (.inr (.inr h10)))]
          subst h10
          rw [scanL_lf]
          refine Ev.step (fun k => ?_) (ihn ts (m + 1) (by omega) (by omega)).1
          simp only [interleaveref01_Scan.j1]
          rw [if_pos (by trivial), hb, if_pos (by rfl), a3, a4]
        by_cases hbl : c = 32 ∨ c = 9 ∨ c = 13
        · rw [decide_eq_true (by rcases hbl with h | h | h <;> simp [h]), scanL_bl h10 hbl]
          refine Ev.step (fun k => ?_) (ihn ts m (by omega) (by omega)).1
          simp only [interleaveref01_Scan.j1]
          rw [if_pos (by trivial), hb, if_neg (fun h => h10 (b10.1 h)), a3]
        rw [decide_eq_false (by rintro (h | h | h | h); exact hbl (.inl h); exact hbl (.inr (.inl h)); exact hbl (.inr (.inr h)); exact h10 h)]
        have key2 : ∀ k, interleaveref01_Scan.j1 (k + 1) s ts m i (bt s i) i false = interleaveref01_Scan.j2 k s ts m i (bt s i) i (decide (c = 47 ∧ (s.data.toList.drop (i + 1)).headD 0 = 47)) := by
          intro k
          simp only [interleaveref01_Scan.j1]
          rw [if_neg (by simp), hb]
          by_cases h47 : c = 47
          · rw [if_pos (b47.2 h47), a3]
            by_cases hl2 : i + 1 < s.size
            · obtain ⟨c2, hc2, hb2⟩ := drop_at s (i + 1) hl2
              rw [if_pos (by omega), if_pos (by omega), hc2, hb2, List.headD_cons]
              congr 1
              have b47b : ((c2.toNat : Int) = 47) ↔ c2 = 47 := byte_eq c2 47
              rw [Bool.eq_iff_iff, beq_iff_eq, b47b, decide_eq_true_iff]
              simp [h47]
            · have e : i + 1 = s.size := by omega
              rw [if_neg (by omega), e, drop_end]
              rw [decide_eq_false (by simp)]
          · rw [if_neg (fun h => h47 (b47.1 h)), decide_eq_false (fun h => h47 h.1)]
        refine Ev.step key2 ?_
        by_cases hcm : c = 47 ∧ (s.data.toList.drop (i + 1)).headD 0 = 47
        · rw [decide_eq_true hcm, scanL_cm h10 hbl hcm, ← scanT_other h10]
          refine Ev.step (fun k => ?_) (hl1 h10)
          simp only [interleaveref01_Scan.j2]
          rw [if_pos (by trivial)]
        · rw [decide_eq_false hcm]
          refine ref_tok s hs ts m i (by omega) c _ hc hb ⟨h10, hbl, hcm⟩ (fun n t hn hin => ?_)
          exact (ih (i + n) (by omega) (by omega) (ts ++ [t]) m (by rw [List.length_append, List.length_singleton]; omega) (by omega)).1
      refine ⟨hl0, ?_⟩
      by_cases h10 : c = 10
      · subst h10
        rw [scanT_lf]
        refine Ev.step (fun k => ?_) hl0
        simp only [interleaveref01_Scan.l1]
        rw [if_pos a1, if_pos a2, hb, if_pos (by rfl)]
      · exact hl1 h10
    · have e : i = s.size := by omega
      subst e
      exact hend ts m
theorem ref_ev (s : ByteArray) (hs : s.size ≤ 4096) : Ev (fun k => interleaveref01_Scan.f k s) (scanL s.data.toList 1) := by
  have h := (ref_loop s (by omega) s.size 0 (by omega) (by omega) [] 1 (by rw [List.length_nil]; omega) (by omega)).1
  rw [List.drop_zero, comb_nil _ (scanL_zero _ _) (scanL_err _ _)] at h
  unfold interleaveref01_Scan.f
  exact Ev.neg (by omega) h
theorem ref_long (s : ByteArray) (hs : 4096 < s.size) (k : Nat) : interleaveref01_Scan.f k s = some ([], 2, 0) := by
  unfold interleaveref01_Scan.f
  rw [if_pos (by omega)]

theorem same_loop (ts : List S27) (hx : ts.length ≤ 10000000) (d : Nat) : ∀ j : Nat, j ≤ ts.length → ts.length - j = d → Ev (fun k => interleaveref01_SameTokens.l0 k ts ts j) true := by
  induction d with
  | zero =>
    intro j hj hd
    refine ⟨1, fun k hk => ?_⟩
    obtain ⟨k, rfl⟩ : ∃ m, k = m + 1 := ⟨k - 1, by omega⟩
    simp only [interleaveref01_SameTokens.l0]
    rw [if_neg (by omega)]
  | succ d ih =>
    intro j hj hd
    refine Ev.step (fun k => ?_) (ih (j + 1) (by omega) (by omega))
    simp only [interleaveref01_SameTokens.l0]
    rw [if_pos (by omega), if_pos (by omega), if_pos (by omega), if_neg (by simp), wrap_nat j (by omega)]
theorem same_ev (ts : List S27) (hx : ts.length ≤ 10000000) : Ev (fun k => interleaveref01_SameTokens.f k ts ts) true := by
  unfold interleaveref01_SameTokens.f
  refine Ev.pos rfl ?_
  exact same_loop ts hx _ 0 (by omega) rfl
theorem scanR_count (f : Nat) : ∀ (r : List UInt8) (m : Nat), (scanR f r m).1.length ≤ r.length := by
  induction f with
  | zero => intro r m; simp [scanR]
  | succ f ih =>
    intro r m
    rw [scanR]
    by_cases hr : r = []
    · rw [if_pos hr]; simp
    rw [if_neg hr]
    by_cases he : (nextL r).2.2 = 0
    · rw [if_pos he]
      have hp := (nextL_pos hr he).1
      have hle := nextL_le hr he
      have hl := skipC_len false (r.drop (nextL r).2.1.length) m
      rw [List.length_drop] at hl
      have hi := ih (skipC false (r.drop (nextL r).2.1.length) m).1 (skipC false (r.drop (nextL r).2.1.length) m).2
      split
      · rw [List.length_cons]; omega
      · omega
    · rw [if_neg he]; simp
theorem scanL_count (l : List UInt8) (n : Nat) : (scanL l n).1.length ≤ l.length := by
  have h := scanR_count ((skipC false l n).1.length + 1) (skipC false l n).1 (skipC false l n).2
  have h2 := skipC_len false l n
  unfold scanL
  omega

theorem awk : scanL [97, 61, 49] 1 = ([mkTok 1 [97] 1, mkTok 4 [61] 1, mkTok 2 [49] 1], 0, 0) := by rfl
theorem awake_ev : Ev (fun k => interleavelaw01_awake.f k) true := by
  unfold interleavelaw01_awake.f
  have h : Ev (fun k => token_Scan.f k ⟨#[97, 61, 49]⟩) ([mkTok 1 [97] 1, mkTok 4 [61] 1, mkTok 2 [49] 1], 0, 0) := by
    rw [← awk]; exact scan_ev _ (by decide)
  refine Ev.bind h ?_
  have hn : token_IsName.f (⟨#[97]⟩ : ByteArray) = some true := by
    unfold token_IsName.f nameB kwB
    rw [Go.ByteArray.toList_eq]
    rfl
  have hk : token_IsKeyword.f (⟨#[118, 97, 114]⟩ : ByteArray) = some true := by
    rw [kw_f]
    unfold kwB
    rw [Go.ByteArray.toList_eq]
    rfl
  rw [hn, hk]
  simp only [Go.ByteArray.toList_eq, Option.bind_some]
  exact Ev.congr (fun k => by rfl) (Ev.now true)

theorem pureScans : interleavelaw01_TokenScans.Pure := by
  intro a0 _
  refine Ev.rounds (g := fun k => interleavelaw01_TokenScans.f k a0) ?_
  unfold interleavelaw01_TokenScans.f
  by_cases h5 : (a0.size : Int) > 5000
  · exact Ev.pos h5 (Ev.now _)
  refine Ev.neg h5 ?_
  have hfin : ∀ q : List S27 × Int × Int, q.1.length ≤ 10000000 → Ev (fun k => (interleaveref01_SameTokens.f k q.1 q.1).bind fun t230 => (if t230 = true then (if q.2.1 = q.2.1 then (if q.2.2 = q.2.2 then ((interleavelaw01_awake.f k).bind fun t231 => (some t231)) else (some false)) else (some false)) else (some false))) true := by
    intro q hq
    refine Ev.bind (same_ev q.1 hq) ?_
    exact Ev.pos rfl (Ev.pos rfl (Ev.pos rfl (Ev.bind awake_ev (Ev.now _))))
  by_cases h4 : a0.size ≤ 4096
  · refine Ev.bind (scan_ev a0 h4) (Ev.bind (ref_ev a0 h4) (hfin _ ?_))
    have := scanL_count a0.data.toList 1
    rw [size_data] at this
    omega
  · have h1 : Ev (fun k => token_Scan.f k a0) ([], 2, 0) := Ev.congr (fun k => scan_long a0 (by omega) k) (Ev.now _)
    have h2 : Ev (fun k => interleaveref01_Scan.f k a0) ([], 2, 0) := Ev.congr (fun k => ref_long a0 (by omega) k) (Ev.now _)
    exact Ev.bind h1 (Ev.bind h2 (hfin ([], 2, 0) (by simp)))

/-! ### Names -/
theorem rname_loop (s : ByteArray) (hs : s.size ≤ 1000) (d : Nat) : ∀ j : Nat, j ≤ s.size → s.size - j = d → Ev (fun k => interleaveref01_IsName.l0 k s j) ((s.data.toList.drop j).all fun c => isInn (c.toNat : Int)) := by
  induction d with
  | zero =>
    intro j hj hd
    have e : j = s.size := by omega
    subst e
    rw [drop_end]
    refine ⟨1, fun k hk => ?_⟩
    obtain ⟨k, rfl⟩ : ∃ m, k = m + 1 := ⟨k - 1, by omega⟩
    simp only [interleaveref01_IsName.l0]
    rw [if_neg (by omega)]
    rfl
  | succ d ih =>
    intro j hj hd
    obtain ⟨c, hc, hb⟩ := drop_at s j (by omega)
    rw [hc, List.all_cons]
    by_cases h : isInn (c.toNat : Int) = true
    · rw [h, Bool.true_and]
      refine Ev.step (fun k => ?_) (ih (j + 1) (by omega) (by omega))
      simp only [interleaveref01_IsName.l0]
      rw [if_pos (by omega), if_pos (by omega), rinner_f]
      simp only [Option.bind_some]
      rw [hb, if_pos h, wrap_nat j (by omega)]
    · have hf : isInn (c.toNat : Int) = false := by simpa using h
      rw [hf, Bool.false_and]
      refine ⟨1, fun k hk => ?_⟩
      obtain ⟨k, rfl⟩ : ∃ m, k = m + 1 := ⟨k - 1, by omega⟩
      simp only [interleaveref01_IsName.l0]
      rw [if_pos (by omega), if_pos (by omega), rinner_f]
      simp only [Option.bind_some]
      rw [hb, if_neg h]
theorem all_range (s : ByteArray) : ((List.range s.size).all fun i => isInn (bt s i)) = s.data.toList.all fun c => isInn (c.toNat : Int) := by
  rw [Bool.eq_iff_iff, List.all_eq_true, List.all_eq_true]
  constructor
  · intro h c hc
    obtain ⟨i, hi, rfl⟩ := List.getElem_of_mem hc
    have := h i (List.mem_range.2 (by rw [← size_data]; exact hi))
    rw [bt_data s i hi] at this
    exact this
  · intro h i hi
    have hi2 : i < s.data.toList.length := by rw [size_data]; exact List.mem_range.1 hi
    rw [bt_data s i hi2]
    exact h _ (List.getElem_mem hi2)
theorem rname_ev (s : ByteArray) : Ev (fun k => interleaveref01_IsName.f k s) (nameB s) := by
  unfold interleaveref01_IsName.f
  have hj : Ev (fun k => interleaveref01_IsName.j0 k s true) false := by
    refine ⟨1, fun k hk => ?_⟩
    obtain ⟨k, rfl⟩ : ∃ m, k = m + 1 := ⟨k - 1, by omega⟩
    simp only [interleaveref01_IsName.j0]
    rw [if_pos (by trivial)]
  by_cases h1 : (s.size : Int) < 1
  · refine Ev.pos h1 ?_
    have : nameB s = false := by
      unfold nameB
      rw [decide_eq_false (by omega : ¬ 1 ≤ s.size)]; simp
    rw [this]; exact hj
  refine Ev.neg h1 ?_
  by_cases h2 : (s.size : Int) > 12
  · refine Ev.pos h2 ?_
    have : nameB s = false := by
      unfold nameB
      rw [decide_eq_false (by omega : ¬ s.size ≤ 12)]; simp
    rw [this]; exact hj
  refine Ev.neg h2 (Ev.pos (by omega) ?_)
  rw [rletter_f]
  simp only [Option.bind_some]
  have e1 : decide (1 ≤ s.size) = true := decide_eq_true (by omega)
  have e2 : decide (s.size ≤ 12) = true := decide_eq_true (by omega)
  have e3 : decide (s.size = 0) = false := decide_eq_false (by omega)
  have hnb : nameB s = ((s.data.toList.all fun c => isInn (c.toNat : Int)) && isLet (bt s 0) && !kwB s) := by
    unfold nameB
    rw [all_range, e1, e2, e3]; simp
  rw [hnb]
  by_cases hl : isLet (bt s 0) = true
  · refine Ev.pos hl ?_
    rw [hl, Bool.and_true]
    refine Ev.bind (rkw_ev s) ?_
    cases hk : kwB s
    · simp only [Bool.not_false, Bool.and_true]
      have h := rname_loop s (by omega) _ 0 (by omega) rfl
      rw [List.drop_zero] at h
      refine Ev.step (fun k => ?_) h
      simp only [interleaveref01_IsName.j0]
      rw [if_neg (by simp)]
      rfl
    · simp only [Bool.not_true, Bool.and_false]
      exact hj
  · have hf : isLet (bt s 0) = false := by simpa using hl
    refine Ev.neg hl ?_
    rw [hf, Bool.and_false, Bool.false_and]
    exact hj
theorem pureWords : interleavelaw01_TokenWords.Pure := by
  intro a0 _
  refine Ev.rounds (g := fun k => interleavelaw01_TokenWords.f k a0) ?_
  unfold interleavelaw01_TokenWords.f
  by_cases h1 : (a0.size : Int) > 100
  · exact Ev.pos h1 (Ev.now _)
  refine Ev.neg h1 ?_
  rw [show token_IsName.f a0 = some (nameB a0) from rfl]
  simp only [Option.bind_some]
  refine Ev.bind (rname_ev a0) (Ev.pos (by simp) ?_)
  rw [kw_f]
  simp only [Option.bind_some]
  exact Ev.bind (rkw_ev a0) (Ev.pos (by simp) (Ev.bind awake_ev (Ev.now _)))
end Go.Proofs.YtdkloonoeklgaaaDoor.X
