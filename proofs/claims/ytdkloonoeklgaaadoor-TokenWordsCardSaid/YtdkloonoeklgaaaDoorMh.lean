/- The reference's scanner comes to the same plain words. -/
import Derived.Test.YtdkloonoeklgaaaDoorMf
import Derived.Test.YtdkloonoeklgaaaDoorMg
import Derived.Test.YtdkloonoeklgaaaDoorX7
namespace Go.Proofs.YtdkloonoeklgaaaDoor.X
open Go.RowKit Go.Proofs.YtdkloonoeklgaaaDoorW.PrintWords Go.Proofs.YtdkloonoeklgaaaDoorW.PrintLast Go.Proofs.YtdkloonoeklgaaaDoorW.PrintMore

theorem drop_end (s : ByteArray) : s.data.toList.drop s.size = [] := by rw [List.drop_eq_nil_iff, size_data]; exact Nat.le_refl _
theorem ref_span2 (s : ByteArray) (hs : s.size ≤ 100000) (ts : List S27) (m i : Int) (v : List S27 × Int × Int) (d : Nat) : ∀ e : Nat, e ≤ s.size → s.size - e = d →
    Ev (fun k => interleaveref01_Scan.j5 k s ts m i ((e + spanL isInn (s.data.toList.drop e) : Nat) : Int)) v → Ev (fun k => interleaveref01_Scan.l2 k s ts m i (e : Int)) v := by
  induction d with
  | zero =>
    intro e he hd h
    have e1 : e = s.size := by clear h; omega
    subst e1
    rw [drop_end] at h
    refine Ev.step (fun k => ?_) h
    simp only [interleaveref01_Scan.l2]
    rw [if_neg (by clear h; omega)]
    rfl
  | succ d ih =>
    intro e he hd h
    obtain ⟨c, hc, hb⟩ := drop_at s e (by clear h; omega)
    rw [hc, spanL_cons] at h
    have a1 : (e : Int) < (s.size : Int) := by clear h; omega
    have a2 : (0 : Int) ≤ (e : Int) := Int.natCast_nonneg e
    have a3 : wrap64 ((e : Int) + 1) = ((e + 1 : Nat) : Int) := wrap_nat e (by clear h; omega)
    by_cases hi : isInn (c.toNat : Int) = true
    · rw [if_pos hi, show e + (spanL isInn (s.data.toList.drop (e + 1)) + 1) = e + 1 + spanL isInn (s.data.toList.drop (e + 1)) from by clear h; omega] at h
      refine Ev.step (fun k => ?_) (ih (e + 1) (by clear h; omega) (by clear h; omega) h)
      simp only [interleaveref01_Scan.l2]
      rw [if_pos a1, if_pos a2, rinner_f]
      simp only [Option.bind_some]
      rw [hb, if_pos hi, a3]
    · rw [if_neg hi, Nat.add_zero] at h
      refine Ev.step (fun k => ?_) h
      simp only [interleaveref01_Scan.l2]
      rw [if_pos a1, if_pos a2, rinner_f]
      simp only [Option.bind_some]
      rw [hb, if_neg hi]
theorem ref_span3 (s : ByteArray) (hs : s.size ≤ 100000) (ts : List S27) (m i : Int) (v : List S27 × Int × Int) (d : Nat) : ∀ e : Nat, e ≤ s.size → s.size - e = d →
    Ev (fun k => interleaveref01_Scan.j7 k s ts m i ((e + spanL isDig (s.data.toList.drop e) : Nat) : Int)) v → Ev (fun k => interleaveref01_Scan.l3 k s ts m i (e : Int)) v := by
  induction d with
  | zero =>
    intro e he hd h
    have e1 : e = s.size := by clear h; omega
    subst e1
    rw [drop_end] at h
    refine Ev.step (fun k => ?_) h
    simp only [interleaveref01_Scan.l3]
    rw [if_neg (by clear h; omega)]
    rfl
  | succ d ih =>
    intro e he hd h
    obtain ⟨c, hc, hb⟩ := drop_at s e (by clear h; omega)
    rw [hc, spanL_cons] at h
    have a1 : (e : Int) < (s.size : Int) := by clear h; omega
    have a2 : (0 : Int) ≤ (e : Int) := Int.natCast_nonneg e
    have a3 : wrap64 ((e : Int) + 1) = ((e + 1 : Nat) : Int) := wrap_nat e (by clear h; omega)
    by_cases hi : isDig (c.toNat : Int) = true
    · rw [if_pos hi, show e + (spanL isDig (s.data.toList.drop (e + 1)) + 1) = e + 1 + spanL isDig (s.data.toList.drop (e + 1)) from by clear h; omega] at h
      refine Ev.step (fun k => ?_) (ih (e + 1) (by clear h; omega) (by clear h; omega) h)
      simp only [interleaveref01_Scan.l3]
      rw [if_pos a1, if_pos a2, rdigit_f]
      simp only [Option.bind_some]
      rw [hb, if_pos hi, a3]
    · rw [if_neg hi, Nat.add_zero] at h
      refine Ev.step (fun k => ?_) h
      simp only [interleaveref01_Scan.l3]
      rw [if_pos a1, if_pos a2, rdigit_f]
      simp only [Option.bind_some]
      rw [hb, if_neg hi]

theorem ext_mk (s : ByteArray) (i n : Nat) : s.extract i (i + n) = ⟨((s.data.toList.drop i).take n).toArray⟩ := by
  rw [Lib.extract_eq]
  congr 3
  omega
theorem digits_take (l : List UInt8) : ∀ c ∈ l.take (spanL isDig l), isDig (c.toNat : Int) = true := by
  unfold spanL
  rw [← List.prefix_iff_eq_take.1 (List.takeWhile_prefix _)]
  intro c hc
  have := List.all_takeWhile (l := l) (p := fun b => isDig (b.toNat : Int))
  exact List.all_eq_true.1 this c hc

/-- What the loop comes to at the next byte, of a token. -/
theorem ref_tok (s : ByteArray) (hs : s.size ≤ 100000) (ts : List S27) (m i : Nat) (hts : ts.length ≤ 1000000) (c : UInt8) (l : List UInt8) (hc : s.data.toList.drop i = c :: l) (hb : bt s i = (c.toNat : Int)) (ht : tokAt c l)
    (ih : ∀ n (t : S27), 0 < n → i + n ≤ s.size → Ev (fun k => interleaveref01_Scan.l0 k s (ts ++ [t]) m ((i + n : Nat) : Int)) (comb (ts ++ [t]) (scanL (s.data.toList.drop (i + n)) m))) :
    Ev (fun k => interleaveref01_Scan.j2 k s ts m i (bt s i) i false) (comb ts (scanL (c :: l) m)) := by
  have hlen : (c :: l).length = s.size - i := by rw [← hc, List.length_drop, size_data]
  have hpos : 0 < (c :: l).length := by simp
  have hi : i < s.size := by omega
  have i0 : (0 : Int) ≤ (i : Int) := Int.natCast_nonneg i
  have hdd : ∀ n, (c :: l).drop n = s.data.toList.drop (i + n) := fun n => by rw [← hc, List.drop_drop]
  have hcap : ts.length < 4398046511104 := by omega
  by_cases hL : isLet (c.toNat : Int) = true
  · -- a word
    have key : ∀ k, interleaveref01_Scan.j2 (k + 1) s ts m i (bt s i) i false = interleaveref01_Scan.l2 k s ts m i i := by
      intro k
      simp only [interleaveref01_Scan.j2]
      rw [if_neg (by simp), rletter_f]
      simp only [Option.bind_some]
      rw [hb, if_pos hL]
    refine Ev.step key (ref_span2 s hs ts m i _ _ i (by omega) rfl ?_)
    rw [hc]
    have hn := span_le isInn (c :: l)
    have hnx : nextL (c :: l) = if 12 < spanL isInn (c :: l) then (0, [], 2) else (if (c :: l).take (spanL isInn (c :: l)) ∈ kwList then 3 else 1, (c :: l).take (spanL isInn (c :: l)), 0) := by
      unfold nextL; rw [if_pos (by simpa using hL)]
    have hn0 : 0 < spanL isInn (c :: l) := by
      rw [spanL_cons, if_pos (by unfold isInn; rw [hL]; rfl)]
      omega
    generalize spanL isInn (c :: l) = n at *
    have w1 : wrap64 (((i + n : Nat) : Int) - (i : Int)) = (n : Int) := by unfold wrap64; omega
    have w2 : (i : Int) ≤ ((i + n : Nat) : Int) := by omega
    have w3 : ((i + n : Nat) : Int) ≤ (s.size : Int) := by omega
    by_cases hb2 : 12 < n
    · rw [if_pos hb2] at hnx
      rw [comb_bad ht m (by rw [hnx]; decide), hnx]
      refine ⟨1, fun k hk => ?_⟩
      obtain ⟨k, rfl⟩ : ∃ m, k = m + 1 := ⟨k - 1, by omega⟩
      simp only [interleaveref01_Scan.j5]
      rw [w1, if_pos (by omega)]
    · rw [if_neg hb2] at hnx
      have hh := rkw_ev (s.extract i (i + n))
      have hk2 : kwB (s.extract i (i + n)) = decide ((c :: l).take n ∈ kwList) := by
        unfold kwB
        rw [Go.ByteArray.toList_eq, ext_mk, hc]
      have hl2 : ((c :: l).take n).length = n := by rw [List.length_take]; omega
      rw [comb_ok ht m (by rw [hnx]), hnx]
      show Ev _ (comb (ts ++ [mkTok (if (c :: l).take n ∈ kwList then 3 else 1) ((c :: l).take n) m]) (scanL ((c :: l).drop ((c :: l).take n).length) m))
      rw [hl2, hdd]
      have hkey : ∀ k, interleaveref01_Scan.j5 (k + 1) s ts m i ((i + n : Nat) : Int) = (interleaveref01_IsKeyword.f k (s.extract i (i + n))).bind fun t187 => interleaveref01_Scan.l0 k s (ts ++ [⟨if t187 = true then 3 else 1, s.extract i (i + n), m⟩]) m ((i + n : Nat) : Int) := by
        intro k
        simp only [interleaveref01_Scan.j5]
        rw [w1, if_neg (by omega), if_pos i0, if_pos w2, if_pos w3, Int.toNat_natCast, Int.toNat_natCast]
        congr 1
        funext t
        cases t
        · rw [if_neg (by simp), if_pos hcap, if_neg (by simp)]
        · rw [if_pos rfl, if_pos hcap, if_pos rfl]
      refine Ev.step hkey (Ev.bind hh ?_)
      rw [hk2]
      have hfin := ih n (mkTok (if (c :: l).take n ∈ kwList then 3 else 1) ((c :: l).take n) m) hn0 (by omega)
      refine Ev.congr (fun k => ?_) hfin
      unfold mkTok
      rw [ext_mk, hc]
      congr 4
      by_cases hq : (c :: l).take n ∈ kwList
      · rw [if_pos hq, if_pos (decide_eq_true hq)]
      · rw [if_neg hq, if_neg (by rw [decide_eq_false hq]; simp)]
  by_cases hD : isDig (c.toNat : Int) = true
  · -- a number
    have key : ∀ k, interleaveref01_Scan.j2 (k + 1) s ts m i (bt s i) i false = interleaveref01_Scan.l3 k s ts m i i := by
      intro k
      simp only [interleaveref01_Scan.j2]
      rw [if_neg (by simp), rletter_f]
      simp only [Option.bind_some]
      rw [hb, if_neg hL, rdigit_f]
      simp only [Option.bind_some]
      rw [if_pos hD]
    refine Ev.step key (ref_span3 s hs ts m i _ _ i (by omega) rfl ?_)
    rw [hc]
    have hn := span_le isDig (c :: l)
    have hdig := digits_take (c :: l)
    have hnx : nextL (c :: l) = if numBad ((c :: l).take (spanL isDig (c :: l))) = true ∨ (spanL isDig (c :: l) < (c :: l).length ∧ isInn (((c :: l).drop (spanL isDig (c :: l))).headD 0).toNat = true) then (0, [], 3) else (2, (c :: l).take (spanL isDig (c :: l)), 0) := by
      unfold nextL; rw [if_neg (by simpa using hL), if_pos (by simpa using hD)]
    have hn0 : 0 < spanL isDig (c :: l) := by
      rw [spanL_cons, if_pos hD]
      omega
    generalize spanL isDig (c :: l) = n at *
    have w2 : (i : Int) ≤ ((i + n : Nat) : Int) := by omega
    have w3 : ((i + n : Nat) : Int) ≤ (s.size : Int) := by omega
    have w4 : (0 : Int) ≤ ((i + n : Nat) : Int) := by omega
    have hxs : (s.extract i (i + n)).data.toList = (c :: l).take n := by rw [ext_mk, hc]
    have hxz : (s.extract i (i + n)).size = n := by rw [← size_data, hxs, List.length_take]; omega
    obtain ⟨v, hv⟩ := number_ev (s.extract i (i + n)) (by rw [hxz]; omega) (by rw [hxz]; exact hn0) (by rw [hxs]; exact hdig)
    rw [hxs] at hv
    have hl2 : ((c :: l).take n).length = n := by rw [List.length_take]; omega
    have hkey : ∀ k, interleaveref01_Scan.j7 (k + 1) s ts m i ((i + n : Nat) : Int) = (interleaveref01_Number.f k (s.extract i (i + n))).bind fun bt196 => (if bt196.2 = true then (if ((i + n : Nat) : Int) < (s.size : Int) then (if isInn (bt s ((i + n : Nat) : Int)) = true then (some (([] : List (S27)), 3, (m : Int))) else interleaveref01_Scan.l0 k s (ts ++ [⟨2, s.extract i (i + n), m⟩]) m ((i + n : Nat) : Int)) else interleaveref01_Scan.l0 k s (ts ++ [⟨2, s.extract i (i + n), m⟩]) m ((i + n : Nat) : Int)) else some (([] : List (S27)), 3, (m : Int))) := by
      intro k
      simp only [interleaveref01_Scan.j7]
      rw [if_pos i0, if_pos w2, if_pos w3, Int.toNat_natCast, Int.toNat_natCast]
      congr 1
      funext t
      rw [if_pos w4, if_pos hcap, rinner_f]
      simp only [Option.bind_some]
    refine Ev.step hkey (Ev.bind hv ?_)
    by_cases hbad : numBad ((c :: l).take n) = true
    · rw [if_pos (.inl hbad)] at hnx
      rw [comb_bad ht m (by rw [hnx]; decide), hnx, hbad]
      exact Ev.now _
    · have hbf : numBad ((c :: l).take n) = false := by simpa using hbad
      rw [hbf]
      simp only [Bool.not_false, if_true]
      by_cases hlt : n < (c :: l).length
      · have hlt2 : ((i + n : Nat) : Int) < (s.size : Int) := by omega
        obtain ⟨c2, hc2, hb2⟩ := drop_at s (i + n) (by omega)
        have hhd : ((c :: l).drop n).headD 0 = c2 := by rw [hdd, hc2]; rfl
        by_cases hin : isInn (c2.toNat : Int) = true
        · rw [if_pos (.inr ⟨hlt, by rw [hhd]; exact hin⟩)] at hnx
          rw [comb_bad ht m (by rw [hnx]; decide), hnx]
          refine Ev.congr (fun k => ?_) (Ev.now _)
          rw [if_pos hlt2, hb2, if_pos hin]
        · rw [if_neg (by rintro (h | ⟨_, h⟩); exact hbad h; rw [hhd] at h; exact hin h)] at hnx
          rw [comb_ok ht m (by rw [hnx]), hnx]
          show Ev _ (comb (ts ++ [mkTok 2 ((c :: l).take n) m]) (scanL ((c :: l).drop ((c :: l).take n).length) m))
          rw [hl2, hdd]
          refine Ev.congr (fun k => ?_) (ih n (mkTok 2 ((c :: l).take n) m) hn0 (by omega))
          rw [if_pos hlt2, hb2, if_neg hin, ext_mk, hc]
          rfl
      · have hlt2 : ¬ ((i + n : Nat) : Int) < (s.size : Int) := by omega
        rw [if_neg (by rintro (h | ⟨h, _⟩); exact hbad h; exact hlt h)] at hnx
        rw [comb_ok ht m (by rw [hnx]), hnx]
        show Ev _ (comb (ts ++ [mkTok 2 ((c :: l).take n) m]) (scanL ((c :: l).drop ((c :: l).take n).length) m))
        rw [hl2, hdd]
        refine Ev.congr (fun k => ?_) (ih n (mkTok 2 ((c :: l).take n) m) hn0 (by omega))
        rw [if_neg hlt2, ext_mk, hc]
        rfl
  · -- a sign
    have hsg := signAt_ev s hs i (by omega)
    rw [hc] at hsg
    have hnx : nextL (c :: l) = if sgnL (c :: l) = [] then (0, [], 3) else (4, sgnL (c :: l), 0) := by
      unfold nextL; rw [if_neg (by simpa using hL), if_neg (by simpa using hD)]
    have key : ∀ k, interleaveref01_Scan.j2 (k + 1) s ts m i (bt s i) i false = (interleaveref01_signAt.f k s i).bind fun t205 => (if t205.toList = ([] : List UInt8) then (some (([] : List (S27)), 3, (m : Int))) else interleaveref01_Scan.l0 k s (ts ++ [⟨4, t205, m⟩]) m (wrap64 ((i : Int) + (t205.size : Int)))) := by
      intro k
      simp only [interleaveref01_Scan.j2]
      rw [if_neg (by simp), rletter_f]
      simp only [Option.bind_some]
      rw [hb, if_neg hL, rdigit_f]
      simp only [Option.bind_some]
      rw [if_neg hD]
      congr 1
      funext t
      rw [if_pos hcap]
    refine Ev.step key (Ev.bind hsg ?_)
    rw [Go.ByteArray.toList_eq]
    show Ev (fun k => if sgnL (c :: l) = [] then _ else _) _
    by_cases hz : sgnL (c :: l) = []
    · rw [if_pos hz] at hnx
      rw [comb_bad ht m (by rw [hnx]; decide), hnx]
      refine Ev.congr (fun k => ?_) (Ev.now _)
      rw [if_pos hz]
    · rw [if_neg hz] at hnx
      have hp := nextL_pos (r := c :: l) (by simp) (by rw [hnx])
      have hle := nextL_le (r := c :: l) (by simp) (by rw [hnx])
      rw [hnx] at hp hle
      have hp1 : 0 < (sgnL (c :: l)).length := hp.1
      have hle1 : (sgnL (c :: l)).length ≤ (c :: l).length := hle
      have hle2 : i + (sgnL (c :: l)).length ≤ s.size := by omega
      rw [comb_ok ht m (by rw [hnx]), hnx]
      show Ev _ (comb (ts ++ [mkTok 4 (sgnL (c :: l)) m]) (scanL ((c :: l).drop (sgnL (c :: l)).length) m))
      rw [hdd]
      refine Ev.congr (fun k => ?_) (ih _ (mkTok 4 (sgnL (c :: l)) m) hp1 hle2)
      rw [if_neg hz]
      have hsz : ((⟨(sgnL (c :: l)).toArray⟩ : ByteArray).size : Int) = ((sgnL (c :: l)).length : Int) := by
        rw [← size_data]
      have hw : wrap64 ((i : Int) + ((sgnL (c :: l)).length : Int)) = ((i + (sgnL (c :: l)).length : Nat) : Int) := by
        generalize (sgnL (c :: l)).length = q at *
        unfold wrap64
        clear hsg hdd ih
        omega
      rw [hsz, hw]
      rfl
end Go.Proofs.YtdkloonoeklgaaaDoor.X
