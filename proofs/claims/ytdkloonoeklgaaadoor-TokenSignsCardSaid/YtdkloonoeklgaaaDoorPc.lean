/- TokenComments, TokenSigns: the plain laws. -/
import Derived.Test.YtdkloonoeklgaaaDoorMj
import Derived.Test.YtdkloonoeklgaaaDoorX8
import Derived.Test.YtdkloonoeklgaaaDoorX12
namespace Go.Proofs.YtdkloonoeklgaaaDoor.X
open Go.RowKit Go.Proofs.YtdkloonoeklgaaaDoorW.PrintWords Go.Proofs.YtdkloonoeklgaaaDoorW.PrintLast Go.Proofs.YtdkloonoeklgaaaDoorW.PrintMore
set_option linter.unusedVariables false

theorem drop_end (s : ByteArray) : s.data.toList.drop s.size = [] := by rw [List.drop_eq_nil_iff, size_data]; exact Nat.le_refl _
theorem same_loop (ts : List S27) (hx : ts.length ≤ 10000000) (d : Nat) : ∀ j : Nat, j ≤ ts.length → ts.length - j = d → Ev (fun k => interleaveref01_SameTokens.l0 k ts ts j) true := by
  induction d with
  | zero =>
    intro j hj hd
    refine ⟨1, fun k hk => ?_⟩
    obtain ⟨k, rfl⟩ : ∃ m, k = m + 1 := ⟨k - 1, by omega⟩
    simp only [interleaveref01_SameTokens.l0]
    rw [if_neg (by omega)]
  | succ d ih =>
    intro j hj hd
    refine Ev.step (fun k => ?_) (ih (j + 1) (by omega) (by omega))
    simp only [interleaveref01_SameTokens.l0]
    rw [if_pos (by omega), if_pos (by omega), if_pos (by omega), if_neg (by simp), wrap_nat j (by omega)]
theorem same_ev (ts : List S27) (hx : ts.length ≤ 10000000) : Ev (fun k => interleaveref01_SameTokens.f k ts ts) true := by
  unfold interleaveref01_SameTokens.f
  refine Ev.pos rfl ?_
  exact same_loop ts hx _ 0 (by omega) rfl

/-! ### Comments -/
theorem scanT_nolf : ∀ (l : List UInt8), (10 : UInt8) ∉ l → ∀ n, scanT l n = ([], 0, 0)
  | [], _, n => rfl
  | c :: l, h, n => by
    have hc : c ≠ 10 := fun e => h (by rw [e]; exact List.mem_cons_self)
    rw [scanT_other hc]
    exact scanT_nolf l (fun h2 => h (List.mem_cons_of_mem _ h2)) n
theorem scan_comment (l : List UInt8) (h : (10 : UInt8) ∉ l) (n : Nat) : scanL (32 :: 47 :: 47 :: l) n = ([], 0, 0) := by
  rw [scanL_bl (by decide) (.inl rfl), scanL_cm (by decide) (by decide) ⟨rfl, rfl⟩]
  exact scanT_nolf _ (fun h2 => by
    rcases List.mem_cons.1 h2 with h3 | h3
    · exact absurd h3 (by decide)
    · exact h h3) n
theorem scan_with_comment (a l : List UInt8) (h : (10 : UInt8) ∉ l) (n : Nat) : scanL (a ++ 32 :: 47 :: 47 :: l) n = scanL a n := by
  have hno : (10 : UInt8) ∉ (32 :: 47 :: 47 :: l : List UInt8) := by
    intro h2
    simp only [List.mem_cons] at h2
    rcases h2 with h2 | h2 | h2 | h2
    · exact absurd h2 (by decide)
    · exact absurd h2 (by decide)
    · exact absurd h2 (by decide)
    · exact h h2
  have H : ∀ n, scanT (32 :: 47 :: 47 :: l) n = scanL (32 :: 47 :: 47 :: l) n := fun n => by rw [scan_comment l h, scanT_nolf _ hno]
  rw [(scan_app 32 sep_bl (47 :: 47 :: l) H a.length a (Nat.le_refl _) n).1, scan_comment l h]
  have hz := scanL_zero a n
  generalize scanL a n = q at hz ⊢
  unfold joinR
  by_cases hq : q.2.1 = 0
  · rw [if_pos hq]
    show (q.1 ++ [], (0 : Int), (0 : Int)) = q
    rw [List.append_nil]
    exact Prod.ext rfl (Prod.ext hq.symm (hz hq).symm)
  · rw [if_neg hq]
theorem comments_loop (a b : ByteArray) (hb : b.size ≤ 100000) (d : Nat) : ∀ j : Nat, j ≤ b.size → b.size - j = d →
    ((10 : UInt8) ∉ b.data.toList.drop j → Ev (fun k => interleavelaw01_TokenComments.l0 k a b (b.size : Nat)) true) → Ev (fun k => interleavelaw01_TokenComments.l0 k a b (j : Int)) true := by
  induction d with
  | zero =>
    intro j hj hd h
    have e : j = b.size := by clear h; omega
    subst e
    exact h (by rw [drop_end]; simp)
  | succ d ih =>
    intro j hj hd h
    obtain ⟨c, hc, hbt⟩ := drop_at b j (by clear h; omega)
    rw [hc] at h
    have b10 : ((c.toNat : Int) = 10) ↔ c = 10 := byte_eq c 10
    by_cases h10 : c = 10
    · refine ⟨1, fun k hk => ?_⟩
      obtain ⟨k, rfl⟩ : ∃ m, k = m + 1 := ⟨k - 1, by clear h; omega⟩
      simp only [interleavelaw01_TokenComments.l0]
      rw [if_pos (by clear h; omega), if_pos (by clear h; omega), hbt, if_pos (b10.2 h10)]
    · refine Ev.step (fun k => ?_) (ih (j + 1) (by clear h; omega) (by clear h; omega) (fun hn => h (fun h2 => ?_)))
      · simp only [interleavelaw01_TokenComments.l0]
        rw [if_pos (by clear h; omega), if_pos (by clear h; omega), hbt, if_neg (fun h2 => h10 (b10.1 h2)), wrap_nat j (by clear h; omega)]
      · rcases List.mem_cons.1 h2 with h3 | h3
        · exact h10 h3.symm
        · exact hn h3
theorem pureComments : interleavelaw01_TokenComments.Pure := by
  intro a b _ _
  refine Ev.rounds (g := fun k => interleavelaw01_TokenComments.f k a b) ?_
  have htrue : Ev (fun k => interleavelaw01_TokenComments.j0 k a b true) true := by
    refine ⟨1, fun k hk => ?_⟩
    obtain ⟨k, rfl⟩ : ∃ m, k = m + 1 := ⟨k - 1, by omega⟩
    simp only [interleavelaw01_TokenComments.j0]
    rw [if_pos (by trivial)]
  unfold interleavelaw01_TokenComments.f
  by_cases h1 : (a.size : Int) > 500
  · exact Ev.pos h1 htrue
  refine Ev.neg h1 ?_
  by_cases h2 : (b.size : Int) > 500
  · rw [decide_eq_true h2]; exact htrue
  rw [decide_eq_false h2]
  have hl : Ev (fun k => interleavelaw01_TokenComments.l0 k a b ((0 : Nat) : Int)) true := by
    refine comments_loop a b (by omega) _ 0 (by omega) rfl (fun hno => ?_)
    rw [List.drop_zero] at hno
    have hs1 := scan_ev a (by omega)
    have hsz : ((a ++ (⟨#[32, 47, 47]⟩ : ByteArray)) ++ b).size = a.size + 3 + b.size := by rw [size_app, size_app]; rfl
    have hs2 := scan_ev ((a ++ (⟨#[32, 47, 47]⟩ : ByteArray)) ++ b) (by rw [hsz]; omega)
    have hd : ((a ++ (⟨#[32, 47, 47]⟩ : ByteArray)) ++ b).data.toList = a.data.toList ++ 32 :: 47 :: 47 :: b.data.toList := by
      rw [data_app, data_app]; simp
    rw [hd, scan_with_comment _ _ hno] at hs2
    have hf := (scanL_facts a.data.toList 1).1
    rw [size_data] at hf
    generalize scanL a.data.toList 1 = q at hs1 hs2 hf
    have hfin : Ev (fun k => (interleaveref01_SameTokens.f k q.1 q.1).bind fun t290 => (if t290 = true then (if q.2.1 = q.2.1 then (if q.2.2 = q.2.2 then ((interleavelaw01_awake.f k).bind fun t291 => (some t291)) else (some false)) else (some false)) else (some false))) true :=
      Ev.bind (same_ev q.1 (by omega)) (Ev.pos rfl (Ev.pos rfl (Ev.pos rfl awake_some)))
    have hb2 : Ev (fun k => (token_Scan.f k a).bind fun bt280 => ((token_Scan.f k ((a ++ (⟨#[32, 47, 47]⟩ : ByteArray)) ++ b)).bind fun bt285 => ((interleaveref01_SameTokens.f k bt280.1 bt285.1).bind fun t290 => (if t290 = true then (if bt280.2.1 = bt285.2.1 then (if bt280.2.2 = bt285.2.2 then ((interleavelaw01_awake.f k).bind fun t291 => (some t291)) else (some false)) else (some false)) else (some false))))) true :=
      Ev.bind hs1 (Ev.bind hs2 hfin)
    refine Ev.step (fun k => ?_) hb2
    simp only [interleavelaw01_TokenComments.l0]
    rw [if_neg (by omega)]
    congr 1
    funext z
    rw [if_pos (by omega), if_pos (by rw [size_app]; show a.size + 3 + b.size ≤ _; omega)]
  refine Ev.step (fun k => ?_) hl
  simp only [interleavelaw01_TokenComments.j0]
  rw [if_neg (by simp)]
  rfl

/-! ### Signs -/
theorem wf_u8 {x : Int} (h : (Lit.int .u8 x).wf = true) : 0 ≤ x ∧ x ≤ 255 := by
  simpa [Lit.wf, IntKind.min, IntKind.max, IntKind.signed, IntKind.bits] using h
def pick (x : Int) : ByteArray := signsB.getD (x.toNat % 23) ⟨#[]⟩
theorem signsB_len : signsB.length = 23 := rfl
theorem pick_mem (x : Int) : pick x ∈ signsB := by
  have h : x.toNat % 23 < signsB.length := by rw [signsB_len]; omega
  unfold pick
  rw [List.getD_eq_getElem?_getD, List.getElem?_eq_getElem h, Option.getD_some]
  exact List.getElem_mem h
theorem tmod_pick {x : Int} (h : 0 ≤ x ∧ x ≤ 255) : Int.tmod (wrap64 x) (signsB.length : Int) = ((x.toNat % 23 : Nat) : Int) := by
  obtain ⟨n, rfl⟩ : ∃ n : Nat, x = n := ⟨x.toNat, by omega⟩
  have w : wrap64 (n : Int) = (n : Int) := by unfold wrap64; omega
  rw [w, signsB_len, Int.toNat_natCast]
  rfl
theorem pick_rd {x : Int} (h : 0 ≤ x ∧ x ≤ 255) : rdOf ByteArray.empty signsB (Int.tmod (wrap64 x) (signsB.length : Int)) = pick x := by
  rw [tmod_pick h]
  unfold rdOf pick
  rw [Int.toNat_natCast]
  have h2 : x.toNat % 23 < signsB.length := by rw [signsB_len]; omega
  rw [List.getD_eq_getElem?_getD, List.getD_eq_getElem?_getD, List.getElem?_eq_getElem h2]
  rfl
theorem pick_size (x : Int) : (pick x).size ≤ 2 := by
  have h := pick_mem x
  simp only [signsB, List.mem_cons, List.not_mem_nil, or_false] at h
  rcases h with h | h | h | h | h | h | h | h | h | h | h | h | h | h | h | h | h | h | h | h | h | h | h <;> rw [h] <;> decide
theorem rd_int (xs : List Int) (j : Nat) (h : j < xs.length) : rd xs (j : Int) = xs[j] := by
  unfold rd; rw [Int.toNat_natCast]; simp [List.getD, h]
theorem sjoin_len : ∀ xs : List Int, (sjoin (xs.map pick)).length ≤ 3 * xs.length
  | [] => by simp [sjoin]
  | x :: xs => by
    have ih := sjoin_len xs
    have hp := pick_size x
    have e : sjoin ((x :: xs).map pick) = (pick x).data.toList ++ 32 :: sjoin (xs.map pick) := by simp [sjoin]
    rw [e, List.length_append, List.length_cons, size_data, List.length_cons]
    omega
theorem signs_join (xs : List Int) (hw : ∀ x ∈ xs, 0 ≤ x ∧ x ≤ 255) (v : Bool) (hx : xs.length ≤ 1000) (d : Nat) : ∀ (j : Nat) (A : ByteArray), j ≤ xs.length → xs.length - j = d → A.size + 3 * d ≤ 100000 →
    (∀ B : ByteArray, B.data.toList = A.data.toList ++ sjoin ((xs.drop j).map pick) → Ev (fun k => interleavelaw01_TokenSigns.l0 k xs signsB B (xs.length : Nat)) v) → Ev (fun k => interleavelaw01_TokenSigns.l0 k xs signsB A (j : Int)) v := by
  induction d with
  | zero =>
    intro j A hj hd hz h
    have e : j = xs.length := by clear h; omega
    subst e
    exact h A (by rw [List.drop_length]; simp [sjoin])
  | succ d ih =>
    intro j A hj hd hz h
    have hlt : j < xs.length := by clear h; omega
    have hv := hw xs[j] (List.getElem_mem hlt)
    have ed := List.drop_eq_getElem_cons hlt
    have hps := pick_size xs[j]
    have e2 : sjoin ((xs.drop j).map pick) = (pick xs[j]).data.toList ++ 32 :: sjoin ((xs.drop (j + 1)).map pick) := by
      rw [ed, List.map_cons]
      unfold sjoin
      rw [List.flatMap_cons, List.append_assoc]
      rfl
    rw [e2] at h
    have z1 : A.size + (pick xs[j]).size ≤ 9223372036854775807 := by clear h; omega
    have z2 : (A ++ pick xs[j]).size + 1 ≤ 9223372036854775807 := by rw [size_app]; clear h; omega
    have z3 : ((A ++ pick xs[j]) ++ (⟨#[32]⟩ : ByteArray)).size + 3 * d ≤ 100000 := by
      rw [size_app, size_app, show (⟨#[32]⟩ : ByteArray).size = 1 from rfl]; clear h; omega
    have t0 : ¬ (signsB.length : Int) = 0 := by rw [signsB_len]; decide
    have t1 : 0 ≤ Int.tmod (wrap64 xs[j]) (signsB.length : Int) := by rw [tmod_pick hv]; exact Int.natCast_nonneg _
    have t2 : Int.tmod (wrap64 xs[j]) (signsB.length : Int) < (signsB.length : Int) := by rw [tmod_pick hv, signsB_len]; clear h; omega
    refine Ev.step (fun k => ?_) (ih (j + 1) ((A ++ pick xs[j]) ++ (⟨#[32]⟩ : ByteArray)) (by clear h; omega) (by clear h; omega) z3 (fun B hB => h B ?_))
    · simp only [interleavelaw01_TokenSigns.l0]
      rw [if_pos (by clear h; omega), if_pos (by clear h; omega), rd_int xs j hlt, if_neg t0, if_pos t1, if_pos t2, pick_rd hv, if_pos z1, if_pos z2, wrap_nat j (by clear h; omega)]
    · rw [hB, data_app, data_app]; simp
theorem signs_same (xs : List Int) (hw : ∀ x ∈ xs, 0 ≤ x ∧ x ≤ 255) (hx : xs.length ≤ 1000) (d : Nat) : ∀ j : Nat, j ≤ xs.length → xs.length - j = d →
    Ev (fun k => interleavelaw01_TokenSigns.l1 k xs signsB ((xs.map pick).map (fun p => (⟨4, p, 1⟩ : S27))) (j : Int)) true := by
  induction d with
  | zero =>
    intro j hj hd
    have e : j = xs.length := by omega
    subst e
    refine Ev.step (fun k => ?_) awake_some
    simp only [interleavelaw01_TokenSigns.l1]
    rw [if_neg (by omega)]
  | succ d ih =>
    intro j hj hd
    have hlt : j < xs.length := by omega
    have hv := hw xs[j] (List.getElem_mem hlt)
    have hlt2 : j < ((xs.map pick).map (fun p => (⟨4, p, 1⟩ : S27))).length := by rw [List.length_map, List.length_map]; exact hlt
    have t0 : ¬ (signsB.length : Int) = 0 := by rw [signsB_len]; decide
    have t1 : 0 ≤ Int.tmod (wrap64 xs[j]) (signsB.length : Int) := by rw [tmod_pick hv]; exact Int.natCast_nonneg _
    have t2 : Int.tmod (wrap64 xs[j]) (signsB.length : Int) < (signsB.length : Int) := by rw [tmod_pick hv, signsB_len]; omega
    refine Ev.step (fun k => ?_) (ih (j + 1) (by omega) (by omega))
    simp only [interleavelaw01_TokenSigns.l1]
    rw [if_pos (by omega), if_pos (by omega), if_pos (by omega), rd_at _ j hlt2, List.getElem_map, List.getElem_map, rd_int xs j hlt, if_pos (by rfl), if_neg t0, if_pos t1, if_pos t2, pick_rd hv, if_pos (by rfl), wrap_nat j (by omega)]
theorem pureSigns : interleavelaw01_TokenSigns.Pure := by
  intro xs _ _ hwf
  have hw : ∀ x ∈ xs, 0 ≤ x ∧ x ≤ 255 := fun x hx => wf_u8 (hwf x hx)
  refine Ev.rounds (g := fun k => interleavelaw01_TokenSigns.f k xs) ?_
  unfold interleavelaw01_TokenSigns.f
  by_cases h1 : (xs.length : Int) > 200
  · exact Ev.pos h1 (Ev.now _)
  refine Ev.neg h1 ?_
  refine signs_join xs hw true (by omega) _ 0 ⟨#[]⟩ (by omega) rfl (by show 0 + _ ≤ _; omega) (fun B hB => ?_)
  rw [List.drop_zero] at hB
  have hB2 : B.data.toList = sjoin (xs.map pick) := by rw [hB]; rfl
  have hlen := sjoin_len xs
  have hs := scan_ev B (by rw [← size_data, hB2]; omega)
  rw [hB2, scan_sjoin _ (fun p hp => by obtain ⟨x, _, rfl⟩ := List.mem_map.1 hp; exact pick_mem x)] at hs
  have hj1 : Ev (fun k => interleavelaw01_TokenSigns.j1 k xs signsB ((xs.map pick).map (fun p => (⟨4, p, 1⟩ : S27))) ((((xs.map pick).map (fun p => (⟨4, p, 1⟩ : S27))).length : Int) != (xs.length : Int))) true := by
    rw [List.length_map, List.length_map]
    refine Ev.step (fun k => ?_) (signs_same xs hw (by omega) _ 0 (by omega) rfl)
    simp only [interleavelaw01_TokenSigns.j1]
    rw [if_neg (by simp)]
    rfl
  have hb : Ev (fun k => (token_Scan.f k B).bind fun bt297 => (if bt297.2.1 = 0 then (interleavelaw01_TokenSigns.j1 k xs signsB bt297.1 ((bt297.1.length : Int) != (xs.length : Int))) else (interleavelaw01_TokenSigns.j1 k xs signsB bt297.1 true))) true :=
    Ev.bind hs (Ev.pos rfl hj1)
  refine Ev.step (fun k => ?_) hb
  simp only [interleavelaw01_TokenSigns.l0]
  rw [if_neg (by omega)]
end Go.Proofs.YtdkloonoeklgaaaDoor.X
