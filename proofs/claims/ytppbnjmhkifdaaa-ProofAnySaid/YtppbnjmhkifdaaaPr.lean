/- Both sides' Clauses and Check in plain terms: they answer the same. -/
import Derived.Test.YtppbnjmhkifdaaaPq
import Derived.Test.YtppbnjmhkifdaaaX4
namespace Go.Proofs.Ytppbnjmhkifdaaa.X
open Go Go.RowKit Go.Proofs.YtppbnjmhkifdaaaW.PrintWords Go.Proofs.YtppbnjmhkifdaaaW.PrintLast Go.Proofs.YtppbnjmhkifdaaaW.PrintMore
theorem no_ok : smallL ([] : List Int) ∧ ([] : List Int).length ≤ 2000 := ⟨fun x hx => absurd hx (by simp), by simp⟩
theorem nrm_ok {l : List Int} (hs : smallL l) : smallL (nrm l).1 ∧ (nrm l).1.length ≤ 2000 := ⟨nrm_small hs, nrm_length hs⟩
def okC (c : List Int) : Prop := smallL c ∧ c.length ≤ 2000
/-- A clause without a literal. -/
def lack (p : List Int) (v : Int) : List Int := p.filter fun x => x != v
theorem lack_cons_eq {x v : Int} {r : List Int} (h : x = v) : lack (x :: r) v = lack r v := by
  unfold lack
  rw [List.filter_cons_of_neg (by simpa using h)]
theorem lack_cons_ne {x v : Int} {r : List Int} (h : x ≠ v) : lack (x :: r) v = x :: lack r v := by
  unfold lack
  rw [List.filter_cons_of_pos (by simpa using h)]
def rsv (p q : List Int) (v : Int) : List Int × Bool :=
  if v < 0 ∨ v ≥ 1024 then ([], false) else if p.contains (v + 1) = true then (if q.contains (-v - 1) = true then nrm (lack p (v + 1) ++ lack q (-v - 1)) else ([], false)) else ([], false)
theorem lack_small {p : List Int} {v : Int} (h : smallL p) : smallL (lack p v) := fun x hx => h x (List.mem_filter.1 hx).1
theorem app_small {p q : List Int} (h : smallL p) (k : smallL q) : smallL (p ++ q) := fun x hx => (List.mem_append.1 hx).elim (h x) (k x)
theorem lack_le (p : List Int) (v : Int) : (lack p v).length ≤ p.length := List.length_filter_le _ _
theorem rsv_ok {p q : List Int} (hp : okC p) (hq : okC q) (v : Int) : okC (rsv p q v).1 := by
  unfold rsv
  split
  · exact no_ok
  · split
    · split
      · exact nrm_ok (app_small (lack_small hp.1) (lack_small hq.1))
      · exact no_ok
    · exact no_ok
section
variable (v z0 z1 : Int) (z2 : List Int) (z3 z4 : Int)
theorem vw (hv : 0 ≤ v ∧ v < 1024) : wrap64 (v + 1) = v + 1 ∧ wrap64 (wrap64 (-v) - 1) = -v - 1 ∧ wrap64 (-(wrap64 (v + 1))) = -v - 1 := by
  unfold wrap64
  omega
theorem res_l1 (hv : 0 ≤ v ∧ v < 1024) (q : List Int) (hl : q.length < 1000000) : ∀ (n i : Nat) (o : List Int), i + n = q.length → o.length ≤ 2000 + i → ∀ r, Ev (fun k => formula_Normal.f k (o ++ lack (q.drop i) (-v - 1))) r → Ev (fun k => proof_resolve.l1 k o q (q.length : Int) (i : Int) z0 z1 z2 z3 z4 v) r := by
  intro n
  induction n with
  | zero =>
    intro i o hi ho r hr
    rw [List.drop_of_length_le (by omega), show lack [] (-v - 1) = [] from rfl, List.append_nil] at hr
    refine Ev.step (f := fun k => (formula_Normal.f k o).bind fun bt => some (bt.1, bt.2)) (fun k => ?_) (Ev.bind hr (Ev.now _))
    simp only [proof_resolve.l1]
    rw [if_neg (by omega)]
  | succ n ih =>
    intro i o hi ho r hr
    have hi' : i < q.length := by omega
    rw [drop_cons hi'] at hr
    by_cases c : q[i] = -v - 1
    · rw [lack_cons_eq c] at hr
      refine Ev.step (fun k => ?_) (ih (i + 1) o (by omega) (by omega) r hr)
      simp only [proof_resolve.l1]
      rw [if_pos (by omega), if_pos (by omega), if_pos (by omega), rd_get hi', (vw v hv).2.1, if_pos c, wrapn hi' (by omega)]
    · rw [lack_cons_ne c, ← List.singleton_append, ← List.append_assoc] at hr
      refine Ev.step (fun k => ?_) (ih (i + 1) (o ++ [q[i]]) (by omega) (by simp; omega) r hr)
      simp only [proof_resolve.l1]
      rw [if_pos (by omega), if_pos (by omega), if_pos (by omega), rd_get hi', (vw v hv).2.1, if_neg c, wrapn hi' (by omega), if_pos (by omega)]
theorem res_l0 (hv : 0 ≤ v ∧ v < 1024) (p q : List Int) (hp : p.length ≤ 2000) (hq : q.length ≤ 2000) (r : List Int × Bool) (hr : Ev (fun k => formula_Normal.f k (lack p (v + 1) ++ lack q (-v - 1))) r) : ∀ (n i : Nat) (o : List Int), i + n = p.length → o.length ≤ i → o ++ lack (p.drop i) (v + 1) = lack p (v + 1) → Ev (fun k => proof_resolve.l0 k q o p (p.length : Int) (i : Int) z0 z1 z2 z3 z4 v) r := by
  intro n
  induction n with
  | zero =>
    intro i o hi ho he
    rw [List.drop_of_length_le (by omega), show lack [] (v + 1) = [] from rfl, List.append_nil] at he
    refine Ev.step (f := fun k => proof_resolve.l1 k o q (q.length : Int) ((0 : Nat) : Int) z0 z1 z2 z3 z4 v) (fun k => ?_) (res_l1 v z0 z1 z2 z3 z4 hv q (by omega) q.length 0 o (by omega) (by omega) r (by rw [he]; exact hr))
    simp only [proof_resolve.l0]
    rw [if_neg (by omega)]
    rfl
  | succ n ih =>
    intro i o hi ho he
    have hi' : i < p.length := by omega
    rw [drop_cons hi'] at he
    by_cases c : p[i] = v + 1
    · rw [lack_cons_eq c] at he
      refine Ev.step (fun k => ?_) (ih (i + 1) o (by omega) (by omega) he)
      simp only [proof_resolve.l0]
      rw [if_pos (by omega), if_pos (by omega), if_pos (by omega), rd_get hi', (vw v hv).1, if_pos c, wrapn hi' (by omega)]
    · rw [lack_cons_ne c, ← List.singleton_append, ← List.append_assoc] at he
      refine Ev.step (fun k => ?_) (ih (i + 1) (o ++ [p[i]]) (by omega) (by simp; omega) he)
      simp only [proof_resolve.l0]
      rw [if_pos (by omega), if_pos (by omega), if_pos (by omega), rd_get hi', (vw v hv).1, if_neg c, wrapn hi' (by omega), if_pos (by omega)]
theorem rres_l1 (hv : 0 ≤ v ∧ v < 1024) (q : List Int) (hl : q.length < 1000000) : ∀ (n i : Nat) (o : List Int), i + n = q.length → o.length ≤ 2000 + i → ∀ r, Ev (fun k => interleaveref31_Normal.f k (o ++ lack (q.drop i) (-v - 1))) r → Ev (fun k => interleaveref31_Resolvent.l1 k v o q (q.length : Int) (i : Int)) r := by
  intro n
  induction n with
  | zero =>
    intro i o hi ho r hr
    rw [List.drop_of_length_le (by omega), show lack [] (-v - 1) = [] from rfl, List.append_nil] at hr
    refine Ev.step (f := fun k => (interleaveref31_Normal.f k o).bind fun bt => some (bt.1, bt.2)) (fun k => ?_) (Ev.bind hr (Ev.now _))
    simp only [interleaveref31_Resolvent.l1]
    rw [if_neg (by omega)]
  | succ n ih =>
    intro i o hi ho r hr
    have hi' : i < q.length := by omega
    rw [drop_cons hi'] at hr
    by_cases c : q[i] = -v - 1
    · rw [lack_cons_eq c] at hr
      refine Ev.step (fun k => ?_) (ih (i + 1) o (by omega) (by omega) r hr)
      simp only [interleaveref31_Resolvent.l1]
      rw [if_pos (by omega), if_pos (by omega), if_pos (by omega), rd_get hi', (vw v hv).2.2, if_pos c, wrapn hi' (by omega)]
    · rw [lack_cons_ne c, ← List.singleton_append, ← List.append_assoc] at hr
      refine Ev.step (fun k => ?_) (ih (i + 1) (o ++ [q[i]]) (by omega) (by simp; omega) r hr)
      simp only [interleaveref31_Resolvent.l1]
      rw [if_pos (by omega), if_pos (by omega), if_pos (by omega), rd_get hi', (vw v hv).2.2, if_neg c, wrapn hi' (by omega), if_pos (by omega)]
theorem rres_l0 (hv : 0 ≤ v ∧ v < 1024) (p q : List Int) (hp : p.length ≤ 2000) (hq : q.length ≤ 2000) (r : List Int × Bool) (hr : Ev (fun k => interleaveref31_Normal.f k (lack p (v + 1) ++ lack q (-v - 1))) r) : ∀ (n i : Nat) (o : List Int), i + n = p.length → o.length ≤ i → o ++ lack (p.drop i) (v + 1) = lack p (v + 1) → Ev (fun k => interleaveref31_Resolvent.l0 k q v o p (p.length : Int) (i : Int)) r := by
  intro n
  induction n with
  | zero =>
    intro i o hi ho he
    rw [List.drop_of_length_le (by omega), show lack [] (v + 1) = [] from rfl, List.append_nil] at he
    refine Ev.step (f := fun k => interleaveref31_Resolvent.l1 k v o q (q.length : Int) ((0 : Nat) : Int)) (fun k => ?_) (rres_l1 v hv q (by omega) q.length 0 o (by omega) (by omega) r (by rw [he]; exact hr))
    simp only [interleaveref31_Resolvent.l0]
    rw [if_neg (by omega)]
    rfl
  | succ n ih =>
    intro i o hi ho he
    have hi' : i < p.length := by omega
    rw [drop_cons hi'] at he
    by_cases c : p[i] = v + 1
    · rw [lack_cons_eq c] at he
      refine Ev.step (fun k => ?_) (ih (i + 1) o (by omega) (by omega) he)
      simp only [interleaveref31_Resolvent.l0]
      rw [if_pos (by omega), if_pos (by omega), if_pos (by omega), rd_get hi', (vw v hv).1, if_pos c, wrapn hi' (by omega)]
    · rw [lack_cons_ne c, ← List.singleton_append, ← List.append_assoc] at he
      refine Ev.step (fun k => ?_) (ih (i + 1) (o ++ [p[i]]) (by omega) (by simp; omega) he)
      simp only [interleaveref31_Resolvent.l0]
      rw [if_pos (by omega), if_pos (by omega), if_pos (by omega), rd_get hi', (vw v hv).1, if_neg c, wrapn hi' (by omega), if_pos (by omega)]
end
theorem lack_len2 {p q : List Int} {v u : Int} (hp : p.length ≤ 2000) (hq : q.length ≤ 2000) : (lack p v ++ lack q u).length < 1000000 := by
  have := lack_le p v
  have := lack_le q u
  rw [List.length_append]
  omega
/-- The resolvent of two clauses, as the reference tells it. -/
theorem refRes_ev {p q : List Int} (hp : okC p) (hq : okC q) (v : Int) : Ev (fun k => interleaveref31_Resolvent.f k p q v) (rsv p q v) := by
  obtain ⟨hp1, hp2⟩ := hp
  obtain ⟨hq1, hq2⟩ := hq
  have no : Ev (fun k => interleaveref31_Resolvent.j0 k p q v true) ([], false) := Ev.at_one fun k => by
    simp only [interleaveref31_Resolvent.j0]
    rfl
  unfold interleaveref31_Resolvent.f rsv
  by_cases c1 : v < 0
  · simp only [if_pos c1, if_pos (show v < 0 ∨ v ≥ 1024 from .inl c1)]
    exact no
  by_cases c2 : v ≥ 1024
  · simp only [if_neg c1, if_pos c2, if_pos (show v < 0 ∨ v ≥ 1024 from .inr c2)]
    exact no
  have hv : 0 ≤ v ∧ v < 1024 := by omega
  simp only [if_neg c1, if_neg c2, if_neg (show ¬ (v < 0 ∨ v ≥ 1024) by omega)]
  rw [(vw v hv).2.2, (vw v hv).1]
  refine Ev.bind (refContains_ev p (v + 1) (by omega) p.length 0 (by omega)) ?_
  rw [List.drop_zero]
  by_cases c3 : p.contains (v + 1) = true
  · simp only [if_pos c3]
    refine Ev.bind (refContains_ev q (-v - 1) (by omega) q.length 0 (by omega)) ?_
    rw [List.drop_zero]
    by_cases c4 : q.contains (-v - 1) = true
    · simp only [if_pos c4]
      rw [c4]
      refine Ev.step (f := fun k => interleaveref31_Resolvent.l0 k q v [] p (p.length : Int) ((0 : Nat) : Int)) (fun k => ?_) (rres_l0 v hv p q hp2 hq2 _ (refNrm_ev _ (app_small (lack_small hp1) (lack_small hq1)) (lack_len2 hp2 hq2)) p.length 0 [] (by omega) (by simp) (by simp))
      simp only [interleaveref31_Resolvent.j0]
      rfl
    · simp only [if_neg c4]
      rw [Bool.eq_false_iff.2 c4]
      exact no
  · simp only [if_neg c3]
    exact no
/-- The program's resolve. -/
def rsvAt (out : List (List Int)) (s : S50) : List Int × Bool :=
  if s.f3 < 0 ∨ s.f4 < 0 ∨ s.f3 ≥ (out.length : Int) ∨ s.f4 ≥ (out.length : Int) then ([], false) else rsv (rd_L1 out s.f3) (rd_L1 out s.f4) s.f5
theorem rdL_get {l : List (List Int)} {x : Int} (h0 : 0 ≤ x) (h1 : x < (l.length : Int)) : rd_L1 l x ∈ l := by
  unfold rd_L1
  rw [List.getD_eq_getElem?_getD, List.getElem?_eq_getElem (by omega)]
  exact List.getElem_mem _
theorem res_ev {out : List (List Int)} (ho : ∀ c ∈ out, okC c) (s : S50) : Ev (fun k => proof_resolve.f k out s.f0 s.f1 s.f2 s.f3 s.f4 s.f5) (rsvAt out s) := by
  have no : Ev (fun k => proof_resolve.j0 k out true s.f0 s.f1 s.f2 s.f3 s.f4 s.f5) ([], false) := Ev.at_one fun k => by
    simp only [proof_resolve.j0]
    rfl
  unfold proof_resolve.f rsvAt
  by_cases c1 : s.f3 < 0
  · simp only [if_pos c1, if_pos (show s.f3 < 0 ∨ s.f4 < 0 ∨ s.f3 ≥ (out.length : Int) ∨ s.f4 ≥ (out.length : Int) from .inl c1)]
    exact no
  by_cases c2 : s.f4 < 0
  · simp only [if_neg c1, if_pos c2, if_pos (show s.f3 < 0 ∨ s.f4 < 0 ∨ s.f3 ≥ (out.length : Int) ∨ s.f4 ≥ (out.length : Int) from .inr (.inl c2))]
    exact no
  by_cases c3 : s.f3 ≥ (out.length : Int)
  · simp only [if_neg c1, if_neg c2, if_pos c3, if_pos (show s.f3 < 0 ∨ s.f4 < 0 ∨ s.f3 ≥ (out.length : Int) ∨ s.f4 ≥ (out.length : Int) from .inr (.inr (.inl c3)))]
    exact no
  by_cases c4 : s.f4 ≥ (out.length : Int)
  · simp only [if_neg c1, if_neg c2, if_neg c3, if_pos c4, if_pos (show s.f3 < 0 ∨ s.f4 < 0 ∨ s.f3 ≥ (out.length : Int) ∨ s.f4 ≥ (out.length : Int) from .inr (.inr (.inr c4)))]
    exact no
  have m3 := ho _ (rdL_get (l := out) (x := s.f3) (by omega) (by omega))
  have m4 := ho _ (rdL_get (l := out) (x := s.f4) (by omega) (by omega))
  obtain ⟨hp1, hp2⟩ := m3
  obtain ⟨hq1, hq2⟩ := m4
  simp only [if_neg c1, if_neg c2, if_neg c3, if_neg c4, if_neg (show ¬ (s.f3 < 0 ∨ s.f4 < 0 ∨ s.f3 ≥ (out.length : Int) ∨ s.f4 ≥ (out.length : Int)) by omega)]
  unfold rsv
  by_cases c5 : s.f5 < 0
  · simp only [if_pos c5, if_pos (show s.f5 < 0 ∨ s.f5 ≥ 1024 from .inl c5)]
    exact no
  simp only [if_neg c5]
  by_cases c6 : s.f5 ≥ 1024
  · rw [decide_eq_true c6, if_pos (.inr c6)]
    exact no
  have hv : 0 ≤ s.f5 ∧ s.f5 < 1024 := by omega
  rw [decide_eq_false c6, if_neg (show ¬ (s.f5 < 0 ∨ s.f5 ≥ 1024) by omega)]
  have no1 : Ev (fun k => proof_resolve.j1 k (rd_L1 out s.f3) (rd_L1 out s.f4) true s.f0 s.f1 s.f2 s.f3 s.f4 s.f5) ([], false) := Ev.at_one fun k => by
    simp only [proof_resolve.j1]
    rfl
  refine Ev.step (f := fun k => (slices_Contains_int_int.f k (rd_L1 out s.f3) (s.f5 + 1)).bind fun t176 => (if t176 = true then ((slices_Contains_int_int.f k (rd_L1 out s.f4) (-s.f5 - 1)).bind fun t177 => (proof_resolve.j1 k (rd_L1 out s.f3) (rd_L1 out s.f4) (!t177) s.f0 s.f1 s.f2 s.f3 s.f4 s.f5)) else (proof_resolve.j1 k (rd_L1 out s.f3) (rd_L1 out s.f4) true s.f0 s.f1 s.f2 s.f3 s.f4 s.f5))) (fun k => ?_) ?_
  · simp only [proof_resolve.j0]
    rw [if_neg (by decide), if_pos (by omega), if_pos (by omega), if_pos (by omega), if_pos (by omega), (vw s.f5 hv).1, (vw s.f5 hv).2.1]
  refine Ev.bind (contains_ev _ _ (by omega)) ?_
  by_cases c7 : (rd_L1 out s.f3).contains (s.f5 + 1) = true
  · simp only [if_pos c7]
    refine Ev.bind (contains_ev _ _ (by omega)) ?_
    by_cases c8 : (rd_L1 out s.f4).contains (-s.f5 - 1) = true
    · simp only [if_pos c8]
      rw [c8]
      refine Ev.step (f := fun k => proof_resolve.l0 k (rd_L1 out s.f4) [] (rd_L1 out s.f3) ((rd_L1 out s.f3).length : Int) ((0 : Nat) : Int) s.f0 s.f1 s.f2 s.f3 s.f4 s.f5) (fun k => ?_) (res_l0 s.f5 s.f0 s.f1 s.f2 s.f3 s.f4 hv _ _ hp2 hq2 _ (nrm_ev _ (app_small (lack_small hp1) (lack_small hq1)) (lack_len2 hp2 hq2)) (rd_L1 out s.f3).length 0 [] (by omega) (by simp) (by simp))
      simp only [proof_resolve.j1]
      rfl
    · simp only [if_neg c8]
      rw [Bool.eq_false_iff.2 c8]
      exact no1
  · simp only [if_neg c7]
    exact no1
theorem rsvAt_ok {out : List (List Int)} (ho : ∀ c ∈ out, okC c) (s : S50) : okC (rsvAt out s).1 := by
  unfold rsvAt
  split
  · exact no_ok
  · exact rsv_ok (ho _ (rdL_get (by omega) (by omega))) (ho _ (rdL_get (by omega) (by omega))) _
end Go.Proofs.Ytppbnjmhkifdaaa.X
