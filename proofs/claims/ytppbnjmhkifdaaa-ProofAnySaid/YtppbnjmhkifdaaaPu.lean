/- A problem's formula is small, for every problem; few steps are few; ProofAny answers true. -/
import Derived.Test.YtppbnjmhkifdaaaPt
namespace Go.Proofs.Ytppbnjmhkifdaaa.X
open Go Go.RowKit Go.Proofs.YtppbnjmhkifdaaaW.PrintWords Go.Proofs.YtppbnjmhkifdaaaW.PrintLast Go.Proofs.YtppbnjmhkifdaaaW.PrintMore
/-- It ends, with an answer of which P holds. -/
def Wt {α : Type} (g : Nat → Option α) (P : α → Prop) : Prop := ∃ r, Ev g r ∧ P r
theorem Wt.now {α : Type} {P : α → Prop} {r : α} (p : P r) : Wt (fun _ => some r) P := ⟨r, Ev.now r, p⟩
theorem Wt.step {α : Type} {P : α → Prop} {g f : Nat → Option α} (h : ∀ k, g (k + 1) = f k) (k : Wt f P) : Wt g P := k.imp fun _ hk => ⟨Ev.step h hk.1, hk.2⟩
theorem byte_tmod {x n : Int} (hx : 0 ≤ x ∧ x < 256) (hn : 0 < n) : 0 ≤ Int.tmod (wrap64 x) n ∧ Int.tmod (wrap64 x) n < n := by
  rw [wrap64_id (by omega) (by omega)]
  exact ⟨Int.tmod_nonneg _ hx.1, Int.tmod_lt_of_pos _ hn⟩
def bytesL (l : List Int) : Prop := ∀ x ∈ l, 0 ≤ x ∧ x < 256
theorem next_f {l : List Int} (hb : bytesL l) (hl : l.length ≤ 300) {t : Nat} (ht : t ≤ l.length) : ∃ (v : Int) (t' : Nat), interleavemade_Tape_Next.f l (t : Int) 256 = some (v, (t' : Int)) ∧ 0 ≤ v ∧ v < 256 ∧ t' ≤ l.length := by
  unfold interleavemade_Tape_Next.f
  by_cases c : (t : Int) ≥ (l.length : Int)
  · exact ⟨0, t, by rw [if_pos c], by omega, by omega, ht⟩
  · have hi : t < l.length := by omega
    have e : wrap64 ((t : Int) + 1) = ((t + 1 : Nat) : Int) := wrapn hi (by omega)
    have e2 : wrap64 (((t + 1 : Nat) : Int) - 1) = (t : Int) := by
      rw [wrap64_id (by omega) (by omega)]
      omega
    have h := byte_tmod (hb _ (List.getElem_mem hi)) (show (0 : Int) < 256 by decide)
    refine ⟨Int.tmod (wrap64 l[t]) 256, t + 1, ?_, h.1, h.2, hi⟩
    rw [if_neg c, if_neg (by decide), e, e2, if_pos (by omega), if_pos (by omega), if_neg (by decide), rd_get hi]
def okF (r : Int × Int × List S75 × List (List Int)) : Prop := 1 ≤ r.2.2.1.length ∧ r.2.2.1.length ≤ 12 ∧ 1 ≤ r.2.1 ∧ r.2.1 ≤ 18 ∧ r.2.2.2.length ≤ 40 ∧ ∀ c ∈ r.2.2.2, okC c
theorem lit_small {v b : Int} (hv : 0 ≤ v ∧ v < 256) (hb : 1 ≤ b ∧ b ≤ 18) : 1 ≤ wrap64 (1 + (Int.tmod (wrap64 (Int.tdiv v 2)) b)) ∧ wrap64 (1 + (Int.tmod (wrap64 (Int.tdiv v 2)) b)) ≤ 18 := by
  have h1 : 0 ≤ Int.tdiv v 2 := Int.tdiv_nonneg hv.1 (by decide)
  have h2 : Int.tdiv v 2 < 256 := Int.lt_of_le_of_lt (Int.tdiv_le_self _ hv.1) hv.2
  have h := byte_tmod ⟨h1, h2⟩ (show 0 < b by omega)
  rw [wrap64_id (by omega) (by omega)]
  omega
theorem snoc_small {c : List Int} {x : Int} (hc : smallL c) (hx : x ≠ 0 ∧ -1000 < x ∧ x < 1000) : smallL (c ++ [x]) := by
  intro y hy
  rcases List.mem_append.1 hy with h | h
  · exact hc y h
  · rw [List.mem_singleton.1 h]
    exact hx
section
variable (a b : Int) (q : List S75) (l : List Int)
theorem form_l2 (hb : bytesL l) (hl : l.length ≤ 300) (hbb : 1 ≤ b ∧ b ≤ 18) (cl : List (List Int)) (hcl : cl.length ≤ 40) (P : Int × Int × List S75 × List (List Int) → Prop) (hn : ∀ (c : List Int) (t : Nat), okC c → t ≤ l.length → Wt (fun k => interleavescene_Problem_Formula.l1 k a b q (cl ++ [c]) l (t : Int)) P) :
    ∀ (n : Nat) (c : List Int) (t : Nat), c.length + n ≤ 4 → smallL c → t ≤ l.length → Wt (fun k => interleavescene_Problem_Formula.l2 k c ((n : Int) - 1) a b q cl l (t : Int)) P := by
  intro n
  induction n with
  | zero =>
    intro c t hc hs ht
    refine Wt.step (fun k => ?_) (hn c t ⟨hs, by omega⟩ ht)
    simp only [interleavescene_Problem_Formula.l2]
    rw [if_neg (by omega), if_pos (by omega)]
  | succ n ih =>
    intro c t hc hs ht
    obtain ⟨v, t', e, v0, v1, ht'⟩ := next_f hb hl ht
    have hx := lit_small ⟨v0, v1⟩ hbb
    have ew : wrap64 (((n + 1 : Nat) : Int) - 1 - 1) = (n : Int) - 1 := by
      rw [wrap64_id (by omega) (by omega)]
      omega
    by_cases d : Int.tmod v 2 = 1
    · refine Wt.step (fun k => ?_) (ih (c ++ [wrap64 (-(wrap64 (1 + (Int.tmod (wrap64 (Int.tdiv v 2)) b))))]) t' (by simp; omega) (small_snoc hs (by omega)) ht')
      simp only [interleavescene_Problem_Formula.l2]
      rw [if_pos (by omega), e, Option.bind_some, if_neg (by omega), if_pos d, if_pos (by omega), ew]
    · refine Wt.step (fun k => ?_) (ih (c ++ [wrap64 (1 + (Int.tmod (wrap64 (Int.tdiv v 2)) b))]) t' (by simp; omega) (snoc_small hs (by omega)) ht')
      simp only [interleavescene_Problem_Formula.l2]
      rw [if_pos (by omega), e, Option.bind_some, if_neg (by omega), if_neg d, if_pos (by omega), ew]
theorem form_l1 (hb : bytesL l) (hl : l.length ≤ 300) (hq1 : 1 ≤ q.length) (hq2 : q.length ≤ 12) (hbb : 1 ≤ b ∧ b ≤ 18) : ∀ (n : Nat) (cl : List (List Int)) (t : Nat), cl.length + n = 40 → (∀ c ∈ cl, okC c) → t ≤ l.length → Wt (fun k => interleavescene_Problem_Formula.l1 k a b q cl l (t : Int)) okF := by
  intro n
  induction n with
  | zero =>
    intro cl t hc ho ht
    have no : Wt (fun k => interleavescene_Problem_Formula.j2 k false a b q cl l (t : Int)) okF := by
      refine Wt.step (f := fun _ => some (a, b, q, cl)) (fun k => ?_) (Wt.now ⟨hq1, hq2, hbb.1, hbb.2, by show cl.length ≤ 40; omega, ho⟩)
      simp only [interleavescene_Problem_Formula.j2]
      rfl
    refine Wt.step (fun k => ?_) no
    simp only [interleavescene_Problem_Formula.l1]
    rw [decide_eq_false (show ¬ (cl.length : Int) < 40 by omega)]
    split <;> rfl
  | succ n ih =>
    intro cl t hc ho ht
    by_cases c : (t : Int) < (l.length : Int)
    · obtain ⟨v, t', e, v0, v1, ht'⟩ := next_f hb hl ht
      have hm : 0 ≤ Int.tmod v 4 ∧ Int.tmod v 4 < 4 := ⟨Int.tmod_nonneg _ v0, Int.tmod_lt_of_pos _ (by decide)⟩
      obtain ⟨m, hm2⟩ : ∃ m : Nat, Int.tmod v 4 = (m : Int) - 1 := ⟨(Int.tmod v 4 + 1).toNat, by omega⟩
      have h2 := form_l2 a b q l hb hl hbb cl (by omega) okF (fun c t hc2 ht2 => ih (cl ++ [c]) t (by simp; omega) (fun u hu => by
        rcases List.mem_append.1 hu with h | h
        · exact ho u h
        · rw [List.mem_singleton.1 h]
          exact hc2) ht2) m [] t' (by simp; omega) no_ok.1 ht'
      have h1 : Wt (fun k => interleavescene_Problem_Formula.j2 k true a b q cl l (t : Int)) okF := by
        refine Wt.step (fun k => ?_) h2
        simp only [interleavescene_Problem_Formula.j2]
        rw [if_pos trivial, e, Option.bind_some, hm2]
      refine Wt.step (fun k => ?_) h1
      simp only [interleavescene_Problem_Formula.l1]
      rw [if_pos c, decide_eq_true (show (cl.length : Int) < 40 by omega)]
    · have no : Wt (fun k => interleavescene_Problem_Formula.j2 k false a b q cl l (t : Int)) okF := by
        refine Wt.step (f := fun _ => some (a, b, q, cl)) (fun k => ?_) (Wt.now ⟨hq1, hq2, hbb.1, hbb.2, by show cl.length ≤ 40; omega, ho⟩)
        simp only [interleavescene_Problem_Formula.j2]
        rfl
      refine Wt.step (fun k => ?_) no
      simp only [interleavescene_Problem_Formula.l1]
      rw [if_neg c]
end
theorem q12 {i n N m : Nat} (hi : i + (n + 1) = N) (hN : N ≤ 12) (hq : m = i) : m < 5864062014805 := by omega
theorem form_l0 (a : Int) (ha : 2 ≤ a ∧ a ≤ 6) (z0 z1 z2 : Int) (z3 l : List Int) (hb : bytesL l) (hl : l.length ≤ 300) (h2 : 0 ≤ z2 ∧ z2 < 256) (N : Nat) (hN : 1 ≤ N ∧ N ≤ 12) (eN : wrap64 (1 + (Int.tmod (wrap64 z1) 12)) = (N : Int)) :
    ∀ (n i : Nat) (q : List S75) (t : Nat), i + n = N → q.length = i → t ≤ l.length → Wt (fun k => interleavescene_Problem_Formula.l0 k (i : Int) z0 z1 z2 z3 a 0 q l (t : Int)) okF := by
  intro n
  induction n with
  | zero =>
    intro i q t hi hq ht
    have hm := byte_tmod h2 (show (0 : Int) < 7 by decide)
    have hw : wrap64 ((q.length : Int) + (Int.tmod (wrap64 z2) 7)) = (q.length : Int) + (Int.tmod (wrap64 z2) 7) := wrap64_id (by omega) (by omega)
    refine Wt.step (fun k => ?_) (form_l1 a ((q.length : Int) + (Int.tmod (wrap64 z2) 7)) q l hb hl (by omega) (by omega) (by omega) 40 [] t (by simp) (by simp) ht)
    simp only [interleavescene_Problem_Formula.l0]
    rw [if_neg (by omega), hw]
  | succ n ih =>
    intro i q t hi hq ht
    obtain ⟨v, t', e, v0, v1, ht'⟩ := next_f hb hl ht
    obtain ⟨v', t'', e', _, _, ht''⟩ := next_f hb hl ht'
    have ew : wrap64 (a - 1) = a - 1 := wrap64_id (by omega) (by omega)
    have ei : wrap64 ((i : Int) + 1) = ((i + 1 : Nat) : Int) := by
      rw [wrap64_id (by omega) (by omega)]
      omega
    have h := ih (i + 1) (q ++ [(⟨Int.tmod v a, Int.tmod (wrap64 ((wrap64 ((Int.tmod v a) + 1)) + (Int.tmod v' (wrap64 (a - 1))))) a, wrap64 ((Int.tmod (wrap64 (Int.tdiv v 16)) 7) - 4)⟩ : S75)]) t'' (by omega) (by simp [hq]) ht''
    rw [← ei] at h
    have hql : q.length < 5864062014805 := q12 hi hN.2 hq
    refine Wt.step (fun k => ?_) h
    simp only [interleavescene_Problem_Formula.l0]
    rw [if_pos (by omega)]
    rw [e]
    rw [Option.bind_some]
    rw [if_neg (by omega)]
    rw [e']
    rw [Option.bind_some]
    rw [if_neg (by omega)]
    exact if_pos hql
theorem formula_wt (z0 z1 z2 : Int) (h0 : 0 ≤ z0 ∧ z0 < 256) (h1 : 0 ≤ z1 ∧ z1 < 256) (h2 : 0 ≤ z2 ∧ z2 < 256) (l : List Int) (hb : bytesL l) : Wt (fun k => interleavescene_Problem_Formula.f k z0 z1 z2 l) okF := by
  have hmn : 0 ≤ mn (l.length : Int) 300 ∧ mn (l.length : Int) 300 ≤ (l.length : Int) ∧ mn (l.length : Int) 300 ≤ 300 := by
    unfold mn
    split <;> omega
  have hm0 := byte_tmod h0 (show (0 : Int) < 5 by decide)
  have hm1 := byte_tmod h1 (show (0 : Int) < 12 by decide)
  have ea : wrap64 (2 + (Int.tmod (wrap64 z0) 5)) = 2 + (Int.tmod (wrap64 z0) 5) := wrap64_id (by omega) (by omega)
  have eN : wrap64 (1 + (Int.tmod (wrap64 z1) 12)) = 1 + (Int.tmod (wrap64 z1) 12) := wrap64_id (by omega) (by omega)
  obtain ⟨N, hN⟩ : ∃ N : Nat, 1 + (Int.tmod (wrap64 z1) 12) = (N : Int) := ⟨(1 + (Int.tmod (wrap64 z1) 12)).toNat, by omega⟩
  have hlen : (l.take (mn (l.length : Int) 300).toNat).length ≤ 300 := by
    rw [List.length_take]
    omega
  unfold interleavescene_Problem_Formula.f
  rw [ea]
  simp only [if_pos hmn.1, if_pos hmn.2.1]
  have h := form_l0 (2 + (Int.tmod (wrap64 z0) 5)) (by omega) z0 z1 z2 l (l.take (mn (l.length : Int) 300).toNat) (fun x hx => hb x (List.mem_of_mem_take hx)) hlen h2 N (by omega) (by rw [eN, hN]) N 0 [] 0 (by omega) rfl (Nat.zero_le _)
  rw [show ((0 : Nat) : Int) = 0 from rfl] at h
  exact h
theorem large_wt (l : List S50) (hl : l.length < 140737488355328) (hs : ∀ s ∈ l, s.f2.length < 140737488355328) : ∀ (n i : Nat) (s : Int), i + n = l.length → 0 ≤ s → s < 4611686018427387904 →
    Wt (fun k => interleavelaw33_large.l0 k l s (i : Int)) (fun r => r = false → s ≤ 200 ∧ ∀ j (h : j < l.length), i ≤ j → (l[j].f2.length : Int) ≤ 200) := by
  intro n
  induction n with
  | zero =>
    intro i s hi h0 h1
    refine Wt.step (f := fun _ => some (decide (s > 200))) (fun k => ?_) (Wt.now fun h => ⟨by have := of_decide_eq_false h; omega, fun j hj hij => absurd hij (by omega)⟩)
    simp only [interleavelaw33_large.l0]
    rw [if_neg (by omega)]
  | succ n ih =>
    intro i s hi h0 h1
    have hi' : i < l.length := by omega
    by_cases c : s < 1000
    · have hx := hs _ (List.getElem_mem hi')
      have ew : wrap64 (s + (l[i].f2.length : Int)) = s + (l[i].f2.length : Int) := wrap64_id (by omega) (by omega)
      obtain ⟨r, e, p⟩ := ih (i + 1) (s + (l[i].f2.length : Int)) (by omega) (by omega) (by omega)
      refine ⟨r, Ev.step (fun k => ?_) e, fun hr => ?_⟩
      · simp only [interleavelaw33_large.l0]
        rw [if_pos (by omega), if_pos c, if_pos (by omega), rdT_get hi', ew, wrapn hi' (by omega)]
      · obtain ⟨p1, p2⟩ := p hr
        refine ⟨by omega, fun j hj hij => ?_⟩
        by_cases d : j = i
        · subst d
          omega
        · exact p2 j hj (by omega)
    · refine Wt.step (f := fun _ => some (decide (s > 200))) (fun k => ?_) (Wt.now fun h => absurd h (by rw [decide_eq_true (by omega)]; decide))
      simp only [interleavelaw33_large.l0]
      rw [if_pos (by omega), if_neg c]
/-- ProofAny answers true. -/
theorem anyLaw (z0 z1 z2 : Int) (h0 : 0 ≤ z0 ∧ z0 < 256) (h1 : 0 ≤ z1 ∧ z1 < 256) (h2 : 0 ≤ z2 ∧ z2 < 256) (lb : List Int) (hb : bytesL lb) (l : List S50) (hl : l.length < 140737488355328) (hs : ∀ s ∈ l, s.f2.length < 140737488355328 ∧ i64L s.f2) :
    ∃ k, interleavelaw33_ProofAny.f k z0 z1 z2 lb l = some true := by
  refine Ev.rounds (g := fun k => interleavelaw33_ProofAny.f k z0 z1 z2 lb l) ?_
  obtain ⟨r, e, p⟩ := large_wt l hl (fun s h => (hs s h).1) l.length 0 (l.length : Int) (by omega) (by omega) (by omega)
  unfold interleavelaw33_ProofAny.f
  refine Ev.bind (a := r) e ?_
  cases r with
  | true => exact Ev.congr (fun k => if_pos rfl) (Ev.bind awake_ev (Ev.now true))
  | false =>
    obtain ⟨p1, p2⟩ := p rfl
    have hok : ∀ s ∈ l, okS s := by
      intro s hm
      obtain ⟨j, hj, ej⟩ := List.getElem_of_mem hm
      have := p2 j hj (by omega)
      rw [ej] at this
      exact ⟨(hs s hm).2, by omega⟩
    refine Ev.congr (fun k => if_neg (by decide)) ?_
    obtain ⟨⟨fa, fb, fq, fc⟩, ef, f1, f2, _, _, f5, f6⟩ := formula_wt z0 z1 z2 h0 h1 h2 lb hb
    have f2' : fq.length ≤ 12 := f2
    have f5' : fc.length ≤ 40 := f5
    refine Ev.bind ef ?_
    refine Ev.bind (check_ev fa fb fq fc (by omega) f6 l (by omega) hok) ?_
    refine Ev.bind (refCheck_ev fa fb fq fc (by omega) f6 l (by omega) hok) ?_
    refine Ev.bind (law_clauses fa fb fq fc (by omega) f6 l (by omega) hok) ?_
    refine Ev.congr (fun k => if_pos rfl) (Ev.congr (fun k => if_pos rfl) (Ev.congr (fun k => if_pos rfl) ?_))
    exact Ev.bind awake_ev (Ev.now true)
end Go.Proofs.Ytppbnjmhkifdaaa.X
