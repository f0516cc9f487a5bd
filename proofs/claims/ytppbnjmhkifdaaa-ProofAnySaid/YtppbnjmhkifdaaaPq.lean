/- Both sides' Bound, Cycle, cycle and resolve in plain terms. -/
import Derived.Test.YtppbnjmhkifdaaaPm
import Derived.Test.YtppbnjmhkifdaaaX3
import Derived.Test.YtppbnjmhkifdaaaX9
import Derived.Test.YtppbnjmhkifdaaaX10
namespace Go.Proofs.Ytppbnjmhkifdaaa.X
open Go Go.RowKit Go.Proofs.YtppbnjmhkifdaaaW.PrintWords Go.Proofs.YtppbnjmhkifdaaaW.PrintLast Go.Proofs.YtppbnjmhkifdaaaW.PrintMore
theorem refBound_ev (a b : Int) (q : List S75) (cl : List (List Int)) (x : Int) (h0 : -9223372036854775808 ≤ x) (h1 : x < 9223372036854775808) (hl : q.length < 4611686018427387904) :
    Ev (fun k => interleaveref31_Bound.f k a b q cl x) (bnd q x) := by
  refine Ev.at_one fun k => ?_
  unfold interleaveref31_Bound.f
  by_cases c0 : x = 0
  · rw [if_pos c0]
    simp [interleaveref31_Bound.j0, bnd, c0]
  rw [if_neg c0]
  by_cases c1 : x > (q.length : Int)
  · rw [if_pos c1]
    have : bnd q x = (0, 0, 0, false) := by
      unfold bnd
      rw [if_pos (by omega)]
    rw [this]
    simp [interleaveref31_Bound.j0]
  rw [if_neg c1]
  have e1 : wrap64 (-(q.length : Int)) = -(q.length : Int) := wrap64_id (by omega) (by omega)
  rw [e1]
  simp only [interleaveref31_Bound.j0]
  by_cases c2 : x < -(q.length : Int)
  · rw [if_pos (by simpa using c2)]
    unfold bnd
    rw [if_pos (by omega)]
  · rw [if_neg (by simpa using c2)]
    by_cases c3 : 0 < x
    · have e2 : wrap64 (x - 1) = x - 1 := wrap64_id (by omega) (by omega)
      have hb : bnd q x = ((rd_T75 q (x - 1)).f0, (rd_T75 q (x - 1)).f1, (rd_T75 q (x - 1)).f2, true) := by
        unfold bnd
        rw [if_neg (by omega), if_pos c3]
      rw [hb, if_pos (show x > 0 from c3), e2, if_pos (by omega), if_pos (by omega)]
    · have e2 : wrap64 (-x) = -x := wrap64_id (by omega) (by omega)
      have e3 : wrap64 (-x - 1) = -x - 1 := wrap64_id (by omega) (by omega)
      have hb : bnd q x = ((rd_T75 q (-x - 1)).f1, (rd_T75 q (-x - 1)).f0, wrap64 (wrap64 (-(rd_T75 q (-x - 1)).f2) - 1), true) := by
        unfold bnd
        rw [if_neg (by omega), if_neg c3]
      rw [hb, if_neg (show ¬ x > 0 from c3), e2, e3, if_pos (by omega), if_pos (by omega)]
theorem bnd_small {q : List S75} {x : Int} (hq : q.length < 1000) (h : (bnd q x).2.2.2 = true) : x ≠ 0 ∧ -1000 < x ∧ x < 1000 := by
  unfold bnd at h
  split at h
  · cases h
  · omega
theorem drop_cons {α : Type} {l : List α} {i : Nat} (h : i < l.length) : l.drop i = l[i] :: l.drop (i + 1) := List.drop_eq_getElem_cons h
/-- Does a list contain a number: the program's search. -/
theorem index_ev (l : List Int) (v : Int) (hl : l.length < 4611686018427387904) : ∀ (n i : Nat), i + n = l.length → ∃ r, Ev (fun k => slices_Index_int_int.l0 k l v (l.length : Int) (i : Int)) r ∧ decide (r ≥ 0) = (l.drop i).contains v := by
  intro n
  induction n with
  | zero =>
    intro i hi
    refine ⟨-1, Ev.step (f := fun _ => some (-1)) (fun k => ?_) (Ev.now _), ?_⟩
    · simp only [slices_Index_int_int.l0]
      rw [if_neg (by omega)]
    · rw [List.drop_of_length_le (by omega)]
      rfl
  | succ n ih =>
    intro i hi
    have hi' : i < l.length := by omega
    rw [drop_cons hi']
    by_cases c : v = l[i]
    · refine ⟨(i : Int), Ev.step (f := fun _ => some (i : Int)) (fun k => ?_) (Ev.now _), ?_⟩
      · simp only [slices_Index_int_int.l0]
        rw [if_pos (by omega), if_pos (by omega), if_pos (by omega), rd_get hi', if_pos c]
      · rw [List.contains_cons, beq_iff_eq.2 c, Bool.true_or, decide_eq_true (by omega)]
    · obtain ⟨r, h1, h2⟩ := ih (i + 1) (by omega)
      refine ⟨r, Ev.step (fun k => ?_) h1, ?_⟩
      · simp only [slices_Index_int_int.l0]
        rw [if_pos (by omega), if_pos (by omega), if_pos (by omega), rd_get hi', if_neg c, wrapn hi' hl]
      · rw [h2, List.contains_cons, beq_eq_false_iff_ne.2 c, Bool.false_or]
theorem contains_ev (l : List Int) (v : Int) (hl : l.length < 4611686018427387904) : Ev (fun k => slices_Contains_int_int.f k l v) (l.contains v) := by
  obtain ⟨r, h1, h2⟩ := index_ev l v hl l.length 0 (by omega)
  unfold slices_Contains_int_int.f
  refine Ev.bind (a := r) h1 ?_
  rw [h2]
  exact Ev.now _
theorem refContains_ev (l : List Int) (v : Int) (hl : l.length < 4611686018427387904) : ∀ (n i : Nat), i + n = l.length → Ev (fun k => interleaveref31_contains.l0 k v l (l.length : Int) (i : Int)) ((l.drop i).contains v) := by
  intro n
  induction n with
  | zero =>
    intro i hi
    rw [List.drop_of_length_le (by omega)]
    refine Ev.step (f := fun _ => some false) (fun k => ?_) (Ev.now _)
    simp only [interleaveref31_contains.l0]
    rw [if_neg (by omega)]
  | succ n ih =>
    intro i hi
    have hi' : i < l.length := by omega
    rw [drop_cons hi', List.contains_cons]
    by_cases c : l[i] = v
    · rw [beq_iff_eq.2 c.symm, Bool.true_or]
      refine Ev.step (f := fun _ => some true) (fun k => ?_) (Ev.now _)
      simp only [interleaveref31_contains.l0]
      rw [if_pos (by omega), if_pos (by omega), if_pos (by omega), rd_get hi', if_pos c]
    · rw [beq_eq_false_iff_ne.2 (fun e => c e.symm), Bool.false_or]
      refine Ev.step (fun k => ?_) (ih (i + 1) (by omega))
      simp only [interleaveref31_contains.l0]
      rw [if_pos (by omega), if_pos (by omega), if_pos (by omega), rd_get hi', if_neg c, wrapn hi' hl]
/-- The index behind i, around. -/
def nxt (x1 : List Int) (i : Nat) : Int := rd x1 (Int.tmod (wrap64 ((i : Int) + 1)) (x1.length : Int))
def cyc (x0 : List S75) (x1 : List Int) : Nat → Nat → Int → Bool
  | 0, _, s => decide (s < 0)
  | n + 1, i, s => if rd x1 (i : Int) < 0 then false else if rd x1 (i : Int) ≥ (x0.length : Int) then false else if nxt x1 i < 0 then false else if nxt x1 i ≥ (x0.length : Int) then false else
      if (rd_T75 x0 (rd x1 (i : Int))).f1 = (rd_T75 x0 (nxt x1 i)).f0 then cyc x0 x1 n (i + 1) (wrap64 (s + (rd_T75 x0 (rd x1 (i : Int))).f2)) else false
theorem tmod_in {x n : Nat} (h : 0 < n) (hx : x < 4611686018427387904) : 0 ≤ Int.tmod (wrap64 ((x : Int) + 1)) (n : Int) ∧ Int.tmod (wrap64 ((x : Int) + 1)) (n : Int) < (n : Int) := by
  rw [wrap64_id (by omega) (by omega)]
  exact ⟨Int.tmod_nonneg _ (by omega), Int.tmod_lt_of_pos _ (by omega)⟩
theorem cyc_ev (x0 : List S75) (x1 : List Int) (hl : x1.length < 4611686018427387904) : ∀ (n i : Nat) (s : Int), i + n = x1.length → Ev (fun k => diff_Cycle.l0 k x0 x1 s x1 (x1.length : Int) (i : Int)) (cyc x0 x1 n i s) := by
  intro n
  induction n with
  | zero =>
    intro i s hi
    refine Ev.step (f := fun _ => some (decide (s < 0))) (fun k => ?_) (Ev.now _)
    simp only [diff_Cycle.l0]
    rw [if_neg (by omega)]
  | succ n ih =>
    intro i s hi
    have hi' : i < x1.length := by omega
    have ht := tmod_in (x := i) (n := x1.length) (by omega) (by omega)
    have h0 : ∀ k, diff_Cycle.l0 (k + 1) x0 x1 s x1 (x1.length : Int) (i : Int) = if rd x1 (i : Int) < 0 then some false else if rd x1 (i : Int) ≥ (x0.length : Int) then some false else if nxt x1 i < 0 then some false else if nxt x1 i ≥ (x0.length : Int) then some false else
      if (rd_T75 x0 (rd x1 (i : Int))).f1 = (rd_T75 x0 (nxt x1 i)).f0 then diff_Cycle.l0 k x0 x1 (wrap64 (s + (rd_T75 x0 (rd x1 (i : Int))).f2)) x1 (x1.length : Int) ((i + 1 : Nat) : Int) else some false := by
      intro k
      simp only [diff_Cycle.l0]
      rw [if_pos (by omega), if_pos (by omega), if_pos (by omega), if_neg (by omega), if_pos ht.1, if_pos ht.2, wrapn hi' hl]
      have e : rd x1 (Int.tmod ((i + 1 : Nat) : Int) (x1.length : Int)) = nxt x1 i := by
        unfold nxt
        rw [wrapn hi' hl]
      rw [e]
      by_cases c1 : rd x1 (i : Int) < 0
      · rw [if_pos c1, if_pos c1]
      by_cases c2 : rd x1 (i : Int) ≥ (x0.length : Int)
      · rw [if_neg c1, if_neg c1, if_pos c2, if_pos c2]
      by_cases c3 : nxt x1 i < 0
      · rw [if_neg c1, if_neg c1, if_neg c2, if_neg c2, if_pos c3, if_pos c3]
      by_cases c4 : nxt x1 i ≥ (x0.length : Int)
      · rw [if_neg c1, if_neg c1, if_neg c2, if_neg c2, if_neg c3, if_neg c3, if_pos c4, if_pos c4]
      rw [if_neg c1, if_neg c1, if_neg c2, if_neg c2, if_neg c3, if_neg c3, if_neg c4, if_neg c4, if_pos (by omega), if_pos (by omega), if_pos (by omega), if_pos (by omega)]
    unfold cyc
    refine Ev.step (fun k => h0 k) ?_
    by_cases c1 : rd x1 (i : Int) < 0
    · simp only [if_pos c1]
      exact Ev.now _
    by_cases c2 : rd x1 (i : Int) ≥ (x0.length : Int)
    · simp only [if_neg c1, if_pos c2]
      exact Ev.now _
    by_cases c3 : nxt x1 i < 0
    · simp only [if_neg c1, if_neg c2, if_pos c3]
      exact Ev.now _
    by_cases c4 : nxt x1 i ≥ (x0.length : Int)
    · simp only [if_neg c1, if_neg c2, if_neg c3, if_pos c4]
      exact Ev.now _
    by_cases c5 : (rd_T75 x0 (rd x1 (i : Int))).f1 = (rd_T75 x0 (nxt x1 i)).f0
    · simp only [if_neg c1, if_neg c2, if_neg c3, if_neg c4, if_pos c5]
      exact ih (i + 1) _ (by omega)
    · simp only [if_neg c1, if_neg c2, if_neg c3, if_neg c4, if_neg c5]
      exact Ev.now _
theorem refCyc_ev (x0 : List S75) (x1 : List Int) (hl : x1.length < 4611686018427387904) (hpos : 0 < x1.length) : ∀ (n i : Nat) (s : Int), i + n = x1.length → Ev (fun k => interleaveref31_Cycle.l0 k x0 x1 s x1 (x1.length : Int) (i : Int)) (cyc x0 x1 n i s) := by
  intro n
  induction n with
  | zero =>
    intro i s hi
    refine Ev.step (f := fun _ => some (decide (s < 0))) (fun k => ?_) (Ev.now _)
    simp only [interleaveref31_Cycle.l0]
    rw [if_neg (by omega), if_pos (by omega)]
  | succ n ih =>
    intro i s hi
    have hi' : i < x1.length := by omega
    have ht := tmod_in (x := i) (n := x1.length) (by omega) (by omega)
    have e : rd x1 (Int.tmod ((i + 1 : Nat) : Int) (x1.length : Int)) = nxt x1 i := by
      unfold nxt
      rw [wrapn hi' hl]
    unfold cyc
    by_cases c1 : rd x1 (i : Int) < 0
    · rw [if_pos c1]
      refine Ev.step (f := fun k => interleaveref31_Cycle.j1 k x0 x1 s (i : Int) (rd x1 (i : Int)) x1 (x1.length : Int) (i : Int) true) (fun k => ?_) (Ev.at_one fun k => ?_)
      · simp only [interleaveref31_Cycle.l0]
        rw [if_pos (by omega), if_pos (by omega), if_pos (by omega), if_pos c1]
      · simp only [interleaveref31_Cycle.j1]
        rfl
    rw [if_neg c1]
    refine Ev.step (f := fun k => interleaveref31_Cycle.j1 k x0 x1 s (i : Int) (rd x1 (i : Int)) x1 (x1.length : Int) (i : Int) (decide (rd x1 (i : Int) ≥ (x0.length : Int)))) (fun k => ?_) ?_
    · simp only [interleaveref31_Cycle.l0]
      rw [if_pos (by omega), if_pos (by omega), if_pos (by omega), if_neg c1]
    by_cases c2 : rd x1 (i : Int) ≥ (x0.length : Int)
    · rw [if_pos c2]
      refine Ev.at_one fun k => ?_
      simp only [interleaveref31_Cycle.j1]
      rw [if_pos (decide_eq_true c2)]
    rw [if_neg c2]
    have h0 : ∀ k, interleaveref31_Cycle.j1 (k + 1) x0 x1 s (i : Int) (rd x1 (i : Int)) x1 (x1.length : Int) (i : Int) (decide (rd x1 (i : Int) ≥ (x0.length : Int))) = if nxt x1 i < 0 then some false else if nxt x1 i ≥ (x0.length : Int) then some false else
      if (rd_T75 x0 (rd x1 (i : Int))).f1 = (rd_T75 x0 (nxt x1 i)).f0 then interleaveref31_Cycle.l0 k x0 x1 (wrap64 (s + (rd_T75 x0 (rd x1 (i : Int))).f2)) x1 (x1.length : Int) ((i + 1 : Nat) : Int) else some false := by
      intro k
      simp only [interleaveref31_Cycle.j1]
      rw [if_neg (by simpa using c2), if_neg (by omega), if_pos ht.1, if_pos ht.2, wrapn hi' hl, e]
      by_cases c3 : nxt x1 i < 0
      · rw [if_pos c3, if_pos c3]
      by_cases c4 : nxt x1 i ≥ (x0.length : Int)
      · rw [if_neg c3, if_neg c3, if_pos c4, if_pos c4]
      rw [if_neg c3, if_neg c3, if_neg c4, if_neg c4, if_pos (by omega), if_pos (by omega), if_pos (by omega), if_pos (by omega)]
    refine Ev.step (fun k => h0 k) ?_
    by_cases c3 : nxt x1 i < 0
    · simp only [if_pos c3]
      exact Ev.now _
    by_cases c4 : nxt x1 i ≥ (x0.length : Int)
    · simp only [if_neg c3, if_pos c4]
      exact Ev.now _
    by_cases c5 : (rd_T75 x0 (rd x1 (i : Int))).f1 = (rd_T75 x0 (nxt x1 i)).f0
    · simp only [if_neg c3, if_neg c4, if_pos c5]
      exact ih (i + 1) _ (by omega)
    · simp only [if_neg c3, if_neg c4, if_neg c5]
      exact Ev.now _
def cycB (x0 : List S75) (x1 : List Int) : Bool := cyc x0 x1 x1.length 0 0
theorem cycle_ev (x0 : List S75) (x1 : List Int) (hl : x1.length < 4611686018427387904) : Ev (fun k => diff_Cycle.f k x0 x1) (cycB x0 x1) := cyc_ev x0 x1 hl x1.length 0 0 (by omega)
theorem refCycle_ev (x0 : List S75) (x1 : List Int) (hl : x1.length < 4611686018427387904) : Ev (fun k => interleaveref31_Cycle.f k x0 x1) (cycB x0 x1) := by
  by_cases c : 0 < x1.length
  · exact refCyc_ev x0 x1 hl c x1.length 0 0 (by omega)
  · have : x1 = [] := List.length_eq_zero_iff.1 (by omega)
    subst this
    refine Ev.at_one fun k => ?_
    unfold interleaveref31_Cycle.f
    simp only [interleaveref31_Cycle.l0]
    rfl
/-- The clause of a step by a negative cycle. -/
def cylGo (q : List S75) : List Int → Nat → List S75 → List Int → List Int → List Int × Bool
  | [], _, l, o, c => if cycB l o = true then nrm c else ([], false)
  | x :: r, i, l, o, c => if (bnd q x).2.2.2 = true then cylGo q r (i + 1) (l ++ [(⟨(bnd q x).1, (bnd q x).2.1, (bnd q x).2.2.1⟩ : S75)]) (o ++ [(i : Int)]) (c ++ [wrap64 (-x)]) else ([], false)
def i64L (l : List Int) : Prop := ∀ x ∈ l, -9223372036854775808 ≤ x ∧ x < 9223372036854775808
theorem small_snoc {c : List Int} {x : Int} (hc : smallL c) (hx : x ≠ 0 ∧ -1000 < x ∧ x < 1000) : smallL (c ++ [wrap64 (-x)]) := by
  intro y hy
  rcases List.mem_append.1 hy with h | h
  · exact hc y h
  · rw [List.mem_singleton.1 h, wrap64_id (by omega) (by omega)]
    omega
section
variable (a b : Int) (q : List S75) (cl : List (List Int))
theorem cylGo_ev (hq : q.length < 1000) (lits : List Int) (hr : i64L lits) (hl : lits.length < 900000) : ∀ (n i : Nat) (l : List S75) (o c : List Int), i + n = lits.length → l.length = i → o.length = i → c.length = i → smallL c →
    Ev (fun k => proof_cycle.l0 k l o c lits (lits.length : Int) (i : Int) a b q cl) (cylGo q (lits.drop i) i l o c) := by
  intro n
  induction n with
  | zero =>
    intro i l o c hi h1 h2 h3 hs
    rw [List.drop_of_length_le (by omega)]
    unfold cylGo
    refine Ev.step (f := fun k => (diff_Cycle.f k l o).bind fun t168 => (if t168 = true then ((formula_Normal.f k c).bind fun bt169 => (some (bt169.1, bt169.2))) else (some (([] : List Int), false)))) (fun k => ?_) (Ev.bind (cycle_ev l o (by omega)) ?_)
    · simp only [proof_cycle.l0]
      rw [if_neg (by omega)]
    · by_cases d : cycB l o = true
      · simp only [if_pos d]
        exact Ev.bind (nrm_ev c hs (by omega)) (Ev.now _)
      · simp only [if_neg d]
        exact Ev.now _
  | succ n ih =>
    intro i l o c hi h1 h2 h3 hs
    have hi' : i < lits.length := by omega
    have hx := hr _ (List.getElem_mem hi')
    rw [drop_cons hi']
    unfold cylGo
    refine Ev.step (f := fun k => (formula_Bound.f k a b q cl lits[i]).bind fun bt154 => (if bt154.2.2.2 = true then proof_cycle.l0 k (l ++ [(⟨bt154.1, bt154.2.1, bt154.2.2.1⟩ : S75)]) (o ++ [(i : Int)]) (c ++ [wrap64 (-lits[i])]) lits (lits.length : Int) ((i + 1 : Nat) : Int) a b q cl else (some (([] : List Int), false)))) (fun k => ?_) (Ev.bind (bound_ev a b q cl _ hx.1 hx.2 (by omega)) ?_)
    · simp only [proof_cycle.l0]
      rw [if_pos (by omega), if_pos (by omega), if_pos (by omega), rd_get hi', wrapn hi' (by omega)]
      congr 1
      funext bt
      rw [if_pos (show l.length < 5864062014805 by omega), if_pos (show o.length < 17592186044416 by omega), if_pos (show c.length < 17592186044416 by omega)]
    · by_cases d : (bnd q lits[i]).2.2.2 = true
      · simp only [if_pos d]
        exact ih (i + 1) _ _ _ (by omega) (by simp [h1]) (by simp [h2]) (by simp [h3]) (small_snoc hs (bnd_small hq d))
      · simp only [if_neg d]
        exact Ev.now _
theorem refCylGo_ev (hq : q.length < 1000) (lits : List Int) (hr : i64L lits) (hl : lits.length < 900000) : ∀ (n i : Nat) (l : List S75) (o c : List Int), i + n = lits.length → l.length = i → o.length = i → c.length = i → smallL c →
    Ev (fun k => interleaveref31_Cyclic.l0 k l o c lits (lits.length : Int) (i : Int) a b q cl) (cylGo q (lits.drop i) i l o c) := by
  intro n
  induction n with
  | zero =>
    intro i l o c hi h1 h2 h3 hs
    rw [List.drop_of_length_le (by omega)]
    unfold cylGo
    refine Ev.step (f := fun k => (interleaveref31_Cycle.f k l o).bind fun t168 => (if t168 = true then ((interleaveref31_Normal.f k c).bind fun bt169 => (some (bt169.1, bt169.2))) else (some (([] : List Int), false)))) (fun k => ?_) (Ev.bind (refCycle_ev l o (by omega)) ?_)
    · simp only [interleaveref31_Cyclic.l0]
      rw [if_neg (by omega)]
    · by_cases d : cycB l o = true
      · simp only [if_pos d]
        exact Ev.bind (refNrm_ev c hs (by omega)) (Ev.now _)
      · simp only [if_neg d]
        exact Ev.now _
  | succ n ih =>
    intro i l o c hi h1 h2 h3 hs
    have hi' : i < lits.length := by omega
    have hx := hr _ (List.getElem_mem hi')
    rw [drop_cons hi']
    unfold cylGo
    refine Ev.step (f := fun k => (interleaveref31_Bound.f k a b q cl lits[i]).bind fun bt154 => (if bt154.2.2.2 = true then interleaveref31_Cyclic.l0 k (l ++ [(⟨bt154.1, bt154.2.1, bt154.2.2.1⟩ : S75)]) (o ++ [(i : Int)]) (c ++ [wrap64 (-lits[i])]) lits (lits.length : Int) ((i + 1 : Nat) : Int) a b q cl else (some (([] : List Int), false)))) (fun k => ?_) (Ev.bind (refBound_ev a b q cl _ hx.1 hx.2 (by omega)) ?_)
    · simp only [interleaveref31_Cyclic.l0]
      rw [if_pos (by omega), if_pos (by omega), if_pos (by omega), rd_get hi', wrapn hi' (by omega)]
      congr 1
      funext bt
      rw [if_pos (show l.length < 5864062014805 by omega), if_pos (show o.length < 17592186044416 by omega), if_pos (show c.length < 17592186044416 by omega)]
    · by_cases d : (bnd q lits[i]).2.2.2 = true
      · simp only [if_pos d]
        exact ih (i + 1) _ _ _ (by omega) (by simp [h1]) (by simp [h2]) (by simp [h3]) (small_snoc hs (bnd_small hq d))
      · simp only [if_neg d]
        exact Ev.now _
theorem cylGo_ok (hq : q.length < 1000) : ∀ (lits : List Int) (i : Nat) (l : List S75) (o c : List Int), smallL c → smallL (cylGo q lits i l o c).1 ∧ (cylGo q lits i l o c).1.length ≤ 2000 := by
  intro lits
  induction lits with
  | nil =>
    intro i l o c hs
    unfold cylGo
    split
    · exact ⟨nrm_small hs, nrm_length hs⟩
    · exact ⟨fun x hx => absurd hx (by simp), by simp⟩
  | cons x r ih =>
    intro i l o c hs
    unfold cylGo
    split
    · rename_i h
      exact ih _ _ _ _ (small_snoc hs (bnd_small hq h))
    · exact ⟨fun x hx => absurd hx (by simp), by simp⟩
end
end Go.Proofs.Ytppbnjmhkifdaaa.X
