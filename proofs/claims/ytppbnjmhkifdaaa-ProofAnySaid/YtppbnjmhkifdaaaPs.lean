/- Clauses and Check of both sides answer the same on steps that aren't too many; the law's 'clauses' answers true. -/
import Derived.Test.YtppbnjmhkifdaaaPr
import Derived.Test.YtppbnjmhkifdaaaX12
namespace Go.Proofs.Ytppbnjmhkifdaaa.X
open Go Go.RowKit Go.Proofs.YtppbnjmhkifdaaaW.PrintWords Go.Proofs.YtppbnjmhkifdaaaW.PrintLast Go.Proofs.YtppbnjmhkifdaaaW.PrintMore
/-- The clause of a step behind others. -/
def stp (q : List S75) (cl out : List (List Int)) (s : S50) : List Int × Bool :=
  if s.f0 = 1 then (if s.f1 < 0 ∨ s.f1 ≥ (cl.length : Int) then ([], false) else nrm (rd_L1 cl s.f1))
  else if s.f0 = 2 then cylGo q s.f2 0 [] [] []
  else if s.f0 = 3 then rsvAt out s else ([], false)
def cls (q : List S75) (cl : List (List Int)) : List S50 → Nat → List (List Int) → List (List Int) × Option Nat
  | [], _, out => (out, none)
  | s :: r, i, out => if (stp q cl out s).2 = true then cls q cl r (i + 1) (out ++ [(stp q cl out s).1]) else ([], some i)
def okS (s : S50) : Prop := i64L s.f2 ∧ s.f2.length < 900000
theorem rdT_get {l : List S50} {i : Nat} (hi : i < l.length) : rd_T50 l (i : Int) = l[i] := by
  unfold rd_T50
  rw [Int.toNat_natCast, List.getD_eq_getElem?_getD, List.getElem?_eq_getElem hi]
  rfl
section
variable (a b : Int) (q : List S75) (cl : List (List Int))
theorem stp_ok (hq : q.length < 1000) (hcl : ∀ c ∈ cl, okC c) {out : List (List Int)} (ho : ∀ c ∈ out, okC c) (s : S50) : okC (stp q cl out s).1 := by
  unfold stp
  split
  · split
    · exact no_ok
    · exact nrm_ok (hcl _ (rdL_get (by omega) (by omega))).1
  · split
    · exact cylGo_ok q hq _ _ _ _ _ no_ok.1
    · split
      · exact rsvAt_ok ho s
      · exact no_ok
theorem snoc_ok (hq : q.length < 1000) (hcl : ∀ c ∈ cl, okC c) {out : List (List Int)} (ho : ∀ c ∈ out, okC c) (s : S50) : ∀ c ∈ out ++ [(stp q cl out s).1], okC c := by
  intro c hc
  rcases List.mem_append.1 hc with h | h
  · exact ho c h
  · rw [List.mem_singleton.1 h]
    exact stp_ok q cl hq hcl ho s
theorem clause_ev (hq : q.length < 1000) (hcl : ∀ c ∈ cl, okC c) {out : List (List Int)} (ho : ∀ c ∈ out, okC c) (s : S50) (hs : okS s) : Ev (fun k => proof_clause.f k a b q cl out s.f0 s.f1 s.f2 s.f3 s.f4 s.f5) (stp q cl out s) := by
  unfold proof_clause.f stp
  by_cases c1 : s.f0 = 1
  · simp only [if_pos c1]
    refine Ev.bind (a := if s.f1 < 0 ∨ s.f1 ≥ (cl.length : Int) then ([], false) else nrm (rd_L1 cl s.f1)) ?_ (Ev.now _)
    unfold proof_input.f
    by_cases c2 : s.f1 < 0
    · simp only [if_pos c2, if_pos (show s.f1 < 0 ∨ s.f1 ≥ (cl.length : Int) from .inl c2)]
      exact Ev.now _
    by_cases c3 : s.f1 ≥ (cl.length : Int)
    · simp only [if_neg c2, if_pos c3, if_pos (show s.f1 < 0 ∨ s.f1 ≥ (cl.length : Int) from .inr c3)]
      exact Ev.now _
    simp only [if_neg c2, if_neg c3, if_neg (show ¬ (s.f1 < 0 ∨ s.f1 ≥ (cl.length : Int)) by omega), if_pos (show 0 ≤ s.f1 by omega), if_pos (show s.f1 < (cl.length : Int) by omega)]
    obtain ⟨m1, m2⟩ := hcl _ (rdL_get (l := cl) (x := s.f1) (by omega) (by omega))
    exact Ev.bind (nrm_ev _ m1 (by omega)) (Ev.now _)
  by_cases c2 : s.f0 = 2
  · simp only [if_neg c1, if_pos c2]
    refine Ev.bind (a := cylGo q s.f2 0 [] [] []) ?_ (Ev.now _)
    exact cylGo_ev a b q cl hq s.f2 hs.1 hs.2 s.f2.length 0 [] [] [] (by omega) rfl rfl rfl no_ok.1
  by_cases c3 : s.f0 = 3
  · simp only [if_neg c1, if_neg c2, if_pos c3]
    exact Ev.bind (a := rsvAt out s) (res_ev ho s) (Ev.now _)
  · simp only [if_neg c1, if_neg c2, if_neg c3]
    exact Ev.now _
def clsP (r : List (List Int) × Option Nat) : List (List Int) × Int × Int := match r.2 with
  | none => (r.1, 0, 0)
  | some j => ([], (j : Int), 15)
def clsR (r : List (List Int) × Option Nat) : List (List Int) × Int := match r.2 with
  | none => (r.1, -1)
  | some j => ([], (j : Int))
theorem cls_ev (hq : q.length < 1000) (hcl : ∀ c ∈ cl, okC c) (l : List S50) (hl : l.length < 1000000) (hs : ∀ s ∈ l, okS s) : ∀ (n i : Nat) (out : List (List Int)), i + n = l.length → out.length = i → (∀ c ∈ out, okC c) →
    Ev (fun k => proof_Clauses.l0 k out l (l.length : Int) (i : Int) a b q cl) (clsP (cls q cl (l.drop i) i out)) := by
  intro n
  induction n with
  | zero =>
    intro i out hi h1 ho
    rw [List.drop_of_length_le (by omega)]
    refine Ev.step (f := fun _ => some (out, 0, 0)) (fun k => ?_) (Ev.now _)
    simp only [proof_Clauses.l0]
    rw [if_neg (by omega)]
  | succ n ih =>
    intro i out hi h1 ho
    have hi' : i < l.length := by omega
    rw [drop_cons hi']
    unfold cls
    refine Ev.step (f := fun k => (proof_clause.f k a b q cl out l[i].f0 l[i].f1 l[i].f2 l[i].f3 l[i].f4 l[i].f5).bind fun bt => (if bt.2 = true then proof_Clauses.l0 k (out ++ [bt.1]) l (l.length : Int) ((i + 1 : Nat) : Int) a b q cl else some (([] : List (List Int)), (i : Int), 15))) (fun k => ?_) (Ev.bind (clause_ev a b q cl hq hcl ho l[i] (hs _ (List.getElem_mem hi'))) ?_)
    · simp only [proof_Clauses.l0]
      rw [if_pos (by omega), if_pos (by omega), if_pos (by omega), rdT_get hi', wrapn hi' (by omega)]
      congr 1
      funext bt
      rw [if_pos (show out.length < 5864062014805 by omega)]
    · by_cases d : (stp q cl out l[i]).2 = true
      · simp only [if_pos d]
        exact ih (i + 1) _ (by omega) (by simp [h1]) (snoc_ok q cl hq hcl ho _)
      · simp only [if_neg d]
        exact Ev.now _
theorem clauses_ev (hq : q.length < 1000) (hcl : ∀ c ∈ cl, okC c) (l : List S50) (hl : l.length < 1000000) (hs : ∀ s ∈ l, okS s) : Ev (fun k => proof_Clauses.f k a b q cl l) (clsP (cls q cl l 0 [])) :=
  cls_ev a b q cl hq hcl l hl hs l.length 0 [] (by omega) rfl (by simp)
theorem refCls_ev (hq : q.length < 1000) (hcl : ∀ c ∈ cl, okC c) (l : List S50) (hl : l.length < 1000000) (hs : ∀ s ∈ l, okS s) : ∀ (n i : Nat) (out : List (List Int)), i + n = l.length → out.length = i → (∀ c ∈ out, okC c) →
    Ev (fun k => interleaveref31_Clauses.l0 k out l (l.length : Int) (i : Int) a b q cl) (clsR (cls q cl (l.drop i) i out)) := by
  intro n
  induction n with
  | zero =>
    intro i out hi h1 ho
    rw [List.drop_of_length_le (by omega)]
    refine Ev.step (f := fun _ => some (out, -1)) (fun k => ?_) (Ev.now _)
    simp only [interleaveref31_Clauses.l0]
    rw [if_neg (by omega)]
  | succ n ih =>
    intro i out hi h1 ho
    have hi' : i < l.length := by omega
    rw [drop_cons hi']
    unfold cls
    have hsi := hs _ (List.getElem_mem hi')
    have tail : ∀ u : List Int × Bool, u = stp q cl out l[i] → Ev (fun k => if u.2 = true then (if out.length < 5864062014805 then interleaveref31_Clauses.l0 k (out ++ [u.1]) l (l.length : Int) (wrap64 ((i : Int) + 1)) a b q cl else none) else some (([] : List (List Int)), (i : Int)))
        (clsR (if (stp q cl out l[i]).2 = true then cls q cl (l.drop (i + 1)) (i + 1) (out ++ [(stp q cl out l[i]).1]) else ([], some i))) := by
      intro u hu
      subst hu
      by_cases d : (stp q cl out l[i]).2 = true
      · simp only [if_pos d, if_pos (show out.length < 5864062014805 by omega)]
        rw [wrapn hi' (by omega)]
        exact ih (i + 1) _ (by omega) (by simp [h1]) (snoc_ok q cl hq hcl ho _)
      · simp only [if_neg d]
        exact Ev.now _
    have no : stp q cl out l[i] = ([], false) → Ev (fun _ => some (([] : List (List Int)), (i : Int))) (clsR (if (stp q cl out l[i]).2 = true then cls q cl (l.drop (i + 1)) (i + 1) (out ++ [(stp q cl out l[i]).1]) else ([], some i))) := by
      intro h
      rw [h, if_neg (by decide)]
      exact Ev.now _
    by_cases c1 : l[i].f0 = 1
    · have j1 : ∀ x : Bool, x = decide (¬ (l[i].f1 < 0 ∨ l[i].f1 ≥ (cl.length : Int))) → Ev (fun k => interleaveref31_Clauses.j1 k out (i : Int) [] false l (l.length : Int) (i : Int) x a b q cl l[i].f0 l[i].f1 l[i].f2 l[i].f3 l[i].f4 l[i].f5) (clsR (if (stp q cl out l[i]).2 = true then cls q cl (l.drop (i + 1)) (i + 1) (out ++ [(stp q cl out l[i]).1]) else ([], some i))) := by
        intro x hx
        by_cases c2 : l[i].f1 < 0 ∨ l[i].f1 ≥ (cl.length : Int)
        · rw [decide_eq_false (fun h => h c2)] at hx
          subst hx
          refine Ev.step (fun k => ?_) (no (by unfold stp; rw [if_pos c1, if_pos c2]))
          simp only [interleaveref31_Clauses.j1]
          rfl
        · rw [decide_eq_true c2] at hx
          subst hx
          have e1 : stp q cl out l[i] = nrm (rd_L1 cl l[i].f1) := by
            unfold stp
            rw [if_pos c1, if_neg c2]
          have m := hcl _ (rdL_get (l := cl) (x := l[i].f1) (by omega) (by omega))
          have m2 := m.2
          refine Ev.step (f := fun k => (interleaveref31_Normal.f k (rd_L1 cl l[i].f1)).bind fun bt391 => (if bt391.2 = true then (if out.length < 5864062014805 then (interleaveref31_Clauses.l0 k (out ++ [bt391.1]) l (l.length : Int) (wrap64 ((i : Int) + 1)) a b q cl) else (none)) else (some (([] : List (List Int)), (i : Int))))) (fun k => ?_) (Ev.bind (refNrm_ev _ m.1 (by omega)) (tail _ e1.symm))
          simp only [interleaveref31_Clauses.j1]
          rw [if_pos trivial, if_pos (by omega), if_pos (by omega)]
      by_cases c2 : l[i].f1 ≥ 0
      · refine Ev.step (fun k => ?_) (j1 (decide (l[i].f1 < (cl.length : Int))) (by
          by_cases c3 : l[i].f1 < (cl.length : Int)
          · rw [decide_eq_true c3, decide_eq_true (by omega)]
          · rw [decide_eq_false c3, decide_eq_false (by omega)]))
        simp only [interleaveref31_Clauses.l0]
        rw [if_pos (by omega), if_pos (by omega), if_pos (by omega), rdT_get hi', if_pos c1, if_pos c2]
      · refine Ev.step (fun k => ?_) (j1 false (by rw [decide_eq_false (by omega)]))
        simp only [interleaveref31_Clauses.l0]
        rw [if_pos (by omega), if_pos (by omega), if_pos (by omega), rdT_get hi', if_pos c1, if_neg c2]
    by_cases c2 : l[i].f0 = 2
    · have e1 : stp q cl out l[i] = cylGo q l[i].f2 0 [] [] [] := by
        unfold stp
        rw [if_neg c1, if_pos c2]
      refine Ev.step (f := fun k => (interleaveref31_Cyclic.f k a b q cl l[i].f2).bind fun bt401 => (if bt401.2 = true then (if out.length < 5864062014805 then (interleaveref31_Clauses.l0 k (out ++ [bt401.1]) l (l.length : Int) (wrap64 ((i : Int) + 1)) a b q cl) else (none)) else (some (([] : List (List Int)), (i : Int))))) (fun k => ?_) (Ev.bind (refCylGo_ev a b q cl hq l[i].f2 hsi.1 hsi.2 l[i].f2.length 0 [] [] [] (by omega) rfl rfl rfl no_ok.1) (tail _ e1.symm))
      simp only [interleaveref31_Clauses.l0]
      rw [if_pos (by omega), if_pos (by omega), if_pos (by omega), rdT_get hi', if_neg c1, if_pos c2]
    by_cases c3 : l[i].f0 = 3
    · have j2 : ∀ x : Bool, x = decide (¬ (l[i].f3 < 0 ∨ l[i].f4 < 0 ∨ l[i].f3 ≥ (out.length : Int) ∨ l[i].f4 ≥ (out.length : Int))) → Ev (fun k => interleaveref31_Clauses.j2 k out (i : Int) [] false l (l.length : Int) (i : Int) x a b q cl l[i].f0 l[i].f1 l[i].f2 l[i].f3 l[i].f4 l[i].f5) (clsR (if (stp q cl out l[i]).2 = true then cls q cl (l.drop (i + 1)) (i + 1) (out ++ [(stp q cl out l[i]).1]) else ([], some i))) := by
        intro x hx
        by_cases c4 : l[i].f3 < 0 ∨ l[i].f4 < 0 ∨ l[i].f3 ≥ (out.length : Int) ∨ l[i].f4 ≥ (out.length : Int)
        · rw [decide_eq_false (fun h => h c4)] at hx
          subst hx
          refine Ev.step (fun k => ?_) (no (by unfold stp rsvAt; rw [if_neg c1, if_neg c2, if_pos c3, if_pos c4]))
          simp only [interleaveref31_Clauses.j2]
          rfl
        · rw [decide_eq_true c4] at hx
          subst hx
          have e1 : stp q cl out l[i] = rsv (rd_L1 out l[i].f3) (rd_L1 out l[i].f4) l[i].f5 := by
            unfold stp rsvAt
            rw [if_neg c1, if_neg c2, if_pos c3, if_neg c4]
          have m3 := ho _ (rdL_get (l := out) (x := l[i].f3) (by omega) (by omega))
          have m4 := ho _ (rdL_get (l := out) (x := l[i].f4) (by omega) (by omega))
          refine Ev.step (f := fun k => (interleaveref31_Resolvent.f k (rd_L1 out l[i].f3) (rd_L1 out l[i].f4) l[i].f5).bind fun bt391 => (if bt391.2 = true then (if out.length < 5864062014805 then (interleaveref31_Clauses.l0 k (out ++ [bt391.1]) l (l.length : Int) (wrap64 ((i : Int) + 1)) a b q cl) else (none)) else (some (([] : List (List Int)), (i : Int))))) (fun k => ?_) (Ev.bind (refRes_ev m3 m4 _) (tail _ e1.symm))
          simp only [interleaveref31_Clauses.j2]
          rw [if_pos trivial, if_pos (by omega), if_pos (by omega), if_pos (by omega), if_pos (by omega)]
      have head : ∀ k, interleaveref31_Clauses.l0 (k + 1) out l (l.length : Int) (i : Int) a b q cl = if l[i].f3 ≥ 0 then (if l[i].f3 < (i : Int) then (if l[i].f4 ≥ 0 then interleaveref31_Clauses.j2 k out (i : Int) [] false l (l.length : Int) (i : Int) (decide (l[i].f4 < (i : Int))) a b q cl l[i].f0 l[i].f1 l[i].f2 l[i].f3 l[i].f4 l[i].f5 else interleaveref31_Clauses.j2 k out (i : Int) [] false l (l.length : Int) (i : Int) false a b q cl l[i].f0 l[i].f1 l[i].f2 l[i].f3 l[i].f4 l[i].f5)
          else interleaveref31_Clauses.j2 k out (i : Int) [] false l (l.length : Int) (i : Int) false a b q cl l[i].f0 l[i].f1 l[i].f2 l[i].f3 l[i].f4 l[i].f5) else interleaveref31_Clauses.j2 k out (i : Int) [] false l (l.length : Int) (i : Int) false a b q cl l[i].f0 l[i].f1 l[i].f2 l[i].f3 l[i].f4 l[i].f5 := by
        intro k
        simp only [interleaveref31_Clauses.l0]
        rw [if_pos (by omega), if_pos (by omega), if_pos (by omega), rdT_get hi', if_neg c1, if_neg c2, if_pos c3]
      by_cases d1 : l[i].f3 ≥ 0
      · by_cases d2 : l[i].f3 < (i : Int)
        · by_cases d3 : l[i].f4 ≥ 0
          · refine Ev.step (fun k => by rw [head, if_pos d1, if_pos d2, if_pos d3]) (j2 (decide (l[i].f4 < (i : Int))) ?_)
            by_cases d4 : l[i].f4 < (i : Int)
            · rw [decide_eq_true d4, decide_eq_true (by omega)]
            · rw [decide_eq_false d4, decide_eq_false (by omega)]
          · exact Ev.step (fun k => by rw [head, if_pos d1, if_pos d2, if_neg d3]) (j2 false (by rw [decide_eq_false (by omega)]))
        · exact Ev.step (fun k => by rw [head, if_pos d1, if_neg d2]) (j2 false (by rw [decide_eq_false (by omega)]))
      · exact Ev.step (fun k => by rw [head, if_neg d1]) (j2 false (by rw [decide_eq_false (by omega)]))
    · refine Ev.step (fun k => ?_) (no (by unfold stp; rw [if_neg c1, if_neg c2, if_neg c3]))
      simp only [interleaveref31_Clauses.l0]
      rw [if_pos (by omega), if_pos (by omega), if_pos (by omega), rdT_get hi', if_neg c1, if_neg c2, if_neg c3]
theorem refClauses_ev (hq : q.length < 1000) (hcl : ∀ c ∈ cl, okC c) (l : List S50) (hl : l.length < 1000000) (hs : ∀ s ∈ l, okS s) : Ev (fun k => interleaveref31_Clauses.f k a b q cl l) (clsR (cls q cl l 0 [])) :=
  refCls_ev a b q cl hq hcl l hl hs l.length 0 [] (by omega) rfl (by simp)
end
theorem cls_length (q : List S75) (cl : List (List Int)) : ∀ (l : List S50) (i : Nat) (out : List (List Int)), (cls q cl l i out).2 = none → (cls q cl l i out).1.length = out.length + l.length := by
  intro l
  induction l with
  | nil => intro i out _; simp [cls]
  | cons s r ih =>
    intro i out h
    unfold cls at h ⊢
    split
    · rename_i d
      rw [if_pos d] at h
      rw [ih _ _ h, List.length_append, List.length_cons, List.length_cons, List.length_nil]
      omega
    · rename_i d
      rw [if_neg d] at h
      cases h
theorem cls_ok (q : List S75) (cl : List (List Int)) (hq : q.length < 1000) (hcl : ∀ c ∈ cl, okC c) : ∀ (l : List S50) (i : Nat) (out : List (List Int)), (∀ c ∈ out, okC c) → ∀ c ∈ (cls q cl l i out).1, okC c := by
  intro l
  induction l with
  | nil => intro i out ho; exact ho
  | cons s r ih =>
    intro i out ho
    unfold cls
    split
    · exact ih _ _ (snoc_ok q cl hq hcl ho s)
    · exact fun c hc => absurd hc (by simp)
/-- What Check answers. -/
def chk (n : Nat) (r : List (List Int) × Option Nat) : Int × Int := match r.2 with
  | some j => ((j : Int), 15)
  | none => if (n : Int) = 0 then ((n : Int), 15) else if ((rd_L1 r.1 ((n : Int) - 1)).length : Int) > 0 then ((n : Int), 15) else (0, 0)
section
variable (a b : Int) (q : List S75) (cl : List (List Int))
theorem check_ev (hq : q.length < 1000) (hcl : ∀ c ∈ cl, okC c) (l : List S50) (hl : l.length < 1000000) (hs : ∀ s ∈ l, okS s) : Ev (fun k => proof_Check.f k a b q cl l) (chk l.length (cls q cl l 0 [])) := by
  unfold proof_Check.f
  refine Ev.bind (clauses_ev a b q cl hq hcl l hl hs) ?_
  rcases hr : cls q cl l 0 [] with ⟨o, m⟩
  cases m with
  | some j => exact Ev.congr (fun k => if_neg (show ¬ ((15 : Int) = 0) by decide)) (Ev.now _)
  | none =>
    have hlen := cls_length q cl l 0 [] (by rw [hr])
    rw [hr] at hlen
    have hlen : o.length = l.length := by simpa using hlen
    have e1 : chk l.length (o, none) = if (l.length : Int) = 0 then ((l.length : Int), 15) else if ((rd_L1 o ((l.length : Int) - 1)).length : Int) > 0 then ((l.length : Int), 15) else (0, 0) := rfl
    rw [e1]
    refine Ev.congr (fun k => if_pos (show (0 : Int) = 0 from rfl)) ?_
    by_cases c : (l.length : Int) = 0
    · rw [if_pos c]
      exact Ev.congr (fun k => if_pos (show (o.length : Int) = 0 by omega)) (Ev.now _)
    · have e : wrap64 ((o.length : Int) - 1) = (l.length : Int) - 1 := by
        rw [hlen]
        exact wrap64_id (by omega) (by omega)
      rw [if_neg c]
      refine Ev.congr (fun k => if_neg (show ¬ (o.length : Int) = 0 by omega)) ?_
      refine Ev.congr (fun k => if_pos (show 0 ≤ wrap64 ((o.length : Int) - 1) by omega)) ?_
      refine Ev.congr (fun k => if_pos (show wrap64 ((o.length : Int) - 1) < (o.length : Int) by omega)) ?_
      by_cases d : ((rd_L1 o ((l.length : Int) - 1)).length : Int) > 0
      · rw [if_pos d]
        exact Ev.congr (fun k => if_pos (show ((rd_L1 o (wrap64 ((o.length : Int) - 1))).length : Int) > 0 by rw [e]; exact d)) (Ev.now _)
      · rw [if_neg d]
        exact Ev.congr (fun k => if_neg (show ¬ ((rd_L1 o (wrap64 ((o.length : Int) - 1))).length : Int) > 0 by rw [e]; exact d)) (Ev.now _)
theorem refCheck_ev (hq : q.length < 1000) (hcl : ∀ c ∈ cl, okC c) (l : List S50) (hl : l.length < 1000000) (hs : ∀ s ∈ l, okS s) : Ev (fun k => interleaveref31_Check.f k a b q cl l) (chk l.length (cls q cl l 0 [])) := by
  unfold interleaveref31_Check.f
  refine Ev.bind (refClauses_ev a b q cl hq hcl l hl hs) ?_
  rcases hr : cls q cl l 0 [] with ⟨o, m⟩
  cases m with
  | some j => exact Ev.congr (fun k => if_pos (show (j : Int) ≥ 0 by omega)) (Ev.now _)
  | none =>
    have hlen := cls_length q cl l 0 [] (by rw [hr])
    rw [hr] at hlen
    have hlen : o.length = l.length := by simpa using hlen
    have e1 : chk l.length (o, none) = if (l.length : Int) = 0 then ((l.length : Int), 15) else if ((rd_L1 o ((l.length : Int) - 1)).length : Int) > 0 then ((l.length : Int), 15) else (0, 0) := rfl
    rw [e1]
    refine Ev.congr (fun k => if_neg (show ¬ ((-1 : Int) ≥ 0) by decide)) ?_
    by_cases c : (l.length : Int) = 0
    · simp only [if_pos c]
      exact Ev.now _
    · have e : wrap64 ((l.length : Int) - 1) = (l.length : Int) - 1 := wrap64_id (by omega) (by omega)
      simp only [if_neg c]
      refine Ev.congr (fun k => if_pos (show 0 ≤ wrap64 ((l.length : Int) - 1) by omega)) ?_
      refine Ev.congr (fun k => if_pos (show wrap64 ((l.length : Int) - 1) < (o.length : Int) by omega)) ?_
      by_cases d : ((rd_L1 o ((l.length : Int) - 1)).length : Int) > 0
      · rw [if_pos d]
        exact Ev.congr (fun k => if_pos (show ((rd_L1 o (wrap64 ((l.length : Int) - 1))).length : Int) > 0 by rw [e]; exact d)) (Ev.now _)
      · rw [if_neg d]
        exact Ev.congr (fun k => if_neg (show ¬ ((rd_L1 o (wrap64 ((l.length : Int) - 1))).length : Int) > 0 by rw [e]; exact d)) (Ev.now _)
end
theorem same_ev (u : List Int) (hu : u.length < 4611686018427387904) : ∀ (n i : Nat), i + n = u.length → Ev (fun k => interleaveref31_Same.l0 k u u (u.length : Int) (i : Int)) true := by
  intro n
  induction n with
  | zero =>
    intro i hi
    refine Ev.step (f := fun _ => some true) (fun k => ?_) (Ev.now _)
    simp only [interleaveref31_Same.l0]
    rw [if_neg (by omega)]
  | succ n ih =>
    intro i hi
    refine Ev.step (fun k => ?_) (ih (i + 1) (by omega))
    simp only [interleaveref31_Same.l0]
    rw [if_pos (by omega), if_pos (by omega), if_pos (by omega), if_pos (by omega), if_pos trivial, wrapn (show i < u.length by omega) hu]
theorem same_self (u : List Int) (hu : u.length < 4611686018427387904) : Ev (fun k => interleaveref31_Same.f k u u) true := by
  unfold interleaveref31_Same.f
  simp only [if_pos trivial]
  exact same_ev u hu u.length 0 (by omega)
theorem sameC_ev (o : List (List Int)) (ho : ∀ c ∈ o, okC c) (hl : o.length < 4611686018427387904) : ∀ (n i : Nat), i + n = o.length → Ev (fun k => interleavelaw33_sameClauses.l0 k o o (o.length : Int) (i : Int)) true := by
  intro n
  induction n with
  | zero =>
    intro i hi
    refine Ev.step (f := fun _ => some true) (fun k => ?_) (Ev.now _)
    simp only [interleavelaw33_sameClauses.l0]
    rw [if_neg (by omega)]
  | succ n ih =>
    intro i hi
    have m := (ho _ (rdL_get (l := o) (x := (i : Int)) (by omega) (by omega))).2
    refine Ev.step (f := fun k => (interleaveref31_Same.f k (rd_L1 o (i : Int)) (rd_L1 o (i : Int))).bind fun t428 => (if t428 = true then (interleavelaw33_sameClauses.l0 k o o (o.length : Int) ((i + 1 : Nat) : Int)) else (none))) (fun k => ?_) (Ev.bind (same_self _ (by omega)) ?_)
    · simp only [interleavelaw33_sameClauses.l0]
      rw [if_pos (by omega), if_pos (by omega), if_pos (by omega), if_pos (by omega), wrapn (show i < o.length by omega) hl]
    · simp only [if_pos trivial]
      exact ih (i + 1) (by omega)
theorem law_clauses (a b : Int) (q : List S75) (cl : List (List Int)) (hq : q.length < 1000) (hcl : ∀ c ∈ cl, okC c) (l : List S50) (hl : l.length < 1000000) (hs : ∀ s ∈ l, okS s) :
    Ev (fun k => interleavelaw33_clauses.f k a b q cl l) true := by
  unfold interleavelaw33_clauses.f
  refine Ev.bind (clauses_ev a b q cl hq hcl l hl hs) (Ev.bind (refClauses_ev a b q cl hq hcl l hl hs) ?_)
  have hok := cls_ok q cl hq hcl l 0 [] (by simp)
  have hlen := cls_length q cl l 0 []
  rcases hr : cls q cl l 0 [] with ⟨o, m⟩
  rw [hr] at hok hlen
  cases m with
  | some j => exact Ev.congr (fun k => if_pos (show (j : Int) ≥ 0 by omega)) (Ev.congr (fun k => if_pos (show (15 : Int) = 15 from rfl)) (Ev.congr (fun k => if_pos (show (j : Int) = (j : Int) from rfl)) (Ev.now _)))
  | none =>
    have hlen : o.length = l.length := by simpa using hlen rfl
    refine Ev.congr (fun k => if_neg (show ¬ ((-1 : Int) ≥ 0) by decide)) (Ev.congr (fun k => if_pos (show (0 : Int) = 0 from rfl)) (Ev.congr (fun k => if_pos (show (0 : Int) = 0 from rfl)) ?_))
    refine Ev.bind (a := true) ?_ (Ev.now _)
    refine Ev.congr (f := fun k => interleavelaw33_sameClauses.l0 k o o (o.length : Int) ((0 : Nat) : Int)) (fun k => ?_) (sameC_ev o hok (by omega) o.length 0 (by omega))
    exact if_pos (show (o.length : Int) = (o.length : Int) from rfl)
end Go.Proofs.Ytppbnjmhkifdaaa.X
