/- TokenBlanks: the plain law. -/
import Derived.Test.YtdkloonoeklgaaaDoorMj
import Derived.Test.YtdkloonoeklgaaaDoorX10
namespace Go.Proofs.YtdkloonoeklgaaaDoor.X
open Go.RowKit Go.Proofs.YtdkloonoeklgaaaDoorW.PrintWords Go.Proofs.YtdkloonoeklgaaaDoorW.PrintLast Go.Proofs.YtdkloonoeklgaaaDoorW.PrintMore

theorem blanks_join (ts : List S27) (v : Bool) (hx : ts.length ≤ 100000) (d : Nat) : ∀ (j : Nat) (A : ByteArray), j ≤ ts.length → ts.length - j = d → A.size + (joined (ts.drop j)).length ≤ 100000 →
    (∀ B : ByteArray, B.data.toList = A.data.toList ++ joined (ts.drop j) → Ev (fun k => interleavelaw01_TokenBlanks.l0 k ts B (ts.length : Nat)) v) → Ev (fun k => interleavelaw01_TokenBlanks.l0 k ts A (j : Int)) v := by
  induction d with
  | zero =>
    intro j A hj hd hz h
    have e : j = ts.length := by clear h; omega
    subst e
    exact h A (by rw [List.drop_length]; simp [joined])
  | succ d ih =>
    intro j A hj hd hz h
    have hlt : j < ts.length := by clear h; omega
    have ed := List.drop_eq_getElem_cons hlt
    rw [ed, joined_cons] at h
    rw [ed, joined_cons, List.length_append, List.length_cons, size_data] at hz
    have z1 : A.size + ts[j].f1.size ≤ 9223372036854775807 := by clear h; omega
    have z2 : (A ++ ts[j].f1).size + 1 ≤ 9223372036854775807 := by rw [size_app]; clear h; omega
    have z3 : ((A ++ ts[j].f1) ++ (⟨#[32]⟩ : ByteArray)).size + (joined (ts.drop (j + 1))).length ≤ 100000 := by
      rw [size_app, size_app, show (⟨#[32]⟩ : ByteArray).size = 1 from rfl]; clear h; omega
    refine Ev.step (fun k => ?_) (ih (j + 1) ((A ++ ts[j].f1) ++ (⟨#[32]⟩ : ByteArray)) (by clear h; omega) (by clear h; omega) z3 (fun B hB => h B ?_))
    · simp only [interleavelaw01_TokenBlanks.l0]
      rw [if_pos (by clear h; omega), if_pos (by clear h; omega), rd_at ts j hlt, if_pos z1, if_pos z2, wrap_nat j (by clear h; omega)]
    · rw [hB, data_app, data_app]; simp
theorem blanks_same (ts : List S27) (hx : ts.length ≤ 100000) (d : Nat) : ∀ j : Nat, j ≤ ts.length → ts.length - j = d → Ev (fun k => interleavelaw01_TokenBlanks.l1 k ts (ts.map (setL 1)) (j : Int)) true := by
  induction d with
  | zero =>
    intro j hj hd
    have e : j = ts.length := by omega
    subst e
    refine Ev.step (fun k => ?_) awake_some
    simp only [interleavelaw01_TokenBlanks.l1]
    rw [if_neg (by omega)]
  | succ d ih =>
    intro j hj hd
    have hlt : j < ts.length := by omega
    have hlt2 : j < (ts.map (setL 1)).length := by rw [List.length_map]; exact hlt
    refine Ev.step (fun k => ?_) (ih (j + 1) (by omega) (by omega))
    simp only [interleavelaw01_TokenBlanks.l1]
    rw [if_pos (by omega), if_pos (by omega), if_pos (by omega), rd_at ts j hlt, rd_at _ j hlt2, List.getElem_map]
    rw [if_pos (by rfl), if_pos (by rfl), if_pos (by rfl), wrap_nat j (by omega)]
theorem pureBlanks : interleavelaw01_TokenBlanks.Pure := by
  intro a0 _
  refine Ev.rounds (g := fun k => interleavelaw01_TokenBlanks.f k a0) ?_
  unfold interleavelaw01_TokenBlanks.f
  by_cases h1 : (a0.size : Int) > 1000
  · exact Ev.pos h1 (Ev.now _)
  refine Ev.neg h1 (Ev.bind (scan_ev a0 (by omega)) ?_)
  have hf := scanL_facts a0.data.toList 1
  have hj := (scan_joined 1 a0.data.toList.length a0.data.toList (Nat.le_refl _) 1).1
  have he := scanL_err a0.data.toList 1
  rw [size_data] at hf
  generalize scanL a0.data.toList 1 = q at hf hj he ⊢
  by_cases hq : q.2.1 = 0
  · refine Ev.pos hq ?_
    have h2 := hj hq
    refine blanks_join q.1 true (by omega) _ 0 ⟨#[]⟩ (by omega) rfl (by rw [List.drop_zero]; show 0 + _ ≤ _; omega) (fun B hB => ?_)
    rw [List.drop_zero] at hB
    have hB2 : B.data.toList = joined q.1 := by rw [hB]; rfl
    have hBs : B.size ≤ 4096 := by rw [← size_data, hB2]; omega
    have hs := scan_ev B hBs
    rw [hB2, h2] at hs
    have hfin := blanks_same q.1 (by omega) _ 0 (by omega) rfl
    have hj1 : Ev (fun k => interleavelaw01_TokenBlanks.j1 k q.1 (q.1.map (setL 1)) ((q.1.length : Int) != ((q.1.map (setL 1)).length : Int))) true := by
      rw [List.length_map]
      refine Ev.step (fun k => ?_) hfin
      simp only [interleavelaw01_TokenBlanks.j1]
      rw [if_neg (by simp)]
      rfl
    have hb : Ev (fun k => (token_Scan.f k B).bind fun bt246 => (if bt246.2.1 = 0 then (interleavelaw01_TokenBlanks.j1 k q.1 bt246.1 ((q.1.length : Int) != (bt246.1.length : Int))) else (interleavelaw01_TokenBlanks.j1 k q.1 bt246.1 true))) true :=
      Ev.bind hs (Ev.pos rfl hj1)
    refine Ev.step (fun k => ?_) hb
    simp only [interleavelaw01_TokenBlanks.l0]
    rw [if_neg (by omega)]
  · refine Ev.neg hq ?_
    rw [he hq]
    exact Ev.now _
end Go.Proofs.YtdkloonoeklgaaaDoor.X
