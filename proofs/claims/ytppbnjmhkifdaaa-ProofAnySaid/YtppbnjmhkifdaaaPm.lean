/- The reference's Normal in plain terms, at literals that are small. -/
import Derived.Test.YtppbnjmhkifdaaaPn
import Derived.Test.YtppbnjmhkifdaaaX8
namespace Go.Proofs.Ytppbnjmhkifdaaa.X
open Go Go.RowKit Go.Proofs.YtppbnjmhkifdaaaW.PrintWords Go.Proofs.YtppbnjmhkifdaaaW.PrintLast Go.Proofs.YtppbnjmhkifdaaaW.PrintMore
def ab (x : Int) : Int := if x < 0 then -x else x
theorem abs_f {x : Int} (h : -1000 < x ∧ x < 1000) : interleaveref31_Abs.f x = some (ab x) := by
  unfold interleaveref31_Abs.f ab wrap64
  split
  · congr 1
    omega
  · rfl
theorem ab_eq {x y : Int} (h : ab x = ab y) : x = y ∨ x = -y := by
  unfold ab at h
  split at h <;> split at h <;> omega
theorem ab_neg (x : Int) : ab (-x) = ab x := by
  unfold ab
  split <;> split <;> omega
theorem ab_key {x y : Int} (hx : x ≠ 0 ∧ -1000 < x ∧ x < 1000) (hy : y ≠ 0 ∧ -1000 < y ∧ y < 1000) (h : ab x < ab y) : nkey x < nkey y := by
  rw [nkey_small hx, nkey_small hy]
  unfold ab at h
  split at h <;> split at h <;> split <;> split <;> omega
theorem take_succ' {l : List Int} {i : Nat} (h : i < l.length) : l.take (i + 1) = l.take i ++ [l[i]] := by
  rw [List.take_add_one, List.getElem?_eq_getElem h]
  rfl
section
variable (c : List Int)
theorem ref_l1 {r : List Int × Bool} {out : List Int} {x : Int} {i0 : Int} (ho : smallL out) (hx : -1000 < x ∧ x < 1000) (hl : out.length < 1000000)
    (h : ∀ p, p ≤ out.length → (∀ a ∈ out.take p, ab a < ab x) → (∀ hp : p < out.length, ab x ≤ ab out[p]) → Ev (fun k => interleaveref31_Normal.j3 k out x (p : Int) c (c.length : Int) i0) r) :
    ∀ n i, i + n = out.length → (∀ a ∈ out.take i, ab a < ab x) → Ev (fun k => interleaveref31_Normal.l1 k out x (i : Int) c (c.length : Int) i0) r := by
  intro n
  induction n with
  | zero =>
    intro i hi ha
    refine Ev.step (f := fun k => interleaveref31_Normal.j3 k out x (i : Int) c (c.length : Int) i0) (fun k => ?_) (h i (by omega) ha (fun hp => absurd hp (by omega)))
    simp only [interleaveref31_Normal.l1]
    rw [if_neg (by omega)]
  | succ n ih =>
    intro i hi ha
    have hi' : i < out.length := by omega
    have e1 := abs_f (ho _ (List.getElem_mem hi')).2
    by_cases c1 : ab out[i] < ab x
    · refine Ev.step (f := fun k => interleaveref31_Normal.l1 k out x ((i + 1 : Nat) : Int) c (c.length : Int) i0) (fun k => ?_) (ih (i + 1) (by omega) ?_)
      · simp only [interleaveref31_Normal.l1]
        rw [if_pos (by omega), if_pos (by omega), rd_get hi', e1, Option.bind_some, abs_f hx, Option.bind_some, if_pos c1, wrapn hi' (by omega)]
      · intro a haa
        rw [take_succ' hi', List.mem_append] at haa
        rcases haa with haa | haa
        · exact ha a haa
        · rw [List.mem_singleton.1 haa]
          exact c1
    · refine Ev.step (f := fun k => interleaveref31_Normal.j3 k out x (i : Int) c (c.length : Int) i0) (fun k => ?_) (h i (by omega) ha (fun _ => by omega))
      simp only [interleaveref31_Normal.l1]
      rw [if_pos (by omega), if_pos (by omega), rd_get hi', e1, Option.bind_some, abs_f hx, Option.bind_some, if_neg c1]
theorem ref_l0 (hs : smallL c) (hl : c.length < 1000000) : ∀ n i out, i + n = c.length → out.length ≤ i → out.Pairwise (fun x y => ab x < ab y) → (∀ x, x ∈ out ↔ x ∈ c.take i) → (∀ x, x ∈ c.take i → -x ∈ c.take i → False) →
    Ev (fun k => interleaveref31_Normal.l0 k out c (c.length : Int) (i : Int)) (nrm c) := by
  intro n
  induction n with
  | zero =>
    intro i out hi _ hp hm hc
    have e : c.take i = c := List.take_of_length_le (by omega)
    rw [e] at hm hc
    have h1 : nrm c = (out, true) := by
      unfold nrm
      rw [if_neg fun h => by obtain ⟨x, h1, h2⟩ := clash_iff.1 h; exact hc x h1 h2]
      refine congrArg (·, true) (sorted_ext _ _ (norm_sorted hs) (List.Pairwise.imp_of_mem (fun {a b} ha hb h => ab_key (hs _ ((hm a).1 ha)) (hs _ ((hm b).1 hb)) h) hp) fun x => ?_)
      rw [norm_mem, hm]
    rw [h1]
    refine Ev.step (f := fun _ => some (out, true)) (fun k => ?_) (Ev.now _)
    simp only [interleaveref31_Normal.l0]
    rw [if_neg (by omega)]
  | succ n ih =>
    intro i out hi hol hp hm hc
    have hi' : i < c.length := by omega
    have hx := hs _ (List.getElem_mem hi')
    have ho : smallL out := fun a ha => hs a (List.mem_of_mem_take ((hm a).1 ha))
    have et := take_succ' hi'
    -- the rest, behind a round
    have next : ∀ out', out'.length ≤ i + 1 → out'.Pairwise (fun x y => ab x < ab y) → (∀ x, x ∈ out' ↔ x ∈ c.take (i + 1)) → (∀ x, x ∈ c.take (i + 1) → -x ∈ c.take (i + 1) → False) →
        Ev (fun k => interleaveref31_Normal.l0 k out' c (c.length : Int) (wrap64 ((i : Int) + 1))) (nrm c) := by
      intro out' h0 h1 h2 h3
      rw [wrapn hi' (by omega)]
      exact ih (i + 1) out' (by omega) h0 h1 h2 h3
    -- where an element is put in between
    have put : ∀ p, p ≤ out.length → (∀ a ∈ out.take p, ab a < ab c[i]) → (∀ hp : p < out.length, ab c[i] < ab out[p]) →
        Ev (fun k => interleaveref31_Normal.l0 k (out.take p ++ ([c[i]] ++ out.drop p)) c (c.length : Int) (wrap64 ((i : Int) + 1))) (nrm c) := by
      intro p hpl h1 h2
      have hsp : (out.take p ++ out.drop p).Pairwise (fun x y => ab x < ab y) := by rw [List.take_append_drop]; exact hp
      obtain ⟨q1, q2, q3⟩ := List.pairwise_append.1 hsp
      have h3 : ∀ b ∈ out.drop p, ab c[i] < ab b := by
        intro b hb
        by_cases c1 : p < out.length
        · rw [List.drop_eq_getElem_cons c1] at hb q2
          rcases List.mem_cons.1 hb with e | e
          · rw [e]
            exact h2 c1
          · have := (List.pairwise_cons.1 q2).1 b e
            have := h2 c1
            omega
        · rw [List.drop_of_length_le (by omega)] at hb
          exact absurd hb (by simp)
      have hmem : ∀ x, x ∈ out.take p ++ ([c[i]] ++ out.drop p) ↔ x ∈ c.take (i + 1) := by
        intro x
        rw [et, show (x ∈ c.take i ++ [c[i]] ↔ x ∈ out ∨ x ∈ [c[i]]) by rw [List.mem_append, hm]]
        constructor
        · intro h
          rcases List.mem_append.1 h with h | h
          · exact .inl (List.mem_of_mem_take h)
          · rcases List.mem_append.1 h with h | h
            · exact .inr h
            · exact .inl (List.mem_of_mem_drop h)
        · rintro (h | h)
          · rw [← List.take_append_drop p out] at h
            rcases List.mem_append.1 h with h | h
            · exact List.mem_append.2 (.inl h)
            · exact List.mem_append.2 (.inr (List.mem_append.2 (.inr h)))
          · exact List.mem_append.2 (.inr (List.mem_append.2 (.inl h)))
      have far : ∀ b ∈ out, ab b ≠ ab c[i] := by
        intro b hb e
        rw [← List.take_append_drop p out] at hb
        rcases List.mem_append.1 hb with h | h
        · have := h1 b h
          omega
        · have := h3 b h
          omega
      refine next _ ?_ ?_ hmem ?_
      · simp only [List.length_append, List.length_take, List.length_drop, List.length_cons, List.length_nil]
        omega
      · refine List.pairwise_append.2 ⟨q1, List.pairwise_cons.2 ⟨h3, q2⟩, fun a ha b hb => ?_⟩
        rcases List.mem_cons.1 hb with e | e
        · rw [e]
          exact h1 a ha
        · exact q3 a ha b e
      · intro x k1 k2
        rw [et, List.mem_append] at k1 k2
        rcases k1 with k1 | k1
        · rcases k2 with k2 | k2
          · exact hc x k1 k2
          · have := List.mem_singleton.1 k2
            exact far x ((hm x).2 k1) (by rw [← this, ab_neg])
        · have e := List.mem_singleton.1 k1
          rcases k2 with k2 | k2
          · exact far (-x) ((hm _).2 k2) (by rw [ab_neg, e])
          · have := List.mem_singleton.1 k2
            omega
    refine Ev.step (f := fun k => interleaveref31_Normal.j1 k out c[i] c (c.length : Int) (i : Int) false) (fun k => ?_) ?_
    · simp only [interleaveref31_Normal.l0]
      rw [if_pos (by omega), if_pos (by omega), if_pos (by omega), rd_get hi', if_neg hx.1, beq_eq_false_iff_ne.2 ?_]
      unfold wrap64
      omega
    refine Ev.step (f := fun k => interleaveref31_Normal.l1 k out c[i] ((0 : Nat) : Int) c (c.length : Int) (i : Int)) (fun k => ?_) ?_
    · simp only [interleaveref31_Normal.j1]
      rfl
    refine ref_l1 c ho hx.2 (by omega) (fun p hpl h1 h2 => ?_) out.length 0 (by omega) (by simp)
    have hwn : wrap64 (-c[i]) = -c[i] := wrap64_id (by omega) (by omega)
    have insert : (∀ hp : p < out.length, ab c[i] < ab out[p]) → Ev (fun k => interleaveref31_Normal.j4 k out c[i] (p : Int) c (c.length : Int) (i : Int) false) (nrm c) := by
      intro h3
      have h4 := put p hpl h1 h3
      have hlen : ([c[i]] ++ out.drop p).length + 1 ≤ 1000002 := by
        simp only [List.length_append, List.length_drop, List.length_cons, List.length_nil]
        omega
      refine Ev.step (fun k => ?_) h4
      simp only [interleaveref31_Normal.j4]
      rw [if_neg (by decide)]
      by_cases c1 : p < out.length
      · rw [if_pos (by omega), if_pos (by omega), rd_get c1, hwn, if_neg ?_, Option.bind_some, if_pos (by omega), Option.bind_some, Int.toNat_natCast, if_pos (by simp only [List.length_drop, List.length_cons, List.length_nil]; omega), Option.bind_some, Option.bind_some, if_pos (by simp), if_pos (by simp only [List.length_append, List.length_take, List.length_drop, List.length_cons, List.length_nil]; omega)]
        intro e
        have := h3 c1
        rw [e, ab_neg] at this
        omega
      · rw [if_neg (by omega), Option.bind_some, if_pos (by omega), if_pos (by omega), Option.bind_some, Int.toNat_natCast, if_pos (by simp only [List.length_drop, List.length_cons, List.length_nil]; omega), Option.bind_some, Option.bind_some, if_pos (by simp), if_pos (by simp only [List.length_append, List.length_take, List.length_drop, List.length_cons, List.length_nil]; omega)]
    by_cases c1 : p < out.length
    · refine Ev.step (f := fun k => interleaveref31_Normal.j4 k out c[i] (p : Int) c (c.length : Int) (i : Int) (out[p] == c[i])) (fun k => ?_) ?_
      · simp only [interleaveref31_Normal.j3]
        rw [if_pos (by omega), if_pos (by omega), rd_get c1]
      · by_cases c2 : out[p] = c[i]
        · rw [beq_iff_eq.2 c2]
          have hin : c[i] ∈ c.take i := (hm _).1 (c2 ▸ List.getElem_mem c1)
          have hsame : ∀ x, x ∈ c.take (i + 1) ↔ x ∈ c.take i := by
            intro x
            rw [et, List.mem_append]
            exact ⟨fun h => h.elim id fun h => by rw [List.mem_singleton.1 h]; exact hin, .inl⟩
          refine Ev.step (fun k => ?_) (next out (by omega) hp (fun x => by rw [hm, hsame]) (fun x k1 k2 => hc x ((hsame _).1 k1) ((hsame _).1 k2)))
          simp only [interleaveref31_Normal.j4]
          rfl
        · rw [beq_eq_false_iff_ne.2 c2]
          by_cases c3 : out[p] = -c[i]
          · have h5 : nrm c = ([], false) := by
              unfold nrm
              rw [if_pos (clash_iff.2 ⟨c[i], List.getElem_mem hi', ?_⟩)]
              rw [← c3]
              exact List.mem_of_mem_take ((hm _).1 (List.getElem_mem c1))
            rw [h5]
            refine Ev.step (f := fun _ => some ([], false)) (fun k => ?_) (Ev.now _)
            simp only [interleaveref31_Normal.j4]
            rw [if_neg (by decide), if_pos (by omega), if_pos (by omega), rd_get c1, hwn, if_pos c3]
          · refine insert fun hp => ?_
            have := h2 hp
            by_cases c4 : ab c[i] = ab out[p]
            · rcases ab_eq c4 with e | e
              · exact absurd e.symm c2
              · exact absurd (by omega) c3
            · omega
    · refine Ev.step (f := fun k => interleaveref31_Normal.j4 k out c[i] (p : Int) c (c.length : Int) (i : Int) false) (fun k => ?_) (insert fun hp => absurd hp c1)
      simp only [interleaveref31_Normal.j3]
      rw [if_neg (by omega)]
/-- The reference's Normal answers as the program's. -/
theorem refNrm_ev (hs : smallL c) (hl : c.length < 1000000) : Ev (fun k => interleaveref31_Normal.f k c) (nrm c) := by
  unfold interleaveref31_Normal.f
  exact ref_l0 c hs hl c.length 0 [] (by omega) (by simp) List.Pairwise.nil (by simp) (by simp)
end
end Go.Proofs.Ytppbnjmhkifdaaa.X
