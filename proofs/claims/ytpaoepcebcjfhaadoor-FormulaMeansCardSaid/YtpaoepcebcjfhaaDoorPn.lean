/- formula.Normal in plain terms, at literals that are small. -/
import Derived.Test.YtpaoepcebcjfhaaDoorPa
namespace Go.Proofs.YtpaoepcebcjfhaaDoor.X
open Go Go.RowKit Go.Proofs.YtpaoepcebcjfhaaDoorW.PrintWords Go.Proofs.YtpaoepcebcjfhaaDoorW.PrintLast Go.Proofs.YtpaoepcebcjfhaaDoorW.PrintMore
def smallL (l : List Int) : Prop := ∀ x ∈ l, x ≠ 0 ∧ -1000 < x ∧ x < 1000
theorem rd_get {l : List Int} {i : Nat} (hi : i < l.length) : rd l (i : Int) = l[i] := by
  unfold rd
  rw [Int.toNat_natCast, List.getD_eq_getElem?_getD, List.getElem?_eq_getElem hi]
  rfl
theorem wrapn {i n : Nat} (h : i < n) (hn : n < 4611686018427387904) : wrap64 ((i : Int) + 1) = ((i + 1 : Nat) : Int) := by
  unfold wrap64
  omega
theorem index_none (l : List Int) (v : Int) (hl : l.length < 4611686018427387904) (hv : v ∉ l) : ∀ (n i : Nat), i + n = l.length → Ev (fun k => slices_Index_int_int.l0 k l v (l.length : Int) (i : Int)) (-1) := by
  intro n
  induction n with
  | zero =>
    intro i hi
    refine Ev.step (f := fun _ => some (-1)) (fun k => ?_) (Ev.now _)
    simp only [slices_Index_int_int.l0]
    rw [if_neg (by omega)]
  | succ n ih =>
    intro i hi
    have hii : i < l.length := by omega
    refine Ev.step (f := fun k => slices_Index_int_int.l0 k l v (l.length : Int) ((i + 1 : Nat) : Int)) (fun k => ?_) (ih (i + 1) (by omega))
    simp only [slices_Index_int_int.l0]
    rw [if_pos (by omega), if_pos (by omega), if_pos (by omega), if_neg ?_, wrapn hii hl]
    rw [rd_get hii]
    intro h
    exact hv (h ▸ List.getElem_mem hii)
theorem contains_none (l : List Int) (v : Int) (hl : l.length < 4611686018427387904) (hv : v ∉ l) : Ev (fun k => slices_Contains_int_int.f k l v) false := by
  unfold slices_Contains_int_int.f
  exact Ev.bind (index_none l v hl hv l.length 0 (by omega)) (Ev.now _)
theorem comp_mem_of {l : List Int} {x : Int} (h : x ∈ compN l) : x ∈ l := by
  unfold compN Lib.compact Lib.compactUpTo at h
  obtain ⟨j, hj, rfl⟩ := List.mem_map.1 h
  have hj := List.mem_range.1 (List.mem_filter.1 hj).1
  rw [getElem!_pos l.toArray j (by simpa using hj)]
  simp
theorem comp_mem {l : List Int} (j : Nat) (hj : j < l.length) : l[j] ∈ compN l := by
  induction j with
  | zero =>
    unfold compN Lib.compact Lib.compactUpTo
    refine List.mem_map.2 ⟨0, List.mem_filter.2 ⟨List.mem_range.2 hj, by simp [Lib.keeps]⟩, ?_⟩
    rw [getElem!_pos l.toArray 0 (by simpa using hj)]
    simp
  | succ j ih =>
    by_cases c : l[j + 1] = l[j]
    · rw [c]
      exact ih (by omega)
    · unfold compN Lib.compact Lib.compactUpTo
      refine List.mem_map.2 ⟨j + 1, List.mem_filter.2 ⟨List.mem_range.2 hj, ?_⟩, ?_⟩
      · unfold Lib.keeps
        refine decide_eq_true (.inr ?_)
        rw [getElem!_pos l.toArray (j + 1) (by simpa using hj), getElem!_pos l.toArray (j + 1 - 1) (by simp; omega)]
        simpa using c
      · rw [getElem!_pos l.toArray (j + 1) (by simpa using hj)]
        simp
theorem nkey_lt {x y : Int} (hx : -1000 < x ∧ x < 1000) (hy : -1000 < y ∧ y < 1000) (h : nkey x ≤ nkey y) (hne : y ≠ x) : nkey x < nkey y := by
  have : nkey x ≠ nkey y := fun e => hne (nkey_inj 4611686018427387904 y x (.inl rfl) (decide_eq_true (by omega)) (decide_eq_true (by omega)) e.symm)
  omega
theorem comp_sorted {l : List Int} (hs : ∀ x ∈ l, -1000 < x ∧ x < 1000) (hp : l.Pairwise (fun x y => nkey x ≤ nkey y)) : (compN l).Pairwise (fun x y => nkey x < nkey y) := by
  unfold compN Lib.compact Lib.compactUpTo
  rw [List.pairwise_map]
  have h1 : ((List.range l.length).filter (Lib.keeps l.toArray)).Pairwise (· < ·) := List.Pairwise.filter _ List.pairwise_lt_range
  refine List.Pairwise.imp_of_mem (fun {i j} hi hj hij => ?_) h1
  have hi1 := List.mem_range.1 (List.mem_filter.1 hi).1
  have hj1 := List.mem_range.1 (List.mem_filter.1 hj).1
  have hk := of_decide_eq_true (List.mem_filter.1 hj).2
  rcases hk with hk | hk
  · omega
  · rw [getElem!_pos l.toArray j (by simpa using hj1), getElem!_pos l.toArray (j - 1) (by simp; omega)] at hk
    rw [getElem!_pos l.toArray i (by simpa using hi1), getElem!_pos l.toArray j (by simpa using hj1)]
    simp only [List.getElem_toArray] at hk ⊢
    have hP := List.pairwise_iff_getElem.1 hp
    have h2 : nkey l[j - 1] ≤ nkey l[j] := hP (j - 1) j (by omega) hj1 (by omega)
    have h3 : nkey l[i] ≤ nkey l[j - 1] := by
      by_cases c : i = j - 1
      · subst c
        exact Int.le_refl _
      · exact hP i (j - 1) hi1 (by omega) (by omega)
    have h4 := nkey_lt (hs _ (List.getElem_mem (show j - 1 < l.length by omega))) (hs _ (List.getElem_mem hj1)) h2 hk
    omega
/-- What Normal sorts a clause to. -/
def norm (l : List Int) : List Int := compN (sortN l)
theorem norm_mem {l : List Int} {x : Int} : x ∈ norm l ↔ x ∈ l := by
  have hperm : (sortN l).Perm l := List.mergeSort_perm l nle
  constructor
  · intro h
    exact hperm.mem_iff.1 (comp_mem_of h)
  · intro h
    obtain ⟨j, hj, rfl⟩ := List.getElem_of_mem (hperm.mem_iff.2 h)
    exact comp_mem j hj
theorem norm_sorted {l : List Int} (hs : smallL l) : (norm l).Pairwise (fun x y => nkey x < nkey y) := by
  have hperm : (sortN l).Perm l := List.mergeSort_perm l nle
  refine comp_sorted (fun x hx => (hs x (hperm.mem_iff.1 hx)).2) ?_
  have h1 := List.pairwise_mergeSort (le := nle) (fun a b c h1 h2 => by
    unfold nle at *
    have := of_decide_eq_true h1
    have := of_decide_eq_true h2
    exact decide_eq_true (by omega)) (fun a b => by
    unfold nle
    by_cases h : nkey a ≤ nkey b
    · rw [decide_eq_true h]; rfl
    · rw [decide_eq_true (show nkey b ≤ nkey a by omega), Bool.or_true]) l
  exact h1.imp (fun h => of_decide_eq_true h)
theorem norm_loop (d : List Int) (hs : ∀ x ∈ d, -1000 < x ∧ x < 1000) (hl : d.length < 4611686018427387904) : ∀ (n i : Nat), d.length ≤ i + n → 1 ≤ i → (∀ j (h : j + 1 < d.length), j + 1 < i → nb d[j + 1] ≠ nb d[j]) →
    (Ev (fun k => formula_Normal.l0 k d (i : Int)) (d, true) ∧ ∀ j (h : j + 1 < d.length), nb d[j + 1] ≠ nb d[j]) ∨ (Ev (fun k => formula_Normal.l0 k d (i : Int)) ([], false) ∧ ∃ j, ∃ h : j + 1 < d.length, nb d[j + 1] = nb d[j]) := by
  intro n
  induction n with
  | zero =>
    intro i hi h1 hj
    refine .inl ⟨Ev.step (f := fun _ => some (d, true)) (fun k => ?_) (Ev.now _), fun j h => hj j h (by omega)⟩
    simp only [formula_Normal.l0]
    rw [if_neg (by omega)]
  | succ n ih =>
    intro i hi h1 hj
    by_cases c : i < d.length
    · have e1 : wrap64 ((i : Int) - 1) = ((i - 1 : Nat) : Int) := by
        unfold wrap64
        omega
      have hi1 : i - 1 < d.length := by omega
      have b1 : formula_boolean.f (rd d (i : Int)) = some (nb d[i]) := by
        rw [rd_get c]
        have := hs _ (List.getElem_mem c)
        exact boolean_f (by omega) (by omega)
      have b2 : formula_boolean.f (rd d ((i - 1 : Nat) : Int)) = some (nb d[i - 1]) := by
        rw [rd_get hi1]
        have := hs _ (List.getElem_mem hi1)
        exact boolean_f (by omega) (by omega)
      have step : ∀ k, formula_Normal.l0 (k + 1) d (i : Int) = if nb d[i] = nb d[i - 1] then some ([], false) else formula_Normal.l0 k d ((i + 1 : Nat) : Int) := by
        intro k
        simp only [formula_Normal.l0]
        rw [if_pos (by omega), if_pos (by omega), b1, Option.bind_some, e1, if_pos (by omega), if_pos (by omega), b2, Option.bind_some, wrapn c hl]
      by_cases c2 : nb d[i] = nb d[i - 1]
      · refine .inr ⟨Ev.step (f := fun _ => some ([], false)) (fun k => by rw [step, if_pos c2]) (Ev.now _), i - 1, by omega, ?_⟩
        have e2 : i - 1 + 1 = i := by omega
        simp only [e2]
        exact c2
      · have key : ∀ j (h : j + 1 < d.length), j + 1 < i + 1 → nb d[j + 1] ≠ nb d[j] := by
          intro j h hj2
          by_cases c3 : j + 1 = i
          · subst c3
            exact c2
          · exact hj j h (by omega)
        rcases ih (i + 1) (by omega) (by omega) key with ⟨h2, h3⟩ | ⟨h2, h3⟩
        · exact .inl ⟨Ev.step (fun k => by rw [step, if_neg c2]) h2, h3⟩
        · exact .inr ⟨Ev.step (fun k => by rw [step, if_neg c2]) h2, h3⟩
    · refine .inl ⟨Ev.step (f := fun _ => some (d, true)) (fun k => ?_) (Ev.now _), fun j h => hj j h (by omega)⟩
      simp only [formula_Normal.l0]
      rw [if_neg (by omega)]
theorem small_ok {l : List Int} (hs : smallL l) : okN l = true := by
  unfold okN
  rw [Bool.or_eq_true]
  refine .inl (List.all_eq_true.2 fun x hx => ?_)
  have := (hs x hx).2
  exact decide_eq_true (by omega)
theorem normal_ev (l : List Int) (hs : smallL l) (hl : l.length < 1000000) :
    (Ev (fun k => formula_Normal.f k l) (norm l, true) ∧ ∀ j (h : j + 1 < (norm l).length), nb (norm l)[j + 1] ≠ nb (norm l)[j]) ∨ (Ev (fun k => formula_Normal.f k l) ([], false) ∧ ∃ j, ∃ h : j + 1 < (norm l).length, nb (norm l)[j + 1] = nb (norm l)[j]) := by
  have hsl : (sortN l).length = l.length := List.length_mergeSort _
  have hcl : (norm l).length ≤ l.length := by rw [← hsl]; exact compact_length_le (sortN l)
  have hz : (0 : Int) ∉ l := fun h => (hs 0 h).1 rfl
  have hm : (-9223372036854775808 : Int) ∉ l := fun h => by have := (hs _ h).2; omega
  have hds : ∀ x ∈ norm l, -1000 < x ∧ x < 1000 := fun x hx => (hs x (norm_mem.1 hx)).2
  have hj : ∀ r, Ev (fun k => formula_Normal.l0 k (norm l) ((1 : Nat) : Int)) r → Ev (fun k => formula_Normal.f k l) r := by
    intro r hr
    have h1 : Ev (fun k => formula_Normal.j0 k l false) r := by
      refine Ev.step (fun k => ?_) hr
      simp only [formula_Normal.j0]
      rw [if_neg (by decide), if_pos (small_ok hs), if_pos (by omega), Option.bind_some, if_pos (by omega)]
      rfl
    unfold formula_Normal.f
    simp only [List.nil_append, Option.bind_some]
    refine Ev.congr (fun k => if_pos (by simp; omega)) ?_
    refine Ev.bind (contains_none l 0 (by omega) hz) ?_
    refine Ev.congr (fun k => if_neg (by decide)) ?_
    exact Ev.bind (contains_none l _ (by omega) hm) h1
  rcases norm_loop (norm l) hds (by omega) (norm l).length 1 (by omega) (by omega) (fun j h h2 => by omega) with ⟨h1, h2⟩ | ⟨h1, h2⟩
  · exact .inl ⟨hj _ h1, h2⟩
  · exact .inr ⟨hj _ h1, h2⟩
end Go.Proofs.YtpaoepcebcjfhaaDoor.X
