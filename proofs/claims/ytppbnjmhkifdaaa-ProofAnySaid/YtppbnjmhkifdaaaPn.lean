/- formula.Bound and formula.Normal in plain terms, at literals that are small. -/
import Derived.Test.YtppbnjmhkifdaaaX2
namespace Go.Proofs.Ytppbnjmhkifdaaa.X
open Go Go.RowKit Go.Proofs.YtppbnjmhkifdaaaW.PrintWords Go.Proofs.YtppbnjmhkifdaaaW.PrintLast Go.Proofs.YtppbnjmhkifdaaaW.PrintMore
theorem wrap64_id {x : Int} (h0 : -9223372036854775808 ≤ x) (h1 : x < 9223372036854775808) : wrap64 x = x := by
  unfold wrap64
  omega
theorem boolean_f {x : Int} (h0 : -9223372036854775808 < x) (h1 : x < 9223372036854775808) : formula_boolean.f x = some (nb x) := by
  unfold formula_boolean.f nb wrap64
  split
  · congr 1
    omega
  · congr 1
    omega
theorem Ev.at_one {α : Type} {g : Nat → Option α} {r : α} (h : ∀ k, g (k + 1) = some r) : Ev g r :=
  ⟨1, fun k hk => by obtain ⟨j, rfl⟩ : ∃ j, k = j + 1 := ⟨k - 1, by omega⟩; exact h j⟩
def bnd (q : List S75) (x : Int) : Int × Int × Int × Bool :=
  if x = 0 ∨ (q.length : Int) < x ∨ x < -(q.length : Int) then (0, 0, 0, false)
  else if 0 < x then ((rd_T75 q (x - 1)).f0, (rd_T75 q (x - 1)).f1, (rd_T75 q (x - 1)).f2, true)
  else ((rd_T75 q (-x - 1)).f1, (rd_T75 q (-x - 1)).f0, wrap64 (wrap64 (-(rd_T75 q (-x - 1)).f2) - 1), true)
theorem bound_ev (a b : Int) (q : List S75) (cl : List (List Int)) (x : Int) (h0 : -9223372036854775808 ≤ x) (h1 : x < 9223372036854775808) (hl : q.length < 4611686018427387904) :
    Ev (fun k => formula_Bound.f k a b q cl x) (bnd q x) := by
  refine Ev.at_one fun k => ?_
  unfold formula_Bound.f
  by_cases c0 : x = 0
  · rw [if_pos c0]
    simp [formula_Bound.j0, bnd, c0]
  rw [if_neg c0]
  by_cases c1 : x = -9223372036854775808
  · rw [if_pos c1]
    have : bnd q x = (0, 0, 0, false) := by
      unfold bnd
      rw [if_pos (by omega)]
    rw [this]
    simp [formula_Bound.j0]
  rw [if_neg c1, boolean_f (by omega) h1, Option.bind_some]
  simp only [formula_Bound.j0]
  by_cases c2 : nb x ≥ (q.length : Int)
  · rw [if_pos (by simpa using c2)]
    unfold bnd
    unfold nb at c2
    rw [if_pos (by split at c2 <;> omega)]
  · rw [if_neg (by simpa using c2), boolean_f (by omega) h1, Option.bind_some]
    have hb0 : 0 ≤ nb x := by unfold nb; split <;> omega
    rw [if_pos hb0, if_pos (by omega)]
    unfold nb at c2 ⊢
    unfold bnd
    by_cases c3 : x < 0
    · rw [if_pos c3] at c2
      rw [if_pos c3, if_pos c3, if_neg (by omega), if_neg (by omega)]
    · rw [if_neg c3] at c2
      rw [if_neg c3, if_neg c3, if_neg (by omega), if_pos (by omega)]
def smallL (l : List Int) : Prop := ∀ x ∈ l, x ≠ 0 ∧ -1000 < x ∧ x < 1000
theorem rd_get {l : List Int} {i : Nat} (hi : i < l.length) : rd l (i : Int) = l[i] := by
  unfold rd
  rw [Int.toNat_natCast, List.getD_eq_getElem?_getD, List.getElem?_eq_getElem hi]
  rfl
theorem wrapn {i n : Nat} (h : i < n) (hn : n < 4611686018427387904) : wrap64 ((i : Int) + 1) = ((i + 1 : Nat) : Int) := by
  unfold wrap64
  omega
theorem index_none (l : List Int) (v : Int) (hl : l.length < 4611686018427387904) (hv : v ∉ l) : ∀ (n i : Nat), i + n = l.length → Ev (fun k => slices_Index_int_int.l0 k l v (l.length : Int) (i : Int)) (-1) := by
  intro n
  induction n with
  | zero =>
    intro i hi
    refine Ev.step (f := fun _ => some (-1)) (fun k => ?_) (Ev.now _)
    simp only [slices_Index_int_int.l0]
    rw [if_neg (by omega)]
  | succ n ih =>
    intro i hi
    have hii : i < l.length := by omega
    refine Ev.step (f := fun k => slices_Index_int_int.l0 k l v (l.length : Int) ((i + 1 : Nat) : Int)) (fun k => ?_) (ih (i + 1) (by omega))
    simp only [slices_Index_int_int.l0]
    rw [if_pos (by omega), if_pos (by omega), if_pos (by omega), if_neg ?_, wrapn hii hl]
    rw [rd_get hii]
    intro h
    exact hv (h ▸ List.getElem_mem hii)
theorem contains_none (l : List Int) (v : Int) (hl : l.length < 4611686018427387904) (hv : v ∉ l) : Ev (fun k => slices_Contains_int_int.f k l v) false := by
  unfold slices_Contains_int_int.f
  exact Ev.bind (index_none l v hl hv l.length 0 (by omega)) (Ev.now _)
theorem comp_mem_of {l : List Int} {x : Int} (h : x ∈ compN l) : x ∈ l := by
  unfold compN Lib.compact Lib.compactUpTo at h
  obtain ⟨j, hj, rfl⟩ := List.mem_map.1 h
  have hj := List.mem_range.1 (List.mem_filter.1 hj).1
  rw [getElem!_pos l.toArray j (by simpa using hj)]
  simp
theorem comp_mem {l : List Int} (j : Nat) (hj : j < l.length) : l[j] ∈ compN l := by
  induction j with
  | zero =>
    unfold compN Lib.compact Lib.compactUpTo
    refine List.mem_map.2 ⟨0, List.mem_filter.2 ⟨List.mem_range.2 hj, by simp [Lib.keeps]⟩, ?_⟩
    rw [getElem!_pos l.toArray 0 (by simpa using hj)]
    simp
  | succ j ih =>
    by_cases c : l[j + 1] = l[j]
    · rw [c]
      exact ih (by omega)
    · unfold compN Lib.compact Lib.compactUpTo
      refine List.mem_map.2 ⟨j + 1, List.mem_filter.2 ⟨List.mem_range.2 hj, ?_⟩, ?_⟩
      · unfold Lib.keeps
        refine decide_eq_true (.inr ?_)
        rw [getElem!_pos l.toArray (j + 1) (by simpa using hj), getElem!_pos l.toArray (j + 1 - 1) (by simp; omega)]
        simpa using c
      · rw [getElem!_pos l.toArray (j + 1) (by simpa using hj)]
        simp
theorem nkey_lt {x y : Int} (hx : -1000 < x ∧ x < 1000) (hy : -1000 < y ∧ y < 1000) (h : nkey x ≤ nkey y) (hne : y ≠ x) : nkey x < nkey y := by
  have : nkey x ≠ nkey y := fun e => hne (nkey_inj 4611686018427387904 y x (.inl rfl) (decide_eq_true (by omega)) (decide_eq_true (by omega)) e.symm)
  omega
theorem comp_sorted {l : List Int} (hs : ∀ x ∈ l, -1000 < x ∧ x < 1000) (hp : l.Pairwise (fun x y => nkey x ≤ nkey y)) : (compN l).Pairwise (fun x y => nkey x < nkey y) := by
  unfold compN Lib.compact Lib.compactUpTo
  rw [List.pairwise_map]
  have h1 : ((List.range l.length).filter (Lib.keeps l.toArray)).Pairwise (· < ·) := List.Pairwise.filter _ List.pairwise_lt_range
  refine List.Pairwise.imp_of_mem (fun {i j} hi hj hij => ?_) h1
  have hi1 := List.mem_range.1 (List.mem_filter.1 hi).1
  have hj1 := List.mem_range.1 (List.mem_filter.1 hj).1
  have hk := of_decide_eq_true (List.mem_filter.1 hj).2
  rcases hk with hk | hk
  · omega
  · rw [getElem!_pos l.toArray j (by simpa using hj1), getElem!_pos l.toArray (j - 1) (by simp; omega)] at hk
    rw [getElem!_pos l.toArray i (by simpa using hi1), getElem!_pos l.toArray j (by simpa using hj1)]
    simp only [List.getElem_toArray] at hk ⊢
    have hP := List.pairwise_iff_getElem.1 hp
    have h2 : nkey l[j - 1] ≤ nkey l[j] := hP (j - 1) j (by omega) hj1 (by omega)
    have h3 : nkey l[i] ≤ nkey l[j - 1] := by
      by_cases c : i = j - 1
      · subst c
        exact Int.le_refl _
      · exact hP i (j - 1) hi1 (by omega) (by omega)
    have h4 := nkey_lt (hs _ (List.getElem_mem (show j - 1 < l.length by omega))) (hs _ (List.getElem_mem hj1)) h2 hk
    omega
/-- What Normal sorts a clause to. -/
def norm (l : List Int) : List Int := compN (sortN l)
theorem norm_mem {l : List Int} {x : Int} : x ∈ norm l ↔ x ∈ l := by
  have hperm : (sortN l).Perm l := List.mergeSort_perm l nle
  constructor
  · intro h
    exact hperm.mem_iff.1 (comp_mem_of h)
  · intro h
    obtain ⟨j, hj, rfl⟩ := List.getElem_of_mem (hperm.mem_iff.2 h)
    exact comp_mem j hj
theorem norm_sorted {l : List Int} (hs : smallL l) : (norm l).Pairwise (fun x y => nkey x < nkey y) := by
  have hperm : (sortN l).Perm l := List.mergeSort_perm l nle
  refine comp_sorted (fun x hx => (hs x (hperm.mem_iff.1 hx)).2) ?_
  have h1 := List.pairwise_mergeSort (le := nle) (fun a b c h1 h2 => by
    unfold nle at *
    have := of_decide_eq_true h1
    have := of_decide_eq_true h2
    exact decide_eq_true (by omega)) (fun a b => by
    unfold nle
    by_cases h : nkey a ≤ nkey b
    · rw [decide_eq_true h]; rfl
    · rw [decide_eq_true (show nkey b ≤ nkey a by omega), Bool.or_true]) l
  exact h1.imp (fun h => of_decide_eq_true h)
theorem norm_loop (d : List Int) (hs : ∀ x ∈ d, -1000 < x ∧ x < 1000) (hl : d.length < 4611686018427387904) : ∀ (n i : Nat), d.length ≤ i + n → 1 ≤ i → (∀ j (h : j + 1 < d.length), j + 1 < i → nb d[j + 1] ≠ nb d[j]) →
    (Ev (fun k => formula_Normal.l0 k d (i : Int)) (d, true) ∧ ∀ j (h : j + 1 < d.length), nb d[j + 1] ≠ nb d[j]) ∨ (Ev (fun k => formula_Normal.l0 k d (i : Int)) ([], false) ∧ ∃ j, ∃ h : j + 1 < d.length, nb d[j + 1] = nb d[j]) := by
  intro n
  induction n with
  | zero =>
    intro i hi h1 hj
    refine .inl ⟨Ev.step (f := fun _ => some (d, true)) (fun k => ?_) (Ev.now _), fun j h => hj j h (by omega)⟩
    simp only [formula_Normal.l0]
    rw [if_neg (by omega)]
  | succ n ih =>
    intro i hi h1 hj
    by_cases c : i < d.length
    · have e1 : wrap64 ((i : Int) - 1) = ((i - 1 : Nat) : Int) := by
        unfold wrap64
        omega
      have hi1 : i - 1 < d.length := by omega
      have b1 : formula_boolean.f (rd d (i : Int)) = some (nb d[i]) := by
        rw [rd_get c]
        have := hs _ (List.getElem_mem c)
        exact boolean_f (by omega) (by omega)
      have b2 : formula_boolean.f (rd d ((i - 1 : Nat) : Int)) = some (nb d[i - 1]) := by
        rw [rd_get hi1]
        have := hs _ (List.getElem_mem hi1)
        exact boolean_f (by omega) (by omega)
      have step : ∀ k, formula_Normal.l0 (k + 1) d (i : Int) = if nb d[i] = nb d[i - 1] then some ([], false) else formula_Normal.l0 k d ((i + 1 : Nat) : Int) := by
        intro k
        simp only [formula_Normal.l0]
        rw [if_pos (by omega), if_pos (by omega), b1, Option.bind_some, e1, if_pos (by omega), if_pos (by omega), b2, Option.bind_some, wrapn c hl]
      by_cases c2 : nb d[i] = nb d[i - 1]
      · refine .inr ⟨Ev.step (f := fun _ => some ([], false)) (fun k => by rw [step, if_pos c2]) (Ev.now _), i - 1, by omega, ?_⟩
        have e2 : i - 1 + 1 = i := by omega
        simp only [e2]
        exact c2
      · have key : ∀ j (h : j + 1 < d.length), j + 1 < i + 1 → nb d[j + 1] ≠ nb d[j] := by
          intro j h hj2
          by_cases c3 : j + 1 = i
          · subst c3
            exact c2
          · exact hj j h (by omega)
        rcases ih (i + 1) (by omega) (by omega) key with ⟨h2, h3⟩ | ⟨h2, h3⟩
        · exact .inl ⟨Ev.step (fun k => by rw [step, if_neg c2]) h2, h3⟩
        · exact .inr ⟨Ev.step (fun k => by rw [step, if_neg c2]) h2, h3⟩
    · refine .inl ⟨Ev.step (f := fun _ => some (d, true)) (fun k => ?_) (Ev.now _), fun j h => hj j h (by omega)⟩
      simp only [formula_Normal.l0]
      rw [if_neg (by omega)]
theorem small_ok {l : List Int} (hs : smallL l) : okN l = true := by
  unfold okN
  rw [Bool.or_eq_true]
  refine .inl (List.all_eq_true.2 fun x hx => ?_)
  have := (hs x hx).2
  exact decide_eq_true (by omega)
theorem normal_ev (l : List Int) (hs : smallL l) (hl : l.length < 1000000) :
    (Ev (fun k => formula_Normal.f k l) (norm l, true) ∧ ∀ j (h : j + 1 < (norm l).length), nb (norm l)[j + 1] ≠ nb (norm l)[j]) ∨ (Ev (fun k => formula_Normal.f k l) ([], false) ∧ ∃ j, ∃ h : j + 1 < (norm l).length, nb (norm l)[j + 1] = nb (norm l)[j]) := by
  have hsl : (sortN l).length = l.length := List.length_mergeSort _
  have hcl : (norm l).length ≤ l.length := by rw [← hsl]; exact compact_length_le (sortN l)
  have hz : (0 : Int) ∉ l := fun h => (hs 0 h).1 rfl
  have hm : (-9223372036854775808 : Int) ∉ l := fun h => by have := (hs _ h).2; omega
  have hds : ∀ x ∈ norm l, -1000 < x ∧ x < 1000 := fun x hx => (hs x (norm_mem.1 hx)).2
  have hj : ∀ r, Ev (fun k => formula_Normal.l0 k (norm l) ((1 : Nat) : Int)) r → Ev (fun k => formula_Normal.f k l) r := by
    intro r hr
    have h1 : Ev (fun k => formula_Normal.j0 k l false) r := by
      refine Ev.step (fun k => ?_) hr
      simp only [formula_Normal.j0]
      rw [if_neg (by decide), if_pos (small_ok hs), if_pos (by omega), Option.bind_some, if_pos (by omega)]
      rfl
    unfold formula_Normal.f
    simp only [List.nil_append, Option.bind_some]
    refine Ev.congr (fun k => if_pos (by simp; omega)) ?_
    refine Ev.bind (contains_none l 0 (by omega) hz) ?_
    refine Ev.congr (fun k => if_neg (by decide)) ?_
    exact Ev.bind (contains_none l _ (by omega) hm) h1
  rcases norm_loop (norm l) hds (by omega) (norm l).length 1 (by omega) (by omega) (fun j h h2 => by omega) with ⟨h1, h2⟩ | ⟨h1, h2⟩
  · exact .inl ⟨hj _ h1, h2⟩
  · exact .inr ⟨hj _ h1, h2⟩
theorem nkey_small {x : Int} (h : x ≠ 0 ∧ -1000 < x ∧ x < 1000) : nkey x = if 0 < x then 2 * x - 2 else -2 * x - 1 := by
  unfold nkey nb nt
  split <;> split <;> split <;> omega
theorem sorted_ext : ∀ (a b : List Int), a.Pairwise (fun x y => nkey x < nkey y) → b.Pairwise (fun x y => nkey x < nkey y) → (∀ x, x ∈ a ↔ x ∈ b) → a = b := by
  intro a
  induction a with
  | nil =>
    intro b _ _ h
    cases b with
    | nil => rfl
    | cons y b => exact absurd ((h y).2 List.mem_cons_self) (by simp)
  | cons x a ih =>
    intro b ha hb h
    cases b with
    | nil => exact absurd ((h x).1 List.mem_cons_self) (by simp)
    | cons y b =>
      obtain ⟨ha1, ha2⟩ := List.pairwise_cons.1 ha
      obtain ⟨hb1, hb2⟩ := List.pairwise_cons.1 hb
      have e : x = y := by
        rcases List.mem_cons.1 ((h x).1 List.mem_cons_self) with e | e
        · exact e
        · rcases List.mem_cons.1 ((h y).2 List.mem_cons_self) with e' | e'
          · exact e'.symm
          · have := hb1 x e
            have := ha1 y e'
            omega
      subst e
      rw [ih b ha2 hb2 fun z => ?_]
      constructor
      · intro hz
        rcases List.mem_cons.1 ((h z).1 (List.mem_cons_of_mem _ hz)) with e | e
        · have := ha1 z hz
          rw [e] at this
          omega
        · exact e
      · intro hz
        rcases List.mem_cons.1 ((h z).2 (List.mem_cons_of_mem _ hz)) with e | e
        · have := hb1 z hz
          rw [e] at this
          omega
        · exact e
/-- A literal and its negation both. -/
def clash (l : List Int) : Bool := l.any fun x => l.contains (-x)
theorem clash_iff {l : List Int} : clash l = true ↔ ∃ x, x ∈ l ∧ -x ∈ l := by
  unfold clash
  rw [List.any_eq_true]
  exact ⟨fun ⟨x, h, k⟩ => ⟨x, h, List.contains_iff_mem.1 k⟩, fun ⟨x, h, k⟩ => ⟨x, h, List.contains_iff_mem.2 k⟩⟩
/-- The normal form of a clause of small literals. -/
def nrm (l : List Int) : List Int × Bool := if clash l = true then ([], false) else (norm l, true)
theorem norm_clash {l : List Int} (hs : smallL l) : clash l = true ↔ ∃ j, ∃ h : j + 1 < (norm l).length, nb (norm l)[j + 1] = nb (norm l)[j] := by
  have hsm : ∀ x ∈ norm l, x ≠ 0 ∧ -1000 < x ∧ x < 1000 := fun x hx => hs x (norm_mem.1 hx)
  have hP := List.pairwise_iff_getElem.1 (norm_sorted hs)
  rw [clash_iff]
  constructor
  · intro hx
    have key : ∀ x, 0 < x → x ∈ l → -x ∈ l → ∃ j, ∃ h : j + 1 < (norm l).length, nb (norm l)[j + 1] = nb (norm l)[j] := by
      intro x h0 h1 h2
      obtain ⟨i, hi, ei⟩ := List.getElem_of_mem (norm_mem.2 h1)
      obtain ⟨j, hj, ej⟩ := List.getElem_of_mem (norm_mem.2 h2)
      have k1 := nkey_small (hs _ h1)
      have k2 := nkey_small (hs _ h2)
      rw [if_pos h0] at k1
      rw [if_neg (by omega)] at k2
      have hij : i < j := by
        rcases Nat.lt_trichotomy i j with h | h | h
        · exact h
        · subst h
          rw [ei] at ej
          omega
        · have := hP j i hj hi h
          rw [ei, ej] at this
          omega
      by_cases c : j = i + 1
      · subst c
        refine ⟨i, hj, ?_⟩
        rw [ei, ej]
        unfold nb
        rw [if_pos (by omega), if_neg (by omega)]
        omega
      · have a1 := hP i (i + 1) hi (by omega) (by omega)
        have a2 := hP (i + 1) j (by omega) hj (by omega)
        rw [ei] at a1
        rw [ej] at a2
        omega
    obtain ⟨x, h1, h2⟩ := hx
    have h3 := (hs x h1).1
    by_cases c : 0 < x
    · exact key x c h1 h2
    · exact key (-x) (by omega) h2 (by rw [Int.neg_neg]; exact h1)
  · rintro ⟨j, h, e⟩
    have m1 := List.getElem_mem h
    have m0 := List.getElem_mem (show j < (norm l).length by omega)
    have hlt := hP j (j + 1) (by omega) h (by omega)
    have s1 := hsm _ m1
    have s0 := hsm _ m0
    refine ⟨(norm l)[j], norm_mem.1 m0, ?_⟩
    have : -(norm l)[j] = (norm l)[j + 1] := by
      unfold nb at e
      split at e <;> split at e
      · have : (norm l)[j + 1] = (norm l)[j] := by omega
        rw [this] at hlt
        omega
      · omega
      · omega
      · have : (norm l)[j + 1] = (norm l)[j] := by omega
        rw [this] at hlt
        omega
    rw [this]
    exact norm_mem.1 m1
/-- The program's Normal. -/
theorem nrm_ev (l : List Int) (hs : smallL l) (hl : l.length < 1000000) : Ev (fun k => formula_Normal.f k l) (nrm l) := by
  unfold nrm
  rcases normal_ev l hs hl with ⟨h1, h2⟩ | ⟨h1, h2⟩
  · rw [if_neg fun c => ?_]
    · exact h1
    · obtain ⟨j, h, e⟩ := (norm_clash hs).1 c
      exact h2 j h e
  · rw [if_pos ((norm_clash hs).2 h2)]
    exact h1
theorem nrm_small {l : List Int} (hs : smallL l) : smallL (nrm l).1 := by
  unfold nrm
  split
  · exact fun x hx => absurd hx (by simp)
  · exact fun x hx => hs x (norm_mem.1 hx)
theorem sorted_length : ∀ (l : List Int) (b : Int), (∀ x ∈ l, b ≤ nkey x ∧ nkey x < 2000) → l.Pairwise (fun x y => nkey x < nkey y) → b ≤ 2000 → (l.length : Int) ≤ 2000 - b := by
  intro l
  induction l with
  | nil =>
    intro b _ _ hb
    simpa using by omega
  | cons x l ih =>
    intro b hb hp hb2
    obtain ⟨h1, h2⟩ := List.pairwise_cons.1 hp
    have hx := hb x List.mem_cons_self
    have := ih (nkey x + 1) (fun y hy => ⟨by have := h1 y hy; omega, (hb y (List.mem_cons_of_mem _ hy)).2⟩) h2 (by omega)
    rw [List.length_cons]
    omega
theorem nrm_length {l : List Int} (hs : smallL l) : (nrm l).1.length ≤ 2000 := by
  unfold nrm
  split
  · simp
  · have := sorted_length (norm l) 0 (fun x hx => by
      have h := hs x (norm_mem.1 hx)
      rw [nkey_small h]
      split <;> omega) (norm_sorted hs) (by omega)
    show (norm l).length ≤ 2000
    omega
end Go.Proofs.Ytppbnjmhkifdaaa.X
