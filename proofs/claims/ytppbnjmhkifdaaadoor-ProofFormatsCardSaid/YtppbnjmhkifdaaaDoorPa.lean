/- The program's clauses of steps, in plain terms; the sanity check answers true. -/
import Derived.Test.YtppbnjmhkifdaaaDoorX5
namespace Go.Proofs.YtppbnjmhkifdaaaDoor.X
open Go Go.RowKit Go.Proofs.YtppbnjmhkifdaaaDoorW.PrintWords Go.Proofs.YtppbnjmhkifdaaaDoorW.PrintLast Go.Proofs.YtppbnjmhkifdaaaDoorW.PrintMore
theorem wrap64_id {x : Int} (h0 : -9223372036854775808 ≤ x) (h1 : x < 9223372036854775808) : wrap64 x = x := by
  unfold wrap64
  omega
theorem boolean_f {x : Int} (h0 : -9223372036854775808 < x) (h1 : x < 9223372036854775808) : formula_boolean.f x = some (nb x) := by
  unfold formula_boolean.f nb wrap64
  split
  · congr 1
    omega
  · congr 1
    omega
theorem Ev.at_one {α : Type} {g : Nat → Option α} {r : α} (h : ∀ k, g (k + 1) = some r) : Ev g r :=
  ⟨1, fun k hk => by obtain ⟨j, rfl⟩ : ∃ j, k = j + 1 := ⟨k - 1, by omega⟩; exact h j⟩
def bnd (q : List S53) (x : Int) : Int × Int × Int × Bool :=
  if x = 0 ∨ (q.length : Int) < x ∨ x < -(q.length : Int) then (0, 0, 0, false)
  else if 0 < x then ((rd_T53 q (x - 1)).f0, (rd_T53 q (x - 1)).f1, (rd_T53 q (x - 1)).f2, true)
  else ((rd_T53 q (-x - 1)).f1, (rd_T53 q (-x - 1)).f0, wrap64 (wrap64 (-(rd_T53 q (-x - 1)).f2) - 1), true)
theorem bound_ev (a b : Int) (q : List S53) (cl : List (List Int)) (x : Int) (h0 : -9223372036854775808 ≤ x) (h1 : x < 9223372036854775808) (hl : q.length < 4611686018427387904) :
    Ev (fun k => formula_Bound.f k a b q cl x) (bnd q x) := by
  refine Ev.at_one fun k => ?_
  unfold formula_Bound.f
  by_cases c0 : x = 0
  · rw [if_pos c0]
    simp [formula_Bound.j0, bnd, c0]
  rw [if_neg c0]
  by_cases c1 : x = -9223372036854775808
  · rw [if_pos c1]
    have : bnd q x = (0, 0, 0, false) := by
      unfold bnd
      rw [if_pos (by omega)]
    rw [this]
    simp [formula_Bound.j0]
  rw [if_neg c1, boolean_f (by omega) h1, Option.bind_some]
  simp only [formula_Bound.j0]
  by_cases c2 : nb x ≥ (q.length : Int)
  · rw [if_pos (by simpa using c2)]
    unfold bnd
    unfold nb at c2
    rw [if_pos (by split at c2 <;> omega)]
  · rw [if_neg (by simpa using c2), boolean_f (by omega) h1, Option.bind_some]
    have hb0 : 0 ≤ nb x := by unfold nb; split <;> omega
    rw [if_pos hb0, if_pos (by omega)]
    unfold nb at c2 ⊢
    unfold bnd
    by_cases c3 : x < 0
    · rw [if_pos c3] at c2
      rw [if_pos c3, if_pos c3, if_neg (by omega), if_neg (by omega)]
    · rw [if_neg c3] at c2
      rw [if_neg c3, if_neg c3, if_neg (by omega), if_pos (by omega)]
def smallL (l : List Int) : Prop := ∀ x ∈ l, x ≠ 0 ∧ -1000 < x ∧ x < 1000
theorem rd_get {l : List Int} {i : Nat} (hi : i < l.length) : rd l (i : Int) = l[i] := by
  unfold rd
  rw [Int.toNat_natCast, List.getD_eq_getElem?_getD, List.getElem?_eq_getElem hi]
  rfl
theorem wrapn {i n : Nat} (h : i < n) (hn : n < 4611686018427387904) : wrap64 ((i : Int) + 1) = ((i + 1 : Nat) : Int) := by
  unfold wrap64
  omega
theorem index_none (l : List Int) (v : Int) (hl : l.length < 4611686018427387904) (hv : v ∉ l) : ∀ (n i : Nat), i + n = l.length → Ev (fun k => slices_Index_int_int.l0 k l v (l.length : Int) (i : Int)) (-1) := by
  intro n
  induction n with
  | zero =>
    intro i hi
    refine Ev.step (f := fun _ => some (-1)) (fun k => ?_) (Ev.now _)
    simp only [slices_Index_int_int.l0]
    rw [if_neg (by omega)]
  | succ n ih =>
    intro i hi
    have hii : i < l.length := by omega
    refine Ev.step (f := fun k => slices_Index_int_int.l0 k l v (l.length : Int) ((i + 1 : Nat) : Int)) (fun k => ?_) (ih (i + 1) (by omega))
    simp only [slices_Index_int_int.l0]
    rw [if_pos (by omega), if_pos (by omega), if_pos (by omega), if_neg ?_, wrapn hii hl]
    rw [rd_get hii]
    intro h
    exact hv (h ▸ List.getElem_mem hii)
theorem contains_none (l : List Int) (v : Int) (hl : l.length < 4611686018427387904) (hv : v ∉ l) : Ev (fun k => slices_Contains_int_int.f k l v) false := by
  unfold slices_Contains_int_int.f
  exact Ev.bind (index_none l v hl hv l.length 0 (by omega)) (Ev.now _)
theorem comp_mem_of {l : List Int} {x : Int} (h : x ∈ compN l) : x ∈ l := by
  unfold compN Lib.compact Lib.compactUpTo at h
  obtain ⟨j, hj, rfl⟩ := List.mem_map.1 h
  have hj := List.mem_range.1 (List.mem_filter.1 hj).1
  rw [getElem!_pos l.toArray j (by simpa using hj)]
  simp
theorem comp_mem {l : List Int} (j : Nat) (hj : j < l.length) : l[j] ∈ compN l := by
  induction j with
  | zero =>
    unfold compN Lib.compact Lib.compactUpTo
    refine List.mem_map.2 ⟨0, List.mem_filter.2 ⟨List.mem_range.2 hj, by simp [Lib.keeps]⟩, ?_⟩
    rw [getElem!_pos l.toArray 0 (by simpa using hj)]
    simp
  | succ j ih =>
    by_cases c : l[j + 1] = l[j]
    · rw [c]
      exact ih (by omega)
    · unfold compN Lib.compact Lib.compactUpTo
      refine List.mem_map.2 ⟨j + 1, List.mem_filter.2 ⟨List.mem_range.2 hj, ?_⟩, ?_⟩
      · unfold Lib.keeps
        refine decide_eq_true (.inr ?_)
        rw [getElem!_pos l.toArray (j + 1) (by simpa using hj), getElem!_pos l.toArray (j + 1 - 1) (by simp; omega)]
        simpa using c
      · rw [getElem!_pos l.toArray (j + 1) (by simpa using hj)]
        simp
theorem nkey_lt {x y : Int} (hx : -1000 < x ∧ x < 1000) (hy : -1000 < y ∧ y < 1000) (h : nkey x ≤ nkey y) (hne : y ≠ x) : nkey x < nkey y := by
  have : nkey x ≠ nkey y := fun e => hne (nkey_inj 4611686018427387904 y x (.inl rfl) (decide_eq_true (by omega)) (decide_eq_true (by omega)) e.symm)
  omega
theorem comp_sorted {l : List Int} (hs : ∀ x ∈ l, -1000 < x ∧ x < 1000) (hp : l.Pairwise (fun x y => nkey x ≤ nkey y)) : (compN l).Pairwise (fun x y => nkey x < nkey y) := by
  unfold compN Lib.compact Lib.compactUpTo
  rw [List.pairwise_map]
  have h1 : ((List.range l.length).filter (Lib.keeps l.toArray)).Pairwise (· < ·) := List.Pairwise.filter _ List.pairwise_lt_range
  refine List.Pairwise.imp_of_mem (fun {i j} hi hj hij => ?_) h1
  have hi1 := List.mem_range.1 (List.mem_filter.1 hi).1
  have hj1 := List.mem_range.1 (List.mem_filter.1 hj).1
  have hk := of_decide_eq_true (List.mem_filter.1 hj).2
  rcases hk with hk | hk
  · omega
  · rw [getElem!_pos l.toArray j (by simpa using hj1), getElem!_pos l.toArray (j - 1) (by simp; omega)] at hk
    rw [getElem!_pos l.toArray i (by simpa using hi1), getElem!_pos l.toArray j (by simpa using hj1)]
    simp only [List.getElem_toArray] at hk ⊢
    have hP := List.pairwise_iff_getElem.1 hp
    have h2 : nkey l[j - 1] ≤ nkey l[j] := hP (j - 1) j (by omega) hj1 (by omega)
    have h3 : nkey l[i] ≤ nkey l[j - 1] := by
      by_cases c : i = j - 1
      · subst c
        exact Int.le_refl _
      · exact hP i (j - 1) hi1 (by omega) (by omega)
    have h4 := nkey_lt (hs _ (List.getElem_mem (show j - 1 < l.length by omega))) (hs _ (List.getElem_mem hj1)) h2 hk
    omega
/-- What Normal sorts a clause to. -/
def norm (l : List Int) : List Int := compN (sortN l)
theorem norm_mem {l : List Int} {x : Int} : x ∈ norm l ↔ x ∈ l := by
  have hperm : (sortN l).Perm l := List.mergeSort_perm l nle
  constructor
  · intro h
    exact hperm.mem_iff.1 (comp_mem_of h)
  · intro h
    obtain ⟨j, hj, rfl⟩ := List.getElem_of_mem (hperm.mem_iff.2 h)
    exact comp_mem j hj
theorem norm_sorted {l : List Int} (hs : smallL l) : (norm l).Pairwise (fun x y => nkey x < nkey y) := by
  have hperm : (sortN l).Perm l := List.mergeSort_perm l nle
  refine comp_sorted (fun x hx => (hs x (hperm.mem_iff.1 hx)).2) ?_
  have h1 := List.pairwise_mergeSort (le := nle) (fun a b c h1 h2 => by
    unfold nle at *
    have := of_decide_eq_true h1
    have := of_decide_eq_true h2
    exact decide_eq_true (by omega)) (fun a b => by
    unfold nle
    by_cases h : nkey a ≤ nkey b
    · rw [decide_eq_true h]; rfl
    · rw [decide_eq_true (show nkey b ≤ nkey a by omega), Bool.or_true]) l
  exact h1.imp (fun h => of_decide_eq_true h)
theorem norm_loop (d : List Int) (hs : ∀ x ∈ d, -1000 < x ∧ x < 1000) (hl : d.length < 4611686018427387904) : ∀ (n i : Nat), d.length ≤ i + n → 1 ≤ i → (∀ j (h : j + 1 < d.length), j + 1 < i → nb d[j + 1] ≠ nb d[j]) →
    (Ev (fun k => formula_Normal.l0 k d (i : Int)) (d, true) ∧ ∀ j (h : j + 1 < d.length), nb d[j + 1] ≠ nb d[j]) ∨ (Ev (fun k => formula_Normal.l0 k d (i : Int)) ([], false) ∧ ∃ j, ∃ h : j + 1 < d.length, nb d[j + 1] = nb d[j]) := by
  intro n
  induction n with
  | zero =>
    intro i hi h1 hj
    refine .inl ⟨Ev.step (f := fun _ => some (d, true)) (fun k => ?_) (Ev.now _), fun j h => hj j h (by omega)⟩
    simp only [formula_Normal.l0]
    rw [if_neg (by omega)]
  | succ n ih =>
    intro i hi h1 hj
    by_cases c : i < d.length
    · have e1 : wrap64 ((i : Int) - 1) = ((i - 1 : Nat) : Int) := by
        unfold wrap64
        omega
      have hi1 : i - 1 < d.length := by omega
      have b1 : formula_boolean.f (rd d (i : Int)) = some (nb d[i]) := by
        rw [rd_get c]
        have := hs _ (List.getElem_mem c)
        exact boolean_f (by omega) (by omega)
      have b2 : formula_boolean.f (rd d ((i - 1 : Nat) : Int)) = some (nb d[i - 1]) := by
        rw [rd_get hi1]
        have := hs _ (List.getElem_mem hi1)
        exact boolean_f (by omega) (by omega)
      have step : ∀ k, formula_Normal.l0 (k + 1) d (i : Int) = if nb d[i] = nb d[i - 1] then some ([], false) else formula_Normal.l0 k d ((i + 1 : Nat) : Int) := by
        intro k
        simp only [formula_Normal.l0]
        rw [if_pos (by omega), if_pos (by omega), b1, Option.bind_some, e1, if_pos (by omega), if_pos (by omega), b2, Option.bind_some, wrapn c hl]
      by_cases c2 : nb d[i] = nb d[i - 1]
      · refine .inr ⟨Ev.step (f := fun _ => some ([], false)) (fun k => by rw [step, if_pos c2]) (Ev.now _), i - 1, by omega, ?_⟩
        have e2 : i - 1 + 1 = i := by omega
        simp only [e2]
        exact c2
      · have key : ∀ j (h : j + 1 < d.length), j + 1 < i + 1 → nb d[j + 1] ≠ nb d[j] := by
          intro j h hj2
          by_cases c3 : j + 1 = i
          · subst c3
            exact c2
          · exact hj j h (by omega)
        rcases ih (i + 1) (by omega) (by omega) key with ⟨h2, h3⟩ | ⟨h2, h3⟩
        · exact .inl ⟨Ev.step (fun k => by rw [step, if_neg c2]) h2, h3⟩
        · exact .inr ⟨Ev.step (fun k => by rw [step, if_neg c2]) h2, h3⟩
    · refine .inl ⟨Ev.step (f := fun _ => some (d, true)) (fun k => ?_) (Ev.now _), fun j h => hj j h (by omega)⟩
      simp only [formula_Normal.l0]
      rw [if_neg (by omega)]
theorem small_ok {l : List Int} (hs : smallL l) : okN l = true := by
  unfold okN
  rw [Bool.or_eq_true]
  refine .inl (List.all_eq_true.2 fun x hx => ?_)
  have := (hs x hx).2
  exact decide_eq_true (by omega)
theorem normal_ev (l : List Int) (hs : smallL l) (hl : l.length < 1000000) :
    (Ev (fun k => formula_Normal.f k l) (norm l, true) ∧ ∀ j (h : j + 1 < (norm l).length), nb (norm l)[j + 1] ≠ nb (norm l)[j]) ∨ (Ev (fun k => formula_Normal.f k l) ([], false) ∧ ∃ j, ∃ h : j + 1 < (norm l).length, nb (norm l)[j + 1] = nb (norm l)[j]) := by
  have hsl : (sortN l).length = l.length := List.length_mergeSort _
  have hcl : (norm l).length ≤ l.length := by rw [← hsl]; exact compact_length_le (sortN l)
  have hz : (0 : Int) ∉ l := fun h => (hs 0 h).1 rfl
  have hm : (-9223372036854775808 : Int) ∉ l := fun h => by have := (hs _ h).2; omega
  have hds : ∀ x ∈ norm l, -1000 < x ∧ x < 1000 := fun x hx => (hs x (norm_mem.1 hx)).2
  have hj : ∀ r, Ev (fun k => formula_Normal.l0 k (norm l) ((1 : Nat) : Int)) r → Ev (fun k => formula_Normal.f k l) r := by
    intro r hr
    have h1 : Ev (fun k => formula_Normal.j0 k l false) r := by
      refine Ev.step (fun k => ?_) hr
      simp only [formula_Normal.j0]
      rw [if_neg (by decide), if_pos (small_ok hs), if_pos (by omega), Option.bind_some, if_pos (by omega)]
      rfl
    unfold formula_Normal.f
    simp only [List.nil_append, Option.bind_some]
    refine Ev.congr (fun k => if_pos (by simp; omega)) ?_
    refine Ev.bind (contains_none l 0 (by omega) hz) ?_
    refine Ev.congr (fun k => if_neg (by decide)) ?_
    exact Ev.bind (contains_none l _ (by omega) hm) h1
  rcases norm_loop (norm l) hds (by omega) (norm l).length 1 (by omega) (by omega) (fun j h h2 => by omega) with ⟨h1, h2⟩ | ⟨h1, h2⟩
  · exact .inl ⟨hj _ h1, h2⟩
  · exact .inr ⟨hj _ h1, h2⟩
theorem nkey_small {x : Int} (h : x ≠ 0 ∧ -1000 < x ∧ x < 1000) : nkey x = if 0 < x then 2 * x - 2 else -2 * x - 1 := by
  unfold nkey nb nt
  split <;> split <;> split <;> omega
theorem sorted_ext : ∀ (a b : List Int), a.Pairwise (fun x y => nkey x < nkey y) → b.Pairwise (fun x y => nkey x < nkey y) → (∀ x, x ∈ a ↔ x ∈ b) → a = b := by
  intro a
  induction a with
  | nil =>
    intro b _ _ h
    cases b with
    | nil => rfl
    | cons y b => exact absurd ((h y).2 List.mem_cons_self) (by simp)
  | cons x a ih =>
    intro b ha hb h
    cases b with
    | nil => exact absurd ((h x).1 List.mem_cons_self) (by simp)
    | cons y b =>
      obtain ⟨ha1, ha2⟩ := List.pairwise_cons.1 ha
      obtain ⟨hb1, hb2⟩ := List.pairwise_cons.1 hb
      have e : x = y := by
        rcases List.mem_cons.1 ((h x).1 List.mem_cons_self) with e | e
        · exact e
        · rcases List.mem_cons.1 ((h y).2 List.mem_cons_self) with e' | e'
          · exact e'.symm
          · have := hb1 x e
            have := ha1 y e'
            omega
      subst e
      rw [ih b ha2 hb2 fun z => ?_]
      constructor
      · intro hz
        rcases List.mem_cons.1 ((h z).1 (List.mem_cons_of_mem _ hz)) with e | e
        · have := ha1 z hz
          rw [e] at this
          omega
        · exact e
      · intro hz
        rcases List.mem_cons.1 ((h z).2 (List.mem_cons_of_mem _ hz)) with e | e
        · have := hb1 z hz
          rw [e] at this
          omega
        · exact e
/-- A literal and its negation both. -/
def clash (l : List Int) : Bool := l.any fun x => l.contains (-x)
theorem clash_iff {l : List Int} : clash l = true ↔ ∃ x, x ∈ l ∧ -x ∈ l := by
  unfold clash
  rw [List.any_eq_true]
  exact ⟨fun ⟨x, h, k⟩ => ⟨x, h, List.contains_iff_mem.1 k⟩, fun ⟨x, h, k⟩ => ⟨x, h, List.contains_iff_mem.2 k⟩⟩
/-- The normal form of a clause of small literals. -/
def nrm (l : List Int) : List Int × Bool := if clash l = true then ([], false) else (norm l, true)
theorem norm_clash {l : List Int} (hs : smallL l) : clash l = true ↔ ∃ j, ∃ h : j + 1 < (norm l).length, nb (norm l)[j + 1] = nb (norm l)[j] := by
  have hsm : ∀ x ∈ norm l, x ≠ 0 ∧ -1000 < x ∧ x < 1000 := fun x hx => hs x (norm_mem.1 hx)
  have hP := List.pairwise_iff_getElem.1 (norm_sorted hs)
  rw [clash_iff]
  constructor
  · intro hx
    have key : ∀ x, 0 < x → x ∈ l → -x ∈ l → ∃ j, ∃ h : j + 1 < (norm l).length, nb (norm l)[j + 1] = nb (norm l)[j] := by
      intro x h0 h1 h2
      obtain ⟨i, hi, ei⟩ := List.getElem_of_mem (norm_mem.2 h1)
      obtain ⟨j, hj, ej⟩ := List.getElem_of_mem (norm_mem.2 h2)
      have k1 := nkey_small (hs _ h1)
      have k2 := nkey_small (hs _ h2)
      rw [if_pos h0] at k1
      rw [if_neg (by omega)] at k2
      have hij : i < j := by
        rcases Nat.lt_trichotomy i j with h | h | h
        · exact h
        · subst h
          rw [ei] at ej
          omega
        · have := hP j i hj hi h
          rw [ei, ej] at this
          omega
      by_cases c : j = i + 1
      · subst c
        refine ⟨i, hj, ?_⟩
        rw [ei, ej]
        unfold nb
        rw [if_pos (by omega), if_neg (by omega)]
        omega
      · have a1 := hP i (i + 1) hi (by omega) (by omega)
        have a2 := hP (i + 1) j (by omega) hj (by omega)
        rw [ei] at a1
        rw [ej] at a2
        omega
    obtain ⟨x, h1, h2⟩ := hx
    have h3 := (hs x h1).1
    by_cases c : 0 < x
    · exact key x c h1 h2
    · exact key (-x) (by omega) h2 (by rw [Int.neg_neg]; exact h1)
  · rintro ⟨j, h, e⟩
    have m1 := List.getElem_mem h
    have m0 := List.getElem_mem (show j < (norm l).length by omega)
    have hlt := hP j (j + 1) (by omega) h (by omega)
    have s1 := hsm _ m1
    have s0 := hsm _ m0
    refine ⟨(norm l)[j], norm_mem.1 m0, ?_⟩
    have : -(norm l)[j] = (norm l)[j + 1] := by
      unfold nb at e
      split at e <;> split at e
      · have : (norm l)[j + 1] = (norm l)[j] := by omega
        rw [this] at hlt
        omega
      · omega
      · omega
      · have : (norm l)[j + 1] = (norm l)[j] := by omega
        rw [this] at hlt
        omega
    rw [this]
    exact norm_mem.1 m1
/-- The program's Normal. -/
theorem nrm_ev (l : List Int) (hs : smallL l) (hl : l.length < 1000000) : Ev (fun k => formula_Normal.f k l) (nrm l) := by
  unfold nrm
  rcases normal_ev l hs hl with ⟨h1, h2⟩ | ⟨h1, h2⟩
  · rw [if_neg fun c => ?_]
    · exact h1
    · obtain ⟨j, h, e⟩ := (norm_clash hs).1 c
      exact h2 j h e
  · rw [if_pos ((norm_clash hs).2 h2)]
    exact h1
theorem nrm_small {l : List Int} (hs : smallL l) : smallL (nrm l).1 := by
  unfold nrm
  split
  · exact fun x hx => absurd hx (by simp)
  · exact fun x hx => hs x (norm_mem.1 hx)
theorem sorted_length : ∀ (l : List Int) (b : Int), (∀ x ∈ l, b ≤ nkey x ∧ nkey x < 2000) → l.Pairwise (fun x y => nkey x < nkey y) → b ≤ 2000 → (l.length : Int) ≤ 2000 - b := by
  intro l
  induction l with
  | nil =>
    intro b _ _ hb
    simpa using by omega
  | cons x l ih =>
    intro b hb hp hb2
    obtain ⟨h1, h2⟩ := List.pairwise_cons.1 hp
    have hx := hb x List.mem_cons_self
    have := ih (nkey x + 1) (fun y hy => ⟨by have := h1 y hy; omega, (hb y (List.mem_cons_of_mem _ hy)).2⟩) h2 (by omega)
    rw [List.length_cons]
    omega
theorem nrm_length {l : List Int} (hs : smallL l) : (nrm l).1.length ≤ 2000 := by
  unfold nrm
  split
  · simp
  · have := sorted_length (norm l) 0 (fun x hx => by
      have h := hs x (norm_mem.1 hx)
      rw [nkey_small h]
      split <;> omega) (norm_sorted hs) (by omega)
    show (norm l).length ≤ 2000
    omega
theorem bnd_small {q : List S53} {x : Int} (hq : q.length < 1000) (h : (bnd q x).2.2.2 = true) : x ≠ 0 ∧ -1000 < x ∧ x < 1000 := by
  unfold bnd at h
  split at h
  · cases h
  · omega
theorem drop_cons {α : Type} {l : List α} {i : Nat} (h : i < l.length) : l.drop i = l[i] :: l.drop (i + 1) := List.drop_eq_getElem_cons h
/-- Does a list contain a number: the program's search. -/
theorem index_ev (l : List Int) (v : Int) (hl : l.length < 4611686018427387904) : ∀ (n i : Nat), i + n = l.length → ∃ r, Ev (fun k => slices_Index_int_int.l0 k l v (l.length : Int) (i : Int)) r ∧ decide (r ≥ 0) = (l.drop i).contains v := by
  intro n
  induction n with
  | zero =>
    intro i hi
    refine ⟨-1, Ev.step (f := fun _ => some (-1)) (fun k => ?_) (Ev.now _), ?_⟩
    · simp only [slices_Index_int_int.l0]
      rw [if_neg (by omega)]
    · rw [List.drop_of_length_le (by omega)]
      rfl
  | succ n ih =>
    intro i hi
    have hi' : i < l.length := by omega
    rw [drop_cons hi']
    by_cases c : v = l[i]
    · refine ⟨(i : Int), Ev.step (f := fun _ => some (i : Int)) (fun k => ?_) (Ev.now _), ?_⟩
      · simp only [slices_Index_int_int.l0]
        rw [if_pos (by omega), if_pos (by omega), if_pos (by omega), rd_get hi', if_pos c]
      · rw [List.contains_cons, beq_iff_eq.2 c, Bool.true_or, decide_eq_true (by omega)]
    · obtain ⟨r, h1, h2⟩ := ih (i + 1) (by omega)
      refine ⟨r, Ev.step (fun k => ?_) h1, ?_⟩
      · simp only [slices_Index_int_int.l0]
        rw [if_pos (by omega), if_pos (by omega), if_pos (by omega), rd_get hi', if_neg c, wrapn hi' hl]
      · rw [h2, List.contains_cons, beq_eq_false_iff_ne.2 c, Bool.false_or]
theorem contains_ev (l : List Int) (v : Int) (hl : l.length < 4611686018427387904) : Ev (fun k => slices_Contains_int_int.f k l v) (l.contains v) := by
  obtain ⟨r, h1, h2⟩ := index_ev l v hl l.length 0 (by omega)
  unfold slices_Contains_int_int.f
  refine Ev.bind (a := r) h1 ?_
  rw [h2]
  exact Ev.now _
/-- The index behind i, around. -/
def nxt (x1 : List Int) (i : Nat) : Int := rd x1 (Int.tmod (wrap64 ((i : Int) + 1)) (x1.length : Int))
def cyc (x0 : List S53) (x1 : List Int) : Nat → Nat → Int → Bool
  | 0, _, s => decide (s < 0)
  | n + 1, i, s => if rd x1 (i : Int) < 0 then false else if rd x1 (i : Int) ≥ (x0.length : Int) then false else if nxt x1 i < 0 then false else if nxt x1 i ≥ (x0.length : Int) then false else
      if (rd_T53 x0 (rd x1 (i : Int))).f1 = (rd_T53 x0 (nxt x1 i)).f0 then cyc x0 x1 n (i + 1) (wrap64 (s + (rd_T53 x0 (rd x1 (i : Int))).f2)) else false
theorem tmod_in {x n : Nat} (h : 0 < n) (hx : x < 4611686018427387904) : 0 ≤ Int.tmod (wrap64 ((x : Int) + 1)) (n : Int) ∧ Int.tmod (wrap64 ((x : Int) + 1)) (n : Int) < (n : Int) := by
  rw [wrap64_id (by omega) (by omega)]
  exact ⟨Int.tmod_nonneg _ (by omega), Int.tmod_lt_of_pos _ (by omega)⟩
theorem cyc_ev (x0 : List S53) (x1 : List Int) (hl : x1.length < 4611686018427387904) : ∀ (n i : Nat) (s : Int), i + n = x1.length → Ev (fun k => diff_Cycle.l0 k x0 x1 s x1 (x1.length : Int) (i : Int)) (cyc x0 x1 n i s) := by
  intro n
  induction n with
  | zero =>
    intro i s hi
    refine Ev.step (f := fun _ => some (decide (s < 0))) (fun k => ?_) (Ev.now _)
    simp only [diff_Cycle.l0]
    rw [if_neg (by omega)]
  | succ n ih =>
    intro i s hi
    have hi' : i < x1.length := by omega
    have ht := tmod_in (x := i) (n := x1.length) (by omega) (by omega)
    have h0 : ∀ k, diff_Cycle.l0 (k + 1) x0 x1 s x1 (x1.length : Int) (i : Int) = if rd x1 (i : Int) < 0 then some false else if rd x1 (i : Int) ≥ (x0.length : Int) then some false else if nxt x1 i < 0 then some false else if nxt x1 i ≥ (x0.length : Int) then some false else
      if (rd_T53 x0 (rd x1 (i : Int))).f1 = (rd_T53 x0 (nxt x1 i)).f0 then diff_Cycle.l0 k x0 x1 (wrap64 (s + (rd_T53 x0 (rd x1 (i : Int))).f2)) x1 (x1.length : Int) ((i + 1 : Nat) : Int) else some false := by
      intro k
      simp only [diff_Cycle.l0]
      rw [if_pos (by omega), if_pos (by omega), if_pos (by omega), if_neg (by omega), if_pos ht.1, if_pos ht.2, wrapn hi' hl]
      have e : rd x1 (Int.tmod ((i + 1 : Nat) : Int) (x1.length : Int)) = nxt x1 i := by
        unfold nxt
        rw [wrapn hi' hl]
      rw [e]
      by_cases c1 : rd x1 (i : Int) < 0
      · rw [if_pos c1, if_pos c1]
      by_cases c2 : rd x1 (i : Int) ≥ (x0.length : Int)
      · rw [if_neg c1, if_neg c1, if_pos c2, if_pos c2]
      by_cases c3 : nxt x1 i < 0
      · rw [if_neg c1, if_neg c1, if_neg c2, if_neg c2, if_pos c3, if_pos c3]
      by_cases c4 : nxt x1 i ≥ (x0.length : Int)
      · rw [if_neg c1, if_neg c1, if_neg c2, if_neg c2, if_neg c3, if_neg c3, if_pos c4, if_pos c4]
      rw [if_neg c1, if_neg c1, if_neg c2, if_neg c2, if_neg c3, if_neg c3, if_neg c4, if_neg c4, if_pos (by omega), if_pos (by omega), if_pos (by omega), if_pos (by omega)]
    unfold cyc
    refine Ev.step (fun k => h0 k) ?_
    by_cases c1 : rd x1 (i : Int) < 0
    · simp only [if_pos c1]
      exact Ev.now _
    by_cases c2 : rd x1 (i : Int) ≥ (x0.length : Int)
    · simp only [if_neg c1, if_pos c2]
      exact Ev.now _
    by_cases c3 : nxt x1 i < 0
    · simp only [if_neg c1, if_neg c2, if_pos c3]
      exact Ev.now _
    by_cases c4 : nxt x1 i ≥ (x0.length : Int)
    · simp only [if_neg c1, if_neg c2, if_neg c3, if_pos c4]
      exact Ev.now _
    by_cases c5 : (rd_T53 x0 (rd x1 (i : Int))).f1 = (rd_T53 x0 (nxt x1 i)).f0
    · simp only [if_neg c1, if_neg c2, if_neg c3, if_neg c4, if_pos c5]
      exact ih (i + 1) _ (by omega)
    · simp only [if_neg c1, if_neg c2, if_neg c3, if_neg c4, if_neg c5]
      exact Ev.now _
def cycB (x0 : List S53) (x1 : List Int) : Bool := cyc x0 x1 x1.length 0 0
theorem cycle_ev (x0 : List S53) (x1 : List Int) (hl : x1.length < 4611686018427387904) : Ev (fun k => diff_Cycle.f k x0 x1) (cycB x0 x1) := cyc_ev x0 x1 hl x1.length 0 0 (by omega)
/-- The clause of a step by a negative cycle. -/
def cylGo (q : List S53) : List Int → Nat → List S53 → List Int → List Int → List Int × Bool
  | [], _, l, o, c => if cycB l o = true then nrm c else ([], false)
  | x :: r, i, l, o, c => if (bnd q x).2.2.2 = true then cylGo q r (i + 1) (l ++ [(⟨(bnd q x).1, (bnd q x).2.1, (bnd q x).2.2.1⟩ : S53)]) (o ++ [(i : Int)]) (c ++ [wrap64 (-x)]) else ([], false)
def i64L (l : List Int) : Prop := ∀ x ∈ l, -9223372036854775808 ≤ x ∧ x < 9223372036854775808
theorem small_snoc {c : List Int} {x : Int} (hc : smallL c) (hx : x ≠ 0 ∧ -1000 < x ∧ x < 1000) : smallL (c ++ [wrap64 (-x)]) := by
  intro y hy
  rcases List.mem_append.1 hy with h | h
  · exact hc y h
  · rw [List.mem_singleton.1 h, wrap64_id (by omega) (by omega)]
    omega
section
variable (a b : Int) (q : List S53) (cl : List (List Int))
theorem cylGo_ev (hq : q.length < 1000) (lits : List Int) (hr : i64L lits) (hl : lits.length < 900000) : ∀ (n i : Nat) (l : List S53) (o c : List Int), i + n = lits.length → l.length = i → o.length = i → c.length = i → smallL c →
    Ev (fun k => proof_cycle.l0 k l o c lits (lits.length : Int) (i : Int) a b q cl) (cylGo q (lits.drop i) i l o c) := by
  intro n
  induction n with
  | zero =>
    intro i l o c hi h1 h2 h3 hs
    rw [List.drop_of_length_le (by omega)]
    unfold cylGo
    refine Ev.step (f := fun k => (diff_Cycle.f k l o).bind fun t168 => (if t168 = true then ((formula_Normal.f k c).bind fun bt169 => (some (bt169.1, bt169.2))) else (some (([] : List Int), false)))) (fun k => ?_) (Ev.bind (cycle_ev l o (by omega)) ?_)
    · simp only [proof_cycle.l0]
      rw [if_neg (by omega)]
    · by_cases d : cycB l o = true
      · simp only [if_pos d]
        exact Ev.bind (nrm_ev c hs (by omega)) (Ev.now _)
      · simp only [if_neg d]
        exact Ev.now _
  | succ n ih =>
    intro i l o c hi h1 h2 h3 hs
    have hi' : i < lits.length := by omega
    have hx := hr _ (List.getElem_mem hi')
    rw [drop_cons hi']
    unfold cylGo
    refine Ev.step (f := fun k => (formula_Bound.f k a b q cl lits[i]).bind fun bt154 => (if bt154.2.2.2 = true then proof_cycle.l0 k (l ++ [(⟨bt154.1, bt154.2.1, bt154.2.2.1⟩ : S53)]) (o ++ [(i : Int)]) (c ++ [wrap64 (-lits[i])]) lits (lits.length : Int) ((i + 1 : Nat) : Int) a b q cl else (some (([] : List Int), false)))) (fun k => ?_) (Ev.bind (bound_ev a b q cl _ hx.1 hx.2 (by omega)) ?_)
    · simp only [proof_cycle.l0]
      rw [if_pos (by omega), if_pos (by omega), if_pos (by omega), rd_get hi', wrapn hi' (by omega)]
      congr 1
      funext bt
      rw [if_pos (show l.length < 5864062014805 by omega), if_pos (show o.length < 17592186044416 by omega), if_pos (show c.length < 17592186044416 by omega)]
    · by_cases d : (bnd q lits[i]).2.2.2 = true
      · simp only [if_pos d]
        exact ih (i + 1) _ _ _ (by omega) (by simp [h1]) (by simp [h2]) (by simp [h3]) (small_snoc hs (bnd_small hq d))
      · simp only [if_neg d]
        exact Ev.now _
theorem cylGo_ok (hq : q.length < 1000) : ∀ (lits : List Int) (i : Nat) (l : List S53) (o c : List Int), smallL c → smallL (cylGo q lits i l o c).1 ∧ (cylGo q lits i l o c).1.length ≤ 2000 := by
  intro lits
  induction lits with
  | nil =>
    intro i l o c hs
    unfold cylGo
    split
    · exact ⟨nrm_small hs, nrm_length hs⟩
    · exact ⟨fun x hx => absurd hx (by simp), by simp⟩
  | cons x r ih =>
    intro i l o c hs
    unfold cylGo
    split
    · rename_i h
      exact ih _ _ _ _ (small_snoc hs (bnd_small hq h))
    · exact ⟨fun x hx => absurd hx (by simp), by simp⟩
end
theorem no_ok : smallL ([] : List Int) ∧ ([] : List Int).length ≤ 2000 := ⟨fun x hx => absurd hx (by simp), by simp⟩
theorem nrm_ok {l : List Int} (hs : smallL l) : smallL (nrm l).1 ∧ (nrm l).1.length ≤ 2000 := ⟨nrm_small hs, nrm_length hs⟩
def okC (c : List Int) : Prop := smallL c ∧ c.length ≤ 2000
/-- A clause without a literal. -/
def lack (p : List Int) (v : Int) : List Int := p.filter fun x => x != v
theorem lack_cons_eq {x v : Int} {r : List Int} (h : x = v) : lack (x :: r) v = lack r v := by
  unfold lack
  rw [List.filter_cons_of_neg (by simpa using h)]
theorem lack_cons_ne {x v : Int} {r : List Int} (h : x ≠ v) : lack (x :: r) v = x :: lack r v := by
  unfold lack
  rw [List.filter_cons_of_pos (by simpa using h)]
def rsv (p q : List Int) (v : Int) : List Int × Bool :=
  if v < 0 ∨ v ≥ 1024 then ([], false) else if p.contains (v + 1) = true then (if q.contains (-v - 1) = true then nrm (lack p (v + 1) ++ lack q (-v - 1)) else ([], false)) else ([], false)
theorem lack_small {p : List Int} {v : Int} (h : smallL p) : smallL (lack p v) := fun x hx => h x (List.mem_filter.1 hx).1
theorem app_small {p q : List Int} (h : smallL p) (k : smallL q) : smallL (p ++ q) := fun x hx => (List.mem_append.1 hx).elim (h x) (k x)
theorem lack_le (p : List Int) (v : Int) : (lack p v).length ≤ p.length := List.length_filter_le _ _
theorem rsv_ok {p q : List Int} (hp : okC p) (hq : okC q) (v : Int) : okC (rsv p q v).1 := by
  unfold rsv
  split
  · exact no_ok
  · split
    · split
      · exact nrm_ok (app_small (lack_small hp.1) (lack_small hq.1))
      · exact no_ok
    · exact no_ok
section
variable (v z0 z1 : Int) (z2 : List Int) (z3 z4 : Int)
theorem vw (hv : 0 ≤ v ∧ v < 1024) : wrap64 (v + 1) = v + 1 ∧ wrap64 (wrap64 (-v) - 1) = -v - 1 ∧ wrap64 (-(wrap64 (v + 1))) = -v - 1 := by
  unfold wrap64
  omega
theorem res_l1 (hv : 0 ≤ v ∧ v < 1024) (q : List Int) (hl : q.length < 1000000) : ∀ (n i : Nat) (o : List Int), i + n = q.length → o.length ≤ 2000 + i → ∀ r, Ev (fun k => formula_Normal.f k (o ++ lack (q.drop i) (-v - 1))) r → Ev (fun k => proof_resolve.l1 k o q (q.length : Int) (i : Int) z0 z1 z2 z3 z4 v) r := by
  intro n
  induction n with
  | zero =>
    intro i o hi ho r hr
    rw [List.drop_of_length_le (by omega), show lack [] (-v - 1) = [] from rfl, List.append_nil] at hr
    refine Ev.step (f := fun k => (formula_Normal.f k o).bind fun bt => some (bt.1, bt.2)) (fun k => ?_) (Ev.bind hr (Ev.now _))
    simp only [proof_resolve.l1]
    rw [if_neg (by omega)]
  | succ n ih =>
    intro i o hi ho r hr
    have hi' : i < q.length := by omega
    rw [drop_cons hi'] at hr
    by_cases c : q[i] = -v - 1
    · rw [lack_cons_eq c] at hr
      refine Ev.step (fun k => ?_) (ih (i + 1) o (by omega) (by omega) r hr)
      simp only [proof_resolve.l1]
      rw [if_pos (by omega), if_pos (by omega), if_pos (by omega), rd_get hi', (vw v hv).2.1, if_pos c, wrapn hi' (by omega)]
    · rw [lack_cons_ne c, ← List.singleton_append, ← List.append_assoc] at hr
      refine Ev.step (fun k => ?_) (ih (i + 1) (o ++ [q[i]]) (by omega) (by simp; omega) r hr)
      simp only [proof_resolve.l1]
      rw [if_pos (by omega), if_pos (by omega), if_pos (by omega), rd_get hi', (vw v hv).2.1, if_neg c, wrapn hi' (by omega), if_pos (by omega)]
theorem res_l0 (hv : 0 ≤ v ∧ v < 1024) (p q : List Int) (hp : p.length ≤ 2000) (hq : q.length ≤ 2000) (r : List Int × Bool) (hr : Ev (fun k => formula_Normal.f k (lack p (v + 1) ++ lack q (-v - 1))) r) : ∀ (n i : Nat) (o : List Int), i + n = p.length → o.length ≤ i → o ++ lack (p.drop i) (v + 1) = lack p (v + 1) → Ev (fun k => proof_resolve.l0 k q o p (p.length : Int) (i : Int) z0 z1 z2 z3 z4 v) r := by
  intro n
  induction n with
  | zero =>
    intro i o hi ho he
    rw [List.drop_of_length_le (by omega), show lack [] (v + 1) = [] from rfl, List.append_nil] at he
    refine Ev.step (f := fun k => proof_resolve.l1 k o q (q.length : Int) ((0 : Nat) : Int) z0 z1 z2 z3 z4 v) (fun k => ?_) (res_l1 v z0 z1 z2 z3 z4 hv q (by omega) q.length 0 o (by omega) (by omega) r (by rw [he]; exact hr))
    simp only [proof_resolve.l0]
    rw [if_neg (by omega)]
    rfl
  | succ n ih =>
    intro i o hi ho he
    have hi' : i < p.length := by omega
    rw [drop_cons hi'] at he
    by_cases c : p[i] = v + 1
    · rw [lack_cons_eq c] at he
      refine Ev.step (fun k => ?_) (ih (i + 1) o (by omega) (by omega) he)
      simp only [proof_resolve.l0]
      rw [if_pos (by omega), if_pos (by omega), if_pos (by omega), rd_get hi', (vw v hv).1, if_pos c, wrapn hi' (by omega)]
    · rw [lack_cons_ne c, ← List.singleton_append, ← List.append_assoc] at he
      refine Ev.step (fun k => ?_) (ih (i + 1) (o ++ [p[i]]) (by omega) (by simp; omega) he)
      simp only [proof_resolve.l0]
      rw [if_pos (by omega), if_pos (by omega), if_pos (by omega), rd_get hi', (vw v hv).1, if_neg c, wrapn hi' (by omega), if_pos (by omega)]
end
theorem lack_len2 {p q : List Int} {v u : Int} (hp : p.length ≤ 2000) (hq : q.length ≤ 2000) : (lack p v ++ lack q u).length < 1000000 := by
  have := lack_le p v
  have := lack_le q u
  rw [List.length_append]
  omega
/-- The program's resolve. -/
def rsvAt (out : List (List Int)) (s : S28) : List Int × Bool :=
  if s.f3 < 0 ∨ s.f4 < 0 ∨ s.f3 ≥ (out.length : Int) ∨ s.f4 ≥ (out.length : Int) then ([], false) else rsv (rd_L1 out s.f3) (rd_L1 out s.f4) s.f5
theorem rdL_get {l : List (List Int)} {x : Int} (h0 : 0 ≤ x) (h1 : x < (l.length : Int)) : rd_L1 l x ∈ l := by
  unfold rd_L1
  rw [List.getD_eq_getElem?_getD, List.getElem?_eq_getElem (by omega)]
  exact List.getElem_mem _
theorem res_ev {out : List (List Int)} (ho : ∀ c ∈ out, okC c) (s : S28) : Ev (fun k => proof_resolve.f k out s.f0 s.f1 s.f2 s.f3 s.f4 s.f5) (rsvAt out s) := by
  have no : Ev (fun k => proof_resolve.j0 k out true s.f0 s.f1 s.f2 s.f3 s.f4 s.f5) ([], false) := Ev.at_one fun k => by
    simp only [proof_resolve.j0]
    rfl
  unfold proof_resolve.f rsvAt
  by_cases c1 : s.f3 < 0
  · simp only [if_pos c1, if_pos (show s.f3 < 0 ∨ s.f4 < 0 ∨ s.f3 ≥ (out.length : Int) ∨ s.f4 ≥ (out.length : Int) from .inl c1)]
    exact no
  by_cases c2 : s.f4 < 0
  · simp only [if_neg c1, if_pos c2, if_pos (show s.f3 < 0 ∨ s.f4 < 0 ∨ s.f3 ≥ (out.length : Int) ∨ s.f4 ≥ (out.length : Int) from .inr (.inl c2))]
    exact no
  by_cases c3 : s.f3 ≥ (out.length : Int)
  · simp only [if_neg c1, if_neg c2, if_pos c3, if_pos (show s.f3 < 0 ∨ s.f4 < 0 ∨ s.f3 ≥ (out.length : Int) ∨ s.f4 ≥ (out.length : Int) from .inr (.inr (.inl c3)))]
    exact no
  by_cases c4 : s.f4 ≥ (out.length : Int)
  · simp only [if_neg c1, if_neg c2, if_neg c3, if_pos c4, if_pos (show s.f3 < 0 ∨ s.f4 < 0 ∨ s.f3 ≥ (out.length : Int) ∨ s.f4 ≥ (out.length : Int) from .inr (.inr (.inr c4)))]
    exact no
  have m3 := ho _ (rdL_get (l := out) (x := s.f3) (by omega) (by omega))
  have m4 := ho _ (rdL_get (l := out) (x := s.f4) (by omega) (by omega))
  obtain ⟨hp1, hp2⟩ := m3
  obtain ⟨hq1, hq2⟩ := m4
  simp only [if_neg c1, if_neg c2, if_neg c3, if_neg c4, if_neg (show ¬ (s.f3 < 0 ∨ s.f4 < 0 ∨ s.f3 ≥ (out.length : Int) ∨ s.f4 ≥ (out.length : Int)) by omega)]
  unfold rsv
  by_cases c5 : s.f5 < 0
  · simp only [if_pos c5, if_pos (show s.f5 < 0 ∨ s.f5 ≥ 1024 from .inl c5)]
    exact no
  simp only [if_neg c5]
  by_cases c6 : s.f5 ≥ 1024
  · rw [decide_eq_true c6, if_pos (.inr c6)]
    exact no
  have hv : 0 ≤ s.f5 ∧ s.f5 < 1024 := by omega
  rw [decide_eq_false c6, if_neg (show ¬ (s.f5 < 0 ∨ s.f5 ≥ 1024) by omega)]
  have no1 : Ev (fun k => proof_resolve.j1 k (rd_L1 out s.f3) (rd_L1 out s.f4) true s.f0 s.f1 s.f2 s.f3 s.f4 s.f5) ([], false) := Ev.at_one fun k => by
    simp only [proof_resolve.j1]
    rfl
  refine Ev.step (f := fun k => (slices_Contains_int_int.f k (rd_L1 out s.f3) (s.f5 + 1)).bind fun t176 => (if t176 = true then ((slices_Contains_int_int.f k (rd_L1 out s.f4) (-s.f5 - 1)).bind fun t177 => (proof_resolve.j1 k (rd_L1 out s.f3) (rd_L1 out s.f4) (!t177) s.f0 s.f1 s.f2 s.f3 s.f4 s.f5)) else (proof_resolve.j1 k (rd_L1 out s.f3) (rd_L1 out s.f4) true s.f0 s.f1 s.f2 s.f3 s.f4 s.f5))) (fun k => ?_) ?_
  · simp only [proof_resolve.j0]
    rw [if_neg (by decide), if_pos (by omega), if_pos (by omega), if_pos (by omega), if_pos (by omega), (vw s.f5 hv).1, (vw s.f5 hv).2.1]
  refine Ev.bind (contains_ev _ _ (by omega)) ?_
  by_cases c7 : (rd_L1 out s.f3).contains (s.f5 + 1) = true
  · simp only [if_pos c7]
    refine Ev.bind (contains_ev _ _ (by omega)) ?_
    by_cases c8 : (rd_L1 out s.f4).contains (-s.f5 - 1) = true
    · simp only [if_pos c8]
      rw [c8]
      refine Ev.step (f := fun k => proof_resolve.l0 k (rd_L1 out s.f4) [] (rd_L1 out s.f3) ((rd_L1 out s.f3).length : Int) ((0 : Nat) : Int) s.f0 s.f1 s.f2 s.f3 s.f4 s.f5) (fun k => ?_) (res_l0 s.f5 s.f0 s.f1 s.f2 s.f3 s.f4 hv _ _ hp2 hq2 _ (nrm_ev _ (app_small (lack_small hp1) (lack_small hq1)) (lack_len2 hp2 hq2)) (rd_L1 out s.f3).length 0 [] (by omega) (by simp) (by simp))
      simp only [proof_resolve.j1]
      rfl
    · simp only [if_neg c8]
      rw [Bool.eq_false_iff.2 c8]
      exact no1
  · simp only [if_neg c7]
    exact no1
theorem rsvAt_ok {out : List (List Int)} (ho : ∀ c ∈ out, okC c) (s : S28) : okC (rsvAt out s).1 := by
  unfold rsvAt
  split
  · exact no_ok
  · exact rsv_ok (ho _ (rdL_get (by omega) (by omega))) (ho _ (rdL_get (by omega) (by omega))) _
/-- The clause of a step behind others. -/
def stp (q : List S53) (cl out : List (List Int)) (s : S28) : List Int × Bool :=
  if s.f0 = 1 then (if s.f1 < 0 ∨ s.f1 ≥ (cl.length : Int) then ([], false) else nrm (rd_L1 cl s.f1))
  else if s.f0 = 2 then cylGo q s.f2 0 [] [] []
  else if s.f0 = 3 then rsvAt out s else ([], false)
def cls (q : List S53) (cl : List (List Int)) : List S28 → Nat → List (List Int) → List (List Int) × Option Nat
  | [], _, out => (out, none)
  | s :: r, i, out => if (stp q cl out s).2 = true then cls q cl r (i + 1) (out ++ [(stp q cl out s).1]) else ([], some i)
def okS (s : S28) : Prop := i64L s.f2 ∧ s.f2.length < 900000
theorem rdT_get {l : List S28} {i : Nat} (hi : i < l.length) : rd_T28 l (i : Int) = l[i] := by
  unfold rd_T28
  rw [Int.toNat_natCast, List.getD_eq_getElem?_getD, List.getElem?_eq_getElem hi]
  rfl
section
variable (a b : Int) (q : List S53) (cl : List (List Int))
theorem stp_ok (hq : q.length < 1000) (hcl : ∀ c ∈ cl, okC c) {out : List (List Int)} (ho : ∀ c ∈ out, okC c) (s : S28) : okC (stp q cl out s).1 := by
  unfold stp
  split
  · split
    · exact no_ok
    · exact nrm_ok (hcl _ (rdL_get (by omega) (by omega))).1
  · split
    · exact cylGo_ok q hq _ _ _ _ _ no_ok.1
    · split
      · exact rsvAt_ok ho s
      · exact no_ok
theorem snoc_ok (hq : q.length < 1000) (hcl : ∀ c ∈ cl, okC c) {out : List (List Int)} (ho : ∀ c ∈ out, okC c) (s : S28) : ∀ c ∈ out ++ [(stp q cl out s).1], okC c := by
  intro c hc
  rcases List.mem_append.1 hc with h | h
  · exact ho c h
  · rw [List.mem_singleton.1 h]
    exact stp_ok q cl hq hcl ho s
theorem clause_ev (hq : q.length < 1000) (hcl : ∀ c ∈ cl, okC c) {out : List (List Int)} (ho : ∀ c ∈ out, okC c) (s : S28) (hs : okS s) : Ev (fun k => proof_clause.f k a b q cl out s.f0 s.f1 s.f2 s.f3 s.f4 s.f5) (stp q cl out s) := by
  unfold proof_clause.f stp
  by_cases c1 : s.f0 = 1
  · simp only [if_pos c1]
    refine Ev.bind (a := if s.f1 < 0 ∨ s.f1 ≥ (cl.length : Int) then ([], false) else nrm (rd_L1 cl s.f1)) ?_ (Ev.now _)
    unfold proof_input.f
    by_cases c2 : s.f1 < 0
    · simp only [if_pos c2, if_pos (show s.f1 < 0 ∨ s.f1 ≥ (cl.length : Int) from .inl c2)]
      exact Ev.now _
    by_cases c3 : s.f1 ≥ (cl.length : Int)
    · simp only [if_neg c2, if_pos c3, if_pos (show s.f1 < 0 ∨ s.f1 ≥ (cl.length : Int) from .inr c3)]
      exact Ev.now _
    simp only [if_neg c2, if_neg c3, if_neg (show ¬ (s.f1 < 0 ∨ s.f1 ≥ (cl.length : Int)) by omega), if_pos (show 0 ≤ s.f1 by omega), if_pos (show s.f1 < (cl.length : Int) by omega)]
    obtain ⟨m1, m2⟩ := hcl _ (rdL_get (l := cl) (x := s.f1) (by omega) (by omega))
    exact Ev.bind (nrm_ev _ m1 (by omega)) (Ev.now _)
  by_cases c2 : s.f0 = 2
  · simp only [if_neg c1, if_pos c2]
    refine Ev.bind (a := cylGo q s.f2 0 [] [] []) ?_ (Ev.now _)
    exact cylGo_ev a b q cl hq s.f2 hs.1 hs.2 s.f2.length 0 [] [] [] (by omega) rfl rfl rfl no_ok.1
  by_cases c3 : s.f0 = 3
  · simp only [if_neg c1, if_neg c2, if_pos c3]
    exact Ev.bind (a := rsvAt out s) (res_ev ho s) (Ev.now _)
  · simp only [if_neg c1, if_neg c2, if_neg c3]
    exact Ev.now _
def clsP (r : List (List Int) × Option Nat) : List (List Int) × Int × Int := match r.2 with
  | none => (r.1, 0, 0)
  | some j => ([], (j : Int), 15)
theorem cls_ev (hq : q.length < 1000) (hcl : ∀ c ∈ cl, okC c) (l : List S28) (hl : l.length < 1000000) (hs : ∀ s ∈ l, okS s) : ∀ (n i : Nat) (out : List (List Int)), i + n = l.length → out.length = i → (∀ c ∈ out, okC c) →
    Ev (fun k => proof_Clauses.l0 k out l (l.length : Int) (i : Int) a b q cl) (clsP (cls q cl (l.drop i) i out)) := by
  intro n
  induction n with
  | zero =>
    intro i out hi h1 ho
    rw [List.drop_of_length_le (by omega)]
    refine Ev.step (f := fun _ => some (out, 0, 0)) (fun k => ?_) (Ev.now _)
    simp only [proof_Clauses.l0]
    rw [if_neg (by omega)]
  | succ n ih =>
    intro i out hi h1 ho
    have hi' : i < l.length := by omega
    rw [drop_cons hi']
    unfold cls
    refine Ev.step (f := fun k => (proof_clause.f k a b q cl out l[i].f0 l[i].f1 l[i].f2 l[i].f3 l[i].f4 l[i].f5).bind fun bt => (if bt.2 = true then proof_Clauses.l0 k (out ++ [bt.1]) l (l.length : Int) ((i + 1 : Nat) : Int) a b q cl else some (([] : List (List Int)), (i : Int), 15))) (fun k => ?_) (Ev.bind (clause_ev a b q cl hq hcl ho l[i] (hs _ (List.getElem_mem hi'))) ?_)
    · simp only [proof_Clauses.l0]
      rw [if_pos (by omega), if_pos (by omega), if_pos (by omega), rdT_get hi', wrapn hi' (by omega)]
      congr 1
      funext bt
      rw [if_pos (show out.length < 5864062014805 by omega)]
    · by_cases d : (stp q cl out l[i]).2 = true
      · simp only [if_pos d]
        exact ih (i + 1) _ (by omega) (by simp [h1]) (snoc_ok q cl hq hcl ho _)
      · simp only [if_neg d]
        exact Ev.now _
theorem clauses_ev (hq : q.length < 1000) (hcl : ∀ c ∈ cl, okC c) (l : List S28) (hl : l.length < 1000000) (hs : ∀ s ∈ l, okS s) : Ev (fun k => proof_Clauses.f k a b q cl l) (clsP (cls q cl l 0 [])) :=
  cls_ev a b q cl hq hcl l hl hs l.length 0 [] (by omega) rfl (by simp)
end
theorem cls_length (q : List S53) (cl : List (List Int)) : ∀ (l : List S28) (i : Nat) (out : List (List Int)), (cls q cl l i out).2 = none → (cls q cl l i out).1.length = out.length + l.length := by
  intro l
  induction l with
  | nil => intro i out _; simp [cls]
  | cons s r ih =>
    intro i out h
    unfold cls at h ⊢
    split
    · rename_i d
      rw [if_pos d] at h
      rw [ih _ _ h, List.length_append, List.length_cons, List.length_cons, List.length_nil]
      omega
    · rename_i d
      rw [if_neg d] at h
      cases h
theorem cls_ok (q : List S53) (cl : List (List Int)) (hq : q.length < 1000) (hcl : ∀ c ∈ cl, okC c) : ∀ (l : List S28) (i : Nat) (out : List (List Int)), (∀ c ∈ out, okC c) → ∀ c ∈ (cls q cl l i out).1, okC c := by
  intro l
  induction l with
  | nil => intro i out ho; exact ho
  | cons s r ih =>
    intro i out ho
    unfold cls
    split
    · exact ih _ _ (snoc_ok q cl hq hcl ho s)
    · exact fun c hc => absurd hc (by simp)
/-- What Check answers. -/
def chk (n : Nat) (r : List (List Int) × Option Nat) : Int × Int := match r.2 with
  | some j => ((j : Int), 15)
  | none => if (n : Int) = 0 then ((n : Int), 15) else if ((rd_L1 r.1 ((n : Int) - 1)).length : Int) > 0 then ((n : Int), 15) else (0, 0)
section
variable (a b : Int) (q : List S53) (cl : List (List Int))
theorem check_ev (hq : q.length < 1000) (hcl : ∀ c ∈ cl, okC c) (l : List S28) (hl : l.length < 1000000) (hs : ∀ s ∈ l, okS s) : Ev (fun k => proof_Check.f k a b q cl l) (chk l.length (cls q cl l 0 [])) := by
  unfold proof_Check.f
  refine Ev.bind (clauses_ev a b q cl hq hcl l hl hs) ?_
  rcases hr : cls q cl l 0 [] with ⟨o, m⟩
  cases m with
  | some j => exact Ev.congr (fun k => if_neg (show ¬ ((15 : Int) = 0) by decide)) (Ev.now _)
  | none =>
    have hlen := cls_length q cl l 0 [] (by rw [hr])
    rw [hr] at hlen
    have hlen : o.length = l.length := by simpa using hlen
    have e1 : chk l.length (o, none) = if (l.length : Int) = 0 then ((l.length : Int), 15) else if ((rd_L1 o ((l.length : Int) - 1)).length : Int) > 0 then ((l.length : Int), 15) else (0, 0) := rfl
    rw [e1]
    refine Ev.congr (fun k => if_pos (show (0 : Int) = 0 from rfl)) ?_
    by_cases c : (l.length : Int) = 0
    · rw [if_pos c]
      exact Ev.congr (fun k => if_pos (show (o.length : Int) = 0 by omega)) (Ev.now _)
    · have e : wrap64 ((o.length : Int) - 1) = (l.length : Int) - 1 := by
        rw [hlen]
        exact wrap64_id (by omega) (by omega)
      rw [if_neg c]
      refine Ev.congr (fun k => if_neg (show ¬ (o.length : Int) = 0 by omega)) ?_
      refine Ev.congr (fun k => if_pos (show 0 ≤ wrap64 ((o.length : Int) - 1) by omega)) ?_
      refine Ev.congr (fun k => if_pos (show wrap64 ((o.length : Int) - 1) < (o.length : Int) by omega)) ?_
      by_cases d : ((rd_L1 o ((l.length : Int) - 1)).length : Int) > 0
      · rw [if_pos d]
        exact Ev.congr (fun k => if_pos (show ((rd_L1 o (wrap64 ((o.length : Int) - 1))).length : Int) > 0 by rw [e]; exact d)) (Ev.now _)
      · rw [if_neg d]
        exact Ev.congr (fun k => if_neg (show ¬ ((rd_L1 o (wrap64 ((o.length : Int) - 1))).length : Int) > 0 by rw [e]; exact d)) (Ev.now _)
end
theorem same_ev (u : List Int) (hu : u.length < 4611686018427387904) : ∀ (n i : Nat), i + n = u.length → Ev (fun k => interleaveref31_Same.l0 k u u (u.length : Int) (i : Int)) true := by
  intro n
  induction n with
  | zero =>
    intro i hi
    refine Ev.step (f := fun _ => some true) (fun k => ?_) (Ev.now _)
    simp only [interleaveref31_Same.l0]
    rw [if_neg (by omega)]
  | succ n ih =>
    intro i hi
    refine Ev.step (fun k => ?_) (ih (i + 1) (by omega))
    simp only [interleaveref31_Same.l0]
    rw [if_pos (by omega), if_pos (by omega), if_pos (by omega), if_pos (by omega), if_pos trivial, wrapn (show i < u.length by omega) hu]
theorem same_self (u : List Int) (hu : u.length < 4611686018427387904) : Ev (fun k => interleaveref31_Same.f k u u) true := by
  unfold interleaveref31_Same.f
  simp only [if_pos trivial]
  exact same_ev u hu u.length 0 (by omega)
theorem norm_self {l : List Int} (hs : smallL l) (hp : l.Pairwise (fun x y => nkey x < nkey y)) : norm l = l := sorted_ext _ _ (norm_sorted hs) hp fun _ => norm_mem
theorem nrm_self {l : List Int} (hs : smallL l) (hp : l.Pairwise (fun x y => nkey x < nkey y)) (hc : clash l = false) : nrm l = (l, true) := by
  unfold nrm
  rw [hc, if_neg (by decide), norm_self hs hp]
def exq : List S53 := [⟨0, 1, -1⟩, ⟨1, 0, -1⟩]
def exc : List (List Int) := [[1], [2]]
def exs : List S28 := [⟨1, 0, [], 0, 0, 0⟩, ⟨1, 1, [], 0, 0, 0⟩, ⟨2, 0, [1, 2], 0, 0, 0⟩, ⟨3, 0, [], 0, 2, 0⟩, ⟨3, 0, [], 1, 3, 1⟩]
theorem n1 : nrm [1] = ([1], true) := nrm_self (by simp [smallL]) (by simp) (by decide)
theorem n2 : nrm [2] = ([2], true) := nrm_self (by simp [smallL]) (by simp) (by decide)
theorem n12 : nrm [-1, -2] = ([-1, -2], true) := nrm_self (by simp [smallL]) (by simp [nkey, nb, nt]) (by decide)
theorem nm2 : nrm [-2] = ([-2], true) := nrm_self (by simp [smallL]) (by simp) (by decide)
theorem n0 : nrm [] = ([], true) := nrm_self (by simp [smallL]) (by simp) (by decide)
theorem cyl12 : cylGo exq [1, 2] 0 [] [] [] = ([-1, -2], true) := by
  have b1 : bnd exq 1 = (0, 1, -1, true) := by decide
  have b2 : bnd exq 2 = (1, 0, -1, true) := by decide
  have hc : cycB [⟨0, 1, -1⟩, ⟨1, 0, -1⟩] [0, 1] = true := by decide +kernel
  unfold cylGo
  rw [b1]
  unfold cylGo
  rw [b2]
  unfold cylGo
  refine (if_pos hc).trans ?_
  rw [show ([] ++ [wrap64 (-1)] ++ [wrap64 (-2)] : List Int) = [-1, -2] by decide +kernel]
  exact n12
theorem s0 : stp exq exc [] ⟨1, 0, [], 0, 0, 0⟩ = ([1], true) := n1
theorem s1 : stp exq exc [[1]] ⟨1, 1, [], 0, 0, 0⟩ = ([2], true) := n2
theorem s2 : stp exq exc [[1], [2]] ⟨2, 0, [1, 2], 0, 0, 0⟩ = ([-1, -2], true) := cyl12
theorem s3 : stp exq exc [[1], [2], [-1, -2]] ⟨3, 0, [], 0, 2, 0⟩ = ([-2], true) := nm2
theorem s4 : stp exq exc [[1], [2], [-1, -2], [-2]] ⟨3, 0, [], 1, 3, 1⟩ = ([], true) := n0
theorem cls5 : cls exq exc exs 0 [] = ([[1], [2], [-1, -2], [-2], []], none) := by
  simp only [exs, cls, s0, s1, s2, s3, s4, List.nil_append, List.cons_append, if_pos trivial]
theorem cls4 : cls exq exc (exs.take 4) 0 [] = ([[1], [2], [-1, -2], [-2]], none) := by
  simp only [exs, List.take, cls, s0, s1, s2, s3, List.nil_append, List.cons_append, if_pos trivial]
theorem exc_ok : ∀ c ∈ exc, okC c := by simp [exc, okC, smallL]
theorem exs_ok : ∀ s ∈ exs, okS s := by simp [exs, okS, i64L]
theorem awake_ev : Ev (fun k => interleavelaw33_awake.f k) true := by
  have h1 := clauses_ev 2 2 exq exc (by decide) exc_ok exs (by decide) exs_ok
  have h2 := check_ev 2 2 exq exc (by decide) exc_ok exs (by decide) exs_ok
  have h3 := check_ev 2 2 exq exc (by decide) exc_ok (exs.take 4) (by decide) (fun s hs => exs_ok s (List.mem_of_mem_take hs))
  rw [cls5] at h1 h2
  rw [cls4] at h3
  unfold interleavelaw33_awake.f interleavelaw33_example.f
  simp only [Option.bind_some]
  refine Ev.bind h1 (Ev.bind h2 ?_)
  refine Ev.congr (fun k => if_pos (show (4 : Int) ≤ (exs.length : Int) by decide)) ?_
  refine Ev.bind h3 ?_
  refine Ev.congr (fun k => if_pos (show (0 : Int) = 0 from rfl)) (Ev.congr (fun k => if_pos (show (0 : Int) = 0 from rfl)) (Ev.congr (fun k => if_pos (show (5 : Int) = 5 from rfl)) (Ev.congr (fun k => if_pos (show (3 : Int) < 5 by decide)) ?_)))
  refine Ev.bind (same_self [-2] (by decide)) ?_
  exact Ev.now true
end Go.Proofs.YtppbnjmhkifdaaaDoor.X
