/- FormulaSatisfies in plain terms: both Satisfies answer the same on valid formulas. -/
import Derived.Test.YtpaoepcebcjfhaaDoorPb4
import Derived.Test.YtpaoepcebcjfhaaDoorXS
namespace Go.Proofs.YtpaoepcebcjfhaaDoor.X
open Go Go.RowKit Go.Proofs.YtpaoepcebcjfhaaDoorW.PrintWords Go.Proofs.YtpaoepcebcjfhaaDoorW.PrintLast Go.Proofs.YtpaoepcebcjfhaaDoorW.PrintMore
theorem wrap_succ {i n : Nat} (h : i < n) (hn : n < 4611686018427387904) : wrap64 ((i : Int) + 1) = ((i + 1 : Nat) : Int) := by
  unfold wrap64
  omega
def Tot {α : Type} (g : Nat → Option α) : Prop := ∃ r, Ev g r
theorem Tot.now {α : Type} (r : α) : Tot (fun _ => some r) := ⟨r, Ev.now r⟩
theorem Tot.step {α : Type} {g f : Nat → Option α} (h : ∀ k, g (k + 1) = f k) (k : Tot f) : Tot g := k.imp fun _ hk => Ev.step h hk
theorem large_loop (a b : Int) (l2 : List S36) (l3 : List (List Int)) (hl : l3.length < 4611686018427387904) : ∀ (n i : Nat) (s : Int), i + n = l3.length → Tot (fun k => interleavelaw31_large.l0 k s (i : Int) a b l2 l3) := by
  intro n
  induction n with
  | zero =>
    intro i s hi
    refine Tot.step (f := fun _ => some (decide (s > 2000))) (fun k => ?_) (Tot.now _)
    simp only [interleavelaw31_large.l0]
    rw [if_neg (by omega)]
  | succ n ih =>
    intro i s hi
    by_cases c : s < 1048576
    · refine Tot.step (f := fun k => interleavelaw31_large.l0 k (wrap64 (s + ((rd_L2 l3 (i : Int)).length : Int))) ((i + 1 : Nat) : Int) a b l2 l3) (fun k => ?_) (ih (i + 1) _ (by omega))
      simp only [interleavelaw31_large.l0]
      rw [if_pos (by omega), if_pos c, if_pos (by omega), wrap_succ (show i < l3.length by omega) hl]
    · refine Tot.step (f := fun _ => some (decide (s > 2000))) (fun k => ?_) (Tot.now _)
      simp only [interleavelaw31_large.l0]
      rw [if_pos (by omega), if_neg c]
theorem large_tot (a b : Int) (l2 : List S36) (l3 : List (List Int)) (hl : l3.length < 4611686018427387904) : Tot (fun k => interleavelaw31_large.f k a b l2 l3) := large_loop a b l2 l3 hl l3.length 0 _ (by omega)
/-- It ends, and 0 tells P. -/
def VT (g : Nat → Option Int) (P : Prop) : Prop := ∃ r, Ev g r ∧ (r = 0 → P)
theorem VT.one (P : Prop) : VT (fun _ => some 1) P := ⟨1, Ev.now 1, fun h => absurd h (by decide)⟩
theorem VT.zero {P : Prop} (p : P) : VT (fun _ => some 0) P := ⟨0, Ev.now 0, fun _ => p⟩
theorem VT.step {g f : Nat → Option Int} {P : Prop} (h : ∀ k, g (k + 1) = f k) (k : VT f P) : VT g P := k.imp fun _ hk => ⟨Ev.step h hk.1, hk.2⟩
theorem VT.congr {g f : Nat → Option Int} {P : Prop} (h : ∀ k, g k = f k) (k : VT f P) : VT g P := k.imp fun _ hk => ⟨Ev.congr h hk.1, hk.2⟩
theorem VT.ite {P c : Prop} [Decidable c] {g f : Nat → Option Int} (h : c → VT g P) (k : ¬ c → VT f P) : VT (fun n => if c then g n else f n) P := by
  by_cases hc : c
  · exact VT.congr (fun n => if_pos hc) (h hc)
  · exact VT.congr (fun n => if_neg hc) (k hc)
theorem VT.mono {g : Nat → Option Int} {P Q : Prop} (k : VT g P) (h : P → Q) : VT g Q := k.imp fun _ hk => ⟨hk.1, fun e => h (hk.2 e)⟩
section
variable (a b : Int) (l2 : List S36) (l3 : List (List Int))
theorem v2 (P : Prop) (x87 : List (List Int)) (x88 x89 : Int) (u : List Int) (hu : u.length < 4611686018427387904) (hn : VT (fun k => interleaveref31_Valid.l1 k x87 x88 (wrap64 (x89 + 1)) a b l2 l3) P) :
    ∀ (n i : Nat), i + n = u.length → VT (fun k => interleaveref31_Valid.l2 k x87 x88 x89 u (u.length : Int) (i : Int) a b l2 l3) P := by
  intro n
  induction n with
  | zero =>
    intro i hi
    refine VT.step (f := fun k => interleaveref31_Valid.l1 k x87 x88 (wrap64 (x89 + 1)) a b l2 l3) (fun k => ?_) hn
    simp only [interleaveref31_Valid.l2]
    rw [if_neg (by omega)]
  | succ n ih =>
    intro i hi
    refine VT.step (f := fun k => if rd u (i : Int) = 0 then some 1 else if rd u (i : Int) > b then some 1 else if rd u (i : Int) < wrap64 (-b) then some 1 else interleaveref31_Valid.l2 k x87 x88 x89 u (u.length : Int) ((i + 1 : Nat) : Int) a b l2 l3) (fun k => ?_) ?_
    · simp only [interleaveref31_Valid.l2]
      rw [if_pos (by omega), if_pos (by omega), if_pos (by omega), wrap_succ (show i < u.length by omega) hu]
    · exact VT.ite (fun _ => VT.one _) fun _ => VT.ite (fun _ => VT.one _) fun _ => VT.ite (fun _ => VT.one _) fun _ => ih (i + 1) (by omega)
theorem v1 (P : Prop) (p : P) (hl : l3.length < 4611686018427387904) (hu : ∀ u ∈ l3, u.length < 4611686018427387904) : ∀ (n i : Nat), i + n = l3.length → VT (fun k => interleaveref31_Valid.l1 k l3 (l3.length : Int) (i : Int) a b l2 l3) P := by
  intro n
  induction n with
  | zero =>
    intro i hi
    refine VT.step (f := fun _ => some 0) (fun k => ?_) (VT.zero p)
    simp only [interleaveref31_Valid.l1]
    rw [if_neg (by omega)]
  | succ n ih =>
    intro i hi
    refine VT.step (f := fun k => interleaveref31_Valid.l2 k l3 (l3.length : Int) (i : Int) (rd_L2 l3 (i : Int)) ((rd_L2 l3 (i : Int)).length : Int) ((0 : Nat) : Int) a b l2 l3) (fun k => ?_) ?_
    · simp only [interleaveref31_Valid.l1]
      rw [if_pos (by omega), if_pos (by omega), if_pos (by omega)]
      rfl
    · refine v2 a b l2 l3 P l3 _ _ _ (hu _ ?_) ?_ (rd_L2 l3 (i : Int)).length 0 (Nat.zero_add _)
      · unfold rd_L2
        rw [Int.toNat_natCast, List.getD_eq_getElem?_getD, List.getElem?_eq_getElem (by omega)]
        exact List.getElem_mem _
      · rw [wrap_succ (show i < l3.length by omega) hl]
        exact ih (i + 1) (by omega)
/-- The atom at j lies within the whole numbers. -/
def inR (j : Nat) : Prop := 0 ≤ (rd_T36 l2 (j : Int)).f0 ∧ (rd_T36 l2 (j : Int)).f0 < a ∧ 0 ≤ (rd_T36 l2 (j : Int)).f1 ∧ (rd_T36 l2 (j : Int)).f1 < a
theorem v0 (h2 : l2.length < 4611686018427387904) (hl : l3.length < 4611686018427387904) (hu : ∀ u ∈ l3, u.length < 4611686018427387904) : ∀ (n i : Nat), i + n = l2.length → VT (fun k => interleaveref31_Valid.l0 k l2 (l2.length : Int) (i : Int) a b l2 l3) (∀ j, i ≤ j → j < l2.length → inR a l2 j) := by
  intro n
  induction n with
  | zero =>
    intro i hi
    refine VT.step (f := fun k => interleaveref31_Valid.l1 k l3 (l3.length : Int) ((0 : Nat) : Int) a b l2 l3) (fun k => ?_) (v1 a b l2 l3 _ (fun j h1 h2 => absurd h2 (by omega)) hl hu l3.length 0 (Nat.zero_add _))
    simp only [interleaveref31_Valid.l0]
    rw [if_neg (by omega)]
    rfl
  | succ n ih =>
    intro i hi
    have h := ih (i + 1) (by omega)
    refine VT.step (f := fun k => if (rd_T36 l2 (i : Int)).f0 < 0 then some 1 else if (rd_T36 l2 (i : Int)).f0 ≥ a then some 1 else if (rd_T36 l2 (i : Int)).f1 < 0 then some 1 else if (rd_T36 l2 (i : Int)).f1 ≥ a then some 1 else if (rd_T36 l2 (i : Int)).f0 = (rd_T36 l2 (i : Int)).f1 then some 1 else if (rd_T36 l2 (i : Int)).f2 < (-1048576) then some 1 else if (rd_T36 l2 (i : Int)).f2 > 1048576 then some 1 else interleaveref31_Valid.l0 k l2 (l2.length : Int) ((i + 1 : Nat) : Int) a b l2 l3) (fun k => ?_) ?_
    · simp only [interleaveref31_Valid.l0]
      rw [if_pos (by omega), if_pos (by omega), if_pos (by omega), wrap_succ (show i < l2.length by omega) h2]
    · exact VT.ite (fun _ => VT.one _) fun q1 => VT.ite (fun _ => VT.one _) fun q2 => VT.ite (fun _ => VT.one _) fun q3 => VT.ite (fun _ => VT.one _) fun q4 => VT.ite (fun _ => VT.one _) fun _ => VT.ite (fun _ => VT.one _) fun _ => VT.ite (fun _ => VT.one _) fun _ => h.mono fun hj j h1 h3 => by
        by_cases e : j = i
        · subst e
          exact ⟨by omega, by omega, by omega, by omega⟩
        · exact hj j (by omega) h3
theorem valid_zero (h2 : l2.length < 4611686018427387904) (hl : l3.length < 4611686018427387904) (hu : ∀ u ∈ l3, u.length < 4611686018427387904) : VT (fun k => interleaveref31_Valid.f k a b l2 l3) ((l2.length : Int) ≤ b ∧ ∀ j, j < l2.length → inR a l2 j) := by
  have h1 : ∀ x, VT (fun k => interleaveref31_Valid.j1 k x a b l2 l3) (x = false ∧ ∀ j, j < l2.length → inR a l2 j) := fun x => by
    refine VT.step (f := fun k => if x = true then some 1 else interleaveref31_Valid.l0 k l2 (l2.length : Int) ((0 : Nat) : Int) a b l2 l3) (fun k => ?_) (VT.ite (fun _ => VT.one _) fun q => (v0 a b l2 l3 h2 hl hu l2.length 0 (Nat.zero_add _)).mono fun hj => ⟨by simpa using q, fun j h3 => hj j (Nat.zero_le _) h3⟩)
    simp only [interleaveref31_Valid.j1]
    rfl
  have h0 : ∀ x, VT (fun k => interleaveref31_Valid.j0 k x a b l2 l3) ((l2.length : Int) ≤ b ∧ ∀ j, j < l2.length → inR a l2 j) := fun x => by
    refine VT.step (f := fun k => if x = true then some 2 else if a < 0 then interleaveref31_Valid.j1 k true a b l2 l3 else if b < 0 then interleaveref31_Valid.j1 k true a b l2 l3 else interleaveref31_Valid.j1 k (decide ((l2.length : Int) > b)) a b l2 l3) (fun k => ?_) ?_
    · simp only [interleaveref31_Valid.j0]
    · exact VT.ite (fun _ => ⟨2, Ev.now 2, fun h => absurd h (by decide)⟩) fun _ => VT.ite (fun _ => (h1 true).mono fun h => absurd h.1 (by decide)) fun _ => VT.ite (fun _ => (h1 true).mono fun h => absurd h.1 (by decide)) fun _ => (h1 _).mono fun h => ⟨by have := of_decide_eq_false h.1; omega, h.2⟩
  unfold interleaveref31_Valid.f
  exact VT.ite (fun _ => h0 _) fun _ => VT.ite (fun _ => h0 _) fun _ => h0 _
end
/-- The reference's Any. -/
theorem any_ev (u : List Int) (bs : List Bool) (is : List Int) (hu : u.length < 4611686018427387904) (hx : litsOk u = true) (hb : bs.length < 4611686018427387904) :
    ∀ (n i : Nat), i + n = u.length → Ev (fun k => interleaveref31_Any.l0 k u (u.length : Int) (i : Int) bs is) (holdsAny (u.drop i) bs) := by
  intro n
  induction n with
  | zero =>
    intro i hi
    refine Ev.step (f := fun _ => some (holdsAny (u.drop i) bs)) (fun k => ?_) (Ev.now _)
    simp only [interleaveref31_Any.l0]
    rw [if_neg (by omega), List.drop_of_length_le (by omega)]
    rfl
  | succ n ih =>
    intro i hi
    have hlit := of_decide_eq_true (List.all_eq_true.1 hx (rd u (i : Int)) (by rw [rd_at (show i < u.length by omega)]; exact List.getElem_mem _))
    rw [any_drop u bs i (by omega)]
    refine Ev.step (f := fun k => (interleaveref31_Holds.f k (rd u (i : Int)) bs is).bind fun t179 => (if t179 = true then (some true) else (interleaveref31_Any.l0 k u (u.length : Int) ((i + 1 : Nat) : Int) bs is))) (fun k => ?_) ?_
    · simp only [interleaveref31_Any.l0]
      rw [if_pos (by omega), if_pos (by omega), if_pos (by omega), wrap_succ (show i < u.length by omega) hu]
    · refine Ev.bind (refHolds_ev _ bs is hlit.1 hlit.2 hb) ?_
      cases hh : hld (rd u (i : Int)) bs with
      | true => exact Ev.congr (fun k => if_pos rfl) (Ev.now true)
      | false => exact Ev.congr (fun k => if_neg (by decide)) (by rw [Bool.false_or]; exact ih (i + 1) (by omega))
section
variable (a b : Int) (l2 : List S36) (l3 : List (List Int)) (bs : List Bool) (is : List Int)
theorem sat1 (hl : l3.length < 4611686018427387904) (hx : ∀ u ∈ l3, litsOk u = true) (hu : ∀ u ∈ l3, u.length < 4611686018427387904) (hb : bs.length < 4611686018427387904) :
    ∀ (n i : Nat), i + n = l3.length → Ev (fun k => interleaveref31_Satisfies.l1 k l3 (l3.length : Int) (i : Int) bs is) ((l3.drop i).all fun l => holdsAny l bs) := by
  intro n
  induction n with
  | zero =>
    intro i hi
    refine Ev.step (f := fun _ => some ((l3.drop i).all fun l => holdsAny l bs)) (fun k => ?_) (Ev.now _)
    simp only [interleaveref31_Satisfies.l1]
    rw [if_neg (by omega), List.drop_of_length_le (by omega)]
    rfl
  | succ n ih =>
    intro i hi
    have hi' : i < l3.length := by omega
    have hr : rd_L2 l3 (i : Int) = l3[i] := by
      unfold rd_L2
      rw [Int.toNat_natCast, List.getD_eq_getElem?_getD, List.getElem?_eq_getElem hi']
      rfl
    rw [List.drop_eq_getElem_cons hi', List.all_cons]
    refine Ev.step (f := fun k => (interleaveref31_Any.f k (rd_L2 l3 (i : Int)) bs is).bind fun t188 => (if t188 = true then (interleaveref31_Satisfies.l1 k l3 (l3.length : Int) ((i + 1 : Nat) : Int) bs is) else (some false))) (fun k => ?_) ?_
    · simp only [interleaveref31_Satisfies.l1]
      rw [if_pos (by omega), if_pos (by omega), if_pos (by omega), wrap_succ hi' hl]
    · rw [hr]
      have hm := List.getElem_mem hi'
      refine Ev.bind (a := holdsAny l3[i] bs) (any_ev l3[i] bs is (hu _ hm) (hx _ hm) hb l3[i].length 0 (Nat.zero_add _)) ?_
      cases hh : holdsAny l3[i] bs with
      | true => exact Ev.congr (fun k => if_pos rfl) (by rw [Bool.true_and]; exact ih (i + 1) (by omega))
      | false => exact Ev.congr (fun k => if_neg (by decide)) (Ev.now false)
theorem sat0 (h2 : l2.length < 4611686018427387904) (hlb : l2.length ≤ bs.length) (hr : ∀ j, j < l2.length → inR (is.length : Int) l2 j) (hl : l3.length < 4611686018427387904) (hx : ∀ u ∈ l3, litsOk u = true) (hu : ∀ u ∈ l3, u.length < 4611686018427387904) (hb : bs.length < 4611686018427387904) :
    ∀ (n i : Nat), i + n = l2.length → Ev (fun k => interleaveref31_Satisfies.l0 k l2 (l2.length : Int) (i : Int) a b l2 l3 bs is) (((List.range' i n).all (atomOk l2 bs is)) && l3.all fun l => holdsAny l bs) := by
  intro n
  induction n with
  | zero =>
    intro i hi
    refine Ev.step (f := fun k => interleaveref31_Satisfies.l1 k l3 (l3.length : Int) ((0 : Nat) : Int) bs is) (fun k => ?_) ?_
    · simp only [interleaveref31_Satisfies.l0]
      rw [if_neg (by omega)]
      rfl
    · simpa using sat1 l3 bs is hl hx hu hb l3.length 0 (Nat.zero_add _)
  | succ n ih =>
    intro i hi
    obtain ⟨r0, r1, r2, r3⟩ := hr i (by omega)
    have hv : ∀ x : Int, 0 ≤ x → x < (is.length : Int) → valI is x = rd is x := fun x h h' => if_neg (by omega)
    refine Ev.step (f := fun k => if atomOk l2 bs is i = true then interleaveref31_Satisfies.l0 k l2 (l2.length : Int) ((i + 1 : Nat) : Int) a b l2 l3 bs is else some false) (fun k => ?_) ?_
    · simp only [interleaveref31_Satisfies.l0]
      rw [if_pos (by omega), if_pos (by omega), if_pos (by omega), if_pos (by omega), if_pos r0, if_pos r1, if_pos r2, if_pos r3, wrap_succ (show i < l2.length by omega) h2]
      unfold atomOk
      rw [hv _ r0 r1, hv _ r2 r3]
      cases hq : (rdOf false bs (i : Int) == decide (wrap64 (rd is (rd_T36 l2 (i : Int)).f0 - rd is (rd_T36 l2 (i : Int)).f1) ≤ (rd_T36 l2 (i : Int)).f2)) with
      | true => rw [if_neg (by simp only [bne, hq]; decide), if_pos rfl]
      | false => rw [if_pos (by simp only [bne, hq]; decide), if_neg (by decide)]
    · rw [List.range'_succ, List.all_cons]
      cases hh : atomOk l2 bs is i with
      | true => exact Ev.congr (fun k => if_pos rfl) (by rw [Bool.true_and]; exact ih (i + 1) (by omega))
      | false => exact Ev.congr (fun k => if_neg (by decide)) (Ev.now false)
theorem refSat (h2 : l2.length < 4611686018427387904) (hlb : (l2.length : Int) ≤ b) (hr : ∀ j, j < l2.length → inR a l2 j) (hl : l3.length < 4611686018427387904) (hx : ∀ u ∈ l3, litsOk u = true) (hu : ∀ u ∈ l3, u.length < 4611686018427387904) (hb : bs.length < 4611686018427387904) :
    Ev (fun k => interleaveref31_Satisfies.f k a b l2 l3 bs is) (satB a b l2 l3 bs is) := by
  have hT : ∀ x : Bool, x = true → satB a b l2 l3 bs is = false → Ev (fun k => interleaveref31_Satisfies.j0 k x a b l2 l3 bs is) (satB a b l2 l3 bs is) := fun x hx' hs => by
    rw [hs]
    refine Ev.step (f := fun _ => some false) (fun k => ?_) (Ev.now _)
    simp only [interleaveref31_Satisfies.j0]
    rw [if_pos hx']
  unfold interleaveref31_Satisfies.f
  by_cases c : (bs.length : Int) = b
  · refine Ev.congr (fun k => if_pos c) ?_
    by_cases d : (is.length : Int) = a
    · have hx' : ((is.length : Int) != a) = false := bne_eq_false_iff_eq.mpr d
      rw [hx']
      have hs : satB a b l2 l3 bs is = ((List.range' 0 l2.length).all (atomOk l2 bs is) && l3.all fun l => holdsAny l bs) := by
        unfold satB
        rw [if_neg (by omega), List.range_eq_range']
      rw [hs]
      refine Ev.step (f := fun k => interleaveref31_Satisfies.l0 k l2 (l2.length : Int) ((0 : Nat) : Int) a b l2 l3 bs is) (fun k => ?_) (sat0 a b l2 l3 bs is h2 (by omega) (by rw [d]; exact hr) hl hx hu hb l2.length 0 (Nat.zero_add _))
      simp only [interleaveref31_Satisfies.j0]
      rw [if_neg (by decide)]
      rfl
    · refine hT _ (bne_iff_ne.mpr d) ?_
      unfold satB
      rw [if_pos (.inr (.inl d))]
  · refine Ev.congr (fun k => if_neg c) (hT true rfl ?_)
    unfold satB
    rw [if_pos (.inl c)]
theorem law0 (h2 : l2.length < 4611686018427387904) (hlb : (l2.length : Int) ≤ b) (hr : ∀ j, j < l2.length → inR a l2 j) (hl : l3.length < 4611686018427387904) (hx : ∀ u ∈ l3, litsOk u = true) (hu : ∀ u ∈ l3, u.length < 4611686018427387904) (hb : bs.length < 140737488355328) (hi' : is.length < 4611686018427387904) :
    ∀ (n i : Nat), i + n = is.length → Ev (fun k => interleavelaw31_FormulaSatisfies.l0 k is (is.length : Int) (i : Int) a b l2 l3 bs is) true := by
  have hA : Ev (fun k => (interleavelaw31_awake.f k).bind fun t => some t) true := Ev.bind awake_ev (Ev.now true)
  intro n
  induction n with
  | zero =>
    intro i hi
    refine Ev.step (f := fun k => (some (satB a b l2 l3 bs is)).bind fun t197 => ((interleaveref31_Satisfies.f k a b l2 l3 bs is).bind fun t198 => (if (t197 == t198) = true then ((interleavelaw31_awake.f k).bind fun t199 => (some t199)) else (some false)))) (fun k => ?_) ?_
    · simp only [interleavelaw31_FormulaSatisfies.l0]
      rw [if_neg (by omega)]
      unfold formula_Satisfies.f
      rw [if_pos]
      simp only [satOk, Bool.and_eq_true, decide_eq_true_eq]
      exact ⟨List.all_eq_true.2 fun u hm => by rw [Bool.and_eq_true]; exact ⟨hx u hm, decide_eq_true (hu u hm)⟩, h2, hl, hb⟩
    · simp only [Option.bind_some]
      refine Ev.bind (refSat a b l2 l3 bs is h2 hlb hr hl hx hu (by omega)) ?_
      exact Ev.congr (fun k => if_pos (by simp)) hA
  | succ n ih =>
    intro i hi
    refine Ev.step (f := fun k => if (rd is (i : Int)) < (-1099511627776) then ((interleavelaw31_awake.f k).bind fun t195 => (some t195)) else (if (rd is (i : Int)) > 1099511627776 then ((interleavelaw31_awake.f k).bind fun t196 => (some t196)) else (interleavelaw31_FormulaSatisfies.l0 k is (is.length : Int) ((i + 1 : Nat) : Int) a b l2 l3 bs is))) (fun k => ?_) ?_
    · simp only [interleavelaw31_FormulaSatisfies.l0]
      rw [if_pos (by omega), if_pos (by omega), if_pos (by omega), wrap_succ (show i < is.length by omega) hi']
    · by_cases c : (rd is (i : Int)) < (-1099511627776)
      · exact Ev.congr (fun k => if_pos c) hA
      · refine Ev.congr (fun k => if_neg c) ?_
        by_cases d : (rd is (i : Int)) > 1099511627776
        · exact Ev.congr (fun k => if_pos d) hA
        · exact Ev.congr (fun k => if_neg d) (ih (i + 1) (by omega))
theorem satisfiesLaw (h2 : l2.length < 4611686018427387904) (hl : l3.length < 4611686018427387904) (hu : ∀ u ∈ l3, u.length < 4611686018427387904) (hx : ∀ u ∈ l3, ∀ y ∈ u, -9223372036854775808 ≤ y ∧ y < 9223372036854775808) (hb : bs.length < 140737488355328) (hi' : is.length < 4611686018427387904) : ∃ k, interleavelaw31_FormulaSatisfies.f k a b l2 l3 bs is = some true := by
  have hA : Ev (fun k => (interleavelaw31_awake.f k).bind fun t => some t) true := Ev.bind awake_ev (Ev.now true)
  have hT : ∀ x : Bool, x = true → Ev (fun k => interleavelaw31_FormulaSatisfies.j0 k x a b l2 l3 bs is) true := fun x hx' => by
    refine Ev.step (f := fun k => (interleavelaw31_awake.f k).bind fun t => some t) (fun k => ?_) hA
    simp only [interleavelaw31_FormulaSatisfies.j0]
    rw [if_pos hx']
  refine Ev.rounds (g := fun k => interleavelaw31_FormulaSatisfies.f k a b l2 l3 bs is) ?_
  unfold interleavelaw31_FormulaSatisfies.f
  obtain ⟨r, hr⟩ := large_tot a b l2 l3 hl
  refine Ev.bind hr ?_
  by_cases c : r = true
  · exact Ev.congr (fun k => if_pos c) (hT true rfl)
  · refine Ev.congr (fun k => if_neg c) ?_
    obtain ⟨s, hs, hP⟩ := valid_zero a b l2 l3 h2 hl hu
    refine Ev.bind hs ?_
    by_cases c0 : s = 0
    · refine Ev.congr (fun k => if_pos c0) ?_
      by_cases c1 : (bs.length : Int) > 2000
      · exact Ev.congr (fun k => if_pos c1) (hT true rfl)
      · refine Ev.congr (fun k => if_neg c1) ?_
        by_cases c2 : (is.length : Int) > 200
        · exact hT _ (decide_eq_true c2)
        · rw [decide_eq_false c2]
          refine Ev.step (f := fun k => interleavelaw31_FormulaSatisfies.l0 k is (is.length : Int) ((0 : Nat) : Int) a b l2 l3 bs is) (fun k => ?_) (law0 a b l2 l3 bs is h2 (hP c0).1 (hP c0).2 hl (fun u hm => List.all_eq_true.2 fun y hy => decide_eq_true (hx u hm y hy)) hu hb hi' is.length 0 (Nat.zero_add _))
          simp only [interleavelaw31_FormulaSatisfies.j0]
          rw [if_neg (by decide)]
          rfl
    · exact Ev.congr (fun k => if_neg c0) (hT true rfl)
end
end Go.Proofs.YtpaoepcebcjfhaaDoor.X
