/- The program's Valid and the reference's are one function, and it ends. -/
import Derived.Test.YtpaoepcebcjfhaaDoorPb
import Derived.Test.YtpaoepcebcjfhaaDoorX6
import Derived.Test.YtpaoepcebcjfhaaDoorX12
namespace Go.Proofs.YtpaoepcebcjfhaaDoor.X
open Go Go.RowKit Go.Proofs.YtpaoepcebcjfhaaDoorW.PrintWords Go.Proofs.YtpaoepcebcjfhaaDoorW.PrintLast Go.Proofs.YtpaoepcebcjfhaaDoorW.PrintMore
def Tot {α : Type} (g : Nat → Option α) : Prop := ∃ r, Ev g r
theorem Tot.now {α : Type} (r : α) : Tot (fun _ => some r) := ⟨r, Ev.now r⟩
theorem Tot.step {α : Type} {g f : Nat → Option α} (h : ∀ k, g (k + 1) = f k) (k : Tot f) : Tot g := k.imp fun _ hk => Ev.step h hk
theorem Tot.congr {α : Type} {g f : Nat → Option α} (h : ∀ k, g k = f k) (k : Tot f) : Tot g := k.imp fun _ hk => Ev.congr h hk
theorem Tot.ite {α : Type} {c : Prop} [Decidable c] {g f : Nat → Option α} (h : c → Tot g) (k : ¬ c → Tot f) : Tot (fun n => if c then g n else f n) := by
  by_cases hc : c
  · exact Tot.congr (fun n => if_pos hc) (h hc)
  · exact Tot.congr (fun n => if_neg hc) (k hc)
theorem wrap_succ {i n : Nat} (h : i < n) (hn : n < 4611686018427387904) : wrap64 ((i : Int) + 1) = ((i + 1 : Nat) : Int) := by
  unfold wrap64
  omega
section
variable (a b : Int) (l2 : List S36) (l3 : List (List Int))
theorem valid_same : ∀ k, (∀ x, formula_Valid.j0 k x a b l2 l3 = interleaveref31_Valid.j0 k x a b l2 l3) ∧ (∀ x, formula_Valid.j1 k x a b l2 l3 = interleaveref31_Valid.j1 k x a b l2 l3) ∧ (∀ x y z, formula_Valid.l0 k x y z a b l2 l3 = interleaveref31_Valid.l0 k x y z a b l2 l3) ∧ (∀ x y z, formula_Valid.l1 k x y z a b l2 l3 = interleaveref31_Valid.l1 k x y z a b l2 l3) ∧ (∀ x y z u v q, formula_Valid.l2 k x y z u v q a b l2 l3 = interleaveref31_Valid.l2 k x y z u v q a b l2 l3)
  | 0 => ⟨fun _ => rfl, fun _ => rfl, fun _ _ _ => rfl, fun _ _ _ => rfl, fun _ _ _ _ _ _ => rfl⟩
  | k + 1 => by
    obtain ⟨h0, h1, h2, h3, h4⟩ := valid_same k
    refine ⟨fun x => ?_, fun x => ?_, fun x y z => ?_, fun x y z => ?_, fun x y z u v q => ?_⟩
    · simp only [formula_Valid.j0, interleaveref31_Valid.j0, h1]
    · simp only [formula_Valid.j1, interleaveref31_Valid.j1, h2]
    · simp only [formula_Valid.l0, interleaveref31_Valid.l0, h2, h3]
    · simp only [formula_Valid.l1, interleaveref31_Valid.l1, h4]
    · simp only [formula_Valid.l2, interleaveref31_Valid.l2, h4, h3]
theorem valid_eq (k : Nat) : formula_Valid.f k a b l2 l3 = interleaveref31_Valid.f k a b l2 l3 := by
  unfold formula_Valid.f interleaveref31_Valid.f
  simp only [(valid_same a b l2 l3 k).1]
theorem l2_tot (x87 : List (List Int)) (x88 x89 : Int) (u : List Int) (hu : u.length < 4611686018427387904) (hn : Tot (fun k => formula_Valid.l1 k x87 x88 (wrap64 (x89 + 1)) a b l2 l3)) :
    ∀ (n i : Nat), i + n = u.length → Tot (fun k => formula_Valid.l2 k x87 x88 x89 u (u.length : Int) (i : Int) a b l2 l3) := by
  intro n
  induction n with
  | zero =>
    intro i hi
    refine Tot.step (f := fun k => formula_Valid.l1 k x87 x88 (wrap64 (x89 + 1)) a b l2 l3) (fun k => ?_) hn
    simp only [formula_Valid.l2]
    rw [if_neg (by omega)]
  | succ n ih =>
    intro i hi
    refine Tot.step (f := fun k => if rd u (i : Int) = 0 then some 1 else if rd u (i : Int) > b then some 1 else if rd u (i : Int) < wrap64 (-b) then some 1 else formula_Valid.l2 k x87 x88 x89 u (u.length : Int) ((i + 1 : Nat) : Int) a b l2 l3) (fun k => ?_) ?_
    · simp only [formula_Valid.l2]
      rw [if_pos (by omega), if_pos (by omega), if_pos (by omega), wrap_succ (show i < u.length by omega) hu]
    · exact Tot.ite (fun _ => Tot.now _) fun _ => Tot.ite (fun _ => Tot.now _) fun _ => Tot.ite (fun _ => Tot.now _) fun _ => ih (i + 1) (by omega)
theorem l1_tot (hl : l3.length < 4611686018427387904) (hu : ∀ u ∈ l3, u.length < 4611686018427387904) : ∀ (n i : Nat), i + n = l3.length → Tot (fun k => formula_Valid.l1 k l3 (l3.length : Int) (i : Int) a b l2 l3) := by
  intro n
  induction n with
  | zero =>
    intro i hi
    refine Tot.step (f := fun _ => some 0) (fun k => ?_) (Tot.now _)
    simp only [formula_Valid.l1]
    rw [if_neg (by omega)]
  | succ n ih =>
    intro i hi
    refine Tot.step (f := fun k => formula_Valid.l2 k l3 (l3.length : Int) (i : Int) (rd_L2 l3 (i : Int)) ((rd_L2 l3 (i : Int)).length : Int) ((0 : Nat) : Int) a b l2 l3) (fun k => ?_) ?_
    · simp only [formula_Valid.l1]
      rw [if_pos (by omega), if_pos (by omega), if_pos (by omega)]
      rfl
    · refine l2_tot a b l2 l3 l3 _ _ _ (hu _ ?_) ?_ (rd_L2 l3 (i : Int)).length 0 (Nat.zero_add _)
      · unfold rd_L2
        rw [Int.toNat_natCast, List.getD_eq_getElem?_getD, List.getElem?_eq_getElem (by omega)]
        exact List.getElem_mem _
      · rw [wrap_succ (show i < l3.length by omega) hl]
        exact ih (i + 1) (by omega)
theorem l0_tot (h2 : l2.length < 4611686018427387904) (hl : l3.length < 4611686018427387904) (hu : ∀ u ∈ l3, u.length < 4611686018427387904) : ∀ (n i : Nat), i + n = l2.length → Tot (fun k => formula_Valid.l0 k l2 (l2.length : Int) (i : Int) a b l2 l3) := by
  intro n
  induction n with
  | zero =>
    intro i hi
    refine Tot.step (f := fun k => formula_Valid.l1 k l3 (l3.length : Int) ((0 : Nat) : Int) a b l2 l3) (fun k => ?_) (l1_tot a b l2 l3 hl hu l3.length 0 (Nat.zero_add _))
    simp only [formula_Valid.l0]
    rw [if_neg (by omega)]
    rfl
  | succ n ih =>
    intro i hi
    have h := ih (i + 1) (by omega)
    refine Tot.step (f := fun k => if (rd_T36 l2 (i : Int)).f0 < 0 then some 1 else if (rd_T36 l2 (i : Int)).f0 ≥ a then some 1 else if (rd_T36 l2 (i : Int)).f1 < 0 then some 1 else if (rd_T36 l2 (i : Int)).f1 ≥ a then some 1 else if (rd_T36 l2 (i : Int)).f0 = (rd_T36 l2 (i : Int)).f1 then some 1 else if (rd_T36 l2 (i : Int)).f2 < (-1048576) then some 1 else if (rd_T36 l2 (i : Int)).f2 > 1048576 then some 1 else formula_Valid.l0 k l2 (l2.length : Int) ((i + 1 : Nat) : Int) a b l2 l3) (fun k => ?_) ?_
    · simp only [formula_Valid.l0]
      rw [if_pos (by omega), if_pos (by omega), if_pos (by omega), wrap_succ (show i < l2.length by omega) h2]
    · exact Tot.ite (fun _ => Tot.now _) fun _ => Tot.ite (fun _ => Tot.now _) fun _ => Tot.ite (fun _ => Tot.now _) fun _ => Tot.ite (fun _ => Tot.now _) fun _ => Tot.ite (fun _ => Tot.now _) fun _ => Tot.ite (fun _ => Tot.now _) fun _ => Tot.ite (fun _ => Tot.now _) fun _ => h
theorem j1_tot (h2 : l2.length < 4611686018427387904) (hl : l3.length < 4611686018427387904) (hu : ∀ u ∈ l3, u.length < 4611686018427387904) (x : Bool) : Tot (fun k => formula_Valid.j1 k x a b l2 l3) := by
  refine Tot.step (f := fun k => if x = true then some 1 else formula_Valid.l0 k l2 (l2.length : Int) ((0 : Nat) : Int) a b l2 l3) (fun k => ?_) (Tot.ite (fun _ => Tot.now _) fun _ => l0_tot a b l2 l3 h2 hl hu l2.length 0 (Nat.zero_add _))
  simp only [formula_Valid.j1]
  rfl
theorem j0_tot (h2 : l2.length < 4611686018427387904) (hl : l3.length < 4611686018427387904) (hu : ∀ u ∈ l3, u.length < 4611686018427387904) (x : Bool) : Tot (fun k => formula_Valid.j0 k x a b l2 l3) := by
  have h := j1_tot a b l2 l3 h2 hl hu
  refine Tot.step (f := fun k => if x = true then some 2 else if a < 0 then formula_Valid.j1 k true a b l2 l3 else if b < 0 then formula_Valid.j1 k true a b l2 l3 else formula_Valid.j1 k (decide ((l2.length : Int) > b)) a b l2 l3) (fun k => ?_) ?_
  · simp only [formula_Valid.j0]
  · exact Tot.ite (fun _ => Tot.now _) fun _ => Tot.ite (fun _ => h _) fun _ => Tot.ite (fun _ => h _) fun _ => h _
theorem valid_tot (h2 : l2.length < 4611686018427387904) (hl : l3.length < 4611686018427387904) (hu : ∀ u ∈ l3, u.length < 4611686018427387904) : ∃ r, Ev (fun k => formula_Valid.f k a b l2 l3) r ∧ Ev (fun k => interleaveref31_Valid.f k a b l2 l3) r := by
  have h := j0_tot a b l2 l3 h2 hl hu
  have ht : Tot (fun k => formula_Valid.f k a b l2 l3) := by
    unfold formula_Valid.f
    exact Tot.ite (fun _ => h _) fun _ => Tot.ite (fun _ => h _) fun _ => h _
  obtain ⟨r, hr⟩ := ht
  exact ⟨r, hr, Ev.congr (fun k => (valid_eq a b l2 l3 k).symm) hr⟩
end
end Go.Proofs.YtpaoepcebcjfhaaDoor.X
