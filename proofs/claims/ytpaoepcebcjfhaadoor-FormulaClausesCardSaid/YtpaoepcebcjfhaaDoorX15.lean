-- Written by this session's own program (wip/tools/xprint.py).
import Derived.Test.YtpaoepcebcjfhaaDoorX0
import Derived.Test.YtpaoepcebcjfhaaDoorX4
import Derived.Test.YtpaoepcebcjfhaaDoorX10
import Derived.Test.YtpaoepcebcjfhaaDoorX12
namespace Go.Proofs.YtpaoepcebcjfhaaDoor.X
open Go.RowKit Go.Proofs.YtpaoepcebcjfhaaDoorW.PrintWords Go.Proofs.YtpaoepcebcjfhaaDoorW.PrintLast Go.Proofs.YtpaoepcebcjfhaaDoorW.PrintMore
attribute [local go_sem] max2_int min2_int max_two min_two max_three min_three max_four min_four   -- for this text's walks alone
set_option linter.unusedVariables false
set_option linter.unusedSimpArgs false

/-! ### interleavelaw31_FormulaClauses: function 11 -/
def interleavelaw31_FormulaClauses.f (k : Nat) (a0 : Bool) : Option (Bool) := if a0 = true then (if (0 : Int) ≤ (32768 + 1) then (if (32768 + 1 : Int).toNat ≤ 11728124029610 then ((formula_Valid.f k 0 0 ([] : List (S36)) (List.replicate (32768 + 1 : Int).toNat [])).bind fun t346 => (if t346 = 2 then ((interleavelaw31_awake.f k).bind fun t347 => (some t347)) else (some false))) else (none)) else (none)) else (if 32768 ≤ 11728124029610 then ((formula_Valid.f k 0 0 ([] : List (S36)) (List.replicate 32768 [])).bind fun t351 => (if t351 = 0 then ((interleavelaw31_awake.f k).bind fun t352 => (some t352)) else (some false))) else (none))
theorem interleavelaw31_FormulaClauses.mono : ∀ a0 k, LeO (interleavelaw31_FormulaClauses.f k a0) (interleavelaw31_FormulaClauses.f (k + 1) a0) := by
  intro a0 k
  unfold interleavelaw31_FormulaClauses.f
  repeat' first
      | (with_reducible exact formula_Valid.mono _ _ _ _ _)
      | (with_reducible exact interleavelaw31_awake.mono _)
      | (with_reducible exact LeO.refl _)
      | (with_reducible exact LeO.none _)
      | (with_reducible refine LeO.ite ?_ ?_)
      | (with_reducible refine LeO.bind ?_ (fun _ => ?_))
      | exact formula_Valid.mono _ _ _ _ _
      | exact interleavelaw31_awake.mono _
      | exact LeO.none _
      | refine LeO.ite ?_ ?_
      | refine LeO.bind ?_ (fun _ => ?_)
set_option maxHeartbeats 8000000 in
set_option maxRecDepth 100000 in
theorem interleavelaw31_FormulaClauses.calls (k : Nat) (a0 : Bool) (r : Bool) (w : World) (hG : GW w) (h : interleavelaw31_FormulaClauses.f k a0 = some r) :
    Calls Tryd.prog 11 #[.bool a0] w fun e w' => e = .returned (.bool r) ∧ Below w.heap.size w w' := by
  have hu31 := Tryd.underlying31
  have HG := Aside0.mk hG
  clear hG
  have HB := Aside0.mk (Below.refl w.heap.size w)
  have H : (if a0 = true then (if (0 : Int) ≤ (32768 + 1) then (if (32768 + 1 : Int).toNat ≤ 11728124029610 then ((formula_Valid.f k 0 0 ([] : List (S36)) (List.replicate (32768 + 1 : Int).toNat [])).bind fun t346 => (if t346 = 2 then ((interleavelaw31_awake.f k).bind fun t347 => (some t347)) else (some false))) else (none)) else (none)) else (if 32768 ≤ 11728124029610 then ((formula_Valid.f k 0 0 ([] : List (S36)) (List.replicate 32768 [])).bind fun t351 => (if t351 = 0 then ((interleavelaw31_awake.f k).bind fun t352 => (some t352)) else (some false))) else (none))) = some r := h
  clear h
  by_cases c2 : a0 = true
  · subst c2
    have H1 : (if (0 : Int) ≤ (32768 + 1) then (if (32768 + 1 : Int).toNat ≤ 11728124029610 then ((formula_Valid.f k 0 0 ([] : List (S36)) (List.replicate (32768 + 1 : Int).toNat [])).bind fun t346 => (if t346 = 2 then ((interleavelaw31_awake.f k).bind fun t347 => (some t347)) else (some false))) else (none)) else (none)) = some r := by rw [if_pos rfl] at H; exact H
    clear H
    have H := H1
    clear H1
    obtain ⟨ji3, hji3⟩ : ∃ j_ : Int, (32768 + 1) = j_ := ⟨_, rfl⟩
    replace H : (if 0 ≤ (ji3) then (if (ji3 : Int).toNat ≤ 11728124029610 then ((formula_Valid.f k 0 0 ([] : List (S36)) (List.replicate (ji3 : Int).toNat [])).bind fun t346 => (if t346 = 2 then ((interleavelaw31_awake.f k).bind fun t347 => (some t347)) else (some false))) else (none)) else (none)) = some r := by first | (rw [hji3] at H; exact H) | (simp only [hji3] at H ⊢; exact H)
    by_cases c4 : 0 ≤ (ji3)
    · rw [if_pos c4] at H
      have c4b0 := eq_true c4
      have c4b1 : decide (0 ≤ (ji3)) = true := decide_eq_true c4
      clear c4
      by_cases c5 : (ji3 : Int).toNat ≤ 11728124029610
      · rw [if_pos c5] at H
        have c5b0 := eq_true c5
        have c5b1 : decide ((ji3 : Int).toNat ≤ 11728124029610) = true := decide_eq_true c5
        clear c5
        obtain ⟨y343, hy343⟩ : ∃ y_ : List (List Int), y_ = (List.replicate (ji3 : Int).toNat []) := ⟨_, rfl⟩
        replace H : ((formula_Valid.f k 0 0 ([] : List (S36)) y343).bind fun t346 => (if t346 = 2 then ((interleavelaw31_awake.f k).bind fun t347 => (some t347)) else (some false))) = some r := by first | (rw [hy343]; with_reducible exact H) | (have H2_ := (Option.bind_some _ _).symm.trans H; rw [hy343]; with_reducible exact H2_) | (have H2_ := (Option.bind_some _ _).symm.trans H; with_reducible exact H2_) | with_reducible exact H | (rw [hy343]; exact H) | exact H
        have Ny343 := Aside0.mk hy343
        clear hy343
        replace H := Option.bind_eq_some_iff.mp H
        obtain ⟨t346, A60, H⟩ := H
        replace H : (if t346 = 2 then ((interleavelaw31_awake.f k).bind fun t347 => (some t347)) else (some false)) = some r := H
        have A6 := Aside0.mk A60
        clear A60
        by_cases c7 : t346 = 2
        · rw [if_pos c7] at H
          have c7b0 : (t346 == 2) = true := beq_iff_eq.mpr c7
          have c7b1 : (t346 != 2) = false := bne_eq_false_iff_eq.mpr c7
          clear c7
          replace H := Option.bind_eq_some_iff.mp H
          obtain ⟨t347, A80, H⟩ := H
          replace H : (some t347) = some r := H
          have A8 := Aside0.mk A80
          clear A80
          obtain rfl := Option.some.inj H
          go_enter Tryd.func11, Tryd.ntmps11
          go_wp2_with (first | ((with_reducible refine gate_dst (N := 9) rfl ?_); refine Kd.S_make (Kd.slice 3 (Kd.int .i64)) _ 22 rfl (N := 9) rfl 29 _ _ rfl ji3 rfl rfl Tryd.underlying29 (.slice none 0 0) 24 info22 rfl (by decide) (by omega) [] (ok := fun _ => True) (okp := fun _ => True) ⟨_, rfl, Kd.R_nil _ _ _ _ _⟩ (fun _ hk => hk) trivial (of_decide_eq_true (by first | (with_reducible assumption) | assumption)) (Nat.le_trans (Nat.mul_le_mul_right _ (of_decide_eq_true (by first | (with_reducible assumption) | assumption) : ji3.toNat ≤ 11728124029610)) (by omega)) (Below.refl _ _) (Nat.le_refl _) ?_; intro v344 w9 ho10 hb hg_ hnew_; clear hg_ hnew_; (first | rw [← Ny343.out] at ho10 | (simp only [Int.reduceToNat] at ho10; rw [← Ny343.out] at ho10)); have n0_ := Aside0.mk (Kd.S_lower ho10 (below_size (by repeat (first | (with_reducible first | exact HB.out | apply below_alloc | apply pw_below_drewN | apply below_drew1) | exact HB.out)))); have n1_ := Aside0.mk (below_step (by repeat (first | (with_reducible first | exact HB.out | apply below_alloc | apply pw_below_drewN | apply below_drew1) | exact HB.out)) hb); clear HB; have HO345 := n0_; have HB := n1_; clear n0_ n1_; clear hb ho10; obtain ⟨Ao11, co11, eo11⟩ := Kd.S_slice HO345.out; subst eo11) | ((with_reducible refine gate_callee (f := 27) rfl ?_); refine goesL_ (some 11) rfl rfl Tryd.func27 (by kernel_rfl) rfl #[.agg #[.int .i64 0, .int .i64 0, .slice none 0 0, .slice Ao11 y343.length co11]] rfl (by (try simp only [List.map_toArray, List.map_cons, List.map_nil]); first | done | rfl | (simp only [List.length_drop, List.length_take]; rfl)) ?_; (refine (formula_Valid.calls k 0 0 _ _ ([] : List (S36)) _ _ y343 t346 _ ?side1 ?side2 ?side3 ?side4 A6.out).mono ?_); (case side1 => exact Kd.C_nil _ _); (case side2 => exact Nat.le_refl _); (case side3 => repeat (first | exact (Kd.S_reads' HO345.out).2.2 | (with_reducible refine Kd.C_alloc ?_ _) | (with_reducible refine Kd.C_drewN ?_ _) | (with_reducible refine Kd.C_drew ?_))); (case side4 => exact (Kd.S_reads' HO345.out).2.1); rintro e w12 ⟨rfl, hb⟩; refine ⟨_, rfl, ?_⟩; have n0_ := Aside0.mk (Kd.S_below (by (with_reducible repeat (first | apply Kd.S_alloc | apply Kd.S_drewN | apply Kd.S_drew)); exact HO345.out) hb); have n1_ := Aside0.mk (below_step (by repeat (first | (with_reducible first | exact HB.out | apply below_alloc | apply pw_below_drewN | apply below_drew1) | exact HB.out)) hb); clear HO345; clear HB; have HO345 := n0_; have HB := n1_; clear n0_ n1_; (try clear hb); (try clear hb2); (try clear hk); (try clear hi)) | (go_at_call 14; (with_reducible refine (interleavelaw31_awake.calls k  t347 _ ?side1 A8.out).mono ?_); (case side1 => exact GW.below HG.out (by repeat (first | (with_reducible first | exact HB.out | apply below_alloc | apply pw_below_drewN | apply below_drew1) | exact HB.out))); rintro e w13 ⟨rfl, hb⟩; have n0_ := Aside0.mk (Kd.S_below (by (with_reducible repeat (first | apply Kd.S_alloc | apply Kd.S_drewN | apply Kd.S_drew)); exact HO345.out) hb); have n1_ := Aside0.mk (below_step (by repeat (first | (with_reducible first | exact HB.out | apply below_alloc | apply pw_below_drewN | apply below_drew1) | exact HB.out)) hb); clear HO345; clear HB; have HO345 := n0_; have HB := n1_; clear n0_ n1_; (try clear hb); (try clear hb2); (try clear hk); (try clear hi)))
          go_ret
          exact ⟨by first | rfl | (simp [errW_none, errW_some] <;> rfl) | (simp only [← hji3]; first | rfl | (simp [errW_none, errW_some] <;> rfl)) | (simp [*, errW_none, errW_some] <;> rfl), by repeat (first | (with_reducible first | exact HB.out | apply below_alloc | apply pw_below_drewN | apply below_drew1) | exact HB.out)⟩
        · rw [if_neg c7] at H
          have c7b0 : (t346 == 2) = false := beq_eq_false_iff_ne.mpr c7
          have c7b1 : (t346 != 2) = true := bne_iff_ne.mpr c7
          obtain rfl := Option.some.inj H
          go_enter Tryd.func11, Tryd.ntmps11
          go_wp2_with (first | ((with_reducible refine gate_dst (N := 9) rfl ?_); refine Kd.S_make (Kd.slice 3 (Kd.int .i64)) _ 22 rfl (N := 9) rfl 29 _ _ rfl ji3 rfl rfl Tryd.underlying29 (.slice none 0 0) 24 info22 rfl (by decide) (by omega) [] (ok := fun _ => True) (okp := fun _ => True) ⟨_, rfl, Kd.R_nil _ _ _ _ _⟩ (fun _ hk => hk) trivial (of_decide_eq_true (by first | (with_reducible assumption) | assumption)) (Nat.le_trans (Nat.mul_le_mul_right _ (of_decide_eq_true (by first | (with_reducible assumption) | assumption) : ji3.toNat ≤ 11728124029610)) (by omega)) (Below.refl _ _) (Nat.le_refl _) ?_; intro v344 w14 ho15 hb hg_ hnew_; clear hg_ hnew_; (first | rw [← Ny343.out] at ho15 | (simp only [Int.reduceToNat] at ho15; rw [← Ny343.out] at ho15)); have n0_ := Aside0.mk (Kd.S_lower ho15 (below_size (by repeat (first | (with_reducible first | exact HB.out | apply below_alloc | apply pw_below_drewN | apply below_drew1) | exact HB.out)))); have n1_ := Aside0.mk (below_step (by repeat (first | (with_reducible first | exact HB.out | apply below_alloc | apply pw_below_drewN | apply below_drew1) | exact HB.out)) hb); clear HB; have HO345 := n0_; have HB := n1_; clear n0_ n1_; clear hb ho15; obtain ⟨Ao16, co16, eo16⟩ := Kd.S_slice HO345.out; subst eo16) | ((with_reducible refine gate_callee (f := 27) rfl ?_); refine goesL_ (some 11) rfl rfl Tryd.func27 (by kernel_rfl) rfl #[.agg #[.int .i64 0, .int .i64 0, .slice none 0 0, .slice Ao16 y343.length co16]] rfl (by (try simp only [List.map_toArray, List.map_cons, List.map_nil]); first | done | rfl | (simp only [List.length_drop, List.length_take]; rfl)) ?_; (refine (formula_Valid.calls k 0 0 _ _ ([] : List (S36)) _ _ y343 t346 _ ?side1 ?side2 ?side3 ?side4 A6.out).mono ?_); (case side1 => exact Kd.C_nil _ _); (case side2 => exact Nat.le_refl _); (case side3 => repeat (first | exact (Kd.S_reads' HO345.out).2.2 | (with_reducible refine Kd.C_alloc ?_ _) | (with_reducible refine Kd.C_drewN ?_ _) | (with_reducible refine Kd.C_drew ?_))); (case side4 => exact (Kd.S_reads' HO345.out).2.1); rintro e w17 ⟨rfl, hb⟩; refine ⟨_, rfl, ?_⟩; have n0_ := Aside0.mk (Kd.S_below (by (with_reducible repeat (first | apply Kd.S_alloc | apply Kd.S_drewN | apply Kd.S_drew)); exact HO345.out) hb); have n1_ := Aside0.mk (below_step (by repeat (first | (with_reducible first | exact HB.out | apply below_alloc | apply pw_below_drewN | apply below_drew1) | exact HB.out)) hb); clear HO345; clear HB; have HO345 := n0_; have HB := n1_; clear n0_ n1_; (try clear hb); (try clear hb2); (try clear hk); (try clear hi)))
          go_ret
          exact ⟨by first | rfl | (simp [errW_none, errW_some] <;> rfl) | (simp only [← hji3]; first | rfl | (simp [errW_none, errW_some] <;> rfl)) | (simp [*, errW_none, errW_some] <;> rfl), by repeat (first | (with_reducible first | exact HB.out | apply below_alloc | apply pw_below_drewN | apply below_drew1) | exact HB.out)⟩
      · rw [if_neg c5] at H
        exact absurd H (by simp)
    · rw [if_neg c4] at H
      exact absurd H (by simp)
  · replace c2 := Bool.eq_false_iff.mpr c2
    subst c2
    have H1 : (if 32768 ≤ 11728124029610 then ((formula_Valid.f k 0 0 ([] : List (S36)) (List.replicate 32768 [])).bind fun t351 => (if t351 = 0 then ((interleavelaw31_awake.f k).bind fun t352 => (some t352)) else (some false))) else (none)) = some r := by rw [if_neg (show ¬ (false = true) by decide)] at H; exact H
    clear H
    have H := H1
    clear H1
    by_cases c18 : 32768 ≤ 11728124029610
    · rw [if_pos c18] at H
      have c18b0 := eq_true c18
      have c18b1 : decide (32768 ≤ 11728124029610) = true := decide_eq_true c18
      clear c18
      obtain ⟨y348, hy348⟩ : ∃ y_ : List (List Int), y_ = (List.replicate 32768 []) := ⟨_, rfl⟩
      replace H : ((formula_Valid.f k 0 0 ([] : List (S36)) y348).bind fun t351 => (if t351 = 0 then ((interleavelaw31_awake.f k).bind fun t352 => (some t352)) else (some false))) = some r := by first | (rw [hy348]; with_reducible exact H) | (have H2_ := (Option.bind_some _ _).symm.trans H; rw [hy348]; with_reducible exact H2_) | (have H2_ := (Option.bind_some _ _).symm.trans H; with_reducible exact H2_) | with_reducible exact H | (rw [hy348]; exact H) | exact H
      have Ny348 := Aside0.mk hy348
      clear hy348
      replace H := Option.bind_eq_some_iff.mp H
      obtain ⟨t351, A190, H⟩ := H
      replace H : (if t351 = 0 then ((interleavelaw31_awake.f k).bind fun t352 => (some t352)) else (some false)) = some r := H
      have A19 := Aside0.mk A190
      clear A190
      by_cases c20 : t351 = 0
      · rw [if_pos c20] at H
        have c20b0 : (t351 == 0) = true := beq_iff_eq.mpr c20
        have c20b1 : (t351 != 0) = false := bne_eq_false_iff_eq.mpr c20
        clear c20
        replace H := Option.bind_eq_some_iff.mp H
        obtain ⟨t352, A210, H⟩ := H
        replace H : (some t352) = some r := H
        have A21 := Aside0.mk A210
        clear A210
        obtain rfl := Option.some.inj H
        go_enter Tryd.func11, Tryd.ntmps11
        go_wp2_with (first | ((with_reducible refine gate_dst (N := 9) rfl ?_); refine Kd.S_make (Kd.slice 3 (Kd.int .i64)) _ 22 rfl (N := 9) rfl 29 _ _ rfl 32768 rfl rfl Tryd.underlying29 (.slice none 0 0) 24 info22 rfl (by decide) (by omega) [] (ok := fun _ => True) (okp := fun _ => True) ⟨_, rfl, Kd.R_nil _ _ _ _ _⟩ (fun _ hk => hk) trivial (by omega) (by omega) (Below.refl _ _) (Nat.le_refl _) ?_; intro v349 w22 ho23 hb hg_ hnew_; clear hg_ hnew_; (first | rw [← Ny348.out] at ho23 | (simp only [Int.reduceToNat] at ho23; rw [← Ny348.out] at ho23)); have n0_ := Aside0.mk (Kd.S_lower ho23 (below_size (by repeat (first | (with_reducible first | exact HB.out | apply below_alloc | apply pw_below_drewN | apply below_drew1) | exact HB.out)))); have n1_ := Aside0.mk (below_step (by repeat (first | (with_reducible first | exact HB.out | apply below_alloc | apply pw_below_drewN | apply below_drew1) | exact HB.out)) hb); clear HB; have HO350 := n0_; have HB := n1_; clear n0_ n1_; clear hb ho23; obtain ⟨Ao24, co24, eo24⟩ := Kd.S_slice HO350.out; subst eo24) | ((with_reducible refine gate_callee (f := 27) rfl ?_); refine goesL_ (some 11) rfl rfl Tryd.func27 (by kernel_rfl) rfl #[.agg #[.int .i64 0, .int .i64 0, .slice none 0 0, .slice Ao24 y348.length co24]] rfl (by (try simp only [List.map_toArray, List.map_cons, List.map_nil]); first | done | rfl | (simp only [List.length_drop, List.length_take]; rfl)) ?_; (refine (formula_Valid.calls k 0 0 _ _ ([] : List (S36)) _ _ y348 t351 _ ?side1 ?side2 ?side3 ?side4 A19.out).mono ?_); (case side1 => exact Kd.C_nil _ _); (case side2 => exact Nat.le_refl _); (case side3 => repeat (first | exact (Kd.S_reads' HO350.out).2.2 | (with_reducible refine Kd.C_alloc ?_ _) | (with_reducible refine Kd.C_drewN ?_ _) | (with_reducible refine Kd.C_drew ?_))); (case side4 => exact (Kd.S_reads' HO350.out).2.1); rintro e w25 ⟨rfl, hb⟩; refine ⟨_, rfl, ?_⟩; have n0_ := Aside0.mk (Kd.S_below (by (with_reducible repeat (first | apply Kd.S_alloc | apply Kd.S_drewN | apply Kd.S_drew)); exact HO350.out) hb); have n1_ := Aside0.mk (below_step (by repeat (first | (with_reducible first | exact HB.out | apply below_alloc | apply pw_below_drewN | apply below_drew1) | exact HB.out)) hb); clear HO350; clear HB; have HO350 := n0_; have HB := n1_; clear n0_ n1_; (try clear hb); (try clear hb2); (try clear hk); (try clear hi)) | (go_at_call 14; (with_reducible refine (interleavelaw31_awake.calls k  t352 _ ?side1 A21.out).mono ?_); (case side1 => exact GW.below HG.out (by repeat (first | (with_reducible first | exact HB.out | apply below_alloc | apply pw_below_drewN | apply below_drew1) | exact HB.out))); rintro e w26 ⟨rfl, hb⟩; have n0_ := Aside0.mk (Kd.S_below (by (with_reducible repeat (first | apply Kd.S_alloc | apply Kd.S_drewN | apply Kd.S_drew)); exact HO350.out) hb); have n1_ := Aside0.mk (below_step (by repeat (first | (with_reducible first | exact HB.out | apply below_alloc | apply pw_below_drewN | apply below_drew1) | exact HB.out)) hb); clear HO350; clear HB; have HO350 := n0_; have HB := n1_; clear n0_ n1_; (try clear hb); (try clear hb2); (try clear hk); (try clear hi)))
        go_ret
        exact ⟨by first | rfl | (simp [errW_none, errW_some] <;> rfl) | (simp [*, errW_none, errW_some] <;> rfl), by repeat (first | (with_reducible first | exact HB.out | apply below_alloc | apply pw_below_drewN | apply below_drew1) | exact HB.out)⟩
      · rw [if_neg c20] at H
        have c20b0 : (t351 == 0) = false := beq_eq_false_iff_ne.mpr c20
        have c20b1 : (t351 != 0) = true := bne_iff_ne.mpr c20
        obtain rfl := Option.some.inj H
        go_enter Tryd.func11, Tryd.ntmps11
        go_wp2_with (first | ((with_reducible refine gate_dst (N := 9) rfl ?_); refine Kd.S_make (Kd.slice 3 (Kd.int .i64)) _ 22 rfl (N := 9) rfl 29 _ _ rfl 32768 rfl rfl Tryd.underlying29 (.slice none 0 0) 24 info22 rfl (by decide) (by omega) [] (ok := fun _ => True) (okp := fun _ => True) ⟨_, rfl, Kd.R_nil _ _ _ _ _⟩ (fun _ hk => hk) trivial (by omega) (by omega) (Below.refl _ _) (Nat.le_refl _) ?_; intro v349 w27 ho28 hb hg_ hnew_; clear hg_ hnew_; (first | rw [← Ny348.out] at ho28 | (simp only [Int.reduceToNat] at ho28; rw [← Ny348.out] at ho28)); have n0_ := Aside0.mk (Kd.S_lower ho28 (below_size (by repeat (first | (with_reducible first | exact HB.out | apply below_alloc | apply pw_below_drewN | apply below_drew1) | exact HB.out)))); have n1_ := Aside0.mk (below_step (by repeat (first | (with_reducible first | exact HB.out | apply below_alloc | apply pw_below_drewN | apply below_drew1) | exact HB.out)) hb); clear HB; have HO350 := n0_; have HB := n1_; clear n0_ n1_; clear hb ho28; obtain ⟨Ao29, co29, eo29⟩ := Kd.S_slice HO350.out; subst eo29) | ((with_reducible refine gate_callee (f := 27) rfl ?_); refine goesL_ (some 11) rfl rfl Tryd.func27 (by kernel_rfl) rfl #[.agg #[.int .i64 0, .int .i64 0, .slice none 0 0, .slice Ao29 y348.length co29]] rfl (by (try simp only [List.map_toArray, List.map_cons, List.map_nil]); first | done | rfl | (simp only [List.length_drop, List.length_take]; rfl)) ?_; (refine (formula_Valid.calls k 0 0 _ _ ([] : List (S36)) _ _ y348 t351 _ ?side1 ?side2 ?side3 ?side4 A19.out).mono ?_); (case side1 => exact Kd.C_nil _ _); (case side2 => exact Nat.le_refl _); (case side3 => repeat (first | exact (Kd.S_reads' HO350.out).2.2 | (with_reducible refine Kd.C_alloc ?_ _) | (with_reducible refine Kd.C_drewN ?_ _) | (with_reducible refine Kd.C_drew ?_))); (case side4 => exact (Kd.S_reads' HO350.out).2.1); rintro e w30 ⟨rfl, hb⟩; refine ⟨_, rfl, ?_⟩; have n0_ := Aside0.mk (Kd.S_below (by (with_reducible repeat (first | apply Kd.S_alloc | apply Kd.S_drewN | apply Kd.S_drew)); exact HO350.out) hb); have n1_ := Aside0.mk (below_step (by repeat (first | (with_reducible first | exact HB.out | apply below_alloc | apply pw_below_drewN | apply below_drew1) | exact HB.out)) hb); clear HO350; clear HB; have HO350 := n0_; have HB := n1_; clear n0_ n1_; (try clear hb); (try clear hb2); (try clear hk); (try clear hi)))
        go_ret
        exact ⟨by first | rfl | (simp [errW_none, errW_some] <;> rfl) | (simp [*, errW_none, errW_some] <;> rfl), by repeat (first | (with_reducible first | exact HB.out | apply below_alloc | apply pw_below_drewN | apply below_drew1) | exact HB.out)⟩
    · rw [if_neg c18] at H
      exact absurd H (by simp)

/-- THE ONE PURE STATEMENT of interleavelaw31_FormulaClauses: yours. -/
def interleavelaw31_FormulaClauses.Pure : Prop := ∀ (a0 : Bool), ∃ k, interleavelaw31_FormulaClauses.f k a0 = some true
theorem interleavelaw31_FormulaClauses.walk (P : interleavelaw31_FormulaClauses.Pure) (a0 : Bool) (w : World) (hG : GW w)  :
    Calls Tryd.prog 11 #[.bool a0] w fun e w' => e = .returned (.bool true) ∧ Below w.heap.size w w' := by
  obtain ⟨k, h⟩ := P a0 
  refine (interleavelaw31_FormulaClauses.calls k a0 true w hG h).mono ?_
  rintro e w' ⟨rfl, hd⟩
  exact ⟨rfl, hd⟩

-- NOT PRINTED: function 49 (slices_IndexFunc_int_int)

-- NOT PRINTED: function 40 (slices_ContainsFunc_int_int)

-- NOT PRINTED: function 28 (formula_Satisfies)

/-! ### interleaveref31_Any: function 42 -/
def interleaveref31_Any.l0 : Nat → List Int → Int → Int → List Bool → List Int → Option (Bool)
  | 0, _, _, _, _, _ => none
  | k + 1, x7, x8, x9, x356000, x356001 => if x9 < x8 then (if 0 ≤ x9 then (if x9 < (x7.length : Int) then ((interleaveref31_Holds.f k (rd x7 x9) x356000 x356001).bind fun t357 => (if t357 = true then (some true) else (interleaveref31_Any.l0 k x7 x8 (wrap64 (x9 + 1)) x356000 x356001))) else (none)) else (none)) else (some false)
def interleaveref31_Any.f (k : Nat) (l0 : List Int) (l1_0 : List Bool) (l1_1 : List Int) : Option (Bool) := interleaveref31_Any.l0 k l0 (l0.length : Int) 0 l1_0 l1_1
theorem interleaveref31_Any.mono_l : ∀ k, (∀ y0 y1 y2 y3 y4, LeO (interleaveref31_Any.l0 k y0 y1 y2 y3 y4) (interleaveref31_Any.l0 (k + 1) y0 y1 y2 y3 y4))
  | 0 => fun _ _ _ _ _ r h => by simp [interleaveref31_Any.l0] at h
  | k + 1 => by
    have ih0 := interleaveref31_Any.mono_l k
    · intro y0 y1 y2 y3 y4
      unfold interleaveref31_Any.l0
      repeat' first
      | (with_reducible exact ih0 _ _ _ _ _)
      | (with_reducible exact interleaveref31_Holds.mono _ _ _ _)
      | (with_reducible exact LeO.refl _)
      | (with_reducible exact LeO.none _)
      | (with_reducible refine LeO.ite ?_ ?_)
      | (with_reducible refine LeO.bind ?_ (fun _ => ?_))
      | exact ih0 _ _ _ _ _
      | exact interleaveref31_Holds.mono _ _ _ _
      | exact LeO.none _
      | refine LeO.ite ?_ ?_
      | refine LeO.bind ?_ (fun _ => ?_)
theorem interleaveref31_Any.mono : ∀ a0 a1 a2 k, LeO (interleaveref31_Any.f k a0 a1 a2) (interleaveref31_Any.f (k + 1) a0 a1 a2) := by
  intro a0 a1 a2 k
  have ih0 := interleaveref31_Any.mono_l k
  unfold interleaveref31_Any.f
  repeat' first
      | (with_reducible exact ih0 _ _ _ _ _)
      | (with_reducible exact interleaveref31_Holds.mono _ _ _ _)
      | (with_reducible exact LeO.refl _)
      | (with_reducible exact LeO.none _)
      | (with_reducible refine LeO.ite ?_ ?_)
      | (with_reducible refine LeO.bind ?_ (fun _ => ?_))
      | exact ih0 _ _ _ _ _
      | exact interleaveref31_Holds.mono _ _ _ _
      | exact LeO.none _
      | refine LeO.ite ?_ ?_
      | refine LeO.bind ?_ (fun _ => ?_)
set_option maxHeartbeats 8000000 in
set_option maxRecDepth 100000 in
theorem interleaveref31_Any.calls (k : Nat) (A0 : Option Addr) (c0 : Nat) (l0 : List Int) (A1_0 : Option Addr) (c1_0 : Nat) (l1_0 : List Bool) (A1_1 : Option Addr) (c1_1 : Nat) (l1_1 : List Int) (r : Bool) (w : World) (hr0 : Kd.C (Kd.int .i64) w A0 l0.length l0) (hc0 : l0.length ≤ c0) (hr1_0 : Kd.C Kd.bool w A1_0 l1_0.length l1_0) (hc1_0 : l1_0.length ≤ c1_0) (hr1_1 : Kd.C (Kd.int .i64) w A1_1 l1_1.length l1_1) (hc1_1 : l1_1.length ≤ c1_1) (h : interleaveref31_Any.f k l0 l1_0 l1_1 = some r) :
    Calls Tryd.prog 42 #[.slice A0 l0.length c0, .agg #[.slice A1_0 l1_0.length c1_0, .slice A1_1 l1_1.length c1_1]] w fun e w' => e = .returned (.bool r) ∧ Below w.heap.size w w' := by
  have hu44 := Tryd.underlying44
  have HR0 := Aside0.mk hr0
  have HC0 := Aside0.mk hc0
  clear hr0 hc0
  have HR1_0 := Aside0.mk hr1_0
  have HC1_0 := Aside0.mk hc1_0
  clear hr1_0 hc1_0
  have HR1_1 := Aside0.mk hr1_1
  have HC1_1 := Aside0.mk hc1_1
  clear hr1_1 hc1_1
  have HB := Aside0.mk (Below.refl w.heap.size w)
  have H : (interleaveref31_Any.l0 k l0 (l0.length : Int) 0 l1_0 l1_1) = some r := h
  clear h
  have H' := Aside0.mk H
  clear H
  go_enter Tryd.func42, Tryd.ntmps42
  go_wp2_with (first | ((with_reducible refine gate_dst (N := 3) rfl ?_); refine box_event ?hg (N := 3) ?hd (cs := #[.slice A1_0 l1_0.length c1_0, .slice A1_1 l1_1.length c1_1]) (t := 44) ?hr ?_; (case hd => rfl); (case hg => rfl); (case hr => first | (go_simp; done) | (go_simp; rfl)); intro gb355 hg w3 hbox hb; have n0_ := Aside0.mk (below_step (by repeat (first | (with_reducible first | exact HB.out | apply below_alloc | apply pw_below_drewN | apply below_drew1) | exact HB.out)) hb); have n1_ := Aside0.mk (hbox); have n2_ := Aside0.mk ((by rw [hg]; exact (below_size (by repeat (first | (with_reducible first | exact HB.out | apply below_alloc | apply pw_below_drewN | apply below_drew1) | exact HB.out))) : w.heap.size ≤ gb355)); have n3_ := Aside0.mk ((by rw [hg]; exact (below_size (by repeat (first | (with_reducible first | exact HB.out | apply below_alloc | apply pw_below_drewN | apply below_drew1) | exact HB.out))) : w.heap.size ≤ gb355)); clear HB; have HB := n0_; have BK355 := n1_; have GW355 := n2_; have GE355 := n3_; clear n0_ n1_ n2_ n3_; clear hb hbox hg))
  go_loopg [9] k (fun kq v9 w' => ∃ (x9_1 : Int), v9 = .int .i64 x9_1 ∧ Aside0 (interleaveref31_Any.l0 kq l0 (l0.length : Int) x9_1 l1_0 l1_1 = some r) ∧ Aside0 (kq ≤ k) ∧ Aside0 (w'.heap[gb355]? = some (.cells #[(.slice A1_0 l1_0.length c1_0), (.slice A1_1 l1_1.length c1_1)] 44 (0, 0))) ∧ Aside0 (Below w.heap.size w w'))
  case atStart => exact ⟨(0), (by first | rfl | (simp; done) | (simp [*]; done)), H', ⟨Nat.le_refl _⟩, ⟨by (with_reducible repeat (first | refine blk_drewN ?_ _ | refine blk_drew ?_ | refine blk_alloc ?_ _)); exact BK355.out⟩, ⟨by repeat (first | (with_reducible first | exact HB.out | apply below_alloc | apply pw_below_drewN | apply below_drew1 | refine below_set ?_ GE355.out) | exact HB.out)⟩⟩
  case round => as_aux_lemma =>
    clear H'
    try clear c1
    try clear p2
    obtain ⟨x9_1, rfl, HA, HK1, BK355, HB⟩ := hrel
    cases gk with
    | zero => exact absurd HA.out (by simp [interleaveref31_Any.l0])
    | succ k1 =>
      have H := HA.out
      clear HA
      simp only [interleaveref31_Any.l0] at H
      by_cases c4 : x9_1 < (l0.length : Int)
      · rw [if_pos c4] at H
        have c4b0 : decide (x9_1 < (l0.length : Int)) = true := decide_eq_true c4
        clear c4
        by_cases c5 : 0 ≤ x9_1
        · rw [if_pos c5] at H
          have c5b0 : decide (0 ≤ x9_1) = true := decide_eq_true c5
          clear c5
          by_cases c6 : x9_1 < (l0.length : Int)
          · rw [if_pos c6] at H
            have c6b0 : decide (x9_1 < (l0.length : Int)) = true := decide_eq_true c6
            clear c6
            replace H := Option.bind_eq_some_iff.mp H
            obtain ⟨t357, A70, H⟩ := H
            replace H : (if t357 = true then (some true) else (interleaveref31_Any.l0 k1 l0 (l0.length : Int) (wrap64 (x9_1 + 1)) l1_0 l1_1)) = some r := H
            have A7 := Aside0.mk A70
            clear A70
            by_cases c8 : t357 = true
            · subst c8
              have H1 : (some true) = some r := by rw [if_pos rfl] at H; exact H
              clear H
              have H := H1
              clear H1
              obtain rfl := Option.some.inj H
              have p356 : 0 ≤ (x9_1 : Int) := of_decide_eq_true (by first | (with_reducible assumption) | assumption)
              have q356 : x9_1 < (l0.length : Int) := of_decide_eq_true (by first | (with_reducible assumption) | assumption)
              obtain ⟨ad356, e356, hx356_0⟩ := Kd.at_int HR0.out x9_1 p356 q356
              cases e356
              replace hx356_0 := (HB.out.cell (World.block_lt_of_cell? w _ hx356_0)).trans hx356_0
              replace p356 := eq_true p356
              replace q356 := eq_true q356
              have hcz9_0 : wr.cell? ⟨gb355, 0, none⟩ = some (.slice A1_0 l1_0.length c1_0) := (blk_cell BK355.out 0).trans rfl
              have hcz9_1 : wr.cell? ⟨gb355, 1, none⟩ = some (.slice A1_1 l1_1.length c1_1) := (blk_cell BK355.out 1).trans rfl
              have hfz9_0 := blk_frozen BK355.out 0
              have hfz9_1 := blk_frozen BK355.out 1
              go_wp2_with (first | ((with_reducible refine gate_callee (f := 26) rfl ?_); refine goesL_ (some 15) rfl rfl Tryd.func26 (by kernel_rfl) rfl #[.int .i64 (rd l0 x9_1), .agg #[.slice A1_0 l1_0.length c1_0, .slice A1_1 l1_1.length c1_1]] rfl (by (try simp only [List.map_toArray, List.map_cons, List.map_nil]); first | done | rfl | (simp only [List.length_drop, List.length_take]; rfl)) ?_; (with_reducible refine (interleaveref31_Holds.calls k1 (rd l0 x9_1) _ _ l1_0 _ _ l1_1 true _ ?side1 ?side2 ?side3 ?side4 A7.out).mono ?_); (case side1 => repeat (first | exact (Kd.C_below HR1_0.out HB.out) | (with_reducible refine Kd.C_alloc ?_ _) | (with_reducible refine Kd.C_drewN ?_ _) | (with_reducible refine Kd.C_drew ?_))); (case side2 => exact HC1_0.out); (case side3 => repeat (first | exact (Kd.C_below HR1_1.out HB.out) | (with_reducible refine Kd.C_alloc ?_ _) | (with_reducible refine Kd.C_drewN ?_ _) | (with_reducible refine Kd.C_drew ?_))); (case side4 => exact HC1_1.out); rintro e w10 ⟨rfl, hb⟩; refine ⟨_, rfl, ?_⟩; have n0_ := Aside0.mk (blk_below (g := gb355) (o := .cells #[.slice A1_0 l1_0.length c1_0, .slice A1_1 l1_1.length c1_1] 44 (0, 0)) (by (with_reducible repeat (first | refine blk_drewN ?_ _ | refine blk_drew ?_ | refine blk_alloc ?_ _)); exact BK355.out) hb); have n1_ := Aside0.mk (below_step (by repeat (first | (with_reducible first | exact HB.out | apply below_alloc | apply pw_below_drewN | apply below_drew1 | refine below_set ?_ GE355.out) | exact HB.out)) hb); clear BK355; clear HB; have BK355 := n0_; have HB := n1_; clear n0_ n1_; (try clear hb); (try clear hb2); (try clear hk); (try clear hi)))
              go_ret
              exact ⟨by first | rfl | (simp [errW_none, errW_some] <;> rfl) | (simp [*, errW_none, errW_some] <;> rfl), by repeat (first | (with_reducible first | exact HB.out | apply below_alloc | apply pw_below_drewN | apply below_drew1 | refine below_set ?_ GE355.out) | exact HB.out)⟩
            · replace c8 := Bool.eq_false_iff.mpr c8
              subst c8
              have H1 : (interleaveref31_Any.l0 k1 l0 (l0.length : Int) (wrap64 (x9_1 + 1)) l1_0 l1_1) = some r := by rw [if_neg (show ¬ (false = true) by decide)] at H; exact H
              clear H
              have H := H1
              clear H1
              have H' := Aside0.mk H
              clear H
              have p356 : 0 ≤ (x9_1 : Int) := of_decide_eq_true (by first | (with_reducible assumption) | assumption)
              have q356 : x9_1 < (l0.length : Int) := of_decide_eq_true (by first | (with_reducible assumption) | assumption)
              obtain ⟨ad356, e356, hx356_0⟩ := Kd.at_int HR0.out x9_1 p356 q356
              cases e356
              replace hx356_0 := (HB.out.cell (World.block_lt_of_cell? w _ hx356_0)).trans hx356_0
              replace p356 := eq_true p356
              replace q356 := eq_true q356
              have hcz11_0 : wr.cell? ⟨gb355, 0, none⟩ = some (.slice A1_0 l1_0.length c1_0) := (blk_cell BK355.out 0).trans rfl
              have hcz11_1 : wr.cell? ⟨gb355, 1, none⟩ = some (.slice A1_1 l1_1.length c1_1) := (blk_cell BK355.out 1).trans rfl
              have hfz11_0 := blk_frozen BK355.out 0
              have hfz11_1 := blk_frozen BK355.out 1
              go_wp2_with (first | ((with_reducible refine gate_callee (f := 26) rfl ?_); refine goesL_ (some 15) rfl rfl Tryd.func26 (by kernel_rfl) rfl #[.int .i64 (rd l0 x9_1), .agg #[.slice A1_0 l1_0.length c1_0, .slice A1_1 l1_1.length c1_1]] rfl (by (try simp only [List.map_toArray, List.map_cons, List.map_nil]); first | done | rfl | (simp only [List.length_drop, List.length_take]; rfl)) ?_; (with_reducible refine (interleaveref31_Holds.calls k1 (rd l0 x9_1) _ _ l1_0 _ _ l1_1 false _ ?side1 ?side2 ?side3 ?side4 A7.out).mono ?_); (case side1 => repeat (first | exact (Kd.C_below HR1_0.out HB.out) | (with_reducible refine Kd.C_alloc ?_ _) | (with_reducible refine Kd.C_drewN ?_ _) | (with_reducible refine Kd.C_drew ?_))); (case side2 => exact HC1_0.out); (case side3 => repeat (first | exact (Kd.C_below HR1_1.out HB.out) | (with_reducible refine Kd.C_alloc ?_ _) | (with_reducible refine Kd.C_drewN ?_ _) | (with_reducible refine Kd.C_drew ?_))); (case side4 => exact HC1_1.out); rintro e w12 ⟨rfl, hb⟩; refine ⟨_, rfl, ?_⟩; have n0_ := Aside0.mk (blk_below (g := gb355) (o := .cells #[.slice A1_0 l1_0.length c1_0, .slice A1_1 l1_1.length c1_1] 44 (0, 0)) (by (with_reducible repeat (first | refine blk_drewN ?_ _ | refine blk_drew ?_ | refine blk_alloc ?_ _)); exact BK355.out) hb); have n1_ := Aside0.mk (below_step (by repeat (first | (with_reducible first | exact HB.out | apply below_alloc | apply pw_below_drewN | apply below_drew1 | refine below_set ?_ GE355.out) | exact HB.out)) hb); clear BK355; clear HB; have BK355 := n0_; have HB := n1_; clear n0_ n1_; (try clear hb); (try clear hb2); (try clear hk); (try clear hi)))
              go_roundg k1
              case measure => have := HK1.out; omega
              case rel => exact ⟨(wrap64 (x9_1 + 1)), (by first | rfl | (simp; done) | (simp [*]; done)), H', ⟨by have := HK1.out; omega⟩, ⟨by (with_reducible repeat (first | refine blk_drewN ?_ _ | refine blk_drew ?_ | refine blk_alloc ?_ _)); exact BK355.out⟩, ⟨by repeat (first | (with_reducible first | exact HB.out | apply below_alloc | apply pw_below_drewN | apply below_drew1 | refine below_set ?_ GE355.out) | exact HB.out)⟩⟩
          · rw [if_neg c6] at H
            exact absurd H (by simp)
        · rw [if_neg c5] at H
          exact absurd H (by simp)
      · rw [if_neg c4] at H
        have c4b0 : decide (x9_1 < (l0.length : Int)) = false := decide_eq_false c4
        clear c4
        obtain rfl := Option.some.inj H
        go_wp2
        go_ret
        exact ⟨by first | rfl | (simp [errW_none, errW_some] <;> rfl) | (simp [*, errW_none, errW_some] <;> rfl), by repeat (first | (with_reducible first | exact HB.out | apply below_alloc | apply pw_below_drewN | apply below_drew1 | refine below_set ?_ GE355.out) | exact HB.out)⟩

end Go.Proofs.YtpaoepcebcjfhaaDoor.X
