-- Written by this session's own program (wip/tools/xprint.py).
import Derived.Test.YtdkloonoeklgaaaDoorX0
import Derived.Test.YtdkloonoeklgaaaDoorX3
import Derived.Test.YtdkloonoeklgaaaDoorX5
import Derived.Test.YtdkloonoeklgaaaDoorGivB
namespace Go.Proofs.YtdkloonoeklgaaaDoor.X
open Go.RowKit Go.Proofs.YtdkloonoeklgaaaDoorW.PrintWords Go.Proofs.YtdkloonoeklgaaaDoorW.PrintLast Go.Proofs.YtdkloonoeklgaaaDoorW.PrintMore
attribute [local go_sem] max2_int min2_int max_two min_two max_three min_three max_four min_four   -- for this text's walks alone
set_option linter.unusedVariables false
set_option linter.unusedSimpArgs false

/-! ### interleavelaw01_awake: function 14 -/
def interleavelaw01_awake.f (k : Nat)  : Option (Bool) := (token_Scan.f k (⟨#[97, 61, 49]⟩ : ByteArray)).bind fun bt211 => (if bt211.2.1 = 0 then (if bt211.2.2 = 0 then (if (bt211.1.length : Int) = 3 then (if 0 < (bt211.1.length : Int) then (if ((rd_T27 bt211.1 0).f1).toList = ([97] : List UInt8) then (if 1 < (bt211.1.length : Int) then (if ((rd_T27 bt211.1 1).f0) = 4 then ((token_IsName.f (⟨#[97]⟩ : ByteArray)).bind fun t218 => (if t218 = true then ((token_IsKeyword.f (⟨#[118, 97, 114]⟩ : ByteArray)).bind fun t219 => (some t219)) else (some false))) else (some false)) else (none)) else (some false)) else (none)) else (some false)) else (some false)) else (some false))
theorem interleavelaw01_awake.mono : ∀ k, LeO (interleavelaw01_awake.f k ) (interleavelaw01_awake.f (k + 1) ) := by
  intro  k
  unfold interleavelaw01_awake.f
  repeat' first
      | (with_reducible exact token_Scan.mono _ _)
      | (with_reducible exact LeO.refl _)
      | (with_reducible exact LeO.none _)
      | (with_reducible refine LeO.ite ?_ ?_)
      | (with_reducible refine LeO.bind ?_ (fun _ => ?_))
      | exact token_Scan.mono _ _
      | exact LeO.none _
      | refine LeO.ite ?_ ?_
      | refine LeO.bind ?_ (fun _ => ?_)
set_option maxHeartbeats 8000000 in
set_option maxRecDepth 100000 in
theorem interleavelaw01_awake.calls (k : Nat)  (r : Bool) (w : World) (hG : GW w) (h : interleavelaw01_awake.f k  = some r) :
    Calls Tryd.prog 14 #[] w fun e w' => e = .returned (.bool r) ∧ Below w.heap.size w w' := by
  have HG := Aside0.mk hG
  clear hG
  have HB := Aside0.mk (Below.refl w.heap.size w)
  have H : ((token_Scan.f k (⟨#[97, 61, 49]⟩ : ByteArray)).bind fun bt211 => (if bt211.2.1 = 0 then (if bt211.2.2 = 0 then (if (bt211.1.length : Int) = 3 then (if 0 < (bt211.1.length : Int) then (if ((rd_T27 bt211.1 0).f1).toList = ([97] : List UInt8) then (if 1 < (bt211.1.length : Int) then (if ((rd_T27 bt211.1 1).f0) = 4 then ((token_IsName.f (⟨#[97]⟩ : ByteArray)).bind fun t218 => (if t218 = true then ((token_IsKeyword.f (⟨#[118, 97, 114]⟩ : ByteArray)).bind fun t219 => (some t219)) else (some false))) else (some false)) else (none)) else (some false)) else (none)) else (some false)) else (some false)) else (some false))) = some r := h
  clear h
  replace H := Option.bind_eq_some_iff.mp H
  obtain ⟨⟨t211, t212, t213⟩, A10, H⟩ := H
  replace H : (if t212 = 0 then (if t213 = 0 then (if (t211.length : Int) = 3 then (if 0 < (t211.length : Int) then (if ((rd_T27 t211 0).f1).toList = ([97] : List UInt8) then (if 1 < (t211.length : Int) then (if ((rd_T27 t211 1).f0) = 4 then ((token_IsName.f (⟨#[97]⟩ : ByteArray)).bind fun t218 => (if t218 = true then ((token_IsKeyword.f (⟨#[118, 97, 114]⟩ : ByteArray)).bind fun t219 => (some t219)) else (some false))) else (some false)) else (none)) else (some false)) else (none)) else (some false)) else (some false)) else (some false)) = some r := H
  have A1 := Aside0.mk A10
  clear A10
  by_cases c2 : t212 = 0
  · rw [if_pos c2] at H
    have c2b0 : (t212 == 0) = true := beq_iff_eq.mpr c2
    have c2b1 : (t212 != 0) = false := bne_eq_false_iff_eq.mpr c2
    clear c2
    by_cases c3 : t213 = 0
    · rw [if_pos c3] at H
      have c3b0 : (t213 == 0) = true := beq_iff_eq.mpr c3
      have c3b1 : (t213 != 0) = false := bne_eq_false_iff_eq.mpr c3
      clear c3
      by_cases c4 : (t211.length : Int) = 3
      · rw [if_pos c4] at H
        have c4b0 : ((t211.length : Int) == 3) = true := beq_iff_eq.mpr c4
        have c4b1 : ((t211.length : Int) != 3) = false := bne_eq_false_iff_eq.mpr c4
        clear c4
        by_cases c5 : 0 < (t211.length : Int)
        · rw [if_pos c5] at H
          have c5b0 : decide (0 < (t211.length : Int)) = true := decide_eq_true c5
          have c5b1 : decide (0 < t211.length) = true := decide_eq_true (by omega)
          clear c5
          by_cases c6 : ((rd_T27 t211 0).f1).toList = ([97] : List UInt8)
          · rw [if_pos c6] at H
            have c6b0 : (((rd_T27 t211 0).f1).toList == ([97] : List UInt8)) = true := beq_iff_eq.mpr c6
            have c6b1 : (((rd_T27 t211 0).f1).toList != ([97] : List UInt8)) = false := bne_eq_false_iff_eq.mpr c6
            clear c6
            by_cases c7 : 1 < (t211.length : Int)
            · rw [if_pos c7] at H
              have c7b0 : decide (1 < (t211.length : Int)) = true := decide_eq_true c7
              have c7b1 : decide (1 < t211.length) = true := decide_eq_true (by omega)
              clear c7
              by_cases c8 : ((rd_T27 t211 1).f0) = 4
              · rw [if_pos c8] at H
                have c8b0 : (((rd_T27 t211 1).f0) == 4) = true := beq_iff_eq.mpr c8
                have c8b1 : (((rd_T27 t211 1).f0) != 4) = false := bne_eq_false_iff_eq.mpr c8
                clear c8
                replace H := Option.bind_eq_some_iff.mp H
                obtain ⟨t218, A90, H⟩ := H
                replace H : (if t218 = true then ((token_IsKeyword.f (⟨#[118, 97, 114]⟩ : ByteArray)).bind fun t219 => (some t219)) else (some false)) = some r := H
                have A9 := Aside0.mk A90
                clear A90
                by_cases c10 : t218 = true
                · subst c10
                  have H1 : ((token_IsKeyword.f (⟨#[118, 97, 114]⟩ : ByteArray)).bind fun t219 => (some t219)) = some r := by rw [if_pos rfl] at H; exact H
                  clear H
                  have H := H1
                  clear H1
                  replace H := Option.bind_eq_some_iff.mp H
                  obtain ⟨t219, A110, H⟩ := H
                  replace H : (some t219) = some r := H
                  have A11 := Aside0.mk A110
                  clear A110
                  obtain rfl := Option.some.inj H
                  go_enter Tryd.func14, Tryd.ntmps14
                  go_wp2_with (first | ((with_reducible refine gate_callee (f := 11) rfl ?_); refine goesL_ (some 5) rfl rfl Tryd.func11 (by kernel_rfl) rfl #[.string (⟨#[97, 61, 49]⟩ : ByteArray)] rfl (by (try simp only [List.map_toArray, List.map_cons, List.map_nil]); first | done | rfl | (simp only [List.length_drop, List.length_take]; rfl)) ?_; (with_reducible refine (token_Scan.calls k (⟨#[97, 61, 49]⟩ : ByteArray) t211 t212 t213 _ ?side1 A1.out).mono ?_); (case side1 => exact GW.below HG.out (by repeat (first | (with_reducible first | exact HB.out | apply below_alloc | apply pw_below_drewN | apply below_drew1) | exact HB.out))); rintro e w12 ⟨v214, rfl, ho0, hb⟩; refine ⟨_, rfl, ?_⟩; have n0_ := Aside0.mk (Kd.R_lower ho0 (below_size (by repeat (first | (with_reducible first | exact HB.out | apply below_alloc | apply pw_below_drewN | apply below_drew1) | exact HB.out)))); have n1_ := Aside0.mk (below_step (by repeat (first | (with_reducible first | exact HB.out | apply below_alloc | apply pw_below_drewN | apply below_drew1) | exact HB.out)) hb); clear HB; have HO215 := n0_; have HB := n1_; clear n0_ n1_; (try clear hb); (try clear hb2); (try clear hk); (try clear hi); (try clear ho0); obtain ⟨Ao13, co13, eo13⟩ := Kd.R_slice HO215.out; subst eo13; have p216 : 0 ≤ (0 : Int) := (by omega); have q216 : 0 < (t211.length : Int) := of_decide_eq_true (by first | (with_reducible assumption) | assumption); obtain ⟨ad216, e216, hx216_0, hx216_1, hx216_2⟩ := at_T27 (Kd.R_reads' HO215.out).2.2 0 p216 q216; cases e216; have qi216 : (0 < t211.length) = True := eq_true (by omega); (try rw [show ((0 : Int)).toNat = 0 from rfl] at hx216_0); (try rw [show 0 * 3 = 0 from rfl] at hx216_0); (try rw [Addr.add_zero'] at hx216_0); (try rw [show ((0 : Int)).toNat = 0 from rfl] at hx216_1); (try rw [show 0 * 3 = 0 from rfl] at hx216_1); (try rw [Addr.add_zero'] at hx216_1); (try rw [show ((0 : Int)).toNat = 0 from rfl] at hx216_2); (try rw [show 0 * 3 = 0 from rfl] at hx216_2); (try rw [Addr.add_zero'] at hx216_2); replace p216 := eq_true p216; replace q216 := eq_true q216; have p217 : 0 ≤ (1 : Int) := (by omega); have q217 : 1 < (t211.length : Int) := of_decide_eq_true (by first | (with_reducible assumption) | assumption); obtain ⟨ad217, e217, hx217_0, hx217_1, hx217_2⟩ := at_T27 (Kd.R_reads' HO215.out).2.2 1 p217 q217; obtain rfl : ad216 = ad217 := (by injection e217); (try simp only [show (1 : Int).toNat = 1 from rfl, Nat.reduceMul, Nat.reduceEqDiff, Go.Addr.add, ↓reduceIte] at hx217_0); (try simp only [show (1 : Int).toNat = 1 from rfl, Nat.reduceMul, Nat.reduceEqDiff, Go.Addr.add, ↓reduceIte] at hx217_1); (try simp only [show (1 : Int).toNat = 1 from rfl, Nat.reduceMul, Nat.reduceEqDiff, Go.Addr.add, ↓reduceIte] at hx217_2); have qi217 : (1 < t211.length) = True := eq_true (by omega); (try rw [show ((1 : Int)).toNat = 1 from rfl] at hx217_0); (try rw [show 1 * 3 = 3 from rfl] at hx217_0); (try rw [show ((1 : Int)).toNat = 1 from rfl] at hx217_1); (try rw [show 1 * 3 = 3 from rfl] at hx217_1); (try rw [show ((1 : Int)).toNat = 1 from rfl] at hx217_2); (try rw [show 1 * 3 = 3 from rfl] at hx217_2); replace p217 := eq_true p217; replace q217 := eq_true q217) | (go_at_call 15; (with_reducible refine (token_IsName.calls (⟨#[97]⟩ : ByteArray) true _ A9.out).mono ?_); rintro e w14 ⟨rfl, hb⟩; have n0_ := Aside0.mk (Kd.R_below (by (with_reducible repeat (first | apply Kd.R_alloc | apply Kd.R_drewN | apply Kd.R_drew)); exact HO215.out) hb); have n1_ := Aside0.mk (below_step (by repeat (first | (with_reducible first | exact HB.out | apply below_alloc | apply pw_below_drewN | apply below_drew1) | exact HB.out)) hb); clear HO215; clear HB; have HO215 := n0_; have HB := n1_; clear n0_ n1_; (try clear hb); (try clear hb2); (try clear hk); (try clear hi)) | (go_at_call 17; (with_reducible refine (token_IsKeyword.calls (⟨#[118, 97, 114]⟩ : ByteArray) t219 _ A11.out).mono ?_); rintro e w' ⟨rfl, ⟨nd, rfl⟩⟩))
                  go_ret
                  exact ⟨by first | rfl | (simp [errW_none, errW_some] <;> rfl) | (simp [*, errW_none, errW_some] <;> rfl), by repeat (first | (with_reducible first | exact HB.out | apply below_alloc | apply pw_below_drewN | apply below_drew1) | exact HB.out)⟩
                · replace c10 := Bool.eq_false_iff.mpr c10
                  subst c10
                  have H1 : (some false) = some r := by rw [if_neg (show ¬ (false = true) by decide)] at H; exact H
                  clear H
                  have H := H1
                  clear H1
                  obtain rfl := Option.some.inj H
                  go_enter Tryd.func14, Tryd.ntmps14
                  go_wp2_with (first | ((with_reducible refine gate_callee (f := 11) rfl ?_); refine goesL_ (some 5) rfl rfl Tryd.func11 (by kernel_rfl) rfl #[.string (⟨#[97, 61, 49]⟩ : ByteArray)] rfl (by (try simp only [List.map_toArray, List.map_cons, List.map_nil]); first | done | rfl | (simp only [List.length_drop, List.length_take]; rfl)) ?_; (with_reducible refine (token_Scan.calls k (⟨#[97, 61, 49]⟩ : ByteArray) t211 t212 t213 _ ?side1 A1.out).mono ?_); (case side1 => exact GW.below HG.out (by repeat (first | (with_reducible first | exact HB.out | apply below_alloc | apply pw_below_drewN | apply below_drew1) | exact HB.out))); rintro e w15 ⟨v214, rfl, ho0, hb⟩; refine ⟨_, rfl, ?_⟩; have n0_ := Aside0.mk (Kd.R_lower ho0 (below_size (by repeat (first | (with_reducible first | exact HB.out | apply below_alloc | apply pw_below_drewN | apply below_drew1) | exact HB.out)))); have n1_ := Aside0.mk (below_step (by repeat (first | (with_reducible first | exact HB.out | apply below_alloc | apply pw_below_drewN | apply below_drew1) | exact HB.out)) hb); clear HB; have HO215 := n0_; have HB := n1_; clear n0_ n1_; (try clear hb); (try clear hb2); (try clear hk); (try clear hi); (try clear ho0); obtain ⟨Ao16, co16, eo16⟩ := Kd.R_slice HO215.out; subst eo16; have p216 : 0 ≤ (0 : Int) := (by omega); have q216 : 0 < (t211.length : Int) := of_decide_eq_true (by first | (with_reducible assumption) | assumption); obtain ⟨ad216, e216, hx216_0, hx216_1, hx216_2⟩ := at_T27 (Kd.R_reads' HO215.out).2.2 0 p216 q216; cases e216; have qi216 : (0 < t211.length) = True := eq_true (by omega); (try rw [show ((0 : Int)).toNat = 0 from rfl] at hx216_0); (try rw [show 0 * 3 = 0 from rfl] at hx216_0); (try rw [Addr.add_zero'] at hx216_0); (try rw [show ((0 : Int)).toNat = 0 from rfl] at hx216_1); (try rw [show 0 * 3 = 0 from rfl] at hx216_1); (try rw [Addr.add_zero'] at hx216_1); (try rw [show ((0 : Int)).toNat = 0 from rfl] at hx216_2); (try rw [show 0 * 3 = 0 from rfl] at hx216_2); (try rw [Addr.add_zero'] at hx216_2); replace p216 := eq_true p216; replace q216 := eq_true q216; have p217 : 0 ≤ (1 : Int) := (by omega); have q217 : 1 < (t211.length : Int) := of_decide_eq_true (by first | (with_reducible assumption) | assumption); obtain ⟨ad217, e217, hx217_0, hx217_1, hx217_2⟩ := at_T27 (Kd.R_reads' HO215.out).2.2 1 p217 q217; obtain rfl : ad216 = ad217 := (by injection e217); (try simp only [show (1 : Int).toNat = 1 from rfl, Nat.reduceMul, Nat.reduceEqDiff, Go.Addr.add, ↓reduceIte] at hx217_0); (try simp only [show (1 : Int).toNat = 1 from rfl, Nat.reduceMul, Nat.reduceEqDiff, Go.Addr.add, ↓reduceIte] at hx217_1); (try simp only [show (1 : Int).toNat = 1 from rfl, Nat.reduceMul, Nat.reduceEqDiff, Go.Addr.add, ↓reduceIte] at hx217_2); have qi217 : (1 < t211.length) = True := eq_true (by omega); (try rw [show ((1 : Int)).toNat = 1 from rfl] at hx217_0); (try rw [show 1 * 3 = 3 from rfl] at hx217_0); (try rw [show ((1 : Int)).toNat = 1 from rfl] at hx217_1); (try rw [show 1 * 3 = 3 from rfl] at hx217_1); (try rw [show ((1 : Int)).toNat = 1 from rfl] at hx217_2); (try rw [show 1 * 3 = 3 from rfl] at hx217_2); replace p217 := eq_true p217; replace q217 := eq_true q217) | (go_at_call 15; (with_reducible refine (token_IsName.calls (⟨#[97]⟩ : ByteArray) false _ A9.out).mono ?_); rintro e w17 ⟨rfl, hb⟩; have n0_ := Aside0.mk (Kd.R_below (by (with_reducible repeat (first | apply Kd.R_alloc | apply Kd.R_drewN | apply Kd.R_drew)); exact HO215.out) hb); have n1_ := Aside0.mk (below_step (by repeat (first | (with_reducible first | exact HB.out | apply below_alloc | apply pw_below_drewN | apply below_drew1) | exact HB.out)) hb); clear HO215; clear HB; have HO215 := n0_; have HB := n1_; clear n0_ n1_; (try clear hb); (try clear hb2); (try clear hk); (try clear hi)))
                  go_ret
                  exact ⟨by first | rfl | (simp [errW_none, errW_some] <;> rfl) | (simp [*, errW_none, errW_some] <;> rfl), by repeat (first | (with_reducible first | exact HB.out | apply below_alloc | apply pw_below_drewN | apply below_drew1) | exact HB.out)⟩
              · rw [if_neg c8] at H
                have c8b0 : (((rd_T27 t211 1).f0) == 4) = false := beq_eq_false_iff_ne.mpr c8
                have c8b1 : (((rd_T27 t211 1).f0) != 4) = true := bne_iff_ne.mpr c8
                obtain rfl := Option.some.inj H
                go_enter Tryd.func14, Tryd.ntmps14
                go_wp2_with (first | ((with_reducible refine gate_callee (f := 11) rfl ?_); refine goesL_ (some 5) rfl rfl Tryd.func11 (by kernel_rfl) rfl #[.string (⟨#[97, 61, 49]⟩ : ByteArray)] rfl (by (try simp only [List.map_toArray, List.map_cons, List.map_nil]); first | done | rfl | (simp only [List.length_drop, List.length_take]; rfl)) ?_; (with_reducible refine (token_Scan.calls k (⟨#[97, 61, 49]⟩ : ByteArray) t211 t212 t213 _ ?side1 A1.out).mono ?_); (case side1 => exact GW.below HG.out (by repeat (first | (with_reducible first | exact HB.out | apply below_alloc | apply pw_below_drewN | apply below_drew1) | exact HB.out))); rintro e w18 ⟨v214, rfl, ho0, hb⟩; refine ⟨_, rfl, ?_⟩; have n0_ := Aside0.mk (Kd.R_lower ho0 (below_size (by repeat (first | (with_reducible first | exact HB.out | apply below_alloc | apply pw_below_drewN | apply below_drew1) | exact HB.out)))); have n1_ := Aside0.mk (below_step (by repeat (first | (with_reducible first | exact HB.out | apply below_alloc | apply pw_below_drewN | apply below_drew1) | exact HB.out)) hb); clear HB; have HO215 := n0_; have HB := n1_; clear n0_ n1_; (try clear hb); (try clear hb2); (try clear hk); (try clear hi); (try clear ho0); obtain ⟨Ao19, co19, eo19⟩ := Kd.R_slice HO215.out; subst eo19; have p216 : 0 ≤ (0 : Int) := (by omega); have q216 : 0 < (t211.length : Int) := of_decide_eq_true (by first | (with_reducible assumption) | assumption); obtain ⟨ad216, e216, hx216_0, hx216_1, hx216_2⟩ := at_T27 (Kd.R_reads' HO215.out).2.2 0 p216 q216; cases e216; have qi216 : (0 < t211.length) = True := eq_true (by omega); (try rw [show ((0 : Int)).toNat = 0 from rfl] at hx216_0); (try rw [show 0 * 3 = 0 from rfl] at hx216_0); (try rw [Addr.add_zero'] at hx216_0); (try rw [show ((0 : Int)).toNat = 0 from rfl] at hx216_1); (try rw [show 0 * 3 = 0 from rfl] at hx216_1); (try rw [Addr.add_zero'] at hx216_1); (try rw [show ((0 : Int)).toNat = 0 from rfl] at hx216_2); (try rw [show 0 * 3 = 0 from rfl] at hx216_2); (try rw [Addr.add_zero'] at hx216_2); replace p216 := eq_true p216; replace q216 := eq_true q216; have p217 : 0 ≤ (1 : Int) := (by omega); have q217 : 1 < (t211.length : Int) := of_decide_eq_true (by first | (with_reducible assumption) | assumption); obtain ⟨ad217, e217, hx217_0, hx217_1, hx217_2⟩ := at_T27 (Kd.R_reads' HO215.out).2.2 1 p217 q217; obtain rfl : ad216 = ad217 := (by injection e217); (try simp only [show (1 : Int).toNat = 1 from rfl, Nat.reduceMul, Nat.reduceEqDiff, Go.Addr.add, ↓reduceIte] at hx217_0); (try simp only [show (1 : Int).toNat = 1 from rfl, Nat.reduceMul, Nat.reduceEqDiff, Go.Addr.add, ↓reduceIte] at hx217_1); (try simp only [show (1 : Int).toNat = 1 from rfl, Nat.reduceMul, Nat.reduceEqDiff, Go.Addr.add, ↓reduceIte] at hx217_2); have qi217 : (1 < t211.length) = True := eq_true (by omega); (try rw [show ((1 : Int)).toNat = 1 from rfl] at hx217_0); (try rw [show 1 * 3 = 3 from rfl] at hx217_0); (try rw [show ((1 : Int)).toNat = 1 from rfl] at hx217_1); (try rw [show 1 * 3 = 3 from rfl] at hx217_1); (try rw [show ((1 : Int)).toNat = 1 from rfl] at hx217_2); (try rw [show 1 * 3 = 3 from rfl] at hx217_2); replace p217 := eq_true p217; replace q217 := eq_true q217))
                go_ret
                exact ⟨by first | rfl | (simp [errW_none, errW_some] <;> rfl) | (simp [*, errW_none, errW_some] <;> rfl), by repeat (first | (with_reducible first | exact HB.out | apply below_alloc | apply pw_below_drewN | apply below_drew1) | exact HB.out)⟩
            · rw [if_neg c7] at H
              exact absurd H (by simp)
          · rw [if_neg c6] at H
            have c6b0 : (((rd_T27 t211 0).f1).toList == ([97] : List UInt8)) = false := beq_eq_false_iff_ne.mpr c6
            have c6b1 : (((rd_T27 t211 0).f1).toList != ([97] : List UInt8)) = true := bne_iff_ne.mpr c6
            obtain rfl := Option.some.inj H
            go_enter Tryd.func14, Tryd.ntmps14
            go_wp2_with (first | ((with_reducible refine gate_callee (f := 11) rfl ?_); refine goesL_ (some 5) rfl rfl Tryd.func11 (by kernel_rfl) rfl #[.string (⟨#[97, 61, 49]⟩ : ByteArray)] rfl (by (try simp only [List.map_toArray, List.map_cons, List.map_nil]); first | done | rfl | (simp only [List.length_drop, List.length_take]; rfl)) ?_; (with_reducible refine (token_Scan.calls k (⟨#[97, 61, 49]⟩ : ByteArray) t211 t212 t213 _ ?side1 A1.out).mono ?_); (case side1 => exact GW.below HG.out (by repeat (first | (with_reducible first | exact HB.out | apply below_alloc | apply pw_below_drewN | apply below_drew1) | exact HB.out))); rintro e w20 ⟨v214, rfl, ho0, hb⟩; refine ⟨_, rfl, ?_⟩; have n0_ := Aside0.mk (Kd.R_lower ho0 (below_size (by repeat (first | (with_reducible first | exact HB.out | apply below_alloc | apply pw_below_drewN | apply below_drew1) | exact HB.out)))); have n1_ := Aside0.mk (below_step (by repeat (first | (with_reducible first | exact HB.out | apply below_alloc | apply pw_below_drewN | apply below_drew1) | exact HB.out)) hb); clear HB; have HO215 := n0_; have HB := n1_; clear n0_ n1_; (try clear hb); (try clear hb2); (try clear hk); (try clear hi); (try clear ho0); obtain ⟨Ao21, co21, eo21⟩ := Kd.R_slice HO215.out; subst eo21; have p216 : 0 ≤ (0 : Int) := (by omega); have q216 : 0 < (t211.length : Int) := of_decide_eq_true (by first | (with_reducible assumption) | assumption); obtain ⟨ad216, e216, hx216_0, hx216_1, hx216_2⟩ := at_T27 (Kd.R_reads' HO215.out).2.2 0 p216 q216; cases e216; have qi216 : (0 < t211.length) = True := eq_true (by omega); (try rw [show ((0 : Int)).toNat = 0 from rfl] at hx216_0); (try rw [show 0 * 3 = 0 from rfl] at hx216_0); (try rw [Addr.add_zero'] at hx216_0); (try rw [show ((0 : Int)).toNat = 0 from rfl] at hx216_1); (try rw [show 0 * 3 = 0 from rfl] at hx216_1); (try rw [Addr.add_zero'] at hx216_1); (try rw [show ((0 : Int)).toNat = 0 from rfl] at hx216_2); (try rw [show 0 * 3 = 0 from rfl] at hx216_2); (try rw [Addr.add_zero'] at hx216_2); replace p216 := eq_true p216; replace q216 := eq_true q216))
            go_ret
            exact ⟨by first | rfl | (simp [errW_none, errW_some] <;> rfl) | (simp [*, errW_none, errW_some] <;> rfl), by repeat (first | (with_reducible first | exact HB.out | apply below_alloc | apply pw_below_drewN | apply below_drew1) | exact HB.out)⟩
        · rw [if_neg c5] at H
          exact absurd H (by simp)
      · rw [if_neg c4] at H
        have c4b0 : ((t211.length : Int) == 3) = false := beq_eq_false_iff_ne.mpr c4
        have c4b1 : ((t211.length : Int) != 3) = true := bne_iff_ne.mpr c4
        obtain rfl := Option.some.inj H
        go_enter Tryd.func14, Tryd.ntmps14
        go_wp2_with (first | ((with_reducible refine gate_callee (f := 11) rfl ?_); refine goesL_ (some 5) rfl rfl Tryd.func11 (by kernel_rfl) rfl #[.string (⟨#[97, 61, 49]⟩ : ByteArray)] rfl (by (try simp only [List.map_toArray, List.map_cons, List.map_nil]); first | done | rfl | (simp only [List.length_drop, List.length_take]; rfl)) ?_; (with_reducible refine (token_Scan.calls k (⟨#[97, 61, 49]⟩ : ByteArray) t211 t212 t213 _ ?side1 A1.out).mono ?_); (case side1 => exact GW.below HG.out (by repeat (first | (with_reducible first | exact HB.out | apply below_alloc | apply pw_below_drewN | apply below_drew1) | exact HB.out))); rintro e w22 ⟨v214, rfl, ho0, hb⟩; refine ⟨_, rfl, ?_⟩; have n0_ := Aside0.mk (Kd.R_lower ho0 (below_size (by repeat (first | (with_reducible first | exact HB.out | apply below_alloc | apply pw_below_drewN | apply below_drew1) | exact HB.out)))); have n1_ := Aside0.mk (below_step (by repeat (first | (with_reducible first | exact HB.out | apply below_alloc | apply pw_below_drewN | apply below_drew1) | exact HB.out)) hb); clear HB; have HO215 := n0_; have HB := n1_; clear n0_ n1_; (try clear hb); (try clear hb2); (try clear hk); (try clear hi); (try clear ho0); obtain ⟨Ao23, co23, eo23⟩ := Kd.R_slice HO215.out; subst eo23))
        go_ret
        exact ⟨by first | rfl | (simp [errW_none, errW_some] <;> rfl) | (simp [*, errW_none, errW_some] <;> rfl), by repeat (first | (with_reducible first | exact HB.out | apply below_alloc | apply pw_below_drewN | apply below_drew1) | exact HB.out)⟩
    · rw [if_neg c3] at H
      have c3b0 : (t213 == 0) = false := beq_eq_false_iff_ne.mpr c3
      have c3b1 : (t213 != 0) = true := bne_iff_ne.mpr c3
      obtain rfl := Option.some.inj H
      go_enter Tryd.func14, Tryd.ntmps14
      go_wp2_with (first | ((with_reducible refine gate_callee (f := 11) rfl ?_); refine goesL_ (some 5) rfl rfl Tryd.func11 (by kernel_rfl) rfl #[.string (⟨#[97, 61, 49]⟩ : ByteArray)] rfl (by (try simp only [List.map_toArray, List.map_cons, List.map_nil]); first | done | rfl | (simp only [List.length_drop, List.length_take]; rfl)) ?_; (with_reducible refine (token_Scan.calls k (⟨#[97, 61, 49]⟩ : ByteArray) t211 t212 t213 _ ?side1 A1.out).mono ?_); (case side1 => exact GW.below HG.out (by repeat (first | (with_reducible first | exact HB.out | apply below_alloc | apply pw_below_drewN | apply below_drew1) | exact HB.out))); rintro e w24 ⟨v214, rfl, ho0, hb⟩; refine ⟨_, rfl, ?_⟩; have n0_ := Aside0.mk (Kd.R_lower ho0 (below_size (by repeat (first | (with_reducible first | exact HB.out | apply below_alloc | apply pw_below_drewN | apply below_drew1) | exact HB.out)))); have n1_ := Aside0.mk (below_step (by repeat (first | (with_reducible first | exact HB.out | apply below_alloc | apply pw_below_drewN | apply below_drew1) | exact HB.out)) hb); clear HB; have HO215 := n0_; have HB := n1_; clear n0_ n1_; (try clear hb); (try clear hb2); (try clear hk); (try clear hi); (try clear ho0)))
      go_ret
      exact ⟨by first | rfl | (simp [errW_none, errW_some] <;> rfl) | (simp [*, errW_none, errW_some] <;> rfl), by repeat (first | (with_reducible first | exact HB.out | apply below_alloc | apply pw_below_drewN | apply below_drew1) | exact HB.out)⟩
  · rw [if_neg c2] at H
    have c2b0 : (t212 == 0) = false := beq_eq_false_iff_ne.mpr c2
    have c2b1 : (t212 != 0) = true := bne_iff_ne.mpr c2
    obtain rfl := Option.some.inj H
    go_enter Tryd.func14, Tryd.ntmps14
    go_wp2_with (first | ((with_reducible refine gate_callee (f := 11) rfl ?_); refine goesL_ (some 5) rfl rfl Tryd.func11 (by kernel_rfl) rfl #[.string (⟨#[97, 61, 49]⟩ : ByteArray)] rfl (by (try simp only [List.map_toArray, List.map_cons, List.map_nil]); first | done | rfl | (simp only [List.length_drop, List.length_take]; rfl)) ?_; (with_reducible refine (token_Scan.calls k (⟨#[97, 61, 49]⟩ : ByteArray) t211 t212 t213 _ ?side1 A1.out).mono ?_); (case side1 => exact GW.below HG.out (by repeat (first | (with_reducible first | exact HB.out | apply below_alloc | apply pw_below_drewN | apply below_drew1) | exact HB.out))); rintro e w25 ⟨v214, rfl, ho0, hb⟩; refine ⟨_, rfl, ?_⟩; have n0_ := Aside0.mk (Kd.R_lower ho0 (below_size (by repeat (first | (with_reducible first | exact HB.out | apply below_alloc | apply pw_below_drewN | apply below_drew1) | exact HB.out)))); have n1_ := Aside0.mk (below_step (by repeat (first | (with_reducible first | exact HB.out | apply below_alloc | apply pw_below_drewN | apply below_drew1) | exact HB.out)) hb); clear HB; have HO215 := n0_; have HB := n1_; clear n0_ n1_; (try clear hb); (try clear hb2); (try clear hk); (try clear hi); (try clear ho0)))
    go_ret
    exact ⟨by first | rfl | (simp [errW_none, errW_some] <;> rfl) | (simp [*, errW_none, errW_some] <;> rfl), by repeat (first | (with_reducible first | exact HB.out | apply below_alloc | apply pw_below_drewN | apply below_drew1) | exact HB.out)⟩

end Go.Proofs.YtdkloonoeklgaaaDoor.X
