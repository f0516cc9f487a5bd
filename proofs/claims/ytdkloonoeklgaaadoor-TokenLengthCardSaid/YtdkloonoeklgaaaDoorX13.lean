-- Written by this session's own program (wip/tools/xprint.py).
import Derived.Test.YtdkloonoeklgaaaDoorX0
import Derived.Test.YtdkloonoeklgaaaDoorX1
import Derived.Test.YtdkloonoeklgaaaDoorX5
import Derived.Test.YtdkloonoeklgaaaDoorGivB
namespace Go.Proofs.YtdkloonoeklgaaaDoor.X
open Go.RowKit Go.Proofs.YtdkloonoeklgaaaDoorW.PrintWords Go.Proofs.YtdkloonoeklgaaaDoorW.PrintLast Go.Proofs.YtdkloonoeklgaaaDoorW.PrintMore
attribute [local go_sem] max2_int min2_int max_two min_two max_three min_three max_four min_four   -- for this text's walks alone
set_option linter.unusedVariables false
set_option linter.unusedSimpArgs false

attribute [local go_sem high] eqA27
/-! ### interleavelaw01_TokenLength: function 10 -/
mutual
def interleavelaw01_TokenLength.l0 : Nat → Int → Int → ByteArray → Int → Option (Bool)
  | 0, _, _, _, _ => none
  | k + 1, x0, x1, x5, x6 => if x6 < (wrap64 ((wrap64 (x0)) + 1)) then (if x5.size + 1 ≤ 9223372036854775807 then (interleavelaw01_TokenLength.l0 k x0 x1 (x5 ++ (⟨#[120]⟩ : ByteArray)) (wrap64 (x6 + 1))) else (none)) else (interleavelaw01_TokenLength.l1 k x1 x5 (⟨#[]⟩ : ByteArray) 0)
def interleavelaw01_TokenLength.l1 : Nat → Int → ByteArray → ByteArray → Int → Option (Bool)
  | 0, _, _, _, _ => none
  | k + 1, x1, x5, x7, x8 => if x8 < (wrap64 (x1)) then (if x7.size + 1 ≤ 9223372036854775807 then (interleavelaw01_TokenLength.l1 k x1 x5 (x7 ++ (⟨#[10]⟩ : ByteArray)) (wrap64 (x8 + 1))) else (none)) else (if x7.size + x5.size ≤ 9223372036854775807 then ((token_Scan.f k (x7 ++ x5)).bind fun bt307 => (if (x5.size : Int) > 12 then (if bt307.2.1 = 2 then (if bt307.2.2 = (wrap64 ((wrap64 (x1)) + 1)) then (if (bt307.1.length : Int) = 0 then ((token_IsName.f x5).bind fun t312 => (some (!t312))) else (some false)) else (some false)) else (some false)) else (if bt307.2.1 = 0 then (if (bt307.1.length : Int) = 1 then (if 0 < (bt307.1.length : Int) then (if (((rd_T27 bt307.1 0).f0) == 1 && ((((rd_T27 bt307.1 0).f1).toList) == x5.toList && (((rd_T27 bt307.1 0).f2) == (wrap64 ((wrap64 (x1)) + 1))))) = true then ((token_IsName.f x5).bind fun t314 => (some t314)) else (some false)) else (none)) else (some false)) else (some false)))) else (none))
end
def interleavelaw01_TokenLength.f (k : Nat) (a0 : Int) (a1 : Int) : Option (Bool) := interleavelaw01_TokenLength.l0 k a0 a1 (⟨#[]⟩ : ByteArray) 0
theorem interleavelaw01_TokenLength.mono_l : ∀ k, (∀ y0 y1 y2 y3, LeO (interleavelaw01_TokenLength.l0 k y0 y1 y2 y3) (interleavelaw01_TokenLength.l0 (k + 1) y0 y1 y2 y3)) ∧ (∀ y0 y1 y2 y3, LeO (interleavelaw01_TokenLength.l1 k y0 y1 y2 y3) (interleavelaw01_TokenLength.l1 (k + 1) y0 y1 y2 y3))
  | 0 => ⟨fun _ _ _ _ r h => by simp [interleavelaw01_TokenLength.l0] at h, fun _ _ _ _ r h => by simp [interleavelaw01_TokenLength.l1] at h⟩
  | k + 1 => by
    obtain ⟨ih0, ih1⟩ := interleavelaw01_TokenLength.mono_l k
    refine ⟨?_, ?_⟩
    · intro y0 y1 y2 y3
      unfold interleavelaw01_TokenLength.l0
      repeat' first
      | (with_reducible exact ih0 _ _ _ _)
      | (with_reducible exact ih1 _ _ _ _)
      | (with_reducible exact token_Scan.mono _ _)
      | (with_reducible exact LeO.refl _)
      | (with_reducible exact LeO.none _)
      | (with_reducible refine LeO.ite ?_ ?_)
      | (with_reducible refine LeO.bind ?_ (fun _ => ?_))
      | exact ih0 _ _ _ _
      | exact ih1 _ _ _ _
      | exact token_Scan.mono _ _
      | exact LeO.none _
      | refine LeO.ite ?_ ?_
      | refine LeO.bind ?_ (fun _ => ?_)
    · intro y0 y1 y2 y3
      unfold interleavelaw01_TokenLength.l1
      repeat' first
      | (with_reducible exact ih0 _ _ _ _)
      | (with_reducible exact ih1 _ _ _ _)
      | (with_reducible exact token_Scan.mono _ _)
      | (with_reducible exact LeO.refl _)
      | (with_reducible exact LeO.none _)
      | (with_reducible refine LeO.ite ?_ ?_)
      | (with_reducible refine LeO.bind ?_ (fun _ => ?_))
      | exact ih0 _ _ _ _
      | exact ih1 _ _ _ _
      | exact token_Scan.mono _ _
      | exact LeO.none _
      | refine LeO.ite ?_ ?_
      | refine LeO.bind ?_ (fun _ => ?_)
theorem interleavelaw01_TokenLength.mono : ∀ a0 a1 k, LeO (interleavelaw01_TokenLength.f k a0 a1) (interleavelaw01_TokenLength.f (k + 1) a0 a1) := by
  intro a0 a1 k
  obtain ⟨ih0, ih1⟩ := interleavelaw01_TokenLength.mono_l k
  unfold interleavelaw01_TokenLength.f
  repeat' first
      | (with_reducible exact ih0 _ _ _ _)
      | (with_reducible exact ih1 _ _ _ _)
      | (with_reducible exact token_Scan.mono _ _)
      | (with_reducible exact LeO.refl _)
      | (with_reducible exact LeO.none _)
      | (with_reducible refine LeO.ite ?_ ?_)
      | (with_reducible refine LeO.bind ?_ (fun _ => ?_))
      | exact ih0 _ _ _ _
      | exact ih1 _ _ _ _
      | exact token_Scan.mono _ _
      | exact LeO.none _
      | refine LeO.ite ?_ ?_
      | refine LeO.bind ?_ (fun _ => ?_)
set_option maxHeartbeats 8000000 in
set_option maxRecDepth 100000 in
theorem interleavelaw01_TokenLength.calls (k : Nat) (a0 : Int) (a1 : Int) (r : Bool) (w : World) (hG : GW w) (h : interleavelaw01_TokenLength.f k a0 a1 = some r) :
    Calls Tryd.prog 10 #[.int .u8 a0, .int .u8 a1] w fun e w' => e = .returned (.bool r) ∧ Below w.heap.size w w' := by
  have hu27 := Tryd.underlying27
  have HG := Aside0.mk hG
  clear hG
  have HB := Aside0.mk (Below.refl w.heap.size w)
  have H : (interleavelaw01_TokenLength.l0 k a0 a1 (⟨#[]⟩ : ByteArray) 0) = some r := h
  clear h
  have H' := Aside0.mk H
  clear H
  go_enter Tryd.func10, Tryd.ntmps10
  go_wp2
  go_loopg [5, 6] k (fun kq v5 v6 w' => ∃ (x5_1 : ByteArray) (x6_1 : Int), v5 = .string x5_1 ∧ v6 = .int .i64 x6_1 ∧ Aside0 (interleavelaw01_TokenLength.l0 kq a0 a1 x5_1 x6_1 = some r) ∧ Aside0 (kq ≤ k) ∧ Aside0 (Below w.heap.size w w'))
  case atStart => exact ⟨((⟨#[]⟩ : ByteArray)), (0), (by first | rfl | (simp; done) | (simp [*]; done)), (by first | rfl | (simp; done) | (simp [*]; done)), H', ⟨Nat.le_refl _⟩, ⟨by repeat (first | (with_reducible first | exact HB.out | apply below_alloc | apply pw_below_drewN | apply below_drew1) | exact HB.out)⟩⟩
  case round =>
    clear H'
    try clear c1
    try clear p2
    obtain ⟨x5_1, x6_1, rfl, rfl, HA, HK1, HB⟩ := hrel
    cases gk with
    | zero => exact absurd HA.out (by simp [interleavelaw01_TokenLength.l0])
    | succ k1 =>
      have H := HA.out
      clear HA
      simp only [interleavelaw01_TokenLength.l0] at H
      by_cases c3 : x6_1 < (wrap64 ((wrap64 (a0)) + 1))
      · rw [if_pos c3] at H
        have c3b0 : decide (x6_1 < (wrap64 ((wrap64 (a0)) + 1))) = true := decide_eq_true c3
        clear c3
        by_cases c4 : x5_1.size + 1 ≤ 9223372036854775807
        · rw [if_pos c4] at H
          have c4b0 := eq_true c4
          have c4b1 : decide (x5_1.size + 1 ≤ 9223372036854775807) = true := decide_eq_true c4
          try have c4b2 : (9223372036854775807 < x5_1.size + 1) = False := eq_false (Nat.not_lt.2 c4)
          have H' := Aside0.mk H
          clear H
          go_wp2
          go_roundg k1
          case measure => have := HK1.out; omega
          case rel => exact ⟨(x5_1 ++ (⟨#[120]⟩ : ByteArray)), (wrap64 (x6_1 + 1)), (by first | rfl | (simp; done) | (simp [*]; done)), (by first | rfl | (simp; done) | (simp [*]; done)), H', ⟨by have := HK1.out; omega⟩, ⟨by repeat (first | (with_reducible first | exact HB.out | apply below_alloc | apply pw_below_drewN | apply below_drew1) | exact HB.out)⟩⟩
        · rw [if_neg c4] at H
          exact absurd H (by simp)
      · rw [if_neg c3] at H
        have c3b0 : decide (x6_1 < (wrap64 ((wrap64 (a0)) + 1))) = false := decide_eq_false c3
        clear c3
        have H' := Aside0.mk H
        clear H
        go_wp2
        go_loopg [7, 8] k1 (fun kq v7 v8 w' => ∃ (x7_2 : ByteArray) (x8_2 : Int), v7 = .string x7_2 ∧ v8 = .int .i64 x8_2 ∧ Aside0 (interleavelaw01_TokenLength.l1 kq a1 x5_1 x7_2 x8_2 = some r) ∧ Aside0 (kq ≤ k1) ∧ Aside0 (Below w.heap.size w w'))
        case atStart => exact ⟨((⟨#[]⟩ : ByteArray)), (0), (by first | rfl | (simp; done) | (simp [*]; done)), (by first | rfl | (simp; done) | (simp [*]; done)), H', ⟨Nat.le_refl _⟩, ⟨by repeat (first | (with_reducible first | exact HB.out | apply below_alloc | apply pw_below_drewN | apply below_drew1) | exact HB.out)⟩⟩
        case round =>
          clear H'
          try clear c1
          try clear p2
          try clear c3
          try clear c3b0
          try clear c4
          try clear c4b0
          try clear c4b1
          try clear c4b2
          try clear p2
          obtain ⟨x7_2, x8_2, rfl, rfl, HA, HK2, HB⟩ := hrel
          cases gk with
          | zero => exact absurd HA.out (by simp [interleavelaw01_TokenLength.l1])
          | succ k2 =>
            have H := HA.out
            clear HA
            simp only [interleavelaw01_TokenLength.l1] at H
            by_cases c5 : x8_2 < (wrap64 (a1))
            · rw [if_pos c5] at H
              have c5b0 : decide (x8_2 < (wrap64 (a1))) = true := decide_eq_true c5
              clear c5
              by_cases c6 : x7_2.size + 1 ≤ 9223372036854775807
              · rw [if_pos c6] at H
                have c6b0 := eq_true c6
                have c6b1 : decide (x7_2.size + 1 ≤ 9223372036854775807) = true := decide_eq_true c6
                try have c6b2 : (9223372036854775807 < x7_2.size + 1) = False := eq_false (Nat.not_lt.2 c6)
                have H' := Aside0.mk H
                clear H
                go_wp2
                go_roundg k2
                case measure => have := HK1.out; have := HK2.out; omega
                case rel => exact ⟨(x7_2 ++ (⟨#[10]⟩ : ByteArray)), (wrap64 (x8_2 + 1)), (by first | rfl | (simp; done) | (simp [*]; done)), (by first | rfl | (simp; done) | (simp [*]; done)), H', ⟨by have := HK1.out; have := HK2.out; omega⟩, ⟨by repeat (first | (with_reducible first | exact HB.out | apply below_alloc | apply pw_below_drewN | apply below_drew1) | exact HB.out)⟩⟩
              · rw [if_neg c6] at H
                exact absurd H (by simp)
            · rw [if_neg c5] at H
              have c5b0 : decide (x8_2 < (wrap64 (a1))) = false := decide_eq_false c5
              clear c5
              by_cases c7 : x7_2.size + x5_1.size ≤ 9223372036854775807
              · rw [if_pos c7] at H
                have c7b0 := eq_true c7
                have c7b1 : decide (x7_2.size + x5_1.size ≤ 9223372036854775807) = true := decide_eq_true c7
                try have c7b2 : (9223372036854775807 < x7_2.size + x5_1.size) = False := eq_false (Nat.not_lt.2 c7)
                replace H := Option.bind_eq_some_iff.mp H
                obtain ⟨⟨t307, t308, t309⟩, A80, H⟩ := H
                replace H : (if (x5_1.size : Int) > 12 then (if t308 = 2 then (if t309 = (wrap64 ((wrap64 (a1)) + 1)) then (if (t307.length : Int) = 0 then ((token_IsName.f x5_1).bind fun t312 => (some (!t312))) else (some false)) else (some false)) else (some false)) else (if t308 = 0 then (if (t307.length : Int) = 1 then (if 0 < (t307.length : Int) then (if (((rd_T27 t307 0).f0) == 1 && ((((rd_T27 t307 0).f1).toList) == x5_1.toList && (((rd_T27 t307 0).f2) == (wrap64 ((wrap64 (a1)) + 1))))) = true then ((token_IsName.f x5_1).bind fun t314 => (some t314)) else (some false)) else (none)) else (some false)) else (some false))) = some r := H
                have A8 := Aside0.mk A80
                clear A80
                by_cases c9 : (x5_1.size : Int) > 12
                · rw [if_pos c9] at H
                  have c9b0 : decide (12 < (x5_1.size : Int)) = true := decide_eq_true c9
                  have c9b1 : decide (12 < x5_1.size) = true := decide_eq_true (by omega)
                  clear c9
                  by_cases c10 : t308 = 2
                  · rw [if_pos c10] at H
                    have c10b0 : (t308 == 2) = true := beq_iff_eq.mpr c10
                    have c10b1 : (t308 != 2) = false := bne_eq_false_iff_eq.mpr c10
                    clear c10
                    by_cases c11 : t309 = (wrap64 ((wrap64 (a1)) + 1))
                    · rw [if_pos c11] at H
                      have c11b0 : (t309 == (wrap64 ((wrap64 (a1)) + 1))) = true := beq_iff_eq.mpr c11
                      have c11b1 : (t309 != (wrap64 ((wrap64 (a1)) + 1))) = false := bne_eq_false_iff_eq.mpr c11
                      clear c11
                      by_cases c12 : (t307.length : Int) = 0
                      · rw [if_pos c12] at H
                        have c12b0 : ((t307.length : Int) == 0) = true := beq_iff_eq.mpr c12
                        have c12b1 : ((t307.length : Int) != 0) = false := bne_eq_false_iff_eq.mpr c12
                        clear c12
                        replace H := Option.bind_eq_some_iff.mp H
                        obtain ⟨t312, A130, H⟩ := H
                        replace H : (some (!t312)) = some r := H
                        have A13 := Aside0.mk A130
                        clear A130
                        obtain rfl := Option.some.inj H
                        go_wp2_with (first | ((with_reducible refine gate_callee (f := 11) rfl ?_); refine goesL_ (some 33) rfl rfl Tryd.func11 (by kernel_rfl) rfl #[.string (x7_2 ++ x5_1)] rfl (by (try simp only [List.map_toArray, List.map_cons, List.map_nil]); first | done | rfl | (simp only [List.length_drop, List.length_take]; rfl)) ?_; (with_reducible refine (token_Scan.calls k2 (x7_2 ++ x5_1) t307 t308 t309 _ ?side1 A8.out).mono ?_); (case side1 => exact GW.below HG.out (by repeat (first | (with_reducible first | exact HB.out | apply below_alloc | apply pw_below_drewN | apply below_drew1) | exact HB.out))); rintro e w14 ⟨v310, rfl, ho0, hb⟩; refine ⟨_, rfl, ?_⟩; have n0_ := Aside0.mk (Kd.R_lower ho0 (below_size (by repeat (first | (with_reducible first | exact HB.out | apply below_alloc | apply pw_below_drewN | apply below_drew1) | exact HB.out)))); have n1_ := Aside0.mk (below_step (by repeat (first | (with_reducible first | exact HB.out | apply below_alloc | apply pw_below_drewN | apply below_drew1) | exact HB.out)) hb); clear HB; have HO311 := n0_; have HB := n1_; clear n0_ n1_; (try clear hb); (try clear hb2); (try clear hk); (try clear hi); (try clear ho0); obtain ⟨Ao15, co15, eo15⟩ := Kd.R_slice HO311.out; subst eo15) | (go_at_call 15; (with_reducible refine (token_IsName.calls x5_1 t312 _ A13.out).mono ?_); rintro e w16 ⟨rfl, hb⟩; have n0_ := Aside0.mk (Kd.R_below (by (with_reducible repeat (first | apply Kd.R_alloc | apply Kd.R_drewN | apply Kd.R_drew)); exact HO311.out) hb); have n1_ := Aside0.mk (below_step (by repeat (first | (with_reducible first | exact HB.out | apply below_alloc | apply pw_below_drewN | apply below_drew1) | exact HB.out)) hb); clear HO311; clear HB; have HO311 := n0_; have HB := n1_; clear n0_ n1_; (try clear hb); (try clear hb2); (try clear hk); (try clear hi)))
                        go_ret
                        exact ⟨by first | rfl | (simp [errW_none, errW_some] <;> rfl) | (simp [*, errW_none, errW_some] <;> rfl), by repeat (first | (with_reducible first | exact HB.out | apply below_alloc | apply pw_below_drewN | apply below_drew1) | exact HB.out)⟩
                      · rw [if_neg c12] at H
                        have c12b0 : ((t307.length : Int) == 0) = false := beq_eq_false_iff_ne.mpr c12
                        have c12b1 : ((t307.length : Int) != 0) = true := bne_iff_ne.mpr c12
                        have c12b2 : ¬ (t307 = []) := fun h_ => c12 (by rw [h_]; rfl)
                        obtain rfl := Option.some.inj H
                        go_wp2_with (first | ((with_reducible refine gate_callee (f := 11) rfl ?_); refine goesL_ (some 33) rfl rfl Tryd.func11 (by kernel_rfl) rfl #[.string (x7_2 ++ x5_1)] rfl (by (try simp only [List.map_toArray, List.map_cons, List.map_nil]); first | done | rfl | (simp only [List.length_drop, List.length_take]; rfl)) ?_; (with_reducible refine (token_Scan.calls k2 (x7_2 ++ x5_1) t307 t308 t309 _ ?side1 A8.out).mono ?_); (case side1 => exact GW.below HG.out (by repeat (first | (with_reducible first | exact HB.out | apply below_alloc | apply pw_below_drewN | apply below_drew1) | exact HB.out))); rintro e w17 ⟨v310, rfl, ho0, hb⟩; refine ⟨_, rfl, ?_⟩; have n0_ := Aside0.mk (Kd.R_lower ho0 (below_size (by repeat (first | (with_reducible first | exact HB.out | apply below_alloc | apply pw_below_drewN | apply below_drew1) | exact HB.out)))); have n1_ := Aside0.mk (below_step (by repeat (first | (with_reducible first | exact HB.out | apply below_alloc | apply pw_below_drewN | apply below_drew1) | exact HB.out)) hb); clear HB; have HO311 := n0_; have HB := n1_; clear n0_ n1_; (try clear hb); (try clear hb2); (try clear hk); (try clear hi); (try clear ho0); obtain ⟨Ao18, co18, eo18⟩ := Kd.R_slice HO311.out; subst eo18))
                        go_ret
                        exact ⟨by first | rfl | (simp [errW_none, errW_some] <;> rfl) | (simp [*, errW_none, errW_some] <;> rfl), by repeat (first | (with_reducible first | exact HB.out | apply below_alloc | apply pw_below_drewN | apply below_drew1) | exact HB.out)⟩
                    · rw [if_neg c11] at H
                      have c11b0 : (t309 == (wrap64 ((wrap64 (a1)) + 1))) = false := beq_eq_false_iff_ne.mpr c11
                      have c11b1 : (t309 != (wrap64 ((wrap64 (a1)) + 1))) = true := bne_iff_ne.mpr c11
                      obtain rfl := Option.some.inj H
                      go_wp2_with (first | ((with_reducible refine gate_callee (f := 11) rfl ?_); refine goesL_ (some 33) rfl rfl Tryd.func11 (by kernel_rfl) rfl #[.string (x7_2 ++ x5_1)] rfl (by (try simp only [List.map_toArray, List.map_cons, List.map_nil]); first | done | rfl | (simp only [List.length_drop, List.length_take]; rfl)) ?_; (with_reducible refine (token_Scan.calls k2 (x7_2 ++ x5_1) t307 t308 t309 _ ?side1 A8.out).mono ?_); (case side1 => exact GW.below HG.out (by repeat (first | (with_reducible first | exact HB.out | apply below_alloc | apply pw_below_drewN | apply below_drew1) | exact HB.out))); rintro e w19 ⟨v310, rfl, ho0, hb⟩; refine ⟨_, rfl, ?_⟩; have n0_ := Aside0.mk (Kd.R_lower ho0 (below_size (by repeat (first | (with_reducible first | exact HB.out | apply below_alloc | apply pw_below_drewN | apply below_drew1) | exact HB.out)))); have n1_ := Aside0.mk (below_step (by repeat (first | (with_reducible first | exact HB.out | apply below_alloc | apply pw_below_drewN | apply below_drew1) | exact HB.out)) hb); clear HB; have HO311 := n0_; have HB := n1_; clear n0_ n1_; (try clear hb); (try clear hb2); (try clear hk); (try clear hi); (try clear ho0)))
                      go_ret
                      exact ⟨by first | rfl | (simp [errW_none, errW_some] <;> rfl) | (simp [*, errW_none, errW_some] <;> rfl), by repeat (first | (with_reducible first | exact HB.out | apply below_alloc | apply pw_below_drewN | apply below_drew1) | exact HB.out)⟩
                  · rw [if_neg c10] at H
                    have c10b0 : (t308 == 2) = false := beq_eq_false_iff_ne.mpr c10
                    have c10b1 : (t308 != 2) = true := bne_iff_ne.mpr c10
                    obtain rfl := Option.some.inj H
                    go_wp2_with (first | ((with_reducible refine gate_callee (f := 11) rfl ?_); refine goesL_ (some 33) rfl rfl Tryd.func11 (by kernel_rfl) rfl #[.string (x7_2 ++ x5_1)] rfl (by (try simp only [List.map_toArray, List.map_cons, List.map_nil]); first | done | rfl | (simp only [List.length_drop, List.length_take]; rfl)) ?_; (with_reducible refine (token_Scan.calls k2 (x7_2 ++ x5_1) t307 t308 t309 _ ?side1 A8.out).mono ?_); (case side1 => exact GW.below HG.out (by repeat (first | (with_reducible first | exact HB.out | apply below_alloc | apply pw_below_drewN | apply below_drew1) | exact HB.out))); rintro e w20 ⟨v310, rfl, ho0, hb⟩; refine ⟨_, rfl, ?_⟩; have n0_ := Aside0.mk (Kd.R_lower ho0 (below_size (by repeat (first | (with_reducible first | exact HB.out | apply below_alloc | apply pw_below_drewN | apply below_drew1) | exact HB.out)))); have n1_ := Aside0.mk (below_step (by repeat (first | (with_reducible first | exact HB.out | apply below_alloc | apply pw_below_drewN | apply below_drew1) | exact HB.out)) hb); clear HB; have HO311 := n0_; have HB := n1_; clear n0_ n1_; (try clear hb); (try clear hb2); (try clear hk); (try clear hi); (try clear ho0)))
                    go_ret
                    exact ⟨by first | rfl | (simp [errW_none, errW_some] <;> rfl) | (simp [*, errW_none, errW_some] <;> rfl), by repeat (first | (with_reducible first | exact HB.out | apply below_alloc | apply pw_below_drewN | apply below_drew1) | exact HB.out)⟩
                · rw [if_neg c9] at H
                  have c9b0 : decide (12 < (x5_1.size : Int)) = false := decide_eq_false c9
                  have c9b1 : decide (12 < x5_1.size) = false := decide_eq_false (by omega)
                  clear c9
                  by_cases c21 : t308 = 0
                  · rw [if_pos c21] at H
                    have c21b0 : (t308 == 0) = true := beq_iff_eq.mpr c21
                    have c21b1 : (t308 != 0) = false := bne_eq_false_iff_eq.mpr c21
                    clear c21
                    by_cases c22 : (t307.length : Int) = 1
                    · rw [if_pos c22] at H
                      have c22b0 : ((t307.length : Int) == 1) = true := beq_iff_eq.mpr c22
                      have c22b1 : ((t307.length : Int) != 1) = false := bne_eq_false_iff_eq.mpr c22
                      clear c22
                      by_cases c23 : 0 < (t307.length : Int)
                      · rw [if_pos c23] at H
                        have c23b0 : decide (0 < (t307.length : Int)) = true := decide_eq_true c23
                        have c23b1 : decide (0 < t307.length) = true := decide_eq_true (by omega)
                        clear c23
                        by_cases c24 : (((rd_T27 t307 0).f0) == 1 && ((((rd_T27 t307 0).f1).toList) == x5_1.toList && (((rd_T27 t307 0).f2) == (wrap64 ((wrap64 (a1)) + 1))))) = true
                        · rw [if_pos c24] at H
                          have c24b0 : (((rd_T27 t307 0).f0) == 1 && ((((rd_T27 t307 0).f1).toList) == x5_1.toList && (((rd_T27 t307 0).f2) == (wrap64 ((wrap64 (a1)) + 1))))) = true := c24
                          (try (have c24b1 : decide (((rd_T27 t307 0).f0) = 1 && ((((rd_T27 t307 0).f1).toList) == x5_1.toList && (((rd_T27 t307 0).f2) == (wrap64 ((wrap64 (a1)) + 1))))) = true := by simpa using c24))
                          (try (have c24b2 : (((rd_T27 t307 0).f0) == 1 && ((((rd_T27 t307 0).f1).toList) == x5_1.toList && (((rd_T27 t307 0).f2) == (wrap64 ((wrap64 (a1)) + 1))))) = true := by simpa using c24))
                          clear c24
                          replace H := Option.bind_eq_some_iff.mp H
                          obtain ⟨t314, A250, H⟩ := H
                          replace H : (some t314) = some r := H
                          have A25 := Aside0.mk A250
                          clear A250
                          obtain rfl := Option.some.inj H
                          go_wp2_with (first | ((with_reducible refine gate_callee (f := 11) rfl ?_); refine goesL_ (some 33) rfl rfl Tryd.func11 (by kernel_rfl) rfl #[.string (x7_2 ++ x5_1)] rfl (by (try simp only [List.map_toArray, List.map_cons, List.map_nil]); first | done | rfl | (simp only [List.length_drop, List.length_take]; rfl)) ?_; (with_reducible refine (token_Scan.calls k2 (x7_2 ++ x5_1) t307 t308 t309 _ ?side1 A8.out).mono ?_); (case side1 => exact GW.below HG.out (by repeat (first | (with_reducible first | exact HB.out | apply below_alloc | apply pw_below_drewN | apply below_drew1) | exact HB.out))); rintro e w26 ⟨v310, rfl, ho0, hb⟩; refine ⟨_, rfl, ?_⟩; have n0_ := Aside0.mk (Kd.R_lower ho0 (below_size (by repeat (first | (with_reducible first | exact HB.out | apply below_alloc | apply pw_below_drewN | apply below_drew1) | exact HB.out)))); have n1_ := Aside0.mk (below_step (by repeat (first | (with_reducible first | exact HB.out | apply below_alloc | apply pw_below_drewN | apply below_drew1) | exact HB.out)) hb); clear HB; have HO311 := n0_; have HB := n1_; clear n0_ n1_; (try clear hb); (try clear hb2); (try clear hk); (try clear hi); (try clear ho0); obtain ⟨Ao27, co27, eo27⟩ := Kd.R_slice HO311.out; subst eo27; have p313 : 0 ≤ (0 : Int) := (by omega); have q313 : 0 < (t307.length : Int) := of_decide_eq_true (by first | (with_reducible assumption) | assumption); obtain ⟨ad313, e313, hx313_0, hx313_1, hx313_2⟩ := at_T27 (Kd.R_reads' HO311.out).2.2 0 p313 q313; cases e313; have qi313 : (0 < t307.length) = True := eq_true (by omega); (try rw [show ((0 : Int)).toNat = 0 from rfl] at hx313_0); (try rw [show 0 * 3 = 0 from rfl] at hx313_0); (try rw [Addr.add_zero'] at hx313_0); (try rw [show ((0 : Int)).toNat = 0 from rfl] at hx313_1); (try rw [show 0 * 3 = 0 from rfl] at hx313_1); (try rw [Addr.add_zero'] at hx313_1); (try rw [show ((0 : Int)).toNat = 0 from rfl] at hx313_2); (try rw [show 0 * 3 = 0 from rfl] at hx313_2); (try rw [Addr.add_zero'] at hx313_2); replace p313 := eq_true p313; replace q313 := eq_true q313) | (go_at_call 15; (with_reducible refine (token_IsName.calls x5_1 t314 _ A25.out).mono ?_); rintro e w28 ⟨rfl, hb⟩; have n0_ := Aside0.mk (Kd.R_below (by (with_reducible repeat (first | apply Kd.R_alloc | apply Kd.R_drewN | apply Kd.R_drew)); exact HO311.out) hb); have n1_ := Aside0.mk (below_step (by repeat (first | (with_reducible first | exact HB.out | apply below_alloc | apply pw_below_drewN | apply below_drew1) | exact HB.out)) hb); clear HO311; clear HB; have HO311 := n0_; have HB := n1_; clear n0_ n1_; (try clear hb); (try clear hb2); (try clear hk); (try clear hi)))
                          go_ret
                          exact ⟨by first | rfl | (simp [errW_none, errW_some] <;> rfl) | (simp [*, errW_none, errW_some] <;> rfl), by repeat (first | (with_reducible first | exact HB.out | apply below_alloc | apply pw_below_drewN | apply below_drew1) | exact HB.out)⟩
                        · rw [if_neg c24] at H
                          have c24b0 : (((rd_T27 t307 0).f0) == 1 && ((((rd_T27 t307 0).f1).toList) == x5_1.toList && (((rd_T27 t307 0).f2) == (wrap64 ((wrap64 (a1)) + 1))))) = false := by simpa using c24
                          (try (have c24b1 : decide (((rd_T27 t307 0).f0) = 1 && ((((rd_T27 t307 0).f1).toList) == x5_1.toList && (((rd_T27 t307 0).f2) == (wrap64 ((wrap64 (a1)) + 1))))) = false := by simpa using c24))
                          (try (have c24b2 : (((rd_T27 t307 0).f0) == 1 && ((((rd_T27 t307 0).f1).toList) == x5_1.toList && (((rd_T27 t307 0).f2) == (wrap64 ((wrap64 (a1)) + 1))))) = false := by simpa using c24))
                          (try (have c24b3 : ¬ (((rd_T27 t307 0).f0) = 1 && ((((rd_T27 t307 0).f1).toList) == x5_1.toList && (((rd_T27 t307 0).f2) == (wrap64 ((wrap64 (a1)) + 1))))) := by simpa using c24))
                          clear c24
                          obtain rfl := Option.some.inj H
                          go_wp2_with (first | ((with_reducible refine gate_callee (f := 11) rfl ?_); refine goesL_ (some 33) rfl rfl Tryd.func11 (by kernel_rfl) rfl #[.string (x7_2 ++ x5_1)] rfl (by (try simp only [List.map_toArray, List.map_cons, List.map_nil]); first | done | rfl | (simp only [List.length_drop, List.length_take]; rfl)) ?_; (with_reducible refine (token_Scan.calls k2 (x7_2 ++ x5_1) t307 t308 t309 _ ?side1 A8.out).mono ?_); (case side1 => exact GW.below HG.out (by repeat (first | (with_reducible first | exact HB.out | apply below_alloc | apply pw_below_drewN | apply below_drew1) | exact HB.out))); rintro e w29 ⟨v310, rfl, ho0, hb⟩; refine ⟨_, rfl, ?_⟩; have n0_ := Aside0.mk (Kd.R_lower ho0 (below_size (by repeat (first | (with_reducible first | exact HB.out | apply below_alloc | apply pw_below_drewN | apply below_drew1) | exact HB.out)))); have n1_ := Aside0.mk (below_step (by repeat (first | (with_reducible first | exact HB.out | apply below_alloc | apply pw_below_drewN | apply below_drew1) | exact HB.out)) hb); clear HB; have HO311 := n0_; have HB := n1_; clear n0_ n1_; (try clear hb); (try clear hb2); (try clear hk); (try clear hi); (try clear ho0); obtain ⟨Ao30, co30, eo30⟩ := Kd.R_slice HO311.out; subst eo30; have p313 : 0 ≤ (0 : Int) := (by omega); have q313 : 0 < (t307.length : Int) := of_decide_eq_true (by first | (with_reducible assumption) | assumption); obtain ⟨ad313, e313, hx313_0, hx313_1, hx313_2⟩ := at_T27 (Kd.R_reads' HO311.out).2.2 0 p313 q313; cases e313; have qi313 : (0 < t307.length) = True := eq_true (by omega); (try rw [show ((0 : Int)).toNat = 0 from rfl] at hx313_0); (try rw [show 0 * 3 = 0 from rfl] at hx313_0); (try rw [Addr.add_zero'] at hx313_0); (try rw [show ((0 : Int)).toNat = 0 from rfl] at hx313_1); (try rw [show 0 * 3 = 0 from rfl] at hx313_1); (try rw [Addr.add_zero'] at hx313_1); (try rw [show ((0 : Int)).toNat = 0 from rfl] at hx313_2); (try rw [show 0 * 3 = 0 from rfl] at hx313_2); (try rw [Addr.add_zero'] at hx313_2); replace p313 := eq_true p313; replace q313 := eq_true q313))
                          go_ret
                          exact ⟨by first | rfl | (simp [errW_none, errW_some] <;> rfl) | (simp [*, errW_none, errW_some] <;> rfl), by repeat (first | (with_reducible first | exact HB.out | apply below_alloc | apply pw_below_drewN | apply below_drew1) | exact HB.out)⟩
                      · rw [if_neg c23] at H
                        exact absurd H (by simp)
                    · rw [if_neg c22] at H
                      have c22b0 : ((t307.length : Int) == 1) = false := beq_eq_false_iff_ne.mpr c22
                      have c22b1 : ((t307.length : Int) != 1) = true := bne_iff_ne.mpr c22
                      obtain rfl := Option.some.inj H
                      go_wp2_with (first | ((with_reducible refine gate_callee (f := 11) rfl ?_); refine goesL_ (some 33) rfl rfl Tryd.func11 (by kernel_rfl) rfl #[.string (x7_2 ++ x5_1)] rfl (by (try simp only [List.map_toArray, List.map_cons, List.map_nil]); first | done | rfl | (simp only [List.length_drop, List.length_take]; rfl)) ?_; (with_reducible refine (token_Scan.calls k2 (x7_2 ++ x5_1) t307 t308 t309 _ ?side1 A8.out).mono ?_); (case side1 => exact GW.below HG.out (by repeat (first | (with_reducible first | exact HB.out | apply below_alloc | apply pw_below_drewN | apply below_drew1) | exact HB.out))); rintro e w31 ⟨v310, rfl, ho0, hb⟩; refine ⟨_, rfl, ?_⟩; have n0_ := Aside0.mk (Kd.R_lower ho0 (below_size (by repeat (first | (with_reducible first | exact HB.out | apply below_alloc | apply pw_below_drewN | apply below_drew1) | exact HB.out)))); have n1_ := Aside0.mk (below_step (by repeat (first | (with_reducible first | exact HB.out | apply below_alloc | apply pw_below_drewN | apply below_drew1) | exact HB.out)) hb); clear HB; have HO311 := n0_; have HB := n1_; clear n0_ n1_; (try clear hb); (try clear hb2); (try clear hk); (try clear hi); (try clear ho0); obtain ⟨Ao32, co32, eo32⟩ := Kd.R_slice HO311.out; subst eo32))
                      go_ret
                      exact ⟨by first | rfl | (simp [errW_none, errW_some] <;> rfl) | (simp [*, errW_none, errW_some] <;> rfl), by repeat (first | (with_reducible first | exact HB.out | apply below_alloc | apply pw_below_drewN | apply below_drew1) | exact HB.out)⟩
                  · rw [if_neg c21] at H
                    have c21b0 : (t308 == 0) = false := beq_eq_false_iff_ne.mpr c21
                    have c21b1 : (t308 != 0) = true := bne_iff_ne.mpr c21
                    obtain rfl := Option.some.inj H
                    go_wp2_with (first | ((with_reducible refine gate_callee (f := 11) rfl ?_); refine goesL_ (some 33) rfl rfl Tryd.func11 (by kernel_rfl) rfl #[.string (x7_2 ++ x5_1)] rfl (by (try simp only [List.map_toArray, List.map_cons, List.map_nil]); first | done | rfl | (simp only [List.length_drop, List.length_take]; rfl)) ?_; (with_reducible refine (token_Scan.calls k2 (x7_2 ++ x5_1) t307 t308 t309 _ ?side1 A8.out).mono ?_); (case side1 => exact GW.below HG.out (by repeat (first | (with_reducible first | exact HB.out | apply below_alloc | apply pw_below_drewN | apply below_drew1) | exact HB.out))); rintro e w33 ⟨v310, rfl, ho0, hb⟩; refine ⟨_, rfl, ?_⟩; have n0_ := Aside0.mk (Kd.R_lower ho0 (below_size (by repeat (first | (with_reducible first | exact HB.out | apply below_alloc | apply pw_below_drewN | apply below_drew1) | exact HB.out)))); have n1_ := Aside0.mk (below_step (by repeat (first | (with_reducible first | exact HB.out | apply below_alloc | apply pw_below_drewN | apply below_drew1) | exact HB.out)) hb); clear HB; have HO311 := n0_; have HB := n1_; clear n0_ n1_; (try clear hb); (try clear hb2); (try clear hk); (try clear hi); (try clear ho0)))
                    go_ret
                    exact ⟨by first | rfl | (simp [errW_none, errW_some] <;> rfl) | (simp [*, errW_none, errW_some] <;> rfl), by repeat (first | (with_reducible first | exact HB.out | apply below_alloc | apply pw_below_drewN | apply below_drew1) | exact HB.out)⟩
              · rw [if_neg c7] at H
                exact absurd H (by simp)

/-- THE ONE PURE STATEMENT of interleavelaw01_TokenLength: yours. -/
def interleavelaw01_TokenLength.Pure : Prop := ∀ (a0 : Int) (a1 : Int), (Lit.int .u8 a0).wf = true → (Lit.int .u8 a1).wf = true → ∃ k, interleavelaw01_TokenLength.f k a0 a1 = some true
theorem interleavelaw01_TokenLength.walk (P : interleavelaw01_TokenLength.Pure) (a0 : Int) (a1 : Int) (w : World) (hG : GW w) (w0 : (Lit.int .u8 a0).wf = true) (w1 : (Lit.int .u8 a1).wf = true) :
    Calls Tryd.prog 10 #[.int .u8 a0, .int .u8 a1] w fun e w' => e = .returned (.bool true) ∧ Below w.heap.size w w' := by
  obtain ⟨k, h⟩ := P a0 a1 w0 w1
  refine (interleavelaw01_TokenLength.calls k a0 a1 true w hG h).mono ?_
  rintro e w' ⟨rfl, hd⟩
  exact ⟨rfl, hd⟩

end Go.Proofs.YtdkloonoeklgaaaDoor.X
