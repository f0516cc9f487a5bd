-- Written by this session's own program (wip/tools/xprint.py).
import Derived.Test.YtdkloonoeklgaaaDoorX0
import Derived.Test.YtdkloonoeklgaaaDoorX5
namespace Go.Proofs.YtdkloonoeklgaaaDoor.X
open Go.RowKit Go.Proofs.YtdkloonoeklgaaaDoorW.PrintWords Go.Proofs.YtdkloonoeklgaaaDoorW.PrintLast Go.Proofs.YtdkloonoeklgaaaDoorW.PrintMore
attribute [local go_sem] max2_int min2_int max_two min_two max_three min_three max_four min_four   -- for this text's walks alone
set_option linter.unusedVariables false
set_option linter.unusedSimpArgs false

/-! ### interleaveref01_signAt: function 25 -/
def interleaveref01_signAt.l0 : Nat → ByteArray → Int → List ByteArray → Int → Option (ByteArray)
  | 0, _, _, _, _ => none
  | k + 1, x0, x1, x5, x6 => if x6 < (x5.length : Int) then (if 0 ≤ x6 then (if (wrap64 ((x0.size : Int) - x1)) ≥ ((rdOf ByteArray.empty x5 x6).size : Int) then (if 0 ≤ x1 then (if x1 ≤ (wrap64 (x1 + ((rdOf ByteArray.empty x5 x6).size : Int))) then (if (wrap64 (x1 + ((rdOf ByteArray.empty x5 x6).size : Int))) ≤ (x0.size : Int) then (if (x0.extract (x1 : Int).toNat ((wrap64 (x1 + ((rdOf ByteArray.empty x5 x6).size : Int))) : Int).toNat).toList = (rdOf ByteArray.empty x5 x6).toList then (some (rdOf ByteArray.empty x5 x6)) else (interleaveref01_signAt.l0 k x0 x1 x5 (wrap64 (x6 + 1)))) else (none)) else (none)) else (none)) else (interleaveref01_signAt.l0 k x0 x1 x5 (wrap64 (x6 + 1)))) else (none)) else (some (⟨#[]⟩ : ByteArray))
def interleaveref01_signAt.f (k : Nat) (a0 : ByteArray) (a1 : Int) : Option (ByteArray) := (interleaveref01_Signs.f).bind fun t177 => (interleaveref01_signAt.l0 k a0 a1 t177 0)
theorem interleaveref01_signAt.mono_l : ∀ k, (∀ y0 y1 y2 y3, LeO (interleaveref01_signAt.l0 k y0 y1 y2 y3) (interleaveref01_signAt.l0 (k + 1) y0 y1 y2 y3))
  | 0 => fun _ _ _ _ r h => by simp [interleaveref01_signAt.l0] at h
  | k + 1 => by
    have ih0 := interleaveref01_signAt.mono_l k
    · intro y0 y1 y2 y3
      unfold interleaveref01_signAt.l0
      repeat' first
      | (with_reducible exact ih0 _ _ _ _)
      | (with_reducible exact LeO.refl _)
      | (with_reducible exact LeO.none _)
      | (with_reducible refine LeO.ite ?_ ?_)
      | (with_reducible refine LeO.bind ?_ (fun _ => ?_))
      | exact ih0 _ _ _ _
      | exact LeO.none _
      | refine LeO.ite ?_ ?_
      | refine LeO.bind ?_ (fun _ => ?_)
theorem interleaveref01_signAt.mono : ∀ a0 a1 k, LeO (interleaveref01_signAt.f k a0 a1) (interleaveref01_signAt.f (k + 1) a0 a1) := by
  intro a0 a1 k
  have ih0 := interleaveref01_signAt.mono_l k
  unfold interleaveref01_signAt.f
  repeat' first
      | (with_reducible exact ih0 _ _ _ _)
      | (with_reducible exact LeO.refl _)
      | (with_reducible exact LeO.none _)
      | (with_reducible refine LeO.ite ?_ ?_)
      | (with_reducible refine LeO.bind ?_ (fun _ => ?_))
      | exact ih0 _ _ _ _
      | exact LeO.none _
      | refine LeO.ite ?_ ?_
      | refine LeO.bind ?_ (fun _ => ?_)
set_option maxHeartbeats 8000000 in
set_option maxRecDepth 100000 in
theorem interleaveref01_signAt.calls (k : Nat) (a0 : ByteArray) (a1 : Int) (r : ByteArray) (w : World) (h : interleaveref01_signAt.f k a0 a1 = some r) :
    Calls Tryd.prog 25 #[.string a0, .int .i64 a1] w fun e w' => e = .returned (.string r) ∧ Below w.heap.size w w' := by
  have HB := Aside0.mk (Below.refl w.heap.size w)
  have H : ((interleaveref01_Signs.f).bind fun t177 => (interleaveref01_signAt.l0 k a0 a1 t177 0)) = some r := h
  clear h
  replace H := Option.bind_eq_some_iff.mp H
  obtain ⟨t177, A30, H⟩ := H
  replace H : (interleaveref01_signAt.l0 k a0 a1 t177 0) = some r := H
  have A3 := Aside0.mk A30
  clear A30
  have H' := Aside0.mk H
  clear H
  go_enter Tryd.func25, Tryd.ntmps25
  go_wp2_with (first | (go_at_call 36; (with_reducible refine (interleaveref01_Signs.calls  t177 _ A3.out).mono ?_); rintro e w4 ⟨v178, rfl, ho0, hb⟩; have n0_ := Aside0.mk (Kd.R_lower ho0 (below_size (by repeat (first | (with_reducible first | exact HB.out | apply below_alloc | apply pw_below_drewN | apply below_drew1) | exact HB.out)))); have n1_ := Aside0.mk (below_step (by repeat (first | (with_reducible first | exact HB.out | apply below_alloc | apply pw_below_drewN | apply below_drew1) | exact HB.out)) hb); clear HB; have HO179 := n0_; have HB := n1_; clear n0_ n1_; (try clear hb); (try clear hb2); (try clear hk); (try clear hi); (try clear ho0)))
  repeat (go_quiet (first | (go_at_call 36; (with_reducible refine (interleaveref01_Signs.calls  t177 _ A3.out).mono ?_); rintro e w4 ⟨v178, rfl, ho0, hb⟩; have n0_ := Aside0.mk (Kd.R_lower ho0 (below_size (by repeat (first | (with_reducible first | exact HB.out | apply below_alloc | apply pw_below_drewN | apply below_drew1) | exact HB.out)))); have n1_ := Aside0.mk (below_step (by repeat (first | (with_reducible first | exact HB.out | apply below_alloc | apply pw_below_drewN | apply below_drew1) | exact HB.out)) hb); clear HB; have HO179 := n0_; have HB := n1_; clear n0_ n1_; (try clear hb); (try clear hb2); (try clear hk); (try clear hi); (try clear ho0))); try go_wp2_with (first | (go_at_call 36; (with_reducible refine (interleaveref01_Signs.calls  t177 _ A3.out).mono ?_); rintro e w4 ⟨v178, rfl, ho0, hb⟩; have n0_ := Aside0.mk (Kd.R_lower ho0 (below_size (by repeat (first | (with_reducible first | exact HB.out | apply below_alloc | apply pw_below_drewN | apply below_drew1) | exact HB.out)))); have n1_ := Aside0.mk (below_step (by repeat (first | (with_reducible first | exact HB.out | apply below_alloc | apply pw_below_drewN | apply below_drew1) | exact HB.out)) hb); clear HB; have HO179 := n0_; have HB := n1_; clear n0_ n1_; (try clear hb); (try clear hb2); (try clear hk); (try clear hi); (try clear ho0))))
  go_loopg [6] k (fun kq v6 w' => ∃ (x6_1 : Int), v6 = .int .i64 x6_1 ∧ Aside0 (interleaveref01_signAt.l0 kq a0 a1 t177 x6_1 = some r) ∧ Aside0 (kq ≤ k) ∧ Aside0 (Kd.R Kd.string 9 w' w.heap.size (fun _ => True) v178 t177) ∧ Aside0 (Below w.heap.size w w'))
  case atStart => exact ⟨(0), (by first | rfl | (simp; done) | (simp [*]; done)), H', ⟨Nat.le_refl _⟩, ⟨by (with_reducible repeat (first | apply Kd.R_alloc | apply Kd.R_drewN | apply Kd.R_drew)); exact HO179.out⟩, ⟨by repeat (first | (with_reducible first | exact HB.out | apply below_alloc | apply pw_below_drewN | apply below_drew1) | exact HB.out)⟩⟩
  case round =>
    clear H'
    try clear c2
    try clear p2
    obtain ⟨x6_1, rfl, HA, HK1, HO_5, HB⟩ := hrel
    cases gk with
    | zero => exact absurd HA.out (by simp [interleaveref01_signAt.l0])
    | succ k1 =>
      have H := HA.out
      clear HA
      simp only [interleaveref01_signAt.l0] at H
      by_cases c5 : x6_1 < (t177.length : Int)
      · rw [if_pos c5] at H
        have c5b0 : decide (x6_1 < (t177.length : Int)) = true := decide_eq_true c5
        clear c5
        by_cases c6 : 0 ≤ x6_1
        · rw [if_pos c6] at H
          have c6b0 : decide (0 ≤ x6_1) = true := decide_eq_true c6
          clear c6
          by_cases c7 : (wrap64 ((a0.size : Int) - a1)) ≥ ((rdOf ByteArray.empty t177 x6_1).size : Int)
          · rw [if_pos c7] at H
            have c7b0 : decide (((rdOf ByteArray.empty t177 x6_1).size : Int) ≤ (wrap64 ((a0.size : Int) - a1))) = true := decide_eq_true c7
            clear c7
            by_cases c8 : 0 ≤ a1
            · rw [if_pos c8] at H
              have c8b0 := eq_true c8
              have c8b1 : decide (0 ≤ a1) = true := decide_eq_true c8
              clear c8
              by_cases c9 : a1 ≤ (wrap64 (a1 + ((rdOf ByteArray.empty t177 x6_1).size : Int)))
              · rw [if_pos c9] at H
                have c9b0 := eq_true c9
                have c9b1 : decide (a1 ≤ (wrap64 (a1 + ((rdOf ByteArray.empty t177 x6_1).size : Int)))) = true := decide_eq_true c9
                by_cases c10 : (wrap64 (a1 + ((rdOf ByteArray.empty t177 x6_1).size : Int))) ≤ (a0.size : Int)
                · rw [if_pos c10] at H
                  have c10b0 := eq_true c10
                  have c10b1 : decide ((wrap64 (a1 + ((rdOf ByteArray.empty t177 x6_1).size : Int))) ≤ (a0.size : Int)) = true := decide_eq_true c10
                  by_cases c11 : (a0.extract (a1 : Int).toNat ((wrap64 (a1 + ((rdOf ByteArray.empty t177 x6_1).size : Int))) : Int).toNat).toList = (rdOf ByteArray.empty t177 x6_1).toList
                  · rw [if_pos c11] at H
                    have c11b0 : ((a0.extract (a1 : Int).toNat ((wrap64 (a1 + ((rdOf ByteArray.empty t177 x6_1).size : Int))) : Int).toNat).toList == (rdOf ByteArray.empty t177 x6_1).toList) = true := beq_iff_eq.mpr c11
                    have c11b1 : ((a0.extract (a1 : Int).toNat ((wrap64 (a1 + ((rdOf ByteArray.empty t177 x6_1).size : Int))) : Int).toNat).toList != (rdOf ByteArray.empty t177 x6_1).toList) = false := bne_eq_false_iff_eq.mpr c11
                    clear c11
                    obtain rfl := Option.some.inj H
                    obtain ⟨Ao12, co12, eo12⟩ := Kd.R_slice HO_5.out
                    subst eo12
                    have p180 : 0 ≤ (x6_1 : Int) := of_decide_eq_true (by first | (with_reducible assumption) | assumption)
                    have q180 : x6_1 < (t177.length : Int) := of_decide_eq_true (by first | (with_reducible assumption) | assumption)
                    obtain ⟨ad180, e180, hx180_0⟩ := Kd.at_string (Kd.R_reads' HO_5.out).2.2 x6_1 p180 q180
                    cases e180
                    replace p180 := eq_true p180
                    replace q180 := eq_true q180
                    have p181 : 0 ≤ (x6_1 : Int) := of_decide_eq_true (by first | (with_reducible assumption) | assumption)
                    have q181 : x6_1 < (t177.length : Int) := of_decide_eq_true (by first | (with_reducible assumption) | assumption)
                    obtain ⟨ad181, e181, hx181_0⟩ := Kd.at_string (Kd.R_reads' HO_5.out).2.2 x6_1 p181 q181
                    obtain rfl : ad180 = ad181 := (by injection e181)
                    replace p181 := eq_true p181
                    replace q181 := eq_true q181
                    have p182 : 0 ≤ (x6_1 : Int) := of_decide_eq_true (by first | (with_reducible assumption) | assumption)
                    have q182 : x6_1 < (t177.length : Int) := of_decide_eq_true (by first | (with_reducible assumption) | assumption)
                    obtain ⟨ad182, e182, hx182_0⟩ := Kd.at_string (Kd.R_reads' HO_5.out).2.2 x6_1 p182 q182
                    obtain rfl : ad180 = ad182 := (by injection e182)
                    replace p182 := eq_true p182
                    replace q182 := eq_true q182
                    have p183 : 0 ≤ (x6_1 : Int) := of_decide_eq_true (by first | (with_reducible assumption) | assumption)
                    have q183 : x6_1 < (t177.length : Int) := of_decide_eq_true (by first | (with_reducible assumption) | assumption)
                    obtain ⟨ad183, e183, hx183_0⟩ := Kd.at_string (Kd.R_reads' HO_5.out).2.2 x6_1 p183 q183
                    obtain rfl : ad180 = ad183 := (by injection e183)
                    replace p183 := eq_true p183
                    replace q183 := eq_true q183
                    go_wp2
                    repeat (go_quiet (fail); try go_wp2)
                    go_ret
                    exact ⟨by first | rfl | (simp [errW_none, errW_some] <;> rfl) | (simp [*, errW_none, errW_some] <;> rfl), by repeat (first | (with_reducible first | exact HB.out | apply below_alloc | apply pw_below_drewN | apply below_drew1) | exact HB.out)⟩
                  · rw [if_neg c11] at H
                    have c11b0 : ((a0.extract (a1 : Int).toNat ((wrap64 (a1 + ((rdOf ByteArray.empty t177 x6_1).size : Int))) : Int).toNat).toList == (rdOf ByteArray.empty t177 x6_1).toList) = false := beq_eq_false_iff_ne.mpr c11
                    have c11b1 : ((a0.extract (a1 : Int).toNat ((wrap64 (a1 + ((rdOf ByteArray.empty t177 x6_1).size : Int))) : Int).toNat).toList != (rdOf ByteArray.empty t177 x6_1).toList) = true := bne_iff_ne.mpr c11
                    have H' := Aside0.mk H
                    clear H
                    obtain ⟨Ao13, co13, eo13⟩ := Kd.R_slice HO_5.out
                    subst eo13
                    have p180 : 0 ≤ (x6_1 : Int) := of_decide_eq_true (by first | (with_reducible assumption) | assumption)
                    have q180 : x6_1 < (t177.length : Int) := of_decide_eq_true (by first | (with_reducible assumption) | assumption)
                    obtain ⟨ad180, e180, hx180_0⟩ := Kd.at_string (Kd.R_reads' HO_5.out).2.2 x6_1 p180 q180
                    cases e180
                    replace p180 := eq_true p180
                    replace q180 := eq_true q180
                    have p181 : 0 ≤ (x6_1 : Int) := of_decide_eq_true (by first | (with_reducible assumption) | assumption)
                    have q181 : x6_1 < (t177.length : Int) := of_decide_eq_true (by first | (with_reducible assumption) | assumption)
                    obtain ⟨ad181, e181, hx181_0⟩ := Kd.at_string (Kd.R_reads' HO_5.out).2.2 x6_1 p181 q181
                    obtain rfl : ad180 = ad181 := (by injection e181)
                    replace p181 := eq_true p181
                    replace q181 := eq_true q181
                    have p182 : 0 ≤ (x6_1 : Int) := of_decide_eq_true (by first | (with_reducible assumption) | assumption)
                    have q182 : x6_1 < (t177.length : Int) := of_decide_eq_true (by first | (with_reducible assumption) | assumption)
                    obtain ⟨ad182, e182, hx182_0⟩ := Kd.at_string (Kd.R_reads' HO_5.out).2.2 x6_1 p182 q182
                    obtain rfl : ad180 = ad182 := (by injection e182)
                    replace p182 := eq_true p182
                    replace q182 := eq_true q182
                    go_wp2
                    repeat (go_quiet (fail); try go_wp2)
                    go_roundg k1
                    case measure => have := HK1.out; omega
                    case rel => exact ⟨(wrap64 (x6_1 + 1)), (by first | rfl | (simp; done) | (simp [*]; done)), H', ⟨by have := HK1.out; omega⟩, ⟨by (with_reducible repeat (first | apply Kd.R_alloc | apply Kd.R_drewN | apply Kd.R_drew)); exact HO_5.out⟩, ⟨by repeat (first | (with_reducible first | exact HB.out | apply below_alloc | apply pw_below_drewN | apply below_drew1) | exact HB.out)⟩⟩
                · rw [if_neg c10] at H
                  exact absurd H (by simp)
              · rw [if_neg c9] at H
                exact absurd H (by simp)
            · rw [if_neg c8] at H
              exact absurd H (by simp)
          · rw [if_neg c7] at H
            have c7b0 : decide (((rdOf ByteArray.empty t177 x6_1).size : Int) ≤ (wrap64 ((a0.size : Int) - a1))) = false := decide_eq_false c7
            clear c7
            have H' := Aside0.mk H
            clear H
            obtain ⟨Ao14, co14, eo14⟩ := Kd.R_slice HO_5.out
            subst eo14
            have p180 : 0 ≤ (x6_1 : Int) := of_decide_eq_true (by first | (with_reducible assumption) | assumption)
            have q180 : x6_1 < (t177.length : Int) := of_decide_eq_true (by first | (with_reducible assumption) | assumption)
            obtain ⟨ad180, e180, hx180_0⟩ := Kd.at_string (Kd.R_reads' HO_5.out).2.2 x6_1 p180 q180
            cases e180
            replace p180 := eq_true p180
            replace q180 := eq_true q180
            go_wp2
            repeat (go_quiet (fail); try go_wp2)
            go_roundg k1
            case measure => have := HK1.out; omega
            case rel => exact ⟨(wrap64 (x6_1 + 1)), (by first | rfl | (simp; done) | (simp [*]; done)), H', ⟨by have := HK1.out; omega⟩, ⟨by (with_reducible repeat (first | apply Kd.R_alloc | apply Kd.R_drewN | apply Kd.R_drew)); exact HO_5.out⟩, ⟨by repeat (first | (with_reducible first | exact HB.out | apply below_alloc | apply pw_below_drewN | apply below_drew1) | exact HB.out)⟩⟩
        · rw [if_neg c6] at H
          exact absurd H (by simp)
      · rw [if_neg c5] at H
        have c5b0 : decide (x6_1 < (t177.length : Int)) = false := decide_eq_false c5
        clear c5
        obtain rfl := Option.some.inj H
        obtain ⟨Ao15, co15, eo15⟩ := Kd.R_slice HO_5.out
        subst eo15
        go_wp2
        repeat (go_quiet (fail); try go_wp2)
        go_ret
        exact ⟨by first | rfl | (simp [errW_none, errW_some] <;> rfl) | (simp [*, errW_none, errW_some] <;> rfl), by repeat (first | (with_reducible first | exact HB.out | apply below_alloc | apply pw_below_drewN | apply below_drew1) | exact HB.out)⟩

end Go.Proofs.YtdkloonoeklgaaaDoor.X
