-- Written by this session's own program (wip/tools/xprint.py).
import Derived.Test.YtdkloonoeklgaaaDoorX0
import Derived.Test.YtdkloonoeklgaaaDoorX5
import Derived.Test.YtdkloonoeklgaaaDoorXa
namespace Go.Proofs.YtdkloonoeklgaaaDoor.X
open Go.RowKit Go.Proofs.YtdkloonoeklgaaaDoorW.PrintWords Go.Proofs.YtdkloonoeklgaaaDoorW.PrintLast Go.Proofs.YtdkloonoeklgaaaDoorW.PrintMore
attribute [local go_sem] max2_int min2_int max_two min_two max_three min_three max_four min_four   -- for this text's walks alone
set_option linter.unusedVariables false
set_option linter.unusedSimpArgs false

/-! ### interleavelaw01_TokenBlanks: function 6 -/
mutual
def interleavelaw01_TokenBlanks.l0 : Nat → List (S27) → ByteArray → Int → Option (Bool)
  | 0, _, _, _ => none
  | k + 1, x3, x6, x7 => if x7 < (x3.length : Int) then (if 0 ≤ x7 then (if x6.size + ((rd_T27 x3 x7).f1).size ≤ 9223372036854775807 then (if (x6 ++ ((rd_T27 x3 x7).f1)).size + 1 ≤ 9223372036854775807 then (interleavelaw01_TokenBlanks.l0 k x3 ((x6 ++ ((rd_T27 x3 x7).f1)) ++ (⟨#[32]⟩ : ByteArray)) (wrap64 (x7 + 1))) else (none)) else (none)) else (none)) else ((token_Scan.f k x6).bind fun bt246 => (if bt246.2.1 = 0 then (interleavelaw01_TokenBlanks.j1 k x3 bt246.1 ((x3.length : Int) != (bt246.1.length : Int))) else (interleavelaw01_TokenBlanks.j1 k x3 bt246.1 true)))
def interleavelaw01_TokenBlanks.j1 : Nat → List (S27) → List (S27) → Bool → Option (Bool)
  | 0, _, _, _ => none
  | k + 1, x3, x8, x54 => if x54 = true then (some false) else (interleavelaw01_TokenBlanks.l1 k x3 x8 0)
def interleavelaw01_TokenBlanks.l1 : Nat → List (S27) → List (S27) → Int → Option (Bool)
  | 0, _, _, _ => none
  | k + 1, x3, x8, x11 => if x11 < (x3.length : Int) then (if 0 ≤ x11 then (if x11 < (x8.length : Int) then (if ((rd_T27 x3 x11).f0) = ((rd_T27 x8 x11).f0) then (if ((rd_T27 x3 x11).f1).toList = ((rd_T27 x8 x11).f1).toList then (if ((rd_T27 x8 x11).f2) = 1 then (interleavelaw01_TokenBlanks.l1 k x3 x8 (wrap64 (x11 + 1))) else (some false)) else (some false)) else (some false)) else (none)) else (none)) else ((interleavelaw01_awake.f k).bind fun t256 => (some t256))
end
def interleavelaw01_TokenBlanks.f (k : Nat) (a0 : ByteArray) : Option (Bool) := if (a0.size : Int) > 1000 then (some true) else ((token_Scan.f k a0).bind fun bt240 => (if bt240.2.1 = 0 then (interleavelaw01_TokenBlanks.l0 k bt240.1 (⟨#[]⟩ : ByteArray) 0) else (some ((bt240.1.length : Int) == 0))))
theorem interleavelaw01_TokenBlanks.mono_l : ∀ k, (∀ y0 y1 y2, LeO (interleavelaw01_TokenBlanks.l0 k y0 y1 y2) (interleavelaw01_TokenBlanks.l0 (k + 1) y0 y1 y2)) ∧ (∀ y0 y1 y2, LeO (interleavelaw01_TokenBlanks.j1 k y0 y1 y2) (interleavelaw01_TokenBlanks.j1 (k + 1) y0 y1 y2)) ∧ (∀ y0 y1 y2, LeO (interleavelaw01_TokenBlanks.l1 k y0 y1 y2) (interleavelaw01_TokenBlanks.l1 (k + 1) y0 y1 y2))
  | 0 => ⟨fun _ _ _ r h => by simp [interleavelaw01_TokenBlanks.l0] at h, fun _ _ _ r h => by simp [interleavelaw01_TokenBlanks.j1] at h, fun _ _ _ r h => by simp [interleavelaw01_TokenBlanks.l1] at h⟩
  | k + 1 => by
    obtain ⟨ih0, ih1, ih2⟩ := interleavelaw01_TokenBlanks.mono_l k
    refine ⟨?_, ?_, ?_⟩
    · intro y0 y1 y2
      unfold interleavelaw01_TokenBlanks.l0
      repeat' first
      | (with_reducible exact ih0 _ _ _)
      | (with_reducible exact ih1 _ _ _)
      | (with_reducible exact ih2 _ _ _)
      | (with_reducible exact interleavelaw01_awake.mono _)
      | (with_reducible exact token_Scan.mono _ _)
      | (with_reducible exact LeO.refl _)
      | (with_reducible exact LeO.none _)
      | (with_reducible refine LeO.ite ?_ ?_)
      | (with_reducible refine LeO.bind ?_ (fun _ => ?_))
      | exact ih0 _ _ _
      | exact ih1 _ _ _
      | exact ih2 _ _ _
      | exact interleavelaw01_awake.mono _
      | exact token_Scan.mono _ _
      | exact LeO.none _
      | refine LeO.ite ?_ ?_
      | refine LeO.bind ?_ (fun _ => ?_)
    · intro y0 y1 y2
      unfold interleavelaw01_TokenBlanks.j1
      repeat' first
      | (with_reducible exact ih0 _ _ _)
      | (with_reducible exact ih1 _ _ _)
      | (with_reducible exact ih2 _ _ _)
      | (with_reducible exact interleavelaw01_awake.mono _)
      | (with_reducible exact token_Scan.mono _ _)
      | (with_reducible exact LeO.refl _)
      | (with_reducible exact LeO.none _)
      | (with_reducible refine LeO.ite ?_ ?_)
      | (with_reducible refine LeO.bind ?_ (fun _ => ?_))
      | exact ih0 _ _ _
      | exact ih1 _ _ _
      | exact ih2 _ _ _
      | exact interleavelaw01_awake.mono _
      | exact token_Scan.mono _ _
      | exact LeO.none _
      | refine LeO.ite ?_ ?_
      | refine LeO.bind ?_ (fun _ => ?_)
    · intro y0 y1 y2
      unfold interleavelaw01_TokenBlanks.l1
      repeat' first
      | (with_reducible exact ih0 _ _ _)
      | (with_reducible exact ih1 _ _ _)
      | (with_reducible exact ih2 _ _ _)
      | (with_reducible exact interleavelaw01_awake.mono _)
      | (with_reducible exact token_Scan.mono _ _)
      | (with_reducible exact LeO.refl _)
      | (with_reducible exact LeO.none _)
      | (with_reducible refine LeO.ite ?_ ?_)
      | (with_reducible refine LeO.bind ?_ (fun _ => ?_))
      | exact ih0 _ _ _
      | exact ih1 _ _ _
      | exact ih2 _ _ _
      | exact interleavelaw01_awake.mono _
      | exact token_Scan.mono _ _
      | exact LeO.none _
      | refine LeO.ite ?_ ?_
      | refine LeO.bind ?_ (fun _ => ?_)
theorem interleavelaw01_TokenBlanks.mono : ∀ a0 k, LeO (interleavelaw01_TokenBlanks.f k a0) (interleavelaw01_TokenBlanks.f (k + 1) a0) := by
  intro a0 k
  obtain ⟨ih0, ih1, ih2⟩ := interleavelaw01_TokenBlanks.mono_l k
  unfold interleavelaw01_TokenBlanks.f
  repeat' first
      | (with_reducible exact ih0 _ _ _)
      | (with_reducible exact ih1 _ _ _)
      | (with_reducible exact ih2 _ _ _)
      | (with_reducible exact interleavelaw01_awake.mono _)
      | (with_reducible exact token_Scan.mono _ _)
      | (with_reducible exact LeO.refl _)
      | (with_reducible exact LeO.none _)
      | (with_reducible refine LeO.ite ?_ ?_)
      | (with_reducible refine LeO.bind ?_ (fun _ => ?_))
      | exact ih0 _ _ _
      | exact ih1 _ _ _
      | exact ih2 _ _ _
      | exact interleavelaw01_awake.mono _
      | exact token_Scan.mono _ _
      | exact LeO.none _
      | refine LeO.ite ?_ ?_
      | refine LeO.bind ?_ (fun _ => ?_)
set_option maxHeartbeats 8000000 in
set_option maxRecDepth 100000 in
theorem interleavelaw01_TokenBlanks.calls (k : Nat) (a0 : ByteArray) (r : Bool) (w : World) (hG : GW w) (h : interleavelaw01_TokenBlanks.f k a0 = some r) :
    Calls Tryd.prog 6 #[.string a0] w fun e w' => e = .returned (.bool r) ∧ Below w.heap.size w w' := by
  have HG := Aside0.mk hG
  clear hG
  have HB := Aside0.mk (Below.refl w.heap.size w)
  have H : (if (a0.size : Int) > 1000 then (some true) else ((token_Scan.f k a0).bind fun bt240 => (if bt240.2.1 = 0 then (interleavelaw01_TokenBlanks.l0 k bt240.1 (⟨#[]⟩ : ByteArray) 0) else (some ((bt240.1.length : Int) == 0))))) = some r := h
  clear h
  by_cases c2 : (a0.size : Int) > 1000
  · rw [if_pos c2] at H
    have c2b0 : decide (1000 < (a0.size : Int)) = true := decide_eq_true c2
    have c2b1 : decide (1000 < a0.size) = true := decide_eq_true (by omega)
    clear c2
    obtain rfl := Option.some.inj H
    go_enter Tryd.func6, Tryd.ntmps6
    go_wp2
    repeat (go_quiet (fail); try go_wp2)
    go_ret
    exact ⟨by first | rfl | (simp [errW_none, errW_some] <;> rfl) | (simp [*, errW_none, errW_some] <;> rfl), by repeat (first | (with_reducible first | exact HB.out | apply below_alloc | apply pw_below_drewN | apply below_drew1) | exact HB.out)⟩
  · rw [if_neg c2] at H
    have c2b0 : decide (1000 < (a0.size : Int)) = false := decide_eq_false c2
    have c2b1 : decide (1000 < a0.size) = false := decide_eq_false (by omega)
    clear c2
    replace H := Option.bind_eq_some_iff.mp H
    obtain ⟨⟨t240, t241, t242⟩, A30, H⟩ := H
    replace H : (if t241 = 0 then (interleavelaw01_TokenBlanks.l0 k t240 (⟨#[]⟩ : ByteArray) 0) else (some ((t240.length : Int) == 0))) = some r := H
    have A3 := Aside0.mk A30
    clear A30
    by_cases c4 : t241 = 0
    · rw [if_pos c4] at H
      have c4b0 : (t241 == 0) = true := beq_iff_eq.mpr c4
      have c4b1 : (t241 != 0) = false := bne_eq_false_iff_eq.mpr c4
      clear c4
      have H' := Aside0.mk H
      clear H
      go_enter Tryd.func6, Tryd.ntmps6
      go_wp2_with (first | (go_at_call 11; (with_reducible refine (token_Scan.calls k a0 t240 t241 t242 _ ?side1 A3.out).mono ?_); (case side1 => exact GW.below HG.out (by repeat (first | (with_reducible first | exact HB.out | apply below_alloc | apply pw_below_drewN | apply below_drew1) | exact HB.out))); rintro e w5 ⟨v243, rfl, ho0, hb⟩; have n0_ := Aside0.mk (Kd.R_lower ho0 (below_size (by repeat (first | (with_reducible first | exact HB.out | apply below_alloc | apply pw_below_drewN | apply below_drew1) | exact HB.out)))); have n1_ := Aside0.mk (below_step (by repeat (first | (with_reducible first | exact HB.out | apply below_alloc | apply pw_below_drewN | apply below_drew1) | exact HB.out)) hb); clear HB; have HO244 := n0_; have HB := n1_; clear n0_ n1_; (try clear hb); (try clear hb2); (try clear hk); (try clear hi); (try clear ho0)))
      repeat (go_quiet (first | (go_at_call 11; (with_reducible refine (token_Scan.calls k a0 t240 t241 t242 _ ?side1 A3.out).mono ?_); (case side1 => exact GW.below HG.out (by repeat (first | (with_reducible first | exact HB.out | apply below_alloc | apply pw_below_drewN | apply below_drew1) | exact HB.out))); rintro e w5 ⟨v243, rfl, ho0, hb⟩; have n0_ := Aside0.mk (Kd.R_lower ho0 (below_size (by repeat (first | (with_reducible first | exact HB.out | apply below_alloc | apply pw_below_drewN | apply below_drew1) | exact HB.out)))); have n1_ := Aside0.mk (below_step (by repeat (first | (with_reducible first | exact HB.out | apply below_alloc | apply pw_below_drewN | apply below_drew1) | exact HB.out)) hb); clear HB; have HO244 := n0_; have HB := n1_; clear n0_ n1_; (try clear hb); (try clear hb2); (try clear hk); (try clear hi); (try clear ho0))); try go_wp2_with (first | (go_at_call 11; (with_reducible refine (token_Scan.calls k a0 t240 t241 t242 _ ?side1 A3.out).mono ?_); (case side1 => exact GW.below HG.out (by repeat (first | (with_reducible first | exact HB.out | apply below_alloc | apply pw_below_drewN | apply below_drew1) | exact HB.out))); rintro e w5 ⟨v243, rfl, ho0, hb⟩; have n0_ := Aside0.mk (Kd.R_lower ho0 (below_size (by repeat (first | (with_reducible first | exact HB.out | apply below_alloc | apply pw_below_drewN | apply below_drew1) | exact HB.out)))); have n1_ := Aside0.mk (below_step (by repeat (first | (with_reducible first | exact HB.out | apply below_alloc | apply pw_below_drewN | apply below_drew1) | exact HB.out)) hb); clear HB; have HO244 := n0_; have HB := n1_; clear n0_ n1_; (try clear hb); (try clear hb2); (try clear hk); (try clear hi); (try clear ho0))))
      go_loopg [6, 7] k (fun kq v6 v7 w' => ∃ (x6_1 : ByteArray) (x7_1 : Int), v6 = .string x6_1 ∧ v7 = .int .i64 x7_1 ∧ Aside0 (interleavelaw01_TokenBlanks.l0 kq t240 x6_1 x7_1 = some r) ∧ Aside0 (kq ≤ k) ∧ Aside0 (Kd.R k27 27 w' w.heap.size (fun _ => True) v243 t240) ∧ Aside0 (Below w.heap.size w w'))
      case atStart => exact ⟨((⟨#[]⟩ : ByteArray)), (0), (by first | rfl | (simp; done) | (simp [*]; done)), (by first | rfl | (simp; done) | (simp [*]; done)), H', ⟨Nat.le_refl _⟩, ⟨by (with_reducible repeat (first | apply Kd.R_alloc | apply Kd.R_drewN | apply Kd.R_drew)); exact HO244.out⟩, ⟨by repeat (first | (with_reducible first | exact HB.out | apply below_alloc | apply pw_below_drewN | apply below_drew1) | exact HB.out)⟩⟩
      case round => as_aux_lemma =>
        clear H'
        try clear c2
        try clear c2b0
        try clear c2b1
        try clear p2
        try clear c4
        try clear c4b0
        try clear c4b1
        obtain ⟨x6_1, x7_1, rfl, rfl, HA, HK1, HO_3, HB⟩ := hrel
        cases gk with
        | zero => exact absurd HA.out (by simp [interleavelaw01_TokenBlanks.l0])
        | succ k1 =>
          have H := HA.out
          clear HA
          simp only [interleavelaw01_TokenBlanks.l0] at H
          by_cases c6 : x7_1 < (t240.length : Int)
          · rw [if_pos c6] at H
            have c6b0 : decide (x7_1 < (t240.length : Int)) = true := decide_eq_true c6
            clear c6
            by_cases c7 : 0 ≤ x7_1
            · rw [if_pos c7] at H
              have c7b0 : decide (0 ≤ x7_1) = true := decide_eq_true c7
              clear c7
              by_cases c8 : x6_1.size + ((rd_T27 t240 x7_1).f1).size ≤ 9223372036854775807
              · rw [if_pos c8] at H
                have c8b0 := eq_true c8
                have c8b1 : decide (x6_1.size + ((rd_T27 t240 x7_1).f1).size ≤ 9223372036854775807) = true := decide_eq_true c8
                try have c8b2 : (9223372036854775807 < x6_1.size + ((rd_T27 t240 x7_1).f1).size) = False := eq_false (Nat.not_lt.2 c8)
                by_cases c9 : (x6_1 ++ ((rd_T27 t240 x7_1).f1)).size + 1 ≤ 9223372036854775807
                · rw [if_pos c9] at H
                  have c9b0 := eq_true c9
                  have c9b1 : decide ((x6_1 ++ ((rd_T27 t240 x7_1).f1)).size + 1 ≤ 9223372036854775807) = true := decide_eq_true c9
                  try have c9b2 : (9223372036854775807 < (x6_1 ++ ((rd_T27 t240 x7_1).f1)).size + 1) = False := eq_false (Nat.not_lt.2 c9)
                  try have c9b2x : (9223372036854775807 < x6_1.size + ((rd_T27 t240 x7_1).f1).size + 1) = False := by have h := c9b2; rw [ByteArray.size_append] at h; exact h
                  have H' := Aside0.mk H
                  clear H
                  obtain ⟨Ao10, co10, eo10⟩ := Kd.R_slice HO_3.out
                  subst eo10
                  have p245 : 0 ≤ (x7_1 : Int) := of_decide_eq_true (by first | (with_reducible assumption) | assumption)
                  have q245 : x7_1 < (t240.length : Int) := of_decide_eq_true (by first | (with_reducible assumption) | assumption)
                  obtain ⟨ad245, e245, hx245_0, hx245_1, hx245_2⟩ := at_T27 (Kd.R_reads' HO_3.out).2.2 x7_1 p245 q245
                  cases e245
                  replace p245 := eq_true p245
                  replace q245 := eq_true q245
                  go_wp2
                  repeat (go_quiet (fail); try go_wp2)
                  go_roundg k1
                  case measure => have := HK1.out; omega
                  case rel => exact ⟨((x6_1 ++ ((rd_T27 t240 x7_1).f1)) ++ (⟨#[32]⟩ : ByteArray)), (wrap64 (x7_1 + 1)), (by first | rfl | (simp; done) | (simp [*]; done)), (by first | rfl | (simp; done) | (simp [*]; done)), H', ⟨by have := HK1.out; omega⟩, ⟨by (with_reducible repeat (first | apply Kd.R_alloc | apply Kd.R_drewN | apply Kd.R_drew)); exact HO_3.out⟩, ⟨by repeat (first | (with_reducible first | exact HB.out | apply below_alloc | apply pw_below_drewN | apply below_drew1) | exact HB.out)⟩⟩
                · rw [if_neg c9] at H
                  exact absurd H (by simp)
              · rw [if_neg c8] at H
                exact absurd H (by simp)
            · rw [if_neg c7] at H
              exact absurd H (by simp)
          · rw [if_neg c6] at H
            have c6b0 : decide (x7_1 < (t240.length : Int)) = false := decide_eq_false c6
            clear c6
            replace H := Option.bind_eq_some_iff.mp H
            obtain ⟨⟨t246, t247, t248⟩, A110, H⟩ := H
            replace H : (if t247 = 0 then (interleavelaw01_TokenBlanks.j1 k1 t240 t246 ((t240.length : Int) != (t246.length : Int))) else (interleavelaw01_TokenBlanks.j1 k1 t240 t246 true)) = some r := H
            have A11 := Aside0.mk A110
            clear A110
            have HC12 := Aside0.mk H
            clear H
            obtain ⟨Ao13, co13, eo13⟩ := Kd.R_slice HO_3.out
            subst eo13
            go_upto_region 12 with (first | (go_at_call 11; (with_reducible refine (token_Scan.calls k1 x6_1 t246 t247 t248 _ ?side1 A11.out).mono ?_); (case side1 => exact GW.below HG.out (by repeat (first | (with_reducible first | exact HB.out | apply below_alloc | apply pw_below_drewN | apply below_drew1) | exact HB.out))); rintro e w14 ⟨v249, rfl, ho0, hb⟩; have n0_ := Aside0.mk (Kd.R_elder' (by (with_reducible repeat (first | apply Kd.R_alloc | apply Kd.R_drewN | apply Kd.R_drew)); exact HO_3.out) (Kd.R_base ho0) hb); have n1_ := Aside0.mk (Kd.R_lower (Kd.R_new' ho0 (Kd.R_lt (by (with_reducible repeat (first | apply Kd.R_alloc | apply Kd.R_drewN | apply Kd.R_drew)); exact HO_3.out))) (below_size (by repeat (first | (with_reducible first | exact HB.out | apply below_alloc | apply pw_below_drewN | apply below_drew1) | exact HB.out)))); have n2_ := Aside0.mk (below_step (by repeat (first | (with_reducible first | exact HB.out | apply below_alloc | apply pw_below_drewN | apply below_drew1) | exact HB.out)) hb); clear HO_3; clear HB; have HO_3 := n0_; have HO250 := n1_; have HB := n2_; clear n0_ n1_ n2_; (try clear hb); (try clear hb2); (try clear hk); (try clear hi); (try clear ho0)))
            repeat (go_quiet (first | (go_at_call 11; (with_reducible refine (token_Scan.calls k1 x6_1 t246 t247 t248 _ ?side1 A11.out).mono ?_); (case side1 => exact GW.below HG.out (by repeat (first | (with_reducible first | exact HB.out | apply below_alloc | apply pw_below_drewN | apply below_drew1) | exact HB.out))); rintro e w14 ⟨v249, rfl, ho0, hb⟩; have n0_ := Aside0.mk (Kd.R_elder' (by (with_reducible repeat (first | apply Kd.R_alloc | apply Kd.R_drewN | apply Kd.R_drew)); exact HO_3.out) (Kd.R_base ho0) hb); have n1_ := Aside0.mk (Kd.R_lower (Kd.R_new' ho0 (Kd.R_lt (by (with_reducible repeat (first | apply Kd.R_alloc | apply Kd.R_drewN | apply Kd.R_drew)); exact HO_3.out))) (below_size (by repeat (first | (with_reducible first | exact HB.out | apply below_alloc | apply pw_below_drewN | apply below_drew1) | exact HB.out)))); have n2_ := Aside0.mk (below_step (by repeat (first | (with_reducible first | exact HB.out | apply below_alloc | apply pw_below_drewN | apply below_drew1) | exact HB.out)) hb); clear HO_3; clear HB; have HO_3 := n0_; have HO250 := n1_; have HB := n2_; clear n0_ n1_ n2_; (try clear hb); (try clear hb2); (try clear hk); (try clear hi); (try clear ho0))); go_upto_region 12 with (first | (go_at_call 11; (with_reducible refine (token_Scan.calls k1 x6_1 t246 t247 t248 _ ?side1 A11.out).mono ?_); (case side1 => exact GW.below HG.out (by repeat (first | (with_reducible first | exact HB.out | apply below_alloc | apply pw_below_drewN | apply below_drew1) | exact HB.out))); rintro e w14 ⟨v249, rfl, ho0, hb⟩; have n0_ := Aside0.mk (Kd.R_elder' (by (with_reducible repeat (first | apply Kd.R_alloc | apply Kd.R_drewN | apply Kd.R_drew)); exact HO_3.out) (Kd.R_base ho0) hb); have n1_ := Aside0.mk (Kd.R_lower (Kd.R_new' ho0 (Kd.R_lt (by (with_reducible repeat (first | apply Kd.R_alloc | apply Kd.R_drewN | apply Kd.R_drew)); exact HO_3.out))) (below_size (by repeat (first | (with_reducible first | exact HB.out | apply below_alloc | apply pw_below_drewN | apply below_drew1) | exact HB.out)))); have n2_ := Aside0.mk (below_step (by repeat (first | (with_reducible first | exact HB.out | apply below_alloc | apply pw_below_drewN | apply below_drew1) | exact HB.out)) hb); clear HO_3; clear HB; have HO_3 := n0_; have HO250 := n1_; have HB := n2_; clear n0_ n1_ n2_; (try clear hb); (try clear hb2); (try clear hk); (try clear hi); (try clear ho0))))
            (try simp only [Act.put, List.setIfInBounds_toArray, List.set_cons_zero, List.set_cons_succ])
            go_cut [54] (fun v54 wc => ∃ (kq : Nat) (x54_11 : Bool), v54 = .bool x54_11 ∧ Aside0 (interleavelaw01_TokenBlanks.j1 kq t240 t246 x54_11 = some r) ∧ Aside0 (kq ≤ k1) ∧ Aside0 (Kd.R k27 27 wc w.heap.size (fun k_ => some k_ ≠ (v249 : Value).ownBlock) (.slice Ao13 t240.length co13) t240) ∧ Aside0 (Kd.R k27 27 wc w.heap.size (fun k_ => some k_ ≠ ((.slice Ao13 t240.length co13) : Value).ownBlock) v249 t246) ∧ Aside0 (Below w.heap.size w wc))
            case first => as_aux_lemma =>
              have H := HC12.out
              clear HC12
              by_cases c15 : t247 = 0
              · rw [if_pos c15] at H
                have c15b0 : (t247 == 0) = true := beq_iff_eq.mpr c15
                have c15b1 : (t247 != 0) = false := bne_eq_false_iff_eq.mpr c15
                clear c15
                (first | rw [c15b0] | (simp only [i64_w, i32_w]; rw [c15b0]) | skip)
                have H' := Aside0.mk H
                clear H
                obtain ⟨Ao16, co16, eo16⟩ := Kd.R_slice HO250.out
                subst eo16
                go_wp2
                repeat (go_quiet (fail); try go_wp2)
                go_meet
                case rel => exact ⟨_, (((t240.length : Int) != (t246.length : Int))), (by first | rfl | (simp; done) | (simp [*]; done)), H', ⟨by have := HK1.out; first | omega | exact Nat.le_refl _⟩, ⟨by (with_reducible repeat (first | apply Kd.R_alloc | apply Kd.R_drewN | apply Kd.R_drew)); exact Kd.R_mono HO_3.out (fun _ hk => hk.2)⟩, ⟨by (with_reducible repeat (first | apply Kd.R_alloc | apply Kd.R_drewN | apply Kd.R_drew)); exact Kd.R_mono HO250.out (fun _ hk => hk.2)⟩, ⟨by repeat (first | (with_reducible first | exact HB.out | apply below_alloc | apply pw_below_drewN | apply below_drew1) | exact HB.out)⟩⟩
              · rw [if_neg c15] at H
                have c15b0 : (t247 == 0) = false := beq_eq_false_iff_ne.mpr c15
                have c15b1 : (t247 != 0) = true := bne_iff_ne.mpr c15
                (first | rw [c15b0] | (simp only [i64_w, i32_w]; rw [c15b0]) | skip)
                have H' := Aside0.mk H
                clear H
                go_wp2
                repeat (go_quiet (fail); try go_wp2)
                go_meet
                case rel => exact ⟨_, (true), (by first | rfl | (simp; done) | (simp [*]; done)), H', ⟨by have := HK1.out; first | omega | exact Nat.le_refl _⟩, ⟨by (with_reducible repeat (first | apply Kd.R_alloc | apply Kd.R_drewN | apply Kd.R_drew)); exact Kd.R_mono HO_3.out (fun _ hk => hk.2)⟩, ⟨by (with_reducible repeat (first | apply Kd.R_alloc | apply Kd.R_drewN | apply Kd.R_drew)); exact Kd.R_mono HO250.out (fun _ hk => hk.2)⟩, ⟨by repeat (first | (with_reducible first | exact HB.out | apply below_alloc | apply pw_below_drewN | apply below_drew1) | exact HB.out)⟩⟩
            case rest => as_aux_lemma =>
              clear HC12
              try clear c1
              try clear c2
              try clear c2b0
              try clear c2b1
              try clear p2
              try clear q2
              try clear hx2
              try clear c4
              try clear c4b0
              try clear c4b1
              try clear c6
              try clear c6b0
              try clear p6
              try clear c7
              try clear c7b0
              try clear c8
              try clear c8b0
              try clear c8b1
              try clear c8b2
              try clear c9
              try clear c9b0
              try clear c9b1
              try clear c9b2
              try clear c15
              try clear c15b0
              try clear c15b1
              try clear hx245_0
              try clear hx245_1
              try clear hx245_2
              try clear p2
              try clear p245
              try clear q245
              obtain ⟨kq, x54_11, rfl, HA, HJ11, HO_3, HO_8, HB⟩ := hcut
              cases kq with
              | zero => exact absurd HA.out (by simp [interleavelaw01_TokenBlanks.j1])
              | succ kj11 =>
                have H := HA.out
                clear HA
                simp only [interleavelaw01_TokenBlanks.j1] at H
                by_cases c17 : x54_11 = true
                · subst c17
                  have H1 : (some false) = some r := by rw [if_pos rfl] at H; exact H
                  clear H
                  have H := H1
                  clear H1
                  obtain rfl := Option.some.inj H
                  go_wp2
                  repeat (go_quiet (fail); try go_wp2)
                  go_ret
                  exact ⟨by first | rfl | (simp [errW_none, errW_some] <;> rfl) | (simp [*, errW_none, errW_some] <;> rfl), by repeat (first | (with_reducible first | exact HB.out | apply below_alloc | apply pw_below_drewN | apply below_drew1) | exact HB.out)⟩
                · replace c17 := Bool.eq_false_iff.mpr c17
                  subst c17
                  have H1 : (interleavelaw01_TokenBlanks.l1 kj11 t240 t246 0) = some r := by rw [if_neg (show ¬ (false = true) by decide)] at H; exact H
                  clear H
                  have H := H1
                  clear H1
                  have H' := Aside0.mk H
                  clear H
                  go_wp2
                  repeat (go_quiet (fail); try go_wp2)
                  go_loopg [11] kj11 (fun kq v11 w' => ∃ (x11_3 : Int), v11 = .int .i64 x11_3 ∧ Aside0 (interleavelaw01_TokenBlanks.l1 kq t240 t246 x11_3 = some r) ∧ Aside0 (kq ≤ kj11) ∧ Aside0 (Kd.R k27 27 w' w.heap.size (fun k_ => some k_ ≠ (v249 : Value).ownBlock) (.slice Ao13 t240.length co13) t240) ∧ Aside0 (Kd.R k27 27 w' w.heap.size (fun k_ => some k_ ≠ ((.slice Ao13 t240.length co13) : Value).ownBlock) v249 t246) ∧ Aside0 (Below w.heap.size w w'))
                  case atStart => exact ⟨(0), (by first | rfl | (simp; done) | (simp [*]; done)), H', ⟨Nat.le_refl _⟩, ⟨by (with_reducible repeat (first | apply Kd.R_alloc | apply Kd.R_drewN | apply Kd.R_drew)); exact HO_3.out⟩, ⟨by (with_reducible repeat (first | apply Kd.R_alloc | apply Kd.R_drewN | apply Kd.R_drew)); exact HO_8.out⟩, ⟨by repeat (first | (with_reducible first | exact HB.out | apply below_alloc | apply pw_below_drewN | apply below_drew1) | exact HB.out)⟩⟩
                  case round => as_aux_lemma =>
                    clear H'
                    try clear c1
                    try clear c2
                    try clear c2b0
                    try clear c2b1
                    try clear p2
                    try clear q2
                    try clear hx2
                    try clear c4
                    try clear c4b0
                    try clear c4b1
                    try clear c6
                    try clear c6b0
                    try clear p6
                    try clear c7
                    try clear c7b0
                    try clear c8
                    try clear c8b0
                    try clear c8b1
                    try clear c8b2
                    try clear c9
                    try clear c9b0
                    try clear c9b1
                    try clear c9b2
                    try clear c15
                    try clear c15b0
                    try clear c15b1
                    try clear c17
                    try clear hx245_0
                    try clear hx245_1
                    try clear hx245_2
                    try clear p2
                    try clear p245
                    try clear p6
                    try clear q2
                    try clear q245
                    obtain ⟨x11_3, rfl, HA, HK3, HO_3, HO_8, HB⟩ := hrel
                    cases gk with
                    | zero => exact absurd HA.out (by simp [interleavelaw01_TokenBlanks.l1])
                    | succ k3 =>
                      have H := HA.out
                      clear HA
                      simp only [interleavelaw01_TokenBlanks.l1] at H
                      by_cases c18 : x11_3 < (t240.length : Int)
                      · rw [if_pos c18] at H
                        have c18b0 : decide (x11_3 < (t240.length : Int)) = true := decide_eq_true c18
                        clear c18
                        by_cases c19 : 0 ≤ x11_3
                        · rw [if_pos c19] at H
                          have c19b0 : decide (0 ≤ x11_3) = true := decide_eq_true c19
                          clear c19
                          by_cases c20 : x11_3 < (t246.length : Int)
                          · rw [if_pos c20] at H
                            have c20b0 : decide (x11_3 < (t246.length : Int)) = true := decide_eq_true c20
                            clear c20
                            by_cases c21 : ((rd_T27 t240 x11_3).f0) = ((rd_T27 t246 x11_3).f0)
                            · rw [if_pos c21] at H
                              have c21b0 : (((rd_T27 t240 x11_3).f0) == ((rd_T27 t246 x11_3).f0)) = true := beq_iff_eq.mpr c21
                              have c21b1 : (((rd_T27 t240 x11_3).f0) != ((rd_T27 t246 x11_3).f0)) = false := bne_eq_false_iff_eq.mpr c21
                              clear c21
                              by_cases c22 : ((rd_T27 t240 x11_3).f1).toList = ((rd_T27 t246 x11_3).f1).toList
                              · rw [if_pos c22] at H
                                have c22b0 : (((rd_T27 t240 x11_3).f1).toList == ((rd_T27 t246 x11_3).f1).toList) = true := beq_iff_eq.mpr c22
                                have c22b1 : (((rd_T27 t240 x11_3).f1).toList != ((rd_T27 t246 x11_3).f1).toList) = false := bne_eq_false_iff_eq.mpr c22
                                clear c22
                                by_cases c23 : ((rd_T27 t246 x11_3).f2) = 1
                                · rw [if_pos c23] at H
                                  have c23b0 : (((rd_T27 t246 x11_3).f2) == 1) = true := beq_iff_eq.mpr c23
                                  have c23b1 : (((rd_T27 t246 x11_3).f2) != 1) = false := bne_eq_false_iff_eq.mpr c23
                                  clear c23
                                  have H' := Aside0.mk H
                                  clear H
                                  have p251 : 0 ≤ (x11_3 : Int) := of_decide_eq_true (by first | (with_reducible assumption) | assumption)
                                  have q251 : x11_3 < (t240.length : Int) := of_decide_eq_true (by first | (with_reducible assumption) | assumption)
                                  obtain ⟨ad251, e251, hx251_0, hx251_1, hx251_2⟩ := at_T27 (Kd.R_reads' HO_3.out).2.2 x11_3 p251 q251
                                  cases e251
                                  replace p251 := eq_true p251
                                  replace q251 := eq_true q251
                                  obtain ⟨Ao24, co24, eo24⟩ := Kd.R_slice HO_8.out
                                  subst eo24
                                  have p252 : 0 ≤ (x11_3 : Int) := of_decide_eq_true (by first | (with_reducible assumption) | assumption)
                                  have q252 : x11_3 < (t246.length : Int) := of_decide_eq_true (by first | (with_reducible assumption) | assumption)
                                  obtain ⟨ad252, e252, hx252_0, hx252_1, hx252_2⟩ := at_T27 (Kd.R_reads' HO_8.out).2.2 x11_3 p252 q252
                                  cases e252
                                  replace p252 := eq_true p252
                                  replace q252 := eq_true q252
                                  have p253 : 0 ≤ (x11_3 : Int) := of_decide_eq_true (by first | (with_reducible assumption) | assumption)
                                  have q253 : x11_3 < (t240.length : Int) := of_decide_eq_true (by first | (with_reducible assumption) | assumption)
                                  obtain ⟨ad253, e253, hx253_0, hx253_1, hx253_2⟩ := at_T27 (Kd.R_reads' HO_3.out).2.2 x11_3 p253 q253
                                  obtain rfl : ad251 = ad253 := (by injection e253)
                                  replace p253 := eq_true p253
                                  replace q253 := eq_true q253
                                  have p254 : 0 ≤ (x11_3 : Int) := of_decide_eq_true (by first | (with_reducible assumption) | assumption)
                                  have q254 : x11_3 < (t246.length : Int) := of_decide_eq_true (by first | (with_reducible assumption) | assumption)
                                  obtain ⟨ad254, e254, hx254_0, hx254_1, hx254_2⟩ := at_T27 (Kd.R_reads' HO_8.out).2.2 x11_3 p254 q254
                                  obtain rfl : ad252 = ad254 := (by injection e254)
                                  replace p254 := eq_true p254
                                  replace q254 := eq_true q254
                                  have p255 : 0 ≤ (x11_3 : Int) := of_decide_eq_true (by first | (with_reducible assumption) | assumption)
                                  have q255 : x11_3 < (t246.length : Int) := of_decide_eq_true (by first | (with_reducible assumption) | assumption)
                                  obtain ⟨ad255, e255, hx255_0, hx255_1, hx255_2⟩ := at_T27 (Kd.R_reads' HO_8.out).2.2 x11_3 p255 q255
                                  obtain rfl : ad252 = ad255 := (by injection e255)
                                  replace p255 := eq_true p255
                                  replace q255 := eq_true q255
                                  go_wp2
                                  repeat (go_quiet (fail); try go_wp2)
                                  go_roundg k3
                                  case measure => have := HK1.out; have := HJ11.out; have := HK3.out; omega
                                  case rel => exact ⟨(wrap64 (x11_3 + 1)), (by first | rfl | (simp; done) | (simp [*]; done)), H', ⟨by have := HK1.out; have := HJ11.out; have := HK3.out; omega⟩, ⟨by (with_reducible repeat (first | apply Kd.R_alloc | apply Kd.R_drewN | apply Kd.R_drew)); exact HO_3.out⟩, ⟨by (with_reducible repeat (first | apply Kd.R_alloc | apply Kd.R_drewN | apply Kd.R_drew)); exact HO_8.out⟩, ⟨by repeat (first | (with_reducible first | exact HB.out | apply below_alloc | apply pw_below_drewN | apply below_drew1) | exact HB.out)⟩⟩
                                · rw [if_neg c23] at H
                                  have c23b0 : (((rd_T27 t246 x11_3).f2) == 1) = false := beq_eq_false_iff_ne.mpr c23
                                  have c23b1 : (((rd_T27 t246 x11_3).f2) != 1) = true := bne_iff_ne.mpr c23
                                  obtain rfl := Option.some.inj H
                                  have p251 : 0 ≤ (x11_3 : Int) := of_decide_eq_true (by first | (with_reducible assumption) | assumption)
                                  have q251 : x11_3 < (t240.length : Int) := of_decide_eq_true (by first | (with_reducible assumption) | assumption)
                                  obtain ⟨ad251, e251, hx251_0, hx251_1, hx251_2⟩ := at_T27 (Kd.R_reads' HO_3.out).2.2 x11_3 p251 q251
                                  cases e251
                                  replace p251 := eq_true p251
                                  replace q251 := eq_true q251
                                  obtain ⟨Ao25, co25, eo25⟩ := Kd.R_slice HO_8.out
                                  subst eo25
                                  have p252 : 0 ≤ (x11_3 : Int) := of_decide_eq_true (by first | (with_reducible assumption) | assumption)
                                  have q252 : x11_3 < (t246.length : Int) := of_decide_eq_true (by first | (with_reducible assumption) | assumption)
                                  obtain ⟨ad252, e252, hx252_0, hx252_1, hx252_2⟩ := at_T27 (Kd.R_reads' HO_8.out).2.2 x11_3 p252 q252
                                  cases e252
                                  replace p252 := eq_true p252
                                  replace q252 := eq_true q252
                                  have p253 : 0 ≤ (x11_3 : Int) := of_decide_eq_true (by first | (with_reducible assumption) | assumption)
                                  have q253 : x11_3 < (t240.length : Int) := of_decide_eq_true (by first | (with_reducible assumption) | assumption)
                                  obtain ⟨ad253, e253, hx253_0, hx253_1, hx253_2⟩ := at_T27 (Kd.R_reads' HO_3.out).2.2 x11_3 p253 q253
                                  obtain rfl : ad251 = ad253 := (by injection e253)
                                  replace p253 := eq_true p253
                                  replace q253 := eq_true q253
                                  have p254 : 0 ≤ (x11_3 : Int) := of_decide_eq_true (by first | (with_reducible assumption) | assumption)
                                  have q254 : x11_3 < (t246.length : Int) := of_decide_eq_true (by first | (with_reducible assumption) | assumption)
                                  obtain ⟨ad254, e254, hx254_0, hx254_1, hx254_2⟩ := at_T27 (Kd.R_reads' HO_8.out).2.2 x11_3 p254 q254
                                  obtain rfl : ad252 = ad254 := (by injection e254)
                                  replace p254 := eq_true p254
                                  replace q254 := eq_true q254
                                  have p255 : 0 ≤ (x11_3 : Int) := of_decide_eq_true (by first | (with_reducible assumption) | assumption)
                                  have q255 : x11_3 < (t246.length : Int) := of_decide_eq_true (by first | (with_reducible assumption) | assumption)
                                  obtain ⟨ad255, e255, hx255_0, hx255_1, hx255_2⟩ := at_T27 (Kd.R_reads' HO_8.out).2.2 x11_3 p255 q255
                                  obtain rfl : ad252 = ad255 := (by injection e255)
                                  replace p255 := eq_true p255
                                  replace q255 := eq_true q255
                                  go_wp2
                                  repeat (go_quiet (fail); try go_wp2)
                                  go_ret
                                  exact ⟨by first | rfl | (simp [errW_none, errW_some] <;> rfl) | (simp [*, errW_none, errW_some] <;> rfl), by repeat (first | (with_reducible first | exact HB.out | apply below_alloc | apply pw_below_drewN | apply below_drew1) | exact HB.out)⟩
                              · rw [if_neg c22] at H
                                have c22b0 : (((rd_T27 t240 x11_3).f1).toList == ((rd_T27 t246 x11_3).f1).toList) = false := beq_eq_false_iff_ne.mpr c22
                                have c22b1 : (((rd_T27 t240 x11_3).f1).toList != ((rd_T27 t246 x11_3).f1).toList) = true := bne_iff_ne.mpr c22
                                obtain rfl := Option.some.inj H
                                have p251 : 0 ≤ (x11_3 : Int) := of_decide_eq_true (by first | (with_reducible assumption) | assumption)
                                have q251 : x11_3 < (t240.length : Int) := of_decide_eq_true (by first | (with_reducible assumption) | assumption)
                                obtain ⟨ad251, e251, hx251_0, hx251_1, hx251_2⟩ := at_T27 (Kd.R_reads' HO_3.out).2.2 x11_3 p251 q251
                                cases e251
                                replace p251 := eq_true p251
                                replace q251 := eq_true q251
                                obtain ⟨Ao26, co26, eo26⟩ := Kd.R_slice HO_8.out
                                subst eo26
                                have p252 : 0 ≤ (x11_3 : Int) := of_decide_eq_true (by first | (with_reducible assumption) | assumption)
                                have q252 : x11_3 < (t246.length : Int) := of_decide_eq_true (by first | (with_reducible assumption) | assumption)
                                obtain ⟨ad252, e252, hx252_0, hx252_1, hx252_2⟩ := at_T27 (Kd.R_reads' HO_8.out).2.2 x11_3 p252 q252
                                cases e252
                                replace p252 := eq_true p252
                                replace q252 := eq_true q252
                                have p253 : 0 ≤ (x11_3 : Int) := of_decide_eq_true (by first | (with_reducible assumption) | assumption)
                                have q253 : x11_3 < (t240.length : Int) := of_decide_eq_true (by first | (with_reducible assumption) | assumption)
                                obtain ⟨ad253, e253, hx253_0, hx253_1, hx253_2⟩ := at_T27 (Kd.R_reads' HO_3.out).2.2 x11_3 p253 q253
                                obtain rfl : ad251 = ad253 := (by injection e253)
                                replace p253 := eq_true p253
                                replace q253 := eq_true q253
                                have p254 : 0 ≤ (x11_3 : Int) := of_decide_eq_true (by first | (with_reducible assumption) | assumption)
                                have q254 : x11_3 < (t246.length : Int) := of_decide_eq_true (by first | (with_reducible assumption) | assumption)
                                obtain ⟨ad254, e254, hx254_0, hx254_1, hx254_2⟩ := at_T27 (Kd.R_reads' HO_8.out).2.2 x11_3 p254 q254
                                obtain rfl : ad252 = ad254 := (by injection e254)
                                replace p254 := eq_true p254
                                replace q254 := eq_true q254
                                go_wp2
                                repeat (go_quiet (fail); try go_wp2)
                                go_ret
                                exact ⟨by first | rfl | (simp [errW_none, errW_some] <;> rfl) | (simp [*, errW_none, errW_some] <;> rfl), by repeat (first | (with_reducible first | exact HB.out | apply below_alloc | apply pw_below_drewN | apply below_drew1) | exact HB.out)⟩
                            · rw [if_neg c21] at H
                              have c21b0 : (((rd_T27 t240 x11_3).f0) == ((rd_T27 t246 x11_3).f0)) = false := beq_eq_false_iff_ne.mpr c21
                              have c21b1 : (((rd_T27 t240 x11_3).f0) != ((rd_T27 t246 x11_3).f0)) = true := bne_iff_ne.mpr c21
                              obtain rfl := Option.some.inj H
                              have p251 : 0 ≤ (x11_3 : Int) := of_decide_eq_true (by first | (with_reducible assumption) | assumption)
                              have q251 : x11_3 < (t240.length : Int) := of_decide_eq_true (by first | (with_reducible assumption) | assumption)
                              obtain ⟨ad251, e251, hx251_0, hx251_1, hx251_2⟩ := at_T27 (Kd.R_reads' HO_3.out).2.2 x11_3 p251 q251
                              cases e251
                              replace p251 := eq_true p251
                              replace q251 := eq_true q251
                              obtain ⟨Ao27, co27, eo27⟩ := Kd.R_slice HO_8.out
                              subst eo27
                              have p252 : 0 ≤ (x11_3 : Int) := of_decide_eq_true (by first | (with_reducible assumption) | assumption)
                              have q252 : x11_3 < (t246.length : Int) := of_decide_eq_true (by first | (with_reducible assumption) | assumption)
                              obtain ⟨ad252, e252, hx252_0, hx252_1, hx252_2⟩ := at_T27 (Kd.R_reads' HO_8.out).2.2 x11_3 p252 q252
                              cases e252
                              replace p252 := eq_true p252
                              replace q252 := eq_true q252
                              go_wp2
                              repeat (go_quiet (fail); try go_wp2)
                              go_ret
                              exact ⟨by first | rfl | (simp [errW_none, errW_some] <;> rfl) | (simp [*, errW_none, errW_some] <;> rfl), by repeat (first | (with_reducible first | exact HB.out | apply below_alloc | apply pw_below_drewN | apply below_drew1) | exact HB.out)⟩
                          · rw [if_neg c20] at H
                            exact absurd H (by simp)
                        · rw [if_neg c19] at H
                          exact absurd H (by simp)
                      · rw [if_neg c18] at H
                        have c18b0 : decide (x11_3 < (t240.length : Int)) = false := decide_eq_false c18
                        clear c18
                        replace H := Option.bind_eq_some_iff.mp H
                        obtain ⟨t256, A280, H⟩ := H
                        replace H : (some t256) = some r := H
                        have A28 := Aside0.mk A280
                        clear A280
                        obtain rfl := Option.some.inj H
                        go_wp2_with (first | (go_at_call 14; (with_reducible refine (interleavelaw01_awake.calls k3  t256 _ ?side1 A28.out).mono ?_); (case side1 => exact GW.below HG.out (by repeat (first | (with_reducible first | exact HB.out | apply below_alloc | apply pw_below_drewN | apply below_drew1) | exact HB.out))); rintro e w29 ⟨rfl, hb⟩; have n0_ := Aside0.mk (Kd.R_below (by (with_reducible repeat (first | apply Kd.R_alloc | apply Kd.R_drewN | apply Kd.R_drew)); exact HO_3.out) hb); have n1_ := Aside0.mk (Kd.R_below (by (with_reducible repeat (first | apply Kd.R_alloc | apply Kd.R_drewN | apply Kd.R_drew)); exact HO_8.out) hb); have n2_ := Aside0.mk (below_step (by repeat (first | (with_reducible first | exact HB.out | apply below_alloc | apply pw_below_drewN | apply below_drew1) | exact HB.out)) hb); clear HO_3; clear HO_8; clear HB; have HO_3 := n0_; have HO_8 := n1_; have HB := n2_; clear n0_ n1_ n2_; (try clear hb); (try clear hb2); (try clear hk); (try clear hi)))
                        repeat (go_quiet (first | (go_at_call 14; (with_reducible refine (interleavelaw01_awake.calls k3  t256 _ ?side1 A28.out).mono ?_); (case side1 => exact GW.below HG.out (by repeat (first | (with_reducible first | exact HB.out | apply below_alloc | apply pw_below_drewN | apply below_drew1) | exact HB.out))); rintro e w29 ⟨rfl, hb⟩; have n0_ := Aside0.mk (Kd.R_below (by (with_reducible repeat (first | apply Kd.R_alloc | apply Kd.R_drewN | apply Kd.R_drew)); exact HO_3.out) hb); have n1_ := Aside0.mk (Kd.R_below (by (with_reducible repeat (first | apply Kd.R_alloc | apply Kd.R_drewN | apply Kd.R_drew)); exact HO_8.out) hb); have n2_ := Aside0.mk (below_step (by repeat (first | (with_reducible first | exact HB.out | apply below_alloc | apply pw_below_drewN | apply below_drew1) | exact HB.out)) hb); clear HO_3; clear HO_8; clear HB; have HO_3 := n0_; have HO_8 := n1_; have HB := n2_; clear n0_ n1_ n2_; (try clear hb); (try clear hb2); (try clear hk); (try clear hi))); try go_wp2_with (first | (go_at_call 14; (with_reducible refine (interleavelaw01_awake.calls k3  t256 _ ?side1 A28.out).mono ?_); (case side1 => exact GW.below HG.out (by repeat (first | (with_reducible first | exact HB.out | apply below_alloc | apply pw_below_drewN | apply below_drew1) | exact HB.out))); rintro e w29 ⟨rfl, hb⟩; have n0_ := Aside0.mk (Kd.R_below (by (with_reducible repeat (first | apply Kd.R_alloc | apply Kd.R_drewN | apply Kd.R_drew)); exact HO_3.out) hb); have n1_ := Aside0.mk (Kd.R_below (by (with_reducible repeat (first | apply Kd.R_alloc | apply Kd.R_drewN | apply Kd.R_drew)); exact HO_8.out) hb); have n2_ := Aside0.mk (below_step (by repeat (first | (with_reducible first | exact HB.out | apply below_alloc | apply pw_below_drewN | apply below_drew1) | exact HB.out)) hb); clear HO_3; clear HO_8; clear HB; have HO_3 := n0_; have HO_8 := n1_; have HB := n2_; clear n0_ n1_ n2_; (try clear hb); (try clear hb2); (try clear hk); (try clear hi))))
                        go_ret
                        exact ⟨by first | rfl | (simp [errW_none, errW_some] <;> rfl) | (simp [*, errW_none, errW_some] <;> rfl), by repeat (first | (with_reducible first | exact HB.out | apply below_alloc | apply pw_below_drewN | apply below_drew1) | exact HB.out)⟩
    · rw [if_neg c4] at H
      have c4b0 : (t241 == 0) = false := beq_eq_false_iff_ne.mpr c4
      have c4b1 : (t241 != 0) = true := bne_iff_ne.mpr c4
      obtain rfl := Option.some.inj H
      go_enter Tryd.func6, Tryd.ntmps6
      go_wp2_with (first | (go_at_call 11; (with_reducible refine (token_Scan.calls k a0 t240 t241 t242 _ ?side1 A3.out).mono ?_); (case side1 => exact GW.below HG.out (by repeat (first | (with_reducible first | exact HB.out | apply below_alloc | apply pw_below_drewN | apply below_drew1) | exact HB.out))); rintro e w30 ⟨v243, rfl, ho0, hb⟩; have n0_ := Aside0.mk (Kd.R_lower ho0 (below_size (by repeat (first | (with_reducible first | exact HB.out | apply below_alloc | apply pw_below_drewN | apply below_drew1) | exact HB.out)))); have n1_ := Aside0.mk (below_step (by repeat (first | (with_reducible first | exact HB.out | apply below_alloc | apply pw_below_drewN | apply below_drew1) | exact HB.out)) hb); clear HB; have HO244 := n0_; have HB := n1_; clear n0_ n1_; (try clear hb); (try clear hb2); (try clear hk); (try clear hi); (try clear ho0); obtain ⟨Ao31, co31, eo31⟩ := Kd.R_slice HO244.out; subst eo31))
      repeat (go_quiet (first | (go_at_call 11; (with_reducible refine (token_Scan.calls k a0 t240 t241 t242 _ ?side1 A3.out).mono ?_); (case side1 => exact GW.below HG.out (by repeat (first | (with_reducible first | exact HB.out | apply below_alloc | apply pw_below_drewN | apply below_drew1) | exact HB.out))); rintro e w30 ⟨v243, rfl, ho0, hb⟩; have n0_ := Aside0.mk (Kd.R_lower ho0 (below_size (by repeat (first | (with_reducible first | exact HB.out | apply below_alloc | apply pw_below_drewN | apply below_drew1) | exact HB.out)))); have n1_ := Aside0.mk (below_step (by repeat (first | (with_reducible first | exact HB.out | apply below_alloc | apply pw_below_drewN | apply below_drew1) | exact HB.out)) hb); clear HB; have HO244 := n0_; have HB := n1_; clear n0_ n1_; (try clear hb); (try clear hb2); (try clear hk); (try clear hi); (try clear ho0); obtain ⟨Ao31, co31, eo31⟩ := Kd.R_slice HO244.out; subst eo31)); try go_wp2_with (first | (go_at_call 11; (with_reducible refine (token_Scan.calls k a0 t240 t241 t242 _ ?side1 A3.out).mono ?_); (case side1 => exact GW.below HG.out (by repeat (first | (with_reducible first | exact HB.out | apply below_alloc | apply pw_below_drewN | apply below_drew1) | exact HB.out))); rintro e w30 ⟨v243, rfl, ho0, hb⟩; have n0_ := Aside0.mk (Kd.R_lower ho0 (below_size (by repeat (first | (with_reducible first | exact HB.out | apply below_alloc | apply pw_below_drewN | apply below_drew1) | exact HB.out)))); have n1_ := Aside0.mk (below_step (by repeat (first | (with_reducible first | exact HB.out | apply below_alloc | apply pw_below_drewN | apply below_drew1) | exact HB.out)) hb); clear HB; have HO244 := n0_; have HB := n1_; clear n0_ n1_; (try clear hb); (try clear hb2); (try clear hk); (try clear hi); (try clear ho0); obtain ⟨Ao31, co31, eo31⟩ := Kd.R_slice HO244.out; subst eo31)))
      go_ret
      exact ⟨by first | rfl | (simp [errW_none, errW_some] <;> rfl) | (simp [*, errW_none, errW_some] <;> rfl), by repeat (first | (with_reducible first | exact HB.out | apply below_alloc | apply pw_below_drewN | apply below_drew1) | exact HB.out)⟩

/-- THE ONE PURE STATEMENT of interleavelaw01_TokenBlanks: yours. -/
def interleavelaw01_TokenBlanks.Pure : Prop := ∀ (a0 : ByteArray), a0.size ≤ 140737488351232 → ∃ k, interleavelaw01_TokenBlanks.f k a0 = some true
theorem interleavelaw01_TokenBlanks.walk (P : interleavelaw01_TokenBlanks.Pure) (a0 : ByteArray) (w : World) (hG : GW w) (w0 : a0.size ≤ 140737488351232) :
    Calls Tryd.prog 6 #[.string a0] w fun e w' => e = .returned (.bool true) ∧ Below w.heap.size w w' := by
  obtain ⟨k, h⟩ := P a0 w0
  refine (interleavelaw01_TokenBlanks.calls k a0 true w hG h).mono ?_
  rintro e w' ⟨rfl, hd⟩
  exact ⟨rfl, hd⟩

end Go.Proofs.YtdkloonoeklgaaaDoor.X
