-- Written by this session's own program (wip/tools/xprint.py).
import Derived.Test.YtppbnjmhkifdaaaX0
import Derived.Test.YtppbnjmhkifdaaaSort
import Derived.Test.YtppbnjmhkifdaaaSx
namespace Go.Proofs.Ytppbnjmhkifdaaa.X
open Go.RowKit Go.Proofs.YtppbnjmhkifdaaaW.PrintWords Go.Proofs.YtppbnjmhkifdaaaW.PrintLast Go.Proofs.YtppbnjmhkifdaaaW.PrintMore
attribute [local go_sem] max2_int min2_int max_two min_two max_three min_three max_four min_four   -- for this text's walks alone
set_option linter.unusedVariables false
set_option linter.unusedSimpArgs false

/-! ### interleavelaw33_large: function 12 -/
def interleavelaw33_large.l0 : Nat → List (S50) → Int → Int → Option (Bool)
 | 0, _, _, _ => none
 | k + 1, x0, x3, x4 => if x4 < (x0.length : Int) then (if x3 < 1000 then (if 0 ≤ x4 then (interleavelaw33_large.l0 k x0 (wrap64 (x3 + (((rd_T50 x0 x4).f2).length : Int))) (wrap64 (x4 + 1))) else (none)) else (some (decide (x3 > 200)))) else (some (decide (x3 > 200)))
def interleavelaw33_large.f (k : Nat) (l0 : List (S50)) : Option (Bool) := interleavelaw33_large.l0 k l0 (l0.length : Int) 0
theorem interleavelaw33_large.mono_l : ∀ k, (∀ y0 y1 y2, LeO (interleavelaw33_large.l0 k y0 y1 y2) (interleavelaw33_large.l0 (k + 1) y0 y1 y2))
 | 0 => fun _ _ _ r h => by simp [interleavelaw33_large.l0] at h
 | k + 1 => by
  have ih0 := interleavelaw33_large.mono_l k
  ·intro y0 y1 y2
   unfold interleavelaw33_large.l0
   repeat' first
   | (with_reducible exact ih0 _ _ _)
   | (with_reducible exact LeO.refl _)
   | (with_reducible exact LeO.none _)
   | (with_reducible refine LeO.ite ?_ ?_)
   | (with_reducible refine LeO.bind ?_ (fun _ => ?_))
   | exact ih0 _ _ _
   | exact LeO.none _
   | refine LeO.ite ?_ ?_
   | refine LeO.bind ?_ (fun _ => ?_)
theorem interleavelaw33_large.mono : ∀ a0 k, LeO (interleavelaw33_large.f k a0) (interleavelaw33_large.f (k + 1) a0) := by
 intro a0 k
 have ih0 := interleavelaw33_large.mono_l k
 unfold interleavelaw33_large.f
 repeat' first
   | (with_reducible exact ih0 _ _ _)
   | (with_reducible exact LeO.refl _)
   | (with_reducible exact LeO.none _)
   | (with_reducible refine LeO.ite ?_ ?_)
   | (with_reducible refine LeO.bind ?_ (fun _ => ?_))
   | exact ih0 _ _ _
   | exact LeO.none _
   | refine LeO.ite ?_ ?_
   | refine LeO.bind ?_ (fun _ => ?_)
set_option maxHeartbeats 8000000 in
set_option maxRecDepth 100000 in
theorem interleavelaw33_large.calls (k : Nat) (A0 : Option Addr) (c0 : Nat) (l0 : List (S50)) (r : Bool) (w : World) (hr0 : Kd.C k50 w A0 l0.length l0) (hc0 : l0.length ≤ c0) (h : interleavelaw33_large.f k l0 = some r) :
  Calls Try.prog 12 #[.slice A0 l0.length c0] w fun e w' => e = .returned (.bool r) ∧ Drawn0 w w' := by
 have HR0 := Aside0.mk hr0
 have HC0 := Aside0.mk hc0
 clear hr0 hc0
 have H : (interleavelaw33_large.l0 k l0 (l0.length : Int) 0) = some r := h
 clear h
 have H' := Aside0.mk H
 clear H
 go_enter Try.func12, Try.ntmps12
 go_wp2
 go_loopg [3, 4] k (fun kq v3 v4 w' => ∃ (x3_1 : Int) (x4_1 : Int), v3 = .int .i64 x3_1 ∧ v4 = .int .i64 x4_1 ∧ Aside0 (interleavelaw33_large.l0 kq l0 x3_1 x4_1 = some r) ∧ Aside0 (kq ≤ k) ∧ Drawn0 w w')
 case atStart => exact ⟨((l0.length : Int)), (0), (by first | rfl | (simp; done) | (simp [*]; done)), (by first | rfl | (simp; done) | (simp [*]; done)), H', ⟨Nat.le_refl _⟩, by repeat (first | exact Drawn0.refl _ | apply Drawn0.step)⟩
 case round => as_aux_lemma =>
  clear H'
  try clear c1
  obtain ⟨x3_1, x4_1, rfl, rfl, HA, HK1, ⟨m1, rfl⟩⟩ := hrel
  cases gk with
  | zero => exact absurd HA.out (by simp [interleavelaw33_large.l0])
  | succ k1 =>
   have H := HA.out
   clear HA
   simp only [interleavelaw33_large.l0] at H
   by_cases c2 : x4_1 < (l0.length : Int)
   ·rw [if_pos c2] at H
    have c2b0 : decide (x4_1 < (l0.length : Int)) = true := decide_eq_true c2
    clear c2
    by_cases c3 : x3_1 < 1000
    ·rw [if_pos c3] at H
     have c3b0 : decide (x3_1 < 1000) = true := decide_eq_true c3
     clear c3
     by_cases c4 : 0 ≤ x4_1
     ·rw [if_pos c4] at H
      have c4b0 : decide (0 ≤ x4_1) = true := decide_eq_true c4
      clear c4
      have H' := Aside0.mk H
      clear H
      have p101 : 0 ≤ (x4_1 : Int) := of_decide_eq_true (by first | (with_reducible assumption) | assumption)
      have q101 : x4_1 < (l0.length : Int) := of_decide_eq_true (by first | (with_reducible assumption) | assumption)
      obtain ⟨ad101, A101_2, c101_2, e101, hx101_0, hx101_1, hx101_2, hx101_3, hx101_4, hx101_5, hl101_2, hi101_2⟩ := at_T50 HR0.out x4_1 p101 q101
      cases e101
      have HR101_2 := Aside0.mk hi101_2
      have HC101_2 := Aside0.mk hl101_2
      clear hi101_2 hl101_2
      replace p101 := eq_true p101
      replace q101 := eq_true q101
      go_wp2
      go_roundg k1
      case measure => have := HK1.out; omega
      case rel => exact ⟨(wrap64 (x3_1 + (((rd_T50 l0 x4_1).f2).length : Int))), (wrap64 (x4_1 + 1)), (by first | rfl | (simp; done) | (simp [*]; done)), (by first | rfl | (simp; done) | (simp [*]; done)), H', ⟨by have := HK1.out; omega⟩, by repeat (first | exact Drawn0.refl _ | apply Drawn0.step)⟩
     ·rw [if_neg c4] at H
      exact absurd H (by simp)
    ·rw [if_neg c3] at H
     have c3b0 : decide (x3_1 < 1000) = false := decide_eq_false c3
     clear c3
     obtain rfl := Option.some.inj H
     go_wp2
     go_ret
     exact ⟨by first | rfl | (simp; done) | (simp [*]; done), by repeat (first | exact Drawn0.refl _ | apply Drawn0.step)⟩
   ·rw [if_neg c2] at H
    have c2b0 : decide (x4_1 < (l0.length : Int)) = false := decide_eq_false c2
    clear c2
    obtain rfl := Option.some.inj H
    go_wp2
    go_ret
    exact ⟨by first | rfl | (simp; done) | (simp [*]; done), by repeat (first | exact Drawn0.refl _ | apply Drawn0.step)⟩

-- NOT PRINTED: function 42 (slices_Compact_int_int)

/-! ### slices_Index_int_int: function 77 -/
def slices_Index_int_int.l0 : Nat → List Int → Int → Int → Int → Option (Int)
 | 0, _, _, _, _ => none
 | k + 1, x0, x1, x7, x8 => if x8 < x7 then (if 0 ≤ x8 then (if x8 < (x0.length : Int) then (if x1 = (rd x0 x8) then (some x8) else (slices_Index_int_int.l0 k x0 x1 x7 (wrap64 (x8 + 1)))) else (none)) else (none)) else (some (-1))
def slices_Index_int_int.f (k : Nat) (l0 : List Int) (a1 : Int) : Option (Int) := slices_Index_int_int.l0 k l0 a1 (l0.length : Int) 0
theorem slices_Index_int_int.mono_l : ∀ k, (∀ y0 y1 y2 y3, LeO (slices_Index_int_int.l0 k y0 y1 y2 y3) (slices_Index_int_int.l0 (k + 1) y0 y1 y2 y3))
 | 0 => fun _ _ _ _ r h => by simp [slices_Index_int_int.l0] at h
 | k + 1 => by
  have ih0 := slices_Index_int_int.mono_l k
  ·intro y0 y1 y2 y3
   unfold slices_Index_int_int.l0
   repeat' first
   | (with_reducible exact ih0 _ _ _ _)
   | (with_reducible exact LeO.refl _)
   | (with_reducible exact LeO.none _)
   | (with_reducible refine LeO.ite ?_ ?_)
   | (with_reducible refine LeO.bind ?_ (fun _ => ?_))
   | exact ih0 _ _ _ _
   | exact LeO.none _
   | refine LeO.ite ?_ ?_
   | refine LeO.bind ?_ (fun _ => ?_)
theorem slices_Index_int_int.mono : ∀ a0 a1 k, LeO (slices_Index_int_int.f k a0 a1) (slices_Index_int_int.f (k + 1) a0 a1) := by
 intro a0 a1 k
 have ih0 := slices_Index_int_int.mono_l k
 unfold slices_Index_int_int.f
 repeat' first
   | (with_reducible exact ih0 _ _ _ _)
   | (with_reducible exact LeO.refl _)
   | (with_reducible exact LeO.none _)
   | (with_reducible refine LeO.ite ?_ ?_)
   | (with_reducible refine LeO.bind ?_ (fun _ => ?_))
   | exact ih0 _ _ _ _
   | exact LeO.none _
   | refine LeO.ite ?_ ?_
   | refine LeO.bind ?_ (fun _ => ?_)
set_option maxHeartbeats 8000000 in
set_option maxRecDepth 100000 in
theorem slices_Index_int_int.calls (k : Nat) (A0 : Option Addr) (c0 : Nat) (l0 : List Int) (a1 : Int) (r : Int) (w : World) (hr0 : Kd.C (Kd.int .i64) w A0 l0.length l0) (hc0 : l0.length ≤ c0) (h : slices_Index_int_int.f k l0 a1 = some r) :
  Calls Try.prog 77 #[.slice A0 l0.length c0, .int .i64 a1] w fun e w' => e = .returned (.int .i64 r) ∧ Drawn0 w w' := by
 have HR0 := Aside0.mk hr0
 have HC0 := Aside0.mk hc0
 clear hr0 hc0
 have H : (slices_Index_int_int.l0 k l0 a1 (l0.length : Int) 0) = some r := h
 clear h
 have H' := Aside0.mk H
 clear H
 go_enter Try.func77, Try.ntmps77
 go_wp2
 go_loopg [8] k (fun kq v8 w' => ∃ (x8_1 : Int), v8 = .int .i64 x8_1 ∧ Aside0 (slices_Index_int_int.l0 kq l0 a1 (l0.length : Int) x8_1 = some r) ∧ Aside0 (kq ≤ k) ∧ Drawn0 w w')
 case atStart => exact ⟨(0), (by first | rfl | (simp; done) | (simp [*]; done)), H', ⟨Nat.le_refl _⟩, by repeat (first | exact Drawn0.refl _ | apply Drawn0.step)⟩
 case round => as_aux_lemma =>
  clear H'
  try clear p2
  obtain ⟨x8_1, rfl, HA, HK1, ⟨m1, rfl⟩⟩ := hrel
  cases gk with
  | zero => exact absurd HA.out (by simp [slices_Index_int_int.l0])
  | succ k1 =>
   have H := HA.out
   clear HA
   simp only [slices_Index_int_int.l0] at H
   by_cases c3 : x8_1 < (l0.length : Int)
   ·rw [if_pos c3] at H
    have c3b0 : decide (x8_1 < (l0.length : Int)) = true := decide_eq_true c3
    clear c3
    by_cases c4 : 0 ≤ x8_1
    ·rw [if_pos c4] at H
     have c4b0 : decide (0 ≤ x8_1) = true := decide_eq_true c4
     clear c4
     by_cases c5 : x8_1 < (l0.length : Int)
     ·rw [if_pos c5] at H
      have c5b0 : decide (x8_1 < (l0.length : Int)) = true := decide_eq_true c5
      clear c5
      by_cases c6 : a1 = (rd l0 x8_1)
      ·rw [if_pos c6] at H
       have c6b0 : (a1 == (rd l0 x8_1)) = true := beq_iff_eq.mpr c6
       have c6b1 : (a1 != (rd l0 x8_1)) = false := bne_eq_false_iff_eq.mpr c6
       clear c6
       obtain rfl := Option.some.inj H
       have p116 : 0 ≤ (x8_1 : Int) := of_decide_eq_true (by first | (with_reducible assumption) | assumption)
       have q116 : x8_1 < (l0.length : Int) := of_decide_eq_true (by first | (with_reducible assumption) | assumption)
       obtain ⟨ad116, e116, hx116_0⟩ := Kd.at_int HR0.out x8_1 p116 q116
       cases e116
       replace p116 := eq_true p116
       replace q116 := eq_true q116
       go_wp2
       go_ret
       exact ⟨by first | rfl | (simp; done) | (simp [*]; done), by repeat (first | exact Drawn0.refl _ | apply Drawn0.step)⟩
      ·rw [if_neg c6] at H
       have c6b0 : (a1 == (rd l0 x8_1)) = false := beq_eq_false_iff_ne.mpr c6
       have c6b1 : (a1 != (rd l0 x8_1)) = true := bne_iff_ne.mpr c6
       have H' := Aside0.mk H
       clear H
       have p116 : 0 ≤ (x8_1 : Int) := of_decide_eq_true (by first | (with_reducible assumption) | assumption)
       have q116 : x8_1 < (l0.length : Int) := of_decide_eq_true (by first | (with_reducible assumption) | assumption)
       obtain ⟨ad116, e116, hx116_0⟩ := Kd.at_int HR0.out x8_1 p116 q116
       cases e116
       replace p116 := eq_true p116
       replace q116 := eq_true q116
       go_wp2
       go_roundg k1
       case measure => have := HK1.out; omega
       case rel => exact ⟨(wrap64 (x8_1 + 1)), (by first | rfl | (simp; done) | (simp [*]; done)), H', ⟨by have := HK1.out; omega⟩, by repeat (first | exact Drawn0.refl _ | apply Drawn0.step)⟩
     ·rw [if_neg c5] at H
      exact absurd H (by simp)
    ·rw [if_neg c4] at H
     exact absurd H (by simp)
   ·rw [if_neg c3] at H
    have c3b0 : decide (x8_1 < (l0.length : Int)) = false := decide_eq_false c3
    clear c3
    obtain rfl := Option.some.inj H
    go_wp2
    go_ret
    exact ⟨by first | rfl | (simp; done) | (simp [*]; done), by repeat (first | exact Drawn0.refl _ | apply Drawn0.step)⟩

/-! ### slices_Contains_int_int: function 62 -/
def slices_Contains_int_int.f (k : Nat) (l0 : List Int) (a1 : Int) : Option (Bool) := (slices_Index_int_int.f k l0 a1).bind fun t117 => (some (decide (t117 ≥ 0)))
theorem slices_Contains_int_int.mono : ∀ a0 a1 k, LeO (slices_Contains_int_int.f k a0 a1) (slices_Contains_int_int.f (k + 1) a0 a1) := by
 intro a0 a1 k
 unfold slices_Contains_int_int.f
 repeat' first
   | (with_reducible exact slices_Index_int_int.mono _ _ _)
   | (with_reducible exact LeO.refl _)
   | (with_reducible exact LeO.none _)
   | (with_reducible refine LeO.ite ?_ ?_)
   | (with_reducible refine LeO.bind ?_ (fun _ => ?_))
   | exact slices_Index_int_int.mono _ _ _
   | exact LeO.none _
   | refine LeO.ite ?_ ?_
   | refine LeO.bind ?_ (fun _ => ?_)
set_option maxHeartbeats 8000000 in
set_option maxRecDepth 100000 in
theorem slices_Contains_int_int.calls (k : Nat) (A0 : Option Addr) (c0 : Nat) (l0 : List Int) (a1 : Int) (r : Bool) (w : World) (hr0 : Kd.C (Kd.int .i64) w A0 l0.length l0) (hc0 : l0.length ≤ c0) (h : slices_Contains_int_int.f k l0 a1 = some r) :
  Calls Try.prog 62 #[.slice A0 l0.length c0, .int .i64 a1] w fun e w' => e = .returned (.bool r) ∧ Drawn0 w w' := by
 have HR0 := Aside0.mk hr0
 have HC0 := Aside0.mk hc0
 clear hr0 hc0
 have H : ((slices_Index_int_int.f k l0 a1).bind fun t117 => (some (decide (t117 ≥ 0)))) = some r := h
 clear h
 replace H := Option.bind_eq_some_iff.mp H
 obtain ⟨t117, A30, H⟩ := H
 replace H : (some (decide (t117 ≥ 0))) = some r := H
 have A3 := Aside0.mk A30
 clear A30
 obtain rfl := Option.some.inj H
 go_enter Try.func62, Try.ntmps62
 go_wp2_with (first | ((with_reducible refine gate_callee (f := 77) rfl ?_); refine goesM_ Try.func77 #[.slice A0 l0.length c0, .int .i64 a1] ?_; (with_reducible refine (slices_Index_int_int.calls k _ _ l0 a1 t117 _ ?side1 ?side2 A3.out).mono ?_); (case side1 => repeat (first | exact HR0.out | (with_reducible refine Kd.C_alloc ?_ _) | (with_reducible refine Kd.C_drewN ?_ _) | (with_reducible refine Kd.C_drew ?_))); (case side2 => exact HC0.out); rintro e w' ⟨rfl, ⟨nd, rfl⟩⟩; refine ⟨_, rfl, ?_⟩))
 go_ret
 exact ⟨by first | rfl | (simp; done) | (simp [*]; done), by repeat (first | exact Drawn0.refl _ | apply Drawn0.step)⟩

-- NOT PRINTED: function 74 (slices_SortFunc_int_int)

/-! ### formula_boolean: function 76 -/
def formula_boolean.f (a0 : Int) : Option (Int) := if a0 < 0 then (some (wrap64 ((wrap64 (-a0)) - 1))) else (some (wrap64 (a0 - 1)))
set_option maxHeartbeats 8000000 in
set_option maxRecDepth 100000 in
theorem formula_boolean.calls (a0 : Int) (r : Int) (w : World) (h : formula_boolean.f a0 = some r) :
  Calls Try.prog 76 #[.int .i64 a0] w fun e w' => e = .returned (.int .i64 r) ∧ Drawn0 w w' := by
 have H : (if a0 < 0 then (some (wrap64 ((wrap64 (-a0)) - 1))) else (some (wrap64 (a0 - 1)))) = some r := h
 clear h
 by_cases c2 : a0 < 0
 ·rw [if_pos c2] at H
  have c2b0 : decide (a0 < 0) = true := decide_eq_true c2
  clear c2
  obtain rfl := Option.some.inj H
  go_enter Try.func76, Try.ntmps76
  go_wp2
  go_ret
  exact ⟨by first | rfl | (simp; done) | (simp [*]; done), by repeat (first | exact Drawn0.refl _ | apply Drawn0.step)⟩
 ·rw [if_neg c2] at H
  have c2b0 : decide (a0 < 0) = false := decide_eq_false c2
  clear c2
  obtain rfl := Option.some.inj H
  go_enter Try.func76, Try.ntmps76
  go_wp2
  go_ret
  exact ⟨by first | rfl | (simp; done) | (simp [*]; done), by repeat (first | exact Drawn0.refl _ | apply Drawn0.step)⟩

/-! ### formula_Normal: function 59 -/
mutual
def formula_Normal.j0 : Nat → List Int → Bool → Option (List Int × Bool)
 | 0, _, _ => none
 | k + 1, x4, x13 => if x13 = true then (some (([] : List Int), false)) else (if okN x4 = true then (if x4.length + x4.length < 17592186044416 then ((some (sortN x4 : List Int)).bind fun y123 => (if y123.length + y123.length < 17592186044416 then (formula_Normal.l0 k (compN y123) 1) else (none))) else (none)) else (none))
def formula_Normal.l0 : Nat → List Int → Int → Option (List Int × Bool)
 | 0, _, _ => none
 | k + 1, x4, x5 => if x5 < (x4.length : Int) then (if 0 ≤ x5 then ((formula_boolean.f (rd x4 x5)).bind fun t130 => (if 0 ≤ (wrap64 (x5 - 1)) then (if (wrap64 (x5 - 1)) < (x4.length : Int) then ((formula_boolean.f (rd x4 (wrap64 (x5 - 1)))).bind fun t132 => (if t130 = t132 then (some (([] : List Int), false)) else (formula_Normal.l0 k x4 (wrap64 (x5 + 1))))) else (none)) else (none))) else (none)) else (some (x4, true))
end
def formula_Normal.f (k : Nat) (l0 : List Int) : Option (List Int × Bool) := if ([] : List Int).length + l0.length < 17592186044416 then ((some (([] : List Int) ++ l0 : List Int)).bind fun y118 => ((slices_Contains_int_int.f k y118 0).bind fun t121 => (if t121 = true then (formula_Normal.j0 k y118 true) else ((slices_Contains_int_int.f k y118 (-9223372036854775808)).bind fun t122 => (formula_Normal.j0 k y118 t122))))) else (none)
theorem formula_Normal.mono_l : ∀ k, (∀ y0 y1, LeO (formula_Normal.j0 k y0 y1) (formula_Normal.j0 (k + 1) y0 y1)) ∧ (∀ y0 y1, LeO (formula_Normal.l0 k y0 y1) (formula_Normal.l0 (k + 1) y0 y1))
 | 0 => ⟨fun _ _ r h => by simp [formula_Normal.j0] at h, fun _ _ r h => by simp [formula_Normal.l0] at h⟩
 | k + 1 => by
  obtain ⟨ih0, ih1⟩ := formula_Normal.mono_l k
  refine ⟨?_, ?_⟩
  ·intro y0 y1
   unfold formula_Normal.j0
   repeat' first
   | (with_reducible exact ih0 _ _)
   | (with_reducible exact ih1 _ _)
   | (with_reducible exact slices_Contains_int_int.mono _ _ _)
   | (with_reducible exact LeO.refl _)
   | (with_reducible exact LeO.none _)
   | (with_reducible refine LeO.ite ?_ ?_)
   | (with_reducible refine LeO.bind ?_ (fun _ => ?_))
   | exact ih0 _ _
   | exact ih1 _ _
   | exact slices_Contains_int_int.mono _ _ _
   | exact LeO.none _
   | refine LeO.ite ?_ ?_
   | refine LeO.bind ?_ (fun _ => ?_)
  ·intro y0 y1
   unfold formula_Normal.l0
   repeat' first
   | (with_reducible exact ih0 _ _)
   | (with_reducible exact ih1 _ _)
   | (with_reducible exact slices_Contains_int_int.mono _ _ _)
   | (with_reducible exact LeO.refl _)
   | (with_reducible exact LeO.none _)
   | (with_reducible refine LeO.ite ?_ ?_)
   | (with_reducible refine LeO.bind ?_ (fun _ => ?_))
   | exact ih0 _ _
   | exact ih1 _ _
   | exact slices_Contains_int_int.mono _ _ _
   | exact LeO.none _
   | refine LeO.ite ?_ ?_
   | refine LeO.bind ?_ (fun _ => ?_)
theorem formula_Normal.mono : ∀ a0 k, LeO (formula_Normal.f k a0) (formula_Normal.f (k + 1) a0) := by
 intro a0 k
 obtain ⟨ih0, ih1⟩ := formula_Normal.mono_l k
 unfold formula_Normal.f
 repeat' first
   | (with_reducible exact ih0 _ _)
   | (with_reducible exact ih1 _ _)
   | (with_reducible exact slices_Contains_int_int.mono _ _ _)
   | (with_reducible exact LeO.refl _)
   | (with_reducible exact LeO.none _)
   | (with_reducible refine LeO.ite ?_ ?_)
   | (with_reducible refine LeO.bind ?_ (fun _ => ?_))
   | exact ih0 _ _
   | exact ih1 _ _
   | exact slices_Contains_int_int.mono _ _ _
   | exact LeO.none _
   | refine LeO.ite ?_ ?_
   | refine LeO.bind ?_ (fun _ => ?_)
set_option maxHeartbeats 8000000 in
set_option maxRecDepth 100000 in
theorem formula_Normal.calls (k : Nat) (A0 : Option Addr) (c0 : Nat) (l0 : List Int) (r1 : List Int) (r2 : Bool) (w : World) (hr0 : Kd.C (Kd.int .i64) w A0 l0.length l0) (hc0 : l0.length ≤ c0) (h : formula_Normal.f k l0 = some (r1, r2)) :
  Calls Try.prog 59 #[.slice A0 l0.length c0] w fun e w' => ∃ v0_ : Value, e = .returned (.tuple #[v0_, .bool r2]) ∧ Kd.R (Kd.int .i64) 3 w' w.heap.size (fun _ => True) v0_ r1 ∧ Below w.heap.size w w' := by
 have HR0 := Aside0.mk hr0
 have HC0 := Aside0.mk hc0
 clear hr0 hc0
 have HB := Aside0.mk (Below.refl w.heap.size w)
 have H : (if ([] : List Int).length + l0.length < 17592186044416 then ((some (([] : List Int) ++ l0 : List Int)).bind fun y118 => ((slices_Contains_int_int.f k y118 0).bind fun t121 => (if t121 = true then (formula_Normal.j0 k y118 true) else ((slices_Contains_int_int.f k y118 (-9223372036854775808)).bind fun t122 => (formula_Normal.j0 k y118 t122))))) else (none)) = some (r1, r2) := h
 clear h
 by_cases c2 : ([] : List Int).length + l0.length < 17592186044416
 ·rw [if_pos c2] at H
  have LMc2 := Aside0.mk c2
  clear c2
  obtain ⟨y118, hy118⟩ : ∃ y_ : List Int, y_ = (([] : List Int) ++ l0) := ⟨_, rfl⟩
  replace H : ((slices_Contains_int_int.f k y118 0).bind fun t121 => (if t121 = true then (formula_Normal.j0 k y118 true) else ((slices_Contains_int_int.f k y118 (-9223372036854775808)).bind fun t122 => (formula_Normal.j0 k y118 t122)))) = some (r1, r2) := by first | (rw [hy118]; with_reducible exact H) | (have H2_ := (Option.bind_some _ _).symm.trans H; rw [hy118]; with_reducible exact H2_) | (have H2_ := (Option.bind_some _ _).symm.trans H; with_reducible exact H2_) | with_reducible exact H | (rw [hy118]; exact H) | exact H
  have Ny118 := Aside0.mk hy118
  clear hy118
  have HC3 := Aside0.mk H
  clear H
  go_enter Try.func59, Try.ntmps59
  go_upto_region 2 with (first | ((with_reducible refine gate_builtin (b := .append) (xs := #[.const (.slice none 0 0), .tmp 6]) rfl ?_); at_builtin; refine Kd.R_append_rows (Kd.int .i64) (w0 := w) w.heap.size rfl (.const (.slice none 0 0)) (.tmp 6) 43 3 (.int .i64 0) 8 rfl Try.underlying43 info3 rfl (by decide) (by omega) (.slice none 0 0) ([] : List Int) l0 _ _ _ (fun _ => True) (fun _ => False) rfl rfl ?aO ?aR (fun _ _ h => h) (fun _ h => h.elim) ?aF ?aB ?aS ?aL ?_; (case aR => repeat (first | exact HR0.out | (with_reducible refine Kd.C_alloc ?_ _) | (with_reducible refine Kd.C_drewN ?_ _) | (with_reducible refine Kd.C_drew ?_))); (case aB => exact HB.l); (case aF => exact (fun _ _ => trivial)); (case aO => exact ((Kd.R_nil _ _ _ _ (fun _ => True)))); (case aS => exact (below_size HB.l)); (case aL => have := LMc2.out; omega); intro v119 w4 ho hb hg hat; rw [← Ny118.out] at ho; have n0_ := Aside0.mk (hb); have n1_ := Aside0.mk (ho); clear HB; revert n0_ n1_; intro HB HO120; clear ho hb hg hat))
  repeat (go_quiet (first | ((with_reducible refine gate_builtin (b := .append) (xs := #[.const (.slice none 0 0), .tmp 6]) rfl ?_); at_builtin; refine Kd.R_append_rows (Kd.int .i64) (w0 := w) w.heap.size rfl (.const (.slice none 0 0)) (.tmp 6) 43 3 (.int .i64 0) 8 rfl Try.underlying43 info3 rfl (by decide) (by omega) (.slice none 0 0) ([] : List Int) l0 _ _ _ (fun _ => True) (fun _ => False) rfl rfl ?aO ?aR (fun _ _ h => h) (fun _ h => h.elim) ?aF ?aB ?aS ?aL ?_; (case aR => repeat (first | exact HR0.out | (with_reducible refine Kd.C_alloc ?_ _) | (with_reducible refine Kd.C_drewN ?_ _) | (with_reducible refine Kd.C_drew ?_))); (case aB => exact HB.l); (case aF => exact (fun _ _ => trivial)); (case aO => exact ((Kd.R_nil _ _ _ _ (fun _ => True)))); (case aS => exact (below_size HB.l)); (case aL => have := LMc2.out; omega); intro v119 w4 ho hb hg hat; rw [← Ny118.out] at ho; have n0_ := Aside0.mk (hb); have n1_ := Aside0.mk (ho); clear HB; revert n0_ n1_; intro HB HO120; clear ho hb hg hat)); go_upto_region 2 with (first | ((with_reducible refine gate_builtin (b := .append) (xs := #[.const (.slice none 0 0), .tmp 6]) rfl ?_); at_builtin; refine Kd.R_append_rows (Kd.int .i64) (w0 := w) w.heap.size rfl (.const (.slice none 0 0)) (.tmp 6) 43 3 (.int .i64 0) 8 rfl Try.underlying43 info3 rfl (by decide) (by omega) (.slice none 0 0) ([] : List Int) l0 _ _ _ (fun _ => True) (fun _ => False) rfl rfl ?aO ?aR (fun _ _ h => h) (fun _ h => h.elim) ?aF ?aB ?aS ?aL ?_; (case aR => repeat (first | exact HR0.out | (with_reducible refine Kd.C_alloc ?_ _) | (with_reducible refine Kd.C_drewN ?_ _) | (with_reducible refine Kd.C_drew ?_))); (case aB => exact HB.l); (case aF => exact (fun _ _ => trivial)); (case aO => exact ((Kd.R_nil _ _ _ _ (fun _ => True)))); (case aS => exact (below_size HB.l)); (case aL => have := LMc2.out; omega); intro v119 w4 ho hb hg hat; rw [← Ny118.out] at ho; have n0_ := Aside0.mk (hb); have n1_ := Aside0.mk (ho); clear HB; revert n0_ n1_; intro HB HO120; clear ho hb hg hat)))
  (try simp only [Act.put, List.setIfInBounds_toArray, List.set_cons_zero, List.set_cons_succ])
  go_cut [13] (fun v13 wc => ∃ (kq : Nat) (x13_2 : Bool), v13 = .bool x13_2 ∧ Aside0 (formula_Normal.j0 kq y118 x13_2 = some (r1, r2)) ∧ Aside0 (kq ≤ k) ∧ Aside0 (Kd.R (Kd.int .i64) 3 wc w.heap.size (fun _ => True) v119 y118) ∧ Aside0 (Below w.heap.size w wc))
  case first => as_aux_lemma =>
   have H := HC3.out
   clear HC3
   replace H := Option.bind_eq_some_iff.mp H
   obtain ⟨t121, A50, H⟩ := H
   replace H : (if t121 = true then (formula_Normal.j0 k y118 true) else ((slices_Contains_int_int.f k y118 (-9223372036854775808)).bind fun t122 => (formula_Normal.j0 k y118 t122))) = some (r1, r2) := H
   have A5 := Aside0.mk A50
   clear A50
   by_cases c6 : t121 = true
   ·subst c6
    have H1 : (formula_Normal.j0 k y118 true) = some (r1, r2) := by rw [if_pos rfl] at H; exact H
    clear H
    have H := H1
    clear H1
    have H' := Aside0.mk H
    clear H
    obtain ⟨Ao7, co7, eo7⟩ := Kd.R_slice HO120.out
    subst eo7
    go_wp2_with (first | (go_at_call 62; (with_reducible refine (slices_Contains_int_int.calls k _ _ y118 0 true _ ?side1 ?side2 A5.out).mono ?_); (case side1 => repeat (first | exact (Kd.R_reads' HO120.out).2.2 | (with_reducible refine Kd.C_alloc ?_ _) | (with_reducible refine Kd.C_drewN ?_ _) | (with_reducible refine Kd.C_drew ?_))); (case side2 => exact (Kd.R_reads' HO120.out).2.1); rintro e w' ⟨rfl, ⟨nd, rfl⟩⟩; (try first | exact ⟨rfl, _, World.drewN_drewN _ _ _⟩ | exact ⟨rfl, _, Eq.trans (World.drewN_drewN _ _ _) (congrArg (World.drewN _) (Nat.add_assoc _ _ _))⟩)))
    repeat (go_quiet (first | (go_at_call 62; (with_reducible refine (slices_Contains_int_int.calls k _ _ y118 0 true _ ?side1 ?side2 A5.out).mono ?_); (case side1 => repeat (first | exact (Kd.R_reads' HO120.out).2.2 | (with_reducible refine Kd.C_alloc ?_ _) | (with_reducible refine Kd.C_drewN ?_ _) | (with_reducible refine Kd.C_drew ?_))); (case side2 => exact (Kd.R_reads' HO120.out).2.1); rintro e w' ⟨rfl, ⟨nd, rfl⟩⟩; (try first | exact ⟨rfl, _, World.drewN_drewN _ _ _⟩ | exact ⟨rfl, _, Eq.trans (World.drewN_drewN _ _ _) (congrArg (World.drewN _) (Nat.add_assoc _ _ _))⟩))); try go_wp2_with (first | (go_at_call 62; (with_reducible refine (slices_Contains_int_int.calls k _ _ y118 0 true _ ?side1 ?side2 A5.out).mono ?_); (case side1 => repeat (first | exact (Kd.R_reads' HO120.out).2.2 | (with_reducible refine Kd.C_alloc ?_ _) | (with_reducible refine Kd.C_drewN ?_ _) | (with_reducible refine Kd.C_drew ?_))); (case side2 => exact (Kd.R_reads' HO120.out).2.1); rintro e w' ⟨rfl, ⟨nd, rfl⟩⟩; (try first | exact ⟨rfl, _, World.drewN_drewN _ _ _⟩ | exact ⟨rfl, _, Eq.trans (World.drewN_drewN _ _ _) (congrArg (World.drewN _) (Nat.add_assoc _ _ _))⟩))))
    go_meet
    case rel => exact ⟨_, (true), (by first | rfl | (simp; done) | (simp [*]; done)), H', ⟨by first | omega | exact Nat.le_refl _⟩, ⟨HO120.r⟩, ⟨HB.l⟩⟩
   ·replace c6 := Bool.eq_false_iff.mpr c6
    subst c6
    have H1 : ((slices_Contains_int_int.f k y118 (-9223372036854775808)).bind fun t122 => (formula_Normal.j0 k y118 t122)) = some (r1, r2) := by rw [if_neg (show ¬ (false = true) by decide)] at H; exact H
    clear H
    have H := H1
    clear H1
    replace H := Option.bind_eq_some_iff.mp H
    obtain ⟨t122, A80, H⟩ := H
    replace H : (formula_Normal.j0 k y118 t122) = some (r1, r2) := H
    have A8 := Aside0.mk A80
    clear A80
    have H' := Aside0.mk H
    clear H
    obtain ⟨Ao9, co9, eo9⟩ := Kd.R_slice HO120.out
    subst eo9
    go_wp2_with (first | (go_at_call 62; (with_reducible refine (slices_Contains_int_int.calls k _ _ y118 0 false _ ?side1 ?side2 A5.out).mono ?_); (case side1 => repeat (first | exact (Kd.R_reads' HO120.out).2.2 | (with_reducible refine Kd.C_alloc ?_ _) | (with_reducible refine Kd.C_drewN ?_ _) | (with_reducible refine Kd.C_drew ?_))); (case side2 => exact (Kd.R_reads' HO120.out).2.1); rintro e w' ⟨rfl, ⟨nd, rfl⟩⟩; (try first | exact ⟨rfl, _, World.drewN_drewN _ _ _⟩ | exact ⟨rfl, _, Eq.trans (World.drewN_drewN _ _ _) (congrArg (World.drewN _) (Nat.add_assoc _ _ _))⟩)) | (go_at_call 62; (with_reducible refine (slices_Contains_int_int.calls k _ _ y118 (-9223372036854775808) t122 _ ?side1 ?side2 A8.out).mono ?_); (case side1 => repeat (first | exact (Kd.R_reads' HO120.out).2.2 | (with_reducible refine Kd.C_alloc ?_ _) | (with_reducible refine Kd.C_drewN ?_ _) | (with_reducible refine Kd.C_drew ?_))); (case side2 => exact (Kd.R_reads' HO120.out).2.1); rintro e w' ⟨rfl, ⟨nd, rfl⟩⟩; (try first | exact ⟨rfl, _, World.drewN_drewN _ _ _⟩ | exact ⟨rfl, _, Eq.trans (World.drewN_drewN _ _ _) (congrArg (World.drewN _) (Nat.add_assoc _ _ _))⟩)))
    repeat (go_quiet (first | (go_at_call 62; (with_reducible refine (slices_Contains_int_int.calls k _ _ y118 0 false _ ?side1 ?side2 A5.out).mono ?_); (case side1 => repeat (first | exact (Kd.R_reads' HO120.out).2.2 | (with_reducible refine Kd.C_alloc ?_ _) | (with_reducible refine Kd.C_drewN ?_ _) | (with_reducible refine Kd.C_drew ?_))); (case side2 => exact (Kd.R_reads' HO120.out).2.1); rintro e w' ⟨rfl, ⟨nd, rfl⟩⟩; (try first | exact ⟨rfl, _, World.drewN_drewN _ _ _⟩ | exact ⟨rfl, _, Eq.trans (World.drewN_drewN _ _ _) (congrArg (World.drewN _) (Nat.add_assoc _ _ _))⟩)) | (go_at_call 62; (with_reducible refine (slices_Contains_int_int.calls k _ _ y118 (-9223372036854775808) t122 _ ?side1 ?side2 A8.out).mono ?_); (case side1 => repeat (first | exact (Kd.R_reads' HO120.out).2.2 | (with_reducible refine Kd.C_alloc ?_ _) | (with_reducible refine Kd.C_drewN ?_ _) | (with_reducible refine Kd.C_drew ?_))); (case side2 => exact (Kd.R_reads' HO120.out).2.1); rintro e w' ⟨rfl, ⟨nd, rfl⟩⟩; (try first | exact ⟨rfl, _, World.drewN_drewN _ _ _⟩ | exact ⟨rfl, _, Eq.trans (World.drewN_drewN _ _ _) (congrArg (World.drewN _) (Nat.add_assoc _ _ _))⟩))); try go_wp2_with (first | (go_at_call 62; (with_reducible refine (slices_Contains_int_int.calls k _ _ y118 0 false _ ?side1 ?side2 A5.out).mono ?_); (case side1 => repeat (first | exact (Kd.R_reads' HO120.out).2.2 | (with_reducible refine Kd.C_alloc ?_ _) | (with_reducible refine Kd.C_drewN ?_ _) | (with_reducible refine Kd.C_drew ?_))); (case side2 => exact (Kd.R_reads' HO120.out).2.1); rintro e w' ⟨rfl, ⟨nd, rfl⟩⟩; (try first | exact ⟨rfl, _, World.drewN_drewN _ _ _⟩ | exact ⟨rfl, _, Eq.trans (World.drewN_drewN _ _ _) (congrArg (World.drewN _) (Nat.add_assoc _ _ _))⟩)) | (go_at_call 62; (with_reducible refine (slices_Contains_int_int.calls k _ _ y118 (-9223372036854775808) t122 _ ?side1 ?side2 A8.out).mono ?_); (case side1 => repeat (first | exact (Kd.R_reads' HO120.out).2.2 | (with_reducible refine Kd.C_alloc ?_ _) | (with_reducible refine Kd.C_drewN ?_ _) | (with_reducible refine Kd.C_drew ?_))); (case side2 => exact (Kd.R_reads' HO120.out).2.1); rintro e w' ⟨rfl, ⟨nd, rfl⟩⟩; (try first | exact ⟨rfl, _, World.drewN_drewN _ _ _⟩ | exact ⟨rfl, _, Eq.trans (World.drewN_drewN _ _ _) (congrArg (World.drewN _) (Nat.add_assoc _ _ _))⟩))))
    go_meet
    case rel => exact ⟨_, (t122), (by first | rfl | (simp; done) | (simp [*]; done)), H', ⟨by first | omega | exact Nat.le_refl _⟩, ⟨HO120.r⟩, ⟨HB.l⟩⟩
  case rest => as_aux_lemma =>
   clear HC3
   try clear c2
   try clear p2
   try clear c5
   try clear c6
   obtain ⟨kq, x13_2, rfl, HA, HJ2, HO_4, HB⟩ := hcut
   cases kq with
   | zero => exact absurd HA.out (by simp [formula_Normal.j0])
   | succ kj2 =>
    have H := HA.out
    clear HA
    simp only [formula_Normal.j0] at H
    by_cases c10 : x13_2 = true
    ·subst c10
     have H1 : (some (([] : List Int), false)) = some (r1, r2) := by rw [if_pos rfl] at H; exact H
     clear H
     have H := H1
     clear H1
     simp only [Option.some.injEq, Prod.mk.injEq] at H
     obtain ⟨rfl, rfl⟩ := H
     go_wp2
     repeat (go_quiet (fail); try go_wp2)
     go_ret2
     exact ⟨_, by first | rfl | (simp [errW_none, errW_some] <;> rfl) | (simp [*, errW_none, errW_some] <;> rfl), by first | exact Kd.R_nil _ _ _ _ _ | exact Kd.N_nil _ _ _ _ _ | exact Kd.V_nil _ _ _ _ _ | exact Kd.Q_nil _ _ _ _ _ | exact Kd.S_nil _ _ _ _ _, HB.l⟩
    ·replace c10 := Bool.eq_false_iff.mpr c10
     subst c10
     have H1 : (if okN y118 = true then (if y118.length + y118.length < 17592186044416 then ((some (sortN y118 : List Int)).bind fun y123 => (if y123.length + y123.length < 17592186044416 then (formula_Normal.l0 kj2 (compN y123) 1) else (none))) else (none)) else (none)) = some (r1, r2) := by rw [if_neg (show ¬ (false = true) by decide)] at H; exact H
     clear H
     have H := H1
     clear H1
     by_cases c11 : okN y118 = true
     ·rw [if_pos c11] at H
      have c11b0 := eq_true c11
      have c11b1 : decide (okN y118 = true) = true := decide_eq_true c11
      clear c11
      by_cases c12 : y118.length + y118.length < 17592186044416
      ·rw [if_pos c12] at H
       have LMc12 := Aside0.mk c12
       clear c12
       obtain ⟨y123, hy123⟩ : ∃ y_ : List Int, y_ = (sortN y118) := ⟨_, rfl⟩
       replace H : (if y123.length + y123.length < 17592186044416 then (formula_Normal.l0 kj2 (compN y123) 1) else (none)) = some (r1, r2) := by first | (rw [hy123]; with_reducible exact H) | (have H2_ := (Option.bind_some _ _).symm.trans H; rw [hy123]; with_reducible exact H2_) | (have H2_ := (Option.bind_some _ _).symm.trans H; with_reducible exact H2_) | with_reducible exact H | (rw [hy123]; exact H) | exact H
       have Ny123 := Aside0.mk hy123
       clear hy123
       by_cases c13 : y123.length + y123.length < 17592186044416
       ·rw [if_pos c13] at H
        have LMc13 := Aside0.mk c13
        clear c13
        obtain ⟨y126, hy126⟩ : ∃ y_ : List Int, y_ = (compN y123) := ⟨_, rfl⟩
        replace H : (formula_Normal.l0 kj2 y126 1) = some (r1, r2) := by first | (rw [hy126]; with_reducible exact H) | (have H2_ := (Option.bind_some _ _).symm.trans H; rw [hy126]; with_reducible exact H2_) | (have H2_ := (Option.bind_some _ _).symm.trans H; with_reducible exact H2_) | with_reducible exact H | (rw [hy126]; exact H) | exact H
        have Ny126 := Aside0.mk hy126
        clear hy126
        have H' := Aside0.mk H
        clear H
        obtain ⟨Ao15, co15, eo15⟩ := Kd.R_slice HO_4.out
        subst eo15
        go_wp2_with (first | ((with_reducible refine gate_callee (f := 74) rfl ?_); refine sort_step (w0 := w) (some 15) rfl rfl rfl (v := (.slice Ao15 y118.length co15)) rfl (base := w.heap.size) (ok := (fun _ => True)) (xs := y118) ?aO ?aT ?aL ?aB ?aS ?_; (case aB => exact HB.l); (case aO => exact HO_4.r); (case aS => exact (below_size HB.l)); (case aL => have := LMc12.out; omega); (case aT => exact of_eq_true (by first | (with_reducible assumption) | assumption)); intro w14 ho hb hg hat; rw [← Ny123.out] at ho; have n0_ := Aside0.mk (hb); have n1_ := Aside0.mk (ho); clear HB HO_4; revert n0_ n1_; intro HB HO125; clear ho hb hg hat) | ((with_reducible refine gate_callee (f := 42) rfl ?_); refine compact_step (w0 := w) (some 17) rfl rfl rfl (v := (.slice Ao15 y118.length co15)) rfl (base := w.heap.size) (ok := (fun _ => True)) (xs := y123) ?aO ?aL ?aB ?aS ?_; (case aB => exact HB.l); (case aO => exact HO125.r); (case aS => exact (below_size HB.l)); (case aL => have := LMc13.out; have hlx_ := (Kd.R_reads' HO125.out).1; omega); intro v127 w16 ho hb hg hat; rw [← Ny126.out] at ho; have n0_ := Aside0.mk (hb); have n1_ := Aside0.mk (ho); clear HB HO125; revert n0_ n1_; intro HB HO128; clear ho hb hg hat))
        repeat (go_quiet (first | ((with_reducible refine gate_callee (f := 74) rfl ?_); refine sort_step (w0 := w) (some 15) rfl rfl rfl (v := (.slice Ao15 y118.length co15)) rfl (base := w.heap.size) (ok := (fun _ => True)) (xs := y118) ?aO ?aT ?aL ?aB ?aS ?_; (case aB => exact HB.l); (case aO => exact HO_4.r); (case aS => exact (below_size HB.l)); (case aL => have := LMc12.out; omega); (case aT => exact of_eq_true (by first | (with_reducible assumption) | assumption)); intro w14 ho hb hg hat; rw [← Ny123.out] at ho; have n0_ := Aside0.mk (hb); have n1_ := Aside0.mk (ho); clear HB HO_4; revert n0_ n1_; intro HB HO125; clear ho hb hg hat) | ((with_reducible refine gate_callee (f := 42) rfl ?_); refine compact_step (w0 := w) (some 17) rfl rfl rfl (v := (.slice Ao15 y118.length co15)) rfl (base := w.heap.size) (ok := (fun _ => True)) (xs := y123) ?aO ?aL ?aB ?aS ?_; (case aB => exact HB.l); (case aO => exact HO125.r); (case aS => exact (below_size HB.l)); (case aL => have := LMc13.out; have hlx_ := (Kd.R_reads' HO125.out).1; omega); intro v127 w16 ho hb hg hat; rw [← Ny126.out] at ho; have n0_ := Aside0.mk (hb); have n1_ := Aside0.mk (ho); clear HB HO125; revert n0_ n1_; intro HB HO128; clear ho hb hg hat)); try go_wp2_with (first | ((with_reducible refine gate_callee (f := 74) rfl ?_); refine sort_step (w0 := w) (some 15) rfl rfl rfl (v := (.slice Ao15 y118.length co15)) rfl (base := w.heap.size) (ok := (fun _ => True)) (xs := y118) ?aO ?aT ?aL ?aB ?aS ?_; (case aB => exact HB.l); (case aO => exact HO_4.r); (case aS => exact (below_size HB.l)); (case aL => have := LMc12.out; omega); (case aT => exact of_eq_true (by first | (with_reducible assumption) | assumption)); intro w14 ho hb hg hat; rw [← Ny123.out] at ho; have n0_ := Aside0.mk (hb); have n1_ := Aside0.mk (ho); clear HB HO_4; revert n0_ n1_; intro HB HO125; clear ho hb hg hat) | ((with_reducible refine gate_callee (f := 42) rfl ?_); refine compact_step (w0 := w) (some 17) rfl rfl rfl (v := (.slice Ao15 y118.length co15)) rfl (base := w.heap.size) (ok := (fun _ => True)) (xs := y123) ?aO ?aL ?aB ?aS ?_; (case aB => exact HB.l); (case aO => exact HO125.r); (case aS => exact (below_size HB.l)); (case aL => have := LMc13.out; have hlx_ := (Kd.R_reads' HO125.out).1; omega); intro v127 w16 ho hb hg hat; rw [← Ny126.out] at ho; have n0_ := Aside0.mk (hb); have n1_ := Aside0.mk (ho); clear HB HO125; revert n0_ n1_; intro HB HO128; clear ho hb hg hat)))
        go_loopg [5] kj2 (fun kq v5 w' => ∃ (x5_2 : Int), v5 = .int .i64 x5_2 ∧ Aside0 (formula_Normal.l0 kq y126 x5_2 = some (r1, r2)) ∧ Aside0 (kq ≤ kj2) ∧ Aside0 (Kd.R (Kd.int .i64) 3 w' w.heap.size (fun _ => True) v127 y126) ∧ Aside0 (Below w.heap.size w w'))
        case atStart => exact ⟨(1), (by first | rfl | (simp; done) | (simp [*]; done)), H', ⟨Nat.le_refl _⟩, ⟨HO128.r⟩, ⟨HB.l⟩⟩
        case round => as_aux_lemma =>
         clear H'
         try clear c1
         try clear c2
         try clear p2
         try clear c5
         try clear c6
         try clear c10
         try clear c11
         try clear c11b0
         try clear c11b1
         try clear c12
         try clear c13
         try clear p2
         obtain ⟨x5_2, rfl, HA, HK2, HO_4, HB⟩ := hrel
         cases gk with
         | zero => exact absurd HA.out (by simp [formula_Normal.l0])
         | succ k2 =>
          have H := HA.out
          clear HA
          simp only [formula_Normal.l0] at H
          by_cases c17 : x5_2 < (y126.length : Int)
          ·rw [if_pos c17] at H
           have c17b0 : decide (x5_2 < (y126.length : Int)) = true := decide_eq_true c17
           clear c17
           by_cases c18 : 0 ≤ x5_2
           ·rw [if_pos c18] at H
            have c18b0 : decide (0 ≤ x5_2) = true := decide_eq_true c18
            clear c18
            replace H := Option.bind_eq_some_iff.mp H
            obtain ⟨t130, A190, H⟩ := H
            replace H : (if 0 ≤ (wrap64 (x5_2 - 1)) then (if (wrap64 (x5_2 - 1)) < (y126.length : Int) then ((formula_boolean.f (rd y126 (wrap64 (x5_2 - 1)))).bind fun t132 => (if t130 = t132 then (some (([] : List Int), false)) else (formula_Normal.l0 k2 y126 (wrap64 (x5_2 + 1))))) else (none)) else (none)) = some (r1, r2) := H
            have A19 := Aside0.mk A190
            clear A190
            obtain ⟨ji20, hji20⟩ : ∃ j_ : Int, (wrap64 (x5_2 - 1)) = j_ := ⟨_, rfl⟩
            replace H : (if 0 ≤ (ji20) then (if (ji20) < (y126.length : Int) then ((formula_boolean.f (rd y126 (ji20))).bind fun t132 => (if t130 = t132 then (some (([] : List Int), false)) else (formula_Normal.l0 k2 y126 (wrap64 (x5_2 + 1))))) else (none)) else (none)) = some (r1, r2) := by first | (rw [hji20] at H; exact H) | (simp only [hji20] at H ⊢; exact H)
            (try rw [hji20] at A19)
            have hji20w : (IntKind.i64.wrap (x5_2 - 1)) = ji20 := (i64_w _).trans hji20
            by_cases c21 : 0 ≤ (ji20)
            ·rw [if_pos c21] at H
             have c21b0 : decide (0 ≤ (ji20)) = true := decide_eq_true c21
             clear c21
             by_cases c22 : (ji20) < (y126.length : Int)
             ·rw [if_pos c22] at H
              have c22b0 : decide ((ji20) < (y126.length : Int)) = true := decide_eq_true c22
              clear c22
              replace H := Option.bind_eq_some_iff.mp H
              obtain ⟨t132, A230, H⟩ := H
              replace H : (if t130 = t132 then (some (([] : List Int), false)) else (formula_Normal.l0 k2 y126 (wrap64 (x5_2 + 1)))) = some (r1, r2) := H
              have A23 := Aside0.mk A230
              clear A230
              by_cases c24 : t130 = t132
              ·rw [if_pos c24] at H
               have c24b0 : (t130 == t132) = true := beq_iff_eq.mpr c24
               have c24b1 : (t130 != t132) = false := bne_eq_false_iff_eq.mpr c24
               clear c24
               simp only [Option.some.injEq, Prod.mk.injEq] at H
               obtain ⟨rfl, rfl⟩ := H
               obtain ⟨Ao25, co25, eo25⟩ := Kd.R_slice HO_4.out
               subst eo25
               have p129 : 0 ≤ (x5_2 : Int) := of_decide_eq_true (by first | (with_reducible assumption) | assumption)
               have q129 : x5_2 < (y126.length : Int) := of_decide_eq_true (by first | (with_reducible assumption) | assumption)
               obtain ⟨ad129, e129, hx129_0⟩ := Kd.at_int (Kd.R_reads' HO_4.out).2.2 x5_2 p129 q129
               cases e129
               replace p129 := eq_true p129
               replace q129 := eq_true q129
               go_wp2_with (first | (go_at_call 76; (with_reducible refine (formula_boolean.calls (rd y126 x5_2) t130 _ A19.out).mono ?_); rintro e w' ⟨rfl, ⟨nd, rfl⟩⟩; (try first | exact ⟨rfl, _, World.drewN_drewN _ _ _⟩ | exact ⟨rfl, _, Eq.trans (World.drewN_drewN _ _ _) (congrArg (World.drewN _) (Nat.add_assoc _ _ _))⟩); have p131 : 0 ≤ ((ji20) : Int) := of_decide_eq_true (by first | (with_reducible assumption) | assumption); have q131 : (ji20) < (y126.length : Int) := of_decide_eq_true (by first | (with_reducible assumption) | assumption); obtain ⟨ad131, e131, hx131_0⟩ := Kd.at_int (Kd.R_reads' HO_4.out).2.2 (ji20) p131 q131; obtain rfl : ad129 = ad131 := (by injection e131); replace p131 := eq_true p131; replace q131 := eq_true q131) | (go_at_call 76; (with_reducible refine (formula_boolean.calls (rd y126 (ji20)) t132 _ A23.out).mono ?_); rintro e w' ⟨rfl, ⟨nd, rfl⟩⟩; (try first | exact ⟨rfl, _, World.drewN_drewN _ _ _⟩ | exact ⟨rfl, _, Eq.trans (World.drewN_drewN _ _ _) (congrArg (World.drewN _) (Nat.add_assoc _ _ _))⟩)))
               repeat (go_quiet (first | (go_at_call 76; (with_reducible refine (formula_boolean.calls (rd y126 x5_2) t130 _ A19.out).mono ?_); rintro e w' ⟨rfl, ⟨nd, rfl⟩⟩; (try first | exact ⟨rfl, _, World.drewN_drewN _ _ _⟩ | exact ⟨rfl, _, Eq.trans (World.drewN_drewN _ _ _) (congrArg (World.drewN _) (Nat.add_assoc _ _ _))⟩); have p131 : 0 ≤ ((ji20) : Int) := of_decide_eq_true (by first | (with_reducible assumption) | assumption); have q131 : (ji20) < (y126.length : Int) := of_decide_eq_true (by first | (with_reducible assumption) | assumption); obtain ⟨ad131, e131, hx131_0⟩ := Kd.at_int (Kd.R_reads' HO_4.out).2.2 (ji20) p131 q131; obtain rfl : ad129 = ad131 := (by injection e131); replace p131 := eq_true p131; replace q131 := eq_true q131) | (go_at_call 76; (with_reducible refine (formula_boolean.calls (rd y126 (ji20)) t132 _ A23.out).mono ?_); rintro e w' ⟨rfl, ⟨nd, rfl⟩⟩; (try first | exact ⟨rfl, _, World.drewN_drewN _ _ _⟩ | exact ⟨rfl, _, Eq.trans (World.drewN_drewN _ _ _) (congrArg (World.drewN _) (Nat.add_assoc _ _ _))⟩))); try go_wp2_with (first | (go_at_call 76; (with_reducible refine (formula_boolean.calls (rd y126 x5_2) t130 _ A19.out).mono ?_); rintro e w' ⟨rfl, ⟨nd, rfl⟩⟩; (try first | exact ⟨rfl, _, World.drewN_drewN _ _ _⟩ | exact ⟨rfl, _, Eq.trans (World.drewN_drewN _ _ _) (congrArg (World.drewN _) (Nat.add_assoc _ _ _))⟩); have p131 : 0 ≤ ((ji20) : Int) := of_decide_eq_true (by first | (with_reducible assumption) | assumption); have q131 : (ji20) < (y126.length : Int) := of_decide_eq_true (by first | (with_reducible assumption) | assumption); obtain ⟨ad131, e131, hx131_0⟩ := Kd.at_int (Kd.R_reads' HO_4.out).2.2 (ji20) p131 q131; obtain rfl : ad129 = ad131 := (by injection e131); replace p131 := eq_true p131; replace q131 := eq_true q131) | (go_at_call 76; (with_reducible refine (formula_boolean.calls (rd y126 (ji20)) t132 _ A23.out).mono ?_); rintro e w' ⟨rfl, ⟨nd, rfl⟩⟩; (try first | exact ⟨rfl, _, World.drewN_drewN _ _ _⟩ | exact ⟨rfl, _, Eq.trans (World.drewN_drewN _ _ _) (congrArg (World.drewN _) (Nat.add_assoc _ _ _))⟩))))
               go_ret2
               exact ⟨_, by first | rfl | (simp [errW_none, errW_some] <;> rfl) | (simp only [← hji20]; first | rfl | (simp [errW_none, errW_some] <;> rfl)) | (simp [*, errW_none, errW_some] <;> rfl), by first | exact Kd.R_nil _ _ _ _ _ | exact Kd.N_nil _ _ _ _ _ | exact Kd.V_nil _ _ _ _ _ | exact Kd.Q_nil _ _ _ _ _ | exact Kd.S_nil _ _ _ _ _, HB.l⟩
              ·rw [if_neg c24] at H
               have c24b0 : (t130 == t132) = false := beq_eq_false_iff_ne.mpr c24
               have c24b1 : (t130 != t132) = true := bne_iff_ne.mpr c24
               have H' := Aside0.mk H
               clear H
               obtain ⟨Ao26, co26, eo26⟩ := Kd.R_slice HO_4.out
               subst eo26
               have p129 : 0 ≤ (x5_2 : Int) := of_decide_eq_true (by first | (with_reducible assumption) | assumption)
               have q129 : x5_2 < (y126.length : Int) := of_decide_eq_true (by first | (with_reducible assumption) | assumption)
               obtain ⟨ad129, e129, hx129_0⟩ := Kd.at_int (Kd.R_reads' HO_4.out).2.2 x5_2 p129 q129
               cases e129
               replace p129 := eq_true p129
               replace q129 := eq_true q129
               go_wp2_with (first | (go_at_call 76; (with_reducible refine (formula_boolean.calls (rd y126 x5_2) t130 _ A19.out).mono ?_); rintro e w' ⟨rfl, ⟨nd, rfl⟩⟩; (try first | exact ⟨rfl, _, World.drewN_drewN _ _ _⟩ | exact ⟨rfl, _, Eq.trans (World.drewN_drewN _ _ _) (congrArg (World.drewN _) (Nat.add_assoc _ _ _))⟩); have p131 : 0 ≤ ((ji20) : Int) := of_decide_eq_true (by first | (with_reducible assumption) | assumption); have q131 : (ji20) < (y126.length : Int) := of_decide_eq_true (by first | (with_reducible assumption) | assumption); obtain ⟨ad131, e131, hx131_0⟩ := Kd.at_int (Kd.R_reads' HO_4.out).2.2 (ji20) p131 q131; obtain rfl : ad129 = ad131 := (by injection e131); replace p131 := eq_true p131; replace q131 := eq_true q131) | (go_at_call 76; (with_reducible refine (formula_boolean.calls (rd y126 (ji20)) t132 _ A23.out).mono ?_); rintro e w' ⟨rfl, ⟨nd, rfl⟩⟩; (try first | exact ⟨rfl, _, World.drewN_drewN _ _ _⟩ | exact ⟨rfl, _, Eq.trans (World.drewN_drewN _ _ _) (congrArg (World.drewN _) (Nat.add_assoc _ _ _))⟩)))
               repeat (go_quiet (first | (go_at_call 76; (with_reducible refine (formula_boolean.calls (rd y126 x5_2) t130 _ A19.out).mono ?_); rintro e w' ⟨rfl, ⟨nd, rfl⟩⟩; (try first | exact ⟨rfl, _, World.drewN_drewN _ _ _⟩ | exact ⟨rfl, _, Eq.trans (World.drewN_drewN _ _ _) (congrArg (World.drewN _) (Nat.add_assoc _ _ _))⟩); have p131 : 0 ≤ ((ji20) : Int) := of_decide_eq_true (by first | (with_reducible assumption) | assumption); have q131 : (ji20) < (y126.length : Int) := of_decide_eq_true (by first | (with_reducible assumption) | assumption); obtain ⟨ad131, e131, hx131_0⟩ := Kd.at_int (Kd.R_reads' HO_4.out).2.2 (ji20) p131 q131; obtain rfl : ad129 = ad131 := (by injection e131); replace p131 := eq_true p131; replace q131 := eq_true q131) | (go_at_call 76; (with_reducible refine (formula_boolean.calls (rd y126 (ji20)) t132 _ A23.out).mono ?_); rintro e w' ⟨rfl, ⟨nd, rfl⟩⟩; (try first | exact ⟨rfl, _, World.drewN_drewN _ _ _⟩ | exact ⟨rfl, _, Eq.trans (World.drewN_drewN _ _ _) (congrArg (World.drewN _) (Nat.add_assoc _ _ _))⟩))); try go_wp2_with (first | (go_at_call 76; (with_reducible refine (formula_boolean.calls (rd y126 x5_2) t130 _ A19.out).mono ?_); rintro e w' ⟨rfl, ⟨nd, rfl⟩⟩; (try first | exact ⟨rfl, _, World.drewN_drewN _ _ _⟩ | exact ⟨rfl, _, Eq.trans (World.drewN_drewN _ _ _) (congrArg (World.drewN _) (Nat.add_assoc _ _ _))⟩); have p131 : 0 ≤ ((ji20) : Int) := of_decide_eq_true (by first | (with_reducible assumption) | assumption); have q131 : (ji20) < (y126.length : Int) := of_decide_eq_true (by first | (with_reducible assumption) | assumption); obtain ⟨ad131, e131, hx131_0⟩ := Kd.at_int (Kd.R_reads' HO_4.out).2.2 (ji20) p131 q131; obtain rfl : ad129 = ad131 := (by injection e131); replace p131 := eq_true p131; replace q131 := eq_true q131) | (go_at_call 76; (with_reducible refine (formula_boolean.calls (rd y126 (ji20)) t132 _ A23.out).mono ?_); rintro e w' ⟨rfl, ⟨nd, rfl⟩⟩; (try first | exact ⟨rfl, _, World.drewN_drewN _ _ _⟩ | exact ⟨rfl, _, Eq.trans (World.drewN_drewN _ _ _) (congrArg (World.drewN _) (Nat.add_assoc _ _ _))⟩))))
               go_roundg k2
               case measure => have := HJ2.out; have := HK2.out; omega
               case rel => exact ⟨(wrap64 (x5_2 + 1)), (by first | rfl | (simp; done) | (simp [*]; done)), H', ⟨by have := HJ2.out; have := HK2.out; omega⟩, ⟨HO_4.r⟩, ⟨HB.l⟩⟩
             ·rw [if_neg c22] at H
              exact absurd H (by simp)
            ·rw [if_neg c21] at H
             exact absurd H (by simp)
           ·rw [if_neg c18] at H
            exact absurd H (by simp)
          ·rw [if_neg c17] at H
           have c17b0 : decide (x5_2 < (y126.length : Int)) = false := decide_eq_false c17
           clear c17
           simp only [Option.some.injEq, Prod.mk.injEq] at H
           obtain ⟨rfl, rfl⟩ := H
           obtain ⟨Ao27, co27, eo27⟩ := Kd.R_slice HO_4.out
           subst eo27
           go_wp2
           repeat (go_quiet (fail); try go_wp2)
           go_ret2
           exact ⟨_, by first | rfl | (simp [errW_none, errW_some] <;> rfl) | (simp [*, errW_none, errW_some] <;> rfl), HO_4.r, HB.l⟩
       ·rw [if_neg c13] at H
        exact absurd H (by simp)
      ·rw [if_neg c12] at H
       exact absurd H (by simp)
     ·rw [if_neg c11] at H
      exact absurd H (by simp)
 ·rw [if_neg c2] at H
  exact absurd H (by simp)

/-! ### proof_input: function 50 -/
def proof_input.f (k : Nat) (a0_0 : Int) (a0_1 : Int) (l0_2 : List (S75)) (l0_3 : List (List Int)) (a1_0 : Int) (a1_1 : Int) (l1_2 : List Int) (a1_3 : Int) (a1_4 : Int) (a1_5 : Int) : Option (List Int × Bool) := if a1_1 < 0 then (some (([] : List Int), false)) else (if a1_1 ≥ (l0_3.length : Int) then (some (([] : List Int), false)) else (if 0 ≤ a1_1 then (if a1_1 < (l0_3.length : Int) then ((formula_Normal.f k (rd_L1 l0_3 a1_1)).bind fun bt136 => (some (bt136.1, bt136.2))) else (none)) else (none)))
theorem proof_input.mono : ∀ a0 a1 a2 a3 a4 a5 a6 a7 a8 a9 k, LeO (proof_input.f k a0 a1 a2 a3 a4 a5 a6 a7 a8 a9) (proof_input.f (k + 1) a0 a1 a2 a3 a4 a5 a6 a7 a8 a9) := by
 intro a0 a1 a2 a3 a4 a5 a6 a7 a8 a9 k
 unfold proof_input.f
 repeat' first
   | (with_reducible exact formula_Normal.mono _ _)
   | (with_reducible exact LeO.refl _)
   | (with_reducible exact LeO.none _)
   | (with_reducible refine LeO.ite ?_ ?_)
   | (with_reducible refine LeO.bind ?_ (fun _ => ?_))
   | exact formula_Normal.mono _ _
   | exact LeO.none _
   | refine LeO.ite ?_ ?_
   | refine LeO.bind ?_ (fun _ => ?_)
set_option maxHeartbeats 8000000 in
set_option maxRecDepth 100000 in
theorem proof_input.calls (k : Nat) (a0_0 : Int) (a0_1 : Int) (A0_2 : Option Addr) (c0_2 : Nat) (l0_2 : List (S75)) (A0_3 : Option Addr) (c0_3 : Nat) (l0_3 : List (List Int)) (a1_0 : Int) (a1_1 : Int) (A1_2 : Option Addr) (c1_2 : Nat) (l1_2 : List Int) (a1_3 : Int) (a1_4 : Int) (a1_5 : Int) (r1 : List Int) (r2 : Bool) (w : World) (hr0_2 : Kd.C k75 w A0_2 l0_2.length l0_2) (hc0_2 : l0_2.length ≤ c0_2) (hr0_3 : Kd.C (Kd.slice 3 (Kd.int .i64)) w A0_3 l0_3.length l0_3) (hc0_3 : l0_3.length ≤ c0_3) (hr1_2 : Kd.C (Kd.int .i64) w A1_2 l1_2.length l1_2) (hc1_2 : l1_2.length ≤ c1_2) (h : proof_input.f k a0_0 a0_1 l0_2 l0_3 a1_0 a1_1 l1_2 a1_3 a1_4 a1_5 = some (r1, r2)) :
  Calls Try.prog 50 #[.agg #[.int .i64 a0_0, .int .i64 a0_1, .slice A0_2 l0_2.length c0_2, .slice A0_3 l0_3.length c0_3], .agg #[.int .i64 a1_0, .int .i64 a1_1, .slice A1_2 l1_2.length c1_2, .int .i64 a1_3, .int .i64 a1_4, .int .i64 a1_5]] w fun e w' => ∃ v0_ : Value, e = .returned (.tuple #[v0_, .bool r2]) ∧ Kd.R (Kd.int .i64) 3 w' w.heap.size (fun _ => True) v0_ r1 ∧ Below w.heap.size w w' := by
 have hu32 := Try.underlying32
 have hu50 := Try.underlying50
 have HR0_2 := Aside0.mk hr0_2
 have HC0_2 := Aside0.mk hc0_2
 clear hr0_2 hc0_2
 have HR0_3 := Aside0.mk hr0_3
 have HC0_3 := Aside0.mk hc0_3
 clear hr0_3 hc0_3
 have HR1_2 := Aside0.mk hr1_2
 have HC1_2 := Aside0.mk hc1_2
 clear hr1_2 hc1_2
 have HB := Aside0.mk (Below.refl w.heap.size w)
 have H : (if a1_1 < 0 then (some (([] : List Int), false)) else (if a1_1 ≥ (l0_3.length : Int) then (some (([] : List Int), false)) else (if 0 ≤ a1_1 then (if a1_1 < (l0_3.length : Int) then ((formula_Normal.f k (rd_L1 l0_3 a1_1)).bind fun bt136 => (some (bt136.1, bt136.2))) else (none)) else (none)))) = some (r1, r2) := h
 clear h
 by_cases c3 : a1_1 < 0
 ·rw [if_pos c3] at H
  have c3b0 : decide (a1_1 < 0) = true := decide_eq_true c3
  clear c3
  simp only [Option.some.injEq, Prod.mk.injEq] at H
  obtain ⟨rfl, rfl⟩ := H
  go_enter Try.func50, Try.ntmps50
  go_wp2_with (first | ((with_reducible refine gate_dst (N := 2) rfl ?_); (try (refine gate_guard (by rfl) ?_; dsimp only)); refine box_ev (N := 2) rfl (cs := #[.int .i64 a0_0, .int .i64 a0_1, .slice A0_2 l0_2.length c0_2, .slice A0_3 l0_3.length c0_3]) (t := 32) ?_; intro gb133 hg w4 hbox hb; have n0_ := Aside0.mk (below_step HB.l hb); have n1_ := Aside0.mk (hbox); have n2_ := Aside0.mk ((by rw [hg]; exact (below_size HB.l) : w.heap.size ≤ gb133)); have n3_ := Aside0.mk ((by rw [hg]; exact (below_size HB.l) : w.heap.size ≤ gb133)); clear HB; revert n0_ n1_ n2_ n3_; intro HB BK133 GW133 GE133; clear hb hbox hg) | ((with_reducible refine gate_dst (N := 3) rfl ?_); (try (refine gate_guard (by rfl) ?_; dsimp only)); refine box_ev (N := 3) rfl (cs := #[.int .i64 a1_0, .int .i64 a1_1, .slice A1_2 l1_2.length c1_2, .int .i64 a1_3, .int .i64 a1_4, .int .i64 a1_5]) (t := 50) ?_; intro gb134 hg w5 hbox hb; have n0_ := Aside0.mk (blk_below BK133.b hb); have n1_ := Aside0.mk (below_step HB.l hb); have n2_ := Aside0.mk (hbox); have n3_ := Aside0.mk ((by rw [hg]; exact (below_size HB.l) : w.heap.size ≤ gb134)); have n4_ := Aside0.mk ((by rw [hg]; exact (below_size HB.l) : w.heap.size ≤ gb134)); have n5_ := Aside0.mk ((by rw [hg]; exact Nat.ne_of_lt (blk_lt BK133.b) : gb133 ≠ gb134)); have n6_ := Aside0.mk ((by rw [hg]; exact Nat.ne_of_gt (blk_lt BK133.b) : gb134 ≠ gb133)); clear BK133 HB; revert n0_ n1_ n2_ n3_ n4_ n5_ n6_; intro BK133 HB BK134 GW134 GE134 NB133_134 NB134_133; clear hb hbox hg; have hnb6 := NB134_133.out; have hnc6 := NB133_134.out; have hcz7_0 := BK134.cl 0 (.int .i64 a1_0); have hcz7_1 := BK134.cl 1 (.int .i64 a1_1); have hcz7_2 := BK134.cl 2 (.slice A1_2 l1_2.length c1_2); have hcz7_3 := BK134.cl 3 (.int .i64 a1_3); have hcz7_4 := BK134.cl 4 (.int .i64 a1_4); have hcz7_5 := BK134.cl 5 (.int .i64 a1_5); have hfz7_0 := BK134.fz 0; have hfz7_1 := BK134.fz 1; have hfz7_2 := BK134.fz 2; have hfz7_3 := BK134.fz 3; have hfz7_4 := BK134.fz 4; have hfz7_5 := BK134.fz 5))
  go_ret2
  exact ⟨_, by first | rfl | (simp [errW_none, errW_some] <;> rfl) | (simp [*, errW_none, errW_some] <;> rfl), by first | exact Kd.R_nil _ _ _ _ _ | exact Kd.N_nil _ _ _ _ _ | exact Kd.V_nil _ _ _ _ _ | exact Kd.Q_nil _ _ _ _ _ | exact Kd.S_nil _ _ _ _ _, HB.l⟩
 ·rw [if_neg c3] at H
  have c3b0 : decide (a1_1 < 0) = false := decide_eq_false c3
  clear c3
  by_cases c8 : a1_1 ≥ (l0_3.length : Int)
  ·rw [if_pos c8] at H
   have c8b0 : decide ((l0_3.length : Int) ≤ a1_1) = true := decide_eq_true c8
   clear c8
   simp only [Option.some.injEq, Prod.mk.injEq] at H
   obtain ⟨rfl, rfl⟩ := H
   go_enter Try.func50, Try.ntmps50
   go_wp2_with (first | ((with_reducible refine gate_dst (N := 2) rfl ?_); (try (refine gate_guard (by rfl) ?_; dsimp only)); refine box_ev (N := 2) rfl (cs := #[.int .i64 a0_0, .int .i64 a0_1, .slice A0_2 l0_2.length c0_2, .slice A0_3 l0_3.length c0_3]) (t := 32) ?_; intro gb133 hg w9 hbox hb; have n0_ := Aside0.mk (below_step HB.l hb); have n1_ := Aside0.mk (hbox); have n2_ := Aside0.mk ((by rw [hg]; exact (below_size HB.l) : w.heap.size ≤ gb133)); have n3_ := Aside0.mk ((by rw [hg]; exact (below_size HB.l) : w.heap.size ≤ gb133)); clear HB; revert n0_ n1_ n2_ n3_; intro HB BK133 GW133 GE133; clear hb hbox hg) | ((with_reducible refine gate_dst (N := 3) rfl ?_); (try (refine gate_guard (by rfl) ?_; dsimp only)); refine box_ev (N := 3) rfl (cs := #[.int .i64 a1_0, .int .i64 a1_1, .slice A1_2 l1_2.length c1_2, .int .i64 a1_3, .int .i64 a1_4, .int .i64 a1_5]) (t := 50) ?_; intro gb134 hg w10 hbox hb; have n0_ := Aside0.mk (blk_below BK133.b hb); have n1_ := Aside0.mk (below_step HB.l hb); have n2_ := Aside0.mk (hbox); have n3_ := Aside0.mk ((by rw [hg]; exact (below_size HB.l) : w.heap.size ≤ gb134)); have n4_ := Aside0.mk ((by rw [hg]; exact (below_size HB.l) : w.heap.size ≤ gb134)); have n5_ := Aside0.mk ((by rw [hg]; exact Nat.ne_of_lt (blk_lt BK133.b) : gb133 ≠ gb134)); have n6_ := Aside0.mk ((by rw [hg]; exact Nat.ne_of_gt (blk_lt BK133.b) : gb134 ≠ gb133)); clear BK133 HB; revert n0_ n1_ n2_ n3_ n4_ n5_ n6_; intro BK133 HB BK134 GW134 GE134 NB133_134 NB134_133; clear hb hbox hg; have hnb11 := NB134_133.out; have hnc11 := NB133_134.out; have hcz12_0 := BK134.cl 0 (.int .i64 a1_0); have hcz12_1 := BK134.cl 1 (.int .i64 a1_1); have hcz12_2 := BK134.cl 2 (.slice A1_2 l1_2.length c1_2); have hcz12_3 := BK134.cl 3 (.int .i64 a1_3); have hcz12_4 := BK134.cl 4 (.int .i64 a1_4); have hcz12_5 := BK134.cl 5 (.int .i64 a1_5); have hfz12_0 := BK134.fz 0; have hfz12_1 := BK134.fz 1; have hfz12_2 := BK134.fz 2; have hfz12_3 := BK134.fz 3; have hfz12_4 := BK134.fz 4; have hfz12_5 := BK134.fz 5; have hcz13_0 := BK133.cl 0 (.int .i64 a0_0); have hcz13_1 := BK133.cl 1 (.int .i64 a0_1); have hcz13_2 := BK133.cl 2 (.slice A0_2 l0_2.length c0_2); have hcz13_3 := BK133.cl 3 (.slice A0_3 l0_3.length c0_3); have hfz13_0 := BK133.fz 0; have hfz13_1 := BK133.fz 1; have hfz13_2 := BK133.fz 2; have hfz13_3 := BK133.fz 3))
   go_ret2
   exact ⟨_, by first | rfl | (simp [errW_none, errW_some] <;> rfl) | (simp [*, errW_none, errW_some] <;> rfl), by first | exact Kd.R_nil _ _ _ _ _ | exact Kd.N_nil _ _ _ _ _ | exact Kd.V_nil _ _ _ _ _ | exact Kd.Q_nil _ _ _ _ _ | exact Kd.S_nil _ _ _ _ _, HB.l⟩
  ·rw [if_neg c8] at H
   have c8b0 : decide ((l0_3.length : Int) ≤ a1_1) = false := decide_eq_false c8
   clear c8
   by_cases c14 : 0 ≤ a1_1
   ·rw [if_pos c14] at H
    have c14b0 : decide (0 ≤ a1_1) = true := decide_eq_true c14
    clear c14
    by_cases c15 : a1_1 < (l0_3.length : Int)
    ·rw [if_pos c15] at H
     have c15b0 : decide (a1_1 < (l0_3.length : Int)) = true := decide_eq_true c15
     clear c15
     replace H := Option.bind_eq_some_iff.mp H
     obtain ⟨⟨t136, t137⟩, A160, H⟩ := H
     replace H : (some (t136, t137)) = some (r1, r2) := H
     have A16 := Aside0.mk A160
     clear A160
     simp only [Option.some.injEq, Prod.mk.injEq] at H
     obtain ⟨rfl, rfl⟩ := H
     go_enter Try.func50, Try.ntmps50
     go_wp2_with (first | ((with_reducible refine gate_dst (N := 2) rfl ?_); (try (refine gate_guard (by rfl) ?_; dsimp only)); refine box_ev (N := 2) rfl (cs := #[.int .i64 a0_0, .int .i64 a0_1, .slice A0_2 l0_2.length c0_2, .slice A0_3 l0_3.length c0_3]) (t := 32) ?_; intro gb133 hg w17 hbox hb; have n0_ := Aside0.mk (below_step HB.l hb); have n1_ := Aside0.mk (hbox); have n2_ := Aside0.mk ((by rw [hg]; exact (below_size HB.l) : w.heap.size ≤ gb133)); have n3_ := Aside0.mk ((by rw [hg]; exact (below_size HB.l) : w.heap.size ≤ gb133)); clear HB; revert n0_ n1_ n2_ n3_; intro HB BK133 GW133 GE133; clear hb hbox hg) | ((with_reducible refine gate_dst (N := 3) rfl ?_); (try (refine gate_guard (by rfl) ?_; dsimp only)); refine box_ev (N := 3) rfl (cs := #[.int .i64 a1_0, .int .i64 a1_1, .slice A1_2 l1_2.length c1_2, .int .i64 a1_3, .int .i64 a1_4, .int .i64 a1_5]) (t := 50) ?_; intro gb134 hg w18 hbox hb; have n0_ := Aside0.mk (blk_below BK133.b hb); have n1_ := Aside0.mk (below_step HB.l hb); have n2_ := Aside0.mk (hbox); have n3_ := Aside0.mk ((by rw [hg]; exact (below_size HB.l) : w.heap.size ≤ gb134)); have n4_ := Aside0.mk ((by rw [hg]; exact (below_size HB.l) : w.heap.size ≤ gb134)); have n5_ := Aside0.mk ((by rw [hg]; exact Nat.ne_of_lt (blk_lt BK133.b) : gb133 ≠ gb134)); have n6_ := Aside0.mk ((by rw [hg]; exact Nat.ne_of_gt (blk_lt BK133.b) : gb134 ≠ gb133)); clear BK133 HB; revert n0_ n1_ n2_ n3_ n4_ n5_ n6_; intro BK133 HB BK134 GW134 GE134 NB133_134 NB134_133; clear hb hbox hg; have hnb19 := NB134_133.out; have hnc19 := NB133_134.out; have hcz20_0 := BK134.cl 0 (.int .i64 a1_0); have hcz20_1 := BK134.cl 1 (.int .i64 a1_1); have hcz20_2 := BK134.cl 2 (.slice A1_2 l1_2.length c1_2); have hcz20_3 := BK134.cl 3 (.int .i64 a1_3); have hcz20_4 := BK134.cl 4 (.int .i64 a1_4); have hcz20_5 := BK134.cl 5 (.int .i64 a1_5); have hfz20_0 := BK134.fz 0; have hfz20_1 := BK134.fz 1; have hfz20_2 := BK134.fz 2; have hfz20_3 := BK134.fz 3; have hfz20_4 := BK134.fz 4; have hfz20_5 := BK134.fz 5; have hcz21_0 := BK133.cl 0 (.int .i64 a0_0); have hcz21_1 := BK133.cl 1 (.int .i64 a0_1); have hcz21_2 := BK133.cl 2 (.slice A0_2 l0_2.length c0_2); have hcz21_3 := BK133.cl 3 (.slice A0_3 l0_3.length c0_3); have hfz21_0 := BK133.fz 0; have hfz21_1 := BK133.fz 1; have hfz21_2 := BK133.fz 2; have hfz21_3 := BK133.fz 3; have p135 : 0 ≤ (a1_1 : Int) := of_decide_eq_true (by first | (with_reducible assumption) | assumption); have q135 : a1_1 < (l0_3.length : Int) := of_decide_eq_true (by first | (with_reducible assumption) | assumption); obtain ⟨ad135, A135_0, c135_0, e135, hx135_0, hl135_0, hi135_0⟩ := at_L1 HR0_3.out a1_1 p135 q135; cases e135; replace hx135_0 := (HB.out.cell (World.block_lt_of_cell? w _ hx135_0)).trans hx135_0; have HR135_0 := Aside0.mk hi135_0; have HC135_0 := Aside0.mk hl135_0; clear hi135_0 hl135_0; replace p135 := eq_true p135; replace q135 := eq_true q135) | ((with_reducible refine gate_callee (f := 59) rfl ?_); refine goesM_ Try.func59 #[.slice A135_0 (rd_L1 l0_3 a1_1).length c135_0] ?_; (with_reducible refine (formula_Normal.calls k _ _ (rd_L1 l0_3 a1_1) t136 t137 _ ?side1 ?side2 A16.out).mono ?_); (case side1 => exact HR135_0.c HB.l); (case side2 => exact HC135_0.out); rintro e w22 ⟨v138, rfl, ho0, hb⟩; refine ⟨_, rfl, ?_⟩; have n0_ := Aside0.mk (Kd.R_lower ho0 (below_size HB.l)); have n1_ := Aside0.mk (blk_below BK133.b hb); have n2_ := Aside0.mk (blk_below BK134.b hb); have n3_ := Aside0.mk (below_step HB.l hb); clear BK133 BK134 HB; revert n0_ n1_ n2_ n3_; intro HO139 BK133 BK134 HB; (try clear hb); (try clear hb2); (try clear hk); (try clear hi); (try clear ho0)))
     go_ret2
     exact ⟨_, by first | rfl | (simp [errW_none, errW_some] <;> rfl) | (simp [*, errW_none, errW_some] <;> rfl), HO139.r, HB.l⟩
    ·rw [if_neg c15] at H
     exact absurd H (by simp)
   ·rw [if_neg c14] at H
    exact absurd H (by simp)

end Go.Proofs.Ytppbnjmhkifdaaa.X
