-- Written by this session's own program (wip/tools/xprint.py).
import Derived.Test.YtppbnjmhkifdaaaX0
import Derived.Test.YtppbnjmhkifdaaaSx
import Derived.Test.YtppbnjmhkifdaaaX8
namespace Go.Proofs.Ytppbnjmhkifdaaa.X
open Go.RowKit Go.Proofs.YtppbnjmhkifdaaaW.PrintWords Go.Proofs.YtppbnjmhkifdaaaW.PrintLast Go.Proofs.YtppbnjmhkifdaaaW.PrintMore
attribute [local go_sem] max2_int min2_int max_two min_two max_three min_three max_four min_four   -- for this text's walks alone
set_option linter.unusedVariables false
set_option linter.unusedSimpArgs false

/-! ### interleaveref31_contains: function 56 -/
def interleaveref31_contains.l0 : Nat → Int → List Int → Int → Int → Option (Bool)
 | 0, _, _, _, _ => none
 | k + 1, x1, x7, x8, x9 => if x9 < x8 then (if 0 ≤ x9 then (if x9 < (x7.length : Int) then (if (rd x7 x9) = x1 then (some true) else (interleaveref31_contains.l0 k x1 x7 x8 (wrap64 (x9 + 1)))) else (none)) else (none)) else (some false)
def interleaveref31_contains.f (k : Nat) (l0 : List Int) (a1 : Int) : Option (Bool) := interleaveref31_contains.l0 k a1 l0 (l0.length : Int) 0
theorem interleaveref31_contains.mono_l : ∀ k, (∀ y0 y1 y2 y3, LeO (interleaveref31_contains.l0 k y0 y1 y2 y3) (interleaveref31_contains.l0 (k + 1) y0 y1 y2 y3))
 | 0 => fun _ _ _ _ r h => by simp [interleaveref31_contains.l0] at h
 | k + 1 => by
  have ih0 := interleaveref31_contains.mono_l k
  ·intro y0 y1 y2 y3
   unfold interleaveref31_contains.l0
   repeat' first
   | (with_reducible exact ih0 _ _ _ _)
   | (with_reducible exact LeO.refl _)
   | (with_reducible exact LeO.none _)
   | (with_reducible refine LeO.ite ?_ ?_)
   | (with_reducible refine LeO.bind ?_ (fun _ => ?_))
   | exact ih0 _ _ _ _
   | exact LeO.none _
   | refine LeO.ite ?_ ?_
   | refine LeO.bind ?_ (fun _ => ?_)
theorem interleaveref31_contains.mono : ∀ a0 a1 k, LeO (interleaveref31_contains.f k a0 a1) (interleaveref31_contains.f (k + 1) a0 a1) := by
 intro a0 a1 k
 have ih0 := interleaveref31_contains.mono_l k
 unfold interleaveref31_contains.f
 repeat' first
   | (with_reducible exact ih0 _ _ _ _)
   | (with_reducible exact LeO.refl _)
   | (with_reducible exact LeO.none _)
   | (with_reducible refine LeO.ite ?_ ?_)
   | (with_reducible refine LeO.bind ?_ (fun _ => ?_))
   | exact ih0 _ _ _ _
   | exact LeO.none _
   | refine LeO.ite ?_ ?_
   | refine LeO.bind ?_ (fun _ => ?_)
set_option maxHeartbeats 8000000 in
set_option maxRecDepth 100000 in
theorem interleaveref31_contains.calls (k : Nat) (A0 : Option Addr) (c0 : Nat) (l0 : List Int) (a1 : Int) (r : Bool) (w : World) (hr0 : Kd.C (Kd.int .i64) w A0 l0.length l0) (hc0 : l0.length ≤ c0) (h : interleaveref31_contains.f k l0 a1 = some r) :
  Calls Try.prog 56 #[.slice A0 l0.length c0, .int .i64 a1] w fun e w' => e = .returned (.bool r) ∧ Drawn0 w w' := by
 have HR0 := Aside0.mk hr0
 have HC0 := Aside0.mk hc0
 clear hr0 hc0
 have H : (interleaveref31_contains.l0 k a1 l0 (l0.length : Int) 0) = some r := h
 clear h
 have H' := Aside0.mk H
 clear H
 go_enter Try.func56, Try.ntmps56
 go_wp2
 go_loopg [9] k (fun kq v9 w' => ∃ (x9_1 : Int), v9 = .int .i64 x9_1 ∧ Aside0 (interleaveref31_contains.l0 kq a1 l0 (l0.length : Int) x9_1 = some r) ∧ Aside0 (kq ≤ k) ∧ Drawn0 w w')
 case atStart => exact ⟨(0), (by first | rfl | (simp; done) | (simp [*]; done)), H', ⟨Nat.le_refl _⟩, by repeat (first | exact Drawn0.refl _ | apply Drawn0.step)⟩
 case round => as_aux_lemma =>
  clear H'
  try clear p2
  obtain ⟨x9_1, rfl, HA, HK1, ⟨m1, rfl⟩⟩ := hrel
  cases gk with
  | zero => exact absurd HA.out (by simp [interleaveref31_contains.l0])
  | succ k1 =>
   have H := HA.out
   clear HA
   simp only [interleaveref31_contains.l0] at H
   by_cases c3 : x9_1 < (l0.length : Int)
   ·rw [if_pos c3] at H
    have c3b0 : decide (x9_1 < (l0.length : Int)) = true := decide_eq_true c3
    clear c3
    by_cases c4 : 0 ≤ x9_1
    ·rw [if_pos c4] at H
     have c4b0 : decide (0 ≤ x9_1) = true := decide_eq_true c4
     clear c4
     by_cases c5 : x9_1 < (l0.length : Int)
     ·rw [if_pos c5] at H
      have c5b0 : decide (x9_1 < (l0.length : Int)) = true := decide_eq_true c5
      clear c5
      by_cases c6 : (rd l0 x9_1) = a1
      ·rw [if_pos c6] at H
       have c6b0 : ((rd l0 x9_1) == a1) = true := beq_iff_eq.mpr c6
       have c6b1 : ((rd l0 x9_1) != a1) = false := bne_eq_false_iff_eq.mpr c6
       clear c6
       obtain rfl := Option.some.inj H
       have p372 : 0 ≤ (x9_1 : Int) := of_decide_eq_true (by first | (with_reducible assumption) | assumption)
       have q372 : x9_1 < (l0.length : Int) := of_decide_eq_true (by first | (with_reducible assumption) | assumption)
       obtain ⟨ad372, e372, hx372_0⟩ := Kd.at_int HR0.out x9_1 p372 q372
       cases e372
       replace p372 := eq_true p372
       replace q372 := eq_true q372
       go_wp2
       go_ret
       exact ⟨by first | rfl | (simp; done) | (simp [*]; done), by repeat (first | exact Drawn0.refl _ | apply Drawn0.step)⟩
      ·rw [if_neg c6] at H
       have c6b0 : ((rd l0 x9_1) == a1) = false := beq_eq_false_iff_ne.mpr c6
       have c6b1 : ((rd l0 x9_1) != a1) = true := bne_iff_ne.mpr c6
       have H' := Aside0.mk H
       clear H
       have p372 : 0 ≤ (x9_1 : Int) := of_decide_eq_true (by first | (with_reducible assumption) | assumption)
       have q372 : x9_1 < (l0.length : Int) := of_decide_eq_true (by first | (with_reducible assumption) | assumption)
       obtain ⟨ad372, e372, hx372_0⟩ := Kd.at_int HR0.out x9_1 p372 q372
       cases e372
       replace p372 := eq_true p372
       replace q372 := eq_true q372
       go_wp2
       go_roundg k1
       case measure => have := HK1.out; omega
       case rel => exact ⟨(wrap64 (x9_1 + 1)), (by first | rfl | (simp; done) | (simp [*]; done)), H', ⟨by have := HK1.out; omega⟩, by repeat (first | exact Drawn0.refl _ | apply Drawn0.step)⟩
     ·rw [if_neg c5] at H
      exact absurd H (by simp)
    ·rw [if_neg c4] at H
     exact absurd H (by simp)
   ·rw [if_neg c3] at H
    have c3b0 : decide (x9_1 < (l0.length : Int)) = false := decide_eq_false c3
    clear c3
    obtain rfl := Option.some.inj H
    go_wp2
    go_ret
    exact ⟨by first | rfl | (simp; done) | (simp [*]; done), by repeat (first | exact Drawn0.refl _ | apply Drawn0.step)⟩

/-! ### interleaveref31_Resolvent: function 45 -/
mutual
def interleaveref31_Resolvent.j0 : Nat → List Int → List Int → Int → Bool → Option (List Int × Bool)
 | 0, _, _, _, _ => none
 | k + 1, x0, x1, x2, x33 => if x33 = true then (some (([] : List Int), false)) else (interleaveref31_Resolvent.l0 k x1 x2 ([] : List Int) x0 (x0.length : Int) 0)
def interleaveref31_Resolvent.l0 : Nat → List Int → Int → List Int → List Int → Int → Int → Option (List Int × Bool)
 | 0, _, _, _, _, _, _ => none
 | k + 1, x1, x2, x8, x34, x35, x36 => if x36 < x35 then (if 0 ≤ x36 then (if x36 < (x34.length : Int) then (if (rd x34 x36) = (wrap64 (x2 + 1)) then (interleaveref31_Resolvent.l0 k x1 x2 x8 x34 x35 (wrap64 (x36 + 1))) else (if x8.length < 17592186044416 then (interleaveref31_Resolvent.l0 k x1 x2 (x8 ++ [rd x34 x36]) x34 x35 (wrap64 (x36 + 1))) else (none))) else (none)) else (none)) else (interleaveref31_Resolvent.l1 k x2 x8 x1 (x1.length : Int) 0)
def interleaveref31_Resolvent.l1 : Nat → Int → List Int → List Int → Int → Int → Option (List Int × Bool)
 | 0, _, _, _, _, _ => none
 | k + 1, x2, x8, x49, x50, x51 => if x51 < x50 then (if 0 ≤ x51 then (if x51 < (x49.length : Int) then (if (rd x49 x51) = (wrap64 (-(wrap64 (x2 + 1)))) then (interleaveref31_Resolvent.l1 k x2 x8 x49 x50 (wrap64 (x51 + 1))) else (if x8.length < 17592186044416 then (interleaveref31_Resolvent.l1 k x2 (x8 ++ [rd x49 x51]) x49 x50 (wrap64 (x51 + 1))) else (none))) else (none)) else (none)) else ((interleaveref31_Normal.f k x8).bind fun bt383 => (some (bt383.1, bt383.2)))
end
def interleaveref31_Resolvent.f (k : Nat) (l0 : List Int) (l1 : List Int) (a2 : Int) : Option (List Int × Bool) := if a2 < 0 then (interleaveref31_Resolvent.j0 k l0 l1 a2 true) else (if a2 ≥ 1024 then (interleaveref31_Resolvent.j0 k l0 l1 a2 true) else ((interleaveref31_contains.f k l0 (wrap64 (a2 + 1))).bind fun t373 => (if t373 = true then ((interleaveref31_contains.f k l1 (wrap64 (-(wrap64 (a2 + 1))))).bind fun t374 => (interleaveref31_Resolvent.j0 k l0 l1 a2 (!t374))) else (interleaveref31_Resolvent.j0 k l0 l1 a2 true))))
theorem interleaveref31_Resolvent.mono_l : ∀ k, (∀ y0 y1 y2 y3, LeO (interleaveref31_Resolvent.j0 k y0 y1 y2 y3) (interleaveref31_Resolvent.j0 (k + 1) y0 y1 y2 y3)) ∧ (∀ y0 y1 y2 y3 y4 y5, LeO (interleaveref31_Resolvent.l0 k y0 y1 y2 y3 y4 y5) (interleaveref31_Resolvent.l0 (k + 1) y0 y1 y2 y3 y4 y5)) ∧ (∀ y0 y1 y2 y3 y4, LeO (interleaveref31_Resolvent.l1 k y0 y1 y2 y3 y4) (interleaveref31_Resolvent.l1 (k + 1) y0 y1 y2 y3 y4))
 | 0 => ⟨fun _ _ _ _ r h => by simp [interleaveref31_Resolvent.j0] at h, fun _ _ _ _ _ _ r h => by simp [interleaveref31_Resolvent.l0] at h, fun _ _ _ _ _ r h => by simp [interleaveref31_Resolvent.l1] at h⟩
 | k + 1 => by
  obtain ⟨ih0, ih1, ih2⟩ := interleaveref31_Resolvent.mono_l k
  refine ⟨?_, ?_, ?_⟩
  ·intro y0 y1 y2 y3
   unfold interleaveref31_Resolvent.j0
   repeat' first
   | (with_reducible exact ih0 _ _ _ _)
   | (with_reducible exact ih1 _ _ _ _ _ _)
   | (with_reducible exact ih2 _ _ _ _ _)
   | (with_reducible exact interleaveref31_Normal.mono _ _)
   | (with_reducible exact interleaveref31_contains.mono _ _ _)
   | (with_reducible exact LeO.refl _)
   | (with_reducible exact LeO.none _)
   | (with_reducible refine LeO.ite ?_ ?_)
   | (with_reducible refine LeO.bind ?_ (fun _ => ?_))
   | exact ih0 _ _ _ _
   | exact ih1 _ _ _ _ _ _
   | exact ih2 _ _ _ _ _
   | exact interleaveref31_Normal.mono _ _
   | exact interleaveref31_contains.mono _ _ _
   | exact LeO.none _
   | refine LeO.ite ?_ ?_
   | refine LeO.bind ?_ (fun _ => ?_)
  ·intro y0 y1 y2 y3 y4 y5
   unfold interleaveref31_Resolvent.l0
   repeat' first
   | (with_reducible exact ih0 _ _ _ _)
   | (with_reducible exact ih1 _ _ _ _ _ _)
   | (with_reducible exact ih2 _ _ _ _ _)
   | (with_reducible exact interleaveref31_Normal.mono _ _)
   | (with_reducible exact interleaveref31_contains.mono _ _ _)
   | (with_reducible exact LeO.refl _)
   | (with_reducible exact LeO.none _)
   | (with_reducible refine LeO.ite ?_ ?_)
   | (with_reducible refine LeO.bind ?_ (fun _ => ?_))
   | exact ih0 _ _ _ _
   | exact ih1 _ _ _ _ _ _
   | exact ih2 _ _ _ _ _
   | exact interleaveref31_Normal.mono _ _
   | exact interleaveref31_contains.mono _ _ _
   | exact LeO.none _
   | refine LeO.ite ?_ ?_
   | refine LeO.bind ?_ (fun _ => ?_)
  ·intro y0 y1 y2 y3 y4
   unfold interleaveref31_Resolvent.l1
   repeat' first
   | (with_reducible exact ih0 _ _ _ _)
   | (with_reducible exact ih1 _ _ _ _ _ _)
   | (with_reducible exact ih2 _ _ _ _ _)
   | (with_reducible exact interleaveref31_Normal.mono _ _)
   | (with_reducible exact interleaveref31_contains.mono _ _ _)
   | (with_reducible exact LeO.refl _)
   | (with_reducible exact LeO.none _)
   | (with_reducible refine LeO.ite ?_ ?_)
   | (with_reducible refine LeO.bind ?_ (fun _ => ?_))
   | exact ih0 _ _ _ _
   | exact ih1 _ _ _ _ _ _
   | exact ih2 _ _ _ _ _
   | exact interleaveref31_Normal.mono _ _
   | exact interleaveref31_contains.mono _ _ _
   | exact LeO.none _
   | refine LeO.ite ?_ ?_
   | refine LeO.bind ?_ (fun _ => ?_)
theorem interleaveref31_Resolvent.mono : ∀ a0 a1 a2 k, LeO (interleaveref31_Resolvent.f k a0 a1 a2) (interleaveref31_Resolvent.f (k + 1) a0 a1 a2) := by
 intro a0 a1 a2 k
 obtain ⟨ih0, ih1, ih2⟩ := interleaveref31_Resolvent.mono_l k
 unfold interleaveref31_Resolvent.f
 repeat' first
   | (with_reducible exact ih0 _ _ _ _)
   | (with_reducible exact ih1 _ _ _ _ _ _)
   | (with_reducible exact ih2 _ _ _ _ _)
   | (with_reducible exact interleaveref31_Normal.mono _ _)
   | (with_reducible exact interleaveref31_contains.mono _ _ _)
   | (with_reducible exact LeO.refl _)
   | (with_reducible exact LeO.none _)
   | (with_reducible refine LeO.ite ?_ ?_)
   | (with_reducible refine LeO.bind ?_ (fun _ => ?_))
   | exact ih0 _ _ _ _
   | exact ih1 _ _ _ _ _ _
   | exact ih2 _ _ _ _ _
   | exact interleaveref31_Normal.mono _ _
   | exact interleaveref31_contains.mono _ _ _
   | exact LeO.none _
   | refine LeO.ite ?_ ?_
   | refine LeO.bind ?_ (fun _ => ?_)
set_option maxHeartbeats 8000000 in
set_option maxRecDepth 100000 in
theorem interleaveref31_Resolvent.calls (k : Nat) (A0 : Option Addr) (c0 : Nat) (l0 : List Int) (A1 : Option Addr) (c1 : Nat) (l1 : List Int) (a2 : Int) (r1 : List Int) (r2 : Bool) (w : World) (hr0 : Kd.C (Kd.int .i64) w A0 l0.length l0) (hc0 : l0.length ≤ c0) (hr1 : Kd.C (Kd.int .i64) w A1 l1.length l1) (hc1 : l1.length ≤ c1) (h : interleaveref31_Resolvent.f k l0 l1 a2 = some (r1, r2)) :
  Calls Try.prog 45 #[.slice A0 l0.length c0, .slice A1 l1.length c1, .int .i64 a2] w fun e w' => ∃ v0_ : Value, e = .returned (.tuple #[v0_, .bool r2]) ∧ Kd.R (Kd.int .i64) 3 w' w.heap.size (fun _ => True) v0_ r1 ∧ Below w.heap.size w w' := by
 have HR0 := Aside0.mk hr0
 have HC0 := Aside0.mk hc0
 clear hr0 hc0
 have HR1 := Aside0.mk hr1
 have HC1 := Aside0.mk hc1
 clear hr1 hc1
 have HB := Aside0.mk (Below.refl w.heap.size w)
 have H : (if a2 < 0 then (interleaveref31_Resolvent.j0 k l0 l1 a2 true) else (if a2 ≥ 1024 then (interleaveref31_Resolvent.j0 k l0 l1 a2 true) else ((interleaveref31_contains.f k l0 (wrap64 (a2 + 1))).bind fun t373 => (if t373 = true then ((interleaveref31_contains.f k l1 (wrap64 (-(wrap64 (a2 + 1))))).bind fun t374 => (interleaveref31_Resolvent.j0 k l0 l1 a2 (!t374))) else (interleaveref31_Resolvent.j0 k l0 l1 a2 true))))) = some (r1, r2) := h
 clear h
 have HC4 := Aside0.mk H
 clear H
 go_enter Try.func45, Try.ntmps45
 go_upto_region 1 with (fail)
 go_cut [33] (fun v33 wc => ∃ (kq : Nat) (x33_3 : Bool), v33 = .bool x33_3 ∧ Aside0 (interleaveref31_Resolvent.j0 kq l0 l1 a2 x33_3 = some (r1, r2)) ∧ Aside0 (kq ≤ k) ∧ Aside0 (Below w.heap.size w wc))
 case first => as_aux_lemma =>
  have H := HC4.out
  clear HC4
  by_cases c5 : a2 < 0
  ·rw [if_pos c5] at H
   have c5b0 : decide (a2 < 0) = true := decide_eq_true c5
   clear c5
   (first | rw [c5b0] | (simp only [i64_w, i32_w]; rw [c5b0]) | skip)
   have H' := Aside0.mk H
   clear H
   go_wp2
   go_meet
   case rel => exact ⟨_, (true), (by first | rfl | (simp; done) | (simp [*]; done)), H', ⟨by first | omega | exact Nat.le_refl _⟩, ⟨HB.l⟩⟩
  ·rw [if_neg c5] at H
   have c5b0 : decide (a2 < 0) = false := decide_eq_false c5
   clear c5
   (first | rw [c5b0] | (simp only [i64_w, i32_w]; rw [c5b0]) | skip)
   by_cases c6 : a2 ≥ 1024
   ·rw [if_pos c6] at H
    have c6b0 : decide (1024 ≤ a2) = true := decide_eq_true c6
    clear c6
    have H' := Aside0.mk H
    clear H
    go_wp2
    go_meet
    case rel => exact ⟨_, (true), (by first | rfl | (simp; done) | (simp [*]; done)), H', ⟨by first | omega | exact Nat.le_refl _⟩, ⟨HB.l⟩⟩
   ·rw [if_neg c6] at H
    have c6b0 : decide (1024 ≤ a2) = false := decide_eq_false c6
    clear c6
    replace H := Option.bind_eq_some_iff.mp H
    obtain ⟨t373, A70, H⟩ := H
    replace H : (if t373 = true then ((interleaveref31_contains.f k l1 (wrap64 (-(wrap64 (a2 + 1))))).bind fun t374 => (interleaveref31_Resolvent.j0 k l0 l1 a2 (!t374))) else (interleaveref31_Resolvent.j0 k l0 l1 a2 true)) = some (r1, r2) := H
    have A7 := Aside0.mk A70
    clear A70
    by_cases c8 : t373 = true
    ·subst c8
     have H1 : ((interleaveref31_contains.f k l1 (wrap64 (-(wrap64 (a2 + 1))))).bind fun t374 => (interleaveref31_Resolvent.j0 k l0 l1 a2 (!t374))) = some (r1, r2) := by rw [if_pos rfl] at H; exact H
     clear H
     have H := H1
     clear H1
     replace H := Option.bind_eq_some_iff.mp H
     obtain ⟨t374, A90, H⟩ := H
     replace H : (interleaveref31_Resolvent.j0 k l0 l1 a2 (!t374)) = some (r1, r2) := H
     have A9 := Aside0.mk A90
     clear A90
     have H' := Aside0.mk H
     clear H
     go_wp2_with (first | (go_at_call 56; (with_reducible refine (interleaveref31_contains.calls k _ _ l0 (wrap64 (a2 + 1)) true _ ?side1 ?side2 A7.out).mono ?_); (case side1 => exact HR0.c HB.l); (case side2 => exact HC0.out); rintro e w' ⟨rfl, ⟨nd, rfl⟩⟩) | (go_at_call 56; (with_reducible refine (interleaveref31_contains.calls k _ _ l1 (wrap64 (-(wrap64 (a2 + 1)))) t374 _ ?side1 ?side2 A9.out).mono ?_); (case side1 => repeat (first | exact (Kd.C_below HR1.out HB.l) | (with_reducible refine Kd.C_alloc ?_ _) | (with_reducible refine Kd.C_drewN ?_ _) | (with_reducible refine Kd.C_drew ?_))); (case side2 => exact HC1.out); rintro e w' ⟨rfl, ⟨nd, rfl⟩⟩))
     go_meet
     case rel => exact ⟨_, (!t374), (by first | rfl | (simp; done) | (simp [*]; done)), H', ⟨by first | omega | exact Nat.le_refl _⟩, ⟨HB.l⟩⟩
    ·replace c8 := Bool.eq_false_iff.mpr c8
     subst c8
     have H1 : (interleaveref31_Resolvent.j0 k l0 l1 a2 true) = some (r1, r2) := by rw [if_neg (show ¬ (false = true) by decide)] at H; exact H
     clear H
     have H := H1
     clear H1
     have H' := Aside0.mk H
     clear H
     go_wp2_with (first | (go_at_call 56; (with_reducible refine (interleaveref31_contains.calls k _ _ l0 (wrap64 (a2 + 1)) false _ ?side1 ?side2 A7.out).mono ?_); (case side1 => exact HR0.c HB.l); (case side2 => exact HC0.out); rintro e w' ⟨rfl, ⟨nd, rfl⟩⟩))
     go_meet
     case rel => exact ⟨_, (true), (by first | rfl | (simp; done) | (simp [*]; done)), H', ⟨by first | omega | exact Nat.le_refl _⟩, ⟨HB.l⟩⟩
 case rest => as_aux_lemma =>
  clear HC4
  try clear c1
  try clear p2
  try clear c4
  try clear c5
  try clear c5b0
  try clear c6
  try clear c6b0
  try clear p6
  try clear c8
  obtain ⟨kq, x33_3, rfl, HA, HJ3, HB⟩ := hcut
  cases kq with
  | zero => exact absurd HA.out (by simp [interleaveref31_Resolvent.j0])
  | succ kj3 =>
   have H := HA.out
   clear HA
   simp only [interleaveref31_Resolvent.j0] at H
   by_cases c10 : x33_3 = true
   ·subst c10
    have H1 : (some (([] : List Int), false)) = some (r1, r2) := by rw [if_pos rfl] at H; exact H
    clear H
    have H := H1
    clear H1
    simp only [Option.some.injEq, Prod.mk.injEq] at H
    obtain ⟨rfl, rfl⟩ := H
    go_wp2
    go_ret2
    exact ⟨_, by first | rfl | (simp [errW_none, errW_some] <;> rfl) | (simp [*, errW_none, errW_some] <;> rfl), by first | exact Kd.R_nil _ _ _ _ _ | exact Kd.N_nil _ _ _ _ _ | exact Kd.V_nil _ _ _ _ _ | exact Kd.Q_nil _ _ _ _ _ | exact Kd.S_nil _ _ _ _ _, HB.l⟩
   ·replace c10 := Bool.eq_false_iff.mpr c10
    subst c10
    have H1 : (interleaveref31_Resolvent.l0 kj3 l1 a2 ([] : List Int) l0 (l0.length : Int) 0) = some (r1, r2) := by rw [if_neg (show ¬ (false = true) by decide)] at H; exact H
    clear H
    have H := H1
    clear H1
    have H' := Aside0.mk H
    clear H
    go_wp2
    go_loopg [8, 36] kj3 (fun kq v8 v36 w' => ∃ (x8_2 : List Int) (x36_2 : Int), v36 = .int .i64 x36_2 ∧ Aside0 (interleaveref31_Resolvent.l0 kq l1 a2 x8_2 l0 (l0.length : Int) x36_2 = some (r1, r2)) ∧ Aside0 (kq ≤ kj3) ∧ Aside0 (Kd.R (Kd.int .i64) 3 w' w.heap.size (fun _ => True) v8 x8_2) ∧ Aside0 (Below w.heap.size w w'))
    case atStart => exact ⟨(([] : List Int)), (0), (by first | rfl | (simp; done) | (simp [*]; done)), H', ⟨Nat.le_refl _⟩, ⟨by first | exact Kd.R_nil _ _ _ _ _ | exact Kd.N_nil _ _ _ _ _ | exact Kd.V_nil _ _ _ _ _ | exact Kd.Q_nil _ _ _ _ _ | exact Kd.S_nil _ _ _ _ _⟩, ⟨HB.l⟩⟩
    case round => as_aux_lemma =>
     clear H'
     try clear c1
     try clear p2
     try clear c4
     try clear c5
     try clear c5b0
     try clear c6
     try clear c6b0
     try clear p6
     try clear c8
     try clear c10
     try clear p2
     try clear p6
     obtain ⟨x8_2, x36_2, rfl, HA, HK2, HO_8, HB⟩ := hrel
     cases gk with
     | zero => exact absurd HA.out (by simp [interleaveref31_Resolvent.l0])
     | succ k2 =>
      have H := HA.out
      clear HA
      simp only [interleaveref31_Resolvent.l0] at H
      by_cases c11 : x36_2 < (l0.length : Int)
      ·rw [if_pos c11] at H
       have c11b0 : decide (x36_2 < (l0.length : Int)) = true := decide_eq_true c11
       clear c11
       by_cases c12 : 0 ≤ x36_2
       ·rw [if_pos c12] at H
        have c12b0 : decide (0 ≤ x36_2) = true := decide_eq_true c12
        clear c12
        by_cases c13 : x36_2 < (l0.length : Int)
        ·rw [if_pos c13] at H
         have c13b0 : decide (x36_2 < (l0.length : Int)) = true := decide_eq_true c13
         clear c13
         by_cases c14 : (rd l0 x36_2) = (wrap64 (a2 + 1))
         ·rw [if_pos c14] at H
          have c14b0 : ((rd l0 x36_2) == (wrap64 (a2 + 1))) = true := beq_iff_eq.mpr c14
          have c14b1 : ((rd l0 x36_2) != (wrap64 (a2 + 1))) = false := bne_eq_false_iff_eq.mpr c14
          clear c14
          have H' := Aside0.mk H
          clear H
          have p375 : 0 ≤ (x36_2 : Int) := of_decide_eq_true (by first | (with_reducible assumption) | assumption)
          have q375 : x36_2 < (l0.length : Int) := of_decide_eq_true (by first | (with_reducible assumption) | assumption)
          obtain ⟨ad375, e375, hx375_0⟩ := Kd.at_int HR0.out x36_2 p375 q375
          cases e375
          replace hx375_0 := (HB.out.cell (World.block_lt_of_cell? w _ hx375_0)).trans hx375_0
          replace p375 := eq_true p375
          replace q375 := eq_true q375
          go_wp2
          go_roundg k2
          case measure => have := HJ3.out; have := HK2.out; omega
          case rel => exact ⟨(x8_2), (wrap64 (x36_2 + 1)), (by first | rfl | (simp; done) | (simp [*]; done)), H', ⟨by have := HJ3.out; have := HK2.out; omega⟩, ⟨HO_8.r⟩, ⟨HB.l⟩⟩
         ·rw [if_neg c14] at H
          have c14b0 : ((rd l0 x36_2) == (wrap64 (a2 + 1))) = false := beq_eq_false_iff_ne.mpr c14
          have c14b1 : ((rd l0 x36_2) != (wrap64 (a2 + 1))) = true := bne_iff_ne.mpr c14
          by_cases c15 : x8_2.length < 17592186044416
          ·rw [if_pos c15] at H
           have LMc15 := Aside0.mk c15
           clear c15
           obtain ⟨y376, hy376⟩ : ∃ y_ : List Int, y_ = (x8_2 ++ [rd l0 x36_2]) := ⟨_, rfl⟩
           replace H : (interleaveref31_Resolvent.l0 k2 l1 a2 y376 l0 (l0.length : Int) (wrap64 (x36_2 + 1))) = some (r1, r2) := by first | (rw [hy376]; with_reducible exact H) | (have H2_ := (Option.bind_some _ _).symm.trans H; rw [hy376]; with_reducible exact H2_) | (have H2_ := (Option.bind_some _ _).symm.trans H; with_reducible exact H2_) | with_reducible exact H | (rw [hy376]; exact H) | exact H
           have Ny376 := Aside0.mk hy376
           clear hy376
           have H' := Aside0.mk H
           clear H
           have p375 : 0 ≤ (x36_2 : Int) := of_decide_eq_true (by first | (with_reducible assumption) | assumption)
           have q375 : x36_2 < (l0.length : Int) := of_decide_eq_true (by first | (with_reducible assumption) | assumption)
           obtain ⟨ad375, e375, hx375_0⟩ := Kd.at_int HR0.out x36_2 p375 q375
           cases e375
           replace hx375_0 := (HB.out.cell (World.block_lt_of_cell? w _ hx375_0)).trans hx375_0
           replace p375 := eq_true p375
           replace q375 := eq_true q375
           go_wp2_with (first | ((with_reducible refine gate_builtin (b := .append) (xs := #[.tmp 44, .tmp 46]) rfl ?_); at_builtin; refine Kd.R_append (Kd.int .i64) (w0 := w) w.heap.size rfl (.tmp 44) (.tmp 46) 43 3 (.int .i64 0) 8 rfl Try.underlying43 info3 rfl (by decide) (by omega) u8 x8_2 (rd l0 x36_2) [.int .i64 (rd l0 x36_2)] (fun _ => True) (fun _ => False) rfl rfl ?aP (fun _ hk => hk.elim) ?aF ?aO ?aB ?aS ?aL ?_; (case aP => exact rfl); (case aB => exact HB.l); (case aF => exact (fun _ _ => trivial)); (case aO => exact HO_8.r); (case aS => exact (below_size HB.l)); (case aL => have := LMc15.out; omega); intro v377 w16 ho hb hg hat; rw [← Ny376.out] at ho; have n0_ := Aside0.mk (hb); have n1_ := Aside0.mk (ho); clear HB HO_8; revert n0_ n1_; intro HB HO378; clear ho hb hg hat))
           go_roundg k2
           case measure => have := HJ3.out; have := HK2.out; omega
           case rel => exact ⟨(y376), (wrap64 (x36_2 + 1)), (by first | rfl | (simp; done) | (simp [*]; done)), H', ⟨by have := HJ3.out; have := HK2.out; omega⟩, ⟨HO378.r⟩, ⟨HB.l⟩⟩
          ·rw [if_neg c15] at H
           exact absurd H (by simp)
        ·rw [if_neg c13] at H
         exact absurd H (by simp)
       ·rw [if_neg c12] at H
        exact absurd H (by simp)
      ·rw [if_neg c11] at H
       have c11b0 : decide (x36_2 < (l0.length : Int)) = false := decide_eq_false c11
       clear c11
       have H' := Aside0.mk H
       clear H
       go_wp2
       go_loopg [8, 51] k2 (fun kq v8 v51 w' => ∃ (x8_3 : List Int) (x51_3 : Int), v51 = .int .i64 x51_3 ∧ Aside0 (interleaveref31_Resolvent.l1 kq a2 x8_3 l1 (l1.length : Int) x51_3 = some (r1, r2)) ∧ Aside0 (kq ≤ k2) ∧ Aside0 (Kd.R (Kd.int .i64) 3 w' w.heap.size (fun _ => True) v8 x8_3) ∧ Aside0 (Below w.heap.size w w'))
       case atStart => exact ⟨(x8_2), (0), (by first | rfl | (simp; done) | (simp [*]; done)), H', ⟨Nat.le_refl _⟩, ⟨HO_8.r⟩, ⟨HB.l⟩⟩
       case round => as_aux_lemma =>
        clear H'
        try clear c1
        try clear p2
        try clear p3
        try clear q3
        try clear hx3
        try clear c4
        try clear c5
        try clear c5b0
        try clear c6
        try clear c6b0
        try clear p6
        try clear c8
        try clear c10
        try clear c11
        try clear c11b0
        try clear c12
        try clear c12b0
        try clear c13
        try clear c13b0
        try clear c14
        try clear c14b0
        try clear c14b1
        try clear c15
        try clear hx375_0
        try clear p2
        try clear p375
        try clear p6
        try clear q375
        obtain ⟨x8_3, x51_3, rfl, HA, HK3, HO_8, HB⟩ := hrel
        cases gk with
        | zero => exact absurd HA.out (by simp [interleaveref31_Resolvent.l1])
        | succ k3 =>
         have H := HA.out
         clear HA
         simp only [interleaveref31_Resolvent.l1] at H
         by_cases c17 : x51_3 < (l1.length : Int)
         ·rw [if_pos c17] at H
          have c17b0 : decide (x51_3 < (l1.length : Int)) = true := decide_eq_true c17
          clear c17
          by_cases c18 : 0 ≤ x51_3
          ·rw [if_pos c18] at H
           have c18b0 : decide (0 ≤ x51_3) = true := decide_eq_true c18
           clear c18
           by_cases c19 : x51_3 < (l1.length : Int)
           ·rw [if_pos c19] at H
            have c19b0 : decide (x51_3 < (l1.length : Int)) = true := decide_eq_true c19
            clear c19
            by_cases c20 : (rd l1 x51_3) = (wrap64 (-(wrap64 (a2 + 1))))
            ·rw [if_pos c20] at H
             have c20b0 : ((rd l1 x51_3) == (wrap64 (-(wrap64 (a2 + 1))))) = true := beq_iff_eq.mpr c20
             have c20b1 : ((rd l1 x51_3) != (wrap64 (-(wrap64 (a2 + 1))))) = false := bne_eq_false_iff_eq.mpr c20
             clear c20
             have H' := Aside0.mk H
             clear H
             have p379 : 0 ≤ (x51_3 : Int) := of_decide_eq_true (by first | (with_reducible assumption) | assumption)
             have q379 : x51_3 < (l1.length : Int) := of_decide_eq_true (by first | (with_reducible assumption) | assumption)
             obtain ⟨ad379, e379, hx379_0⟩ := Kd.at_int HR1.out x51_3 p379 q379
             cases e379
             replace hx379_0 := (HB.out.cell (World.block_lt_of_cell? w _ hx379_0)).trans hx379_0
             replace p379 := eq_true p379
             replace q379 := eq_true q379
             go_wp2
             go_roundg k3
             case measure => have := HJ3.out; have := HK2.out; have := HK3.out; omega
             case rel => exact ⟨(x8_3), (wrap64 (x51_3 + 1)), (by first | rfl | (simp; done) | (simp [*]; done)), H', ⟨by have := HJ3.out; have := HK2.out; have := HK3.out; omega⟩, ⟨HO_8.r⟩, ⟨HB.l⟩⟩
            ·rw [if_neg c20] at H
             have c20b0 : ((rd l1 x51_3) == (wrap64 (-(wrap64 (a2 + 1))))) = false := beq_eq_false_iff_ne.mpr c20
             have c20b1 : ((rd l1 x51_3) != (wrap64 (-(wrap64 (a2 + 1))))) = true := bne_iff_ne.mpr c20
             by_cases c21 : x8_3.length < 17592186044416
             ·rw [if_pos c21] at H
              have LMc21 := Aside0.mk c21
              clear c21
              obtain ⟨y380, hy380⟩ : ∃ y_ : List Int, y_ = (x8_3 ++ [rd l1 x51_3]) := ⟨_, rfl⟩
              replace H : (interleaveref31_Resolvent.l1 k3 a2 y380 l1 (l1.length : Int) (wrap64 (x51_3 + 1))) = some (r1, r2) := by first | (rw [hy380]; with_reducible exact H) | (have H2_ := (Option.bind_some _ _).symm.trans H; rw [hy380]; with_reducible exact H2_) | (have H2_ := (Option.bind_some _ _).symm.trans H; with_reducible exact H2_) | with_reducible exact H | (rw [hy380]; exact H) | exact H
              have Ny380 := Aside0.mk hy380
              clear hy380
              have H' := Aside0.mk H
              clear H
              have p379 : 0 ≤ (x51_3 : Int) := of_decide_eq_true (by first | (with_reducible assumption) | assumption)
              have q379 : x51_3 < (l1.length : Int) := of_decide_eq_true (by first | (with_reducible assumption) | assumption)
              obtain ⟨ad379, e379, hx379_0⟩ := Kd.at_int HR1.out x51_3 p379 q379
              cases e379
              replace hx379_0 := (HB.out.cell (World.block_lt_of_cell? w _ hx379_0)).trans hx379_0
              replace p379 := eq_true p379
              replace q379 := eq_true q379
              go_wp2_with (first | ((with_reducible refine gate_builtin (b := .append) (xs := #[.tmp 60, .tmp 62]) rfl ?_); at_builtin; refine Kd.R_append (Kd.int .i64) (w0 := w) w.heap.size rfl (.tmp 60) (.tmp 62) 43 3 (.int .i64 0) 8 rfl Try.underlying43 info3 rfl (by decide) (by omega) u8 x8_3 (rd l1 x51_3) [.int .i64 (rd l1 x51_3)] (fun _ => True) (fun _ => False) rfl rfl ?aP (fun _ hk => hk.elim) ?aF ?aO ?aB ?aS ?aL ?_; (case aP => exact rfl); (case aB => exact HB.l); (case aF => exact (fun _ _ => trivial)); (case aO => exact HO_8.r); (case aS => exact (below_size HB.l)); (case aL => have := LMc21.out; omega); intro v381 w22 ho hb hg hat; rw [← Ny380.out] at ho; have n0_ := Aside0.mk (hb); have n1_ := Aside0.mk (ho); clear HB HO_8; revert n0_ n1_; intro HB HO382; clear ho hb hg hat))
              go_roundg k3
              case measure => have := HJ3.out; have := HK2.out; have := HK3.out; omega
              case rel => exact ⟨(y380), (wrap64 (x51_3 + 1)), (by first | rfl | (simp; done) | (simp [*]; done)), H', ⟨by have := HJ3.out; have := HK2.out; have := HK3.out; omega⟩, ⟨HO382.r⟩, ⟨HB.l⟩⟩
             ·rw [if_neg c21] at H
              exact absurd H (by simp)
           ·rw [if_neg c19] at H
            exact absurd H (by simp)
          ·rw [if_neg c18] at H
           exact absurd H (by simp)
         ·rw [if_neg c17] at H
          have c17b0 : decide (x51_3 < (l1.length : Int)) = false := decide_eq_false c17
          clear c17
          replace H := Option.bind_eq_some_iff.mp H
          obtain ⟨⟨t383, t384⟩, A230, H⟩ := H
          replace H : (some (t383, t384)) = some (r1, r2) := H
          have A23 := Aside0.mk A230
          clear A230
          simp only [Option.some.injEq, Prod.mk.injEq] at H
          obtain ⟨rfl, rfl⟩ := H
          obtain ⟨Ao24, co24, eo24⟩ := Kd.R_slice HO_8.out
          subst eo24
          go_wp2_with (first | ((with_reducible refine gate_callee (f := 43) rfl ?_); refine goesM_ Try.func43 #[.slice Ao24 x8_3.length co24] ?_; (with_reducible refine (interleaveref31_Normal.calls k3 _ _ x8_3 t383 t384 _ ?side1 ?side2 A23.out).mono ?_); (case side1 => repeat (first | exact (Kd.R_reads' HO_8.out).2.2 | (with_reducible refine Kd.C_alloc ?_ _) | (with_reducible refine Kd.C_drewN ?_ _) | (with_reducible refine Kd.C_drew ?_))); (case side2 => exact (Kd.R_reads' HO_8.out).2.1); rintro e w25 ⟨v385, rfl, ho0, hb⟩; refine ⟨_, rfl, ?_⟩; have n0_ := Aside0.mk (Kd.R_elder' HO_8.r (Kd.R_base ho0) hb); have n1_ := Aside0.mk (Kd.R_lower (Kd.R_new' ho0 (Kd.R_lt HO_8.r)) (below_size HB.l)); have n2_ := Aside0.mk (below_step HB.l hb); clear HO_8 HB; revert n0_ n1_ n2_; intro HO_8 HO386 HB; (try clear hb); (try clear hb2); (try clear hk); (try clear hi); (try clear ho0)))
          go_ret2
          exact ⟨_, by first | rfl | (simp [errW_none, errW_some] <;> rfl) | (simp [*, errW_none, errW_some] <;> rfl), by (with_reducible repeat (first | apply Kd.R_alloc | apply Kd.R_drewN | apply Kd.R_drew)); exact Kd.R_mono HO386.out (fun _ hk => trivial), HB.l⟩

end Go.Proofs.Ytppbnjmhkifdaaa.X
