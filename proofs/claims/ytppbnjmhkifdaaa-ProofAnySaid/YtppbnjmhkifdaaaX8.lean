-- Written by this session's own program (wip/tools/xprint.py).
import Derived.Test.YtppbnjmhkifdaaaX0
import Derived.Test.YtppbnjmhkifdaaaSx
namespace Go.Proofs.Ytppbnjmhkifdaaa.X
open Go.RowKit Go.Proofs.YtppbnjmhkifdaaaW.PrintWords Go.Proofs.YtppbnjmhkifdaaaW.PrintLast Go.Proofs.YtppbnjmhkifdaaaW.PrintMore
attribute [local go_sem] max2_int min2_int max_two min_two max_three min_three max_four min_four   -- for this text's walks alone
set_option linter.unusedVariables false
set_option linter.unusedSimpArgs false

/-! ### interleaveref31_Abs: function 47 -/
def interleaveref31_Abs.f (a0 : Int) : Option (Int) := if a0 < 0 then (some (wrap64 (-a0))) else (some a0)
set_option maxHeartbeats 8000000 in
set_option maxRecDepth 100000 in
theorem interleaveref31_Abs.calls (a0 : Int) (r : Int) (w : World) (h : interleaveref31_Abs.f a0 = some r) :
  Calls Try.prog 47 #[.int .i64 a0] w fun e w' => e = .returned (.int .i64 r) ∧ Drawn0 w w' := by
 have H : (if a0 < 0 then (some (wrap64 (-a0))) else (some a0)) = some r := h
 clear h
 by_cases c2 : a0 < 0
 ·rw [if_pos c2] at H
  have c2b0 : decide (a0 < 0) = true := decide_eq_true c2
  clear c2
  obtain rfl := Option.some.inj H
  go_enter Try.func47, Try.ntmps47
  go_wp2
  go_ret
  exact ⟨by first | rfl | (simp; done) | (simp [*]; done), by repeat (first | exact Drawn0.refl _ | apply Drawn0.step)⟩
 ·rw [if_neg c2] at H
  have c2b0 : decide (a0 < 0) = false := decide_eq_false c2
  clear c2
  obtain rfl := Option.some.inj H
  go_enter Try.func47, Try.ntmps47
  go_wp2
  go_ret
  exact ⟨by first | rfl | (simp; done) | (simp [*]; done), by repeat (first | exact Drawn0.refl _ | apply Drawn0.step)⟩

/-! ### interleaveref31_Normal: function 43 -/
mutual
def interleaveref31_Normal.l0 : Nat → List Int → List Int → Int → Int → Option (List Int × Bool)
 | 0, _, _, _, _ => none
 | k + 1, x4, x9, x10, x11 => if x11 < x10 then (if 0 ≤ x11 then (if x11 < (x9.length : Int) then (if (rd x9 x11) = 0 then (interleaveref31_Normal.j1 k x4 (rd x9 x11) x9 x10 x11 true) else (interleaveref31_Normal.j1 k x4 (rd x9 x11) x9 x10 x11 ((rd x9 x11) == (wrap64 (-(rd x9 x11)))))) else (none)) else (none)) else (some (x4, true))
def interleaveref31_Normal.j1 : Nat → List Int → Int → List Int → Int → Int → Bool → Option (List Int × Bool)
 | 0, _, _, _, _, _, _ => none
 | k + 1, x4, x6, x9, x10, x11, x22 => if x22 = true then (some (([] : List Int), false)) else (interleaveref31_Normal.l1 k x4 x6 0 x9 x10 x11)
def interleaveref31_Normal.j3 : Nat → List Int → Int → Int → List Int → Int → Int → Option (List Int × Bool)
 | 0, _, _, _, _, _, _ => none
 | k + 1, x4, x6, x7, x9, x10, x11 => if x7 < (x4.length : Int) then (if 0 ≤ x7 then (interleaveref31_Normal.j4 k x4 x6 x7 x9 x10 x11 ((rd x4 x7) == x6)) else (none)) else (interleaveref31_Normal.j4 k x4 x6 x7 x9 x10 x11 false)
def interleaveref31_Normal.j4 : Nat → List Int → Int → Int → List Int → Int → Int → Bool → Option (List Int × Bool)
 | 0, _, _, _, _, _, _, _ => none
 | k + 1, x4, x6, x7, x9, x10, x11, x50 => if x50 = true then (interleaveref31_Normal.l0 k x4 x9 x10 (wrap64 (x11 + 1))) else (if x7 < (x4.length : Int) then (if 0 ≤ x7 then (if (rd x4 x7) = (wrap64 (-x6)) then (some (([] : List Int), false)) else ((some (([x6] : List Int) : List Int)).bind fun y307 => (if x7 ≤ (x4.length : Int) then ((some (x4.drop (x7 : Int).toNat : List Int)).bind fun y310 => (if y307.length + y310.length < 17592186044416 then ((some (y307 ++ y310 : List Int)).bind fun y314 => ((some (x4.take (x7 : Int).toNat : List Int)).bind fun y317 => (if 0 < y314.length then (if y317.length + y314.length < 17592186044416 then (interleaveref31_Normal.l0 k (y317 ++ y314) x9 x10 (wrap64 (x11 + 1))) else (none)) else (none)))) else (none))) else (none)))) else (none)) else ((some (([x6] : List Int) : List Int)).bind fun y324 => (if 0 ≤ x7 then (if x7 ≤ (x4.length : Int) then ((some (x4.drop (x7 : Int).toNat : List Int)).bind fun y327 => (if y324.length + y327.length < 17592186044416 then ((some (y324 ++ y327 : List Int)).bind fun y331 => ((some (x4.take (x7 : Int).toNat : List Int)).bind fun y334 => (if 0 < y331.length then (if y334.length + y331.length < 17592186044416 then (interleaveref31_Normal.l0 k (y334 ++ y331) x9 x10 (wrap64 (x11 + 1))) else (none)) else (none)))) else (none))) else (none)) else (none))))
def interleaveref31_Normal.l1 : Nat → List Int → Int → Int → List Int → Int → Int → Option (List Int × Bool)
 | 0, _, _, _, _, _, _ => none
 | k + 1, x4, x6, x7, x9, x10, x11 => if x7 < (x4.length : Int) then (if 0 ≤ x7 then ((interleaveref31_Abs.f (rd x4 x7)).bind fun t303 => ((interleaveref31_Abs.f x6).bind fun t304 => (if t303 < t304 then (interleaveref31_Normal.l1 k x4 x6 (wrap64 (x7 + 1)) x9 x10 x11) else (interleaveref31_Normal.j3 k x4 x6 x7 x9 x10 x11)))) else (none)) else (interleaveref31_Normal.j3 k x4 x6 x7 x9 x10 x11)
end
def interleaveref31_Normal.f (k : Nat) (l0 : List Int) : Option (List Int × Bool) := interleaveref31_Normal.l0 k ([] : List Int) l0 (l0.length : Int) 0
theorem interleaveref31_Normal.mono_l : ∀ k, (∀ y0 y1 y2 y3, LeO (interleaveref31_Normal.l0 k y0 y1 y2 y3) (interleaveref31_Normal.l0 (k + 1) y0 y1 y2 y3)) ∧ (∀ y0 y1 y2 y3 y4 y5, LeO (interleaveref31_Normal.j1 k y0 y1 y2 y3 y4 y5) (interleaveref31_Normal.j1 (k + 1) y0 y1 y2 y3 y4 y5)) ∧ (∀ y0 y1 y2 y3 y4 y5, LeO (interleaveref31_Normal.j3 k y0 y1 y2 y3 y4 y5) (interleaveref31_Normal.j3 (k + 1) y0 y1 y2 y3 y4 y5)) ∧ (∀ y0 y1 y2 y3 y4 y5 y6, LeO (interleaveref31_Normal.j4 k y0 y1 y2 y3 y4 y5 y6) (interleaveref31_Normal.j4 (k + 1) y0 y1 y2 y3 y4 y5 y6)) ∧ (∀ y0 y1 y2 y3 y4 y5, LeO (interleaveref31_Normal.l1 k y0 y1 y2 y3 y4 y5) (interleaveref31_Normal.l1 (k + 1) y0 y1 y2 y3 y4 y5))
 | 0 => ⟨fun _ _ _ _ r h => by simp [interleaveref31_Normal.l0] at h, fun _ _ _ _ _ _ r h => by simp [interleaveref31_Normal.j1] at h, fun _ _ _ _ _ _ r h => by simp [interleaveref31_Normal.j3] at h, fun _ _ _ _ _ _ _ r h => by simp [interleaveref31_Normal.j4] at h, fun _ _ _ _ _ _ r h => by simp [interleaveref31_Normal.l1] at h⟩
 | k + 1 => by
  obtain ⟨ih0, ih1, ih2, ih3, ih4⟩ := interleaveref31_Normal.mono_l k
  refine ⟨?_, ?_, ?_, ?_, ?_⟩
  ·intro y0 y1 y2 y3
   unfold interleaveref31_Normal.l0
   repeat' first
   | (with_reducible exact ih0 _ _ _ _)
   | (with_reducible exact ih1 _ _ _ _ _ _)
   | (with_reducible exact ih2 _ _ _ _ _ _)
   | (with_reducible exact ih3 _ _ _ _ _ _ _)
   | (with_reducible exact ih4 _ _ _ _ _ _)
   | (with_reducible exact LeO.refl _)
   | (with_reducible exact LeO.none _)
   | (with_reducible refine LeO.ite ?_ ?_)
   | (with_reducible refine LeO.bind ?_ (fun _ => ?_))
   | exact ih0 _ _ _ _
   | exact ih1 _ _ _ _ _ _
   | exact ih2 _ _ _ _ _ _
   | exact ih3 _ _ _ _ _ _ _
   | exact ih4 _ _ _ _ _ _
   | exact LeO.none _
   | refine LeO.ite ?_ ?_
   | refine LeO.bind ?_ (fun _ => ?_)
  ·intro y0 y1 y2 y3 y4 y5
   unfold interleaveref31_Normal.j1
   repeat' first
   | (with_reducible exact ih0 _ _ _ _)
   | (with_reducible exact ih1 _ _ _ _ _ _)
   | (with_reducible exact ih2 _ _ _ _ _ _)
   | (with_reducible exact ih3 _ _ _ _ _ _ _)
   | (with_reducible exact ih4 _ _ _ _ _ _)
   | (with_reducible exact LeO.refl _)
   | (with_reducible exact LeO.none _)
   | (with_reducible refine LeO.ite ?_ ?_)
   | (with_reducible refine LeO.bind ?_ (fun _ => ?_))
   | exact ih0 _ _ _ _
   | exact ih1 _ _ _ _ _ _
   | exact ih2 _ _ _ _ _ _
   | exact ih3 _ _ _ _ _ _ _
   | exact ih4 _ _ _ _ _ _
   | exact LeO.none _
   | refine LeO.ite ?_ ?_
   | refine LeO.bind ?_ (fun _ => ?_)
  ·intro y0 y1 y2 y3 y4 y5
   unfold interleaveref31_Normal.j3
   repeat' first
   | (with_reducible exact ih0 _ _ _ _)
   | (with_reducible exact ih1 _ _ _ _ _ _)
   | (with_reducible exact ih2 _ _ _ _ _ _)
   | (with_reducible exact ih3 _ _ _ _ _ _ _)
   | (with_reducible exact ih4 _ _ _ _ _ _)
   | (with_reducible exact LeO.refl _)
   | (with_reducible exact LeO.none _)
   | (with_reducible refine LeO.ite ?_ ?_)
   | (with_reducible refine LeO.bind ?_ (fun _ => ?_))
   | exact ih0 _ _ _ _
   | exact ih1 _ _ _ _ _ _
   | exact ih2 _ _ _ _ _ _
   | exact ih3 _ _ _ _ _ _ _
   | exact ih4 _ _ _ _ _ _
   | exact LeO.none _
   | refine LeO.ite ?_ ?_
   | refine LeO.bind ?_ (fun _ => ?_)
  ·intro y0 y1 y2 y3 y4 y5 y6
   unfold interleaveref31_Normal.j4
   repeat' first
   | (with_reducible exact ih0 _ _ _ _)
   | (with_reducible exact ih1 _ _ _ _ _ _)
   | (with_reducible exact ih2 _ _ _ _ _ _)
   | (with_reducible exact ih3 _ _ _ _ _ _ _)
   | (with_reducible exact ih4 _ _ _ _ _ _)
   | (with_reducible exact LeO.refl _)
   | (with_reducible exact LeO.none _)
   | (with_reducible refine LeO.ite ?_ ?_)
   | (with_reducible refine LeO.bind ?_ (fun _ => ?_))
   | exact ih0 _ _ _ _
   | exact ih1 _ _ _ _ _ _
   | exact ih2 _ _ _ _ _ _
   | exact ih3 _ _ _ _ _ _ _
   | exact ih4 _ _ _ _ _ _
   | exact LeO.none _
   | refine LeO.ite ?_ ?_
   | refine LeO.bind ?_ (fun _ => ?_)
  ·intro y0 y1 y2 y3 y4 y5
   unfold interleaveref31_Normal.l1
   repeat' first
   | (with_reducible exact ih0 _ _ _ _)
   | (with_reducible exact ih1 _ _ _ _ _ _)
   | (with_reducible exact ih2 _ _ _ _ _ _)
   | (with_reducible exact ih3 _ _ _ _ _ _ _)
   | (with_reducible exact ih4 _ _ _ _ _ _)
   | (with_reducible exact LeO.refl _)
   | (with_reducible exact LeO.none _)
   | (with_reducible refine LeO.ite ?_ ?_)
   | (with_reducible refine LeO.bind ?_ (fun _ => ?_))
   | exact ih0 _ _ _ _
   | exact ih1 _ _ _ _ _ _
   | exact ih2 _ _ _ _ _ _
   | exact ih3 _ _ _ _ _ _ _
   | exact ih4 _ _ _ _ _ _
   | exact LeO.none _
   | refine LeO.ite ?_ ?_
   | refine LeO.bind ?_ (fun _ => ?_)
theorem interleaveref31_Normal.mono : ∀ a0 k, LeO (interleaveref31_Normal.f k a0) (interleaveref31_Normal.f (k + 1) a0) := by
 intro a0 k
 obtain ⟨ih0, ih1, ih2, ih3, ih4⟩ := interleaveref31_Normal.mono_l k
 unfold interleaveref31_Normal.f
 repeat' first
   | (with_reducible exact ih0 _ _ _ _)
   | (with_reducible exact ih1 _ _ _ _ _ _)
   | (with_reducible exact ih2 _ _ _ _ _ _)
   | (with_reducible exact ih3 _ _ _ _ _ _ _)
   | (with_reducible exact ih4 _ _ _ _ _ _)
   | (with_reducible exact LeO.refl _)
   | (with_reducible exact LeO.none _)
   | (with_reducible refine LeO.ite ?_ ?_)
   | (with_reducible refine LeO.bind ?_ (fun _ => ?_))
   | exact ih0 _ _ _ _
   | exact ih1 _ _ _ _ _ _
   | exact ih2 _ _ _ _ _ _
   | exact ih3 _ _ _ _ _ _ _
   | exact ih4 _ _ _ _ _ _
   | exact LeO.none _
   | refine LeO.ite ?_ ?_
   | refine LeO.bind ?_ (fun _ => ?_)
set_option maxHeartbeats 8000000 in
set_option maxRecDepth 100000 in
theorem interleaveref31_Normal.calls (k : Nat) (A0 : Option Addr) (c0 : Nat) (l0 : List Int) (r1 : List Int) (r2 : Bool) (w : World) (hr0 : Kd.C (Kd.int .i64) w A0 l0.length l0) (hc0 : l0.length ≤ c0) (h : interleaveref31_Normal.f k l0 = some (r1, r2)) :
  Calls Try.prog 43 #[.slice A0 l0.length c0] w fun e w' => ∃ v0_ : Value, e = .returned (.tuple #[v0_, .bool r2]) ∧ Kd.R (Kd.int .i64) 3 w' w.heap.size (fun _ => True) v0_ r1 ∧ Below w.heap.size w w' := by
 have HR0 := Aside0.mk hr0
 have HC0 := Aside0.mk hc0
 clear hr0 hc0
 have HB := Aside0.mk (Below.refl w.heap.size w)
 have H : (interleaveref31_Normal.l0 k ([] : List Int) l0 (l0.length : Int) 0) = some (r1, r2) := h
 clear h
 have H' := Aside0.mk H
 clear H
 go_enter Try.func43, Try.ntmps43
 go_wp2
 go_loopg [4, 11] k (fun kq v4 v11 w' => ∃ (x4_1 : List Int) (x11_1 : Int), v11 = .int .i64 x11_1 ∧ Aside0 (interleaveref31_Normal.l0 kq x4_1 l0 (l0.length : Int) x11_1 = some (r1, r2)) ∧ Aside0 (kq ≤ k) ∧ Aside0 (Kd.R (Kd.int .i64) 3 w' w.heap.size (fun _ => True) v4 x4_1) ∧ Aside0 (Below w.heap.size w w'))
 case atStart => exact ⟨(([] : List Int)), (0), (by first | rfl | (simp; done) | (simp [*]; done)), H', ⟨Nat.le_refl _⟩, ⟨by first | exact Kd.R_nil _ _ _ _ _ | exact Kd.N_nil _ _ _ _ _ | exact Kd.V_nil _ _ _ _ _ | exact Kd.Q_nil _ _ _ _ _ | exact Kd.S_nil _ _ _ _ _⟩, ⟨HB.l⟩⟩
 case round => as_aux_lemma =>
  clear H'
  obtain ⟨x4_1, x11_1, rfl, HA, HK1, HO_4, HB⟩ := hrel
  cases gk with
  | zero => exact absurd HA.out (by simp [interleaveref31_Normal.l0])
  | succ k1 =>
   have H := HA.out
   clear HA
   simp only [interleaveref31_Normal.l0] at H
   by_cases c2 : x11_1 < (l0.length : Int)
   ·rw [if_pos c2] at H
    have c2b0 : decide (x11_1 < (l0.length : Int)) = true := decide_eq_true c2
    clear c2
    by_cases c3 : 0 ≤ x11_1
    ·rw [if_pos c3] at H
     have c3b0 : decide (0 ≤ x11_1) = true := decide_eq_true c3
     clear c3
     by_cases c4 : x11_1 < (l0.length : Int)
     ·rw [if_pos c4] at H
      have c4b0 : decide (x11_1 < (l0.length : Int)) = true := decide_eq_true c4
      clear c4
      have HC5 := Aside0.mk H
      clear H
      have p301 : 0 ≤ (x11_1 : Int) := of_decide_eq_true (by first | (with_reducible assumption) | assumption)
      have q301 : x11_1 < (l0.length : Int) := of_decide_eq_true (by first | (with_reducible assumption) | assumption)
      obtain ⟨ad301, e301, hx301_0⟩ := Kd.at_int HR0.out x11_1 p301 q301
      cases e301
      replace hx301_0 := (HB.out.cell (World.block_lt_of_cell? w _ hx301_0)).trans hx301_0
      replace p301 := eq_true p301
      replace q301 := eq_true q301
      go_upto_region 5 with (fail)
      go_cut [22] (fun v22 wc => ∃ (kq : Nat) (x22_4 : Bool), v22 = .bool x22_4 ∧ Aside0 (interleaveref31_Normal.j1 kq x4_1 (rd l0 x11_1) l0 (l0.length : Int) x11_1 x22_4 = some (r1, r2)) ∧ Aside0 (kq ≤ k1) ∧ Aside0 (Kd.R (Kd.int .i64) 3 wc w.heap.size (fun _ => True) u4 x4_1) ∧ Aside0 (Below w.heap.size w wc))
      case first => as_aux_lemma =>
       have H := HC5.out
       clear HC5
       by_cases c6 : (rd l0 x11_1) = 0
       ·rw [if_pos c6] at H
        have c6b0 : ((rd l0 x11_1) == 0) = true := beq_iff_eq.mpr c6
        have c6b1 : ((rd l0 x11_1) != 0) = false := bne_eq_false_iff_eq.mpr c6
        clear c6
        (first | rw [c6b0] | (simp only [i64_w, i32_w]; rw [c6b0]) | skip)
        have H' := Aside0.mk H
        clear H
        go_wp2
        go_meet
        case rel => exact ⟨_, (true), (by first | rfl | (simp; done) | (simp [*]; done)), H', ⟨by have := HK1.out; first | omega | exact Nat.le_refl _⟩, ⟨HO_4.r⟩, ⟨HB.l⟩⟩
       ·rw [if_neg c6] at H
        have c6b0 : ((rd l0 x11_1) == 0) = false := beq_eq_false_iff_ne.mpr c6
        have c6b1 : ((rd l0 x11_1) != 0) = true := bne_iff_ne.mpr c6
        (first | rw [c6b0] | (simp only [i64_w, i32_w]; rw [c6b0]) | skip)
        have H' := Aside0.mk H
        clear H
        go_wp2
        go_meet
        case rel => exact ⟨_, (((rd l0 x11_1) == (wrap64 (-(rd l0 x11_1))))), (by first | rfl | (simp; done) | (simp [*]; done)), H', ⟨by have := HK1.out; first | omega | exact Nat.le_refl _⟩, ⟨HO_4.r⟩, ⟨HB.l⟩⟩
      case rest => as_aux_lemma =>
       clear HC5
       try clear c2
       try clear c2b0
       try clear p2
       try clear c3
       try clear c3b0
       try clear p3
       try clear q3
       try clear hx3
       try clear c4
       try clear c4b0
       try clear c6
       try clear c6b0
       try clear c6b1
       try clear p6
       try clear hx301_0
       try clear p301
       try clear q301
       obtain ⟨kq, x22_4, rfl, HA, HJ4, HO_4, HB⟩ := hcut
       cases kq with
       | zero => exact absurd HA.out (by simp [interleaveref31_Normal.j1])
       | succ kj4 =>
        have H := HA.out
        clear HA
        simp only [interleaveref31_Normal.j1] at H
        by_cases c7 : x22_4 = true
        ·subst c7
         have H1 : (some (([] : List Int), false)) = some (r1, r2) := by rw [if_pos rfl] at H; exact H
         clear H
         have H := H1
         clear H1
         simp only [Option.some.injEq, Prod.mk.injEq] at H
         obtain ⟨rfl, rfl⟩ := H
         go_wp2
         go_ret2
         exact ⟨_, by first | rfl | (simp [errW_none, errW_some] <;> rfl) | (simp [*, errW_none, errW_some] <;> rfl), by first | exact Kd.R_nil _ _ _ _ _ | exact Kd.N_nil _ _ _ _ _ | exact Kd.V_nil _ _ _ _ _ | exact Kd.Q_nil _ _ _ _ _ | exact Kd.S_nil _ _ _ _ _, HB.l⟩
        ·replace c7 := Bool.eq_false_iff.mpr c7
         subst c7
         have H1 : (interleaveref31_Normal.l1 kj4 x4_1 (rd l0 x11_1) 0 l0 (l0.length : Int) x11_1) = some (r1, r2) := by rw [if_neg (show ¬ (false = true) by decide)] at H; exact H
         clear H
         have H := H1
         clear H1
         have HC8 := Aside0.mk H
         clear H
         go_upto_block 2 with (fail)
         go_cut [7] (fun v7 wc => ∃ (kq : Nat) (x7_7 : Int), v7 = .int .i64 x7_7 ∧ Aside0 (interleaveref31_Normal.j3 kq x4_1 (rd l0 x11_1) x7_7 l0 (l0.length : Int) x11_1 = some (r1, r2)) ∧ Aside0 (kq ≤ kj4) ∧ Aside0 (Kd.R (Kd.int .i64) 3 wc w.heap.size (fun _ => True) u4 x4_1) ∧ Aside0 (Below w.heap.size w wc))
         case first => as_aux_lemma =>
          have H := HC8.out
          clear HC8
          have H' := Aside0.mk H
          clear H
          go_wp2
          go_loopg [7] kj4 (fun kq v7 w' => ∃ (x7_3 : Int), v7 = .int .i64 x7_3 ∧ Aside0 (interleaveref31_Normal.l1 kq x4_1 (rd l0 x11_1) x7_3 l0 (l0.length : Int) x11_1 = some (r1, r2)) ∧ Aside0 (kq ≤ kj4) ∧ Aside0 (Kd.R (Kd.int .i64) 3 w' w.heap.size (fun _ => True) u4 x4_1) ∧ Aside0 (Below w.heap.size w w'))
          case atStart => exact ⟨(0), (by first | rfl | (simp; done) | (simp [*]; done)), H', ⟨Nat.le_refl _⟩, ⟨HO_4.r⟩, ⟨HB.l⟩⟩
          case round => as_aux_lemma =>
           clear H'
           try clear c2
           try clear c2b0
           try clear p2
           try clear c3
           try clear c3b0
           try clear p3
           try clear q3
           try clear hx3
           try clear c4
           try clear c4b0
           try clear c6
           try clear c6b0
           try clear c6b1
           try clear p6
           try clear c7
           try clear hx301_0
           try clear p2
           try clear p3
           try clear p301
           try clear p6
           try clear q3
           try clear q301
           obtain ⟨x7_3, rfl, HA, HK3, HO_4, HB⟩ := hrel
           cases gk with
           | zero => exact absurd HA.out (by simp [interleaveref31_Normal.l1])
           | succ k3 =>
            have H := HA.out
            clear HA
            simp only [interleaveref31_Normal.l1] at H
            by_cases c9 : x7_3 < (x4_1.length : Int)
            ·rw [if_pos c9] at H
             have c9b0 : decide (x7_3 < (x4_1.length : Int)) = true := decide_eq_true c9
             clear c9
             (first | rw [c9b0] | (simp only [i64_w, i32_w]; rw [c9b0]) | skip)
             by_cases c10 : 0 ≤ x7_3
             ·rw [if_pos c10] at H
              have c10b0 : decide (0 ≤ x7_3) = true := decide_eq_true c10
              clear c10
              replace H := Option.bind_eq_some_iff.mp H
              obtain ⟨t303, A110, H⟩ := H
              replace H : ((interleaveref31_Abs.f (rd l0 x11_1)).bind fun t304 => (if t303 < t304 then (interleaveref31_Normal.l1 k3 x4_1 (rd l0 x11_1) (wrap64 (x7_3 + 1)) l0 (l0.length : Int) x11_1) else (interleaveref31_Normal.j3 k3 x4_1 (rd l0 x11_1) x7_3 l0 (l0.length : Int) x11_1))) = some (r1, r2) := H
              have A11 := Aside0.mk A110
              clear A110
              replace H := Option.bind_eq_some_iff.mp H
              obtain ⟨t304, A120, H⟩ := H
              replace H : (if t303 < t304 then (interleaveref31_Normal.l1 k3 x4_1 (rd l0 x11_1) (wrap64 (x7_3 + 1)) l0 (l0.length : Int) x11_1) else (interleaveref31_Normal.j3 k3 x4_1 (rd l0 x11_1) x7_3 l0 (l0.length : Int) x11_1)) = some (r1, r2) := H
              have A12 := Aside0.mk A120
              clear A120
              by_cases c13 : t303 < t304
              ·rw [if_pos c13] at H
               have c13b0 : decide (t303 < t304) = true := decide_eq_true c13
               clear c13
               have H' := Aside0.mk H
               clear H
               obtain ⟨Ao14, co14, eo14⟩ := Kd.R_slice HO_4.out
               subst eo14
               have p302 : 0 ≤ (x7_3 : Int) := of_decide_eq_true (by first | (with_reducible assumption) | assumption)
               have q302 : x7_3 < (x4_1.length : Int) := of_decide_eq_true (by first | (with_reducible assumption) | assumption)
               obtain ⟨ad302, e302, hx302_0⟩ := Kd.at_int (Kd.R_reads' HO_4.out).2.2 x7_3 p302 q302
               cases e302
               replace p302 := eq_true p302
               replace q302 := eq_true q302
               go_wp2_with (first | (go_at_call 47; (with_reducible refine (interleaveref31_Abs.calls (rd x4_1 x7_3) t303 _ A11.out).mono ?_); rintro e w' ⟨rfl, ⟨nd, rfl⟩⟩) | (go_at_call 47; (with_reducible refine (interleaveref31_Abs.calls (rd l0 x11_1) t304 _ A12.out).mono ?_); rintro e w' ⟨rfl, ⟨nd, rfl⟩⟩))
               go_roundg k3
               case measure => have := HK1.out; have := HJ4.out; have := HK3.out; omega
               case rel => exact ⟨(wrap64 (x7_3 + 1)), (by first | rfl | (simp; done) | (simp [*]; done)), H', ⟨by have := HK1.out; have := HJ4.out; have := HK3.out; omega⟩, ⟨HO_4.r⟩, ⟨HB.l⟩⟩
              ·rw [if_neg c13] at H
               have c13b0 : decide (t303 < t304) = false := decide_eq_false c13
               clear c13
               have H' := Aside0.mk H
               clear H
               obtain ⟨Ao15, co15, eo15⟩ := Kd.R_slice HO_4.out
               subst eo15
               have p302 : 0 ≤ (x7_3 : Int) := of_decide_eq_true (by first | (with_reducible assumption) | assumption)
               have q302 : x7_3 < (x4_1.length : Int) := of_decide_eq_true (by first | (with_reducible assumption) | assumption)
               obtain ⟨ad302, e302, hx302_0⟩ := Kd.at_int (Kd.R_reads' HO_4.out).2.2 x7_3 p302 q302
               cases e302
               replace p302 := eq_true p302
               replace q302 := eq_true q302
               go_wp2_with (first | (go_at_call 47; (with_reducible refine (interleaveref31_Abs.calls (rd x4_1 x7_3) t303 _ A11.out).mono ?_); rintro e w' ⟨rfl, ⟨nd, rfl⟩⟩) | (go_at_call 47; (with_reducible refine (interleaveref31_Abs.calls (rd l0 x11_1) t304 _ A12.out).mono ?_); rintro e w' ⟨rfl, ⟨nd, rfl⟩⟩))
               go_meet
               case rel => exact ⟨_, (x7_3), (by first | rfl | (simp; done) | (simp [*]; done)), H', ⟨by have := HK1.out; have := HJ4.out; have := HK3.out; first | omega | exact Nat.le_refl _⟩, ⟨HO_4.r⟩, ⟨HB.l⟩⟩
             ·rw [if_neg c10] at H
              exact absurd H (by simp)
            ·rw [if_neg c9] at H
             have c9b0 : decide (x7_3 < (x4_1.length : Int)) = false := decide_eq_false c9
             clear c9
             (first | rw [c9b0] | (simp only [i64_w, i32_w]; rw [c9b0]) | skip)
             have H' := Aside0.mk H
             clear H
             obtain ⟨Ao16, co16, eo16⟩ := Kd.R_slice HO_4.out
             subst eo16
             go_wp2
             go_meet
             case rel => exact ⟨_, (x7_3), (by first | rfl | (simp; done) | (simp [*]; done)), H', ⟨by have := HK1.out; have := HJ4.out; have := HK3.out; first | omega | exact Nat.le_refl _⟩, ⟨HO_4.r⟩, ⟨HB.l⟩⟩
         case rest => as_aux_lemma =>
          clear HC8
          try clear c1
          try clear c2
          try clear c2b0
          try clear p2
          try clear c3
          try clear c3b0
          try clear p3
          try clear q3
          try clear hx3
          try clear c4
          try clear c4b0
          try clear c6
          try clear c6b0
          try clear c6b1
          try clear p6
          try clear c7
          try clear c9
          try clear c9b0
          try clear c10
          try clear c10b0
          try clear c13
          try clear c13b0
          try clear hx301_0
          try clear hx302_0
          try clear p2
          try clear p3
          try clear p301
          try clear p302
          try clear p6
          try clear q3
          try clear q301
          try clear q302
          obtain ⟨kq, x7_7, rfl, HA, HJ7, HO_4, HB⟩ := hcut
          cases kq with
          | zero => exact absurd HA.out (by simp [interleaveref31_Normal.j3])
          | succ kj7 =>
           have H := HA.out
           clear HA
           simp only [interleaveref31_Normal.j3] at H
           have HC17 := Aside0.mk H
           clear H
           go_upto_region 10 with (fail)
           go_cut [50] (fun v50 wc => ∃ (kq : Nat) (x50_16 : Bool), v50 = .bool x50_16 ∧ Aside0 (interleaveref31_Normal.j4 kq x4_1 (rd l0 x11_1) x7_7 l0 (l0.length : Int) x11_1 x50_16 = some (r1, r2)) ∧ Aside0 (kq ≤ kj7) ∧ Aside0 (Kd.R (Kd.int .i64) 3 wc w.heap.size (fun _ => True) u4 x4_1) ∧ Aside0 (Below w.heap.size w wc))
           case first => as_aux_lemma =>
            have H := HC17.out
            clear HC17
            by_cases c18 : x7_7 < (x4_1.length : Int)
            ·rw [if_pos c18] at H
             have c18b0 : decide (x7_7 < (x4_1.length : Int)) = true := decide_eq_true c18
             clear c18
             (first | rw [c18b0] | (simp only [i64_w, i32_w]; rw [c18b0]) | skip)
             by_cases c19 : 0 ≤ x7_7
             ·rw [if_pos c19] at H
              have c19b0 : decide (0 ≤ x7_7) = true := decide_eq_true c19
              clear c19
              have H' := Aside0.mk H
              clear H
              obtain ⟨Ao20, co20, eo20⟩ := Kd.R_slice HO_4.out
              subst eo20
              have p305 : 0 ≤ (x7_7 : Int) := of_decide_eq_true (by first | (with_reducible assumption) | assumption)
              have q305 : x7_7 < (x4_1.length : Int) := of_decide_eq_true (by first | (with_reducible assumption) | assumption)
              obtain ⟨ad305, e305, hx305_0⟩ := Kd.at_int (Kd.R_reads' HO_4.out).2.2 x7_7 p305 q305
              cases e305
              replace p305 := eq_true p305
              replace q305 := eq_true q305
              go_wp2
              go_meet
              case rel => exact ⟨_, (((rd x4_1 x7_7) == (rd l0 x11_1))), (by first | rfl | (simp; done) | (simp [*]; done)), H', ⟨by have := HK1.out; have := HJ4.out; have := HJ7.out; first | omega | exact Nat.le_refl _⟩, ⟨HO_4.r⟩, ⟨HB.l⟩⟩
             ·rw [if_neg c19] at H
              exact absurd H (by simp)
            ·rw [if_neg c18] at H
             have c18b0 : decide (x7_7 < (x4_1.length : Int)) = false := decide_eq_false c18
             clear c18
             (first | rw [c18b0] | (simp only [i64_w, i32_w]; rw [c18b0]) | skip)
             have H' := Aside0.mk H
             clear H
             obtain ⟨Ao21, co21, eo21⟩ := Kd.R_slice HO_4.out
             subst eo21
             go_wp2
             go_meet
             case rel => exact ⟨_, (false), (by first | rfl | (simp; done) | (simp [*]; done)), H', ⟨by have := HK1.out; have := HJ4.out; have := HJ7.out; first | omega | exact Nat.le_refl _⟩, ⟨HO_4.r⟩, ⟨HB.l⟩⟩
           case rest => as_aux_lemma =>
            clear HC17
            try clear c1
            try clear c2
            try clear c2b0
            try clear p2
            try clear c3
            try clear c3b0
            try clear p3
            try clear q3
            try clear hx3
            try clear c4
            try clear c4b0
            try clear c6
            try clear c6b0
            try clear c6b1
            try clear p6
            try clear c7
            try clear c9
            try clear c9b0
            try clear c10
            try clear c10b0
            try clear c13
            try clear c13b0
            try clear c18
            try clear c18b0
            try clear c19
            try clear c19b0
            try clear hx301_0
            try clear hx302_0
            try clear hx305_0
            try clear p2
            try clear p3
            try clear p301
            try clear p302
            try clear p305
            try clear p6
            try clear q3
            try clear q301
            try clear q302
            try clear q305
            obtain ⟨kq, x50_16, rfl, HA, HJ16, HO_4, HB⟩ := hcut
            cases kq with
            | zero => exact absurd HA.out (by simp [interleaveref31_Normal.j4])
            | succ kj16 =>
             have H := HA.out
             clear HA
             simp only [interleaveref31_Normal.j4] at H
             by_cases c22 : x50_16 = true
             ·subst c22
              have H1 : (interleaveref31_Normal.l0 kj16 x4_1 l0 (l0.length : Int) (wrap64 (x11_1 + 1))) = some (r1, r2) := by rw [if_pos rfl] at H; exact H
              clear H
              have H := H1
              clear H1
              have H' := Aside0.mk H
              clear H
              go_wp2
              go_roundg kj16
              case measure => have := HK1.out; have := HJ4.out; have := HJ7.out; have := HJ16.out; omega
              case rel => exact ⟨(x4_1), (wrap64 (x11_1 + 1)), (by first | rfl | (simp; done) | (simp [*]; done)), H', ⟨by have := HK1.out; have := HJ4.out; have := HJ7.out; have := HJ16.out; omega⟩, ⟨HO_4.r⟩, ⟨HB.l⟩⟩
             ·replace c22 := Bool.eq_false_iff.mpr c22
              subst c22
              have H1 : (if x7_7 < (x4_1.length : Int) then (if 0 ≤ x7_7 then (if (rd x4_1 x7_7) = (wrap64 (-(rd l0 x11_1))) then (some (([] : List Int), false)) else ((some (([(rd l0 x11_1)] : List Int) : List Int)).bind fun y307 => (if x7_7 ≤ (x4_1.length : Int) then ((some (x4_1.drop (x7_7 : Int).toNat : List Int)).bind fun y310 => (if y307.length + y310.length < 17592186044416 then ((some (y307 ++ y310 : List Int)).bind fun y314 => ((some (x4_1.take (x7_7 : Int).toNat : List Int)).bind fun y317 => (if 0 < y314.length then (if y317.length + y314.length < 17592186044416 then (interleaveref31_Normal.l0 kj16 (y317 ++ y314) l0 (l0.length : Int) (wrap64 (x11_1 + 1))) else (none)) else (none)))) else (none))) else (none)))) else (none)) else ((some (([(rd l0 x11_1)] : List Int) : List Int)).bind fun y324 => (if 0 ≤ x7_7 then (if x7_7 ≤ (x4_1.length : Int) then ((some (x4_1.drop (x7_7 : Int).toNat : List Int)).bind fun y327 => (if y324.length + y327.length < 17592186044416 then ((some (y324 ++ y327 : List Int)).bind fun y331 => ((some (x4_1.take (x7_7 : Int).toNat : List Int)).bind fun y334 => (if 0 < y331.length then (if y334.length + y331.length < 17592186044416 then (interleaveref31_Normal.l0 kj16 (y334 ++ y331) l0 (l0.length : Int) (wrap64 (x11_1 + 1))) else (none)) else (none)))) else (none))) else (none)) else (none)))) = some (r1, r2) := by rw [if_neg (show ¬ (false = true) by decide)] at H; exact H
              clear H
              have H := H1
              clear H1
              by_cases c23 : x7_7 < (x4_1.length : Int)
              ·rw [if_pos c23] at H
               have c23b0 : decide (x7_7 < (x4_1.length : Int)) = true := decide_eq_true c23
               clear c23
               by_cases c24 : 0 ≤ x7_7
               ·rw [if_pos c24] at H
                have c24b0 : decide (0 ≤ x7_7) = true := decide_eq_true c24
                clear c24
                by_cases c25 : (rd x4_1 x7_7) = (wrap64 (-(rd l0 x11_1)))
                ·rw [if_pos c25] at H
                 have c25b0 : ((rd x4_1 x7_7) == (wrap64 (-(rd l0 x11_1)))) = true := beq_iff_eq.mpr c25
                 have c25b1 : ((rd x4_1 x7_7) != (wrap64 (-(rd l0 x11_1)))) = false := bne_eq_false_iff_eq.mpr c25
                 clear c25
                 simp only [Option.some.injEq, Prod.mk.injEq] at H
                 obtain ⟨rfl, rfl⟩ := H
                 obtain ⟨Ao26, co26, eo26⟩ := Kd.R_slice HO_4.out
                 subst eo26
                 have p306 : 0 ≤ (x7_7 : Int) := of_decide_eq_true (by first | (with_reducible assumption) | assumption)
                 have q306 : x7_7 < (x4_1.length : Int) := of_decide_eq_true (by first | (with_reducible assumption) | assumption)
                 obtain ⟨ad306, e306, hx306_0⟩ := Kd.at_int (Kd.R_reads' HO_4.out).2.2 x7_7 p306 q306
                 cases e306
                 replace p306 := eq_true p306
                 replace q306 := eq_true q306
                 go_wp2
                 go_ret2
                 exact ⟨_, by first | rfl | (simp [errW_none, errW_some] <;> rfl) | (simp [*, errW_none, errW_some] <;> rfl), by first | exact Kd.R_nil _ _ _ _ _ | exact Kd.N_nil _ _ _ _ _ | exact Kd.V_nil _ _ _ _ _ | exact Kd.Q_nil _ _ _ _ _ | exact Kd.S_nil _ _ _ _ _, HB.l⟩
                ·rw [if_neg c25] at H
                 have c25b0 : ((rd x4_1 x7_7) == (wrap64 (-(rd l0 x11_1)))) = false := beq_eq_false_iff_ne.mpr c25
                 have c25b1 : ((rd x4_1 x7_7) != (wrap64 (-(rd l0 x11_1)))) = true := bne_iff_ne.mpr c25
                 obtain ⟨y307, hy307⟩ : ∃ y_ : List Int, y_ = (([(rd l0 x11_1)] : List Int)) := ⟨_, rfl⟩
                 replace H : (if x7_7 ≤ (x4_1.length : Int) then ((some (x4_1.drop (x7_7 : Int).toNat : List Int)).bind fun y310 => (if y307.length + y310.length < 17592186044416 then ((some (y307 ++ y310 : List Int)).bind fun y314 => ((some (x4_1.take (x7_7 : Int).toNat : List Int)).bind fun y317 => (if 0 < y314.length then (if y317.length + y314.length < 17592186044416 then (interleaveref31_Normal.l0 kj16 (y317 ++ y314) l0 (l0.length : Int) (wrap64 (x11_1 + 1))) else (none)) else (none)))) else (none))) else (none)) = some (r1, r2) := by first | (rw [hy307]; with_reducible exact H) | (have H2_ := (Option.bind_some _ _).symm.trans H; rw [hy307]; with_reducible exact H2_) | (have H2_ := (Option.bind_some _ _).symm.trans H; with_reducible exact H2_) | with_reducible exact H | (rw [hy307]; exact H) | exact H
                 have Ny307 := Aside0.mk hy307
                 clear hy307
                 have c27b0 := eq_true (of_decide_eq_true (by first | (with_reducible assumption) | assumption) : 0 ≤ x7_7)
                 by_cases c28 : x7_7 ≤ (x4_1.length : Int)
                 ·rw [if_pos c28] at H
                  have c28b0 := eq_true c28
                  have c28b1 : decide (x7_7 ≤ (x4_1.length : Int)) = true := decide_eq_true c28
                  clear c28
                  obtain ⟨y310, hy310⟩ : ∃ y_ : List Int, y_ = (x4_1.drop (x7_7 : Int).toNat) := ⟨_, rfl⟩
                  replace H : (if y307.length + y310.length < 17592186044416 then ((some (y307 ++ y310 : List Int)).bind fun y314 => ((some (x4_1.take (x7_7 : Int).toNat : List Int)).bind fun y317 => (if 0 < y314.length then (if y317.length + y314.length < 17592186044416 then (interleaveref31_Normal.l0 kj16 (y317 ++ y314) l0 (l0.length : Int) (wrap64 (x11_1 + 1))) else (none)) else (none)))) else (none)) = some (r1, r2) := by first | (rw [hy310]; with_reducible exact H) | (have H2_ := (Option.bind_some _ _).symm.trans H; rw [hy310]; with_reducible exact H2_) | (have H2_ := (Option.bind_some _ _).symm.trans H; with_reducible exact H2_) | with_reducible exact H | (rw [hy310]; exact H) | exact H
                  have Ny310 := Aside0.mk hy310
                  clear hy310
                  by_cases c29 : y307.length + y310.length < 17592186044416
                  ·rw [if_pos c29] at H
                   have LMc29 := Aside0.mk c29
                   clear c29
                   obtain ⟨y314, hy314⟩ : ∃ y_ : List Int, y_ = (y307 ++ y310) := ⟨_, rfl⟩
                   replace H : ((some (x4_1.take (x7_7 : Int).toNat : List Int)).bind fun y317 => (if 0 < y314.length then (if y317.length + y314.length < 17592186044416 then (interleaveref31_Normal.l0 kj16 (y317 ++ y314) l0 (l0.length : Int) (wrap64 (x11_1 + 1))) else (none)) else (none))) = some (r1, r2) := by first | (rw [hy314]; with_reducible exact H) | (have H2_ := (Option.bind_some _ _).symm.trans H; rw [hy314]; with_reducible exact H2_) | (have H2_ := (Option.bind_some _ _).symm.trans H; with_reducible exact H2_) | with_reducible exact H | (rw [hy314]; exact H) | exact H
                   have Ny314 := Aside0.mk hy314
                   clear hy314
                   have c30b0 := eq_true (of_decide_eq_true (by first | (with_reducible assumption) | assumption) : 0 ≤ x7_7)
                   have c31b0 := eq_true (of_decide_eq_true (by first | (with_reducible assumption) | assumption) : x7_7 ≤ (x4_1.length : Int))
                   obtain ⟨y317, hy317⟩ : ∃ y_ : List Int, y_ = (x4_1.take (x7_7 : Int).toNat) := ⟨_, rfl⟩
                   replace H : (if 0 < y314.length then (if y317.length + y314.length < 17592186044416 then (interleaveref31_Normal.l0 kj16 (y317 ++ y314) l0 (l0.length : Int) (wrap64 (x11_1 + 1))) else (none)) else (none)) = some (r1, r2) := by first | (rw [hy317]; with_reducible exact H) | (have H2_ := (Option.bind_some _ _).symm.trans H; rw [hy317]; with_reducible exact H2_) | (have H2_ := (Option.bind_some _ _).symm.trans H; with_reducible exact H2_) | with_reducible exact H | (rw [hy317]; exact H) | exact H
                   have Ny317 := Aside0.mk hy317
                   clear hy317
                   by_cases c32 : 0 < y314.length
                   ·rw [if_pos c32] at H
                    have c32b0 := eq_true c32
                    have c32b1 : decide (0 < y314.length) = true := decide_eq_true c32
                    clear c32
                    by_cases c33 : y317.length + y314.length < 17592186044416
                    ·rw [if_pos c33] at H
                     have LMc33 := Aside0.mk c33
                     clear c33
                     obtain ⟨y321, hy321⟩ : ∃ y_ : List Int, y_ = (y317 ++ y314) := ⟨_, rfl⟩
                     replace H : (interleaveref31_Normal.l0 kj16 y321 l0 (l0.length : Int) (wrap64 (x11_1 + 1))) = some (r1, r2) := by first | (rw [hy321]; with_reducible exact H) | (have H2_ := (Option.bind_some _ _).symm.trans H; rw [hy321]; with_reducible exact H2_) | (have H2_ := (Option.bind_some _ _).symm.trans H; with_reducible exact H2_) | with_reducible exact H | (rw [hy321]; exact H) | exact H
                     have Ny321 := Aside0.mk hy321
                     clear hy321
                     have H' := Aside0.mk H
                     clear H
                     obtain ⟨Ao34, co34, eo34⟩ := Kd.R_slice HO_4.out
                     subst eo34
                     have p306 : 0 ≤ (x7_7 : Int) := of_decide_eq_true (by first | (with_reducible assumption) | assumption)
                     have q306 : x7_7 < (x4_1.length : Int) := of_decide_eq_true (by first | (with_reducible assumption) | assumption)
                     obtain ⟨ad306, e306, hx306_0⟩ := Kd.at_int (Kd.R_reads' HO_4.out).2.2 x7_7 p306 q306
                     cases e306
                     replace p306 := eq_true p306
                     replace q306 := eq_true q306
                     go_wp2_with (first | ((with_reducible refine gate_dst (N := 65) rfl ?_); refine Kd.R_lit (Kd.int .i64) _ 3 ?hg (N := 65) ?hd (xs := ([(rd l0 x11_1)] : List Int)) (inner := [.int .i64 (rd l0 x11_1)]) (ok := fun _ => True) (okp := fun _ => True) ?hr ?hp (fun _ hk => hk) trivial (Below.refl _ _) (Nat.le_refl _) (by simp) ?_; (case hd => rfl); (case hg => rfl); (case hr => first | (go_simp; done) | (go_simp; rfl)); (case hp => exact (Reps.one (show Kd.M (Kd.int .i64) _ _ _ (rd l0 x11_1) [.int .i64 (rd l0 x11_1)] from rfl) (Reps.none _ _))); intro v308 w35 ho36 hb hg_ hnew_; clear hg_ hnew_; (first | rw [← Ny307.out] at ho36 | (simp only [Int.reduceToNat] at ho36; rw [← Ny307.out] at ho36)); have n0_ := Aside0.mk (Kd.R_elder' HO_4.r (Kd.R_base ho36) hb); have n1_ := Aside0.mk (Kd.R_lower (Kd.R_new' ho36 (Kd.R_lt HO_4.r)) (below_size HB.l)); have n2_ := Aside0.mk (below_step HB.l hb); clear HO_4 HB; revert n0_ n1_ n2_; intro HO_4 HO309 HB; clear hb ho36; have q37 : (x7_7 : Int) ≤ ((x4_1.length : Int) : Int) := of_decide_eq_true (by first | (with_reducible assumption) | assumption); obtain ⟨i037, hi037, _, hsz37, _⟩ := info_parts info3; have hroom37 : x4_1.length ≤ co34 := (Kd.R_reads' HO_4.out).2.1; have hC37 : Kd.C (Kd.int .i64) _ (some ad306) x4_1.length x4_1 := (Kd.R_reads' HO_4.out).2.2; have q037 : (0 : Int) ≤ (x7_7 : Int) := of_decide_eq_true (by first | (with_reducible assumption) | assumption); have hcut37 := cut_from (P := Try.prog) 43 3 .i64 Try.underlying43 hi037 1 hsz37 (some ad306) x4_1.length co34 x7_7 q037 q37; have hr37 := Kd.C_drop (m := (x7_7 : Int).toNat) (c := co34) hC37 (by omega) hroom37; obtain ⟨A37, hA37⟩ : ∃ A1, A1 = (if co34 = (x7_7 : Int).toNat then (some ad306) else ((some ad306) : Option Addr).map (·.add ((x7_7 : Int).toNat * 1))) := ⟨_, rfl⟩; obtain ⟨c37, hc37⟩ : ∃ c1, c1 = co34 - (x7_7 : Int).toNat := ⟨_, rfl⟩; have hy37 : y310.length = x4_1.length - (x7_7 : Int).toNat := (by rw [Ny310.out, List.length_drop] <;> omega); rw [show (x4_1).drop (x7_7 : Int).toNat = y310 from Ny310.out.symm] at hr37; replace hr37 : Kd.C (Kd.int .i64) _ A37 y310.length y310 := (by rw [hA37]; exact hr37); rw [← hy37, ← hA37, ← hc37] at hcut37; have HR313 := Aside0.mk hr37; have HC313 := Aside0.mk (show y310.length ≤ c37 from by rw [hy37, hc37]; exact Nat.sub_le_sub_right hroom37 _); clear hr37 hC37 hroom37 hi037 hsz37 hc37; have KY37 := Aside0.mk hy37; have KA37 := Aside0.mk hA37; clear hy37 hA37; have KL37 := Aside0.mk (show (x7_7 : Int).toNat ≤ x4_1.length from by omega); replace q37 := eq_true q37) | ((with_reducible refine gate_builtin (b := .append) (xs := #[.tmp 65, .tmp 68]) rfl ?_); at_builtin; refine Kd.R_append_rows (Kd.int .i64) (w0 := w) w.heap.size rfl (.tmp 65) (.tmp 68) 43 3 (.int .i64 0) 8 rfl Try.underlying43 info3 rfl (by decide) (by omega) v308 y307 y310 _ _ _ (fun k_ => some k_ ≠ (.slice (some ad306) x4_1.length co34 : Value).ownBlock) (fun _ => False) rfl rfl ?aO ?aR (fun _ _ h => h) (fun _ h => h.elim) ?aF ?aB ?aS ?aL ?_; (case aR => repeat (first | exact (by repeat (first | (with_reducible exact HR313.out) | (with_reducible refine Kd.C_alloc ?_ _) | (with_reducible refine Kd.C_drewN ?_ _) | (with_reducible refine Kd.C_drew ?_) | exact HR313.out)) | (with_reducible refine Kd.C_alloc ?_ _) | (with_reducible refine Kd.C_drewN ?_ _) | (with_reducible refine Kd.C_drew ?_))); (case aB => exact HB.l); (case aF => exact (fun k_ hk => Kd.fresh' (Kd.R_lt HO_4.r) k_ hk)); (case aO => exact (by (with_reducible repeat (first | apply Kd.R_alloc | apply Kd.R_drewN | apply Kd.R_drew)); exact Kd.R_mono HO309.out (fun _ hk => hk.2))); (case aS => exact (below_size HB.l)); (case aL => have := LMc29.out; omega); intro v315 w38 ho hb hg hat; rw [← Ny314.out] at ho; have n0_ := Aside0.mk (Kd.R_after (ok := (fun _ => True)) HO_4.r hg hat); have n1_ := Aside0.mk (hb); have n2_ := Aside0.mk ((show Kd.C (Kd.int .i64) w38 A37 y310.length y310 from by rw [Ny310.out, KA37.out]; exact Kd.C_drop (m := (x7_7 : Int).toNat) (c := co34) ((Kd.R_reads' (Kd.R_after (ok := (fun _ => True)) HO_4.r hg hat)).2.2) KL37.out ((Kd.R_reads' (Kd.R_after (ok := (fun _ => True)) HO_4.r hg hat)).2.1))); have n3_ := Aside0.mk (ho); clear HO_4 HB HR313 HO309; revert n0_ n1_ n2_ n3_; intro HO_4 HB HR313 HO316; clear ho hb hg hat; have q39 : (x7_7 : Int) ≤ ((x4_1.length : Int) : Int) := of_decide_eq_true (by first | (with_reducible assumption) | assumption); obtain ⟨i039, hi039, _, hsz39, _⟩ := info_parts info3; have hroom39 : x4_1.length ≤ co34 := (Kd.R_reads' HO_4.out).2.1; have hC39 : Kd.C (Kd.int .i64) _ (some ad306) x4_1.length x4_1 := (Kd.R_reads' HO_4.out).2.2; have hcut39 := cut_cap Try.prog 43 3 .i64 .i64 Try.underlying43 hi039 (some ad306) x4_1.length co34 x7_7 (of_decide_eq_true (by first | (with_reducible assumption) | assumption)) q39 hroom39; have hr39 := Kd.C_take (m := (x7_7 : Int).toNat) hC39 (by omega); have hy39 : y317.length = (x7_7 : Int).toNat := (by rw [Ny317.out, List.length_take]; omega); rw [← Ny317.out] at hr39; have HR320 := Aside0.mk hr39; have HC320 := Aside0.mk (Nat.le_refl y317.length); clear hr39 hC39 hroom39 hi039 hsz39; have KY39 := Aside0.mk hy39; clear hy39; have KL39 := Aside0.mk (show (x7_7 : Int).toNat ≤ x4_1.length from by omega); replace q39 := eq_true q39; obtain ⟨Ao41, co41, eo41⟩ := Kd.R_slice HO316.out; subst eo41) | ((with_reducible refine gate_builtin (b := .append) (xs := #[.tmp 73, .tmp 74]) rfl ?_); at_builtin; refine Kd.R_append_cut (Kd.int .i64) (w0 := w) w.heap.size rfl (.tmp 73) (.tmp 74) 43 3 (.int .i64 0) 8 rfl Try.underlying43 info3 rfl (by decide) (by omega) (some ad306) _ y317 y314 _ _ _ (fun k_ => some k_ ≠ (.slice (some ad306) x4_1.length co34 : Value).ownBlock ∧ some k_ ≠ (.slice Ao41 y314.length co41 : Value).ownBlock) (fun _ => False) rfl rfl ?aC ?aR (fun _ _ h => h) (fun _ h => h.elim) ?aF ?aM ?aB ?aS ?aL ?_; (case aM => exact of_decide_eq_true (by first | (with_reducible assumption) | assumption)); (case aC => have hk_ := KY39.out; rw [← hk_]; repeat (first | exact (by repeat (first | (with_reducible exact HR320.out) | (with_reducible refine Kd.C_alloc ?_ _) | (with_reducible refine Kd.C_drewN ?_ _) | (with_reducible refine Kd.C_drew ?_) | exact HR320.out)) | (with_reducible refine Kd.C_alloc ?_ _) | (with_reducible refine Kd.C_drewN ?_ _) | (with_reducible refine Kd.C_drew ?_))); (case aR => repeat (first | exact (Kd.R_reads' HO316.out).2.2 | (with_reducible refine Kd.C_alloc ?_ _) | (with_reducible refine Kd.C_drewN ?_ _) | (with_reducible refine Kd.C_drew ?_))); (case aB => exact HB.l); (case aF => exact (fun k_ hk => ⟨Kd.fresh' (Kd.R_lt HO_4.r) k_ hk, Kd.fresh' (Kd.R_lt HO316.r) k_ hk⟩)); (case aS => exact (below_size HB.l)); (case aL => have hk_ := KY39.out; have := LMc33.out; omega); intro v322 w40 ho hb hg hat; rw [← Ny321.out] at ho; have n0_ := Aside0.mk (Kd.R_after (Kd.R_apart_nil HO_4.r) hg hat); have n1_ := Aside0.mk (Kd.R_after (Kd.R_apart_nil HO316.r) hg hat); have n2_ := Aside0.mk (hb); have n3_ := Aside0.mk ((show Kd.C (Kd.int .i64) w40 A37 y310.length y310 from by rw [Ny310.out, KA37.out]; exact Kd.C_drop (m := (x7_7 : Int).toNat) (c := co34) ((Kd.R_reads' (Kd.R_after (Kd.R_apart_nil HO_4.r) hg hat)).2.2) KL37.out ((Kd.R_reads' (Kd.R_after (Kd.R_apart_nil HO_4.r) hg hat)).2.1))); have n4_ := Aside0.mk ((show Kd.C (Kd.int .i64) w40 (some ad306) y317.length y317 from by rw [Ny317.out]; exact Kd.C_take (m := (x7_7 : Int).toNat) ((Kd.R_reads' (Kd.R_after (Kd.R_apart_nil HO_4.r) hg hat)).2.2) KL39.out)); have n5_ := Aside0.mk (ho); clear HO_4 HO316 HB HR313 HR320; revert n0_ n1_ n2_ n3_ n4_ n5_; intro HO_4 HO316 HB HR313 HR320 HO323; clear ho hb hg hat))
                     go_roundg kj16
                     case measure => have := HK1.out; have := HJ4.out; have := HJ7.out; have := HJ16.out; omega
                     case rel => exact ⟨(y321), (wrap64 (x11_1 + 1)), (by first | rfl | (simp; done) | (simp [*]; done)), H', ⟨by have := HK1.out; have := HJ4.out; have := HJ7.out; have := HJ16.out; omega⟩, ⟨by (with_reducible repeat (first | apply Kd.R_alloc | apply Kd.R_drewN | apply Kd.R_drew)); exact Kd.R_mono HO323.out (fun _ hk => trivial)⟩, ⟨HB.l⟩⟩
                    ·rw [if_neg c33] at H
                     exact absurd H (by simp)
                   ·rw [if_neg c32] at H
                    exact absurd H (by simp)
                  ·rw [if_neg c29] at H
                   exact absurd H (by simp)
                 ·rw [if_neg c28] at H
                  exact absurd H (by simp)
               ·rw [if_neg c24] at H
                exact absurd H (by simp)
              ·rw [if_neg c23] at H
               have c23b0 : decide (x7_7 < (x4_1.length : Int)) = false := decide_eq_false c23
               clear c23
               obtain ⟨y324, hy324⟩ : ∃ y_ : List Int, y_ = (([(rd l0 x11_1)] : List Int)) := ⟨_, rfl⟩
               replace H : (if 0 ≤ x7_7 then (if x7_7 ≤ (x4_1.length : Int) then ((some (x4_1.drop (x7_7 : Int).toNat : List Int)).bind fun y327 => (if y324.length + y327.length < 17592186044416 then ((some (y324 ++ y327 : List Int)).bind fun y331 => ((some (x4_1.take (x7_7 : Int).toNat : List Int)).bind fun y334 => (if 0 < y331.length then (if y334.length + y331.length < 17592186044416 then (interleaveref31_Normal.l0 kj16 (y334 ++ y331) l0 (l0.length : Int) (wrap64 (x11_1 + 1))) else (none)) else (none)))) else (none))) else (none)) else (none)) = some (r1, r2) := by first | (rw [hy324]; with_reducible exact H) | (have H2_ := (Option.bind_some _ _).symm.trans H; rw [hy324]; with_reducible exact H2_) | (have H2_ := (Option.bind_some _ _).symm.trans H; with_reducible exact H2_) | with_reducible exact H | (rw [hy324]; exact H) | exact H
               have Ny324 := Aside0.mk hy324
               clear hy324
               by_cases c42 : 0 ≤ x7_7
               ·rw [if_pos c42] at H
                have c42b0 := eq_true c42
                have c42b1 : decide (0 ≤ x7_7) = true := decide_eq_true c42
                clear c42
                by_cases c43 : x7_7 ≤ (x4_1.length : Int)
                ·rw [if_pos c43] at H
                 have c43b0 := eq_true c43
                 have c43b1 : decide (x7_7 ≤ (x4_1.length : Int)) = true := decide_eq_true c43
                 clear c43
                 obtain ⟨y327, hy327⟩ : ∃ y_ : List Int, y_ = (x4_1.drop (x7_7 : Int).toNat) := ⟨_, rfl⟩
                 replace H : (if y324.length + y327.length < 17592186044416 then ((some (y324 ++ y327 : List Int)).bind fun y331 => ((some (x4_1.take (x7_7 : Int).toNat : List Int)).bind fun y334 => (if 0 < y331.length then (if y334.length + y331.length < 17592186044416 then (interleaveref31_Normal.l0 kj16 (y334 ++ y331) l0 (l0.length : Int) (wrap64 (x11_1 + 1))) else (none)) else (none)))) else (none)) = some (r1, r2) := by first | (rw [hy327]; with_reducible exact H) | (have H2_ := (Option.bind_some _ _).symm.trans H; rw [hy327]; with_reducible exact H2_) | (have H2_ := (Option.bind_some _ _).symm.trans H; with_reducible exact H2_) | with_reducible exact H | (rw [hy327]; exact H) | exact H
                 have Ny327 := Aside0.mk hy327
                 clear hy327
                 by_cases c44 : y324.length + y327.length < 17592186044416
                 ·rw [if_pos c44] at H
                  have LMc44 := Aside0.mk c44
                  clear c44
                  obtain ⟨y331, hy331⟩ : ∃ y_ : List Int, y_ = (y324 ++ y327) := ⟨_, rfl⟩
                  replace H : ((some (x4_1.take (x7_7 : Int).toNat : List Int)).bind fun y334 => (if 0 < y331.length then (if y334.length + y331.length < 17592186044416 then (interleaveref31_Normal.l0 kj16 (y334 ++ y331) l0 (l0.length : Int) (wrap64 (x11_1 + 1))) else (none)) else (none))) = some (r1, r2) := by first | (rw [hy331]; with_reducible exact H) | (have H2_ := (Option.bind_some _ _).symm.trans H; rw [hy331]; with_reducible exact H2_) | (have H2_ := (Option.bind_some _ _).symm.trans H; with_reducible exact H2_) | with_reducible exact H | (rw [hy331]; exact H) | exact H
                  have Ny331 := Aside0.mk hy331
                  clear hy331
                  have c45b0 := eq_true (of_decide_eq_true (by first | (with_reducible assumption) | assumption) : 0 ≤ x7_7)
                  have c46b0 := eq_true (of_decide_eq_true (by first | (with_reducible assumption) | assumption) : x7_7 ≤ (x4_1.length : Int))
                  obtain ⟨y334, hy334⟩ : ∃ y_ : List Int, y_ = (x4_1.take (x7_7 : Int).toNat) := ⟨_, rfl⟩
                  replace H : (if 0 < y331.length then (if y334.length + y331.length < 17592186044416 then (interleaveref31_Normal.l0 kj16 (y334 ++ y331) l0 (l0.length : Int) (wrap64 (x11_1 + 1))) else (none)) else (none)) = some (r1, r2) := by first | (rw [hy334]; with_reducible exact H) | (have H2_ := (Option.bind_some _ _).symm.trans H; rw [hy334]; with_reducible exact H2_) | (have H2_ := (Option.bind_some _ _).symm.trans H; with_reducible exact H2_) | with_reducible exact H | (rw [hy334]; exact H) | exact H
                  have Ny334 := Aside0.mk hy334
                  clear hy334
                  by_cases c47 : 0 < y331.length
                  ·rw [if_pos c47] at H
                   have c47b0 := eq_true c47
                   have c47b1 : decide (0 < y331.length) = true := decide_eq_true c47
                   clear c47
                   by_cases c48 : y334.length + y331.length < 17592186044416
                   ·rw [if_pos c48] at H
                    have LMc48 := Aside0.mk c48
                    clear c48
                    obtain ⟨y338, hy338⟩ : ∃ y_ : List Int, y_ = (y334 ++ y331) := ⟨_, rfl⟩
                    replace H : (interleaveref31_Normal.l0 kj16 y338 l0 (l0.length : Int) (wrap64 (x11_1 + 1))) = some (r1, r2) := by first | (rw [hy338]; with_reducible exact H) | (have H2_ := (Option.bind_some _ _).symm.trans H; rw [hy338]; with_reducible exact H2_) | (have H2_ := (Option.bind_some _ _).symm.trans H; with_reducible exact H2_) | with_reducible exact H | (rw [hy338]; exact H) | exact H
                    have Ny338 := Aside0.mk hy338
                    clear hy338
                    have H' := Aside0.mk H
                    clear H
                    obtain ⟨Ao49, co49, eo49⟩ := Kd.R_slice HO_4.out
                    subst eo49
                    go_wp2_with (first | ((with_reducible refine gate_dst (N := 65) rfl ?_); refine Kd.R_lit (Kd.int .i64) _ 3 ?hg (N := 65) ?hd (xs := ([(rd l0 x11_1)] : List Int)) (inner := [.int .i64 (rd l0 x11_1)]) (ok := fun _ => True) (okp := fun _ => True) ?hr ?hp (fun _ hk => hk) trivial (Below.refl _ _) (Nat.le_refl _) (by simp) ?_; (case hd => rfl); (case hg => rfl); (case hr => first | (go_simp; done) | (go_simp; rfl)); (case hp => exact (Reps.one (show Kd.M (Kd.int .i64) _ _ _ (rd l0 x11_1) [.int .i64 (rd l0 x11_1)] from rfl) (Reps.none _ _))); intro v325 w50 ho51 hb hg_ hnew_; clear hg_ hnew_; (first | rw [← Ny324.out] at ho51 | (simp only [Int.reduceToNat] at ho51; rw [← Ny324.out] at ho51)); have n0_ := Aside0.mk (Kd.R_elder' HO_4.r (Kd.R_base ho51) hb); have n1_ := Aside0.mk (Kd.R_lower (Kd.R_new' ho51 (Kd.R_lt HO_4.r)) (below_size HB.l)); have n2_ := Aside0.mk (below_step HB.l hb); clear HO_4 HB; revert n0_ n1_ n2_; intro HO_4 HO326 HB; clear hb ho51; have q52 : (x7_7 : Int) ≤ ((x4_1.length : Int) : Int) := of_decide_eq_true (by first | (with_reducible assumption) | assumption); obtain ⟨i052, hi052, _, hsz52, _⟩ := info_parts info3; have hroom52 : x4_1.length ≤ co49 := (Kd.R_reads' HO_4.out).2.1; have hC52 : Kd.C (Kd.int .i64) _ Ao49 x4_1.length x4_1 := (Kd.R_reads' HO_4.out).2.2; have q052 : (0 : Int) ≤ (x7_7 : Int) := of_decide_eq_true (by first | (with_reducible assumption) | assumption); have hcut52 := cut_from (P := Try.prog) 43 3 .i64 Try.underlying43 hi052 1 hsz52 Ao49 x4_1.length co49 x7_7 q052 q52; have hr52 := Kd.C_drop (m := (x7_7 : Int).toNat) (c := co49) hC52 (by omega) hroom52; obtain ⟨A52, hA52⟩ : ∃ A1, A1 = (if co49 = (x7_7 : Int).toNat then Ao49 else (Ao49 : Option Addr).map (·.add ((x7_7 : Int).toNat * 1))) := ⟨_, rfl⟩; obtain ⟨c52, hc52⟩ : ∃ c1, c1 = co49 - (x7_7 : Int).toNat := ⟨_, rfl⟩; have hy52 : y327.length = x4_1.length - (x7_7 : Int).toNat := (by rw [Ny327.out, List.length_drop] <;> omega); rw [show (x4_1).drop (x7_7 : Int).toNat = y327 from Ny327.out.symm] at hr52; replace hr52 : Kd.C (Kd.int .i64) _ A52 y327.length y327 := (by rw [hA52]; exact hr52); rw [← hy52, ← hA52, ← hc52] at hcut52; have HR330 := Aside0.mk hr52; have HC330 := Aside0.mk (show y327.length ≤ c52 from by rw [hy52, hc52]; exact Nat.sub_le_sub_right hroom52 _); clear hr52 hC52 hroom52 hi052 hsz52 hc52; have KY52 := Aside0.mk hy52; have KA52 := Aside0.mk hA52; clear hy52 hA52; have KL52 := Aside0.mk (show (x7_7 : Int).toNat ≤ x4_1.length from by omega); replace q52 := eq_true q52) | ((with_reducible refine gate_builtin (b := .append) (xs := #[.tmp 65, .tmp 68]) rfl ?_); at_builtin; refine Kd.R_append_rows (Kd.int .i64) (w0 := w) w.heap.size rfl (.tmp 65) (.tmp 68) 43 3 (.int .i64 0) 8 rfl Try.underlying43 info3 rfl (by decide) (by omega) v325 y324 y327 _ _ _ (fun k_ => some k_ ≠ (.slice Ao49 x4_1.length co49 : Value).ownBlock) (fun _ => False) rfl rfl ?aO ?aR (fun _ _ h => h) (fun _ h => h.elim) ?aF ?aB ?aS ?aL ?_; (case aR => repeat (first | exact (by repeat (first | (with_reducible exact HR330.out) | (with_reducible refine Kd.C_alloc ?_ _) | (with_reducible refine Kd.C_drewN ?_ _) | (with_reducible refine Kd.C_drew ?_) | exact HR330.out)) | (with_reducible refine Kd.C_alloc ?_ _) | (with_reducible refine Kd.C_drewN ?_ _) | (with_reducible refine Kd.C_drew ?_))); (case aB => exact HB.l); (case aF => exact (fun k_ hk => Kd.fresh' (Kd.R_lt HO_4.r) k_ hk)); (case aO => exact (by (with_reducible repeat (first | apply Kd.R_alloc | apply Kd.R_drewN | apply Kd.R_drew)); exact Kd.R_mono HO326.out (fun _ hk => hk.2))); (case aS => exact (below_size HB.l)); (case aL => have := LMc44.out; omega); intro v332 w53 ho hb hg hat; rw [← Ny331.out] at ho; have n0_ := Aside0.mk (Kd.R_after (ok := (fun _ => True)) HO_4.r hg hat); have n1_ := Aside0.mk (hb); have n2_ := Aside0.mk ((show Kd.C (Kd.int .i64) w53 A52 y327.length y327 from by rw [Ny327.out, KA52.out]; exact Kd.C_drop (m := (x7_7 : Int).toNat) (c := co49) ((Kd.R_reads' (Kd.R_after (ok := (fun _ => True)) HO_4.r hg hat)).2.2) KL52.out ((Kd.R_reads' (Kd.R_after (ok := (fun _ => True)) HO_4.r hg hat)).2.1))); have n3_ := Aside0.mk (ho); clear HO_4 HB HR330 HO326; revert n0_ n1_ n2_ n3_; intro HO_4 HB HR330 HO333; clear ho hb hg hat; have q54 : (x7_7 : Int) ≤ ((x4_1.length : Int) : Int) := of_decide_eq_true (by first | (with_reducible assumption) | assumption); obtain ⟨i054, hi054, _, hsz54, _⟩ := info_parts info3; have hroom54 : x4_1.length ≤ co49 := (Kd.R_reads' HO_4.out).2.1; have hC54 : Kd.C (Kd.int .i64) _ Ao49 x4_1.length x4_1 := (Kd.R_reads' HO_4.out).2.2; have hcut54 := cut_cap Try.prog 43 3 .i64 .i64 Try.underlying43 hi054 Ao49 x4_1.length co49 x7_7 (of_decide_eq_true (by first | (with_reducible assumption) | assumption)) q54 hroom54; have hr54 := Kd.C_take (m := (x7_7 : Int).toNat) hC54 (by omega); have hy54 : y334.length = (x7_7 : Int).toNat := (by rw [Ny334.out, List.length_take]; omega); rw [← Ny334.out] at hr54; have HR337 := Aside0.mk hr54; have HC337 := Aside0.mk (Nat.le_refl y334.length); clear hr54 hC54 hroom54 hi054 hsz54; have KY54 := Aside0.mk hy54; clear hy54; have KL54 := Aside0.mk (show (x7_7 : Int).toNat ≤ x4_1.length from by omega); replace q54 := eq_true q54; obtain ⟨Ao56, co56, eo56⟩ := Kd.R_slice HO333.out; subst eo56) | ((with_reducible refine gate_builtin (b := .append) (xs := #[.tmp 73, .tmp 74]) rfl ?_); at_builtin; refine Kd.R_append_cut (Kd.int .i64) (w0 := w) w.heap.size rfl (.tmp 73) (.tmp 74) 43 3 (.int .i64 0) 8 rfl Try.underlying43 info3 rfl (by decide) (by omega) Ao49 _ y334 y331 _ _ _ (fun k_ => some k_ ≠ (.slice Ao49 x4_1.length co49 : Value).ownBlock ∧ some k_ ≠ (.slice Ao56 y331.length co56 : Value).ownBlock) (fun _ => False) rfl rfl ?aC ?aR (fun _ _ h => h) (fun _ h => h.elim) ?aF ?aM ?aB ?aS ?aL ?_; (case aM => exact of_decide_eq_true (by first | (with_reducible assumption) | assumption)); (case aC => have hk_ := KY54.out; rw [← hk_]; repeat (first | exact (by repeat (first | (with_reducible exact HR337.out) | (with_reducible refine Kd.C_alloc ?_ _) | (with_reducible refine Kd.C_drewN ?_ _) | (with_reducible refine Kd.C_drew ?_) | exact HR337.out)) | (with_reducible refine Kd.C_alloc ?_ _) | (with_reducible refine Kd.C_drewN ?_ _) | (with_reducible refine Kd.C_drew ?_))); (case aR => repeat (first | exact (Kd.R_reads' HO333.out).2.2 | (with_reducible refine Kd.C_alloc ?_ _) | (with_reducible refine Kd.C_drewN ?_ _) | (with_reducible refine Kd.C_drew ?_))); (case aB => exact HB.l); (case aF => exact (fun k_ hk => ⟨Kd.fresh' (Kd.R_lt HO_4.r) k_ hk, Kd.fresh' (Kd.R_lt HO333.r) k_ hk⟩)); (case aS => exact (below_size HB.l)); (case aL => have hk_ := KY54.out; have := LMc48.out; omega); intro v339 w55 ho hb hg hat; rw [← Ny338.out] at ho; have n0_ := Aside0.mk (Kd.R_after (Kd.R_apart_nil HO_4.r) hg hat); have n1_ := Aside0.mk (Kd.R_after (Kd.R_apart_nil HO333.r) hg hat); have n2_ := Aside0.mk (hb); have n3_ := Aside0.mk ((show Kd.C (Kd.int .i64) w55 A52 y327.length y327 from by rw [Ny327.out, KA52.out]; exact Kd.C_drop (m := (x7_7 : Int).toNat) (c := co49) ((Kd.R_reads' (Kd.R_after (Kd.R_apart_nil HO_4.r) hg hat)).2.2) KL52.out ((Kd.R_reads' (Kd.R_after (Kd.R_apart_nil HO_4.r) hg hat)).2.1))); have n4_ := Aside0.mk ((show Kd.C (Kd.int .i64) w55 Ao49 y334.length y334 from by rw [Ny334.out]; exact Kd.C_take (m := (x7_7 : Int).toNat) ((Kd.R_reads' (Kd.R_after (Kd.R_apart_nil HO_4.r) hg hat)).2.2) KL54.out)); have n5_ := Aside0.mk (ho); clear HO_4 HO333 HB HR330 HR337; revert n0_ n1_ n2_ n3_ n4_ n5_; intro HO_4 HO333 HB HR330 HR337 HO340; clear ho hb hg hat))
                    go_roundg kj16
                    case measure => have := HK1.out; have := HJ4.out; have := HJ7.out; have := HJ16.out; omega
                    case rel => exact ⟨(y338), (wrap64 (x11_1 + 1)), (by first | rfl | (simp; done) | (simp [*]; done)), H', ⟨by have := HK1.out; have := HJ4.out; have := HJ7.out; have := HJ16.out; omega⟩, ⟨by (with_reducible repeat (first | apply Kd.R_alloc | apply Kd.R_drewN | apply Kd.R_drew)); exact Kd.R_mono HO340.out (fun _ hk => trivial)⟩, ⟨HB.l⟩⟩
                   ·rw [if_neg c48] at H
                    exact absurd H (by simp)
                  ·rw [if_neg c47] at H
                   exact absurd H (by simp)
                 ·rw [if_neg c44] at H
                  exact absurd H (by simp)
                ·rw [if_neg c43] at H
                 exact absurd H (by simp)
               ·rw [if_neg c42] at H
                exact absurd H (by simp)
     ·rw [if_neg c4] at H
      exact absurd H (by simp)
    ·rw [if_neg c3] at H
     exact absurd H (by simp)
   ·rw [if_neg c2] at H
    have c2b0 : decide (x11_1 < (l0.length : Int)) = false := decide_eq_false c2
    clear c2
    simp only [Option.some.injEq, Prod.mk.injEq] at H
    obtain ⟨rfl, rfl⟩ := H
    go_wp2
    go_ret2
    exact ⟨_, by first | rfl | (simp [errW_none, errW_some] <;> rfl) | (simp [*, errW_none, errW_some] <;> rfl), HO_4.r, HB.l⟩

end Go.Proofs.Ytppbnjmhkifdaaa.X
