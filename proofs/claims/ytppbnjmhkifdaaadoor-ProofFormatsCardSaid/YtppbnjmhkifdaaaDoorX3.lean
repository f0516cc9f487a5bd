-- Written by this session's own program (wip/tools/xprint.py).
import Derived.Test.YtppbnjmhkifdaaaDoorX0
import Derived.Test.YtppbnjmhkifdaaaDoorSx
import Derived.Test.YtppbnjmhkifdaaaDoorX1
import Derived.Test.YtppbnjmhkifdaaaDoorX2
namespace Go.Proofs.YtppbnjmhkifdaaaDoor.X
open Go.RowKit Go.Proofs.YtppbnjmhkifdaaaDoorW.PrintWords Go.Proofs.YtppbnjmhkifdaaaDoorW.PrintLast Go.Proofs.YtppbnjmhkifdaaaDoorW.PrintMore
attribute [local go_sem] max2_int min2_int max_two min_two max_three min_three max_four min_four   -- for this text's walks alone
set_option linter.unusedVariables false
set_option linter.unusedSimpArgs false

/-! ### diff_Cycle: function 26 -/
def diff_Cycle.l0 : Nat → List (S53) → List Int → Int → List Int → Int → Int → Option (Bool)
 | 0, _, _, _, _, _, _ => none
 | k + 1, x0, x1, x5, x9, x10, x11 => if x11 < x10 then (if 0 ≤ x11 then (if x11 < (x9.length : Int) then (if (x1.length : Int) = 0 then (none) else (if 0 ≤ (Int.tmod (wrap64 (x11 + 1)) (x1.length : Int)) then (if (Int.tmod (wrap64 (x11 + 1)) (x1.length : Int)) < (x1.length : Int) then (if (rd x9 x11) < 0 then (some false) else (if (rd x9 x11) ≥ (x0.length : Int) then (some false) else (if (rd x1 (Int.tmod (wrap64 (x11 + 1)) (x1.length : Int))) < 0 then (some false) else (if (rd x1 (Int.tmod (wrap64 (x11 + 1)) (x1.length : Int))) ≥ (x0.length : Int) then (some false) else (if 0 ≤ (rd x9 x11) then (if (rd x9 x11) < (x0.length : Int) then (if 0 ≤ (rd x1 (Int.tmod (wrap64 (x11 + 1)) (x1.length : Int))) then (if (rd x1 (Int.tmod (wrap64 (x11 + 1)) (x1.length : Int))) < (x0.length : Int) then (if ((rd_T53 x0 (rd x9 x11)).f1) = ((rd_T53 x0 (rd x1 (Int.tmod (wrap64 (x11 + 1)) (x1.length : Int)))).f0) then (diff_Cycle.l0 k x0 x1 (wrap64 (x5 + ((rd_T53 x0 (rd x9 x11)).f2))) x9 x10 (wrap64 (x11 + 1))) else (some false)) else (none)) else (none)) else (none)) else (none)))))) else (none)) else (none))) else (none)) else (none)) else (some (decide (x5 < 0)))
def diff_Cycle.f (k : Nat) (l0 : List (S53)) (l1 : List Int) : Option (Bool) := diff_Cycle.l0 k l0 l1 0 l1 (l1.length : Int) 0
theorem diff_Cycle.mono_l : ∀ k, (∀ y0 y1 y2 y3 y4 y5, LeO (diff_Cycle.l0 k y0 y1 y2 y3 y4 y5) (diff_Cycle.l0 (k + 1) y0 y1 y2 y3 y4 y5))
 | 0 => fun _ _ _ _ _ _ r h => by simp [diff_Cycle.l0] at h
 | k + 1 => by
  have ih0 := diff_Cycle.mono_l k
  ·intro y0 y1 y2 y3 y4 y5
   unfold diff_Cycle.l0
   repeat' first
   | (with_reducible exact ih0 _ _ _ _ _ _)
   | (with_reducible exact LeO.refl _)
   | (with_reducible exact LeO.none _)
   | (with_reducible refine LeO.ite ?_ ?_)
   | (with_reducible refine LeO.bind ?_ (fun _ => ?_))
   | exact ih0 _ _ _ _ _ _
   | exact LeO.none _
   | refine LeO.ite ?_ ?_
   | refine LeO.bind ?_ (fun _ => ?_)
theorem diff_Cycle.mono : ∀ a0 a1 k, LeO (diff_Cycle.f k a0 a1) (diff_Cycle.f (k + 1) a0 a1) := by
 intro a0 a1 k
 have ih0 := diff_Cycle.mono_l k
 unfold diff_Cycle.f
 repeat' first
   | (with_reducible exact ih0 _ _ _ _ _ _)
   | (with_reducible exact LeO.refl _)
   | (with_reducible exact LeO.none _)
   | (with_reducible refine LeO.ite ?_ ?_)
   | (with_reducible refine LeO.bind ?_ (fun _ => ?_))
   | exact ih0 _ _ _ _ _ _
   | exact LeO.none _
   | refine LeO.ite ?_ ?_
   | refine LeO.bind ?_ (fun _ => ?_)
set_option maxHeartbeats 8000000 in
set_option maxRecDepth 100000 in
theorem diff_Cycle.calls (k : Nat) (A0 : Option Addr) (c0 : Nat) (l0 : List (S53)) (A1 : Option Addr) (c1 : Nat) (l1 : List Int) (r : Bool) (w : World) (hr0 : Kd.C k53 w A0 l0.length l0) (hc0 : l0.length ≤ c0) (hr1 : Kd.C (Kd.int .i64) w A1 l1.length l1) (hc1 : l1.length ≤ c1) (h : diff_Cycle.f k l0 l1 = some r) :
  Calls Tryd.prog 26 #[.slice A0 l0.length c0, .slice A1 l1.length c1] w fun e w' => e = .returned (.bool r) ∧ Drawn0 w w' := by
 have HR0 := Aside0.mk hr0
 have HC0 := Aside0.mk hc0
 clear hr0 hc0
 have HR1 := Aside0.mk hr1
 have HC1 := Aside0.mk hc1
 clear hr1 hc1
 have H : (diff_Cycle.l0 k l0 l1 0 l1 (l1.length : Int) 0) = some r := h
 clear h
 have H' := Aside0.mk H
 clear H
 go_enter Tryd.func26, Tryd.ntmps26
 go_wp2
 repeat (go_quiet (fail); try go_wp2)
 go_loopg [5, 11] k (fun kq v5 v11 w' => ∃ (x5_1 : Int) (x11_1 : Int), v5 = .int .i64 x5_1 ∧ v11 = .int .i64 x11_1 ∧ Aside0 (diff_Cycle.l0 kq l0 l1 x5_1 l1 (l1.length : Int) x11_1 = some r) ∧ Aside0 (kq ≤ k) ∧ Drawn0 w w')
 case atStart => exact ⟨(0), (0), (by first | rfl | (simp; done) | (simp [*]; done)), (by first | rfl | (simp; done) | (simp [*]; done)), H', ⟨Nat.le_refl _⟩, by repeat (first | exact Drawn0.refl _ | apply Drawn0.step)⟩
 case round => as_aux_lemma =>
  clear H'
  try clear c1
  try clear c2
  try clear p2
  obtain ⟨x5_1, x11_1, rfl, rfl, HA, HK1, ⟨m1, rfl⟩⟩ := hrel
  cases gk with
  | zero => exact absurd HA.out (by simp [diff_Cycle.l0])
  | succ k1 =>
   have H := HA.out
   clear HA
   simp only [diff_Cycle.l0] at H
   by_cases c3 : x11_1 < (l1.length : Int)
   ·rw [if_pos c3] at H
    have c3b0 : decide (x11_1 < (l1.length : Int)) = true := decide_eq_true c3
    clear c3
    by_cases c4 : 0 ≤ x11_1
    ·rw [if_pos c4] at H
     have c4b0 : decide (0 ≤ x11_1) = true := decide_eq_true c4
     clear c4
     by_cases c5 : x11_1 < (l1.length : Int)
     ·rw [if_pos c5] at H
      have c5b0 : decide (x11_1 < (l1.length : Int)) = true := decide_eq_true c5
      clear c5
      by_cases c6 : (l1.length : Int) = 0
      ·rw [if_pos c6] at H
       exact absurd H (by simp)
      ·rw [if_neg c6] at H
       have c6b0 : ((l1.length : Int) == 0) = false := beq_eq_false_iff_ne.mpr c6
       have c6b1 : ((l1.length : Int) != 0) = true := bne_iff_ne.mpr c6
       have c6b2 : ¬ (l1 = []) := fun h_ => c6 (by rw [h_]; rfl)
       obtain ⟨ji7, hji7⟩ : ∃ j_ : Int, (Int.tmod (wrap64 (x11_1 + 1)) (l1.length : Int)) = j_ := ⟨_, rfl⟩
       replace H : (if 0 ≤ (ji7) then (if (ji7) < (l1.length : Int) then (if (rd l1 x11_1) < 0 then (some false) else (if (rd l1 x11_1) ≥ (l0.length : Int) then (some false) else (if (rd l1 (ji7)) < 0 then (some false) else (if (rd l1 (ji7)) ≥ (l0.length : Int) then (some false) else (if 0 ≤ (rd l1 x11_1) then (if (rd l1 x11_1) < (l0.length : Int) then (if 0 ≤ (rd l1 (ji7)) then (if (rd l1 (ji7)) < (l0.length : Int) then (if ((rd_T53 l0 (rd l1 x11_1)).f1) = ((rd_T53 l0 (rd l1 (ji7))).f0) then (diff_Cycle.l0 k1 l0 l1 (wrap64 (x5_1 + ((rd_T53 l0 (rd l1 x11_1)).f2))) l1 (l1.length : Int) (wrap64 (x11_1 + 1))) else (some false)) else (none)) else (none)) else (none)) else (none)))))) else (none)) else (none)) = some r := by first | (rw [hji7] at H; exact H) | (simp only [hji7] at H ⊢; exact H)
       by_cases c8 : 0 ≤ (ji7)
       ·rw [if_pos c8] at H
        have c8b0 : decide (0 ≤ (ji7)) = true := decide_eq_true c8
        clear c8
        by_cases c9 : (ji7) < (l1.length : Int)
        ·rw [if_pos c9] at H
         have c9b0 : decide ((ji7) < (l1.length : Int)) = true := decide_eq_true c9
         clear c9
         by_cases c10 : (rd l1 x11_1) < 0
         ·rw [if_pos c10] at H
          have c10b0 : decide ((rd l1 x11_1) < 0) = true := decide_eq_true c10
          clear c10
          obtain rfl := Option.some.inj H
          have p166 : 0 ≤ (x11_1 : Int) := of_decide_eq_true (by first | (with_reducible assumption) | assumption)
          have q166 : x11_1 < (l1.length : Int) := of_decide_eq_true (by first | (with_reducible assumption) | assumption)
          obtain ⟨ad166, e166, hx166_0⟩ := Kd.at_int HR1.out x11_1 p166 q166
          cases e166
          replace p166 := eq_true p166
          replace q166 := eq_true q166
          have p167 : 0 ≤ ((ji7) : Int) := of_decide_eq_true (by first | (with_reducible assumption) | assumption)
          have q167 : (ji7) < (l1.length : Int) := of_decide_eq_true (by first | (with_reducible assumption) | assumption)
          obtain ⟨ad167, e167, hx167_0⟩ := Kd.at_int HR1.out (ji7) p167 q167
          obtain rfl : ad166 = ad167 := (by injection e167)
          replace p167 := eq_true p167
          replace q167 := eq_true q167
          go_wp2
          repeat (go_quiet (fail); try go_wp2)
          go_ret
          exact ⟨by first | rfl | (simp; done) | (simp only [← hji7] <;> (first | rfl | simp)) | (simp [*]; done), by repeat (first | exact Drawn0.refl _ | apply Drawn0.step)⟩
         ·rw [if_neg c10] at H
          have c10b0 : decide ((rd l1 x11_1) < 0) = false := decide_eq_false c10
          clear c10
          by_cases c11 : (rd l1 x11_1) ≥ (l0.length : Int)
          ·rw [if_pos c11] at H
           have c11b0 : decide ((l0.length : Int) ≤ (rd l1 x11_1)) = true := decide_eq_true c11
           clear c11
           obtain rfl := Option.some.inj H
           have p166 : 0 ≤ (x11_1 : Int) := of_decide_eq_true (by first | (with_reducible assumption) | assumption)
           have q166 : x11_1 < (l1.length : Int) := of_decide_eq_true (by first | (with_reducible assumption) | assumption)
           obtain ⟨ad166, e166, hx166_0⟩ := Kd.at_int HR1.out x11_1 p166 q166
           cases e166
           replace p166 := eq_true p166
           replace q166 := eq_true q166
           have p167 : 0 ≤ ((ji7) : Int) := of_decide_eq_true (by first | (with_reducible assumption) | assumption)
           have q167 : (ji7) < (l1.length : Int) := of_decide_eq_true (by first | (with_reducible assumption) | assumption)
           obtain ⟨ad167, e167, hx167_0⟩ := Kd.at_int HR1.out (ji7) p167 q167
           obtain rfl : ad166 = ad167 := (by injection e167)
           replace p167 := eq_true p167
           replace q167 := eq_true q167
           go_wp2
           repeat (go_quiet (fail); try go_wp2)
           go_ret
           exact ⟨by first | rfl | (simp; done) | (simp only [← hji7] <;> (first | rfl | simp)) | (simp [*]; done), by repeat (first | exact Drawn0.refl _ | apply Drawn0.step)⟩
          ·rw [if_neg c11] at H
           have c11b0 : decide ((l0.length : Int) ≤ (rd l1 x11_1)) = false := decide_eq_false c11
           clear c11
           by_cases c12 : (rd l1 (ji7)) < 0
           ·rw [if_pos c12] at H
            have c12b0 : decide ((rd l1 (ji7)) < 0) = true := decide_eq_true c12
            clear c12
            obtain rfl := Option.some.inj H
            have p166 : 0 ≤ (x11_1 : Int) := of_decide_eq_true (by first | (with_reducible assumption) | assumption)
            have q166 : x11_1 < (l1.length : Int) := of_decide_eq_true (by first | (with_reducible assumption) | assumption)
            obtain ⟨ad166, e166, hx166_0⟩ := Kd.at_int HR1.out x11_1 p166 q166
            cases e166
            replace p166 := eq_true p166
            replace q166 := eq_true q166
            have p167 : 0 ≤ ((ji7) : Int) := of_decide_eq_true (by first | (with_reducible assumption) | assumption)
            have q167 : (ji7) < (l1.length : Int) := of_decide_eq_true (by first | (with_reducible assumption) | assumption)
            obtain ⟨ad167, e167, hx167_0⟩ := Kd.at_int HR1.out (ji7) p167 q167
            obtain rfl : ad166 = ad167 := (by injection e167)
            replace p167 := eq_true p167
            replace q167 := eq_true q167
            go_wp2
            repeat (go_quiet (fail); try go_wp2)
            go_ret
            exact ⟨by first | rfl | (simp; done) | (simp only [← hji7] <;> (first | rfl | simp)) | (simp [*]; done), by repeat (first | exact Drawn0.refl _ | apply Drawn0.step)⟩
           ·rw [if_neg c12] at H
            have c12b0 : decide ((rd l1 (ji7)) < 0) = false := decide_eq_false c12
            clear c12
            by_cases c13 : (rd l1 (ji7)) ≥ (l0.length : Int)
            ·rw [if_pos c13] at H
             have c13b0 : decide ((l0.length : Int) ≤ (rd l1 (ji7))) = true := decide_eq_true c13
             clear c13
             obtain rfl := Option.some.inj H
             have p166 : 0 ≤ (x11_1 : Int) := of_decide_eq_true (by first | (with_reducible assumption) | assumption)
             have q166 : x11_1 < (l1.length : Int) := of_decide_eq_true (by first | (with_reducible assumption) | assumption)
             obtain ⟨ad166, e166, hx166_0⟩ := Kd.at_int HR1.out x11_1 p166 q166
             cases e166
             replace p166 := eq_true p166
             replace q166 := eq_true q166
             have p167 : 0 ≤ ((ji7) : Int) := of_decide_eq_true (by first | (with_reducible assumption) | assumption)
             have q167 : (ji7) < (l1.length : Int) := of_decide_eq_true (by first | (with_reducible assumption) | assumption)
             obtain ⟨ad167, e167, hx167_0⟩ := Kd.at_int HR1.out (ji7) p167 q167
             obtain rfl : ad166 = ad167 := (by injection e167)
             replace p167 := eq_true p167
             replace q167 := eq_true q167
             go_wp2
             repeat (go_quiet (fail); try go_wp2)
             go_ret
             exact ⟨by first | rfl | (simp; done) | (simp only [← hji7] <;> (first | rfl | simp)) | (simp [*]; done), by repeat (first | exact Drawn0.refl _ | apply Drawn0.step)⟩
            ·rw [if_neg c13] at H
             have c13b0 : decide ((l0.length : Int) ≤ (rd l1 (ji7))) = false := decide_eq_false c13
             clear c13
             by_cases c14 : 0 ≤ (rd l1 x11_1)
             ·rw [if_pos c14] at H
              have c14b0 : decide (0 ≤ (rd l1 x11_1)) = true := decide_eq_true c14
              clear c14
              by_cases c15 : (rd l1 x11_1) < (l0.length : Int)
              ·rw [if_pos c15] at H
               have c15b0 : decide ((rd l1 x11_1) < (l0.length : Int)) = true := decide_eq_true c15
               clear c15
               by_cases c16 : 0 ≤ (rd l1 (ji7))
               ·rw [if_pos c16] at H
                have c16b0 : decide (0 ≤ (rd l1 (ji7))) = true := decide_eq_true c16
                clear c16
                by_cases c17 : (rd l1 (ji7)) < (l0.length : Int)
                ·rw [if_pos c17] at H
                 have c17b0 : decide ((rd l1 (ji7)) < (l0.length : Int)) = true := decide_eq_true c17
                 clear c17
                 by_cases c18 : ((rd_T53 l0 (rd l1 x11_1)).f1) = ((rd_T53 l0 (rd l1 (ji7))).f0)
                 ·rw [if_pos c18] at H
                  have c18b0 : (((rd_T53 l0 (rd l1 x11_1)).f1) == ((rd_T53 l0 (rd l1 (ji7))).f0)) = true := beq_iff_eq.mpr c18
                  have c18b1 : (((rd_T53 l0 (rd l1 x11_1)).f1) != ((rd_T53 l0 (rd l1 (ji7))).f0)) = false := bne_eq_false_iff_eq.mpr c18
                  clear c18
                  have H' := Aside0.mk H
                  clear H
                  have p166 : 0 ≤ (x11_1 : Int) := of_decide_eq_true (by first | (with_reducible assumption) | assumption)
                  have q166 : x11_1 < (l1.length : Int) := of_decide_eq_true (by first | (with_reducible assumption) | assumption)
                  obtain ⟨ad166, e166, hx166_0⟩ := Kd.at_int HR1.out x11_1 p166 q166
                  cases e166
                  replace p166 := eq_true p166
                  replace q166 := eq_true q166
                  have p167 : 0 ≤ ((ji7) : Int) := of_decide_eq_true (by first | (with_reducible assumption) | assumption)
                  have q167 : (ji7) < (l1.length : Int) := of_decide_eq_true (by first | (with_reducible assumption) | assumption)
                  obtain ⟨ad167, e167, hx167_0⟩ := Kd.at_int HR1.out (ji7) p167 q167
                  obtain rfl : ad166 = ad167 := (by injection e167)
                  replace p167 := eq_true p167
                  replace q167 := eq_true q167
                  have p168 : 0 ≤ ((rd l1 x11_1) : Int) := of_decide_eq_true (by first | (with_reducible assumption) | assumption)
                  have q168 : (rd l1 x11_1) < (l0.length : Int) := of_decide_eq_true (by first | (with_reducible assumption) | assumption)
                  obtain ⟨ad168, e168, hx168_0, hx168_1, hx168_2⟩ := at_T53 HR0.out (rd l1 x11_1) p168 q168
                  cases e168
                  replace p168 := eq_true p168
                  replace q168 := eq_true q168
                  have p169 : 0 ≤ ((rd l1 (ji7)) : Int) := of_decide_eq_true (by first | (with_reducible assumption) | assumption)
                  have q169 : (rd l1 (ji7)) < (l0.length : Int) := of_decide_eq_true (by first | (with_reducible assumption) | assumption)
                  obtain ⟨ad169, e169, hx169_0, hx169_1, hx169_2⟩ := at_T53 HR0.out (rd l1 (ji7)) p169 q169
                  obtain rfl : ad168 = ad169 := (by injection e169)
                  replace p169 := eq_true p169
                  replace q169 := eq_true q169
                  have p170 : 0 ≤ ((rd l1 x11_1) : Int) := of_decide_eq_true (by first | (with_reducible assumption) | assumption)
                  have q170 : (rd l1 x11_1) < (l0.length : Int) := of_decide_eq_true (by first | (with_reducible assumption) | assumption)
                  obtain ⟨ad170, e170, hx170_0, hx170_1, hx170_2⟩ := at_T53 HR0.out (rd l1 x11_1) p170 q170
                  obtain rfl : ad168 = ad170 := (by injection e170)
                  replace p170 := eq_true p170
                  replace q170 := eq_true q170
                  go_wp2
                  repeat (go_quiet (fail); try go_wp2)
                  go_roundg k1
                  case measure => have := HK1.out; omega
                  case rel => exact ⟨(wrap64 (x5_1 + ((rd_T53 l0 (rd l1 x11_1)).f2))), (wrap64 (x11_1 + 1)), (by first | rfl | (simp; done) | (simp [*]; done)), (by first | rfl | (simp; done) | (simp [*]; done)), H', ⟨by have := HK1.out; omega⟩, by repeat (first | exact Drawn0.refl _ | apply Drawn0.step)⟩
                 ·rw [if_neg c18] at H
                  have c18b0 : (((rd_T53 l0 (rd l1 x11_1)).f1) == ((rd_T53 l0 (rd l1 (ji7))).f0)) = false := beq_eq_false_iff_ne.mpr c18
                  have c18b1 : (((rd_T53 l0 (rd l1 x11_1)).f1) != ((rd_T53 l0 (rd l1 (ji7))).f0)) = true := bne_iff_ne.mpr c18
                  obtain rfl := Option.some.inj H
                  have p166 : 0 ≤ (x11_1 : Int) := of_decide_eq_true (by first | (with_reducible assumption) | assumption)
                  have q166 : x11_1 < (l1.length : Int) := of_decide_eq_true (by first | (with_reducible assumption) | assumption)
                  obtain ⟨ad166, e166, hx166_0⟩ := Kd.at_int HR1.out x11_1 p166 q166
                  cases e166
                  replace p166 := eq_true p166
                  replace q166 := eq_true q166
                  have p167 : 0 ≤ ((ji7) : Int) := of_decide_eq_true (by first | (with_reducible assumption) | assumption)
                  have q167 : (ji7) < (l1.length : Int) := of_decide_eq_true (by first | (with_reducible assumption) | assumption)
                  obtain ⟨ad167, e167, hx167_0⟩ := Kd.at_int HR1.out (ji7) p167 q167
                  obtain rfl : ad166 = ad167 := (by injection e167)
                  replace p167 := eq_true p167
                  replace q167 := eq_true q167
                  have p168 : 0 ≤ ((rd l1 x11_1) : Int) := of_decide_eq_true (by first | (with_reducible assumption) | assumption)
                  have q168 : (rd l1 x11_1) < (l0.length : Int) := of_decide_eq_true (by first | (with_reducible assumption) | assumption)
                  obtain ⟨ad168, e168, hx168_0, hx168_1, hx168_2⟩ := at_T53 HR0.out (rd l1 x11_1) p168 q168
                  cases e168
                  replace p168 := eq_true p168
                  replace q168 := eq_true q168
                  have p169 : 0 ≤ ((rd l1 (ji7)) : Int) := of_decide_eq_true (by first | (with_reducible assumption) | assumption)
                  have q169 : (rd l1 (ji7)) < (l0.length : Int) := of_decide_eq_true (by first | (with_reducible assumption) | assumption)
                  obtain ⟨ad169, e169, hx169_0, hx169_1, hx169_2⟩ := at_T53 HR0.out (rd l1 (ji7)) p169 q169
                  obtain rfl : ad168 = ad169 := (by injection e169)
                  replace p169 := eq_true p169
                  replace q169 := eq_true q169
                  go_wp2
                  repeat (go_quiet (fail); try go_wp2)
                  go_ret
                  exact ⟨by first | rfl | (simp; done) | (simp only [← hji7] <;> (first | rfl | simp)) | (simp [*]; done), by repeat (first | exact Drawn0.refl _ | apply Drawn0.step)⟩
                ·rw [if_neg c17] at H
                 exact absurd H (by simp)
               ·rw [if_neg c16] at H
                exact absurd H (by simp)
              ·rw [if_neg c15] at H
               exact absurd H (by simp)
             ·rw [if_neg c14] at H
              exact absurd H (by simp)
        ·rw [if_neg c9] at H
         exact absurd H (by simp)
       ·rw [if_neg c8] at H
        exact absurd H (by simp)
     ·rw [if_neg c5] at H
      exact absurd H (by simp)
    ·rw [if_neg c4] at H
     exact absurd H (by simp)
   ·rw [if_neg c3] at H
    have c3b0 : decide (x11_1 < (l1.length : Int)) = false := decide_eq_false c3
    clear c3
    obtain rfl := Option.some.inj H
    go_wp2
    repeat (go_quiet (fail); try go_wp2)
    go_ret
    exact ⟨by first | rfl | (simp; done) | (simp [*]; done), by repeat (first | exact Drawn0.refl _ | apply Drawn0.step)⟩

/-! ### proof_cycle: function 20 -/
def proof_cycle.l0 : Nat → List (S53) → List Int → List Int → List Int → Int → Int → Int → Int → List (S53) → List (List Int) → Option (List Int × Bool)
 | 0, _, _, _, _, _, _, _, _, _, _ => none
 | k + 1, x6, x7, x8, x14, x15, x16, x172000, x172001, x172002, x172003 => if x16 < x15 then (if 0 ≤ x16 then (if x16 < (x14.length : Int) then ((formula_Bound.f k x172000 x172001 x172002 x172003 (rd x14 x16)).bind fun bt174 => (if bt174.2.2.2 = true then (if x6.length < 5864062014805 then (if x7.length < 17592186044416 then (if x8.length < 17592186044416 then (proof_cycle.l0 k (x6 ++ [(⟨bt174.1, bt174.2.1, bt174.2.2.1⟩ : S53)]) (x7 ++ [x16]) (x8 ++ [wrap64 (-(rd x14 x16))]) x14 x15 (wrap64 (x16 + 1)) x172000 x172001 x172002 x172003) else (none)) else (none)) else (none)) else (some (([] : List Int), false)))) else (none)) else (none)) else ((diff_Cycle.f k x6 x7).bind fun t188 => (if t188 = true then ((formula_Normal.f k x8).bind fun bt189 => (some (bt189.1, bt189.2))) else (some (([] : List Int), false))))
def proof_cycle.f (k : Nat) (a0_0 : Int) (a0_1 : Int) (l0_2 : List (S53)) (l0_3 : List (List Int)) (a1_0 : Int) (a1_1 : Int) (l1_2 : List Int) (a1_3 : Int) (a1_4 : Int) (a1_5 : Int) : Option (List Int × Bool) := proof_cycle.l0 k ([] : List (S53)) ([] : List Int) ([] : List Int) l1_2 (l1_2.length : Int) 0 a0_0 a0_1 l0_2 l0_3
theorem proof_cycle.mono_l : ∀ k, (∀ y0 y1 y2 y3 y4 y5 y6 y7 y8 y9, LeO (proof_cycle.l0 k y0 y1 y2 y3 y4 y5 y6 y7 y8 y9) (proof_cycle.l0 (k + 1) y0 y1 y2 y3 y4 y5 y6 y7 y8 y9))
 | 0 => fun _ _ _ _ _ _ _ _ _ _ r h => by simp [proof_cycle.l0] at h
 | k + 1 => by
  have ih0 := proof_cycle.mono_l k
  ·intro y0 y1 y2 y3 y4 y5 y6 y7 y8 y9
   unfold proof_cycle.l0
   repeat' first
   | (with_reducible exact ih0 _ _ _ _ _ _ _ _ _ _)
   | (with_reducible exact diff_Cycle.mono _ _ _)
   | (with_reducible exact formula_Bound.mono _ _ _ _ _ _)
   | (with_reducible exact formula_Normal.mono _ _)
   | (with_reducible exact LeO.refl _)
   | (with_reducible exact LeO.none _)
   | (with_reducible refine LeO.ite ?_ ?_)
   | (with_reducible refine LeO.bind ?_ (fun _ => ?_))
   | exact ih0 _ _ _ _ _ _ _ _ _ _
   | exact diff_Cycle.mono _ _ _
   | exact formula_Bound.mono _ _ _ _ _ _
   | exact formula_Normal.mono _ _
   | exact LeO.none _
   | refine LeO.ite ?_ ?_
   | refine LeO.bind ?_ (fun _ => ?_)
theorem proof_cycle.mono : ∀ a0 a1 a2 a3 a4 a5 a6 a7 a8 a9 k, LeO (proof_cycle.f k a0 a1 a2 a3 a4 a5 a6 a7 a8 a9) (proof_cycle.f (k + 1) a0 a1 a2 a3 a4 a5 a6 a7 a8 a9) := by
 intro a0 a1 a2 a3 a4 a5 a6 a7 a8 a9 k
 have ih0 := proof_cycle.mono_l k
 unfold proof_cycle.f
 repeat' first
   | (with_reducible exact ih0 _ _ _ _ _ _ _ _ _ _)
   | (with_reducible exact diff_Cycle.mono _ _ _)
   | (with_reducible exact formula_Bound.mono _ _ _ _ _ _)
   | (with_reducible exact formula_Normal.mono _ _)
   | (with_reducible exact LeO.refl _)
   | (with_reducible exact LeO.none _)
   | (with_reducible refine LeO.ite ?_ ?_)
   | (with_reducible refine LeO.bind ?_ (fun _ => ?_))
   | exact ih0 _ _ _ _ _ _ _ _ _ _
   | exact diff_Cycle.mono _ _ _
   | exact formula_Bound.mono _ _ _ _ _ _
   | exact formula_Normal.mono _ _
   | exact LeO.none _
   | refine LeO.ite ?_ ?_
   | refine LeO.bind ?_ (fun _ => ?_)
set_option maxHeartbeats 8000000 in
set_option maxRecDepth 100000 in
theorem proof_cycle.calls (k : Nat) (a0_0 : Int) (a0_1 : Int) (A0_2 : Option Addr) (c0_2 : Nat) (l0_2 : List (S53)) (A0_3 : Option Addr) (c0_3 : Nat) (l0_3 : List (List Int)) (a1_0 : Int) (a1_1 : Int) (A1_2 : Option Addr) (c1_2 : Nat) (l1_2 : List Int) (a1_3 : Int) (a1_4 : Int) (a1_5 : Int) (r1 : List Int) (r2 : Bool) (w : World) (hr0_2 : Kd.C k53 w A0_2 l0_2.length l0_2) (hc0_2 : l0_2.length ≤ c0_2) (hr0_3 : Kd.C (Kd.slice 3 (Kd.int .i64)) w A0_3 l0_3.length l0_3) (hc0_3 : l0_3.length ≤ c0_3) (hr1_2 : Kd.C (Kd.int .i64) w A1_2 l1_2.length l1_2) (hc1_2 : l1_2.length ≤ c1_2) (h : proof_cycle.f k a0_0 a0_1 l0_2 l0_3 a1_0 a1_1 l1_2 a1_3 a1_4 a1_5 = some (r1, r2)) :
  Calls Tryd.prog 20 #[.agg #[.int .i64 a0_0, .int .i64 a0_1, .slice A0_2 l0_2.length c0_2, .slice A0_3 l0_3.length c0_3], .agg #[.int .i64 a1_0, .int .i64 a1_1, .slice A1_2 l1_2.length c1_2, .int .i64 a1_3, .int .i64 a1_4, .int .i64 a1_5]] w fun e w' => ∃ v0_ : Value, e = .returned (.tuple #[v0_, .bool r2]) ∧ Kd.R (Kd.int .i64) 3 w' w.heap.size (fun _ => True) v0_ r1 ∧ Below w.heap.size w w' := by
 have hu32 := Tryd.underlying32
 have hu28 := Tryd.underlying28
 have hu53 := Tryd.underlying53
 have HR0_2 := Aside0.mk hr0_2
 have HC0_2 := Aside0.mk hc0_2
 clear hr0_2 hc0_2
 have HR0_3 := Aside0.mk hr0_3
 have HC0_3 := Aside0.mk hc0_3
 clear hr0_3 hc0_3
 have HR1_2 := Aside0.mk hr1_2
 have HC1_2 := Aside0.mk hc1_2
 clear hr1_2 hc1_2
 have HB := Aside0.mk (Below.refl w.heap.size w)
 have H : (proof_cycle.l0 k ([] : List (S53)) ([] : List Int) ([] : List Int) l1_2 (l1_2.length : Int) 0 a0_0 a0_1 l0_2 l0_3) = some (r1, r2) := h
 clear h
 have H' := Aside0.mk H
 clear H
 go_enter Tryd.func20, Tryd.ntmps20
 go_wp2_with (first | ((with_reducible refine gate_dst (N := 2) rfl ?_); refine box_ev (N := 2) rfl (cs := #[.int .i64 a0_0, .int .i64 a0_1, .slice A0_2 l0_2.length c0_2, .slice A0_3 l0_3.length c0_3]) (t := 32) ?_; intro gb171 hg w3 hbox hb; have n0_ := Aside0.mk (below_step HB.l hb); have n1_ := Aside0.mk (hbox); have n2_ := Aside0.mk ((by rw [hg]; exact (below_size HB.l) : w.heap.size ≤ gb171)); have n3_ := Aside0.mk ((by rw [hg]; exact (below_size HB.l) : w.heap.size ≤ gb171)); clear HB; revert n0_ n1_ n2_ n3_; intro HB BK171 GW171 GE171; clear hb hbox hg) | ((with_reducible refine gate_dst (N := 3) rfl ?_); refine box_ev (N := 3) rfl (cs := #[.int .i64 a1_0, .int .i64 a1_1, .slice A1_2 l1_2.length c1_2, .int .i64 a1_3, .int .i64 a1_4, .int .i64 a1_5]) (t := 28) ?_; intro gb172 hg w4 hbox hb; have n0_ := Aside0.mk (blk_below BK171.b hb); have n1_ := Aside0.mk (below_step HB.l hb); have n2_ := Aside0.mk (hbox); have n3_ := Aside0.mk ((by rw [hg]; exact (below_size HB.l) : w.heap.size ≤ gb172)); have n4_ := Aside0.mk ((by rw [hg]; exact (below_size HB.l) : w.heap.size ≤ gb172)); have n5_ := Aside0.mk ((by rw [hg]; exact Nat.ne_of_lt (blk_lt BK171.b) : gb171 ≠ gb172)); have n6_ := Aside0.mk ((by rw [hg]; exact Nat.ne_of_gt (blk_lt BK171.b) : gb172 ≠ gb171)); clear BK171 HB; revert n0_ n1_ n2_ n3_ n4_ n5_ n6_; intro BK171 HB BK172 GW172 GE172 NB171_172 NB172_171; clear hb hbox hg; have hnb5 := NB172_171.out; have hnc5 := NB171_172.out; have hcz6_0 := BK172.cl 0 (.int .i64 a1_0); have hcz6_1 := BK172.cl 1 (.int .i64 a1_1); have hcz6_2 := BK172.cl 2 (.slice A1_2 l1_2.length c1_2); have hcz6_3 := BK172.cl 3 (.int .i64 a1_3); have hcz6_4 := BK172.cl 4 (.int .i64 a1_4); have hcz6_5 := BK172.cl 5 (.int .i64 a1_5); have hfz6_0 := BK172.fz 0; have hfz6_1 := BK172.fz 1; have hfz6_2 := BK172.fz 2; have hfz6_3 := BK172.fz 3; have hfz6_4 := BK172.fz 4; have hfz6_5 := BK172.fz 5))
 go_loopg [6, 7, 8, 16] k (fun kq v6 v7 v8 v16 w' => ∃ (x6_1 : List (S53)) (x7_1 : List Int) (x8_1 : List Int) (x16_1 : Int), v16 = .int .i64 x16_1 ∧ Aside0 (proof_cycle.l0 kq x6_1 x7_1 x8_1 l1_2 (l1_2.length : Int) x16_1 a0_0 a0_1 l0_2 l0_3 = some (r1, r2)) ∧ Aside0 (kq ≤ k) ∧ Aside0 (Kd.R k53 53 w' w.heap.size (fun _ => True) v6 x6_1) ∧ Aside0 (Kd.R (Kd.int .i64) 3 w' w.heap.size (fun k_ => some k_ ≠ (v8 : Value).ownBlock) v7 x7_1) ∧ Aside0 (Kd.R (Kd.int .i64) 3 w' w.heap.size (fun k_ => some k_ ≠ (v7 : Value).ownBlock) v8 x8_1) ∧ Aside0 (w'.heap[gb171]? = some (.cells #[.int .i64 a0_0, .int .i64 a0_1, (.slice A0_2 l0_2.length c0_2), (.slice A0_3 l0_3.length c0_3)] 32 (0, 0))) ∧ Aside0 (w'.heap[gb172]? = some (.cells #[.int .i64 a1_0, .int .i64 a1_1, (.slice A1_2 l1_2.length c1_2), .int .i64 a1_3, .int .i64 a1_4, .int .i64 a1_5] 28 (0, 0))) ∧ Aside0 (Below w.heap.size w w'))
 case atStart => exact ⟨(([] : List (S53))), (([] : List Int)), (([] : List Int)), (0), (by first | rfl | (simp; done) | (simp [*]; done)), H', ⟨Nat.le_refl _⟩, ⟨by first | exact Kd.R_nil _ _ _ _ _ | exact Kd.N_nil _ _ _ _ _ | exact Kd.V_nil _ _ _ _ _ | exact Kd.Q_nil _ _ _ _ _ | exact Kd.S_nil _ _ _ _ _⟩, ⟨by first | exact Kd.R_nil _ _ _ _ _ | exact Kd.N_nil _ _ _ _ _ | exact Kd.V_nil _ _ _ _ _ | exact Kd.Q_nil _ _ _ _ _ | exact Kd.S_nil _ _ _ _ _⟩, ⟨by first | exact Kd.R_nil _ _ _ _ _ | exact Kd.N_nil _ _ _ _ _ | exact Kd.V_nil _ _ _ _ _ | exact Kd.Q_nil _ _ _ _ _ | exact Kd.S_nil _ _ _ _ _⟩, ⟨BK171.b⟩, ⟨BK172.b⟩, ⟨HB.l⟩⟩
 case round => as_aux_lemma =>
  clear H'
  try clear c1
  try clear c2
  try clear p2
  try clear c5
  try clear hcz6_0
  try clear hcz6_1
  try clear hcz6_2
  try clear hcz6_3
  try clear hcz6_4
  try clear hcz6_5
  try clear hfz6_0
  try clear hfz6_1
  try clear hfz6_2
  try clear hfz6_3
  try clear hfz6_4
  try clear hfz6_5
  obtain ⟨x6_1, x7_1, x8_1, x16_1, rfl, HA, HK1, HO_6, HO_7, HO_8, BK171, BK172, HB⟩ := hrel
  cases gk with
  | zero => exact absurd HA.out (by simp [proof_cycle.l0])
  | succ k1 =>
   have H := HA.out
   clear HA
   simp only [proof_cycle.l0] at H
   by_cases c7 : x16_1 < (l1_2.length : Int)
   ·rw [if_pos c7] at H
    have c7b0 : decide (x16_1 < (l1_2.length : Int)) = true := decide_eq_true c7
    clear c7
    by_cases c8 : 0 ≤ x16_1
    ·rw [if_pos c8] at H
     have c8b0 : decide (0 ≤ x16_1) = true := decide_eq_true c8
     clear c8
     by_cases c9 : x16_1 < (l1_2.length : Int)
     ·rw [if_pos c9] at H
      have c9b0 : decide (x16_1 < (l1_2.length : Int)) = true := decide_eq_true c9
      clear c9
      replace H := Option.bind_eq_some_iff.mp H
      obtain ⟨⟨t174, t175, t176, t177⟩, A100, H⟩ := H
      replace H : (if t177 = true then (if x6_1.length < 5864062014805 then (if x7_1.length < 17592186044416 then (if x8_1.length < 17592186044416 then (proof_cycle.l0 k1 (x6_1 ++ [(⟨t174, t175, t176⟩ : S53)]) (x7_1 ++ [x16_1]) (x8_1 ++ [wrap64 (-(rd l1_2 x16_1))]) l1_2 (l1_2.length : Int) (wrap64 (x16_1 + 1)) a0_0 a0_1 l0_2 l0_3) else (none)) else (none)) else (none)) else (some (([] : List Int), false))) = some (r1, r2) := H
      have A10 := Aside0.mk A100
      clear A100
      by_cases c11 : t177 = true
      ·subst c11
       have H1 : (if x6_1.length < 5864062014805 then (if x7_1.length < 17592186044416 then (if x8_1.length < 17592186044416 then (proof_cycle.l0 k1 (x6_1 ++ [(⟨t174, t175, t176⟩ : S53)]) (x7_1 ++ [x16_1]) (x8_1 ++ [wrap64 (-(rd l1_2 x16_1))]) l1_2 (l1_2.length : Int) (wrap64 (x16_1 + 1)) a0_0 a0_1 l0_2 l0_3) else (none)) else (none)) else (none)) = some (r1, r2) := by rw [if_pos rfl] at H; exact H
       clear H
       have H := H1
       clear H1
       by_cases c12 : x6_1.length < 5864062014805
       ·rw [if_pos c12] at H
        have LMc12 := Aside0.mk c12
        clear c12
        obtain ⟨y179, hy179⟩ : ∃ y_ : List (S53), y_ = (x6_1 ++ [(⟨t174, t175, t176⟩ : S53)]) := ⟨_, rfl⟩
        replace H : (if x7_1.length < 17592186044416 then (if x8_1.length < 17592186044416 then (proof_cycle.l0 k1 y179 (x7_1 ++ [x16_1]) (x8_1 ++ [wrap64 (-(rd l1_2 x16_1))]) l1_2 (l1_2.length : Int) (wrap64 (x16_1 + 1)) a0_0 a0_1 l0_2 l0_3) else (none)) else (none)) = some (r1, r2) := by first | (rw [hy179]; with_reducible exact H) | (have H2_ := (Option.bind_some _ _).symm.trans H; rw [hy179]; with_reducible exact H2_) | (have H2_ := (Option.bind_some _ _).symm.trans H; with_reducible exact H2_) | with_reducible exact H | (rw [hy179]; exact H) | exact H
        have Ny179 := Aside0.mk hy179
        clear hy179
        by_cases c13 : x7_1.length < 17592186044416
        ·rw [if_pos c13] at H
         have LMc13 := Aside0.mk c13
         clear c13
         obtain ⟨y182, hy182⟩ : ∃ y_ : List Int, y_ = (x7_1 ++ [x16_1]) := ⟨_, rfl⟩
         replace H : (if x8_1.length < 17592186044416 then (proof_cycle.l0 k1 y179 y182 (x8_1 ++ [wrap64 (-(rd l1_2 x16_1))]) l1_2 (l1_2.length : Int) (wrap64 (x16_1 + 1)) a0_0 a0_1 l0_2 l0_3) else (none)) = some (r1, r2) := by first | (rw [hy182]; with_reducible exact H) | (have H2_ := (Option.bind_some _ _).symm.trans H; rw [hy182]; with_reducible exact H2_) | (have H2_ := (Option.bind_some _ _).symm.trans H; with_reducible exact H2_) | with_reducible exact H | (rw [hy182]; exact H) | exact H
         have Ny182 := Aside0.mk hy182
         clear hy182
         by_cases c14 : x8_1.length < 17592186044416
         ·rw [if_pos c14] at H
          have LMc14 := Aside0.mk c14
          clear c14
          obtain ⟨y185, hy185⟩ : ∃ y_ : List Int, y_ = (x8_1 ++ [wrap64 (-(rd l1_2 x16_1))]) := ⟨_, rfl⟩
          replace H : (proof_cycle.l0 k1 y179 y182 y185 l1_2 (l1_2.length : Int) (wrap64 (x16_1 + 1)) a0_0 a0_1 l0_2 l0_3) = some (r1, r2) := by first | (rw [hy185]; with_reducible exact H) | (have H2_ := (Option.bind_some _ _).symm.trans H; rw [hy185]; with_reducible exact H2_) | (have H2_ := (Option.bind_some _ _).symm.trans H; with_reducible exact H2_) | with_reducible exact H | (rw [hy185]; exact H) | exact H
          have Ny185 := Aside0.mk hy185
          clear hy185
          have H' := Aside0.mk H
          clear H
          have p173 : 0 ≤ (x16_1 : Int) := of_decide_eq_true (by first | (with_reducible assumption) | assumption)
          have q173 : x16_1 < (l1_2.length : Int) := of_decide_eq_true (by first | (with_reducible assumption) | assumption)
          obtain ⟨ad173, e173, hx173_0⟩ := Kd.at_int HR1_2.out x16_1 p173 q173
          cases e173
          replace hx173_0 := (HB.out.cell (World.block_lt_of_cell? w _ hx173_0)).trans hx173_0
          replace p173 := eq_true p173
          replace q173 := eq_true q173
          have hnb15 := NB171_172.out
          have hnc15 := NB172_171.out
          have hcz16_0 := BK171.cl 0 (.int .i64 a0_0)
          have hcz16_1 := BK171.cl 1 (.int .i64 a0_1)
          have hcz16_2 := BK171.cl 2 (.slice A0_2 l0_2.length c0_2)
          have hcz16_3 := BK171.cl 3 (.slice A0_3 l0_3.length c0_3)
          have hfz16_0 := BK171.fz 0
          have hfz16_1 := BK171.fz 1
          have hfz16_2 := BK171.fz 2
          have hfz16_3 := BK171.fz 3
          go_wp2_with (first | ((with_reducible refine gate_callee (f := 25) rfl ?_); refine goesM_ Tryd.func25 #[.agg #[.int .i64 a0_0, .int .i64 a0_1, .slice A0_2 l0_2.length c0_2, .slice A0_3 l0_3.length c0_3], .int .i64 (rd l1_2 x16_1)] ?_; (with_reducible refine (formula_Bound.calls k1 a0_0 a0_1 _ _ l0_2 _ _ l0_3 (rd l1_2 x16_1) t174 t175 t176 true _ ?side1 ?side2 ?side3 ?side4 A10.out).mono ?_); (case side1 => exact HR0_2.c HB.l); (case side2 => exact HC0_2.out); (case side3 => exact HR0_3.c HB.l); (case side4 => exact HC0_3.out); rintro e w17 ⟨rfl, hb⟩; refine ⟨_, rfl, ?_⟩; have n0_ := Aside0.mk (Kd.R_below HO_6.r hb); have n1_ := Aside0.mk (Kd.R_below HO_7.r hb); have n2_ := Aside0.mk (Kd.R_below HO_8.r hb); have n3_ := Aside0.mk (blk_below BK171.b hb); have n4_ := Aside0.mk (blk_below BK172.b hb); have n5_ := Aside0.mk (below_step HB.l hb); clear HO_6 HO_7 HO_8 BK171 BK172 HB; revert n0_ n1_ n2_ n3_ n4_ n5_; intro HO_6 HO_7 HO_8 BK171 BK172 HB; (try clear hb); (try clear hb2); (try clear hk); (try clear hi)) | ((with_reducible refine gate_dst (N := 11) rfl ?_); refine box_ev (N := 11) rfl (cs := #[.int .i64 0, .int .i64 0, .int .i64 0]) (t := 53) ?_; intro gb178 hg w18 hbox hb; have n0_ := Aside0.mk (Kd.R_below (Kd.R_elderB HO_6.r gb178 (Nat.le_of_eq hg.symm)) hb); have n1_ := Aside0.mk (Kd.R_below HO_7.r hb); have n2_ := Aside0.mk (Kd.R_below HO_8.r hb); have n3_ := Aside0.mk (blk_below BK171.b hb); have n4_ := Aside0.mk (blk_below BK172.b hb); have n5_ := Aside0.mk (below_step HB.l hb); have n6_ := Aside0.mk (hbox); have n7_ := Aside0.mk ((by rw [hg]; exact (below_size HB.l) : w.heap.size ≤ gb178)); have n8_ := Aside0.mk ((by rw [hg]; exact (below_size HB.l) : w.heap.size ≤ gb178)); have n9_ := Aside0.mk ((by rw [hg]; exact Nat.ne_of_lt (blk_lt BK171.b) : gb171 ≠ gb178)); have n10_ := Aside0.mk ((by rw [hg]; exact Nat.ne_of_gt (blk_lt BK171.b) : gb178 ≠ gb171)); have n11_ := Aside0.mk ((by rw [hg]; exact Nat.ne_of_lt (blk_lt BK172.b) : gb172 ≠ gb178)); have n12_ := Aside0.mk ((by rw [hg]; exact Nat.ne_of_gt (blk_lt BK172.b) : gb178 ≠ gb172)); clear HO_6 HO_7 HO_8 BK171 BK172 HB; revert n0_ n1_ n2_ n3_ n4_ n5_ n6_ n7_ n8_ n9_ n10_ n11_ n12_; intro HO_6 HO_7 HO_8 BK171 BK172 HB BK178 GW178 GE178 NB171_178 NB178_171 NB172_178 NB178_172; clear hb hbox hg; have hnb19 := NB178_171.out; have hnc19 := NB171_178.out; have hnb20 := NB178_172.out; have hnc20 := NB172_178.out; have hcz21_0 := BK178.cl 0 (.int .i64 0); have hcz21_1 := BK178.cl 1 (.int .i64 0); have hcz21_2 := BK178.cl 2 (.int .i64 0); have hfz21_0 := BK178.fz 0; have hfz21_1 := BK178.fz 1; have hfz21_2 := BK178.fz 2) | ((with_reducible refine gate_builtin (b := .append) (xs := #[.tmp 29, .tmp 31]) rfl ?_); at_builtin; refine Kd.R_append k53 (w0 := w) w.heap.size rfl (.tmp 29) (.tmp 31) 29 53 (.agg #[(.int .i64 0), (.int .i64 0), (.int .i64 0)]) 24 rfl Tryd.underlying29 info53 rfl (by decide) (by omega) u6 x6_1 (⟨t174, t175, t176⟩ : S53) [.int .i64 t174, .int .i64 t175, .int .i64 t176] (fun k_ => k_ ≠ gb178) (fun _ => False) rfl (by first | (go_simp; done) | (go_simp; rfl)) ?aP (fun _ hk => hk.elim) ?aF ?aO ?aB ?aS ?aL ?_; (case aP => exact k53_mkM _ _ _ (⟨t174, t175, t176⟩ : S53)); (case aB => exact HB.l); (case aF => exact (fun k_ hk => Kd.freshB (g := gb178) (o := .cells #[.int .i64 t174, .int .i64 t175, .int .i64 t176] 53 (0, 0)) (by (with_reducible repeat (first | refine blk_drewN ?_ _ | refine blk_drew ?_ | refine blk_alloc ?_ _)); refine blk_put (cs := #[.int .i64 t174, .int .i64 t175, .int .i64 0]) ?_ 2 _ rfl; (with_reducible repeat (first | refine blk_drewN ?_ _ | refine blk_drew ?_ | refine blk_alloc ?_ _)); refine blk_put (cs := #[.int .i64 t174, .int .i64 0, .int .i64 0]) ?_ 1 _ rfl; (with_reducible repeat (first | refine blk_drewN ?_ _ | refine blk_drew ?_ | refine blk_alloc ?_ _)); refine blk_put (cs := #[.int .i64 0, .int .i64 0, .int .i64 0]) ?_ 0 _ rfl; (with_reducible repeat (first | refine blk_drewN ?_ _ | refine blk_drew ?_ | refine blk_alloc ?_ _)); exact BK178.out) k_ hk)); (case aO => exact (by (with_reducible repeat (first | apply Kd.R_alloc | apply Kd.R_drewN | apply Kd.R_drew)); exact Kd.R_mono (Kd.R_far (p := ⟨gb178, 2, none⟩) (Kd.R_far (p := ⟨gb178, 1, none⟩) (Kd.R_far (p := ⟨gb178, 0, none⟩) (Kd.R_mono HO_6.out (fun k_ hk => (⟨hk, hk.2⟩ : _ ∧ k_ ≠ gb178))) (fun _ hk => hk.2) (.int .i64 t174)) (fun _ hk => hk.2) (.int .i64 t175)) (fun _ hk => hk.2) (.int .i64 t176)) (fun _ hk => hk.1.2))); (case aS => exact (below_size HB.l)); (case aL => have := LMc12.out; omega); intro v180 w22 ho hb hg hat; rw [← Ny179.out] at ho; have n0_ := Aside0.mk (Kd.R_over' (by (with_reducible repeat (first | apply Kd.R_alloc | apply Kd.R_drewN | apply Kd.R_drew)); exact (Kd.R_mono (Kd.R_far (p := ⟨gb178, 2, none⟩) (Kd.R_far (p := ⟨gb178, 1, none⟩) (Kd.R_far (p := ⟨gb178, 0, none⟩) (Kd.R_types HO_7.out BK178.out (by decide)) (fun _ hk => hk.2) (.int .i64 t174)) (fun _ hk => hk.2) (.int .i64 t175)) (fun _ hk => hk.2) (.int .i64 t176)) (fun _ h_ => h_.1))) (Kd.R_typed (by (with_reducible repeat (first | apply Kd.R_alloc | apply Kd.R_drewN | apply Kd.R_drew)); exact (Kd.R_mono (Kd.R_far (p := ⟨gb178, 2, none⟩) (Kd.R_far (p := ⟨gb178, 1, none⟩) (Kd.R_far (p := ⟨gb178, 0, none⟩) (Kd.R_mono HO_6.out (fun k_ hk => (⟨hk, hk.2⟩ : _ ∧ k_ ≠ gb178))) (fun _ hk => hk.2) (.int .i64 t174)) (fun _ hk => hk.2) (.int .i64 t175)) (fun _ hk => hk.2) (.int .i64 t176)) (fun _ h_ => h_.1)))) (by decide) hg); have n1_ := Aside0.mk (Kd.R_over' (by (with_reducible repeat (first | apply Kd.R_alloc | apply Kd.R_drewN | apply Kd.R_drew)); exact (Kd.R_mono (Kd.R_far (p := ⟨gb178, 2, none⟩) (Kd.R_far (p := ⟨gb178, 1, none⟩) (Kd.R_far (p := ⟨gb178, 0, none⟩) (Kd.R_types HO_8.out BK178.out (by decide)) (fun _ hk => hk.2) (.int .i64 t174)) (fun _ hk => hk.2) (.int .i64 t175)) (fun _ hk => hk.2) (.int .i64 t176)) (fun _ h_ => h_.1))) (Kd.R_typed (by (with_reducible repeat (first | apply Kd.R_alloc | apply Kd.R_drewN | apply Kd.R_drew)); exact (Kd.R_mono (Kd.R_far (p := ⟨gb178, 2, none⟩) (Kd.R_far (p := ⟨gb178, 1, none⟩) (Kd.R_far (p := ⟨gb178, 0, none⟩) (Kd.R_mono HO_6.out (fun k_ hk => (⟨hk, hk.2⟩ : _ ∧ k_ ≠ gb178))) (fun _ hk => hk.2) (.int .i64 t174)) (fun _ hk => hk.2) (.int .i64 t175)) (fun _ hk => hk.2) (.int .i64 t176)) (fun _ h_ => h_.1)))) (by decide) hg); have n2_ := Aside0.mk (blk_grown (g := gb171) (o := .cells #[.int .i64 a0_0, .int .i64 a0_1, .slice A0_2 l0_2.length c0_2, .slice A0_3 l0_3.length c0_3] 32 (0, 0)) (by (with_reducible repeat (first | refine blk_drewN ?_ _ | refine blk_drew ?_ | refine blk_alloc ?_ _)); refine blk_far ?_ NB171_178.out _; (with_reducible repeat (first | refine blk_drewN ?_ _ | refine blk_drew ?_ | refine blk_alloc ?_ _)); refine blk_far ?_ NB171_178.out _; (with_reducible repeat (first | refine blk_drewN ?_ _ | refine blk_drew ?_ | refine blk_alloc ?_ _)); refine blk_far ?_ NB171_178.out _; (with_reducible repeat (first | refine blk_drewN ?_ _ | refine blk_drew ?_ | refine blk_alloc ?_ _)); exact BK171.out) hg (Kd.R_ne HO_6.out BK171.out (by decide))); have n3_ := Aside0.mk (blk_grown (g := gb172) (o := .cells #[.int .i64 a1_0, .int .i64 a1_1, .slice (some ad173) l1_2.length c1_2, .int .i64 a1_3, .int .i64 a1_4, .int .i64 a1_5] 28 (0, 0)) (by (with_reducible repeat (first | refine blk_drewN ?_ _ | refine blk_drew ?_ | refine blk_alloc ?_ _)); refine blk_far ?_ NB172_178.out _; (with_reducible repeat (first | refine blk_drewN ?_ _ | refine blk_drew ?_ | refine blk_alloc ?_ _)); refine blk_far ?_ NB172_178.out _; (with_reducible repeat (first | refine blk_drewN ?_ _ | refine blk_drew ?_ | refine blk_alloc ?_ _)); refine blk_far ?_ NB172_178.out _; (with_reducible repeat (first | refine blk_drewN ?_ _ | refine blk_drew ?_ | refine blk_alloc ?_ _)); exact BK172.out) hg (Kd.R_ne HO_6.out BK172.out (by decide))); have n4_ := Aside0.mk (blk_grown (g := gb178) (o := .cells #[.int .i64 t174, .int .i64 t175, .int .i64 t176] 53 (0, 0)) (by (with_reducible repeat (first | refine blk_drewN ?_ _ | refine blk_drew ?_ | refine blk_alloc ?_ _)); refine blk_put (cs := #[.int .i64 t174, .int .i64 t175, .int .i64 0]) ?_ 2 _ rfl; (with_reducible repeat (first | refine blk_drewN ?_ _ | refine blk_drew ?_ | refine blk_alloc ?_ _)); refine blk_put (cs := #[.int .i64 t174, .int .i64 0, .int .i64 0]) ?_ 1 _ rfl; (with_reducible repeat (first | refine blk_drewN ?_ _ | refine blk_drew ?_ | refine blk_alloc ?_ _)); refine blk_put (cs := #[.int .i64 0, .int .i64 0, .int .i64 0]) ?_ 0 _ rfl; (with_reducible repeat (first | refine blk_drewN ?_ _ | refine blk_drew ?_ | refine blk_alloc ?_ _)); exact BK178.out) hg (Kd.R_away HO_6.out (fun _ hk => hk.2))); have n5_ := Aside0.mk (hb); have n6_ := Aside0.mk (ho); clear HO_7 HO_8 BK171 BK172 BK178 HB HO_6; revert n0_ n1_ n2_ n3_ n4_ n5_ n6_; intro HO_7 HO_8 BK171 BK172 BK178 HB HO181; clear ho hb hg hat) | ((with_reducible refine gate_builtin (b := .append) (xs := #[.tmp 33, .tmp 35]) rfl ?_); at_builtin; refine Kd.R_append (Kd.int .i64) (w0 := w) w.heap.size rfl (.tmp 33) (.tmp 35) 26 3 (.int .i64 0) 8 rfl Tryd.underlying26 info3 rfl (by decide) (by omega) u7 x7_1 x16_1 [.int .i64 x16_1] (fun k_ => some k_ ≠ (u8 : Value).ownBlock) (fun _ => False) rfl rfl ?aP (fun _ hk => hk.elim) ?aF ?aO ?aB ?aS ?aL ?_; (case aP => exact rfl); (case aB => exact HB.l); (case aF => exact (fun k_ hk => Kd.fresh' (Kd.R_lt HO_8.r) k_ hk)); (case aO => exact HO_7.r); (case aS => exact (below_size HB.l)); (case aL => have := LMc13.out; omega); intro v183 w23 ho hb hg hat; rw [← Ny182.out] at ho; have n0_ := Aside0.mk (Kd.R_after (ok := (fun _ => True)) (by (with_reducible repeat (first | apply Kd.R_alloc | apply Kd.R_drewN | apply Kd.R_drew)); exact Kd.R_mono HO_8.out (fun _ hk => ⟨trivial, hk⟩)) hg hat); have n1_ := Aside0.mk (blk_grown BK171.b hg (Kd.R_ne HO_7.out BK171.out (by decide))); have n2_ := Aside0.mk (blk_grown BK172.b hg (Kd.R_ne HO_7.out BK172.out (by decide))); have n3_ := Aside0.mk (blk_grown BK178.b hg (Kd.R_ne HO_7.out BK178.out (by decide))); have n4_ := Aside0.mk (Kd.R_over' HO181.r (Kd.R_typed HO_7.r) (by decide) hg); have n5_ := Aside0.mk (hb); have n6_ := Aside0.mk (ho); clear HO_8 BK171 BK172 BK178 HO181 HB HO_7; revert n0_ n1_ n2_ n3_ n4_ n5_ n6_; intro HO_8 BK171 BK172 BK178 HO181 HB HO184; clear ho hb hg hat) | ((with_reducible refine gate_builtin (b := .append) (xs := #[.tmp 37, .tmp 40]) rfl ?_); at_builtin; refine Kd.R_append (Kd.int .i64) (w0 := w) w.heap.size rfl (.tmp 37) (.tmp 40) 26 3 (.int .i64 0) 8 rfl Tryd.underlying26 info3 rfl (by decide) (by omega) u8 x8_1 (wrap64 (-(rd l1_2 x16_1))) [.int .i64 (wrap64 (-(rd l1_2 x16_1)))] (fun k_ => some k_ ≠ (v183 : Value).ownBlock) (fun _ => False) rfl rfl ?aP (fun _ hk => hk.elim) ?aF ?aO ?aB ?aS ?aL ?_; (case aP => exact rfl); (case aB => exact HB.l); (case aF => exact (fun k_ hk => Kd.fresh' (Kd.R_lt HO184.r) k_ hk)); (case aO => exact (by (with_reducible repeat (first | apply Kd.R_alloc | apply Kd.R_drewN | apply Kd.R_drew)); exact Kd.R_mono HO_8.out (fun _ hk => hk.2))); (case aS => exact (below_size HB.l)); (case aL => have := LMc14.out; omega); intro v186 w24 ho hb hg hat; rw [← Ny185.out] at ho; have n0_ := Aside0.mk (blk_grown BK171.b hg (Kd.R_ne HO_8.out BK171.out (by decide))); have n1_ := Aside0.mk (blk_grown BK172.b hg (Kd.R_ne HO_8.out BK172.out (by decide))); have n2_ := Aside0.mk (blk_grown BK178.b hg (Kd.R_ne HO_8.out BK178.out (by decide))); have n3_ := Aside0.mk (Kd.R_over' HO181.r (Kd.R_typed HO_8.r) (by decide) hg); have n4_ := Aside0.mk (Kd.R_after (ok := (fun _ => True)) (by (with_reducible repeat (first | apply Kd.R_alloc | apply Kd.R_drewN | apply Kd.R_drew)); exact Kd.R_mono HO184.out (fun _ hk => ⟨trivial, hk⟩)) hg hat); have n5_ := Aside0.mk (hb); have n6_ := Aside0.mk (ho); clear BK171 BK172 BK178 HO181 HO184 HB HO_8; revert n0_ n1_ n2_ n3_ n4_ n5_ n6_; intro BK171 BK172 BK178 HO181 HO184 HB HO187; clear ho hb hg hat))
          go_roundg k1
          case measure => have := HK1.out; omega
          case rel => exact ⟨(y179), (y182), (y185), (wrap64 (x16_1 + 1)), (by first | rfl | (simp; done) | (simp [*]; done)), H', ⟨by have := HK1.out; omega⟩, ⟨by (with_reducible repeat (first | apply Kd.R_alloc | apply Kd.R_drewN | apply Kd.R_drew)); exact Kd.R_mono HO181.out (fun _ hk => trivial)⟩, ⟨by (with_reducible repeat (first | apply Kd.R_alloc | apply Kd.R_drewN | apply Kd.R_drew)); exact Kd.R_mono HO184.out (fun _ hk => hk.2)⟩, ⟨HO187.r⟩, ⟨BK171.b⟩, ⟨BK172.b⟩, ⟨HB.l⟩⟩
         ·rw [if_neg c14] at H
          exact absurd H (by simp)
        ·rw [if_neg c13] at H
         exact absurd H (by simp)
       ·rw [if_neg c12] at H
        exact absurd H (by simp)
      ·replace c11 := Bool.eq_false_iff.mpr c11
       subst c11
       have H1 : (some (([] : List Int), false)) = some (r1, r2) := by rw [if_neg (show ¬ (false = true) by decide)] at H; exact H
       clear H
       have H := H1
       clear H1
       simp only [Option.some.injEq, Prod.mk.injEq] at H
       obtain ⟨rfl, rfl⟩ := H
       have p173 : 0 ≤ (x16_1 : Int) := of_decide_eq_true (by first | (with_reducible assumption) | assumption)
       have q173 : x16_1 < (l1_2.length : Int) := of_decide_eq_true (by first | (with_reducible assumption) | assumption)
       obtain ⟨ad173, e173, hx173_0⟩ := Kd.at_int HR1_2.out x16_1 p173 q173
       cases e173
       replace hx173_0 := (HB.out.cell (World.block_lt_of_cell? w _ hx173_0)).trans hx173_0
       replace p173 := eq_true p173
       replace q173 := eq_true q173
       have hnb25 := NB171_172.out
       have hnc25 := NB172_171.out
       have hcz26_0 := BK171.cl 0 (.int .i64 a0_0)
       have hcz26_1 := BK171.cl 1 (.int .i64 a0_1)
       have hcz26_2 := BK171.cl 2 (.slice A0_2 l0_2.length c0_2)
       have hcz26_3 := BK171.cl 3 (.slice A0_3 l0_3.length c0_3)
       have hfz26_0 := BK171.fz 0
       have hfz26_1 := BK171.fz 1
       have hfz26_2 := BK171.fz 2
       have hfz26_3 := BK171.fz 3
       go_wp2_with (first | ((with_reducible refine gate_callee (f := 25) rfl ?_); refine goesM_ Tryd.func25 #[.agg #[.int .i64 a0_0, .int .i64 a0_1, .slice A0_2 l0_2.length c0_2, .slice A0_3 l0_3.length c0_3], .int .i64 (rd l1_2 x16_1)] ?_; (with_reducible refine (formula_Bound.calls k1 a0_0 a0_1 _ _ l0_2 _ _ l0_3 (rd l1_2 x16_1) t174 t175 t176 false _ ?side1 ?side2 ?side3 ?side4 A10.out).mono ?_); (case side1 => exact HR0_2.c HB.l); (case side2 => exact HC0_2.out); (case side3 => exact HR0_3.c HB.l); (case side4 => exact HC0_3.out); rintro e w27 ⟨rfl, hb⟩; refine ⟨_, rfl, ?_⟩; have n0_ := Aside0.mk (Kd.R_below HO_6.r hb); have n1_ := Aside0.mk (Kd.R_below HO_7.r hb); have n2_ := Aside0.mk (Kd.R_below HO_8.r hb); have n3_ := Aside0.mk (blk_below BK171.b hb); have n4_ := Aside0.mk (blk_below BK172.b hb); have n5_ := Aside0.mk (below_step HB.l hb); clear HO_6 HO_7 HO_8 BK171 BK172 HB; revert n0_ n1_ n2_ n3_ n4_ n5_; intro HO_6 HO_7 HO_8 BK171 BK172 HB; (try clear hb); (try clear hb2); (try clear hk); (try clear hi)) | ((with_reducible refine gate_dst (N := 11) rfl ?_); refine box_ev (N := 11) rfl (cs := #[.int .i64 0, .int .i64 0, .int .i64 0]) (t := 53) ?_; intro gb178 hg w28 hbox hb; have n0_ := Aside0.mk (Kd.R_below (Kd.R_elderB HO_6.r gb178 (Nat.le_of_eq hg.symm)) hb); have n1_ := Aside0.mk (Kd.R_below HO_7.r hb); have n2_ := Aside0.mk (Kd.R_below HO_8.r hb); have n3_ := Aside0.mk (blk_below BK171.b hb); have n4_ := Aside0.mk (blk_below BK172.b hb); have n5_ := Aside0.mk (below_step HB.l hb); have n6_ := Aside0.mk (hbox); have n7_ := Aside0.mk ((by rw [hg]; exact (below_size HB.l) : w.heap.size ≤ gb178)); have n8_ := Aside0.mk ((by rw [hg]; exact (below_size HB.l) : w.heap.size ≤ gb178)); have n9_ := Aside0.mk ((by rw [hg]; exact Nat.ne_of_lt (blk_lt BK171.b) : gb171 ≠ gb178)); have n10_ := Aside0.mk ((by rw [hg]; exact Nat.ne_of_gt (blk_lt BK171.b) : gb178 ≠ gb171)); have n11_ := Aside0.mk ((by rw [hg]; exact Nat.ne_of_lt (blk_lt BK172.b) : gb172 ≠ gb178)); have n12_ := Aside0.mk ((by rw [hg]; exact Nat.ne_of_gt (blk_lt BK172.b) : gb178 ≠ gb172)); clear HO_6 HO_7 HO_8 BK171 BK172 HB; revert n0_ n1_ n2_ n3_ n4_ n5_ n6_ n7_ n8_ n9_ n10_ n11_ n12_; intro HO_6 HO_7 HO_8 BK171 BK172 HB BK178 GW178 GE178 NB171_178 NB178_171 NB172_178 NB178_172; clear hb hbox hg; have hnb29 := NB178_171.out; have hnc29 := NB171_178.out; have hnb30 := NB178_172.out; have hnc30 := NB172_178.out; have hcz31_0 := BK178.cl 0 (.int .i64 0); have hcz31_1 := BK178.cl 1 (.int .i64 0); have hcz31_2 := BK178.cl 2 (.int .i64 0); have hfz31_0 := BK178.fz 0; have hfz31_1 := BK178.fz 1; have hfz31_2 := BK178.fz 2))
       go_ret2
       exact ⟨_, by first | rfl | (simp [errW_none, errW_some] <;> rfl) | (simp [*, errW_none, errW_some] <;> rfl), by first | exact Kd.R_nil _ _ _ _ _ | exact Kd.N_nil _ _ _ _ _ | exact Kd.V_nil _ _ _ _ _ | exact Kd.Q_nil _ _ _ _ _ | exact Kd.S_nil _ _ _ _ _, HB.l⟩
     ·rw [if_neg c9] at H
      exact absurd H (by simp)
    ·rw [if_neg c8] at H
     exact absurd H (by simp)
   ·rw [if_neg c7] at H
    have c7b0 : decide (x16_1 < (l1_2.length : Int)) = false := decide_eq_false c7
    clear c7
    replace H := Option.bind_eq_some_iff.mp H
    obtain ⟨t188, A320, H⟩ := H
    replace H : (if t188 = true then ((formula_Normal.f k1 x8_1).bind fun bt189 => (some (bt189.1, bt189.2))) else (some (([] : List Int), false))) = some (r1, r2) := H
    have A32 := Aside0.mk A320
    clear A320
    by_cases c33 : t188 = true
    ·subst c33
     have H1 : ((formula_Normal.f k1 x8_1).bind fun bt189 => (some (bt189.1, bt189.2))) = some (r1, r2) := by rw [if_pos rfl] at H; exact H
     clear H
     have H := H1
     clear H1
     replace H := Option.bind_eq_some_iff.mp H
     obtain ⟨⟨t189, t190⟩, A340, H⟩ := H
     replace H : (some (t189, t190)) = some (r1, r2) := H
     have A34 := Aside0.mk A340
     clear A340
     simp only [Option.some.injEq, Prod.mk.injEq] at H
     obtain ⟨rfl, rfl⟩ := H
     obtain ⟨Ao35, co35, eo35⟩ := Kd.R_slice HO_6.out
     subst eo35
     obtain ⟨Ao36, co36, eo36⟩ := Kd.R_slice HO_7.out
     subst eo36
     go_wp2_with (first | ((with_reducible refine gate_callee (f := 26) rfl ?_); refine goesM_ Tryd.func26 #[.slice Ao35 x6_1.length co35, .slice Ao36 x7_1.length co36] ?_; (with_reducible refine (diff_Cycle.calls k1 _ _ x6_1 _ _ x7_1 true _ ?side1 ?side2 ?side3 ?side4 A32.out).mono ?_); (case side1 => repeat (first | exact (Kd.R_reads' HO_6.out).2.2 | (with_reducible refine Kd.C_alloc ?_ _) | (with_reducible refine Kd.C_drewN ?_ _) | (with_reducible refine Kd.C_drew ?_))); (case side2 => exact (Kd.R_reads' HO_6.out).2.1); (case side3 => repeat (first | exact (Kd.R_reads' HO_7.out).2.2 | (with_reducible refine Kd.C_alloc ?_ _) | (with_reducible refine Kd.C_drewN ?_ _) | (with_reducible refine Kd.C_drew ?_))); (case side4 => exact (Kd.R_reads' HO_7.out).2.1); rintro e w' ⟨rfl, ⟨nd, rfl⟩⟩; refine ⟨_, rfl, ?_⟩; obtain ⟨Ao37, co37, eo37⟩ := Kd.R_slice HO_8.out; subst eo37) | ((with_reducible refine gate_callee (f := 24) rfl ?_); refine goesM_ Tryd.func24 #[.slice Ao37 x8_1.length co37] ?_; (with_reducible refine (formula_Normal.calls k1 _ _ x8_1 t189 t190 _ ?side1 ?side2 A34.out).mono ?_); (case side1 => repeat (first | exact (Kd.R_reads' HO_8.out).2.2 | (with_reducible refine Kd.C_alloc ?_ _) | (with_reducible refine Kd.C_drewN ?_ _) | (with_reducible refine Kd.C_drew ?_))); (case side2 => exact (Kd.R_reads' HO_8.out).2.1); rintro e w38 ⟨v191, rfl, ho0, hb⟩; refine ⟨_, rfl, ?_⟩; have n0_ := Aside0.mk (Kd.R_below HO_6.r hb); have n1_ := Aside0.mk (Kd.R_elder' HO_7.r (Kd.R_base ho0) hb); have n2_ := Aside0.mk (Kd.R_elder' HO_8.r (Kd.R_base ho0) hb); have n3_ := Aside0.mk (Kd.R_lower (Kd.R_new' (Kd.R_new' ho0 (Kd.R_lt HO_7.r)) (Kd.R_lt HO_8.r)) (below_size HB.l)); have n4_ := Aside0.mk (blk_below BK171.b hb); have n5_ := Aside0.mk (blk_below BK172.b hb); have n6_ := Aside0.mk (below_step HB.l hb); clear HO_6 HO_7 HO_8 BK171 BK172 HB; revert n0_ n1_ n2_ n3_ n4_ n5_ n6_; intro HO_6 HO_7 HO_8 HO192 BK171 BK172 HB; (try clear hb); (try clear hb2); (try clear hk); (try clear hi); (try clear ho0)))
     go_ret2
     exact ⟨_, by first | rfl | (simp [errW_none, errW_some] <;> rfl) | (simp [*, errW_none, errW_some] <;> rfl), by (with_reducible repeat (first | apply Kd.R_alloc | apply Kd.R_drewN | apply Kd.R_drew)); exact Kd.R_mono HO192.out (fun _ hk => trivial), HB.l⟩
    ·replace c33 := Bool.eq_false_iff.mpr c33
     subst c33
     have H1 : (some (([] : List Int), false)) = some (r1, r2) := by rw [if_neg (show ¬ (false = true) by decide)] at H; exact H
     clear H
     have H := H1
     clear H1
     simp only [Option.some.injEq, Prod.mk.injEq] at H
     obtain ⟨rfl, rfl⟩ := H
     obtain ⟨Ao39, co39, eo39⟩ := Kd.R_slice HO_6.out
     subst eo39
     obtain ⟨Ao40, co40, eo40⟩ := Kd.R_slice HO_7.out
     subst eo40
     go_wp2_with (first | ((with_reducible refine gate_callee (f := 26) rfl ?_); refine goesM_ Tryd.func26 #[.slice Ao39 x6_1.length co39, .slice Ao40 x7_1.length co40] ?_; (with_reducible refine (diff_Cycle.calls k1 _ _ x6_1 _ _ x7_1 false _ ?side1 ?side2 ?side3 ?side4 A32.out).mono ?_); (case side1 => repeat (first | exact (Kd.R_reads' HO_6.out).2.2 | (with_reducible refine Kd.C_alloc ?_ _) | (with_reducible refine Kd.C_drewN ?_ _) | (with_reducible refine Kd.C_drew ?_))); (case side2 => exact (Kd.R_reads' HO_6.out).2.1); (case side3 => repeat (first | exact (Kd.R_reads' HO_7.out).2.2 | (with_reducible refine Kd.C_alloc ?_ _) | (with_reducible refine Kd.C_drewN ?_ _) | (with_reducible refine Kd.C_drew ?_))); (case side4 => exact (Kd.R_reads' HO_7.out).2.1); rintro e w' ⟨rfl, ⟨nd, rfl⟩⟩; refine ⟨_, rfl, ?_⟩))
     go_ret2
     exact ⟨_, by first | rfl | (simp [errW_none, errW_some] <;> rfl) | (simp [*, errW_none, errW_some] <;> rfl), by first | exact Kd.R_nil _ _ _ _ _ | exact Kd.N_nil _ _ _ _ _ | exact Kd.V_nil _ _ _ _ _ | exact Kd.Q_nil _ _ _ _ _ | exact Kd.S_nil _ _ _ _ _, HB.l⟩

end Go.Proofs.YtppbnjmhkifdaaaDoor.X
