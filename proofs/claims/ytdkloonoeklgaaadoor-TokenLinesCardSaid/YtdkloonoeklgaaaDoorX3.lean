-- Written by this session's own program (wip/tools/xprint.py).
import Derived.Test.YtdkloonoeklgaaaDoorX0
import Derived.Test.YtdkloonoeklgaaaDoorX2
import Derived.Test.YtdkloonoeklgaaaDoorGivA
namespace Go.Proofs.YtdkloonoeklgaaaDoor.X
open Go.RowKit Go.Proofs.YtdkloonoeklgaaaDoorW.PrintWords Go.Proofs.YtdkloonoeklgaaaDoorW.PrintLast Go.Proofs.YtdkloonoeklgaaaDoorW.PrintMore
attribute [local go_sem] max2_int min2_int max_two min_two max_three min_three max_four min_four   -- for this text's walks alone
set_option linter.unusedVariables false
set_option linter.unusedSimpArgs false

/-! ### token_scanner_skip: function 19 -/
mutual
def token_scanner_skip.l0 : Nat → ByteArray → Int → Int → Option (ByteArray × Int × Int)
  | 0, _, _, _ => none
  | k + 1, x1000, x1001, x1002 => if x1001 < (x1000.size : Int) then (if 0 ≤ x1001 then (if (bt x1000 x1001) = 10 then (token_scanner_skip.l0 k x1000 (wrap64 (x1001 + 1)) (wrap64 (x1002 + 1))) else (if (bt x1000 x1001) = 32 then (token_scanner_skip.j1 k true x1000 x1001 x1002) else (if (bt x1000 x1001) = 9 then (token_scanner_skip.j1 k true x1000 x1001 x1002) else (token_scanner_skip.j1 k ((bt x1000 x1001) == 13) x1000 x1001 x1002)))) else (none)) else (some (x1000, x1001, x1002))
def token_scanner_skip.j1 : Nat → Bool → ByteArray → Int → Int → Option (ByteArray × Int × Int)
  | 0, _, _, _, _ => none
  | k + 1, x40, x1000, x1001, x1002 => if x40 = true then (token_scanner_skip.l0 k x1000 (wrap64 (x1001 + 1)) x1002) else ((token_scanner_rest.f x1000 x1001 x1002).bind fun bt102 => ((strings_HasPrefix.f bt102.1 (⟨#[47, 47]⟩ : ByteArray)).bind fun t106 => (if t106 = true then ((token_scanner_rest.f bt102.2.1 bt102.2.2.1 bt102.2.2.2).bind fun bt107 => ((strings_IndexByte.f bt107.1 10).bind fun t111 => (if t111 < 0 then ((token_scanner_rest.f bt107.2.1 bt107.2.2.1 bt107.2.2.2).bind fun bt112 => (token_scanner_skip.l0 k bt112.2.1 (wrap64 (bt112.2.2.1 + (bt112.1.size : Int))) bt112.2.2.2)) else (token_scanner_skip.l0 k bt107.2.1 (wrap64 (bt107.2.2.1 + t111)) bt107.2.2.2)))) else (some (bt102.2.1, bt102.2.2.1, bt102.2.2.2)))))
end
def token_scanner_skip.f (k : Nat) (s0_0 : ByteArray) (s0_1 : Int) (s0_2 : Int) : Option (ByteArray × Int × Int) := token_scanner_skip.l0 k s0_0 s0_1 s0_2
theorem token_scanner_skip.mono_l : ∀ k, (∀ y0 y1 y2, LeO (token_scanner_skip.l0 k y0 y1 y2) (token_scanner_skip.l0 (k + 1) y0 y1 y2)) ∧ (∀ y0 y1 y2 y3, LeO (token_scanner_skip.j1 k y0 y1 y2 y3) (token_scanner_skip.j1 (k + 1) y0 y1 y2 y3))
  | 0 => ⟨fun _ _ _ r h => by simp [token_scanner_skip.l0] at h, fun _ _ _ _ r h => by simp [token_scanner_skip.j1] at h⟩
  | k + 1 => by
    obtain ⟨ih0, ih1⟩ := token_scanner_skip.mono_l k
    refine ⟨?_, ?_⟩
    · intro y0 y1 y2
      unfold token_scanner_skip.l0
      repeat' first
      | (with_reducible exact ih0 _ _ _)
      | (with_reducible exact ih1 _ _ _ _)
      | (with_reducible exact LeO.refl _)
      | (with_reducible exact LeO.none _)
      | (with_reducible refine LeO.ite ?_ ?_)
      | (with_reducible refine LeO.bind ?_ (fun _ => ?_))
      | exact ih0 _ _ _
      | exact ih1 _ _ _ _
      | exact LeO.none _
      | refine LeO.ite ?_ ?_
      | refine LeO.bind ?_ (fun _ => ?_)
    · intro y0 y1 y2 y3
      unfold token_scanner_skip.j1
      repeat' first
      | (with_reducible exact ih0 _ _ _)
      | (with_reducible exact ih1 _ _ _ _)
      | (with_reducible exact LeO.refl _)
      | (with_reducible exact LeO.none _)
      | (with_reducible refine LeO.ite ?_ ?_)
      | (with_reducible refine LeO.bind ?_ (fun _ => ?_))
      | exact ih0 _ _ _
      | exact ih1 _ _ _ _
      | exact LeO.none _
      | refine LeO.ite ?_ ?_
      | refine LeO.bind ?_ (fun _ => ?_)
theorem token_scanner_skip.mono : ∀ a0 a1 a2 k, LeO (token_scanner_skip.f k a0 a1 a2) (token_scanner_skip.f (k + 1) a0 a1 a2) := by
  intro a0 a1 a2 k
  obtain ⟨ih0, ih1⟩ := token_scanner_skip.mono_l k
  unfold token_scanner_skip.f
  repeat' first
      | (with_reducible exact ih0 _ _ _)
      | (with_reducible exact ih1 _ _ _ _)
      | (with_reducible exact LeO.refl _)
      | (with_reducible exact LeO.none _)
      | (with_reducible refine LeO.ite ?_ ?_)
      | (with_reducible refine LeO.bind ?_ (fun _ => ?_))
      | exact ih0 _ _ _
      | exact ih1 _ _ _ _
      | exact LeO.none _
      | refine LeO.ite ?_ ?_
      | refine LeO.bind ?_ (fun _ => ?_)
set_option maxHeartbeats 8000000 in
set_option maxRecDepth 100000 in
theorem token_scanner_skip.calls (k : Nat) (g : Nat) (s0_0 : ByteArray) (s0_1 : Int) (s0_2 : Int) (r1 : ByteArray) (r2 : Int) (r3 : Int) (w0 w : World) (hI : IsS37 w0 w g s0_0 s0_1 s0_2) (hB : Below w0.heap.size w0 w) (h : token_scanner_skip.f k s0_0 s0_1 s0_2 = some (r1, r2, r3)) :
    Calls Tryd.prog 19 #[.pointer (some ⟨g, 0, none⟩)] w fun e w' => e = .returned (.tuple #[]) ∧ IsS37 w0 w' g r1 r2 r3 ∧ Below w0.heap.size w0 w' ∧ KeepBut w w' g none := by
  have HI0 := Aside0.mk hI
  have HK := Aside0.mk (KeepBut.refl w g none)
  have HL := Aside0.mk hB.size
  clear hI
  have HW0 := Aside0.mk hB.size
  have HB := Aside0.mk hB
  clear hB
  have H : (token_scanner_skip.l0 k s0_0 s0_1 s0_2) = some (r1, r2, r3) := h
  clear h
  have H' := Aside0.mk H
  clear H
  go_enter Tryd.func19, Tryd.ntmps19
  go_wp2
  repeat (go_quiet (fail); try go_wp2)
  go_loopg [] k (fun kq w' => ∃ (x1000_1 : ByteArray) (x1001_1 : Int) (x1002_1 : Int), Aside0 (token_scanner_skip.l0 kq x1000_1 x1001_1 x1002_1 = some (r1, r2, r3)) ∧ Aside0 (kq ≤ k) ∧ Aside0 (IsS37 w0 w' g x1000_1 x1001_1 x1002_1) ∧ Aside0 (KeepBut w w' g none) ∧ Aside0 (Below w0.heap.size w0 w'))
  case atStart => exact ⟨(s0_0), (s0_1), (s0_2), H', ⟨Nat.le_refl _⟩, ⟨by repeat (first | (with_reducible first | exact HI0.out | apply IsS37.alloc | apply IsS37.drewN | apply IsS37.drew | apply IsS37.set_0 | apply IsS37.set_1 | apply IsS37.set_2) | exact HI0.out)⟩, ⟨by repeat (first | (with_reducible first | exact HK.out | apply KeepBut.set_ | apply keep_drewN | apply keep_drew | apply keep_alloc) | exact HK.out)⟩, ⟨by repeat (first | (with_reducible first | exact HB.out | apply below_alloc | apply pw_below_drewN | apply below_drew1 | refine below_set ?_ (IsS37.ge HI0.out)) | exact HB.out)⟩⟩
  case round =>
    clear H'
    try clear c1
    obtain ⟨x1000_1, x1001_1, x1002_1, HA, HK1, HI0, HK, HB⟩ := hrel
    cases gk with
    | zero => exact absurd HA.out (by simp [token_scanner_skip.l0])
    | succ k1 =>
      have H := HA.out
      clear HA
      simp only [token_scanner_skip.l0] at H
      by_cases c2 : x1001_1 < (x1000_1.size : Int)
      · rw [if_pos c2] at H
        have c2b0 : decide (x1001_1 < (x1000_1.size : Int)) = true := decide_eq_true c2
        clear c2
        by_cases c3 : 0 ≤ x1001_1
        · rw [if_pos c3] at H
          have c3b0 : decide (0 ≤ x1001_1) = true := decide_eq_true c3
          clear c3
          by_cases c5 : (bt x1000_1 x1001_1) = 10
          · rw [if_pos c5] at H
            have c5b0 : ((bt x1000_1 x1001_1) == 10) = true := beq_iff_eq.mpr c5
            have c5b1 : ((bt x1000_1 x1001_1) != 10) = false := bne_eq_false_iff_eq.mpr c5
            clear c5
            have H' := Aside0.mk H
            clear H
            obtain ⟨HGz6, hgz6⟩ := HI0.out
            have hcz6_0 := cellS37_0 HGz6
            have hcz6_1 := cellS37_1 HGz6
            have hcz6_2 := cellS37_2 HGz6
            have hfz6_0 := blk_frozen HGz6 0
            have hfz6_1 := blk_frozen HGz6 1
            have hfz6_2 := blk_frozen HGz6 2
            clear HGz6 hgz6
            have p4 : 0 ≤ (x1001_1 : Int) := of_decide_eq_true (by first | (with_reducible assumption) | assumption)
            have q4 : x1001_1 < (x1000_1.size : Int) := of_decide_eq_true (by first | (with_reducible assumption) | assumption)
            have hx4 := bt_at x1000_1 x1001_1
            replace p4 := eq_true p4
            replace q4 := eq_true q4
            go_wp2
            repeat (go_quiet (fail); try go_wp2)
            go_roundg k1
            case measure => have := HK1.out; omega
            case rel => exact ⟨(x1000_1), (wrap64 (x1001_1 + 1)), (wrap64 (x1002_1 + 1)), H', ⟨by have := HK1.out; omega⟩, ⟨by repeat (first | (with_reducible first | exact HI0.out | apply IsS37.alloc | apply IsS37.drewN | apply IsS37.drew | apply IsS37.set_0 | apply IsS37.set_1 | apply IsS37.set_2) | exact HI0.out)⟩, ⟨by repeat (first | (with_reducible first | exact HK.out | apply KeepBut.set_ | apply keep_drewN | apply keep_drew | apply keep_alloc) | exact HK.out)⟩, ⟨by repeat (first | (with_reducible first | exact HB.out | apply below_alloc | apply pw_below_drewN | apply below_drew1 | refine below_set ?_ (IsS37.ge HI0.out)) | exact HB.out)⟩⟩
          · rw [if_neg c5] at H
            have c5b0 : ((bt x1000_1 x1001_1) == 10) = false := beq_eq_false_iff_ne.mpr c5
            have c5b1 : ((bt x1000_1 x1001_1) != 10) = true := bne_iff_ne.mpr c5
            have HC7 := Aside0.mk H
            clear H
            obtain ⟨HGz8, hgz8⟩ := HI0.out
            have hcz8_0 := cellS37_0 HGz8
            have hcz8_1 := cellS37_1 HGz8
            have hcz8_2 := cellS37_2 HGz8
            have hfz8_0 := blk_frozen HGz8 0
            have hfz8_1 := blk_frozen HGz8 1
            have hfz8_2 := blk_frozen HGz8 2
            clear HGz8 hgz8
            have p4 : 0 ≤ (x1001_1 : Int) := of_decide_eq_true (by first | (with_reducible assumption) | assumption)
            have q4 : x1001_1 < (x1000_1.size : Int) := of_decide_eq_true (by first | (with_reducible assumption) | assumption)
            have hx4 := bt_at x1000_1 x1001_1
            replace p4 := eq_true p4
            replace q4 := eq_true q4
            go_upto_region 5 with (fail)
            repeat (go_quiet (fail); go_upto_region 5 with (fail))
            go_cut [40] (fun v40 wc => ∃ (kq : Nat) (x40_6 : Bool), v40 = .bool x40_6 ∧ Aside0 (token_scanner_skip.j1 kq x40_6 x1000_1 x1001_1 x1002_1 = some (r1, r2, r3)) ∧ Aside0 (kq ≤ k1) ∧ Aside0 (IsS37 w0 wc g x1000_1 x1001_1 x1002_1) ∧ Aside0 (KeepBut w wc g none) ∧ Aside0 (Below w0.heap.size w0 wc))
            case first =>
              have H := HC7.out
              clear HC7
              by_cases c9 : (bt x1000_1 x1001_1) = 32
              · rw [if_pos c9] at H
                have c9b0 : ((bt x1000_1 x1001_1) == 32) = true := beq_iff_eq.mpr c9
                have c9b1 : ((bt x1000_1 x1001_1) != 32) = false := bne_eq_false_iff_eq.mpr c9
                clear c9
                (first | rw [c9b0] | (simp only [i64_w, i32_w]; rw [c9b0]) | skip)
                have H' := Aside0.mk H
                clear H
                go_wp2
                repeat (go_quiet (fail); try go_wp2)
                go_meet
                case rel => exact ⟨_, (true), (by first | rfl | (simp; done) | (simp [*]; done)), H', ⟨by have := HK1.out; first | omega | exact Nat.le_refl _⟩, ⟨by repeat (first | (with_reducible first | exact HI0.out | apply IsS37.alloc | apply IsS37.drewN | apply IsS37.drew | apply IsS37.set_0 | apply IsS37.set_1 | apply IsS37.set_2) | exact HI0.out)⟩, ⟨by repeat (first | (with_reducible first | exact HK.out | apply KeepBut.set_ | apply keep_drewN | apply keep_drew | apply keep_alloc) | exact HK.out)⟩, ⟨by repeat (first | (with_reducible first | exact HB.out | apply below_alloc | apply pw_below_drewN | apply below_drew1 | refine below_set ?_ (IsS37.ge HI0.out)) | exact HB.out)⟩⟩
              · rw [if_neg c9] at H
                have c9b0 : ((bt x1000_1 x1001_1) == 32) = false := beq_eq_false_iff_ne.mpr c9
                have c9b1 : ((bt x1000_1 x1001_1) != 32) = true := bne_iff_ne.mpr c9
                (first | rw [c9b0] | (simp only [i64_w, i32_w]; rw [c9b0]) | skip)
                by_cases c10 : (bt x1000_1 x1001_1) = 9
                · rw [if_pos c10] at H
                  have c10b0 : ((bt x1000_1 x1001_1) == 9) = true := beq_iff_eq.mpr c10
                  have c10b1 : ((bt x1000_1 x1001_1) != 9) = false := bne_eq_false_iff_eq.mpr c10
                  clear c10
                  have H' := Aside0.mk H
                  clear H
                  go_wp2
                  repeat (go_quiet (fail); try go_wp2)
                  go_meet
                  case rel => exact ⟨_, (true), (by first | rfl | (simp; done) | (simp [*]; done)), H', ⟨by have := HK1.out; first | omega | exact Nat.le_refl _⟩, ⟨by repeat (first | (with_reducible first | exact HI0.out | apply IsS37.alloc | apply IsS37.drewN | apply IsS37.drew | apply IsS37.set_0 | apply IsS37.set_1 | apply IsS37.set_2) | exact HI0.out)⟩, ⟨by repeat (first | (with_reducible first | exact HK.out | apply KeepBut.set_ | apply keep_drewN | apply keep_drew | apply keep_alloc) | exact HK.out)⟩, ⟨by repeat (first | (with_reducible first | exact HB.out | apply below_alloc | apply pw_below_drewN | apply below_drew1 | refine below_set ?_ (IsS37.ge HI0.out)) | exact HB.out)⟩⟩
                · rw [if_neg c10] at H
                  have c10b0 : ((bt x1000_1 x1001_1) == 9) = false := beq_eq_false_iff_ne.mpr c10
                  have c10b1 : ((bt x1000_1 x1001_1) != 9) = true := bne_iff_ne.mpr c10
                  have H' := Aside0.mk H
                  clear H
                  go_wp2
                  repeat (go_quiet (fail); try go_wp2)
                  go_meet
                  case rel => exact ⟨_, (((bt x1000_1 x1001_1) == 13)), (by first | rfl | (simp; done) | (simp [*]; done)), H', ⟨by have := HK1.out; first | omega | exact Nat.le_refl _⟩, ⟨by repeat (first | (with_reducible first | exact HI0.out | apply IsS37.alloc | apply IsS37.drewN | apply IsS37.drew | apply IsS37.set_0 | apply IsS37.set_1 | apply IsS37.set_2) | exact HI0.out)⟩, ⟨by repeat (first | (with_reducible first | exact HK.out | apply KeepBut.set_ | apply keep_drewN | apply keep_drew | apply keep_alloc) | exact HK.out)⟩, ⟨by repeat (first | (with_reducible first | exact HB.out | apply below_alloc | apply pw_below_drewN | apply below_drew1 | refine below_set ?_ (IsS37.ge HI0.out)) | exact HB.out)⟩⟩
            case rest =>
              clear HC7
              try clear c1
              try clear c2
              try clear c2b0
              try clear p2
              try clear c3
              try clear c3b0
              try clear p4
              try clear q4
              try clear hx4
              try clear c5
              try clear c5b0
              try clear c5b1
              try clear p6
              try clear c9
              try clear c9b0
              try clear c9b1
              try clear c10
              try clear c10b0
              try clear c10b1
              try clear hcz6_0
              try clear hcz6_1
              try clear hcz6_2
              try clear hcz8_0
              try clear hcz8_1
              try clear hcz8_2
              try clear hfz6_0
              try clear hfz6_1
              try clear hfz6_2
              try clear hfz8_0
              try clear hfz8_1
              try clear hfz8_2
              try clear p4
              try clear q4
              obtain ⟨kq, x40_6, rfl, HA, HJ6, HI0, HK, HB⟩ := hcut
              cases kq with
              | zero => exact absurd HA.out (by simp [token_scanner_skip.j1])
              | succ kj6 =>
                have H := HA.out
                clear HA
                simp only [token_scanner_skip.j1] at H
                by_cases c11 : x40_6 = true
                · subst c11
                  have H1 : (token_scanner_skip.l0 kj6 x1000_1 (wrap64 (x1001_1 + 1)) x1002_1) = some (r1, r2, r3) := by rw [if_pos rfl] at H; exact H
                  clear H
                  have H := H1
                  clear H1
                  have H' := Aside0.mk H
                  clear H
                  obtain ⟨HGz12, hgz12⟩ := HI0.out
                  have hcz12_0 := cellS37_0 HGz12
                  have hcz12_1 := cellS37_1 HGz12
                  have hcz12_2 := cellS37_2 HGz12
                  have hfz12_0 := blk_frozen HGz12 0
                  have hfz12_1 := blk_frozen HGz12 1
                  have hfz12_2 := blk_frozen HGz12 2
                  clear HGz12 hgz12
                  go_wp2
                  repeat (go_quiet (fail); try go_wp2)
                  go_roundg kj6
                  case measure => have := HK1.out; have := HJ6.out; omega
                  case rel => exact ⟨(x1000_1), (wrap64 (x1001_1 + 1)), (x1002_1), H', ⟨by have := HK1.out; have := HJ6.out; omega⟩, ⟨by repeat (first | (with_reducible first | exact HI0.out | apply IsS37.alloc | apply IsS37.drewN | apply IsS37.drew | apply IsS37.set_0 | apply IsS37.set_1 | apply IsS37.set_2) | exact HI0.out)⟩, ⟨by repeat (first | (with_reducible first | exact HK.out | apply KeepBut.set_ | apply keep_drewN | apply keep_drew | apply keep_alloc) | exact HK.out)⟩, ⟨by repeat (first | (with_reducible first | exact HB.out | apply below_alloc | apply pw_below_drewN | apply below_drew1 | refine below_set ?_ (IsS37.ge HI0.out)) | exact HB.out)⟩⟩
                · replace c11 := Bool.eq_false_iff.mpr c11
                  subst c11
                  have H1 : ((token_scanner_rest.f x1000_1 x1001_1 x1002_1).bind fun bt102 => ((strings_HasPrefix.f bt102.1 (⟨#[47, 47]⟩ : ByteArray)).bind fun t106 => (if t106 = true then ((token_scanner_rest.f bt102.2.1 bt102.2.2.1 bt102.2.2.2).bind fun bt107 => ((strings_IndexByte.f bt107.1 10).bind fun t111 => (if t111 < 0 then ((token_scanner_rest.f bt107.2.1 bt107.2.2.1 bt107.2.2.2).bind fun bt112 => (token_scanner_skip.l0 kj6 bt112.2.1 (wrap64 (bt112.2.2.1 + (bt112.1.size : Int))) bt112.2.2.2)) else (token_scanner_skip.l0 kj6 bt107.2.1 (wrap64 (bt107.2.2.1 + t111)) bt107.2.2.2)))) else (some (bt102.2.1, bt102.2.2.1, bt102.2.2.2))))) = some (r1, r2, r3) := by rw [if_neg (show ¬ (false = true) by decide)] at H; exact H
                  clear H
                  have H := H1
                  clear H1
                  replace H := Option.bind_eq_some_iff.mp H
                  obtain ⟨⟨t102, t103, t104, t105⟩, A130, H⟩ := H
                  replace H : ((strings_HasPrefix.f t102 (⟨#[47, 47]⟩ : ByteArray)).bind fun t106 => (if t106 = true then ((token_scanner_rest.f t103 t104 t105).bind fun bt107 => ((strings_IndexByte.f bt107.1 10).bind fun t111 => (if t111 < 0 then ((token_scanner_rest.f bt107.2.1 bt107.2.2.1 bt107.2.2.2).bind fun bt112 => (token_scanner_skip.l0 kj6 bt112.2.1 (wrap64 (bt112.2.2.1 + (bt112.1.size : Int))) bt112.2.2.2)) else (token_scanner_skip.l0 kj6 bt107.2.1 (wrap64 (bt107.2.2.1 + t111)) bt107.2.2.2)))) else (some (t103, t104, t105)))) = some (r1, r2, r3) := H
                  have A13 := Aside0.mk A130
                  clear A130
                  replace H := Option.bind_eq_some_iff.mp H
                  obtain ⟨t106, A140, H⟩ := H
                  replace H : (if t106 = true then ((token_scanner_rest.f t103 t104 t105).bind fun bt107 => ((strings_IndexByte.f bt107.1 10).bind fun t111 => (if t111 < 0 then ((token_scanner_rest.f bt107.2.1 bt107.2.2.1 bt107.2.2.2).bind fun bt112 => (token_scanner_skip.l0 kj6 bt112.2.1 (wrap64 (bt112.2.2.1 + (bt112.1.size : Int))) bt112.2.2.2)) else (token_scanner_skip.l0 kj6 bt107.2.1 (wrap64 (bt107.2.2.1 + t111)) bt107.2.2.2)))) else (some (t103, t104, t105))) = some (r1, r2, r3) := H
                  have A14 := Aside0.mk A140
                  clear A140
                  by_cases c15 : t106 = true
                  · subst c15
                    have H1 : ((token_scanner_rest.f t103 t104 t105).bind fun bt107 => ((strings_IndexByte.f bt107.1 10).bind fun t111 => (if t111 < 0 then ((token_scanner_rest.f bt107.2.1 bt107.2.2.1 bt107.2.2.2).bind fun bt112 => (token_scanner_skip.l0 kj6 bt112.2.1 (wrap64 (bt112.2.2.1 + (bt112.1.size : Int))) bt112.2.2.2)) else (token_scanner_skip.l0 kj6 bt107.2.1 (wrap64 (bt107.2.2.1 + t111)) bt107.2.2.2)))) = some (r1, r2, r3) := by rw [if_pos rfl] at H; exact H
                    clear H
                    have H := H1
                    clear H1
                    replace H := Option.bind_eq_some_iff.mp H
                    obtain ⟨⟨t107, t108, t109, t110⟩, A160, H⟩ := H
                    replace H : ((strings_IndexByte.f t107 10).bind fun t111 => (if t111 < 0 then ((token_scanner_rest.f t108 t109 t110).bind fun bt112 => (token_scanner_skip.l0 kj6 bt112.2.1 (wrap64 (bt112.2.2.1 + (bt112.1.size : Int))) bt112.2.2.2)) else (token_scanner_skip.l0 kj6 t108 (wrap64 (t109 + t111)) t110))) = some (r1, r2, r3) := H
                    have A16 := Aside0.mk A160
                    clear A160
                    replace H := Option.bind_eq_some_iff.mp H
                    obtain ⟨t111, A170, H⟩ := H
                    replace H : (if t111 < 0 then ((token_scanner_rest.f t108 t109 t110).bind fun bt112 => (token_scanner_skip.l0 kj6 bt112.2.1 (wrap64 (bt112.2.2.1 + (bt112.1.size : Int))) bt112.2.2.2)) else (token_scanner_skip.l0 kj6 t108 (wrap64 (t109 + t111)) t110)) = some (r1, r2, r3) := H
                    have A17 := Aside0.mk A170
                    clear A170
                    by_cases c18 : t111 < 0
                    · rw [if_pos c18] at H
                      have c18b0 : decide (t111 < 0) = true := decide_eq_true c18
                      clear c18
                      replace H := Option.bind_eq_some_iff.mp H
                      obtain ⟨⟨t112, t113, t114, t115⟩, A190, H⟩ := H
                      replace H : (token_scanner_skip.l0 kj6 t113 (wrap64 (t114 + (t112.size : Int))) t115) = some (r1, r2, r3) := H
                      have A19 := Aside0.mk A190
                      clear A190
                      have H' := Aside0.mk H
                      clear H
                      go_wp2_with (first | (go_at_call 30; (with_reducible refine (token_scanner_rest.calls g x1000_1 x1001_1 x1002_1 t102 t103 t104 t105 w0 _ ?side1 ?side2 A13.out).mono ?_); (case side1 => repeat (first | (with_reducible first | exact HI0.out | apply IsS37.alloc | apply IsS37.drewN | apply IsS37.drew | apply IsS37.set_0 | apply IsS37.set_1 | apply IsS37.set_2) | exact HI0.out)); (case side2 => repeat (first | (with_reducible first | exact HB.out | apply below_alloc | apply pw_below_drewN | apply below_drew1 | refine below_set ?_ (IsS37.ge HI0.out)) | exact HB.out)); rintro e w20 ⟨rfl, hi, hb, hk⟩; have n0_ := Aside0.mk (KeepBut.trans (by repeat (first | (with_reducible first | exact HK.out | apply KeepBut.set_ | apply keep_drewN | apply keep_drew | apply keep_alloc) | exact HK.out)) hk (.inl rfl)); have n1_ := Aside0.mk (hb); have n2_ := Aside0.mk (hi); clear HK; clear HB; clear HI0; have HK := n0_; have HB := n1_; have HI0 := n2_; clear n0_ n1_ n2_; (try clear hb); (try clear hb2); (try clear hk); (try clear hi)) | (go_at_call 29; (with_reducible refine (strings_HasPrefix.calls t102 (⟨#[47, 47]⟩ : ByteArray) true _ A14.out).mono ?_); rintro e w' ⟨rfl, ⟨nd, rfl⟩⟩; (try first | exact ⟨rfl, _, World.drewN_drewN _ _ _⟩ | exact ⟨rfl, _, Eq.trans (World.drewN_drewN _ _ _) (congrArg (World.drewN _) (Nat.add_assoc _ _ _))⟩)) | (go_at_call 30; (with_reducible refine (token_scanner_rest.calls g t103 t104 t105 t107 t108 t109 t110 w0 _ ?side1 ?side2 A16.out).mono ?_); (case side1 => repeat (first | (with_reducible first | exact HI0.out | apply IsS37.alloc | apply IsS37.drewN | apply IsS37.drew | apply IsS37.set_0 | apply IsS37.set_1 | apply IsS37.set_2) | exact HI0.out)); (case side2 => repeat (first | (with_reducible first | exact HB.out | apply below_alloc | apply pw_below_drewN | apply below_drew1 | refine below_set ?_ (IsS37.ge HI0.out)) | exact HB.out)); rintro e w21 ⟨rfl, hi, hb, hk⟩; have n0_ := Aside0.mk (KeepBut.trans (by repeat (first | (with_reducible first | exact HK.out | apply KeepBut.set_ | apply keep_drewN | apply keep_drew | apply keep_alloc) | exact HK.out)) hk (.inl rfl)); have n1_ := Aside0.mk (hb); have n2_ := Aside0.mk (hi); clear HK; clear HB; clear HI0; have HK := n0_; have HB := n1_; have HI0 := n2_; clear n0_ n1_ n2_; (try clear hb); (try clear hb2); (try clear hk); (try clear hi)) | (go_at_call 31; (with_reducible refine (strings_IndexByte.calls t107 10 t111 _ A17.out).mono ?_); rintro e w' ⟨rfl, ⟨nd, rfl⟩⟩; (try first | exact ⟨rfl, _, World.drewN_drewN _ _ _⟩ | exact ⟨rfl, _, Eq.trans (World.drewN_drewN _ _ _) (congrArg (World.drewN _) (Nat.add_assoc _ _ _))⟩)) | (go_at_call 30; (with_reducible refine (token_scanner_rest.calls g t108 t109 t110 t112 t113 t114 t115 w0 _ ?side1 ?side2 A19.out).mono ?_); (case side1 => repeat (first | (with_reducible first | exact HI0.out | apply IsS37.alloc | apply IsS37.drewN | apply IsS37.drew | apply IsS37.set_0 | apply IsS37.set_1 | apply IsS37.set_2) | exact HI0.out)); (case side2 => repeat (first | (with_reducible first | exact HB.out | apply below_alloc | apply pw_below_drewN | apply below_drew1 | refine below_set ?_ (IsS37.ge HI0.out)) | exact HB.out)); rintro e w22 ⟨rfl, hi, hb, hk⟩; have n0_ := Aside0.mk (KeepBut.trans (by repeat (first | (with_reducible first | exact HK.out | apply KeepBut.set_ | apply keep_drewN | apply keep_drew | apply keep_alloc) | exact HK.out)) hk (.inl rfl)); have n1_ := Aside0.mk (hb); have n2_ := Aside0.mk (hi); clear HK; clear HB; clear HI0; have HK := n0_; have HB := n1_; have HI0 := n2_; clear n0_ n1_ n2_; (try clear hb); (try clear hb2); (try clear hk); (try clear hi); obtain ⟨HGz23, hgz23⟩ := HI0.out; have hcz23_0 := cellS37_0 HGz23; have hcz23_1 := cellS37_1 HGz23; have hcz23_2 := cellS37_2 HGz23; have hfz23_0 := blk_frozen HGz23 0; have hfz23_1 := blk_frozen HGz23 1; have hfz23_2 := blk_frozen HGz23 2; clear HGz23 hgz23))
                      repeat (go_quiet (first | (go_at_call 30; (with_reducible refine (token_scanner_rest.calls g x1000_1 x1001_1 x1002_1 t102 t103 t104 t105 w0 _ ?side1 ?side2 A13.out).mono ?_); (case side1 => repeat (first | (with_reducible first | exact HI0.out | apply IsS37.alloc | apply IsS37.drewN | apply IsS37.drew | apply IsS37.set_0 | apply IsS37.set_1 | apply IsS37.set_2) | exact HI0.out)); (case side2 => repeat (first | (with_reducible first | exact HB.out | apply below_alloc | apply pw_below_drewN | apply below_drew1 | refine below_set ?_ (IsS37.ge HI0.out)) | exact HB.out)); rintro e w20 ⟨rfl, hi, hb, hk⟩; have n0_ := Aside0.mk (KeepBut.trans (by repeat (first | (with_reducible first | exact HK.out | apply KeepBut.set_ | apply keep_drewN | apply keep_drew | apply keep_alloc) | exact HK.out)) hk (.inl rfl)); have n1_ := Aside0.mk (hb); have n2_ := Aside0.mk (hi); clear HK; clear HB; clear HI0; have HK := n0_; have HB := n1_; have HI0 := n2_; clear n0_ n1_ n2_; (try clear hb); (try clear hb2); (try clear hk); (try clear hi)) | (go_at_call 29; (with_reducible refine (strings_HasPrefix.calls t102 (⟨#[47, 47]⟩ : ByteArray) true _ A14.out).mono ?_); rintro e w' ⟨rfl, ⟨nd, rfl⟩⟩; (try first | exact ⟨rfl, _, World.drewN_drewN _ _ _⟩ | exact ⟨rfl, _, Eq.trans (World.drewN_drewN _ _ _) (congrArg (World.drewN _) (Nat.add_assoc _ _ _))⟩)) | (go_at_call 30; (with_reducible refine (token_scanner_rest.calls g t103 t104 t105 t107 t108 t109 t110 w0 _ ?side1 ?side2 A16.out).mono ?_); (case side1 => repeat (first | (with_reducible first | exact HI0.out | apply IsS37.alloc | apply IsS37.drewN | apply IsS37.drew | apply IsS37.set_0 | apply IsS37.set_1 | apply IsS37.set_2) | exact HI0.out)); (case side2 => repeat (first | (with_reducible first | exact HB.out | apply below_alloc | apply pw_below_drewN | apply below_drew1 | refine below_set ?_ (IsS37.ge HI0.out)) | exact HB.out)); rintro e w21 ⟨rfl, hi, hb, hk⟩; have n0_ := Aside0.mk (KeepBut.trans (by repeat (first | (with_reducible first | exact HK.out | apply KeepBut.set_ | apply keep_drewN | apply keep_drew | apply keep_alloc) | exact HK.out)) hk (.inl rfl)); have n1_ := Aside0.mk (hb); have n2_ := Aside0.mk (hi); clear HK; clear HB; clear HI0; have HK := n0_; have HB := n1_; have HI0 := n2_; clear n0_ n1_ n2_; (try clear hb); (try clear hb2); (try clear hk); (try clear hi)) | (go_at_call 31; (with_reducible refine (strings_IndexByte.calls t107 10 t111 _ A17.out).mono ?_); rintro e w' ⟨rfl, ⟨nd, rfl⟩⟩; (try first | exact ⟨rfl, _, World.drewN_drewN _ _ _⟩ | exact ⟨rfl, _, Eq.trans (World.drewN_drewN _ _ _) (congrArg (World.drewN _) (Nat.add_assoc _ _ _))⟩)) | (go_at_call 30; (with_reducible refine (token_scanner_rest.calls g t108 t109 t110 t112 t113 t114 t115 w0 _ ?side1 ?side2 A19.out).mono ?_); (case side1 => repeat (first | (with_reducible first | exact HI0.out | apply IsS37.alloc | apply IsS37.drewN | apply IsS37.drew | apply IsS37.set_0 | apply IsS37.set_1 | apply IsS37.set_2) | exact HI0.out)); (case side2 => repeat (first | (with_reducible first | exact HB.out | apply below_alloc | apply pw_below_drewN | apply below_drew1 | refine below_set ?_ (IsS37.ge HI0.out)) | exact HB.out)); rintro e w22 ⟨rfl, hi, hb, hk⟩; have n0_ := Aside0.mk (KeepBut.trans (by repeat (first | (with_reducible first | exact HK.out | apply KeepBut.set_ | apply keep_drewN | apply keep_drew | apply keep_alloc) | exact HK.out)) hk (.inl rfl)); have n1_ := Aside0.mk (hb); have n2_ := Aside0.mk (hi); clear HK; clear HB; clear HI0; have HK := n0_; have HB := n1_; have HI0 := n2_; clear n0_ n1_ n2_; (try clear hb); (try clear hb2); (try clear hk); (try clear hi); obtain ⟨HGz23, hgz23⟩ := HI0.out; have hcz23_0 := cellS37_0 HGz23; have hcz23_1 := cellS37_1 HGz23; have hcz23_2 := cellS37_2 HGz23; have hfz23_0 := blk_frozen HGz23 0; have hfz23_1 := blk_frozen HGz23 1; have hfz23_2 := blk_frozen HGz23 2; clear HGz23 hgz23)); try go_wp2_with (first | (go_at_call 30; (with_reducible refine (token_scanner_rest.calls g x1000_1 x1001_1 x1002_1 t102 t103 t104 t105 w0 _ ?side1 ?side2 A13.out).mono ?_); (case side1 => repeat (first | (with_reducible first | exact HI0.out | apply IsS37.alloc | apply IsS37.drewN | apply IsS37.drew | apply IsS37.set_0 | apply IsS37.set_1 | apply IsS37.set_2) | exact HI0.out)); (case side2 => repeat (first | (with_reducible first | exact HB.out | apply below_alloc | apply pw_below_drewN | apply below_drew1 | refine below_set ?_ (IsS37.ge HI0.out)) | exact HB.out)); rintro e w20 ⟨rfl, hi, hb, hk⟩; have n0_ := Aside0.mk (KeepBut.trans (by repeat (first | (with_reducible first | exact HK.out | apply KeepBut.set_ | apply keep_drewN | apply keep_drew | apply keep_alloc) | exact HK.out)) hk (.inl rfl)); have n1_ := Aside0.mk (hb); have n2_ := Aside0.mk (hi); clear HK; clear HB; clear HI0; have HK := n0_; have HB := n1_; have HI0 := n2_; clear n0_ n1_ n2_; (try clear hb); (try clear hb2); (try clear hk); (try clear hi)) | (go_at_call 29; (with_reducible refine (strings_HasPrefix.calls t102 (⟨#[47, 47]⟩ : ByteArray) true _ A14.out).mono ?_); rintro e w' ⟨rfl, ⟨nd, rfl⟩⟩; (try first | exact ⟨rfl, _, World.drewN_drewN _ _ _⟩ | exact ⟨rfl, _, Eq.trans (World.drewN_drewN _ _ _) (congrArg (World.drewN _) (Nat.add_assoc _ _ _))⟩)) | (go_at_call 30; (with_reducible refine (token_scanner_rest.calls g t103 t104 t105 t107 t108 t109 t110 w0 _ ?side1 ?side2 A16.out).mono ?_); (case side1 => repeat (first | (with_reducible first | exact HI0.out | apply IsS37.alloc | apply IsS37.drewN | apply IsS37.drew | apply IsS37.set_0 | apply IsS37.set_1 | apply IsS37.set_2) | exact HI0.out)); (case side2 => repeat (first | (with_reducible first | exact HB.out | apply below_alloc | apply pw_below_drewN | apply below_drew1 | refine below_set ?_ (IsS37.ge HI0.out)) | exact HB.out)); rintro e w21 ⟨rfl, hi, hb, hk⟩; have n0_ := Aside0.mk (KeepBut.trans (by repeat (first | (with_reducible first | exact HK.out | apply KeepBut.set_ | apply keep_drewN | apply keep_drew | apply keep_alloc) | exact HK.out)) hk (.inl rfl)); have n1_ := Aside0.mk (hb); have n2_ := Aside0.mk (hi); clear HK; clear HB; clear HI0; have HK := n0_; have HB := n1_; have HI0 := n2_; clear n0_ n1_ n2_; (try clear hb); (try clear hb2); (try clear hk); (try clear hi)) | (go_at_call 31; (with_reducible refine (strings_IndexByte.calls t107 10 t111 _ A17.out).mono ?_); rintro e w' ⟨rfl, ⟨nd, rfl⟩⟩; (try first | exact ⟨rfl, _, World.drewN_drewN _ _ _⟩ | exact ⟨rfl, _, Eq.trans (World.drewN_drewN _ _ _) (congrArg (World.drewN _) (Nat.add_assoc _ _ _))⟩)) | (go_at_call 30; (with_reducible refine (token_scanner_rest.calls g t108 t109 t110 t112 t113 t114 t115 w0 _ ?side1 ?side2 A19.out).mono ?_); (case side1 => repeat (first | (with_reducible first | exact HI0.out | apply IsS37.alloc | apply IsS37.drewN | apply IsS37.drew | apply IsS37.set_0 | apply IsS37.set_1 | apply IsS37.set_2) | exact HI0.out)); (case side2 => repeat (first | (with_reducible first | exact HB.out | apply below_alloc | apply pw_below_drewN | apply below_drew1 | refine below_set ?_ (IsS37.ge HI0.out)) | exact HB.out)); rintro e w22 ⟨rfl, hi, hb, hk⟩; have n0_ := Aside0.mk (KeepBut.trans (by repeat (first | (with_reducible first | exact HK.out | apply KeepBut.set_ | apply keep_drewN | apply keep_drew | apply keep_alloc) | exact HK.out)) hk (.inl rfl)); have n1_ := Aside0.mk (hb); have n2_ := Aside0.mk (hi); clear HK; clear HB; clear HI0; have HK := n0_; have HB := n1_; have HI0 := n2_; clear n0_ n1_ n2_; (try clear hb); (try clear hb2); (try clear hk); (try clear hi); obtain ⟨HGz23, hgz23⟩ := HI0.out; have hcz23_0 := cellS37_0 HGz23; have hcz23_1 := cellS37_1 HGz23; have hcz23_2 := cellS37_2 HGz23; have hfz23_0 := blk_frozen HGz23 0; have hfz23_1 := blk_frozen HGz23 1; have hfz23_2 := blk_frozen HGz23 2; clear HGz23 hgz23)))
                      go_roundg kj6
                      case measure => have := HK1.out; have := HJ6.out; omega
                      case rel => exact ⟨(t113), (wrap64 (t114 + (t112.size : Int))), (t115), H', ⟨by have := HK1.out; have := HJ6.out; omega⟩, ⟨by repeat (first | (with_reducible first | exact HI0.out | apply IsS37.alloc | apply IsS37.drewN | apply IsS37.drew | apply IsS37.set_0 | apply IsS37.set_1 | apply IsS37.set_2) | exact HI0.out)⟩, ⟨by repeat (first | (with_reducible first | exact HK.out | apply KeepBut.set_ | apply keep_drewN | apply keep_drew | apply keep_alloc) | exact HK.out)⟩, ⟨by repeat (first | (with_reducible first | exact HB.out | apply below_alloc | apply pw_below_drewN | apply below_drew1 | refine below_set ?_ (IsS37.ge HI0.out)) | exact HB.out)⟩⟩
                    · rw [if_neg c18] at H
                      have c18b0 : decide (t111 < 0) = false := decide_eq_false c18
                      clear c18
                      have H' := Aside0.mk H
                      clear H
                      go_wp2_with (first | (go_at_call 30; (with_reducible refine (token_scanner_rest.calls g x1000_1 x1001_1 x1002_1 t102 t103 t104 t105 w0 _ ?side1 ?side2 A13.out).mono ?_); (case side1 => repeat (first | (with_reducible first | exact HI0.out | apply IsS37.alloc | apply IsS37.drewN | apply IsS37.drew | apply IsS37.set_0 | apply IsS37.set_1 | apply IsS37.set_2) | exact HI0.out)); (case side2 => repeat (first | (with_reducible first | exact HB.out | apply below_alloc | apply pw_below_drewN | apply below_drew1 | refine below_set ?_ (IsS37.ge HI0.out)) | exact HB.out)); rintro e w24 ⟨rfl, hi, hb, hk⟩; have n0_ := Aside0.mk (KeepBut.trans (by repeat (first | (with_reducible first | exact HK.out | apply KeepBut.set_ | apply keep_drewN | apply keep_drew | apply keep_alloc) | exact HK.out)) hk (.inl rfl)); have n1_ := Aside0.mk (hb); have n2_ := Aside0.mk (hi); clear HK; clear HB; clear HI0; have HK := n0_; have HB := n1_; have HI0 := n2_; clear n0_ n1_ n2_; (try clear hb); (try clear hb2); (try clear hk); (try clear hi)) | (go_at_call 29; (with_reducible refine (strings_HasPrefix.calls t102 (⟨#[47, 47]⟩ : ByteArray) true _ A14.out).mono ?_); rintro e w' ⟨rfl, ⟨nd, rfl⟩⟩; (try first | exact ⟨rfl, _, World.drewN_drewN _ _ _⟩ | exact ⟨rfl, _, Eq.trans (World.drewN_drewN _ _ _) (congrArg (World.drewN _) (Nat.add_assoc _ _ _))⟩)) | (go_at_call 30; (with_reducible refine (token_scanner_rest.calls g t103 t104 t105 t107 t108 t109 t110 w0 _ ?side1 ?side2 A16.out).mono ?_); (case side1 => repeat (first | (with_reducible first | exact HI0.out | apply IsS37.alloc | apply IsS37.drewN | apply IsS37.drew | apply IsS37.set_0 | apply IsS37.set_1 | apply IsS37.set_2) | exact HI0.out)); (case side2 => repeat (first | (with_reducible first | exact HB.out | apply below_alloc | apply pw_below_drewN | apply below_drew1 | refine below_set ?_ (IsS37.ge HI0.out)) | exact HB.out)); rintro e w25 ⟨rfl, hi, hb, hk⟩; have n0_ := Aside0.mk (KeepBut.trans (by repeat (first | (with_reducible first | exact HK.out | apply KeepBut.set_ | apply keep_drewN | apply keep_drew | apply keep_alloc) | exact HK.out)) hk (.inl rfl)); have n1_ := Aside0.mk (hb); have n2_ := Aside0.mk (hi); clear HK; clear HB; clear HI0; have HK := n0_; have HB := n1_; have HI0 := n2_; clear n0_ n1_ n2_; (try clear hb); (try clear hb2); (try clear hk); (try clear hi)) | (go_at_call 31; (with_reducible refine (strings_IndexByte.calls t107 10 t111 _ A17.out).mono ?_); rintro e w' ⟨rfl, ⟨nd, rfl⟩⟩; (try first | exact ⟨rfl, _, World.drewN_drewN _ _ _⟩ | exact ⟨rfl, _, Eq.trans (World.drewN_drewN _ _ _) (congrArg (World.drewN _) (Nat.add_assoc _ _ _))⟩); obtain ⟨HGz26, hgz26⟩ := HI0.out; have hcz26_0 := cellS37_0 HGz26; have hcz26_1 := cellS37_1 HGz26; have hcz26_2 := cellS37_2 HGz26; have hfz26_0 := blk_frozen HGz26 0; have hfz26_1 := blk_frozen HGz26 1; have hfz26_2 := blk_frozen HGz26 2; clear HGz26 hgz26))
                      repeat (go_quiet (first | (go_at_call 30; (with_reducible refine (token_scanner_rest.calls g x1000_1 x1001_1 x1002_1 t102 t103 t104 t105 w0 _ ?side1 ?side2 A13.out).mono ?_); (case side1 => repeat (first | (with_reducible first | exact HI0.out | apply IsS37.alloc | apply IsS37.drewN | apply IsS37.drew | apply IsS37.set_0 | apply IsS37.set_1 | apply IsS37.set_2) | exact HI0.out)); (case side2 => repeat (first | (with_reducible first | exact HB.out | apply below_alloc | apply pw_below_drewN | apply below_drew1 | refine below_set ?_ (IsS37.ge HI0.out)) | exact HB.out)); rintro e w24 ⟨rfl, hi, hb, hk⟩; have n0_ := Aside0.mk (KeepBut.trans (by repeat (first | (with_reducible first | exact HK.out | apply KeepBut.set_ | apply keep_drewN | apply keep_drew | apply keep_alloc) | exact HK.out)) hk (.inl rfl)); have n1_ := Aside0.mk (hb); have n2_ := Aside0.mk (hi); clear HK; clear HB; clear HI0; have HK := n0_; have HB := n1_; have HI0 := n2_; clear n0_ n1_ n2_; (try clear hb); (try clear hb2); (try clear hk); (try clear hi)) | (go_at_call 29; (with_reducible refine (strings_HasPrefix.calls t102 (⟨#[47, 47]⟩ : ByteArray) true _ A14.out).mono ?_); rintro e w' ⟨rfl, ⟨nd, rfl⟩⟩; (try first | exact ⟨rfl, _, World.drewN_drewN _ _ _⟩ | exact ⟨rfl, _, Eq.trans (World.drewN_drewN _ _ _) (congrArg (World.drewN _) (Nat.add_assoc _ _ _))⟩)) | (go_at_call 30; (with_reducible refine (token_scanner_rest.calls g t103 t104 t105 t107 t108 t109 t110 w0 _ ?side1 ?side2 A16.out).mono ?_); (case side1 => repeat (first | (with_reducible first | exact HI0.out | apply IsS37.alloc | apply IsS37.drewN | apply IsS37.drew | apply IsS37.set_0 | apply IsS37.set_1 | apply IsS37.set_2) | exact HI0.out)); (case side2 => repeat (first | (with_reducible first | exact HB.out | apply below_alloc | apply pw_below_drewN | apply below_drew1 | refine below_set ?_ (IsS37.ge HI0.out)) | exact HB.out)); rintro e w25 ⟨rfl, hi, hb, hk⟩; have n0_ := Aside0.mk (KeepBut.trans (by repeat (first | (with_reducible first | exact HK.out | apply KeepBut.set_ | apply keep_drewN | apply keep_drew | apply keep_alloc) | exact HK.out)) hk (.inl rfl)); have n1_ := Aside0.mk (hb); have n2_ := Aside0.mk (hi); clear HK; clear HB; clear HI0; have HK := n0_; have HB := n1_; have HI0 := n2_; clear n0_ n1_ n2_; (try clear hb); (try clear hb2); (try clear hk); (try clear hi)) | (go_at_call 31; (with_reducible refine (strings_IndexByte.calls t107 10 t111 _ A17.out).mono ?_); rintro e w' ⟨rfl, ⟨nd, rfl⟩⟩; (try first | exact ⟨rfl, _, World.drewN_drewN _ _ _⟩ | exact ⟨rfl, _, Eq.trans (World.drewN_drewN _ _ _) (congrArg (World.drewN _) (Nat.add_assoc _ _ _))⟩); obtain ⟨HGz26, hgz26⟩ := HI0.out; have hcz26_0 := cellS37_0 HGz26; have hcz26_1 := cellS37_1 HGz26; have hcz26_2 := cellS37_2 HGz26; have hfz26_0 := blk_frozen HGz26 0; have hfz26_1 := blk_frozen HGz26 1; have hfz26_2 := blk_frozen HGz26 2; clear HGz26 hgz26)); try go_wp2_with (first | (go_at_call 30; (with_reducible refine (token_scanner_rest.calls g x1000_1 x1001_1 x1002_1 t102 t103 t104 t105 w0 _ ?side1 ?side2 A13.out).mono ?_); (case side1 => repeat (first | (with_reducible first | exact HI0.out | apply IsS37.alloc | apply IsS37.drewN | apply IsS37.drew | apply IsS37.set_0 | apply IsS37.set_1 | apply IsS37.set_2) | exact HI0.out)); (case side2 => repeat (first | (with_reducible first | exact HB.out | apply below_alloc | apply pw_below_drewN | apply below_drew1 | refine below_set ?_ (IsS37.ge HI0.out)) | exact HB.out)); rintro e w24 ⟨rfl, hi, hb, hk⟩; have n0_ := Aside0.mk (KeepBut.trans (by repeat (first | (with_reducible first | exact HK.out | apply KeepBut.set_ | apply keep_drewN | apply keep_drew | apply keep_alloc) | exact HK.out)) hk (.inl rfl)); have n1_ := Aside0.mk (hb); have n2_ := Aside0.mk (hi); clear HK; clear HB; clear HI0; have HK := n0_; have HB := n1_; have HI0 := n2_; clear n0_ n1_ n2_; (try clear hb); (try clear hb2); (try clear hk); (try clear hi)) | (go_at_call 29; (with_reducible refine (strings_HasPrefix.calls t102 (⟨#[47, 47]⟩ : ByteArray) true _ A14.out).mono ?_); rintro e w' ⟨rfl, ⟨nd, rfl⟩⟩; (try first | exact ⟨rfl, _, World.drewN_drewN _ _ _⟩ | exact ⟨rfl, _, Eq.trans (World.drewN_drewN _ _ _) (congrArg (World.drewN _) (Nat.add_assoc _ _ _))⟩)) | (go_at_call 30; (with_reducible refine (token_scanner_rest.calls g t103 t104 t105 t107 t108 t109 t110 w0 _ ?side1 ?side2 A16.out).mono ?_); (case side1 => repeat (first | (with_reducible first | exact HI0.out | apply IsS37.alloc | apply IsS37.drewN | apply IsS37.drew | apply IsS37.set_0 | apply IsS37.set_1 | apply IsS37.set_2) | exact HI0.out)); (case side2 => repeat (first | (with_reducible first | exact HB.out | apply below_alloc | apply pw_below_drewN | apply below_drew1 | refine below_set ?_ (IsS37.ge HI0.out)) | exact HB.out)); rintro e w25 ⟨rfl, hi, hb, hk⟩; have n0_ := Aside0.mk (KeepBut.trans (by repeat (first | (with_reducible first | exact HK.out | apply KeepBut.set_ | apply keep_drewN | apply keep_drew | apply keep_alloc) | exact HK.out)) hk (.inl rfl)); have n1_ := Aside0.mk (hb); have n2_ := Aside0.mk (hi); clear HK; clear HB; clear HI0; have HK := n0_; have HB := n1_; have HI0 := n2_; clear n0_ n1_ n2_; (try clear hb); (try clear hb2); (try clear hk); (try clear hi)) | (go_at_call 31; (with_reducible refine (strings_IndexByte.calls t107 10 t111 _ A17.out).mono ?_); rintro e w' ⟨rfl, ⟨nd, rfl⟩⟩; (try first | exact ⟨rfl, _, World.drewN_drewN _ _ _⟩ | exact ⟨rfl, _, Eq.trans (World.drewN_drewN _ _ _) (congrArg (World.drewN _) (Nat.add_assoc _ _ _))⟩); obtain ⟨HGz26, hgz26⟩ := HI0.out; have hcz26_0 := cellS37_0 HGz26; have hcz26_1 := cellS37_1 HGz26; have hcz26_2 := cellS37_2 HGz26; have hfz26_0 := blk_frozen HGz26 0; have hfz26_1 := blk_frozen HGz26 1; have hfz26_2 := blk_frozen HGz26 2; clear HGz26 hgz26)))
                      go_roundg kj6
                      case measure => have := HK1.out; have := HJ6.out; omega
                      case rel => exact ⟨(t108), (wrap64 (t109 + t111)), (t110), H', ⟨by have := HK1.out; have := HJ6.out; omega⟩, ⟨by repeat (first | (with_reducible first | exact HI0.out | apply IsS37.alloc | apply IsS37.drewN | apply IsS37.drew | apply IsS37.set_0 | apply IsS37.set_1 | apply IsS37.set_2) | exact HI0.out)⟩, ⟨by repeat (first | (with_reducible first | exact HK.out | apply KeepBut.set_ | apply keep_drewN | apply keep_drew | apply keep_alloc) | exact HK.out)⟩, ⟨by repeat (first | (with_reducible first | exact HB.out | apply below_alloc | apply pw_below_drewN | apply below_drew1 | refine below_set ?_ (IsS37.ge HI0.out)) | exact HB.out)⟩⟩
                  · replace c15 := Bool.eq_false_iff.mpr c15
                    subst c15
                    have H1 : (some (t103, t104, t105)) = some (r1, r2, r3) := by rw [if_neg (show ¬ (false = true) by decide)] at H; exact H
                    clear H
                    have H := H1
                    clear H1
                    simp only [Option.some.injEq, Prod.mk.injEq] at H
                    obtain ⟨rfl, rfl, rfl⟩ := H
                    go_wp2_with (first | (go_at_call 30; (with_reducible refine (token_scanner_rest.calls g x1000_1 x1001_1 x1002_1 t102 t103 t104 t105 w0 _ ?side1 ?side2 A13.out).mono ?_); (case side1 => repeat (first | (with_reducible first | exact HI0.out | apply IsS37.alloc | apply IsS37.drewN | apply IsS37.drew | apply IsS37.set_0 | apply IsS37.set_1 | apply IsS37.set_2) | exact HI0.out)); (case side2 => repeat (first | (with_reducible first | exact HB.out | apply below_alloc | apply pw_below_drewN | apply below_drew1 | refine below_set ?_ (IsS37.ge HI0.out)) | exact HB.out)); rintro e w27 ⟨rfl, hi, hb, hk⟩; have n0_ := Aside0.mk (KeepBut.trans (by repeat (first | (with_reducible first | exact HK.out | apply KeepBut.set_ | apply keep_drewN | apply keep_drew | apply keep_alloc) | exact HK.out)) hk (.inl rfl)); have n1_ := Aside0.mk (hb); have n2_ := Aside0.mk (hi); clear HK; clear HB; clear HI0; have HK := n0_; have HB := n1_; have HI0 := n2_; clear n0_ n1_ n2_; (try clear hb); (try clear hb2); (try clear hk); (try clear hi)) | (go_at_call 29; (with_reducible refine (strings_HasPrefix.calls t102 (⟨#[47, 47]⟩ : ByteArray) false _ A14.out).mono ?_); rintro e w' ⟨rfl, ⟨nd, rfl⟩⟩; (try first | exact ⟨rfl, _, World.drewN_drewN _ _ _⟩ | exact ⟨rfl, _, Eq.trans (World.drewN_drewN _ _ _) (congrArg (World.drewN _) (Nat.add_assoc _ _ _))⟩)))
                    repeat (go_quiet (first | (go_at_call 30; (with_reducible refine (token_scanner_rest.calls g x1000_1 x1001_1 x1002_1 t102 t103 t104 t105 w0 _ ?side1 ?side2 A13.out).mono ?_); (case side1 => repeat (first | (with_reducible first | exact HI0.out | apply IsS37.alloc | apply IsS37.drewN | apply IsS37.drew | apply IsS37.set_0 | apply IsS37.set_1 | apply IsS37.set_2) | exact HI0.out)); (case side2 => repeat (first | (with_reducible first | exact HB.out | apply below_alloc | apply pw_below_drewN | apply below_drew1 | refine below_set ?_ (IsS37.ge HI0.out)) | exact HB.out)); rintro e w27 ⟨rfl, hi, hb, hk⟩; have n0_ := Aside0.mk (KeepBut.trans (by repeat (first | (with_reducible first | exact HK.out | apply KeepBut.set_ | apply keep_drewN | apply keep_drew | apply keep_alloc) | exact HK.out)) hk (.inl rfl)); have n1_ := Aside0.mk (hb); have n2_ := Aside0.mk (hi); clear HK; clear HB; clear HI0; have HK := n0_; have HB := n1_; have HI0 := n2_; clear n0_ n1_ n2_; (try clear hb); (try clear hb2); (try clear hk); (try clear hi)) | (go_at_call 29; (with_reducible refine (strings_HasPrefix.calls t102 (⟨#[47, 47]⟩ : ByteArray) false _ A14.out).mono ?_); rintro e w' ⟨rfl, ⟨nd, rfl⟩⟩; (try first | exact ⟨rfl, _, World.drewN_drewN _ _ _⟩ | exact ⟨rfl, _, Eq.trans (World.drewN_drewN _ _ _) (congrArg (World.drewN _) (Nat.add_assoc _ _ _))⟩))); try go_wp2_with (first | (go_at_call 30; (with_reducible refine (token_scanner_rest.calls g x1000_1 x1001_1 x1002_1 t102 t103 t104 t105 w0 _ ?side1 ?side2 A13.out).mono ?_); (case side1 => repeat (first | (with_reducible first | exact HI0.out | apply IsS37.alloc | apply IsS37.drewN | apply IsS37.drew | apply IsS37.set_0 | apply IsS37.set_1 | apply IsS37.set_2) | exact HI0.out)); (case side2 => repeat (first | (with_reducible first | exact HB.out | apply below_alloc | apply pw_below_drewN | apply below_drew1 | refine below_set ?_ (IsS37.ge HI0.out)) | exact HB.out)); rintro e w27 ⟨rfl, hi, hb, hk⟩; have n0_ := Aside0.mk (KeepBut.trans (by repeat (first | (with_reducible first | exact HK.out | apply KeepBut.set_ | apply keep_drewN | apply keep_drew | apply keep_alloc) | exact HK.out)) hk (.inl rfl)); have n1_ := Aside0.mk (hb); have n2_ := Aside0.mk (hi); clear HK; clear HB; clear HI0; have HK := n0_; have HB := n1_; have HI0 := n2_; clear n0_ n1_ n2_; (try clear hb); (try clear hb2); (try clear hk); (try clear hi)) | (go_at_call 29; (with_reducible refine (strings_HasPrefix.calls t102 (⟨#[47, 47]⟩ : ByteArray) false _ A14.out).mono ?_); rintro e w' ⟨rfl, ⟨nd, rfl⟩⟩; (try first | exact ⟨rfl, _, World.drewN_drewN _ _ _⟩ | exact ⟨rfl, _, Eq.trans (World.drewN_drewN _ _ _) (congrArg (World.drewN _) (Nat.add_assoc _ _ _))⟩))))
                    first | go_end0 | ((try simp only [Exit.inBlock, Exit.then]); refine bodyPost_ret (results_none rfl _ _ _) rfl ?_)
                    exact ⟨by first | rfl | (simp [errW_none, errW_some] <;> rfl) | (simp [*, errW_none, errW_some] <;> rfl), by repeat (first | (with_reducible first | exact HI0.out | apply IsS37.alloc | apply IsS37.drewN | apply IsS37.drew | apply IsS37.set_0 | apply IsS37.set_1 | apply IsS37.set_2) | exact HI0.out), by repeat (first | (with_reducible first | exact HB.out | apply below_alloc | apply pw_below_drewN | apply below_drew1 | refine below_set ?_ (IsS37.ge HI0.out)) | exact HB.out), by repeat (first | (with_reducible first | exact HK.out | apply KeepBut.set_ | apply keep_drewN | apply keep_drew | apply keep_alloc) | exact HK.out)⟩
        · rw [if_neg c3] at H
          exact absurd H (by simp)
      · rw [if_neg c2] at H
        have c2b0 : decide (x1001_1 < (x1000_1.size : Int)) = false := decide_eq_false c2
        clear c2
        simp only [Option.some.injEq, Prod.mk.injEq] at H
        obtain ⟨rfl, rfl, rfl⟩ := H
        obtain ⟨HGz28, hgz28⟩ := HI0.out
        have hcz28_0 := cellS37_0 HGz28
        have hcz28_1 := cellS37_1 HGz28
        have hcz28_2 := cellS37_2 HGz28
        have hfz28_0 := blk_frozen HGz28 0
        have hfz28_1 := blk_frozen HGz28 1
        have hfz28_2 := blk_frozen HGz28 2
        clear HGz28 hgz28
        go_wp2
        repeat (go_quiet (fail); try go_wp2)
        first | go_end0 | ((try simp only [Exit.inBlock, Exit.then]); refine bodyPost_ret (results_none rfl _ _ _) rfl ?_)
        exact ⟨by first | rfl | (simp [errW_none, errW_some] <;> rfl) | (simp [*, errW_none, errW_some] <;> rfl), by repeat (first | (with_reducible first | exact HI0.out | apply IsS37.alloc | apply IsS37.drewN | apply IsS37.drew | apply IsS37.set_0 | apply IsS37.set_1 | apply IsS37.set_2) | exact HI0.out), by repeat (first | (with_reducible first | exact HB.out | apply below_alloc | apply pw_below_drewN | apply below_drew1 | refine below_set ?_ (IsS37.ge HI0.out)) | exact HB.out), by repeat (first | (with_reducible first | exact HK.out | apply KeepBut.set_ | apply keep_drewN | apply keep_drew | apply keep_alloc) | exact HK.out)⟩

/-! ### token_IsKeyword: function 17 -/
def token_IsKeyword.f (a0 : ByteArray) : Option (Bool) := if a0.toList = ([118, 97, 114] : List UInt8) then (some true) else (if a0.toList = ([118, 111, 108, 97, 116, 105, 108, 101] : List UInt8) then (some true) else (if a0.toList = ([109, 117, 116, 101, 120] : List UInt8) then (some true) else (if a0.toList = ([114, 119, 108, 111, 99, 107] : List UInt8) then (some true) else (if a0.toList = ([99, 111, 110, 100] : List UInt8) then (some true) else (if a0.toList = ([102, 117, 116, 117, 114, 101] : List UInt8) then (some true) else (if a0.toList = ([116, 104, 114, 101, 97, 100] : List UInt8) then (some true) else (if a0.toList = ([105, 102] : List UInt8) then (some true) else (if a0.toList = ([101, 108, 115, 101] : List UInt8) then (some true) else (if a0.toList = ([119, 104, 105, 108, 101] : List UInt8) then (some true) else (if a0.toList = ([108, 111, 99, 107] : List UInt8) then (some true) else (if a0.toList = ([114, 101, 97, 100] : List UInt8) then (some true) else (if a0.toList = ([119, 114, 105, 116, 101] : List UInt8) then (some true) else (if a0.toList = ([116, 114, 97, 110, 115, 97, 99, 116, 105, 111, 110] : List UInt8) then (some true) else (if a0.toList = ([97, 116, 111, 109, 105, 99] : List UInt8) then (some true) else (if a0.toList = ([119, 97, 105, 116] : List UInt8) then (some true) else (if a0.toList = ([110, 111, 116, 105, 102, 121] : List UInt8) then (some true) else (if a0.toList = ([110, 111, 116, 105, 102, 121, 97, 108, 108] : List UInt8) then (some true) else (if a0.toList = ([115, 112, 97, 119, 110] : List UInt8) then (some true) else (if a0.toList = ([106, 111, 105, 110] : List UInt8) then (some true) else (if a0.toList = ([115, 101, 116] : List UInt8) then (some true) else (if a0.toList = ([103, 101, 116] : List UInt8) then (some true) else (some false))))))))))))))))))))))
set_option maxHeartbeats 8000000 in
set_option maxRecDepth 100000 in
theorem token_IsKeyword.calls (a0 : ByteArray) (r : Bool) (w : World) (h : token_IsKeyword.f a0 = some r) :
    Calls Tryd.prog 17 #[.string a0] w fun e w' => e = .returned (.bool r) ∧ Drawn0 w w' := by
  have H : (if a0.toList = ([118, 97, 114] : List UInt8) then (some true) else (if a0.toList = ([118, 111, 108, 97, 116, 105, 108, 101] : List UInt8) then (some true) else (if a0.toList = ([109, 117, 116, 101, 120] : List UInt8) then (some true) else (if a0.toList = ([114, 119, 108, 111, 99, 107] : List UInt8) then (some true) else (if a0.toList = ([99, 111, 110, 100] : List UInt8) then (some true) else (if a0.toList = ([102, 117, 116, 117, 114, 101] : List UInt8) then (some true) else (if a0.toList = ([116, 104, 114, 101, 97, 100] : List UInt8) then (some true) else (if a0.toList = ([105, 102] : List UInt8) then (some true) else (if a0.toList = ([101, 108, 115, 101] : List UInt8) then (some true) else (if a0.toList = ([119, 104, 105, 108, 101] : List UInt8) then (some true) else (if a0.toList = ([108, 111, 99, 107] : List UInt8) then (some true) else (if a0.toList = ([114, 101, 97, 100] : List UInt8) then (some true) else (if a0.toList = ([119, 114, 105, 116, 101] : List UInt8) then (some true) else (if a0.toList = ([116, 114, 97, 110, 115, 97, 99, 116, 105, 111, 110] : List UInt8) then (some true) else (if a0.toList = ([97, 116, 111, 109, 105, 99] : List UInt8) then (some true) else (if a0.toList = ([119, 97, 105, 116] : List UInt8) then (some true) else (if a0.toList = ([110, 111, 116, 105, 102, 121] : List UInt8) then (some true) else (if a0.toList = ([110, 111, 116, 105, 102, 121, 97, 108, 108] : List UInt8) then (some true) else (if a0.toList = ([115, 112, 97, 119, 110] : List UInt8) then (some true) else (if a0.toList = ([106, 111, 105, 110] : List UInt8) then (some true) else (if a0.toList = ([115, 101, 116] : List UInt8) then (some true) else (if a0.toList = ([103, 101, 116] : List UInt8) then (some true) else (some false))))))))))))))))))))))) = some r := h
  clear h
  by_cases c2 : a0.toList = ([118, 97, 114] : List UInt8)
  · rw [if_pos c2] at H
    have c2b0 : (a0.toList == ([118, 97, 114] : List UInt8)) = true := beq_iff_eq.mpr c2
    have c2b1 : (a0.toList != ([118, 97, 114] : List UInt8)) = false := bne_eq_false_iff_eq.mpr c2
    clear c2
    obtain rfl := Option.some.inj H
    go_enter Tryd.func17, Tryd.ntmps17
    go_wp2
    go_ret
    exact ⟨by first | rfl | (simp; done) | (simp [*]; done), by repeat (first | exact Drawn0.refl _ | apply Drawn0.step)⟩
  · rw [if_neg c2] at H
    have c2b0 : (a0.toList == ([118, 97, 114] : List UInt8)) = false := beq_eq_false_iff_ne.mpr c2
    have c2b1 : (a0.toList != ([118, 97, 114] : List UInt8)) = true := bne_iff_ne.mpr c2
    by_cases c3 : a0.toList = ([118, 111, 108, 97, 116, 105, 108, 101] : List UInt8)
    · rw [if_pos c3] at H
      have c3b0 : (a0.toList == ([118, 111, 108, 97, 116, 105, 108, 101] : List UInt8)) = true := beq_iff_eq.mpr c3
      have c3b1 : (a0.toList != ([118, 111, 108, 97, 116, 105, 108, 101] : List UInt8)) = false := bne_eq_false_iff_eq.mpr c3
      clear c3
      obtain rfl := Option.some.inj H
      go_enter Tryd.func17, Tryd.ntmps17
      go_wp2
      go_ret
      exact ⟨by first | rfl | (simp; done) | (simp [*]; done), by repeat (first | exact Drawn0.refl _ | apply Drawn0.step)⟩
    · rw [if_neg c3] at H
      have c3b0 : (a0.toList == ([118, 111, 108, 97, 116, 105, 108, 101] : List UInt8)) = false := beq_eq_false_iff_ne.mpr c3
      have c3b1 : (a0.toList != ([118, 111, 108, 97, 116, 105, 108, 101] : List UInt8)) = true := bne_iff_ne.mpr c3
      by_cases c4 : a0.toList = ([109, 117, 116, 101, 120] : List UInt8)
      · rw [if_pos c4] at H
        have c4b0 : (a0.toList == ([109, 117, 116, 101, 120] : List UInt8)) = true := beq_iff_eq.mpr c4
        have c4b1 : (a0.toList != ([109, 117, 116, 101, 120] : List UInt8)) = false := bne_eq_false_iff_eq.mpr c4
        clear c4
        obtain rfl := Option.some.inj H
        go_enter Tryd.func17, Tryd.ntmps17
        go_wp2
        go_ret
        exact ⟨by first | rfl | (simp; done) | (simp [*]; done), by repeat (first | exact Drawn0.refl _ | apply Drawn0.step)⟩
      · rw [if_neg c4] at H
        have c4b0 : (a0.toList == ([109, 117, 116, 101, 120] : List UInt8)) = false := beq_eq_false_iff_ne.mpr c4
        have c4b1 : (a0.toList != ([109, 117, 116, 101, 120] : List UInt8)) = true := bne_iff_ne.mpr c4
        by_cases c5 : a0.toList = ([114, 119, 108, 111, 99, 107] : List UInt8)
        · rw [if_pos c5] at H
          have c5b0 : (a0.toList == ([114, 119, 108, 111, 99, 107] : List UInt8)) = true := beq_iff_eq.mpr c5
          have c5b1 : (a0.toList != ([114, 119, 108, 111, 99, 107] : List UInt8)) = false := bne_eq_false_iff_eq.mpr c5
          clear c5
          obtain rfl := Option.some.inj H
          go_enter Tryd.func17, Tryd.ntmps17
          go_wp2
          go_ret
          exact ⟨by first | rfl | (simp; done) | (simp [*]; done), by repeat (first | exact Drawn0.refl _ | apply Drawn0.step)⟩
        · rw [if_neg c5] at H
          have c5b0 : (a0.toList == ([114, 119, 108, 111, 99, 107] : List UInt8)) = false := beq_eq_false_iff_ne.mpr c5
          have c5b1 : (a0.toList != ([114, 119, 108, 111, 99, 107] : List UInt8)) = true := bne_iff_ne.mpr c5
          by_cases c6 : a0.toList = ([99, 111, 110, 100] : List UInt8)
          · rw [if_pos c6] at H
            have c6b0 : (a0.toList == ([99, 111, 110, 100] : List UInt8)) = true := beq_iff_eq.mpr c6
            have c6b1 : (a0.toList != ([99, 111, 110, 100] : List UInt8)) = false := bne_eq_false_iff_eq.mpr c6
            clear c6
            obtain rfl := Option.some.inj H
            go_enter Tryd.func17, Tryd.ntmps17
            go_wp2
            go_ret
            exact ⟨by first | rfl | (simp; done) | (simp [*]; done), by repeat (first | exact Drawn0.refl _ | apply Drawn0.step)⟩
          · rw [if_neg c6] at H
            have c6b0 : (a0.toList == ([99, 111, 110, 100] : List UInt8)) = false := beq_eq_false_iff_ne.mpr c6
            have c6b1 : (a0.toList != ([99, 111, 110, 100] : List UInt8)) = true := bne_iff_ne.mpr c6
            by_cases c7 : a0.toList = ([102, 117, 116, 117, 114, 101] : List UInt8)
            · rw [if_pos c7] at H
              have c7b0 : (a0.toList == ([102, 117, 116, 117, 114, 101] : List UInt8)) = true := beq_iff_eq.mpr c7
              have c7b1 : (a0.toList != ([102, 117, 116, 117, 114, 101] : List UInt8)) = false := bne_eq_false_iff_eq.mpr c7
              clear c7
              obtain rfl := Option.some.inj H
              go_enter Tryd.func17, Tryd.ntmps17
              go_wp2
              go_ret
              exact ⟨by first | rfl | (simp; done) | (simp [*]; done), by repeat (first | exact Drawn0.refl _ | apply Drawn0.step)⟩
            · rw [if_neg c7] at H
              have c7b0 : (a0.toList == ([102, 117, 116, 117, 114, 101] : List UInt8)) = false := beq_eq_false_iff_ne.mpr c7
              have c7b1 : (a0.toList != ([102, 117, 116, 117, 114, 101] : List UInt8)) = true := bne_iff_ne.mpr c7
              by_cases c8 : a0.toList = ([116, 104, 114, 101, 97, 100] : List UInt8)
              · rw [if_pos c8] at H
                have c8b0 : (a0.toList == ([116, 104, 114, 101, 97, 100] : List UInt8)) = true := beq_iff_eq.mpr c8
                have c8b1 : (a0.toList != ([116, 104, 114, 101, 97, 100] : List UInt8)) = false := bne_eq_false_iff_eq.mpr c8
                clear c8
                obtain rfl := Option.some.inj H
                go_enter Tryd.func17, Tryd.ntmps17
                go_wp2
                go_ret
                exact ⟨by first | rfl | (simp; done) | (simp [*]; done), by repeat (first | exact Drawn0.refl _ | apply Drawn0.step)⟩
              · rw [if_neg c8] at H
                have c8b0 : (a0.toList == ([116, 104, 114, 101, 97, 100] : List UInt8)) = false := beq_eq_false_iff_ne.mpr c8
                have c8b1 : (a0.toList != ([116, 104, 114, 101, 97, 100] : List UInt8)) = true := bne_iff_ne.mpr c8
                by_cases c9 : a0.toList = ([105, 102] : List UInt8)
                · rw [if_pos c9] at H
                  have c9b0 : (a0.toList == ([105, 102] : List UInt8)) = true := beq_iff_eq.mpr c9
                  have c9b1 : (a0.toList != ([105, 102] : List UInt8)) = false := bne_eq_false_iff_eq.mpr c9
                  clear c9
                  obtain rfl := Option.some.inj H
                  go_enter Tryd.func17, Tryd.ntmps17
                  go_wp2
                  go_ret
                  exact ⟨by first | rfl | (simp; done) | (simp [*]; done), by repeat (first | exact Drawn0.refl _ | apply Drawn0.step)⟩
                · rw [if_neg c9] at H
                  have c9b0 : (a0.toList == ([105, 102] : List UInt8)) = false := beq_eq_false_iff_ne.mpr c9
                  have c9b1 : (a0.toList != ([105, 102] : List UInt8)) = true := bne_iff_ne.mpr c9
                  by_cases c10 : a0.toList = ([101, 108, 115, 101] : List UInt8)
                  · rw [if_pos c10] at H
                    have c10b0 : (a0.toList == ([101, 108, 115, 101] : List UInt8)) = true := beq_iff_eq.mpr c10
                    have c10b1 : (a0.toList != ([101, 108, 115, 101] : List UInt8)) = false := bne_eq_false_iff_eq.mpr c10
                    clear c10
                    obtain rfl := Option.some.inj H
                    go_enter Tryd.func17, Tryd.ntmps17
                    go_wp2
                    go_ret
                    exact ⟨by first | rfl | (simp; done) | (simp [*]; done), by repeat (first | exact Drawn0.refl _ | apply Drawn0.step)⟩
                  · rw [if_neg c10] at H
                    have c10b0 : (a0.toList == ([101, 108, 115, 101] : List UInt8)) = false := beq_eq_false_iff_ne.mpr c10
                    have c10b1 : (a0.toList != ([101, 108, 115, 101] : List UInt8)) = true := bne_iff_ne.mpr c10
                    by_cases c11 : a0.toList = ([119, 104, 105, 108, 101] : List UInt8)
                    · rw [if_pos c11] at H
                      have c11b0 : (a0.toList == ([119, 104, 105, 108, 101] : List UInt8)) = true := beq_iff_eq.mpr c11
                      have c11b1 : (a0.toList != ([119, 104, 105, 108, 101] : List UInt8)) = false := bne_eq_false_iff_eq.mpr c11
                      clear c11
                      obtain rfl := Option.some.inj H
                      go_enter Tryd.func17, Tryd.ntmps17
                      go_wp2
                      go_ret
                      exact ⟨by first | rfl | (simp; done) | (simp [*]; done), by repeat (first | exact Drawn0.refl _ | apply Drawn0.step)⟩
                    · rw [if_neg c11] at H
                      have c11b0 : (a0.toList == ([119, 104, 105, 108, 101] : List UInt8)) = false := beq_eq_false_iff_ne.mpr c11
                      have c11b1 : (a0.toList != ([119, 104, 105, 108, 101] : List UInt8)) = true := bne_iff_ne.mpr c11
                      by_cases c12 : a0.toList = ([108, 111, 99, 107] : List UInt8)
                      · rw [if_pos c12] at H
                        have c12b0 : (a0.toList == ([108, 111, 99, 107] : List UInt8)) = true := beq_iff_eq.mpr c12
                        have c12b1 : (a0.toList != ([108, 111, 99, 107] : List UInt8)) = false := bne_eq_false_iff_eq.mpr c12
                        clear c12
                        obtain rfl := Option.some.inj H
                        go_enter Tryd.func17, Tryd.ntmps17
                        go_wp2
                        go_ret
                        exact ⟨by first | rfl | (simp; done) | (simp [*]; done), by repeat (first | exact Drawn0.refl _ | apply Drawn0.step)⟩
                      · rw [if_neg c12] at H
                        have c12b0 : (a0.toList == ([108, 111, 99, 107] : List UInt8)) = false := beq_eq_false_iff_ne.mpr c12
                        have c12b1 : (a0.toList != ([108, 111, 99, 107] : List UInt8)) = true := bne_iff_ne.mpr c12
                        by_cases c13 : a0.toList = ([114, 101, 97, 100] : List UInt8)
                        · rw [if_pos c13] at H
                          have c13b0 : (a0.toList == ([114, 101, 97, 100] : List UInt8)) = true := beq_iff_eq.mpr c13
                          have c13b1 : (a0.toList != ([114, 101, 97, 100] : List UInt8)) = false := bne_eq_false_iff_eq.mpr c13
                          clear c13
                          obtain rfl := Option.some.inj H
                          go_enter Tryd.func17, Tryd.ntmps17
                          go_wp2
                          go_ret
                          exact ⟨by first | rfl | (simp; done) | (simp [*]; done), by repeat (first | exact Drawn0.refl _ | apply Drawn0.step)⟩
                        · rw [if_neg c13] at H
                          have c13b0 : (a0.toList == ([114, 101, 97, 100] : List UInt8)) = false := beq_eq_false_iff_ne.mpr c13
                          have c13b1 : (a0.toList != ([114, 101, 97, 100] : List UInt8)) = true := bne_iff_ne.mpr c13
                          by_cases c14 : a0.toList = ([119, 114, 105, 116, 101] : List UInt8)
                          · rw [if_pos c14] at H
                            have c14b0 : (a0.toList == ([119, 114, 105, 116, 101] : List UInt8)) = true := beq_iff_eq.mpr c14
                            have c14b1 : (a0.toList != ([119, 114, 105, 116, 101] : List UInt8)) = false := bne_eq_false_iff_eq.mpr c14
                            clear c14
                            obtain rfl := Option.some.inj H
                            go_enter Tryd.func17, Tryd.ntmps17
                            go_wp2
                            go_ret
                            exact ⟨by first | rfl | (simp; done) | (simp [*]; done), by repeat (first | exact Drawn0.refl _ | apply Drawn0.step)⟩
                          · rw [if_neg c14] at H
                            have c14b0 : (a0.toList == ([119, 114, 105, 116, 101] : List UInt8)) = false := beq_eq_false_iff_ne.mpr c14
                            have c14b1 : (a0.toList != ([119, 114, 105, 116, 101] : List UInt8)) = true := bne_iff_ne.mpr c14
                            by_cases c15 : a0.toList = ([116, 114, 97, 110, 115, 97, 99, 116, 105, 111, 110] : List UInt8)
                            · rw [if_pos c15] at H
                              have c15b0 : (a0.toList == ([116, 114, 97, 110, 115, 97, 99, 116, 105, 111, 110] : List UInt8)) = true := beq_iff_eq.mpr c15
                              have c15b1 : (a0.toList != ([116, 114, 97, 110, 115, 97, 99, 116, 105, 111, 110] : List UInt8)) = false := bne_eq_false_iff_eq.mpr c15
                              clear c15
                              obtain rfl := Option.some.inj H
                              go_enter Tryd.func17, Tryd.ntmps17
                              go_wp2
                              go_ret
                              exact ⟨by first | rfl | (simp; done) | (simp [*]; done), by repeat (first | exact Drawn0.refl _ | apply Drawn0.step)⟩
                            · rw [if_neg c15] at H
                              have c15b0 : (a0.toList == ([116, 114, 97, 110, 115, 97, 99, 116, 105, 111, 110] : List UInt8)) = false := beq_eq_false_iff_ne.mpr c15
                              have c15b1 : (a0.toList != ([116, 114, 97, 110, 115, 97, 99, 116, 105, 111, 110] : List UInt8)) = true := bne_iff_ne.mpr c15
                              by_cases c16 : a0.toList = ([97, 116, 111, 109, 105, 99] : List UInt8)
                              · rw [if_pos c16] at H
                                have c16b0 : (a0.toList == ([97, 116, 111, 109, 105, 99] : List UInt8)) = true := beq_iff_eq.mpr c16
                                have c16b1 : (a0.toList != ([97, 116, 111, 109, 105, 99] : List UInt8)) = false := bne_eq_false_iff_eq.mpr c16
                                clear c16
                                obtain rfl := Option.some.inj H
                                go_enter Tryd.func17, Tryd.ntmps17
                                go_wp2
                                go_ret
                                exact ⟨by first | rfl | (simp; done) | (simp [*]; done), by repeat (first | exact Drawn0.refl _ | apply Drawn0.step)⟩
                              · rw [if_neg c16] at H
                                have c16b0 : (a0.toList == ([97, 116, 111, 109, 105, 99] : List UInt8)) = false := beq_eq_false_iff_ne.mpr c16
                                have c16b1 : (a0.toList != ([97, 116, 111, 109, 105, 99] : List UInt8)) = true := bne_iff_ne.mpr c16
                                by_cases c17 : a0.toList = ([119, 97, 105, 116] : List UInt8)
                                · rw [if_pos c17] at H
                                  have c17b0 : (a0.toList == ([119, 97, 105, 116] : List UInt8)) = true := beq_iff_eq.mpr c17
                                  have c17b1 : (a0.toList != ([119, 97, 105, 116] : List UInt8)) = false := bne_eq_false_iff_eq.mpr c17
                                  clear c17
                                  obtain rfl := Option.some.inj H
                                  go_enter Tryd.func17, Tryd.ntmps17
                                  go_wp2
                                  go_ret
                                  exact ⟨by first | rfl | (simp; done) | (simp [*]; done), by repeat (first | exact Drawn0.refl _ | apply Drawn0.step)⟩
                                · rw [if_neg c17] at H
                                  have c17b0 : (a0.toList == ([119, 97, 105, 116] : List UInt8)) = false := beq_eq_false_iff_ne.mpr c17
                                  have c17b1 : (a0.toList != ([119, 97, 105, 116] : List UInt8)) = true := bne_iff_ne.mpr c17
                                  by_cases c18 : a0.toList = ([110, 111, 116, 105, 102, 121] : List UInt8)
                                  · rw [if_pos c18] at H
                                    have c18b0 : (a0.toList == ([110, 111, 116, 105, 102, 121] : List UInt8)) = true := beq_iff_eq.mpr c18
                                    have c18b1 : (a0.toList != ([110, 111, 116, 105, 102, 121] : List UInt8)) = false := bne_eq_false_iff_eq.mpr c18
                                    clear c18
                                    obtain rfl := Option.some.inj H
                                    go_enter Tryd.func17, Tryd.ntmps17
                                    go_wp2
                                    go_ret
                                    exact ⟨by first | rfl | (simp; done) | (simp [*]; done), by repeat (first | exact Drawn0.refl _ | apply Drawn0.step)⟩
                                  · rw [if_neg c18] at H
                                    have c18b0 : (a0.toList == ([110, 111, 116, 105, 102, 121] : List UInt8)) = false := beq_eq_false_iff_ne.mpr c18
                                    have c18b1 : (a0.toList != ([110, 111, 116, 105, 102, 121] : List UInt8)) = true := bne_iff_ne.mpr c18
                                    by_cases c19 : a0.toList = ([110, 111, 116, 105, 102, 121, 97, 108, 108] : List UInt8)
                                    · rw [if_pos c19] at H
                                      have c19b0 : (a0.toList == ([110, 111, 116, 105, 102, 121, 97, 108, 108] : List UInt8)) = true := beq_iff_eq.mpr c19
                                      have c19b1 : (a0.toList != ([110, 111, 116, 105, 102, 121, 97, 108, 108] : List UInt8)) = false := bne_eq_false_iff_eq.mpr c19
                                      clear c19
                                      obtain rfl := Option.some.inj H
                                      go_enter Tryd.func17, Tryd.ntmps17
                                      go_wp2
                                      go_ret
                                      exact ⟨by first | rfl | (simp; done) | (simp [*]; done), by repeat (first | exact Drawn0.refl _ | apply Drawn0.step)⟩
                                    · rw [if_neg c19] at H
                                      have c19b0 : (a0.toList == ([110, 111, 116, 105, 102, 121, 97, 108, 108] : List UInt8)) = false := beq_eq_false_iff_ne.mpr c19
                                      have c19b1 : (a0.toList != ([110, 111, 116, 105, 102, 121, 97, 108, 108] : List UInt8)) = true := bne_iff_ne.mpr c19
                                      by_cases c20 : a0.toList = ([115, 112, 97, 119, 110] : List UInt8)
                                      · rw [if_pos c20] at H
                                        have c20b0 : (a0.toList == ([115, 112, 97, 119, 110] : List UInt8)) = true := beq_iff_eq.mpr c20
                                        have c20b1 : (a0.toList != ([115, 112, 97, 119, 110] : List UInt8)) = false := bne_eq_false_iff_eq.mpr c20
                                        clear c20
                                        obtain rfl := Option.some.inj H
                                        go_enter Tryd.func17, Tryd.ntmps17
                                        go_wp2
                                        go_ret
                                        exact ⟨by first | rfl | (simp; done) | (simp [*]; done), by repeat (first | exact Drawn0.refl _ | apply Drawn0.step)⟩
                                      · rw [if_neg c20] at H
                                        have c20b0 : (a0.toList == ([115, 112, 97, 119, 110] : List UInt8)) = false := beq_eq_false_iff_ne.mpr c20
                                        have c20b1 : (a0.toList != ([115, 112, 97, 119, 110] : List UInt8)) = true := bne_iff_ne.mpr c20
                                        by_cases c21 : a0.toList = ([106, 111, 105, 110] : List UInt8)
                                        · rw [if_pos c21] at H
                                          have c21b0 : (a0.toList == ([106, 111, 105, 110] : List UInt8)) = true := beq_iff_eq.mpr c21
                                          have c21b1 : (a0.toList != ([106, 111, 105, 110] : List UInt8)) = false := bne_eq_false_iff_eq.mpr c21
                                          clear c21
                                          obtain rfl := Option.some.inj H
                                          go_enter Tryd.func17, Tryd.ntmps17
                                          go_wp2
                                          go_ret
                                          exact ⟨by first | rfl | (simp; done) | (simp [*]; done), by repeat (first | exact Drawn0.refl _ | apply Drawn0.step)⟩
                                        · rw [if_neg c21] at H
                                          have c21b0 : (a0.toList == ([106, 111, 105, 110] : List UInt8)) = false := beq_eq_false_iff_ne.mpr c21
                                          have c21b1 : (a0.toList != ([106, 111, 105, 110] : List UInt8)) = true := bne_iff_ne.mpr c21
                                          by_cases c22 : a0.toList = ([115, 101, 116] : List UInt8)
                                          · rw [if_pos c22] at H
                                            have c22b0 : (a0.toList == ([115, 101, 116] : List UInt8)) = true := beq_iff_eq.mpr c22
                                            have c22b1 : (a0.toList != ([115, 101, 116] : List UInt8)) = false := bne_eq_false_iff_eq.mpr c22
                                            clear c22
                                            obtain rfl := Option.some.inj H
                                            go_enter Tryd.func17, Tryd.ntmps17
                                            go_wp2
                                            go_ret
                                            exact ⟨by first | rfl | (simp; done) | (simp [*]; done), by repeat (first | exact Drawn0.refl _ | apply Drawn0.step)⟩
                                          · rw [if_neg c22] at H
                                            have c22b0 : (a0.toList == ([115, 101, 116] : List UInt8)) = false := beq_eq_false_iff_ne.mpr c22
                                            have c22b1 : (a0.toList != ([115, 101, 116] : List UInt8)) = true := bne_iff_ne.mpr c22
                                            by_cases c23 : a0.toList = ([103, 101, 116] : List UInt8)
                                            · rw [if_pos c23] at H
                                              have c23b0 : (a0.toList == ([103, 101, 116] : List UInt8)) = true := beq_iff_eq.mpr c23
                                              have c23b1 : (a0.toList != ([103, 101, 116] : List UInt8)) = false := bne_eq_false_iff_eq.mpr c23
                                              clear c23
                                              obtain rfl := Option.some.inj H
                                              go_enter Tryd.func17, Tryd.ntmps17
                                              go_wp2
                                              go_ret
                                              exact ⟨by first | rfl | (simp; done) | (simp [*]; done), by repeat (first | exact Drawn0.refl _ | apply Drawn0.step)⟩
                                            · rw [if_neg c23] at H
                                              have c23b0 : (a0.toList == ([103, 101, 116] : List UInt8)) = false := beq_eq_false_iff_ne.mpr c23
                                              have c23b1 : (a0.toList != ([103, 101, 116] : List UInt8)) = true := bne_iff_ne.mpr c23
                                              obtain rfl := Option.some.inj H
                                              go_enter Tryd.func17, Tryd.ntmps17
                                              go_wp2
                                              go_ret
                                              exact ⟨by first | rfl | (simp; done) | (simp [*]; done), by repeat (first | exact Drawn0.refl _ | apply Drawn0.step)⟩

/-! ### token_letter: function 27 -/
def token_letter.f (a0 : Int) : Option (Bool) := if a0 ≥ 97 then (if a0 ≤ 122 then (some true) else (if a0 ≥ 65 then (some (decide (a0 ≤ 90))) else (some false))) else (if a0 ≥ 65 then (some (decide (a0 ≤ 90))) else (some false))
set_option maxHeartbeats 8000000 in
set_option maxRecDepth 100000 in
theorem token_letter.calls (a0 : Int) (r : Bool) (w : World) (h : token_letter.f a0 = some r) :
    Calls Tryd.prog 27 #[.int .u8 a0] w fun e w' => e = .returned (.bool r) ∧ Drawn0 w w' := by
  have H : (if a0 ≥ 97 then (if a0 ≤ 122 then (some true) else (if a0 ≥ 65 then (some (decide (a0 ≤ 90))) else (some false))) else (if a0 ≥ 65 then (some (decide (a0 ≤ 90))) else (some false))) = some r := h
  clear h
  by_cases c2 : a0 ≥ 97
  · rw [if_pos c2] at H
    have c2b0 : decide (97 ≤ a0) = true := decide_eq_true c2
    clear c2
    by_cases c3 : a0 ≤ 122
    · rw [if_pos c3] at H
      have c3b0 : decide (a0 ≤ 122) = true := decide_eq_true c3
      clear c3
      obtain rfl := Option.some.inj H
      go_enter Tryd.func27, Tryd.ntmps27
      go_wp2
      go_ret
      exact ⟨by first | rfl | (simp; done) | (simp [*]; done), by repeat (first | exact Drawn0.refl _ | apply Drawn0.step)⟩
    · rw [if_neg c3] at H
      have c3b0 : decide (a0 ≤ 122) = false := decide_eq_false c3
      clear c3
      by_cases c4 : a0 ≥ 65
      · rw [if_pos c4] at H
        have c4b0 : decide (65 ≤ a0) = true := decide_eq_true c4
        clear c4
        obtain rfl := Option.some.inj H
        go_enter Tryd.func27, Tryd.ntmps27
        go_wp2
        go_ret
        exact ⟨by first | rfl | (simp; done) | (simp [*]; done), by repeat (first | exact Drawn0.refl _ | apply Drawn0.step)⟩
      · rw [if_neg c4] at H
        have c4b0 : decide (65 ≤ a0) = false := decide_eq_false c4
        clear c4
        obtain rfl := Option.some.inj H
        go_enter Tryd.func27, Tryd.ntmps27
        go_wp2
        go_ret
        exact ⟨by first | rfl | (simp; done) | (simp [*]; done), by repeat (first | exact Drawn0.refl _ | apply Drawn0.step)⟩
  · rw [if_neg c2] at H
    have c2b0 : decide (97 ≤ a0) = false := decide_eq_false c2
    clear c2
    by_cases c5 : a0 ≥ 65
    · rw [if_pos c5] at H
      have c5b0 : decide (65 ≤ a0) = true := decide_eq_true c5
      clear c5
      obtain rfl := Option.some.inj H
      go_enter Tryd.func27, Tryd.ntmps27
      go_wp2
      go_ret
      exact ⟨by first | rfl | (simp; done) | (simp [*]; done), by repeat (first | exact Drawn0.refl _ | apply Drawn0.step)⟩
    · rw [if_neg c5] at H
      have c5b0 : decide (65 ≤ a0) = false := decide_eq_false c5
      clear c5
      obtain rfl := Option.some.inj H
      go_enter Tryd.func27, Tryd.ntmps27
      go_wp2
      go_ret
      exact ⟨by first | rfl | (simp; done) | (simp [*]; done), by repeat (first | exact Drawn0.refl _ | apply Drawn0.step)⟩

/-! ### token_digit: function 33 -/
def token_digit.f (a0 : Int) : Option (Bool) := if a0 ≥ 48 then (some (decide (a0 ≤ 57))) else (some false)
set_option maxHeartbeats 8000000 in
set_option maxRecDepth 100000 in
theorem token_digit.calls (a0 : Int) (r : Bool) (w : World) (h : token_digit.f a0 = some r) :
    Calls Tryd.prog 33 #[.int .u8 a0] w fun e w' => e = .returned (.bool r) ∧ Drawn0 w w' := by
  have H : (if a0 ≥ 48 then (some (decide (a0 ≤ 57))) else (some false)) = some r := h
  clear h
  by_cases c2 : a0 ≥ 48
  · rw [if_pos c2] at H
    have c2b0 : decide (48 ≤ a0) = true := decide_eq_true c2
    clear c2
    obtain rfl := Option.some.inj H
    go_enter Tryd.func33, Tryd.ntmps33
    go_wp2
    go_ret
    exact ⟨by first | rfl | (simp; done) | (simp [*]; done), by repeat (first | exact Drawn0.refl _ | apply Drawn0.step)⟩
  · rw [if_neg c2] at H
    have c2b0 : decide (48 ≤ a0) = false := decide_eq_false c2
    clear c2
    obtain rfl := Option.some.inj H
    go_enter Tryd.func33, Tryd.ntmps33
    go_wp2
    go_ret
    exact ⟨by first | rfl | (simp; done) | (simp [*]; done), by repeat (first | exact Drawn0.refl _ | apply Drawn0.step)⟩

/-! ### token_inner: function 26 -/
def token_inner.f (a0 : Int) : Option (Bool) := (token_letter.f a0).bind fun t116 => (if t116 = true then (some true) else ((token_digit.f a0).bind fun t117 => (if t117 = true then (some true) else (some (a0 == 95)))))
set_option maxHeartbeats 8000000 in
set_option maxRecDepth 100000 in
theorem token_inner.calls (a0 : Int) (r : Bool) (w : World) (h : token_inner.f a0 = some r) :
    Calls Tryd.prog 26 #[.int .u8 a0] w fun e w' => e = .returned (.bool r) ∧ Drawn0 w w' := by
  have H : ((token_letter.f a0).bind fun t116 => (if t116 = true then (some true) else ((token_digit.f a0).bind fun t117 => (if t117 = true then (some true) else (some (a0 == 95)))))) = some r := h
  clear h
  replace H := Option.bind_eq_some_iff.mp H
  obtain ⟨t116, A20, H⟩ := H
  replace H : (if t116 = true then (some true) else ((token_digit.f a0).bind fun t117 => (if t117 = true then (some true) else (some (a0 == 95))))) = some r := H
  have A2 := Aside0.mk A20
  clear A20
  by_cases c3 : t116 = true
  · subst c3
    have H1 : (some true) = some r := by rw [if_pos rfl] at H; exact H
    clear H
    have H := H1
    clear H1
    obtain rfl := Option.some.inj H
    go_enter Tryd.func26, Tryd.ntmps26
    go_wp2_with (first | ((with_reducible refine gate_callee (f := 27) rfl ?_); refine goesL_ (some 4) rfl rfl Tryd.func27 (by kernel_rfl) rfl #[.int .u8 a0] rfl (by (try simp only [List.map_toArray, List.map_cons, List.map_nil]); first | done | rfl | (simp only [List.length_drop, List.length_take]; rfl)) ?_; (with_reducible refine (token_letter.calls a0 true _ A2.out).mono ?_); rintro e w' ⟨rfl, ⟨nd, rfl⟩⟩; refine ⟨_, rfl, ?_⟩))
    go_ret
    exact ⟨by first | rfl | (simp; done) | (simp [*]; done), by repeat (first | exact Drawn0.refl _ | apply Drawn0.step)⟩
  · replace c3 := Bool.eq_false_iff.mpr c3
    subst c3
    have H1 : ((token_digit.f a0).bind fun t117 => (if t117 = true then (some true) else (some (a0 == 95)))) = some r := by rw [if_neg (show ¬ (false = true) by decide)] at H; exact H
    clear H
    have H := H1
    clear H1
    replace H := Option.bind_eq_some_iff.mp H
    obtain ⟨t117, A40, H⟩ := H
    replace H : (if t117 = true then (some true) else (some (a0 == 95))) = some r := H
    have A4 := Aside0.mk A40
    clear A40
    by_cases c5 : t117 = true
    · subst c5
      have H1 : (some true) = some r := by rw [if_pos rfl] at H; exact H
      clear H
      have H := H1
      clear H1
      obtain rfl := Option.some.inj H
      go_enter Tryd.func26, Tryd.ntmps26
      go_wp2_with (first | ((with_reducible refine gate_callee (f := 27) rfl ?_); refine goesL_ (some 4) rfl rfl Tryd.func27 (by kernel_rfl) rfl #[.int .u8 a0] rfl (by (try simp only [List.map_toArray, List.map_cons, List.map_nil]); first | done | rfl | (simp only [List.length_drop, List.length_take]; rfl)) ?_; (with_reducible refine (token_letter.calls a0 false _ A2.out).mono ?_); rintro e w' ⟨rfl, ⟨nd, rfl⟩⟩; refine ⟨_, rfl, ?_⟩) | (go_at_call 33; (with_reducible refine (token_digit.calls a0 true _ A4.out).mono ?_); rintro e w' ⟨rfl, ⟨nd, rfl⟩⟩))
      go_ret
      exact ⟨by first | rfl | (simp; done) | (simp [*]; done), by repeat (first | exact Drawn0.refl _ | apply Drawn0.step)⟩
    · replace c5 := Bool.eq_false_iff.mpr c5
      subst c5
      have H1 : (some (a0 == 95)) = some r := by rw [if_neg (show ¬ (false = true) by decide)] at H; exact H
      clear H
      have H := H1
      clear H1
      obtain rfl := Option.some.inj H
      go_enter Tryd.func26, Tryd.ntmps26
      go_wp2_with (first | ((with_reducible refine gate_callee (f := 27) rfl ?_); refine goesL_ (some 4) rfl rfl Tryd.func27 (by kernel_rfl) rfl #[.int .u8 a0] rfl (by (try simp only [List.map_toArray, List.map_cons, List.map_nil]); first | done | rfl | (simp only [List.length_drop, List.length_take]; rfl)) ?_; (with_reducible refine (token_letter.calls a0 false _ A2.out).mono ?_); rintro e w' ⟨rfl, ⟨nd, rfl⟩⟩; refine ⟨_, rfl, ?_⟩) | (go_at_call 33; (with_reducible refine (token_digit.calls a0 false _ A4.out).mono ?_); rintro e w' ⟨rfl, ⟨nd, rfl⟩⟩))
      go_ret
      exact ⟨by first | rfl | (simp; done) | (simp [*]; done), by repeat (first | exact Drawn0.refl _ | apply Drawn0.step)⟩

end Go.Proofs.YtdkloonoeklgaaaDoor.X
