-- Written by this session's own program (wip/tools/xprint.py).
import Derived.Test.YtpaoepcebcjfhaaDoorX0
namespace Go.Proofs.YtpaoepcebcjfhaaDoor.X
open Go.RowKit Go.Proofs.YtpaoepcebcjfhaaDoorW.PrintWords Go.Proofs.YtpaoepcebcjfhaaDoorW.PrintLast Go.Proofs.YtpaoepcebcjfhaaDoorW.PrintMore
attribute [local go_sem] max2_int min2_int max_two min_two max_three min_three max_four min_four   -- for this text's walks alone
set_option linter.unusedVariables false
set_option linter.unusedSimpArgs false

/-! ### interleaveref31_Holds: function 26 -/
def interleaveref31_Holds.j0 : Nat → Int → Bool → List Bool → List Int → Option (Bool)
  | 0, _, _, _, _ => none
  | k + 1, x0, x21, x303000, x303001 => if x21 = true then (some false) else (if x0 > 0 then (if 0 ≤ (wrap64 (x0 - 1)) then (if (wrap64 (x0 - 1)) < (x303000.length : Int) then (some (rdOf false x303000 (wrap64 (x0 - 1)))) else (none)) else (none)) else (if 0 ≤ (wrap64 ((wrap64 (-x0)) - 1)) then (if (wrap64 ((wrap64 (-x0)) - 1)) < (x303000.length : Int) then (some (!(rdOf false x303000 (wrap64 ((wrap64 (-x0)) - 1))))) else (none)) else (none)))
def interleaveref31_Holds.f (k : Nat) (a0 : Int) (l1_0 : List Bool) (l1_1 : List Int) : Option (Bool) := if a0 = 0 then (interleaveref31_Holds.j0 k a0 true l1_0 l1_1) else (if a0 > (l1_0.length : Int) then (interleaveref31_Holds.j0 k a0 true l1_0 l1_1) else (interleaveref31_Holds.j0 k a0 (decide (a0 < (wrap64 (-(l1_0.length : Int))))) l1_0 l1_1))
theorem interleaveref31_Holds.mono_l : ∀ k, (∀ y0 y1 y2 y3, LeO (interleaveref31_Holds.j0 k y0 y1 y2 y3) (interleaveref31_Holds.j0 (k + 1) y0 y1 y2 y3))
  | 0 => fun _ _ _ _ r h => by simp [interleaveref31_Holds.j0] at h
  | k + 1 => by
    have ih0 := interleaveref31_Holds.mono_l k
    · intro y0 y1 y2 y3
      unfold interleaveref31_Holds.j0
      repeat' first
      | (with_reducible exact ih0 _ _ _ _)
      | (with_reducible exact LeO.refl _)
      | (with_reducible exact LeO.none _)
      | (with_reducible refine LeO.ite ?_ ?_)
      | (with_reducible refine LeO.bind ?_ (fun _ => ?_))
      | exact ih0 _ _ _ _
      | exact LeO.none _
      | refine LeO.ite ?_ ?_
      | refine LeO.bind ?_ (fun _ => ?_)
theorem interleaveref31_Holds.mono : ∀ a0 a1 a2 k, LeO (interleaveref31_Holds.f k a0 a1 a2) (interleaveref31_Holds.f (k + 1) a0 a1 a2) := by
  intro a0 a1 a2 k
  have ih0 := interleaveref31_Holds.mono_l k
  unfold interleaveref31_Holds.f
  repeat' first
      | (with_reducible exact ih0 _ _ _ _)
      | (with_reducible exact LeO.refl _)
      | (with_reducible exact LeO.none _)
      | (with_reducible refine LeO.ite ?_ ?_)
      | (with_reducible refine LeO.bind ?_ (fun _ => ?_))
      | exact ih0 _ _ _ _
      | exact LeO.none _
      | refine LeO.ite ?_ ?_
      | refine LeO.bind ?_ (fun _ => ?_)
set_option maxHeartbeats 8000000 in
set_option maxRecDepth 100000 in
theorem interleaveref31_Holds.calls (k : Nat) (a0 : Int) (A1_0 : Option Addr) (c1_0 : Nat) (l1_0 : List Bool) (A1_1 : Option Addr) (c1_1 : Nat) (l1_1 : List Int) (r : Bool) (w : World) (hr1_0 : Kd.C Kd.bool w A1_0 l1_0.length l1_0) (hc1_0 : l1_0.length ≤ c1_0) (hr1_1 : Kd.C (Kd.int .i64) w A1_1 l1_1.length l1_1) (hc1_1 : l1_1.length ≤ c1_1) (h : interleaveref31_Holds.f k a0 l1_0 l1_1 = some r) :
    Calls Tryd.prog 26 #[.int .i64 a0, .agg #[.slice A1_0 l1_0.length c1_0, .slice A1_1 l1_1.length c1_1]] w fun e w' => e = .returned (.bool r) ∧ Below w.heap.size w w' := by
  have hu44 := Tryd.underlying44
  have HR1_0 := Aside0.mk hr1_0
  have HC1_0 := Aside0.mk hc1_0
  clear hr1_0 hc1_0
  have HR1_1 := Aside0.mk hr1_1
  have HC1_1 := Aside0.mk hc1_1
  clear hr1_1 hc1_1
  have HB := Aside0.mk (Below.refl w.heap.size w)
  have H : (if a0 = 0 then (interleaveref31_Holds.j0 k a0 true l1_0 l1_1) else (if a0 > (l1_0.length : Int) then (interleaveref31_Holds.j0 k a0 true l1_0 l1_1) else (interleaveref31_Holds.j0 k a0 (decide (a0 < (wrap64 (-(l1_0.length : Int))))) l1_0 l1_1))) = some r := h
  clear h
  have HC3 := Aside0.mk H
  clear H
  go_enter Tryd.func26, Tryd.ntmps26
  go_upto_region 1 with (first | ((with_reducible refine gate_dst (N := 3) rfl ?_); (try (refine gate_guard (by rfl) ?_; dsimp only)); refine box_event ?hg (N := 3) ?hd (cs := #[.slice A1_0 l1_0.length c1_0, .slice A1_1 l1_1.length c1_1]) (t := 44) ?hr ?_; (case hd => rfl); (case hg => rfl); (case hr => first | (go_simp; done) | (go_simp; rfl)); intro gb302 hg w4 hbox hb; have n0_ := Aside0.mk (below_step (by repeat (first | (with_reducible first | exact HB.out | apply below_alloc | apply pw_below_drewN | apply below_drew1) | exact HB.out)) hb); have n1_ := Aside0.mk (hbox); have n2_ := Aside0.mk ((by rw [hg]; exact (below_size (by repeat (first | (with_reducible first | exact HB.out | apply below_alloc | apply pw_below_drewN | apply below_drew1) | exact HB.out))) : w.heap.size ≤ gb302)); have n3_ := Aside0.mk ((by rw [hg]; exact (below_size (by repeat (first | (with_reducible first | exact HB.out | apply below_alloc | apply pw_below_drewN | apply below_drew1) | exact HB.out))) : w.heap.size ≤ gb302)); clear HB; have HB := n0_; have BK302 := n1_; have GW302 := n2_; have GE302 := n3_; clear n0_ n1_ n2_ n3_; clear hb hbox hg))
  (try simp only [Act.put, List.setIfInBounds_toArray, List.set_cons_zero, List.set_cons_succ])
  go_cut [21] (fun v21 wc => ∃ (kq : Nat) (x21_2 : Bool), v21 = .bool x21_2 ∧ Aside0 (interleaveref31_Holds.j0 kq a0 x21_2 l1_0 l1_1 = some r) ∧ Aside0 (kq ≤ k) ∧ Aside0 (wc.heap[gb302]? = some (.cells #[(.slice A1_0 l1_0.length c1_0), (.slice A1_1 l1_1.length c1_1)] 44 (0, 0))) ∧ Aside0 (Below w.heap.size w wc))
  case first => as_aux_lemma =>
    have H := HC3.out
    clear HC3
    by_cases c5 : a0 = 0
    · rw [if_pos c5] at H
      have c5b0 : (a0 == 0) = true := beq_iff_eq.mpr c5
      have c5b1 : (a0 != 0) = false := bne_eq_false_iff_eq.mpr c5
      clear c5
      (first | rw [c5b0] | (simp only [i64_w, i32_w]; rw [c5b0]) | skip)
      have H' := Aside0.mk H
      clear H
      go_wp2
      go_meet
      case rel => exact ⟨_, (true), (by first | rfl | (simp; done) | (simp [*]; done)), H', ⟨by first | omega | exact Nat.le_refl _⟩, ⟨by (with_reducible repeat (first | refine blk_drewN ?_ _ | refine blk_drew ?_ | refine blk_alloc ?_ _)); exact BK302.out⟩, ⟨by repeat (first | (with_reducible first | exact HB.out | apply below_alloc | apply pw_below_drewN | apply below_drew1 | refine below_set ?_ GE302.out) | exact HB.out)⟩⟩
    · rw [if_neg c5] at H
      have c5b0 : (a0 == 0) = false := beq_eq_false_iff_ne.mpr c5
      have c5b1 : (a0 != 0) = true := bne_iff_ne.mpr c5
      (first | rw [c5b0] | (simp only [i64_w, i32_w]; rw [c5b0]) | skip)
      by_cases c6 : a0 > (l1_0.length : Int)
      · rw [if_pos c6] at H
        have c6b0 : decide ((l1_0.length : Int) < a0) = true := decide_eq_true c6
        clear c6
        have H' := Aside0.mk H
        clear H
        have hcz7_0 : w4.cell? ⟨gb302, 0, none⟩ = some (.slice A1_0 l1_0.length c1_0) := (blk_cell BK302.out 0).trans rfl
        have hcz7_1 : w4.cell? ⟨gb302, 1, none⟩ = some (.slice A1_1 l1_1.length c1_1) := (blk_cell BK302.out 1).trans rfl
        have hfz7_0 := blk_frozen BK302.out 0
        have hfz7_1 := blk_frozen BK302.out 1
        go_wp2
        go_meet
        case rel => exact ⟨_, (true), (by first | rfl | (simp; done) | (simp [*]; done)), H', ⟨by first | omega | exact Nat.le_refl _⟩, ⟨by (with_reducible repeat (first | refine blk_drewN ?_ _ | refine blk_drew ?_ | refine blk_alloc ?_ _)); exact BK302.out⟩, ⟨by repeat (first | (with_reducible first | exact HB.out | apply below_alloc | apply pw_below_drewN | apply below_drew1 | refine below_set ?_ GE302.out) | exact HB.out)⟩⟩
      · rw [if_neg c6] at H
        have c6b0 : decide ((l1_0.length : Int) < a0) = false := decide_eq_false c6
        clear c6
        have H' := Aside0.mk H
        clear H
        have hcz8_0 : w4.cell? ⟨gb302, 0, none⟩ = some (.slice A1_0 l1_0.length c1_0) := (blk_cell BK302.out 0).trans rfl
        have hcz8_1 : w4.cell? ⟨gb302, 1, none⟩ = some (.slice A1_1 l1_1.length c1_1) := (blk_cell BK302.out 1).trans rfl
        have hfz8_0 := blk_frozen BK302.out 0
        have hfz8_1 := blk_frozen BK302.out 1
        go_wp2
        go_meet
        case rel => exact ⟨_, (decide (a0 < (wrap64 (-(l1_0.length : Int))))), (by first | rfl | (simp; done) | (simp [*]; done)), H', ⟨by first | omega | exact Nat.le_refl _⟩, ⟨by (with_reducible repeat (first | refine blk_drewN ?_ _ | refine blk_drew ?_ | refine blk_alloc ?_ _)); exact BK302.out⟩, ⟨by repeat (first | (with_reducible first | exact HB.out | apply below_alloc | apply pw_below_drewN | apply below_drew1 | refine below_set ?_ GE302.out) | exact HB.out)⟩⟩
  case rest => as_aux_lemma =>
    clear HC3
    try clear c1
    try clear c2
    try clear p2
    try clear c5
    try clear c5b0
    try clear c5b1
    try clear c6
    try clear c6b0
    try clear p6
    try clear hcz7_0
    try clear hcz7_1
    try clear hcz8_0
    try clear hcz8_1
    try clear hfz7_0
    try clear hfz7_1
    try clear hfz8_0
    try clear hfz8_1
    obtain ⟨kq, x21_2, rfl, HA, HJ2, BK302, HB⟩ := hcut
    cases kq with
    | zero => exact absurd HA.out (by simp [interleaveref31_Holds.j0])
    | succ kj2 =>
      have H := HA.out
      clear HA
      simp only [interleaveref31_Holds.j0] at H
      by_cases c9 : x21_2 = true
      · subst c9
        have H1 : (some false) = some r := by rw [if_pos rfl] at H; exact H
        clear H
        have H := H1
        clear H1
        obtain rfl := Option.some.inj H
        go_wp2
        go_ret
        exact ⟨by first | rfl | (simp [errW_none, errW_some] <;> rfl) | (simp [*, errW_none, errW_some] <;> rfl), by repeat (first | (with_reducible first | exact HB.out | apply below_alloc | apply pw_below_drewN | apply below_drew1 | refine below_set ?_ GE302.out) | exact HB.out)⟩
      · replace c9 := Bool.eq_false_iff.mpr c9
        subst c9
        have H1 : (if a0 > 0 then (if 0 ≤ (wrap64 (a0 - 1)) then (if (wrap64 (a0 - 1)) < (l1_0.length : Int) then (some (rdOf false l1_0 (wrap64 (a0 - 1)))) else (none)) else (none)) else (if 0 ≤ (wrap64 ((wrap64 (-a0)) - 1)) then (if (wrap64 ((wrap64 (-a0)) - 1)) < (l1_0.length : Int) then (some (!(rdOf false l1_0 (wrap64 ((wrap64 (-a0)) - 1))))) else (none)) else (none))) = some r := by rw [if_neg (show ¬ (false = true) by decide)] at H; exact H
        clear H
        have H := H1
        clear H1
        by_cases c10 : a0 > 0
        · rw [if_pos c10] at H
          have c10b0 : decide (0 < a0) = true := decide_eq_true c10
          clear c10
          obtain ⟨ji11, hji11⟩ : ∃ j_ : Int, (wrap64 (a0 - 1)) = j_ := ⟨_, rfl⟩
          replace H : (if 0 ≤ (ji11) then (if (ji11) < (l1_0.length : Int) then (some (rdOf false l1_0 (ji11))) else (none)) else (none)) = some r := by first | (rw [hji11] at H; exact H) | (simp only [hji11] at H ⊢; exact H)
          have hji11w : (IntKind.i64.wrap (a0 - 1)) = ji11 := (i64_w _).trans hji11
          by_cases c12 : 0 ≤ (ji11)
          · rw [if_pos c12] at H
            have c12b0 : decide (0 ≤ (ji11)) = true := decide_eq_true c12
            clear c12
            by_cases c13 : (ji11) < (l1_0.length : Int)
            · rw [if_pos c13] at H
              have c13b0 : decide ((ji11) < (l1_0.length : Int)) = true := decide_eq_true c13
              clear c13
              obtain rfl := Option.some.inj H
              have hcz14_0 : wc.cell? ⟨gb302, 0, none⟩ = some (.slice A1_0 l1_0.length c1_0) := (blk_cell BK302.out 0).trans rfl
              have hcz14_1 : wc.cell? ⟨gb302, 1, none⟩ = some (.slice A1_1 l1_1.length c1_1) := (blk_cell BK302.out 1).trans rfl
              have hfz14_0 := blk_frozen BK302.out 0
              have hfz14_1 := blk_frozen BK302.out 1
              have p303 : 0 ≤ ((ji11) : Int) := of_decide_eq_true (by first | (with_reducible assumption) | assumption)
              have q303 : (ji11) < (l1_0.length : Int) := of_decide_eq_true (by first | (with_reducible assumption) | assumption)
              obtain ⟨ad303, e303, hx303_0⟩ := Kd.at_bool HR1_0.out (ji11) p303 q303
              cases e303
              replace hx303_0 := (HB.out.cell (World.block_lt_of_cell? w _ hx303_0)).trans hx303_0
              replace p303 := eq_true p303
              replace q303 := eq_true q303
              go_wp2
              go_ret
              exact ⟨by first | rfl | (simp [errW_none, errW_some] <;> rfl) | (simp only [← hji11]; first | rfl | (simp [errW_none, errW_some] <;> rfl)) | (simp [*, errW_none, errW_some] <;> rfl), by repeat (first | (with_reducible first | exact HB.out | apply below_alloc | apply pw_below_drewN | apply below_drew1 | refine below_set ?_ GE302.out) | exact HB.out)⟩
            · rw [if_neg c13] at H
              exact absurd H (by simp)
          · rw [if_neg c12] at H
            exact absurd H (by simp)
        · rw [if_neg c10] at H
          have c10b0 : decide (0 < a0) = false := decide_eq_false c10
          clear c10
          obtain ⟨ji15, hji15⟩ : ∃ j_ : Int, (wrap64 ((wrap64 (-a0)) - 1)) = j_ := ⟨_, rfl⟩
          replace H : (if 0 ≤ (ji15) then (if (ji15) < (l1_0.length : Int) then (some (!(rdOf false l1_0 (ji15)))) else (none)) else (none)) = some r := by first | (rw [hji15] at H; exact H) | (simp only [hji15] at H ⊢; exact H)
          have hji15w : (IntKind.i64.wrap ((wrap64 (-a0)) - 1)) = ji15 := (i64_w _).trans hji15
          by_cases c16 : 0 ≤ (ji15)
          · rw [if_pos c16] at H
            have c16b0 : decide (0 ≤ (ji15)) = true := decide_eq_true c16
            clear c16
            by_cases c17 : (ji15) < (l1_0.length : Int)
            · rw [if_pos c17] at H
              have c17b0 : decide ((ji15) < (l1_0.length : Int)) = true := decide_eq_true c17
              clear c17
              obtain rfl := Option.some.inj H
              have hcz18_0 : wc.cell? ⟨gb302, 0, none⟩ = some (.slice A1_0 l1_0.length c1_0) := (blk_cell BK302.out 0).trans rfl
              have hcz18_1 : wc.cell? ⟨gb302, 1, none⟩ = some (.slice A1_1 l1_1.length c1_1) := (blk_cell BK302.out 1).trans rfl
              have hfz18_0 := blk_frozen BK302.out 0
              have hfz18_1 := blk_frozen BK302.out 1
              have p304 : 0 ≤ ((ji15) : Int) := of_decide_eq_true (by first | (with_reducible assumption) | assumption)
              have q304 : (ji15) < (l1_0.length : Int) := of_decide_eq_true (by first | (with_reducible assumption) | assumption)
              obtain ⟨ad304, e304, hx304_0⟩ := Kd.at_bool HR1_0.out (ji15) p304 q304
              cases e304
              replace hx304_0 := (HB.out.cell (World.block_lt_of_cell? w _ hx304_0)).trans hx304_0
              replace p304 := eq_true p304
              replace q304 := eq_true q304
              go_wp2
              go_ret
              exact ⟨by first | rfl | (simp [errW_none, errW_some] <;> rfl) | (simp only [← hji15]; first | rfl | (simp [errW_none, errW_some] <;> rfl)) | (simp [*, errW_none, errW_some] <;> rfl), by repeat (first | (with_reducible first | exact HB.out | apply below_alloc | apply pw_below_drewN | apply below_drew1 | refine below_set ?_ GE302.out) | exact HB.out)⟩
            · rw [if_neg c17] at H
              exact absurd H (by simp)
          · rw [if_neg c16] at H
            exact absurd H (by simp)

end Go.Proofs.YtpaoepcebcjfhaaDoor.X
