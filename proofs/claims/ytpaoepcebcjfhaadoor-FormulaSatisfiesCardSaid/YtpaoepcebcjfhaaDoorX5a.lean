-- Written by this session's own program (wip/tools/xprint.py).
import Derived.Test.YtpaoepcebcjfhaaDoorX0
namespace Go.Proofs.YtpaoepcebcjfhaaDoor.X
open Go.RowKit Go.Proofs.YtpaoepcebcjfhaaDoorW.PrintWords Go.Proofs.YtpaoepcebcjfhaaDoorW.PrintLast Go.Proofs.YtpaoepcebcjfhaaDoorW.PrintMore
attribute [local go_sem] max2_int min2_int max_two min_two max_three min_three max_four min_four   -- for this text's walks alone
set_option linter.unusedVariables false
set_option linter.unusedSimpArgs false

/-! ### interleavelaw31_large: function 18 -/
def interleavelaw31_large.l0 : Nat → Int → Int → Int → Int → List (S36) → List (List Int) → Option (Bool)
  | 0, _, _, _, _, _, _ => none
  | k + 1, x3, x4, x224000, x224001, x224002, x224003 => if x4 < (x224003.length : Int) then (if x3 < 1048576 then (if 0 ≤ x4 then (interleavelaw31_large.l0 k (wrap64 (x3 + ((rd_L2 x224003 x4).length : Int))) (wrap64 (x4 + 1)) x224000 x224001 x224002 x224003) else (none)) else (some (decide (x3 > 2000)))) else (some (decide (x3 > 2000)))
def interleavelaw31_large.f (k : Nat) (a0_0 : Int) (a0_1 : Int) (l0_2 : List (S36)) (l0_3 : List (List Int)) : Option (Bool) := interleavelaw31_large.l0 k (wrap64 ((l0_2.length : Int) + (l0_3.length : Int))) 0 a0_0 a0_1 l0_2 l0_3
theorem interleavelaw31_large.mono_l : ∀ k, (∀ y0 y1 y2 y3 y4 y5, LeO (interleavelaw31_large.l0 k y0 y1 y2 y3 y4 y5) (interleavelaw31_large.l0 (k + 1) y0 y1 y2 y3 y4 y5))
  | 0 => fun _ _ _ _ _ _ r h => by simp [interleavelaw31_large.l0] at h
  | k + 1 => by
    have ih0 := interleavelaw31_large.mono_l k
    · intro y0 y1 y2 y3 y4 y5
      unfold interleavelaw31_large.l0
      repeat' first
      | (with_reducible exact ih0 _ _ _ _ _ _)
      | (with_reducible exact LeO.refl _)
      | (with_reducible exact LeO.none _)
      | (with_reducible refine LeO.ite ?_ ?_)
      | (with_reducible refine LeO.bind ?_ (fun _ => ?_))
      | exact ih0 _ _ _ _ _ _
      | exact LeO.none _
      | refine LeO.ite ?_ ?_
      | refine LeO.bind ?_ (fun _ => ?_)
theorem interleavelaw31_large.mono : ∀ a0 a1 a2 a3 k, LeO (interleavelaw31_large.f k a0 a1 a2 a3) (interleavelaw31_large.f (k + 1) a0 a1 a2 a3) := by
  intro a0 a1 a2 a3 k
  have ih0 := interleavelaw31_large.mono_l k
  unfold interleavelaw31_large.f
  repeat' first
      | (with_reducible exact ih0 _ _ _ _ _ _)
      | (with_reducible exact LeO.refl _)
      | (with_reducible exact LeO.none _)
      | (with_reducible refine LeO.ite ?_ ?_)
      | (with_reducible refine LeO.bind ?_ (fun _ => ?_))
      | exact ih0 _ _ _ _ _ _
      | exact LeO.none _
      | refine LeO.ite ?_ ?_
      | refine LeO.bind ?_ (fun _ => ?_)
set_option maxHeartbeats 8000000 in
set_option maxRecDepth 100000 in
theorem interleavelaw31_large.calls (k : Nat) (a0_0 : Int) (a0_1 : Int) (A0_2 : Option Addr) (c0_2 : Nat) (l0_2 : List (S36)) (A0_3 : Option Addr) (c0_3 : Nat) (l0_3 : List (List Int)) (r : Bool) (w : World) (hr0_2 : Kd.C k36 w A0_2 l0_2.length l0_2) (hc0_2 : l0_2.length ≤ c0_2) (hr0_3 : Kd.C (Kd.slice 3 (Kd.int .i64)) w A0_3 l0_3.length l0_3) (hc0_3 : l0_3.length ≤ c0_3) (h : interleavelaw31_large.f k a0_0 a0_1 l0_2 l0_3 = some r) :
    Calls Tryd.prog 18 #[.agg #[.int .i64 a0_0, .int .i64 a0_1, .slice A0_2 l0_2.length c0_2, .slice A0_3 l0_3.length c0_3]] w fun e w' => e = .returned (.bool r) ∧ Below w.heap.size w w' := by
  have hu31 := Tryd.underlying31
  have HR0_2 := Aside0.mk hr0_2
  have HC0_2 := Aside0.mk hc0_2
  clear hr0_2 hc0_2
  have HR0_3 := Aside0.mk hr0_3
  have HC0_3 := Aside0.mk hc0_3
  clear hr0_3 hc0_3
  have HB := Aside0.mk (Below.refl w.heap.size w)
  have H : (interleavelaw31_large.l0 k (wrap64 ((l0_2.length : Int) + (l0_3.length : Int))) 0 a0_0 a0_1 l0_2 l0_3) = some r := h
  clear h
  have H' := Aside0.mk H
  clear H
  go_enter Tryd.func18, Tryd.ntmps18
  go_wp2_with (first | ((with_reducible refine gate_dst (N := 1) rfl ?_); refine box_event ?hg (N := 1) ?hd (cs := #[.int .i64 a0_0, .int .i64 a0_1, .slice A0_2 l0_2.length c0_2, .slice A0_3 l0_3.length c0_3]) (t := 31) ?hr ?_; (case hd => rfl); (case hg => rfl); (case hr => first | (go_simp; done) | (go_simp; rfl)); intro gb223 hg w2 hbox hb; have n0_ := Aside0.mk (below_step (by repeat (first | (with_reducible first | exact HB.out | apply below_alloc | apply pw_below_drewN | apply below_drew1) | exact HB.out)) hb); have n1_ := Aside0.mk (hbox); have n2_ := Aside0.mk ((by rw [hg]; exact (below_size (by repeat (first | (with_reducible first | exact HB.out | apply below_alloc | apply pw_below_drewN | apply below_drew1) | exact HB.out))) : w.heap.size ≤ gb223)); have n3_ := Aside0.mk ((by rw [hg]; exact (below_size (by repeat (first | (with_reducible first | exact HB.out | apply below_alloc | apply pw_below_drewN | apply below_drew1) | exact HB.out))) : w.heap.size ≤ gb223)); clear HB; have HB := n0_; have BK223 := n1_; have GW223 := n2_; have GE223 := n3_; clear n0_ n1_ n2_ n3_; clear hb hbox hg; have hcz3_0 : w2.cell? ⟨gb223, 0, none⟩ = some (.int .i64 a0_0) := (blk_cell BK223.out 0).trans rfl; have hcz3_1 : w2.cell? ⟨gb223, 1, none⟩ = some (.int .i64 a0_1) := (blk_cell BK223.out 1).trans rfl; have hcz3_2 : w2.cell? ⟨gb223, 2, none⟩ = some (.slice A0_2 l0_2.length c0_2) := (blk_cell BK223.out 2).trans rfl; have hcz3_3 : w2.cell? ⟨gb223, 3, none⟩ = some (.slice A0_3 l0_3.length c0_3) := (blk_cell BK223.out 3).trans rfl; have hfz3_0 := blk_frozen BK223.out 0; have hfz3_1 := blk_frozen BK223.out 1; have hfz3_2 := blk_frozen BK223.out 2; have hfz3_3 := blk_frozen BK223.out 3))
  go_loopg [3, 4] k (fun kq v3 v4 w' => ∃ (x3_1 : Int) (x4_1 : Int), v3 = .int .i64 x3_1 ∧ v4 = .int .i64 x4_1 ∧ Aside0 (interleavelaw31_large.l0 kq x3_1 x4_1 a0_0 a0_1 l0_2 l0_3 = some r) ∧ Aside0 (kq ≤ k) ∧ Aside0 (w'.heap[gb223]? = some (.cells #[.int .i64 a0_0, .int .i64 a0_1, (.slice A0_2 l0_2.length c0_2), (.slice A0_3 l0_3.length c0_3)] 31 (0, 0))) ∧ Aside0 (Below w.heap.size w w'))
  case atStart => exact ⟨(wrap64 ((l0_2.length : Int) + (l0_3.length : Int))), (0), (by first | rfl | (simp; done) | (simp [*]; done)), (by first | rfl | (simp; done) | (simp [*]; done)), H', ⟨Nat.le_refl _⟩, ⟨by (with_reducible repeat (first | refine blk_drewN ?_ _ | refine blk_drew ?_ | refine blk_alloc ?_ _)); exact BK223.out⟩, ⟨by repeat (first | (with_reducible first | exact HB.out | apply below_alloc | apply pw_below_drewN | apply below_drew1 | refine below_set ?_ GE223.out) | exact HB.out)⟩⟩
  case round => as_aux_lemma =>
    clear H'
    try clear c1
    try clear p2
    try clear hcz3_0
    try clear hcz3_1
    try clear hcz3_2
    try clear hcz3_3
    try clear hfz3_0
    try clear hfz3_1
    try clear hfz3_2
    try clear hfz3_3
    obtain ⟨x3_1, x4_1, rfl, rfl, HA, HK1, BK223, HB⟩ := hrel
    cases gk with
    | zero => exact absurd HA.out (by simp [interleavelaw31_large.l0])
    | succ k1 =>
      have H := HA.out
      clear HA
      simp only [interleavelaw31_large.l0] at H
      by_cases c4 : x4_1 < (l0_3.length : Int)
      · rw [if_pos c4] at H
        have c4b0 : decide (x4_1 < (l0_3.length : Int)) = true := decide_eq_true c4
        clear c4
        by_cases c5 : x3_1 < 1048576
        · rw [if_pos c5] at H
          have c5b0 : decide (x3_1 < 1048576) = true := decide_eq_true c5
          clear c5
          by_cases c6 : 0 ≤ x4_1
          · rw [if_pos c6] at H
            have c6b0 : decide (0 ≤ x4_1) = true := decide_eq_true c6
            clear c6
            have H' := Aside0.mk H
            clear H
            have hcz7_0 : wr.cell? ⟨gb223, 0, none⟩ = some (.int .i64 a0_0) := (blk_cell BK223.out 0).trans rfl
            have hcz7_1 : wr.cell? ⟨gb223, 1, none⟩ = some (.int .i64 a0_1) := (blk_cell BK223.out 1).trans rfl
            have hcz7_2 : wr.cell? ⟨gb223, 2, none⟩ = some (.slice A0_2 l0_2.length c0_2) := (blk_cell BK223.out 2).trans rfl
            have hcz7_3 : wr.cell? ⟨gb223, 3, none⟩ = some (.slice A0_3 l0_3.length c0_3) := (blk_cell BK223.out 3).trans rfl
            have hfz7_0 := blk_frozen BK223.out 0
            have hfz7_1 := blk_frozen BK223.out 1
            have hfz7_2 := blk_frozen BK223.out 2
            have hfz7_3 := blk_frozen BK223.out 3
            have p224 : 0 ≤ (x4_1 : Int) := of_decide_eq_true (by first | (with_reducible assumption) | assumption)
            have q224 : x4_1 < (l0_3.length : Int) := of_decide_eq_true (by first | (with_reducible assumption) | assumption)
            obtain ⟨ad224, A224_0, c224_0, e224, hx224_0, hl224_0, hi224_0⟩ := at_L2 HR0_3.out x4_1 p224 q224
            cases e224
            replace hx224_0 := (HB.out.cell (World.block_lt_of_cell? w _ hx224_0)).trans hx224_0
            have HR224_0 := Aside0.mk hi224_0
            have HC224_0 := Aside0.mk hl224_0
            clear hi224_0 hl224_0
            replace p224 := eq_true p224
            replace q224 := eq_true q224
            go_wp2
            go_roundg k1
            case measure => have := HK1.out; omega
            case rel => exact ⟨(wrap64 (x3_1 + ((rd_L2 l0_3 x4_1).length : Int))), (wrap64 (x4_1 + 1)), (by first | rfl | (simp; done) | (simp [*]; done)), (by first | rfl | (simp; done) | (simp [*]; done)), H', ⟨by have := HK1.out; omega⟩, ⟨by (with_reducible repeat (first | refine blk_drewN ?_ _ | refine blk_drew ?_ | refine blk_alloc ?_ _)); exact BK223.out⟩, ⟨by repeat (first | (with_reducible first | exact HB.out | apply below_alloc | apply pw_below_drewN | apply below_drew1 | refine below_set ?_ GE223.out) | exact HB.out)⟩⟩
          · rw [if_neg c6] at H
            exact absurd H (by simp)
        · rw [if_neg c5] at H
          have c5b0 : decide (x3_1 < 1048576) = false := decide_eq_false c5
          clear c5
          obtain rfl := Option.some.inj H
          have hcz8_0 : wr.cell? ⟨gb223, 0, none⟩ = some (.int .i64 a0_0) := (blk_cell BK223.out 0).trans rfl
          have hcz8_1 : wr.cell? ⟨gb223, 1, none⟩ = some (.int .i64 a0_1) := (blk_cell BK223.out 1).trans rfl
          have hcz8_2 : wr.cell? ⟨gb223, 2, none⟩ = some (.slice A0_2 l0_2.length c0_2) := (blk_cell BK223.out 2).trans rfl
          have hcz8_3 : wr.cell? ⟨gb223, 3, none⟩ = some (.slice A0_3 l0_3.length c0_3) := (blk_cell BK223.out 3).trans rfl
          have hfz8_0 := blk_frozen BK223.out 0
          have hfz8_1 := blk_frozen BK223.out 1
          have hfz8_2 := blk_frozen BK223.out 2
          have hfz8_3 := blk_frozen BK223.out 3
          go_wp2
          go_ret
          exact ⟨by first | rfl | (simp [errW_none, errW_some] <;> rfl) | (simp [*, errW_none, errW_some] <;> rfl), by repeat (first | (with_reducible first | exact HB.out | apply below_alloc | apply pw_below_drewN | apply below_drew1 | refine below_set ?_ GE223.out) | exact HB.out)⟩
      · rw [if_neg c4] at H
        have c4b0 : decide (x4_1 < (l0_3.length : Int)) = false := decide_eq_false c4
        clear c4
        obtain rfl := Option.some.inj H
        have hcz9_0 : wr.cell? ⟨gb223, 0, none⟩ = some (.int .i64 a0_0) := (blk_cell BK223.out 0).trans rfl
        have hcz9_1 : wr.cell? ⟨gb223, 1, none⟩ = some (.int .i64 a0_1) := (blk_cell BK223.out 1).trans rfl
        have hcz9_2 : wr.cell? ⟨gb223, 2, none⟩ = some (.slice A0_2 l0_2.length c0_2) := (blk_cell BK223.out 2).trans rfl
        have hcz9_3 : wr.cell? ⟨gb223, 3, none⟩ = some (.slice A0_3 l0_3.length c0_3) := (blk_cell BK223.out 3).trans rfl
        have hfz9_0 := blk_frozen BK223.out 0
        have hfz9_1 := blk_frozen BK223.out 1
        have hfz9_2 := blk_frozen BK223.out 2
        have hfz9_3 := blk_frozen BK223.out 3
        go_wp2
        go_ret
        exact ⟨by first | rfl | (simp [errW_none, errW_some] <;> rfl) | (simp [*, errW_none, errW_some] <;> rfl), by repeat (first | (with_reducible first | exact HB.out | apply below_alloc | apply pw_below_drewN | apply below_drew1 | refine below_set ?_ GE223.out) | exact HB.out)⟩

end Go.Proofs.YtpaoepcebcjfhaaDoor.X
