-- Written by this session's own program (wip/tools/xprint.py).
import Derived.Test.YtppbnjmhkifdaaaX0
import Derived.Test.YtppbnjmhkifdaaaSx
import Derived.Test.YtppbnjmhkifdaaaX8
namespace Go.Proofs.Ytppbnjmhkifdaaa.X
open Go.RowKit Go.Proofs.YtppbnjmhkifdaaaW.PrintWords Go.Proofs.YtppbnjmhkifdaaaW.PrintLast Go.Proofs.YtppbnjmhkifdaaaW.PrintMore
attribute [local go_sem] max2_int min2_int max_two min_two max_three min_three max_four min_four   -- for this text's walks alone
set_option linter.unusedVariables false
set_option linter.unusedSimpArgs false

/-! ### interleaveref31_Bound: function 37 -/
def interleaveref31_Bound.j0 : Nat → Int → Bool → Int → Int → List (S75) → List (List Int) → Option (Int × Int × Int × Bool)
 | 0, _, _, _, _, _, _ => none
 | k + 1, x1, x23, x342000, x342001, x342002, x342003 => if x23 = true then (some (0, 0, 0, false)) else (if x1 > 0 then (if 0 ≤ (wrap64 (x1 - 1)) then (if (wrap64 (x1 - 1)) < (x342002.length : Int) then (some ((rd_T75 x342002 (wrap64 (x1 - 1))).f0, (rd_T75 x342002 (wrap64 (x1 - 1))).f1, (rd_T75 x342002 (wrap64 (x1 - 1))).f2, true)) else (none)) else (none)) else (if 0 ≤ (wrap64 ((wrap64 (-x1)) - 1)) then (if (wrap64 ((wrap64 (-x1)) - 1)) < (x342002.length : Int) then (some ((rd_T75 x342002 (wrap64 ((wrap64 (-x1)) - 1))).f1, (rd_T75 x342002 (wrap64 ((wrap64 (-x1)) - 1))).f0, wrap64 ((wrap64 (-((rd_T75 x342002 (wrap64 ((wrap64 (-x1)) - 1))).f2))) - 1), true)) else (none)) else (none)))
def interleaveref31_Bound.f (k : Nat) (a0_0 : Int) (a0_1 : Int) (l0_2 : List (S75)) (l0_3 : List (List Int)) (a1 : Int) : Option (Int × Int × Int × Bool) := if a1 = 0 then (interleaveref31_Bound.j0 k a1 true a0_0 a0_1 l0_2 l0_3) else (if a1 > (l0_2.length : Int) then (interleaveref31_Bound.j0 k a1 true a0_0 a0_1 l0_2 l0_3) else (interleaveref31_Bound.j0 k a1 (decide (a1 < (wrap64 (-(l0_2.length : Int))))) a0_0 a0_1 l0_2 l0_3))
theorem interleaveref31_Bound.mono_l : ∀ k, (∀ y0 y1 y2 y3 y4 y5, LeO (interleaveref31_Bound.j0 k y0 y1 y2 y3 y4 y5) (interleaveref31_Bound.j0 (k + 1) y0 y1 y2 y3 y4 y5))
 | 0 => fun _ _ _ _ _ _ r h => by simp [interleaveref31_Bound.j0] at h
 | k + 1 => by
  have ih0 := interleaveref31_Bound.mono_l k
  ·intro y0 y1 y2 y3 y4 y5
   unfold interleaveref31_Bound.j0
   repeat' first
   | (with_reducible exact ih0 _ _ _ _ _ _)
   | (with_reducible exact LeO.refl _)
   | (with_reducible exact LeO.none _)
   | (with_reducible refine LeO.ite ?_ ?_)
   | (with_reducible refine LeO.bind ?_ (fun _ => ?_))
   | exact ih0 _ _ _ _ _ _
   | exact LeO.none _
   | refine LeO.ite ?_ ?_
   | refine LeO.bind ?_ (fun _ => ?_)
theorem interleaveref31_Bound.mono : ∀ a0 a1 a2 a3 a4 k, LeO (interleaveref31_Bound.f k a0 a1 a2 a3 a4) (interleaveref31_Bound.f (k + 1) a0 a1 a2 a3 a4) := by
 intro a0 a1 a2 a3 a4 k
 have ih0 := interleaveref31_Bound.mono_l k
 unfold interleaveref31_Bound.f
 repeat' first
   | (with_reducible exact ih0 _ _ _ _ _ _)
   | (with_reducible exact LeO.refl _)
   | (with_reducible exact LeO.none _)
   | (with_reducible refine LeO.ite ?_ ?_)
   | (with_reducible refine LeO.bind ?_ (fun _ => ?_))
   | exact ih0 _ _ _ _ _ _
   | exact LeO.none _
   | refine LeO.ite ?_ ?_
   | refine LeO.bind ?_ (fun _ => ?_)
set_option maxHeartbeats 8000000 in
set_option maxRecDepth 100000 in
theorem interleaveref31_Bound.calls (k : Nat) (a0_0 : Int) (a0_1 : Int) (A0_2 : Option Addr) (c0_2 : Nat) (l0_2 : List (S75)) (A0_3 : Option Addr) (c0_3 : Nat) (l0_3 : List (List Int)) (a1 : Int) (r1 : Int) (r2 : Int) (r3 : Int) (r4 : Bool) (w : World) (hr0_2 : Kd.C k75 w A0_2 l0_2.length l0_2) (hc0_2 : l0_2.length ≤ c0_2) (hr0_3 : Kd.C (Kd.slice 3 (Kd.int .i64)) w A0_3 l0_3.length l0_3) (hc0_3 : l0_3.length ≤ c0_3) (h : interleaveref31_Bound.f k a0_0 a0_1 l0_2 l0_3 a1 = some (r1, r2, r3, r4)) :
  Calls Try.prog 37 #[.agg #[.int .i64 a0_0, .int .i64 a0_1, .slice A0_2 l0_2.length c0_2, .slice A0_3 l0_3.length c0_3], .int .i64 a1] w fun e w' => e = .returned (.tuple #[.agg #[.int .i64 r1, .int .i64 r2, .int .i64 r3], .bool r4]) ∧ Below w.heap.size w w' := by
 have hu32 := Try.underlying32
 have hu75 := Try.underlying75
 have HR0_2 := Aside0.mk hr0_2
 have HC0_2 := Aside0.mk hc0_2
 clear hr0_2 hc0_2
 have HR0_3 := Aside0.mk hr0_3
 have HC0_3 := Aside0.mk hc0_3
 clear hr0_3 hc0_3
 have HB := Aside0.mk (Below.refl w.heap.size w)
 have H : (if a1 = 0 then (interleaveref31_Bound.j0 k a1 true a0_0 a0_1 l0_2 l0_3) else (if a1 > (l0_2.length : Int) then (interleaveref31_Bound.j0 k a1 true a0_0 a0_1 l0_2 l0_3) else (interleaveref31_Bound.j0 k a1 (decide (a1 < (wrap64 (-(l0_2.length : Int))))) a0_0 a0_1 l0_2 l0_3))) = some (r1, r2, r3, r4) := h
 clear h
 have HC3 := Aside0.mk H
 clear H
 go_enter Try.func37, Try.ntmps37
 go_upto_region 1 with (first | ((with_reducible refine gate_dst (N := 2) rfl ?_); (try (refine gate_guard (by rfl) ?_; dsimp only)); refine box_ev (N := 2) rfl (cs := #[.int .i64 a0_0, .int .i64 a0_1, .slice A0_2 l0_2.length c0_2, .slice A0_3 l0_3.length c0_3]) (t := 32) ?_; intro gb341 hg w4 hbox hb; have n0_ := Aside0.mk (below_step HB.l hb); have n1_ := Aside0.mk (hbox); have n2_ := Aside0.mk ((by rw [hg]; exact (below_size HB.l) : w.heap.size ≤ gb341)); have n3_ := Aside0.mk ((by rw [hg]; exact (below_size HB.l) : w.heap.size ≤ gb341)); clear HB; revert n0_ n1_ n2_ n3_; intro HB BK341 GW341 GE341; clear hb hbox hg) | ((with_reducible refine gate_dst (N := 4) rfl ?_); (try (refine gate_guard (by rfl) ?_; dsimp only)); refine box_ev (N := 4) rfl (cs := #[.int .i64 0, .int .i64 0, .int .i64 0]) (t := 75) ?_; intro gb342 hg w5 hbox hb; have n0_ := Aside0.mk (blk_below BK341.b hb); have n1_ := Aside0.mk (below_step HB.l hb); have n2_ := Aside0.mk (hbox); have n3_ := Aside0.mk ((by rw [hg]; exact (below_size HB.l) : w.heap.size ≤ gb342)); have n4_ := Aside0.mk ((by rw [hg]; exact (below_size HB.l) : w.heap.size ≤ gb342)); have n5_ := Aside0.mk ((by rw [hg]; exact Nat.ne_of_lt (blk_lt BK341.b) : gb341 ≠ gb342)); have n6_ := Aside0.mk ((by rw [hg]; exact Nat.ne_of_gt (blk_lt BK341.b) : gb342 ≠ gb341)); clear BK341 HB; revert n0_ n1_ n2_ n3_ n4_ n5_ n6_; intro BK341 HB BK342 GW342 GE342 NB341_342 NB342_341; clear hb hbox hg))
 (try simp only [Act.put, List.setIfInBounds_toArray, List.set_cons_zero, List.set_cons_succ])
 go_cut [23] (fun v23 wc => ∃ (kq : Nat) (x23_2 : Bool), v23 = .bool x23_2 ∧ Aside0 (interleaveref31_Bound.j0 kq a1 x23_2 a0_0 a0_1 l0_2 l0_3 = some (r1, r2, r3, r4)) ∧ Aside0 (kq ≤ k) ∧ Aside0 (wc.heap[gb341]? = some (.cells #[.int .i64 a0_0, .int .i64 a0_1, (.slice A0_2 l0_2.length c0_2), (.slice A0_3 l0_3.length c0_3)] 32 (0, 0))) ∧ Aside0 (wc.heap[gb342]? = some (.cells #[.int .i64 0, .int .i64 0, .int .i64 0] 75 (0, 0))) ∧ Aside0 (Below w.heap.size w wc))
 case first => as_aux_lemma =>
  have H := HC3.out
  clear HC3
  by_cases c6 : a1 = 0
  ·rw [if_pos c6] at H
   have c6b0 : (a1 == 0) = true := beq_iff_eq.mpr c6
   have c6b1 : (a1 != 0) = false := bne_eq_false_iff_eq.mpr c6
   clear c6
   (first | rw [c6b0] | (simp only [i64_w, i32_w]; rw [c6b0]) | skip)
   have H' := Aside0.mk H
   clear H
   go_wp2
   go_meet
   case rel => exact ⟨_, (true), (by first | rfl | (simp; done) | (simp [*]; done)), H', ⟨by first | omega | exact Nat.le_refl _⟩, ⟨BK341.b⟩, ⟨BK342.b⟩, ⟨HB.l⟩⟩
  ·rw [if_neg c6] at H
   have c6b0 : (a1 == 0) = false := beq_eq_false_iff_ne.mpr c6
   have c6b1 : (a1 != 0) = true := bne_iff_ne.mpr c6
   (first | rw [c6b0] | (simp only [i64_w, i32_w]; rw [c6b0]) | skip)
   by_cases c7 : a1 > (l0_2.length : Int)
   ·rw [if_pos c7] at H
    have c7b0 : decide ((l0_2.length : Int) < a1) = true := decide_eq_true c7
    clear c7
    have H' := Aside0.mk H
    clear H
    have hnb8 := NB341_342.out
    have hnc8 := NB342_341.out
    have hcz9_0 := BK341.cl 0 (.int .i64 a0_0)
    have hcz9_1 := BK341.cl 1 (.int .i64 a0_1)
    have hcz9_2 := BK341.cl 2 (.slice A0_2 l0_2.length c0_2)
    have hcz9_3 := BK341.cl 3 (.slice A0_3 l0_3.length c0_3)
    have hfz9_0 := BK341.fz 0
    have hfz9_1 := BK341.fz 1
    have hfz9_2 := BK341.fz 2
    have hfz9_3 := BK341.fz 3
    go_wp2
    go_meet
    case rel => exact ⟨_, (true), (by first | rfl | (simp; done) | (simp [*]; done)), H', ⟨by first | omega | exact Nat.le_refl _⟩, ⟨BK341.b⟩, ⟨BK342.b⟩, ⟨HB.l⟩⟩
   ·rw [if_neg c7] at H
    have c7b0 : decide ((l0_2.length : Int) < a1) = false := decide_eq_false c7
    clear c7
    have H' := Aside0.mk H
    clear H
    have hnb10 := NB341_342.out
    have hnc10 := NB342_341.out
    have hcz11_0 := BK341.cl 0 (.int .i64 a0_0)
    have hcz11_1 := BK341.cl 1 (.int .i64 a0_1)
    have hcz11_2 := BK341.cl 2 (.slice A0_2 l0_2.length c0_2)
    have hcz11_3 := BK341.cl 3 (.slice A0_3 l0_3.length c0_3)
    have hfz11_0 := BK341.fz 0
    have hfz11_1 := BK341.fz 1
    have hfz11_2 := BK341.fz 2
    have hfz11_3 := BK341.fz 3
    go_wp2
    go_meet
    case rel => exact ⟨_, (decide (a1 < (wrap64 (-(l0_2.length : Int))))), (by first | rfl | (simp; done) | (simp [*]; done)), H', ⟨by first | omega | exact Nat.le_refl _⟩, ⟨BK341.b⟩, ⟨BK342.b⟩, ⟨HB.l⟩⟩
 case rest => as_aux_lemma =>
  clear HC3
  try clear c1
  try clear p2
  try clear c3
  try clear c6
  try clear c6b0
  try clear c6b1
  try clear p6
  try clear c7
  try clear c7b0
  try clear c8
  try clear c10
  try clear hcz11_0
  try clear hcz11_1
  try clear hcz11_2
  try clear hcz11_3
  try clear hcz9_0
  try clear hcz9_1
  try clear hcz9_2
  try clear hcz9_3
  try clear hfz11_0
  try clear hfz11_1
  try clear hfz11_2
  try clear hfz11_3
  try clear hfz9_0
  try clear hfz9_1
  try clear hfz9_2
  try clear hfz9_3
  obtain ⟨kq, x23_2, rfl, HA, HJ2, BK341, BK342, HB⟩ := hcut
  cases kq with
  | zero => exact absurd HA.out (by simp [interleaveref31_Bound.j0])
  | succ kj2 =>
   have H := HA.out
   clear HA
   simp only [interleaveref31_Bound.j0] at H
   by_cases c12 : x23_2 = true
   ·subst c12
    have H1 : (some (0, 0, 0, false)) = some (r1, r2, r3, r4) := by rw [if_pos rfl] at H; exact H
    clear H
    have H := H1
    clear H1
    simp only [Option.some.injEq, Prod.mk.injEq] at H
    obtain ⟨rfl, rfl, rfl, rfl⟩ := H
    have hnb13 := NB342_341.out
    have hnc13 := NB341_342.out
    have hcz14_0 := BK342.cl 0 (.int .i64 0)
    have hcz14_1 := BK342.cl 1 (.int .i64 0)
    have hcz14_2 := BK342.cl 2 (.int .i64 0)
    have hfz14_0 := BK342.fz 0
    have hfz14_1 := BK342.fz 1
    have hfz14_2 := BK342.fz 2
    go_wp2
    refine bodyPost_ret (results_ct rfl _ _ gb342 75 #[.int .i64 0, .int .i64 0, .int .i64 0] (0, 0) _ rfl (by (with_reducible repeat (first | refine blk_drewN ?_ _ | refine blk_drew ?_ | refine blk_alloc ?_ _)); refine blk_put (cs := #[.int .i64 0, .int .i64 0, .int .i64 0]) ?_ 2 _ rfl; (with_reducible repeat (first | refine blk_drewN ?_ _ | refine blk_drew ?_ | refine blk_alloc ?_ _)); refine blk_put (cs := #[.int .i64 0, .int .i64 0, .int .i64 0]) ?_ 1 _ rfl; (with_reducible repeat (first | refine blk_drewN ?_ _ | refine blk_drew ?_ | refine blk_alloc ?_ _)); refine blk_put (cs := #[.int .i64 0, .int .i64 0, .int .i64 0]) ?_ 0 _ rfl; (with_reducible repeat (first | refine blk_drewN ?_ _ | refine blk_drew ?_ | refine blk_alloc ?_ _)); exact BK342.out) Try.underlying75 rfl (by kernel_rfl)) rfl ?_
    exact ⟨by first | rfl | (simp [errW_none, errW_some] <;> rfl) | (simp [*, errW_none, errW_some] <;> rfl), HB.l⟩
   ·replace c12 := Bool.eq_false_iff.mpr c12
    subst c12
    have H1 : (if a1 > 0 then (if 0 ≤ (wrap64 (a1 - 1)) then (if (wrap64 (a1 - 1)) < (l0_2.length : Int) then (some ((rd_T75 l0_2 (wrap64 (a1 - 1))).f0, (rd_T75 l0_2 (wrap64 (a1 - 1))).f1, (rd_T75 l0_2 (wrap64 (a1 - 1))).f2, true)) else (none)) else (none)) else (if 0 ≤ (wrap64 ((wrap64 (-a1)) - 1)) then (if (wrap64 ((wrap64 (-a1)) - 1)) < (l0_2.length : Int) then (some ((rd_T75 l0_2 (wrap64 ((wrap64 (-a1)) - 1))).f1, (rd_T75 l0_2 (wrap64 ((wrap64 (-a1)) - 1))).f0, wrap64 ((wrap64 (-((rd_T75 l0_2 (wrap64 ((wrap64 (-a1)) - 1))).f2))) - 1), true)) else (none)) else (none))) = some (r1, r2, r3, r4) := by rw [if_neg (show ¬ (false = true) by decide)] at H; exact H
    clear H
    have H := H1
    clear H1
    by_cases c15 : a1 > 0
    ·rw [if_pos c15] at H
     have c15b0 : decide (0 < a1) = true := decide_eq_true c15
     clear c15
     obtain ⟨ji16, hji16⟩ : ∃ j_ : Int, (wrap64 (a1 - 1)) = j_ := ⟨_, rfl⟩
     replace H : (if 0 ≤ (ji16) then (if (ji16) < (l0_2.length : Int) then (some ((rd_T75 l0_2 (ji16)).f0, (rd_T75 l0_2 (ji16)).f1, (rd_T75 l0_2 (ji16)).f2, true)) else (none)) else (none)) = some (r1, r2, r3, r4) := by first | (rw [hji16] at H; exact H) | (simp only [hji16] at H ⊢; exact H)
     have hji16w : (IntKind.i64.wrap (a1 - 1)) = ji16 := (i64_w _).trans hji16
     by_cases c17 : 0 ≤ (ji16)
     ·rw [if_pos c17] at H
      have c17b0 : decide (0 ≤ (ji16)) = true := decide_eq_true c17
      clear c17
      by_cases c18 : (ji16) < (l0_2.length : Int)
      ·rw [if_pos c18] at H
       have c18b0 : decide ((ji16) < (l0_2.length : Int)) = true := decide_eq_true c18
       clear c18
       simp only [Option.some.injEq, Prod.mk.injEq] at H
       obtain ⟨rfl, rfl, rfl, rfl⟩ := H
       have hnb19 := NB341_342.out
       have hnc19 := NB342_341.out
       have hcz20_0 := BK341.cl 0 (.int .i64 a0_0)
       have hcz20_1 := BK341.cl 1 (.int .i64 a0_1)
       have hcz20_2 := BK341.cl 2 (.slice A0_2 l0_2.length c0_2)
       have hcz20_3 := BK341.cl 3 (.slice A0_3 l0_3.length c0_3)
       have hfz20_0 := BK341.fz 0
       have hfz20_1 := BK341.fz 1
       have hfz20_2 := BK341.fz 2
       have hfz20_3 := BK341.fz 3
       have p343 : 0 ≤ ((ji16) : Int) := of_decide_eq_true (by first | (with_reducible assumption) | assumption)
       have q343 : (ji16) < (l0_2.length : Int) := of_decide_eq_true (by first | (with_reducible assumption) | assumption)
       obtain ⟨ad343, e343, hx343_0, hx343_1, hx343_2⟩ := at_T75 HR0_2.out (ji16) p343 q343
       cases e343
       replace hx343_0 := (HB.out.cell (World.block_lt_of_cell? w _ hx343_0)).trans hx343_0
       replace hx343_1 := (HB.out.cell (World.block_lt_of_cell? w _ hx343_1)).trans hx343_1
       replace hx343_2 := (HB.out.cell (World.block_lt_of_cell? w _ hx343_2)).trans hx343_2
       replace p343 := eq_true p343
       replace q343 := eq_true q343
       have hcz21_0 := BK342.cl 0 (.int .i64 0)
       have hcz21_1 := BK342.cl 1 (.int .i64 0)
       have hcz21_2 := BK342.cl 2 (.int .i64 0)
       have hfz21_0 := BK342.fz 0
       have hfz21_1 := BK342.fz 1
       have hfz21_2 := BK342.fz 2
       go_wp2
       refine bodyPost_ret (results_ct rfl _ _ gb342 75 #[.int .i64 ((rd_T75 l0_2 (ji16)).f0), .int .i64 ((rd_T75 l0_2 (ji16)).f1), .int .i64 ((rd_T75 l0_2 (ji16)).f2)] (0, 0) _ rfl (by (with_reducible repeat (first | refine blk_drewN ?_ _ | refine blk_drew ?_ | refine blk_alloc ?_ _)); refine blk_put (cs := #[.int .i64 ((rd_T75 l0_2 (ji16)).f0), .int .i64 ((rd_T75 l0_2 (ji16)).f1), .int .i64 0]) ?_ 2 _ rfl; (with_reducible repeat (first | refine blk_drewN ?_ _ | refine blk_drew ?_ | refine blk_alloc ?_ _)); refine blk_put (cs := #[.int .i64 ((rd_T75 l0_2 (ji16)).f0), .int .i64 0, .int .i64 0]) ?_ 1 _ rfl; (with_reducible repeat (first | refine blk_drewN ?_ _ | refine blk_drew ?_ | refine blk_alloc ?_ _)); refine blk_put (cs := #[.int .i64 0, .int .i64 0, .int .i64 0]) ?_ 0 _ rfl; (with_reducible repeat (first | refine blk_drewN ?_ _ | refine blk_drew ?_ | refine blk_alloc ?_ _)); exact BK342.out) Try.underlying75 rfl (by kernel_rfl)) rfl ?_
       exact ⟨by first | rfl | (simp [errW_none, errW_some] <;> rfl) | (simp only [← hji16]; first | rfl | (simp [errW_none, errW_some] <;> rfl)) | (simp [*, errW_none, errW_some] <;> rfl), HB.l⟩
      ·rw [if_neg c18] at H
       exact absurd H (by simp)
     ·rw [if_neg c17] at H
      exact absurd H (by simp)
    ·rw [if_neg c15] at H
     have c15b0 : decide (0 < a1) = false := decide_eq_false c15
     clear c15
     obtain ⟨ji22, hji22⟩ : ∃ j_ : Int, (wrap64 ((wrap64 (-a1)) - 1)) = j_ := ⟨_, rfl⟩
     replace H : (if 0 ≤ (ji22) then (if (ji22) < (l0_2.length : Int) then (some ((rd_T75 l0_2 (ji22)).f1, (rd_T75 l0_2 (ji22)).f0, wrap64 ((wrap64 (-((rd_T75 l0_2 (ji22)).f2))) - 1), true)) else (none)) else (none)) = some (r1, r2, r3, r4) := by first | (rw [hji22] at H; exact H) | (simp only [hji22] at H ⊢; exact H)
     have hji22w : (IntKind.i64.wrap ((wrap64 (-a1)) - 1)) = ji22 := (i64_w _).trans hji22
     by_cases c23 : 0 ≤ (ji22)
     ·rw [if_pos c23] at H
      have c23b0 : decide (0 ≤ (ji22)) = true := decide_eq_true c23
      clear c23
      by_cases c24 : (ji22) < (l0_2.length : Int)
      ·rw [if_pos c24] at H
       have c24b0 : decide ((ji22) < (l0_2.length : Int)) = true := decide_eq_true c24
       clear c24
       simp only [Option.some.injEq, Prod.mk.injEq] at H
       obtain ⟨rfl, rfl, rfl, rfl⟩ := H
       have hnb25 := NB341_342.out
       have hnc25 := NB342_341.out
       have hcz26_0 := BK341.cl 0 (.int .i64 a0_0)
       have hcz26_1 := BK341.cl 1 (.int .i64 a0_1)
       have hcz26_2 := BK341.cl 2 (.slice A0_2 l0_2.length c0_2)
       have hcz26_3 := BK341.cl 3 (.slice A0_3 l0_3.length c0_3)
       have hfz26_0 := BK341.fz 0
       have hfz26_1 := BK341.fz 1
       have hfz26_2 := BK341.fz 2
       have hfz26_3 := BK341.fz 3
       have p344 : 0 ≤ ((ji22) : Int) := of_decide_eq_true (by first | (with_reducible assumption) | assumption)
       have q344 : (ji22) < (l0_2.length : Int) := of_decide_eq_true (by first | (with_reducible assumption) | assumption)
       obtain ⟨ad344, e344, hx344_0, hx344_1, hx344_2⟩ := at_T75 HR0_2.out (ji22) p344 q344
       cases e344
       replace hx344_0 := (HB.out.cell (World.block_lt_of_cell? w _ hx344_0)).trans hx344_0
       replace hx344_1 := (HB.out.cell (World.block_lt_of_cell? w _ hx344_1)).trans hx344_1
       replace hx344_2 := (HB.out.cell (World.block_lt_of_cell? w _ hx344_2)).trans hx344_2
       replace p344 := eq_true p344
       replace q344 := eq_true q344
       go_wp2_with (first | ((with_reducible refine gate_dst (N := 6) rfl ?_); (try (refine gate_guard (by rfl) ?_; dsimp only)); refine box_ev (N := 6) rfl (cs := #[.int .i64 0, .int .i64 0, .int .i64 0]) (t := 75) ?_; intro gb345 hg w27 hbox hb; have n0_ := Aside0.mk (blk_below BK341.b hb); have n1_ := Aside0.mk (blk_below BK342.b hb); have n2_ := Aside0.mk (below_step HB.l hb); have n3_ := Aside0.mk (hbox); have n4_ := Aside0.mk ((by rw [hg]; exact (below_size HB.l) : w.heap.size ≤ gb345)); have n5_ := Aside0.mk ((by rw [hg]; exact (below_size HB.l) : w.heap.size ≤ gb345)); have n6_ := Aside0.mk ((by rw [hg]; exact Nat.ne_of_lt (blk_lt BK341.b) : gb341 ≠ gb345)); have n7_ := Aside0.mk ((by rw [hg]; exact Nat.ne_of_gt (blk_lt BK341.b) : gb345 ≠ gb341)); have n8_ := Aside0.mk ((by rw [hg]; exact Nat.ne_of_lt (blk_lt BK342.b) : gb342 ≠ gb345)); have n9_ := Aside0.mk ((by rw [hg]; exact Nat.ne_of_gt (blk_lt BK342.b) : gb345 ≠ gb342)); clear BK341 BK342 HB; revert n0_ n1_ n2_ n3_ n4_ n5_ n6_ n7_ n8_ n9_; intro BK341 BK342 HB BK345 GW345 GE345 NB341_345 NB345_341 NB342_345 NB345_342; clear hb hbox hg; have hnb28 := NB345_341.out; have hnc28 := NB341_345.out; have hnb29 := NB345_342.out; have hnc29 := NB342_345.out; have hcz30_0 := BK345.cl 0 (.int .i64 0); have hcz30_1 := BK345.cl 1 (.int .i64 0); have hcz30_2 := BK345.cl 2 (.int .i64 0); have hfz30_0 := BK345.fz 0; have hfz30_1 := BK345.fz 1; have hfz30_2 := BK345.fz 2; have hcz31_0 := BK342.cl 0 (.int .i64 0); have hcz31_1 := BK342.cl 1 (.int .i64 0); have hcz31_2 := BK342.cl 2 (.int .i64 0); have hfz31_0 := BK342.fz 0; have hfz31_1 := BK342.fz 1; have hfz31_2 := BK342.fz 2))
       refine bodyPost_ret (results_ct rfl _ _ gb342 75 #[.int .i64 ((rd_T75 l0_2 (ji22)).f1), .int .i64 ((rd_T75 l0_2 (ji22)).f0), .int .i64 (wrap64 ((wrap64 (-((rd_T75 l0_2 (ji22)).f2))) - 1))] (0, 0) _ rfl (by (with_reducible repeat (first | refine blk_drewN ?_ _ | refine blk_drew ?_ | refine blk_alloc ?_ _)); refine blk_put (cs := #[.int .i64 ((rd_T75 l0_2 (ji22)).f1), .int .i64 ((rd_T75 l0_2 (ji22)).f0), .int .i64 0]) ?_ 2 _ rfl; (with_reducible repeat (first | refine blk_drewN ?_ _ | refine blk_drew ?_ | refine blk_alloc ?_ _)); refine blk_put (cs := #[.int .i64 ((rd_T75 l0_2 (ji22)).f1), .int .i64 0, .int .i64 0]) ?_ 1 _ rfl; (with_reducible repeat (first | refine blk_drewN ?_ _ | refine blk_drew ?_ | refine blk_alloc ?_ _)); refine blk_put (cs := #[.int .i64 0, .int .i64 0, .int .i64 0]) ?_ 0 _ rfl; (with_reducible repeat (first | refine blk_drewN ?_ _ | refine blk_drew ?_ | refine blk_alloc ?_ _)); refine blk_far ?_ NB342_345.out _; (with_reducible repeat (first | refine blk_drewN ?_ _ | refine blk_drew ?_ | refine blk_alloc ?_ _)); refine blk_far ?_ NB342_345.out _; (with_reducible repeat (first | refine blk_drewN ?_ _ | refine blk_drew ?_ | refine blk_alloc ?_ _)); refine blk_far ?_ NB342_345.out _; (with_reducible repeat (first | refine blk_drewN ?_ _ | refine blk_drew ?_ | refine blk_alloc ?_ _)); exact BK342.out) Try.underlying75 rfl (by kernel_rfl)) rfl ?_
       exact ⟨by first | rfl | (simp [errW_none, errW_some] <;> rfl) | (simp only [← hji22]; first | rfl | (simp [errW_none, errW_some] <;> rfl)) | (simp [*, errW_none, errW_some] <;> rfl), HB.l⟩
      ·rw [if_neg c24] at H
       exact absurd H (by simp)
     ·rw [if_neg c23] at H
      exact absurd H (by simp)

/-! ### interleaveref31_Cycle: function 55 -/
mutual
def interleaveref31_Cycle.l0 : Nat → List (S75) → List Int → Int → List Int → Int → Int → Option (Bool)
 | 0, _, _, _, _, _, _ => none
 | k + 1, x0, x1, x5, x9, x10, x11 => if x11 < x10 then (if 0 ≤ x11 then (if x11 < (x9.length : Int) then (if (rd x9 x11) < 0 then (interleaveref31_Cycle.j1 k x0 x1 x5 x11 (rd x9 x11) x9 x10 x11 true) else (interleaveref31_Cycle.j1 k x0 x1 x5 x11 (rd x9 x11) x9 x10 x11 (decide ((rd x9 x11) ≥ (x0.length : Int))))) else (none)) else (none)) else (if (x1.length : Int) > 0 then (some (decide (x5 < 0))) else (some false))
def interleaveref31_Cycle.j1 : Nat → List (S75) → List Int → Int → Int → Int → List Int → Int → Int → Bool → Option (Bool)
 | 0, _, _, _, _, _, _, _, _, _ => none
 | k + 1, x0, x1, x5, x6, x7, x9, x10, x11, x23 => if x23 = true then (some false) else (if (x1.length : Int) = 0 then (none) else (if 0 ≤ (Int.tmod (wrap64 (x6 + 1)) (x1.length : Int)) then (if (Int.tmod (wrap64 (x6 + 1)) (x1.length : Int)) < (x1.length : Int) then (if (rd x1 (Int.tmod (wrap64 (x6 + 1)) (x1.length : Int))) < 0 then (some false) else (if (rd x1 (Int.tmod (wrap64 (x6 + 1)) (x1.length : Int))) ≥ (x0.length : Int) then (some false) else (if 0 ≤ x7 then (if x7 < (x0.length : Int) then (if 0 ≤ (rd x1 (Int.tmod (wrap64 (x6 + 1)) (x1.length : Int))) then (if (rd x1 (Int.tmod (wrap64 (x6 + 1)) (x1.length : Int))) < (x0.length : Int) then (if ((rd_T75 x0 x7).f1) = ((rd_T75 x0 (rd x1 (Int.tmod (wrap64 (x6 + 1)) (x1.length : Int)))).f0) then (interleaveref31_Cycle.l0 k x0 x1 (wrap64 (x5 + ((rd_T75 x0 x7).f2))) x9 x10 (wrap64 (x11 + 1))) else (some false)) else (none)) else (none)) else (none)) else (none)))) else (none)) else (none)))
end
def interleaveref31_Cycle.f (k : Nat) (l0 : List (S75)) (l1 : List Int) : Option (Bool) := interleaveref31_Cycle.l0 k l0 l1 0 l1 (l1.length : Int) 0
theorem interleaveref31_Cycle.mono_l : ∀ k, (∀ y0 y1 y2 y3 y4 y5, LeO (interleaveref31_Cycle.l0 k y0 y1 y2 y3 y4 y5) (interleaveref31_Cycle.l0 (k + 1) y0 y1 y2 y3 y4 y5)) ∧ (∀ y0 y1 y2 y3 y4 y5 y6 y7 y8, LeO (interleaveref31_Cycle.j1 k y0 y1 y2 y3 y4 y5 y6 y7 y8) (interleaveref31_Cycle.j1 (k + 1) y0 y1 y2 y3 y4 y5 y6 y7 y8))
 | 0 => ⟨fun _ _ _ _ _ _ r h => by simp [interleaveref31_Cycle.l0] at h, fun _ _ _ _ _ _ _ _ _ r h => by simp [interleaveref31_Cycle.j1] at h⟩
 | k + 1 => by
  obtain ⟨ih0, ih1⟩ := interleaveref31_Cycle.mono_l k
  refine ⟨?_, ?_⟩
  ·intro y0 y1 y2 y3 y4 y5
   unfold interleaveref31_Cycle.l0
   repeat' first
   | (with_reducible exact ih0 _ _ _ _ _ _)
   | (with_reducible exact ih1 _ _ _ _ _ _ _ _ _)
   | (with_reducible exact LeO.refl _)
   | (with_reducible exact LeO.none _)
   | (with_reducible refine LeO.ite ?_ ?_)
   | (with_reducible refine LeO.bind ?_ (fun _ => ?_))
   | exact ih0 _ _ _ _ _ _
   | exact ih1 _ _ _ _ _ _ _ _ _
   | exact LeO.none _
   | refine LeO.ite ?_ ?_
   | refine LeO.bind ?_ (fun _ => ?_)
  ·intro y0 y1 y2 y3 y4 y5 y6 y7 y8
   unfold interleaveref31_Cycle.j1
   repeat' first
   | (with_reducible exact ih0 _ _ _ _ _ _)
   | (with_reducible exact ih1 _ _ _ _ _ _ _ _ _)
   | (with_reducible exact LeO.refl _)
   | (with_reducible exact LeO.none _)
   | (with_reducible refine LeO.ite ?_ ?_)
   | (with_reducible refine LeO.bind ?_ (fun _ => ?_))
   | exact ih0 _ _ _ _ _ _
   | exact ih1 _ _ _ _ _ _ _ _ _
   | exact LeO.none _
   | refine LeO.ite ?_ ?_
   | refine LeO.bind ?_ (fun _ => ?_)
theorem interleaveref31_Cycle.mono : ∀ a0 a1 k, LeO (interleaveref31_Cycle.f k a0 a1) (interleaveref31_Cycle.f (k + 1) a0 a1) := by
 intro a0 a1 k
 obtain ⟨ih0, ih1⟩ := interleaveref31_Cycle.mono_l k
 unfold interleaveref31_Cycle.f
 repeat' first
   | (with_reducible exact ih0 _ _ _ _ _ _)
   | (with_reducible exact ih1 _ _ _ _ _ _ _ _ _)
   | (with_reducible exact LeO.refl _)
   | (with_reducible exact LeO.none _)
   | (with_reducible refine LeO.ite ?_ ?_)
   | (with_reducible refine LeO.bind ?_ (fun _ => ?_))
   | exact ih0 _ _ _ _ _ _
   | exact ih1 _ _ _ _ _ _ _ _ _
   | exact LeO.none _
   | refine LeO.ite ?_ ?_
   | refine LeO.bind ?_ (fun _ => ?_)
set_option maxHeartbeats 8000000 in
set_option maxRecDepth 100000 in
theorem interleaveref31_Cycle.calls (k : Nat) (A0 : Option Addr) (c0 : Nat) (l0 : List (S75)) (A1 : Option Addr) (c1 : Nat) (l1 : List Int) (r : Bool) (w : World) (hr0 : Kd.C k75 w A0 l0.length l0) (hc0 : l0.length ≤ c0) (hr1 : Kd.C (Kd.int .i64) w A1 l1.length l1) (hc1 : l1.length ≤ c1) (h : interleaveref31_Cycle.f k l0 l1 = some r) :
  Calls Try.prog 55 #[.slice A0 l0.length c0, .slice A1 l1.length c1] w fun e w' => e = .returned (.bool r) ∧ Drawn0 w w' := by
 have HR0 := Aside0.mk hr0
 have HC0 := Aside0.mk hc0
 clear hr0 hc0
 have HR1 := Aside0.mk hr1
 have HC1 := Aside0.mk hc1
 clear hr1 hc1
 have H : (interleaveref31_Cycle.l0 k l0 l1 0 l1 (l1.length : Int) 0) = some r := h
 clear h
 have H' := Aside0.mk H
 clear H
 go_enter Try.func55, Try.ntmps55
 go_wp2
 repeat (go_quiet (fail); try go_wp2)
 go_loopg [5, 11] k (fun kq v5 v11 w' => ∃ (x5_1 : Int) (x11_1 : Int), v5 = .int .i64 x5_1 ∧ v11 = .int .i64 x11_1 ∧ Aside0 (interleaveref31_Cycle.l0 kq l0 l1 x5_1 l1 (l1.length : Int) x11_1 = some r) ∧ Aside0 (kq ≤ k) ∧ Drawn0 w w')
 case atStart => exact ⟨(0), (0), (by first | rfl | (simp; done) | (simp [*]; done)), (by first | rfl | (simp; done) | (simp [*]; done)), H', ⟨Nat.le_refl _⟩, by repeat (first | exact Drawn0.refl _ | apply Drawn0.step)⟩
 case round => as_aux_lemma =>
  clear H'
  try clear c1
  try clear p2
  obtain ⟨x5_1, x11_1, rfl, rfl, HA, HK1, ⟨m1, rfl⟩⟩ := hrel
  cases gk with
  | zero => exact absurd HA.out (by simp [interleaveref31_Cycle.l0])
  | succ k1 =>
   have H := HA.out
   clear HA
   simp only [interleaveref31_Cycle.l0] at H
   by_cases c3 : x11_1 < (l1.length : Int)
   ·rw [if_pos c3] at H
    have c3b0 : decide (x11_1 < (l1.length : Int)) = true := decide_eq_true c3
    clear c3
    by_cases c4 : 0 ≤ x11_1
    ·rw [if_pos c4] at H
     have c4b0 : decide (0 ≤ x11_1) = true := decide_eq_true c4
     clear c4
     by_cases c5 : x11_1 < (l1.length : Int)
     ·rw [if_pos c5] at H
      have c5b0 : decide (x11_1 < (l1.length : Int)) = true := decide_eq_true c5
      clear c5
      have HC6 := Aside0.mk H
      clear H
      have p346 : 0 ≤ (x11_1 : Int) := of_decide_eq_true (by first | (with_reducible assumption) | assumption)
      have q346 : x11_1 < (l1.length : Int) := of_decide_eq_true (by first | (with_reducible assumption) | assumption)
      obtain ⟨ad346, e346, hx346_0⟩ := Kd.at_int HR1.out x11_1 p346 q346
      cases e346
      replace p346 := eq_true p346
      replace q346 := eq_true q346
      go_upto_region 5 with (fail)
      repeat (go_quiet (fail); go_upto_region 5 with (fail))
      go_cut [23] (fun v23 wc => ∃ (kq : Nat) (x23_5 : Bool), v23 = .bool x23_5 ∧ Aside0 (interleaveref31_Cycle.j1 kq l0 l1 x5_1 x11_1 (rd l1 x11_1) l1 (l1.length : Int) x11_1 x23_5 = some r) ∧ Aside0 (kq ≤ k1) ∧ Drawn0 w wc)
      case first => as_aux_lemma =>
       have H := HC6.out
       clear HC6
       by_cases c7 : (rd l1 x11_1) < 0
       ·rw [if_pos c7] at H
        have c7b0 : decide ((rd l1 x11_1) < 0) = true := decide_eq_true c7
        clear c7
        (first | rw [c7b0] | (simp only [i64_w, i32_w]; rw [c7b0]) | skip)
        have H' := Aside0.mk H
        clear H
        go_wp2
        repeat (go_quiet (fail); try go_wp2)
        go_meet
        case rel => exact ⟨_, (true), (by first | rfl | (simp; done) | (simp [*]; done)), H', ⟨by have := HK1.out; first | omega | exact Nat.le_refl _⟩, by repeat (first | exact Drawn0.refl _ | apply Drawn0.step)⟩
       ·rw [if_neg c7] at H
        have c7b0 : decide ((rd l1 x11_1) < 0) = false := decide_eq_false c7
        clear c7
        (first | rw [c7b0] | (simp only [i64_w, i32_w]; rw [c7b0]) | skip)
        have H' := Aside0.mk H
        clear H
        go_wp2
        repeat (go_quiet (fail); try go_wp2)
        go_meet
        case rel => exact ⟨_, (decide ((rd l1 x11_1) ≥ (l0.length : Int))), (by first | rfl | (simp; done) | (simp [*]; done)), H', ⟨by have := HK1.out; first | omega | exact Nat.le_refl _⟩, by repeat (first | exact Drawn0.refl _ | apply Drawn0.step)⟩
      case rest => as_aux_lemma =>
       clear HC6
       try clear c1
       try clear p2
       try clear c3
       try clear c3b0
       try clear p3
       try clear q3
       try clear hx3
       try clear c4
       try clear c4b0
       try clear c5
       try clear c5b0
       try clear c7
       try clear c7b0
       try clear hx346_0
       try clear p2
       try clear p346
       try clear q346
       obtain ⟨kq, x23_5, rfl, HA, HJ5, ⟨mc5, rfl⟩⟩ := hcut
       cases kq with
       | zero => exact absurd HA.out (by simp [interleaveref31_Cycle.j1])
       | succ kj5 =>
        have H := HA.out
        clear HA
        simp only [interleaveref31_Cycle.j1] at H
        by_cases c8 : x23_5 = true
        ·subst c8
         have H1 : (some false) = some r := by rw [if_pos rfl] at H; exact H
         clear H
         have H := H1
         clear H1
         obtain rfl := Option.some.inj H
         go_wp2
         repeat (go_quiet (fail); try go_wp2)
         go_ret
         exact ⟨by first | rfl | (simp; done) | (simp [*]; done), by repeat (first | exact Drawn0.refl _ | apply Drawn0.step)⟩
        ·replace c8 := Bool.eq_false_iff.mpr c8
         subst c8
         have H1 : (if (l1.length : Int) = 0 then (none) else (if 0 ≤ (Int.tmod (wrap64 (x11_1 + 1)) (l1.length : Int)) then (if (Int.tmod (wrap64 (x11_1 + 1)) (l1.length : Int)) < (l1.length : Int) then (if (rd l1 (Int.tmod (wrap64 (x11_1 + 1)) (l1.length : Int))) < 0 then (some false) else (if (rd l1 (Int.tmod (wrap64 (x11_1 + 1)) (l1.length : Int))) ≥ (l0.length : Int) then (some false) else (if 0 ≤ (rd l1 x11_1) then (if (rd l1 x11_1) < (l0.length : Int) then (if 0 ≤ (rd l1 (Int.tmod (wrap64 (x11_1 + 1)) (l1.length : Int))) then (if (rd l1 (Int.tmod (wrap64 (x11_1 + 1)) (l1.length : Int))) < (l0.length : Int) then (if ((rd_T75 l0 (rd l1 x11_1)).f1) = ((rd_T75 l0 (rd l1 (Int.tmod (wrap64 (x11_1 + 1)) (l1.length : Int)))).f0) then (interleaveref31_Cycle.l0 kj5 l0 l1 (wrap64 (x5_1 + ((rd_T75 l0 (rd l1 x11_1)).f2))) l1 (l1.length : Int) (wrap64 (x11_1 + 1))) else (some false)) else (none)) else (none)) else (none)) else (none)))) else (none)) else (none))) = some r := by rw [if_neg (show ¬ (false = true) by decide)] at H; exact H
         clear H
         have H := H1
         clear H1
         by_cases c9 : (l1.length : Int) = 0
         ·rw [if_pos c9] at H
          exact absurd H (by simp)
         ·rw [if_neg c9] at H
          have c9b0 : ((l1.length : Int) == 0) = false := beq_eq_false_iff_ne.mpr c9
          have c9b1 : ((l1.length : Int) != 0) = true := bne_iff_ne.mpr c9
          have c9b2 : ¬ (l1 = []) := fun h_ => c9 (by rw [h_]; rfl)
          obtain ⟨ji10, hji10⟩ : ∃ j_ : Int, (Int.tmod (wrap64 (x11_1 + 1)) (l1.length : Int)) = j_ := ⟨_, rfl⟩
          replace H : (if 0 ≤ (ji10) then (if (ji10) < (l1.length : Int) then (if (rd l1 (ji10)) < 0 then (some false) else (if (rd l1 (ji10)) ≥ (l0.length : Int) then (some false) else (if 0 ≤ (rd l1 x11_1) then (if (rd l1 x11_1) < (l0.length : Int) then (if 0 ≤ (rd l1 (ji10)) then (if (rd l1 (ji10)) < (l0.length : Int) then (if ((rd_T75 l0 (rd l1 x11_1)).f1) = ((rd_T75 l0 (rd l1 (ji10))).f0) then (interleaveref31_Cycle.l0 kj5 l0 l1 (wrap64 (x5_1 + ((rd_T75 l0 (rd l1 x11_1)).f2))) l1 (l1.length : Int) (wrap64 (x11_1 + 1))) else (some false)) else (none)) else (none)) else (none)) else (none)))) else (none)) else (none)) = some r := by first | (rw [hji10] at H; exact H) | (simp only [hji10] at H ⊢; exact H)
          by_cases c11 : 0 ≤ (ji10)
          ·rw [if_pos c11] at H
           have c11b0 : decide (0 ≤ (ji10)) = true := decide_eq_true c11
           clear c11
           by_cases c12 : (ji10) < (l1.length : Int)
           ·rw [if_pos c12] at H
            have c12b0 : decide ((ji10) < (l1.length : Int)) = true := decide_eq_true c12
            clear c12
            by_cases c13 : (rd l1 (ji10)) < 0
            ·rw [if_pos c13] at H
             have c13b0 : decide ((rd l1 (ji10)) < 0) = true := decide_eq_true c13
             clear c13
             obtain rfl := Option.some.inj H
             have p347 : 0 ≤ ((ji10) : Int) := of_decide_eq_true (by first | (with_reducible assumption) | assumption)
             have q347 : (ji10) < (l1.length : Int) := of_decide_eq_true (by first | (with_reducible assumption) | assumption)
             obtain ⟨ad347, e347, hx347_0⟩ := Kd.at_int HR1.out (ji10) p347 q347
             obtain rfl : ad346 = ad347 := (by injection e347)
             replace p347 := eq_true p347
             replace q347 := eq_true q347
             go_wp2
             repeat (go_quiet (fail); try go_wp2)
             go_ret
             exact ⟨by first | rfl | (simp; done) | (simp only [← hji10] <;> (first | rfl | simp)) | (simp [*]; done), by repeat (first | exact Drawn0.refl _ | apply Drawn0.step)⟩
            ·rw [if_neg c13] at H
             have c13b0 : decide ((rd l1 (ji10)) < 0) = false := decide_eq_false c13
             clear c13
             by_cases c14 : (rd l1 (ji10)) ≥ (l0.length : Int)
             ·rw [if_pos c14] at H
              have c14b0 : decide ((l0.length : Int) ≤ (rd l1 (ji10))) = true := decide_eq_true c14
              clear c14
              obtain rfl := Option.some.inj H
              have p347 : 0 ≤ ((ji10) : Int) := of_decide_eq_true (by first | (with_reducible assumption) | assumption)
              have q347 : (ji10) < (l1.length : Int) := of_decide_eq_true (by first | (with_reducible assumption) | assumption)
              obtain ⟨ad347, e347, hx347_0⟩ := Kd.at_int HR1.out (ji10) p347 q347
              obtain rfl : ad346 = ad347 := (by injection e347)
              replace p347 := eq_true p347
              replace q347 := eq_true q347
              go_wp2
              repeat (go_quiet (fail); try go_wp2)
              go_ret
              exact ⟨by first | rfl | (simp; done) | (simp only [← hji10] <;> (first | rfl | simp)) | (simp [*]; done), by repeat (first | exact Drawn0.refl _ | apply Drawn0.step)⟩
             ·rw [if_neg c14] at H
              have c14b0 : decide ((l0.length : Int) ≤ (rd l1 (ji10))) = false := decide_eq_false c14
              clear c14
              by_cases c15 : 0 ≤ (rd l1 x11_1)
              ·rw [if_pos c15] at H
               have c15b0 : decide (0 ≤ (rd l1 x11_1)) = true := decide_eq_true c15
               clear c15
               by_cases c16 : (rd l1 x11_1) < (l0.length : Int)
               ·rw [if_pos c16] at H
                have c16b0 : decide ((rd l1 x11_1) < (l0.length : Int)) = true := decide_eq_true c16
                clear c16
                by_cases c17 : 0 ≤ (rd l1 (ji10))
                ·rw [if_pos c17] at H
                 have c17b0 : decide (0 ≤ (rd l1 (ji10))) = true := decide_eq_true c17
                 clear c17
                 by_cases c18 : (rd l1 (ji10)) < (l0.length : Int)
                 ·rw [if_pos c18] at H
                  have c18b0 : decide ((rd l1 (ji10)) < (l0.length : Int)) = true := decide_eq_true c18
                  clear c18
                  by_cases c19 : ((rd_T75 l0 (rd l1 x11_1)).f1) = ((rd_T75 l0 (rd l1 (ji10))).f0)
                  ·rw [if_pos c19] at H
                   have c19b0 : (((rd_T75 l0 (rd l1 x11_1)).f1) == ((rd_T75 l0 (rd l1 (ji10))).f0)) = true := beq_iff_eq.mpr c19
                   have c19b1 : (((rd_T75 l0 (rd l1 x11_1)).f1) != ((rd_T75 l0 (rd l1 (ji10))).f0)) = false := bne_eq_false_iff_eq.mpr c19
                   clear c19
                   have H' := Aside0.mk H
                   clear H
                   have p347 : 0 ≤ ((ji10) : Int) := of_decide_eq_true (by first | (with_reducible assumption) | assumption)
                   have q347 : (ji10) < (l1.length : Int) := of_decide_eq_true (by first | (with_reducible assumption) | assumption)
                   obtain ⟨ad347, e347, hx347_0⟩ := Kd.at_int HR1.out (ji10) p347 q347
                   obtain rfl : ad346 = ad347 := (by injection e347)
                   replace p347 := eq_true p347
                   replace q347 := eq_true q347
                   have p348 : 0 ≤ ((rd l1 x11_1) : Int) := of_decide_eq_true (by first | (with_reducible assumption) | assumption)
                   have q348 : (rd l1 x11_1) < (l0.length : Int) := of_decide_eq_true (by first | (with_reducible assumption) | assumption)
                   obtain ⟨ad348, e348, hx348_0, hx348_1, hx348_2⟩ := at_T75 HR0.out (rd l1 x11_1) p348 q348
                   cases e348
                   replace p348 := eq_true p348
                   replace q348 := eq_true q348
                   have p349 : 0 ≤ ((rd l1 (ji10)) : Int) := of_decide_eq_true (by first | (with_reducible assumption) | assumption)
                   have q349 : (rd l1 (ji10)) < (l0.length : Int) := of_decide_eq_true (by first | (with_reducible assumption) | assumption)
                   obtain ⟨ad349, e349, hx349_0, hx349_1, hx349_2⟩ := at_T75 HR0.out (rd l1 (ji10)) p349 q349
                   obtain rfl : ad348 = ad349 := (by injection e349)
                   replace p349 := eq_true p349
                   replace q349 := eq_true q349
                   have p350 : 0 ≤ ((rd l1 x11_1) : Int) := of_decide_eq_true (by first | (with_reducible assumption) | assumption)
                   have q350 : (rd l1 x11_1) < (l0.length : Int) := of_decide_eq_true (by first | (with_reducible assumption) | assumption)
                   obtain ⟨ad350, e350, hx350_0, hx350_1, hx350_2⟩ := at_T75 HR0.out (rd l1 x11_1) p350 q350
                   obtain rfl : ad348 = ad350 := (by injection e350)
                   replace p350 := eq_true p350
                   replace q350 := eq_true q350
                   go_wp2
                   repeat (go_quiet (fail); try go_wp2)
                   go_roundg kj5
                   case measure => have := HK1.out; have := HJ5.out; omega
                   case rel => exact ⟨(wrap64 (x5_1 + ((rd_T75 l0 (rd l1 x11_1)).f2))), (wrap64 (x11_1 + 1)), (by first | rfl | (simp; done) | (simp [*]; done)), (by first | rfl | (simp; done) | (simp [*]; done)), H', ⟨by have := HK1.out; have := HJ5.out; omega⟩, by repeat (first | exact Drawn0.refl _ | apply Drawn0.step)⟩
                  ·rw [if_neg c19] at H
                   have c19b0 : (((rd_T75 l0 (rd l1 x11_1)).f1) == ((rd_T75 l0 (rd l1 (ji10))).f0)) = false := beq_eq_false_iff_ne.mpr c19
                   have c19b1 : (((rd_T75 l0 (rd l1 x11_1)).f1) != ((rd_T75 l0 (rd l1 (ji10))).f0)) = true := bne_iff_ne.mpr c19
                   obtain rfl := Option.some.inj H
                   have p347 : 0 ≤ ((ji10) : Int) := of_decide_eq_true (by first | (with_reducible assumption) | assumption)
                   have q347 : (ji10) < (l1.length : Int) := of_decide_eq_true (by first | (with_reducible assumption) | assumption)
                   obtain ⟨ad347, e347, hx347_0⟩ := Kd.at_int HR1.out (ji10) p347 q347
                   obtain rfl : ad346 = ad347 := (by injection e347)
                   replace p347 := eq_true p347
                   replace q347 := eq_true q347
                   have p348 : 0 ≤ ((rd l1 x11_1) : Int) := of_decide_eq_true (by first | (with_reducible assumption) | assumption)
                   have q348 : (rd l1 x11_1) < (l0.length : Int) := of_decide_eq_true (by first | (with_reducible assumption) | assumption)
                   obtain ⟨ad348, e348, hx348_0, hx348_1, hx348_2⟩ := at_T75 HR0.out (rd l1 x11_1) p348 q348
                   cases e348
                   replace p348 := eq_true p348
                   replace q348 := eq_true q348
                   have p349 : 0 ≤ ((rd l1 (ji10)) : Int) := of_decide_eq_true (by first | (with_reducible assumption) | assumption)
                   have q349 : (rd l1 (ji10)) < (l0.length : Int) := of_decide_eq_true (by first | (with_reducible assumption) | assumption)
                   obtain ⟨ad349, e349, hx349_0, hx349_1, hx349_2⟩ := at_T75 HR0.out (rd l1 (ji10)) p349 q349
                   obtain rfl : ad348 = ad349 := (by injection e349)
                   replace p349 := eq_true p349
                   replace q349 := eq_true q349
                   go_wp2
                   repeat (go_quiet (fail); try go_wp2)
                   go_ret
                   exact ⟨by first | rfl | (simp; done) | (simp only [← hji10] <;> (first | rfl | simp)) | (simp [*]; done), by repeat (first | exact Drawn0.refl _ | apply Drawn0.step)⟩
                 ·rw [if_neg c18] at H
                  exact absurd H (by simp)
                ·rw [if_neg c17] at H
                 exact absurd H (by simp)
               ·rw [if_neg c16] at H
                exact absurd H (by simp)
              ·rw [if_neg c15] at H
               exact absurd H (by simp)
           ·rw [if_neg c12] at H
            exact absurd H (by simp)
          ·rw [if_neg c11] at H
           exact absurd H (by simp)
     ·rw [if_neg c5] at H
      exact absurd H (by simp)
    ·rw [if_neg c4] at H
     exact absurd H (by simp)
   ·rw [if_neg c3] at H
    have c3b0 : decide (x11_1 < (l1.length : Int)) = false := decide_eq_false c3
    clear c3
    by_cases c20 : (l1.length : Int) > 0
    ·rw [if_pos c20] at H
     have c20b0 : decide (0 < (l1.length : Int)) = true := decide_eq_true c20
     have c20b1 : decide (0 < l1.length) = true := decide_eq_true (by omega)
     clear c20
     obtain rfl := Option.some.inj H
     go_wp2
     repeat (go_quiet (fail); try go_wp2)
     go_ret
     exact ⟨by first | rfl | (simp; done) | (simp [*]; done), by repeat (first | exact Drawn0.refl _ | apply Drawn0.step)⟩
    ·rw [if_neg c20] at H
     have c20b0 : decide (0 < (l1.length : Int)) = false := decide_eq_false c20
     have c20b1 : decide (0 < l1.length) = false := decide_eq_false (by omega)
     clear c20
     obtain rfl := Option.some.inj H
     go_wp2
     repeat (go_quiet (fail); try go_wp2)
     go_ret
     exact ⟨by first | rfl | (simp; done) | (simp [*]; done), by repeat (first | exact Drawn0.refl _ | apply Drawn0.step)⟩

/-! ### interleaveref31_Cyclic: function 44 -/
def interleaveref31_Cyclic.l0 : Nat → List (S75) → List Int → List Int → List Int → Int → Int → Int → Int → List (S75) → List (List Int) → Option (List Int × Bool)
 | 0, _, _, _, _, _, _, _, _, _, _ => none
 | k + 1, x6, x7, x8, x13, x14, x15, x352000, x352001, x352002, x352003 => if x15 < x14 then (if 0 ≤ x15 then (if x15 < (x13.length : Int) then ((interleaveref31_Bound.f k x352000 x352001 x352002 x352003 (rd x13 x15)).bind fun bt353 => (if bt353.2.2.2 = true then (if x6.length < 5864062014805 then (if x7.length < 17592186044416 then (if x8.length < 17592186044416 then (interleaveref31_Cyclic.l0 k (x6 ++ [(⟨bt353.1, bt353.2.1, bt353.2.2.1⟩ : S75)]) (x7 ++ [x15]) (x8 ++ [wrap64 (-(rd x13 x15))]) x13 x14 (wrap64 (x15 + 1)) x352000 x352001 x352002 x352003) else (none)) else (none)) else (none)) else (some (([] : List Int), false)))) else (none)) else (none)) else ((interleaveref31_Cycle.f k x6 x7).bind fun t367 => (if t367 = true then ((interleaveref31_Normal.f k x8).bind fun bt368 => (some (bt368.1, bt368.2))) else (some (([] : List Int), false))))
def interleaveref31_Cyclic.f (k : Nat) (a0_0 : Int) (a0_1 : Int) (l0_2 : List (S75)) (l0_3 : List (List Int)) (l1 : List Int) : Option (List Int × Bool) := interleaveref31_Cyclic.l0 k ([] : List (S75)) ([] : List Int) ([] : List Int) l1 (l1.length : Int) 0 a0_0 a0_1 l0_2 l0_3
theorem interleaveref31_Cyclic.mono_l : ∀ k, (∀ y0 y1 y2 y3 y4 y5 y6 y7 y8 y9, LeO (interleaveref31_Cyclic.l0 k y0 y1 y2 y3 y4 y5 y6 y7 y8 y9) (interleaveref31_Cyclic.l0 (k + 1) y0 y1 y2 y3 y4 y5 y6 y7 y8 y9))
 | 0 => fun _ _ _ _ _ _ _ _ _ _ r h => by simp [interleaveref31_Cyclic.l0] at h
 | k + 1 => by
  have ih0 := interleaveref31_Cyclic.mono_l k
  ·intro y0 y1 y2 y3 y4 y5 y6 y7 y8 y9
   unfold interleaveref31_Cyclic.l0
   repeat' first
   | (with_reducible exact ih0 _ _ _ _ _ _ _ _ _ _)
   | (with_reducible exact interleaveref31_Bound.mono _ _ _ _ _ _)
   | (with_reducible exact interleaveref31_Cycle.mono _ _ _)
   | (with_reducible exact interleaveref31_Normal.mono _ _)
   | (with_reducible exact LeO.refl _)
   | (with_reducible exact LeO.none _)
   | (with_reducible refine LeO.ite ?_ ?_)
   | (with_reducible refine LeO.bind ?_ (fun _ => ?_))
   | exact ih0 _ _ _ _ _ _ _ _ _ _
   | exact interleaveref31_Bound.mono _ _ _ _ _ _
   | exact interleaveref31_Cycle.mono _ _ _
   | exact interleaveref31_Normal.mono _ _
   | exact LeO.none _
   | refine LeO.ite ?_ ?_
   | refine LeO.bind ?_ (fun _ => ?_)
theorem interleaveref31_Cyclic.mono : ∀ a0 a1 a2 a3 a4 k, LeO (interleaveref31_Cyclic.f k a0 a1 a2 a3 a4) (interleaveref31_Cyclic.f (k + 1) a0 a1 a2 a3 a4) := by
 intro a0 a1 a2 a3 a4 k
 have ih0 := interleaveref31_Cyclic.mono_l k
 unfold interleaveref31_Cyclic.f
 repeat' first
   | (with_reducible exact ih0 _ _ _ _ _ _ _ _ _ _)
   | (with_reducible exact interleaveref31_Bound.mono _ _ _ _ _ _)
   | (with_reducible exact interleaveref31_Cycle.mono _ _ _)
   | (with_reducible exact interleaveref31_Normal.mono _ _)
   | (with_reducible exact LeO.refl _)
   | (with_reducible exact LeO.none _)
   | (with_reducible refine LeO.ite ?_ ?_)
   | (with_reducible refine LeO.bind ?_ (fun _ => ?_))
   | exact ih0 _ _ _ _ _ _ _ _ _ _
   | exact interleaveref31_Bound.mono _ _ _ _ _ _
   | exact interleaveref31_Cycle.mono _ _ _
   | exact interleaveref31_Normal.mono _ _
   | exact LeO.none _
   | refine LeO.ite ?_ ?_
   | refine LeO.bind ?_ (fun _ => ?_)
set_option maxHeartbeats 8000000 in
set_option maxRecDepth 100000 in
theorem interleaveref31_Cyclic.calls (k : Nat) (a0_0 : Int) (a0_1 : Int) (A0_2 : Option Addr) (c0_2 : Nat) (l0_2 : List (S75)) (A0_3 : Option Addr) (c0_3 : Nat) (l0_3 : List (List Int)) (A1 : Option Addr) (c1 : Nat) (l1 : List Int) (r1 : List Int) (r2 : Bool) (w : World) (hr0_2 : Kd.C k75 w A0_2 l0_2.length l0_2) (hc0_2 : l0_2.length ≤ c0_2) (hr0_3 : Kd.C (Kd.slice 3 (Kd.int .i64)) w A0_3 l0_3.length l0_3) (hc0_3 : l0_3.length ≤ c0_3) (hr1 : Kd.C (Kd.int .i64) w A1 l1.length l1) (hc1 : l1.length ≤ c1) (h : interleaveref31_Cyclic.f k a0_0 a0_1 l0_2 l0_3 l1 = some (r1, r2)) :
  Calls Try.prog 44 #[.agg #[.int .i64 a0_0, .int .i64 a0_1, .slice A0_2 l0_2.length c0_2, .slice A0_3 l0_3.length c0_3], .slice A1 l1.length c1] w fun e w' => ∃ v0_ : Value, e = .returned (.tuple #[v0_, .bool r2]) ∧ Kd.R (Kd.int .i64) 3 w' w.heap.size (fun _ => True) v0_ r1 ∧ Below w.heap.size w w' := by
 have hu32 := Try.underlying32
 have hu75 := Try.underlying75
 have HR0_2 := Aside0.mk hr0_2
 have HC0_2 := Aside0.mk hc0_2
 clear hr0_2 hc0_2
 have HR0_3 := Aside0.mk hr0_3
 have HC0_3 := Aside0.mk hc0_3
 clear hr0_3 hc0_3
 have HR1 := Aside0.mk hr1
 have HC1 := Aside0.mk hc1
 clear hr1 hc1
 have HB := Aside0.mk (Below.refl w.heap.size w)
 have H : (interleaveref31_Cyclic.l0 k ([] : List (S75)) ([] : List Int) ([] : List Int) l1 (l1.length : Int) 0 a0_0 a0_1 l0_2 l0_3) = some (r1, r2) := h
 clear h
 have H' := Aside0.mk H
 clear H
 go_enter Try.func44, Try.ntmps44
 go_wp2_with (first | ((with_reducible refine gate_dst (N := 2) rfl ?_); refine box_ev (N := 2) rfl (cs := #[.int .i64 a0_0, .int .i64 a0_1, .slice A0_2 l0_2.length c0_2, .slice A0_3 l0_3.length c0_3]) (t := 32) ?_; intro gb351 hg w3 hbox hb; have n0_ := Aside0.mk (below_step HB.l hb); have n1_ := Aside0.mk (hbox); have n2_ := Aside0.mk ((by rw [hg]; exact (below_size HB.l) : w.heap.size ≤ gb351)); have n3_ := Aside0.mk ((by rw [hg]; exact (below_size HB.l) : w.heap.size ≤ gb351)); clear HB; revert n0_ n1_ n2_ n3_; intro HB BK351 GW351 GE351; clear hb hbox hg))
 go_loopg [6, 7, 8, 15] k (fun kq v6 v7 v8 v15 w' => ∃ (x6_1 : List (S75)) (x7_1 : List Int) (x8_1 : List Int) (x15_1 : Int), v15 = .int .i64 x15_1 ∧ Aside0 (interleaveref31_Cyclic.l0 kq x6_1 x7_1 x8_1 l1 (l1.length : Int) x15_1 a0_0 a0_1 l0_2 l0_3 = some (r1, r2)) ∧ Aside0 (kq ≤ k) ∧ Aside0 (Kd.R k75 75 w' w.heap.size (fun _ => True) v6 x6_1) ∧ Aside0 (Kd.R (Kd.int .i64) 3 w' w.heap.size (fun k_ => some k_ ≠ (v8 : Value).ownBlock) v7 x7_1) ∧ Aside0 (Kd.R (Kd.int .i64) 3 w' w.heap.size (fun k_ => some k_ ≠ (v7 : Value).ownBlock) v8 x8_1) ∧ Aside0 (w'.heap[gb351]? = some (.cells #[.int .i64 a0_0, .int .i64 a0_1, (.slice A0_2 l0_2.length c0_2), (.slice A0_3 l0_3.length c0_3)] 32 (0, 0))) ∧ Aside0 (Below w.heap.size w w'))
 case atStart => exact ⟨(([] : List (S75))), (([] : List Int)), (([] : List Int)), (0), (by first | rfl | (simp; done) | (simp [*]; done)), H', ⟨Nat.le_refl _⟩, ⟨by first | exact Kd.R_nil _ _ _ _ _ | exact Kd.N_nil _ _ _ _ _ | exact Kd.V_nil _ _ _ _ _ | exact Kd.Q_nil _ _ _ _ _ | exact Kd.S_nil _ _ _ _ _⟩, ⟨by first | exact Kd.R_nil _ _ _ _ _ | exact Kd.N_nil _ _ _ _ _ | exact Kd.V_nil _ _ _ _ _ | exact Kd.Q_nil _ _ _ _ _ | exact Kd.S_nil _ _ _ _ _⟩, ⟨by first | exact Kd.R_nil _ _ _ _ _ | exact Kd.N_nil _ _ _ _ _ | exact Kd.V_nil _ _ _ _ _ | exact Kd.Q_nil _ _ _ _ _ | exact Kd.S_nil _ _ _ _ _⟩, ⟨BK351.b⟩, ⟨HB.l⟩⟩
 case round => as_aux_lemma =>
  clear H'
  try clear c1
  try clear p2
  obtain ⟨x6_1, x7_1, x8_1, x15_1, rfl, HA, HK1, HO_6, HO_7, HO_8, BK351, HB⟩ := hrel
  cases gk with
  | zero => exact absurd HA.out (by simp [interleaveref31_Cyclic.l0])
  | succ k1 =>
   have H := HA.out
   clear HA
   simp only [interleaveref31_Cyclic.l0] at H
   by_cases c4 : x15_1 < (l1.length : Int)
   ·rw [if_pos c4] at H
    have c4b0 : decide (x15_1 < (l1.length : Int)) = true := decide_eq_true c4
    clear c4
    by_cases c5 : 0 ≤ x15_1
    ·rw [if_pos c5] at H
     have c5b0 : decide (0 ≤ x15_1) = true := decide_eq_true c5
     clear c5
     by_cases c6 : x15_1 < (l1.length : Int)
     ·rw [if_pos c6] at H
      have c6b0 : decide (x15_1 < (l1.length : Int)) = true := decide_eq_true c6
      clear c6
      replace H := Option.bind_eq_some_iff.mp H
      obtain ⟨⟨t353, t354, t355, t356⟩, A70, H⟩ := H
      replace H : (if t356 = true then (if x6_1.length < 5864062014805 then (if x7_1.length < 17592186044416 then (if x8_1.length < 17592186044416 then (interleaveref31_Cyclic.l0 k1 (x6_1 ++ [(⟨t353, t354, t355⟩ : S75)]) (x7_1 ++ [x15_1]) (x8_1 ++ [wrap64 (-(rd l1 x15_1))]) l1 (l1.length : Int) (wrap64 (x15_1 + 1)) a0_0 a0_1 l0_2 l0_3) else (none)) else (none)) else (none)) else (some (([] : List Int), false))) = some (r1, r2) := H
      have A7 := Aside0.mk A70
      clear A70
      by_cases c8 : t356 = true
      ·subst c8
       have H1 : (if x6_1.length < 5864062014805 then (if x7_1.length < 17592186044416 then (if x8_1.length < 17592186044416 then (interleaveref31_Cyclic.l0 k1 (x6_1 ++ [(⟨t353, t354, t355⟩ : S75)]) (x7_1 ++ [x15_1]) (x8_1 ++ [wrap64 (-(rd l1 x15_1))]) l1 (l1.length : Int) (wrap64 (x15_1 + 1)) a0_0 a0_1 l0_2 l0_3) else (none)) else (none)) else (none)) = some (r1, r2) := by rw [if_pos rfl] at H; exact H
       clear H
       have H := H1
       clear H1
       by_cases c9 : x6_1.length < 5864062014805
       ·rw [if_pos c9] at H
        have LMc9 := Aside0.mk c9
        clear c9
        obtain ⟨y358, hy358⟩ : ∃ y_ : List (S75), y_ = (x6_1 ++ [(⟨t353, t354, t355⟩ : S75)]) := ⟨_, rfl⟩
        replace H : (if x7_1.length < 17592186044416 then (if x8_1.length < 17592186044416 then (interleaveref31_Cyclic.l0 k1 y358 (x7_1 ++ [x15_1]) (x8_1 ++ [wrap64 (-(rd l1 x15_1))]) l1 (l1.length : Int) (wrap64 (x15_1 + 1)) a0_0 a0_1 l0_2 l0_3) else (none)) else (none)) = some (r1, r2) := by first | (rw [hy358]; with_reducible exact H) | (have H2_ := (Option.bind_some _ _).symm.trans H; rw [hy358]; with_reducible exact H2_) | (have H2_ := (Option.bind_some _ _).symm.trans H; with_reducible exact H2_) | with_reducible exact H | (rw [hy358]; exact H) | exact H
        have Ny358 := Aside0.mk hy358
        clear hy358
        by_cases c10 : x7_1.length < 17592186044416
        ·rw [if_pos c10] at H
         have LMc10 := Aside0.mk c10
         clear c10
         obtain ⟨y361, hy361⟩ : ∃ y_ : List Int, y_ = (x7_1 ++ [x15_1]) := ⟨_, rfl⟩
         replace H : (if x8_1.length < 17592186044416 then (interleaveref31_Cyclic.l0 k1 y358 y361 (x8_1 ++ [wrap64 (-(rd l1 x15_1))]) l1 (l1.length : Int) (wrap64 (x15_1 + 1)) a0_0 a0_1 l0_2 l0_3) else (none)) = some (r1, r2) := by first | (rw [hy361]; with_reducible exact H) | (have H2_ := (Option.bind_some _ _).symm.trans H; rw [hy361]; with_reducible exact H2_) | (have H2_ := (Option.bind_some _ _).symm.trans H; with_reducible exact H2_) | with_reducible exact H | (rw [hy361]; exact H) | exact H
         have Ny361 := Aside0.mk hy361
         clear hy361
         by_cases c11 : x8_1.length < 17592186044416
         ·rw [if_pos c11] at H
          have LMc11 := Aside0.mk c11
          clear c11
          obtain ⟨y364, hy364⟩ : ∃ y_ : List Int, y_ = (x8_1 ++ [wrap64 (-(rd l1 x15_1))]) := ⟨_, rfl⟩
          replace H : (interleaveref31_Cyclic.l0 k1 y358 y361 y364 l1 (l1.length : Int) (wrap64 (x15_1 + 1)) a0_0 a0_1 l0_2 l0_3) = some (r1, r2) := by first | (rw [hy364]; with_reducible exact H) | (have H2_ := (Option.bind_some _ _).symm.trans H; rw [hy364]; with_reducible exact H2_) | (have H2_ := (Option.bind_some _ _).symm.trans H; with_reducible exact H2_) | with_reducible exact H | (rw [hy364]; exact H) | exact H
          have Ny364 := Aside0.mk hy364
          clear hy364
          have H' := Aside0.mk H
          clear H
          have p352 : 0 ≤ (x15_1 : Int) := of_decide_eq_true (by first | (with_reducible assumption) | assumption)
          have q352 : x15_1 < (l1.length : Int) := of_decide_eq_true (by first | (with_reducible assumption) | assumption)
          obtain ⟨ad352, e352, hx352_0⟩ := Kd.at_int HR1.out x15_1 p352 q352
          cases e352
          replace hx352_0 := (HB.out.cell (World.block_lt_of_cell? w _ hx352_0)).trans hx352_0
          replace p352 := eq_true p352
          replace q352 := eq_true q352
          have hcz12_0 := BK351.cl 0 (.int .i64 a0_0)
          have hcz12_1 := BK351.cl 1 (.int .i64 a0_1)
          have hcz12_2 := BK351.cl 2 (.slice A0_2 l0_2.length c0_2)
          have hcz12_3 := BK351.cl 3 (.slice A0_3 l0_3.length c0_3)
          have hfz12_0 := BK351.fz 0
          have hfz12_1 := BK351.fz 1
          have hfz12_2 := BK351.fz 2
          have hfz12_3 := BK351.fz 3
          go_wp2_with (first | ((with_reducible refine gate_callee (f := 37) rfl ?_); refine goesM_ Try.func37 #[.agg #[.int .i64 a0_0, .int .i64 a0_1, .slice A0_2 l0_2.length c0_2, .slice A0_3 l0_3.length c0_3], .int .i64 (rd l1 x15_1)] ?_; (with_reducible refine (interleaveref31_Bound.calls k1 a0_0 a0_1 _ _ l0_2 _ _ l0_3 (rd l1 x15_1) t353 t354 t355 true _ ?side1 ?side2 ?side3 ?side4 A7.out).mono ?_); (case side1 => exact HR0_2.c HB.l); (case side2 => exact HC0_2.out); (case side3 => exact HR0_3.c HB.l); (case side4 => exact HC0_3.out); rintro e w13 ⟨rfl, hb⟩; refine ⟨_, rfl, ?_⟩; have n0_ := Aside0.mk (Kd.R_below HO_6.r hb); have n1_ := Aside0.mk (Kd.R_below HO_7.r hb); have n2_ := Aside0.mk (Kd.R_below HO_8.r hb); have n3_ := Aside0.mk (blk_below BK351.b hb); have n4_ := Aside0.mk (below_step HB.l hb); clear HO_6 HO_7 HO_8 BK351 HB; revert n0_ n1_ n2_ n3_ n4_; intro HO_6 HO_7 HO_8 BK351 HB; (try clear hb); (try clear hb2); (try clear hk); (try clear hi)) | ((with_reducible refine gate_dst (N := 11) rfl ?_); refine box_ev (N := 11) rfl (cs := #[.int .i64 0, .int .i64 0, .int .i64 0]) (t := 75) ?_; intro gb357 hg w14 hbox hb; have n0_ := Aside0.mk (Kd.R_below (Kd.R_elderB HO_6.r gb357 (Nat.le_of_eq hg.symm)) hb); have n1_ := Aside0.mk (Kd.R_below HO_7.r hb); have n2_ := Aside0.mk (Kd.R_below HO_8.r hb); have n3_ := Aside0.mk (blk_below BK351.b hb); have n4_ := Aside0.mk (below_step HB.l hb); have n5_ := Aside0.mk (hbox); have n6_ := Aside0.mk ((by rw [hg]; exact (below_size HB.l) : w.heap.size ≤ gb357)); have n7_ := Aside0.mk ((by rw [hg]; exact (below_size HB.l) : w.heap.size ≤ gb357)); have n8_ := Aside0.mk ((by rw [hg]; exact Nat.ne_of_lt (blk_lt BK351.b) : gb351 ≠ gb357)); have n9_ := Aside0.mk ((by rw [hg]; exact Nat.ne_of_gt (blk_lt BK351.b) : gb357 ≠ gb351)); clear HO_6 HO_7 HO_8 BK351 HB; revert n0_ n1_ n2_ n3_ n4_ n5_ n6_ n7_ n8_ n9_; intro HO_6 HO_7 HO_8 BK351 HB BK357 GW357 GE357 NB351_357 NB357_351; clear hb hbox hg; have hnb15 := NB357_351.out; have hnc15 := NB351_357.out; have hcz16_0 := BK357.cl 0 (.int .i64 0); have hcz16_1 := BK357.cl 1 (.int .i64 0); have hcz16_2 := BK357.cl 2 (.int .i64 0); have hfz16_0 := BK357.fz 0; have hfz16_1 := BK357.fz 1; have hfz16_2 := BK357.fz 2) | ((with_reducible refine gate_builtin (b := .append) (xs := #[.tmp 28, .tmp 30]) rfl ?_); at_builtin; refine Kd.R_append k75 (w0 := w) w.heap.size rfl (.tmp 28) (.tmp 30) 29 75 (.agg #[(.int .i64 0), (.int .i64 0), (.int .i64 0)]) 24 rfl Try.underlying29 info75 rfl (by decide) (by omega) u6 x6_1 (⟨t353, t354, t355⟩ : S75) [.int .i64 t353, .int .i64 t354, .int .i64 t355] (fun k_ => k_ ≠ gb357) (fun _ => False) rfl (by first | (go_simp; done) | (go_simp; rfl)) ?aP (fun _ hk => hk.elim) ?aF ?aO ?aB ?aS ?aL ?_; (case aP => exact k75_mkM _ _ _ (⟨t353, t354, t355⟩ : S75)); (case aB => exact HB.l); (case aF => exact (fun k_ hk => Kd.freshB (g := gb357) (o := .cells #[.int .i64 t353, .int .i64 t354, .int .i64 t355] 75 (0, 0)) (by (with_reducible repeat (first | refine blk_drewN ?_ _ | refine blk_drew ?_ | refine blk_alloc ?_ _)); refine blk_put (cs := #[.int .i64 t353, .int .i64 t354, .int .i64 0]) ?_ 2 _ rfl; (with_reducible repeat (first | refine blk_drewN ?_ _ | refine blk_drew ?_ | refine blk_alloc ?_ _)); refine blk_put (cs := #[.int .i64 t353, .int .i64 0, .int .i64 0]) ?_ 1 _ rfl; (with_reducible repeat (first | refine blk_drewN ?_ _ | refine blk_drew ?_ | refine blk_alloc ?_ _)); refine blk_put (cs := #[.int .i64 0, .int .i64 0, .int .i64 0]) ?_ 0 _ rfl; (with_reducible repeat (first | refine blk_drewN ?_ _ | refine blk_drew ?_ | refine blk_alloc ?_ _)); exact BK357.out) k_ hk)); (case aO => exact (by (with_reducible repeat (first | apply Kd.R_alloc | apply Kd.R_drewN | apply Kd.R_drew)); exact Kd.R_mono (Kd.R_far (p := ⟨gb357, 2, none⟩) (Kd.R_far (p := ⟨gb357, 1, none⟩) (Kd.R_far (p := ⟨gb357, 0, none⟩) (Kd.R_mono HO_6.out (fun k_ hk => (⟨hk, hk.2⟩ : _ ∧ k_ ≠ gb357))) (fun _ hk => hk.2) (.int .i64 t353)) (fun _ hk => hk.2) (.int .i64 t354)) (fun _ hk => hk.2) (.int .i64 t355)) (fun _ hk => hk.1.2))); (case aS => exact (below_size HB.l)); (case aL => have := LMc9.out; omega); intro v359 w17 ho hb hg hat; rw [← Ny358.out] at ho; have n0_ := Aside0.mk (Kd.R_over' (by (with_reducible repeat (first | apply Kd.R_alloc | apply Kd.R_drewN | apply Kd.R_drew)); exact (Kd.R_mono (Kd.R_far (p := ⟨gb357, 2, none⟩) (Kd.R_far (p := ⟨gb357, 1, none⟩) (Kd.R_far (p := ⟨gb357, 0, none⟩) (Kd.R_types HO_7.out BK357.out (by decide)) (fun _ hk => hk.2) (.int .i64 t353)) (fun _ hk => hk.2) (.int .i64 t354)) (fun _ hk => hk.2) (.int .i64 t355)) (fun _ h_ => h_.1))) (Kd.R_typed (by (with_reducible repeat (first | apply Kd.R_alloc | apply Kd.R_drewN | apply Kd.R_drew)); exact (Kd.R_mono (Kd.R_far (p := ⟨gb357, 2, none⟩) (Kd.R_far (p := ⟨gb357, 1, none⟩) (Kd.R_far (p := ⟨gb357, 0, none⟩) (Kd.R_mono HO_6.out (fun k_ hk => (⟨hk, hk.2⟩ : _ ∧ k_ ≠ gb357))) (fun _ hk => hk.2) (.int .i64 t353)) (fun _ hk => hk.2) (.int .i64 t354)) (fun _ hk => hk.2) (.int .i64 t355)) (fun _ h_ => h_.1)))) (by decide) hg); have n1_ := Aside0.mk (Kd.R_over' (by (with_reducible repeat (first | apply Kd.R_alloc | apply Kd.R_drewN | apply Kd.R_drew)); exact (Kd.R_mono (Kd.R_far (p := ⟨gb357, 2, none⟩) (Kd.R_far (p := ⟨gb357, 1, none⟩) (Kd.R_far (p := ⟨gb357, 0, none⟩) (Kd.R_types HO_8.out BK357.out (by decide)) (fun _ hk => hk.2) (.int .i64 t353)) (fun _ hk => hk.2) (.int .i64 t354)) (fun _ hk => hk.2) (.int .i64 t355)) (fun _ h_ => h_.1))) (Kd.R_typed (by (with_reducible repeat (first | apply Kd.R_alloc | apply Kd.R_drewN | apply Kd.R_drew)); exact (Kd.R_mono (Kd.R_far (p := ⟨gb357, 2, none⟩) (Kd.R_far (p := ⟨gb357, 1, none⟩) (Kd.R_far (p := ⟨gb357, 0, none⟩) (Kd.R_mono HO_6.out (fun k_ hk => (⟨hk, hk.2⟩ : _ ∧ k_ ≠ gb357))) (fun _ hk => hk.2) (.int .i64 t353)) (fun _ hk => hk.2) (.int .i64 t354)) (fun _ hk => hk.2) (.int .i64 t355)) (fun _ h_ => h_.1)))) (by decide) hg); have n2_ := Aside0.mk (blk_grown (g := gb351) (o := .cells #[.int .i64 a0_0, .int .i64 a0_1, .slice A0_2 l0_2.length c0_2, .slice A0_3 l0_3.length c0_3] 32 (0, 0)) (by (with_reducible repeat (first | refine blk_drewN ?_ _ | refine blk_drew ?_ | refine blk_alloc ?_ _)); refine blk_far ?_ NB351_357.out _; (with_reducible repeat (first | refine blk_drewN ?_ _ | refine blk_drew ?_ | refine blk_alloc ?_ _)); refine blk_far ?_ NB351_357.out _; (with_reducible repeat (first | refine blk_drewN ?_ _ | refine blk_drew ?_ | refine blk_alloc ?_ _)); refine blk_far ?_ NB351_357.out _; (with_reducible repeat (first | refine blk_drewN ?_ _ | refine blk_drew ?_ | refine blk_alloc ?_ _)); exact BK351.out) hg (Kd.R_ne HO_6.out BK351.out (by decide))); have n3_ := Aside0.mk (blk_grown (g := gb357) (o := .cells #[.int .i64 t353, .int .i64 t354, .int .i64 t355] 75 (0, 0)) (by (with_reducible repeat (first | refine blk_drewN ?_ _ | refine blk_drew ?_ | refine blk_alloc ?_ _)); refine blk_put (cs := #[.int .i64 t353, .int .i64 t354, .int .i64 0]) ?_ 2 _ rfl; (with_reducible repeat (first | refine blk_drewN ?_ _ | refine blk_drew ?_ | refine blk_alloc ?_ _)); refine blk_put (cs := #[.int .i64 t353, .int .i64 0, .int .i64 0]) ?_ 1 _ rfl; (with_reducible repeat (first | refine blk_drewN ?_ _ | refine blk_drew ?_ | refine blk_alloc ?_ _)); refine blk_put (cs := #[.int .i64 0, .int .i64 0, .int .i64 0]) ?_ 0 _ rfl; (with_reducible repeat (first | refine blk_drewN ?_ _ | refine blk_drew ?_ | refine blk_alloc ?_ _)); exact BK357.out) hg (Kd.R_away HO_6.out (fun _ hk => hk.2))); have n4_ := Aside0.mk (hb); have n5_ := Aside0.mk (ho); clear HO_7 HO_8 BK351 BK357 HB HO_6; revert n0_ n1_ n2_ n3_ n4_ n5_; intro HO_7 HO_8 BK351 BK357 HB HO360; clear ho hb hg hat) | ((with_reducible refine gate_builtin (b := .append) (xs := #[.tmp 32, .tmp 34]) rfl ?_); at_builtin; refine Kd.R_append (Kd.int .i64) (w0 := w) w.heap.size rfl (.tmp 32) (.tmp 34) 43 3 (.int .i64 0) 8 rfl Try.underlying43 info3 rfl (by decide) (by omega) u7 x7_1 x15_1 [.int .i64 x15_1] (fun k_ => some k_ ≠ (u8 : Value).ownBlock) (fun _ => False) rfl rfl ?aP (fun _ hk => hk.elim) ?aF ?aO ?aB ?aS ?aL ?_; (case aP => exact rfl); (case aB => exact HB.l); (case aF => exact (fun k_ hk => Kd.fresh' (Kd.R_lt HO_8.r) k_ hk)); (case aO => exact HO_7.r); (case aS => exact (below_size HB.l)); (case aL => have := LMc10.out; omega); intro v362 w18 ho hb hg hat; rw [← Ny361.out] at ho; have n0_ := Aside0.mk (Kd.R_after (ok := (fun _ => True)) (by (with_reducible repeat (first | apply Kd.R_alloc | apply Kd.R_drewN | apply Kd.R_drew)); exact Kd.R_mono HO_8.out (fun _ hk => ⟨trivial, hk⟩)) hg hat); have n1_ := Aside0.mk (blk_grown BK351.b hg (Kd.R_ne HO_7.out BK351.out (by decide))); have n2_ := Aside0.mk (blk_grown BK357.b hg (Kd.R_ne HO_7.out BK357.out (by decide))); have n3_ := Aside0.mk (Kd.R_over' HO360.r (Kd.R_typed HO_7.r) (by decide) hg); have n4_ := Aside0.mk (hb); have n5_ := Aside0.mk (ho); clear HO_8 BK351 BK357 HO360 HB HO_7; revert n0_ n1_ n2_ n3_ n4_ n5_; intro HO_8 BK351 BK357 HO360 HB HO363; clear ho hb hg hat) | ((with_reducible refine gate_builtin (b := .append) (xs := #[.tmp 36, .tmp 39]) rfl ?_); at_builtin; refine Kd.R_append (Kd.int .i64) (w0 := w) w.heap.size rfl (.tmp 36) (.tmp 39) 43 3 (.int .i64 0) 8 rfl Try.underlying43 info3 rfl (by decide) (by omega) u8 x8_1 (wrap64 (-(rd l1 x15_1))) [.int .i64 (wrap64 (-(rd l1 x15_1)))] (fun k_ => some k_ ≠ (v362 : Value).ownBlock) (fun _ => False) rfl rfl ?aP (fun _ hk => hk.elim) ?aF ?aO ?aB ?aS ?aL ?_; (case aP => exact rfl); (case aB => exact HB.l); (case aF => exact (fun k_ hk => Kd.fresh' (Kd.R_lt HO363.r) k_ hk)); (case aO => exact (by (with_reducible repeat (first | apply Kd.R_alloc | apply Kd.R_drewN | apply Kd.R_drew)); exact Kd.R_mono HO_8.out (fun _ hk => hk.2))); (case aS => exact (below_size HB.l)); (case aL => have := LMc11.out; omega); intro v365 w19 ho hb hg hat; rw [← Ny364.out] at ho; have n0_ := Aside0.mk (blk_grown BK351.b hg (Kd.R_ne HO_8.out BK351.out (by decide))); have n1_ := Aside0.mk (blk_grown BK357.b hg (Kd.R_ne HO_8.out BK357.out (by decide))); have n2_ := Aside0.mk (Kd.R_over' HO360.r (Kd.R_typed HO_8.r) (by decide) hg); have n3_ := Aside0.mk (Kd.R_after (ok := (fun _ => True)) (by (with_reducible repeat (first | apply Kd.R_alloc | apply Kd.R_drewN | apply Kd.R_drew)); exact Kd.R_mono HO363.out (fun _ hk => ⟨trivial, hk⟩)) hg hat); have n4_ := Aside0.mk (hb); have n5_ := Aside0.mk (ho); clear BK351 BK357 HO360 HO363 HB HO_8; revert n0_ n1_ n2_ n3_ n4_ n5_; intro BK351 BK357 HO360 HO363 HB HO366; clear ho hb hg hat))
          go_roundg k1
          case measure => have := HK1.out; omega
          case rel => exact ⟨(y358), (y361), (y364), (wrap64 (x15_1 + 1)), (by first | rfl | (simp; done) | (simp [*]; done)), H', ⟨by have := HK1.out; omega⟩, ⟨by (with_reducible repeat (first | apply Kd.R_alloc | apply Kd.R_drewN | apply Kd.R_drew)); exact Kd.R_mono HO360.out (fun _ hk => trivial)⟩, ⟨by (with_reducible repeat (first | apply Kd.R_alloc | apply Kd.R_drewN | apply Kd.R_drew)); exact Kd.R_mono HO363.out (fun _ hk => hk.2)⟩, ⟨HO366.r⟩, ⟨BK351.b⟩, ⟨HB.l⟩⟩
         ·rw [if_neg c11] at H
          exact absurd H (by simp)
        ·rw [if_neg c10] at H
         exact absurd H (by simp)
       ·rw [if_neg c9] at H
        exact absurd H (by simp)
      ·replace c8 := Bool.eq_false_iff.mpr c8
       subst c8
       have H1 : (some (([] : List Int), false)) = some (r1, r2) := by rw [if_neg (show ¬ (false = true) by decide)] at H; exact H
       clear H
       have H := H1
       clear H1
       simp only [Option.some.injEq, Prod.mk.injEq] at H
       obtain ⟨rfl, rfl⟩ := H
       have p352 : 0 ≤ (x15_1 : Int) := of_decide_eq_true (by first | (with_reducible assumption) | assumption)
       have q352 : x15_1 < (l1.length : Int) := of_decide_eq_true (by first | (with_reducible assumption) | assumption)
       obtain ⟨ad352, e352, hx352_0⟩ := Kd.at_int HR1.out x15_1 p352 q352
       cases e352
       replace hx352_0 := (HB.out.cell (World.block_lt_of_cell? w _ hx352_0)).trans hx352_0
       replace p352 := eq_true p352
       replace q352 := eq_true q352
       have hcz20_0 := BK351.cl 0 (.int .i64 a0_0)
       have hcz20_1 := BK351.cl 1 (.int .i64 a0_1)
       have hcz20_2 := BK351.cl 2 (.slice A0_2 l0_2.length c0_2)
       have hcz20_3 := BK351.cl 3 (.slice A0_3 l0_3.length c0_3)
       have hfz20_0 := BK351.fz 0
       have hfz20_1 := BK351.fz 1
       have hfz20_2 := BK351.fz 2
       have hfz20_3 := BK351.fz 3
       go_wp2_with (first | ((with_reducible refine gate_callee (f := 37) rfl ?_); refine goesM_ Try.func37 #[.agg #[.int .i64 a0_0, .int .i64 a0_1, .slice A0_2 l0_2.length c0_2, .slice A0_3 l0_3.length c0_3], .int .i64 (rd l1 x15_1)] ?_; (with_reducible refine (interleaveref31_Bound.calls k1 a0_0 a0_1 _ _ l0_2 _ _ l0_3 (rd l1 x15_1) t353 t354 t355 false _ ?side1 ?side2 ?side3 ?side4 A7.out).mono ?_); (case side1 => exact HR0_2.c HB.l); (case side2 => exact HC0_2.out); (case side3 => exact HR0_3.c HB.l); (case side4 => exact HC0_3.out); rintro e w21 ⟨rfl, hb⟩; refine ⟨_, rfl, ?_⟩; have n0_ := Aside0.mk (Kd.R_below HO_6.r hb); have n1_ := Aside0.mk (Kd.R_below HO_7.r hb); have n2_ := Aside0.mk (Kd.R_below HO_8.r hb); have n3_ := Aside0.mk (blk_below BK351.b hb); have n4_ := Aside0.mk (below_step HB.l hb); clear HO_6 HO_7 HO_8 BK351 HB; revert n0_ n1_ n2_ n3_ n4_; intro HO_6 HO_7 HO_8 BK351 HB; (try clear hb); (try clear hb2); (try clear hk); (try clear hi)) | ((with_reducible refine gate_dst (N := 11) rfl ?_); refine box_ev (N := 11) rfl (cs := #[.int .i64 0, .int .i64 0, .int .i64 0]) (t := 75) ?_; intro gb357 hg w22 hbox hb; have n0_ := Aside0.mk (Kd.R_below (Kd.R_elderB HO_6.r gb357 (Nat.le_of_eq hg.symm)) hb); have n1_ := Aside0.mk (Kd.R_below HO_7.r hb); have n2_ := Aside0.mk (Kd.R_below HO_8.r hb); have n3_ := Aside0.mk (blk_below BK351.b hb); have n4_ := Aside0.mk (below_step HB.l hb); have n5_ := Aside0.mk (hbox); have n6_ := Aside0.mk ((by rw [hg]; exact (below_size HB.l) : w.heap.size ≤ gb357)); have n7_ := Aside0.mk ((by rw [hg]; exact (below_size HB.l) : w.heap.size ≤ gb357)); have n8_ := Aside0.mk ((by rw [hg]; exact Nat.ne_of_lt (blk_lt BK351.b) : gb351 ≠ gb357)); have n9_ := Aside0.mk ((by rw [hg]; exact Nat.ne_of_gt (blk_lt BK351.b) : gb357 ≠ gb351)); clear HO_6 HO_7 HO_8 BK351 HB; revert n0_ n1_ n2_ n3_ n4_ n5_ n6_ n7_ n8_ n9_; intro HO_6 HO_7 HO_8 BK351 HB BK357 GW357 GE357 NB351_357 NB357_351; clear hb hbox hg; have hnb23 := NB357_351.out; have hnc23 := NB351_357.out; have hcz24_0 := BK357.cl 0 (.int .i64 0); have hcz24_1 := BK357.cl 1 (.int .i64 0); have hcz24_2 := BK357.cl 2 (.int .i64 0); have hfz24_0 := BK357.fz 0; have hfz24_1 := BK357.fz 1; have hfz24_2 := BK357.fz 2))
       go_ret2
       exact ⟨_, by first | rfl | (simp [errW_none, errW_some] <;> rfl) | (simp [*, errW_none, errW_some] <;> rfl), by first | exact Kd.R_nil _ _ _ _ _ | exact Kd.N_nil _ _ _ _ _ | exact Kd.V_nil _ _ _ _ _ | exact Kd.Q_nil _ _ _ _ _ | exact Kd.S_nil _ _ _ _ _, HB.l⟩
     ·rw [if_neg c6] at H
      exact absurd H (by simp)
    ·rw [if_neg c5] at H
     exact absurd H (by simp)
   ·rw [if_neg c4] at H
    have c4b0 : decide (x15_1 < (l1.length : Int)) = false := decide_eq_false c4
    clear c4
    replace H := Option.bind_eq_some_iff.mp H
    obtain ⟨t367, A250, H⟩ := H
    replace H : (if t367 = true then ((interleaveref31_Normal.f k1 x8_1).bind fun bt368 => (some (bt368.1, bt368.2))) else (some (([] : List Int), false))) = some (r1, r2) := H
    have A25 := Aside0.mk A250
    clear A250
    by_cases c26 : t367 = true
    ·subst c26
     have H1 : ((interleaveref31_Normal.f k1 x8_1).bind fun bt368 => (some (bt368.1, bt368.2))) = some (r1, r2) := by rw [if_pos rfl] at H; exact H
     clear H
     have H := H1
     clear H1
     replace H := Option.bind_eq_some_iff.mp H
     obtain ⟨⟨t368, t369⟩, A270, H⟩ := H
     replace H : (some (t368, t369)) = some (r1, r2) := H
     have A27 := Aside0.mk A270
     clear A270
     simp only [Option.some.injEq, Prod.mk.injEq] at H
     obtain ⟨rfl, rfl⟩ := H
     obtain ⟨Ao28, co28, eo28⟩ := Kd.R_slice HO_6.out
     subst eo28
     obtain ⟨Ao29, co29, eo29⟩ := Kd.R_slice HO_7.out
     subst eo29
     go_wp2_with (first | ((with_reducible refine gate_callee (f := 55) rfl ?_); refine goesM_ Try.func55 #[.slice Ao28 x6_1.length co28, .slice Ao29 x7_1.length co29] ?_; (with_reducible refine (interleaveref31_Cycle.calls k1 _ _ x6_1 _ _ x7_1 true _ ?side1 ?side2 ?side3 ?side4 A25.out).mono ?_); (case side1 => repeat (first | exact (Kd.R_reads' HO_6.out).2.2 | (with_reducible refine Kd.C_alloc ?_ _) | (with_reducible refine Kd.C_drewN ?_ _) | (with_reducible refine Kd.C_drew ?_))); (case side2 => exact (Kd.R_reads' HO_6.out).2.1); (case side3 => repeat (first | exact (Kd.R_reads' HO_7.out).2.2 | (with_reducible refine Kd.C_alloc ?_ _) | (with_reducible refine Kd.C_drewN ?_ _) | (with_reducible refine Kd.C_drew ?_))); (case side4 => exact (Kd.R_reads' HO_7.out).2.1); rintro e w' ⟨rfl, ⟨nd, rfl⟩⟩; refine ⟨_, rfl, ?_⟩; obtain ⟨Ao30, co30, eo30⟩ := Kd.R_slice HO_8.out; subst eo30) | ((with_reducible refine gate_callee (f := 43) rfl ?_); refine goesM_ Try.func43 #[.slice Ao30 x8_1.length co30] ?_; (with_reducible refine (interleaveref31_Normal.calls k1 _ _ x8_1 t368 t369 _ ?side1 ?side2 A27.out).mono ?_); (case side1 => repeat (first | exact (Kd.R_reads' HO_8.out).2.2 | (with_reducible refine Kd.C_alloc ?_ _) | (with_reducible refine Kd.C_drewN ?_ _) | (with_reducible refine Kd.C_drew ?_))); (case side2 => exact (Kd.R_reads' HO_8.out).2.1); rintro e w31 ⟨v370, rfl, ho0, hb⟩; refine ⟨_, rfl, ?_⟩; have n0_ := Aside0.mk (Kd.R_below HO_6.r hb); have n1_ := Aside0.mk (Kd.R_elder' HO_7.r (Kd.R_base ho0) hb); have n2_ := Aside0.mk (Kd.R_elder' HO_8.r (Kd.R_base ho0) hb); have n3_ := Aside0.mk (Kd.R_lower (Kd.R_new' (Kd.R_new' ho0 (Kd.R_lt HO_7.r)) (Kd.R_lt HO_8.r)) (below_size HB.l)); have n4_ := Aside0.mk (blk_below BK351.b hb); have n5_ := Aside0.mk (below_step HB.l hb); clear HO_6 HO_7 HO_8 BK351 HB; revert n0_ n1_ n2_ n3_ n4_ n5_; intro HO_6 HO_7 HO_8 HO371 BK351 HB; (try clear hb); (try clear hb2); (try clear hk); (try clear hi); (try clear ho0)))
     go_ret2
     exact ⟨_, by first | rfl | (simp [errW_none, errW_some] <;> rfl) | (simp [*, errW_none, errW_some] <;> rfl), by (with_reducible repeat (first | apply Kd.R_alloc | apply Kd.R_drewN | apply Kd.R_drew)); exact Kd.R_mono HO371.out (fun _ hk => trivial), HB.l⟩
    ·replace c26 := Bool.eq_false_iff.mpr c26
     subst c26
     have H1 : (some (([] : List Int), false)) = some (r1, r2) := by rw [if_neg (show ¬ (false = true) by decide)] at H; exact H
     clear H
     have H := H1
     clear H1
     simp only [Option.some.injEq, Prod.mk.injEq] at H
     obtain ⟨rfl, rfl⟩ := H
     obtain ⟨Ao32, co32, eo32⟩ := Kd.R_slice HO_6.out
     subst eo32
     obtain ⟨Ao33, co33, eo33⟩ := Kd.R_slice HO_7.out
     subst eo33
     go_wp2_with (first | ((with_reducible refine gate_callee (f := 55) rfl ?_); refine goesM_ Try.func55 #[.slice Ao32 x6_1.length co32, .slice Ao33 x7_1.length co33] ?_; (with_reducible refine (interleaveref31_Cycle.calls k1 _ _ x6_1 _ _ x7_1 false _ ?side1 ?side2 ?side3 ?side4 A25.out).mono ?_); (case side1 => repeat (first | exact (Kd.R_reads' HO_6.out).2.2 | (with_reducible refine Kd.C_alloc ?_ _) | (with_reducible refine Kd.C_drewN ?_ _) | (with_reducible refine Kd.C_drew ?_))); (case side2 => exact (Kd.R_reads' HO_6.out).2.1); (case side3 => repeat (first | exact (Kd.R_reads' HO_7.out).2.2 | (with_reducible refine Kd.C_alloc ?_ _) | (with_reducible refine Kd.C_drewN ?_ _) | (with_reducible refine Kd.C_drew ?_))); (case side4 => exact (Kd.R_reads' HO_7.out).2.1); rintro e w' ⟨rfl, ⟨nd, rfl⟩⟩; refine ⟨_, rfl, ?_⟩))
     go_ret2
     exact ⟨_, by first | rfl | (simp [errW_none, errW_some] <;> rfl) | (simp [*, errW_none, errW_some] <;> rfl), by first | exact Kd.R_nil _ _ _ _ _ | exact Kd.N_nil _ _ _ _ _ | exact Kd.V_nil _ _ _ _ _ | exact Kd.Q_nil _ _ _ _ _ | exact Kd.S_nil _ _ _ _ _, HB.l⟩

end Go.Proofs.Ytppbnjmhkifdaaa.X
