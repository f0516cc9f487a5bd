-- Written by this session's own program (wip/tools/xprint.py).
import Derived.Test.YtppbnjmhkifdaaaDoorX0
import Derived.Test.YtppbnjmhkifdaaaDoorSx
import Derived.Test.YtppbnjmhkifdaaaDoorX1
namespace Go.Proofs.YtppbnjmhkifdaaaDoor.X
open Go.RowKit Go.Proofs.YtppbnjmhkifdaaaDoorW.PrintWords Go.Proofs.YtppbnjmhkifdaaaDoorW.PrintLast Go.Proofs.YtppbnjmhkifdaaaDoorW.PrintMore
attribute [local go_sem] max2_int min2_int max_two min_two max_three min_three max_four min_four   -- for this text's walks alone
set_option linter.unusedVariables false
set_option linter.unusedSimpArgs false

/-! ### proof_resolve: function 21 -/
mutual
def proof_resolve.j0 : Nat → List (List Int) → Bool → Int → Int → List Int → Int → Int → Int → Option (List Int × Bool)
 | 0, _, _, _, _, _, _, _, _ => none
 | k + 1, x0, x44, x194000, x194001, x194002, x194003, x194004, x194005 => if x44 = true then (some (([] : List Int), false)) else (if 0 ≤ x194003 then (if x194003 < (x0.length : Int) then (if 0 ≤ x194004 then (if x194004 < (x0.length : Int) then ((slices_Contains_int_int.f k (rd_L1 x0 x194003) (wrap64 (x194005 + 1))).bind fun t196 => (if t196 = true then ((slices_Contains_int_int.f k (rd_L1 x0 x194004) (wrap64 ((wrap64 (-x194005)) - 1))).bind fun t197 => (proof_resolve.j1 k (rd_L1 x0 x194003) (rd_L1 x0 x194004) (!t197) x194000 x194001 x194002 x194003 x194004 x194005)) else (proof_resolve.j1 k (rd_L1 x0 x194003) (rd_L1 x0 x194004) true x194000 x194001 x194002 x194003 x194004 x194005))) else (none)) else (none)) else (none)) else (none))
def proof_resolve.j1 : Nat → List Int → List Int → Bool → Int → Int → List Int → Int → Int → Int → Option (List Int × Bool)
 | 0, _, _, _, _, _, _, _, _, _ => none
 | k + 1, x6, x7, x69, x194000, x194001, x194002, x194003, x194004, x194005 => if x69 = true then (some (([] : List Int), false)) else (proof_resolve.l0 k x7 ([] : List Int) x6 (x6.length : Int) 0 x194000 x194001 x194002 x194003 x194004 x194005)
def proof_resolve.l0 : Nat → List Int → List Int → List Int → Int → Int → Int → Int → List Int → Int → Int → Int → Option (List Int × Bool)
 | 0, _, _, _, _, _, _, _, _, _, _, _ => none
 | k + 1, x7, x8, x70, x71, x72, x194000, x194001, x194002, x194003, x194004, x194005 => if x72 < x71 then (if 0 ≤ x72 then (if x72 < (x70.length : Int) then (if (rd x70 x72) = (wrap64 (x194005 + 1)) then (proof_resolve.l0 k x7 x8 x70 x71 (wrap64 (x72 + 1)) x194000 x194001 x194002 x194003 x194004 x194005) else (if x8.length < 17592186044416 then (proof_resolve.l0 k x7 (x8 ++ [rd x70 x72]) x70 x71 (wrap64 (x72 + 1)) x194000 x194001 x194002 x194003 x194004 x194005) else (none))) else (none)) else (none)) else (proof_resolve.l1 k x8 x7 (x7.length : Int) 0 x194000 x194001 x194002 x194003 x194004 x194005)
def proof_resolve.l1 : Nat → List Int → List Int → Int → Int → Int → Int → List Int → Int → Int → Int → Option (List Int × Bool)
 | 0, _, _, _, _, _, _, _, _, _, _ => none
 | k + 1, x8, x86, x87, x88, x194000, x194001, x194002, x194003, x194004, x194005 => if x88 < x87 then (if 0 ≤ x88 then (if x88 < (x86.length : Int) then (if (rd x86 x88) = (wrap64 ((wrap64 (-x194005)) - 1)) then (proof_resolve.l1 k x8 x86 x87 (wrap64 (x88 + 1)) x194000 x194001 x194002 x194003 x194004 x194005) else (if x8.length < 17592186044416 then (proof_resolve.l1 k (x8 ++ [rd x86 x88]) x86 x87 (wrap64 (x88 + 1)) x194000 x194001 x194002 x194003 x194004 x194005) else (none))) else (none)) else (none)) else ((formula_Normal.f k x8).bind fun bt206 => (some (bt206.1, bt206.2)))
end
def proof_resolve.f (k : Nat) (l0 : List (List Int)) (a1_0 : Int) (a1_1 : Int) (l1_2 : List Int) (a1_3 : Int) (a1_4 : Int) (a1_5 : Int) : Option (List Int × Bool) := if a1_3 < 0 then (proof_resolve.j0 k l0 true a1_0 a1_1 l1_2 a1_3 a1_4 a1_5) else (if a1_4 < 0 then (proof_resolve.j0 k l0 true a1_0 a1_1 l1_2 a1_3 a1_4 a1_5) else (if a1_3 ≥ (l0.length : Int) then (proof_resolve.j0 k l0 true a1_0 a1_1 l1_2 a1_3 a1_4 a1_5) else (if a1_4 ≥ (l0.length : Int) then (proof_resolve.j0 k l0 true a1_0 a1_1 l1_2 a1_3 a1_4 a1_5) else (if a1_5 < 0 then (proof_resolve.j0 k l0 true a1_0 a1_1 l1_2 a1_3 a1_4 a1_5) else (proof_resolve.j0 k l0 (decide (a1_5 ≥ 1024)) a1_0 a1_1 l1_2 a1_3 a1_4 a1_5)))))
theorem proof_resolve.mono_l : ∀ k, (∀ y0 y1 y2 y3 y4 y5 y6 y7, LeO (proof_resolve.j0 k y0 y1 y2 y3 y4 y5 y6 y7) (proof_resolve.j0 (k + 1) y0 y1 y2 y3 y4 y5 y6 y7)) ∧ (∀ y0 y1 y2 y3 y4 y5 y6 y7 y8, LeO (proof_resolve.j1 k y0 y1 y2 y3 y4 y5 y6 y7 y8) (proof_resolve.j1 (k + 1) y0 y1 y2 y3 y4 y5 y6 y7 y8)) ∧ (∀ y0 y1 y2 y3 y4 y5 y6 y7 y8 y9 y10, LeO (proof_resolve.l0 k y0 y1 y2 y3 y4 y5 y6 y7 y8 y9 y10) (proof_resolve.l0 (k + 1) y0 y1 y2 y3 y4 y5 y6 y7 y8 y9 y10)) ∧ (∀ y0 y1 y2 y3 y4 y5 y6 y7 y8 y9, LeO (proof_resolve.l1 k y0 y1 y2 y3 y4 y5 y6 y7 y8 y9) (proof_resolve.l1 (k + 1) y0 y1 y2 y3 y4 y5 y6 y7 y8 y9))
 | 0 => ⟨fun _ _ _ _ _ _ _ _ r h => by simp [proof_resolve.j0] at h, fun _ _ _ _ _ _ _ _ _ r h => by simp [proof_resolve.j1] at h, fun _ _ _ _ _ _ _ _ _ _ _ r h => by simp [proof_resolve.l0] at h, fun _ _ _ _ _ _ _ _ _ _ r h => by simp [proof_resolve.l1] at h⟩
 | k + 1 => by
  obtain ⟨ih0, ih1, ih2, ih3⟩ := proof_resolve.mono_l k
  refine ⟨?_, ?_, ?_, ?_⟩
  ·intro y0 y1 y2 y3 y4 y5 y6 y7
   unfold proof_resolve.j0
   repeat' first
   | (with_reducible exact ih0 _ _ _ _ _ _ _ _)
   | (with_reducible exact ih1 _ _ _ _ _ _ _ _ _)
   | (with_reducible exact ih2 _ _ _ _ _ _ _ _ _ _ _)
   | (with_reducible exact ih3 _ _ _ _ _ _ _ _ _ _)
   | (with_reducible exact formula_Normal.mono _ _)
   | (with_reducible exact slices_Contains_int_int.mono _ _ _)
   | (with_reducible exact LeO.refl _)
   | (with_reducible exact LeO.none _)
   | (with_reducible refine LeO.ite ?_ ?_)
   | (with_reducible refine LeO.bind ?_ (fun _ => ?_))
   | exact ih0 _ _ _ _ _ _ _ _
   | exact ih1 _ _ _ _ _ _ _ _ _
   | exact ih2 _ _ _ _ _ _ _ _ _ _ _
   | exact ih3 _ _ _ _ _ _ _ _ _ _
   | exact formula_Normal.mono _ _
   | exact slices_Contains_int_int.mono _ _ _
   | exact LeO.none _
   | refine LeO.ite ?_ ?_
   | refine LeO.bind ?_ (fun _ => ?_)
  ·intro y0 y1 y2 y3 y4 y5 y6 y7 y8
   unfold proof_resolve.j1
   repeat' first
   | (with_reducible exact ih0 _ _ _ _ _ _ _ _)
   | (with_reducible exact ih1 _ _ _ _ _ _ _ _ _)
   | (with_reducible exact ih2 _ _ _ _ _ _ _ _ _ _ _)
   | (with_reducible exact ih3 _ _ _ _ _ _ _ _ _ _)
   | (with_reducible exact formula_Normal.mono _ _)
   | (with_reducible exact slices_Contains_int_int.mono _ _ _)
   | (with_reducible exact LeO.refl _)
   | (with_reducible exact LeO.none _)
   | (with_reducible refine LeO.ite ?_ ?_)
   | (with_reducible refine LeO.bind ?_ (fun _ => ?_))
   | exact ih0 _ _ _ _ _ _ _ _
   | exact ih1 _ _ _ _ _ _ _ _ _
   | exact ih2 _ _ _ _ _ _ _ _ _ _ _
   | exact ih3 _ _ _ _ _ _ _ _ _ _
   | exact formula_Normal.mono _ _
   | exact slices_Contains_int_int.mono _ _ _
   | exact LeO.none _
   | refine LeO.ite ?_ ?_
   | refine LeO.bind ?_ (fun _ => ?_)
  ·intro y0 y1 y2 y3 y4 y5 y6 y7 y8 y9 y10
   unfold proof_resolve.l0
   repeat' first
   | (with_reducible exact ih0 _ _ _ _ _ _ _ _)
   | (with_reducible exact ih1 _ _ _ _ _ _ _ _ _)
   | (with_reducible exact ih2 _ _ _ _ _ _ _ _ _ _ _)
   | (with_reducible exact ih3 _ _ _ _ _ _ _ _ _ _)
   | (with_reducible exact formula_Normal.mono _ _)
   | (with_reducible exact slices_Contains_int_int.mono _ _ _)
   | (with_reducible exact LeO.refl _)
   | (with_reducible exact LeO.none _)
   | (with_reducible refine LeO.ite ?_ ?_)
   | (with_reducible refine LeO.bind ?_ (fun _ => ?_))
   | exact ih0 _ _ _ _ _ _ _ _
   | exact ih1 _ _ _ _ _ _ _ _ _
   | exact ih2 _ _ _ _ _ _ _ _ _ _ _
   | exact ih3 _ _ _ _ _ _ _ _ _ _
   | exact formula_Normal.mono _ _
   | exact slices_Contains_int_int.mono _ _ _
   | exact LeO.none _
   | refine LeO.ite ?_ ?_
   | refine LeO.bind ?_ (fun _ => ?_)
  ·intro y0 y1 y2 y3 y4 y5 y6 y7 y8 y9
   unfold proof_resolve.l1
   repeat' first
   | (with_reducible exact ih0 _ _ _ _ _ _ _ _)
   | (with_reducible exact ih1 _ _ _ _ _ _ _ _ _)
   | (with_reducible exact ih2 _ _ _ _ _ _ _ _ _ _ _)
   | (with_reducible exact ih3 _ _ _ _ _ _ _ _ _ _)
   | (with_reducible exact formula_Normal.mono _ _)
   | (with_reducible exact slices_Contains_int_int.mono _ _ _)
   | (with_reducible exact LeO.refl _)
   | (with_reducible exact LeO.none _)
   | (with_reducible refine LeO.ite ?_ ?_)
   | (with_reducible refine LeO.bind ?_ (fun _ => ?_))
   | exact ih0 _ _ _ _ _ _ _ _
   | exact ih1 _ _ _ _ _ _ _ _ _
   | exact ih2 _ _ _ _ _ _ _ _ _ _ _
   | exact ih3 _ _ _ _ _ _ _ _ _ _
   | exact formula_Normal.mono _ _
   | exact slices_Contains_int_int.mono _ _ _
   | exact LeO.none _
   | refine LeO.ite ?_ ?_
   | refine LeO.bind ?_ (fun _ => ?_)
theorem proof_resolve.mono : ∀ a0 a1 a2 a3 a4 a5 a6 k, LeO (proof_resolve.f k a0 a1 a2 a3 a4 a5 a6) (proof_resolve.f (k + 1) a0 a1 a2 a3 a4 a5 a6) := by
 intro a0 a1 a2 a3 a4 a5 a6 k
 obtain ⟨ih0, ih1, ih2, ih3⟩ := proof_resolve.mono_l k
 unfold proof_resolve.f
 repeat' first
   | (with_reducible exact ih0 _ _ _ _ _ _ _ _)
   | (with_reducible exact ih1 _ _ _ _ _ _ _ _ _)
   | (with_reducible exact ih2 _ _ _ _ _ _ _ _ _ _ _)
   | (with_reducible exact ih3 _ _ _ _ _ _ _ _ _ _)
   | (with_reducible exact formula_Normal.mono _ _)
   | (with_reducible exact slices_Contains_int_int.mono _ _ _)
   | (with_reducible exact LeO.refl _)
   | (with_reducible exact LeO.none _)
   | (with_reducible refine LeO.ite ?_ ?_)
   | (with_reducible refine LeO.bind ?_ (fun _ => ?_))
   | exact ih0 _ _ _ _ _ _ _ _
   | exact ih1 _ _ _ _ _ _ _ _ _
   | exact ih2 _ _ _ _ _ _ _ _ _ _ _
   | exact ih3 _ _ _ _ _ _ _ _ _ _
   | exact formula_Normal.mono _ _
   | exact slices_Contains_int_int.mono _ _ _
   | exact LeO.none _
   | refine LeO.ite ?_ ?_
   | refine LeO.bind ?_ (fun _ => ?_)
set_option maxHeartbeats 8000000 in
set_option maxRecDepth 100000 in
theorem proof_resolve.calls (k : Nat) (A0 : Option Addr) (c0 : Nat) (l0 : List (List Int)) (a1_0 : Int) (a1_1 : Int) (A1_2 : Option Addr) (c1_2 : Nat) (l1_2 : List Int) (a1_3 : Int) (a1_4 : Int) (a1_5 : Int) (r1 : List Int) (r2 : Bool) (w : World) (hr0 : Kd.C (Kd.slice 3 (Kd.int .i64)) w A0 l0.length l0) (hc0 : l0.length ≤ c0) (hr1_2 : Kd.C (Kd.int .i64) w A1_2 l1_2.length l1_2) (hc1_2 : l1_2.length ≤ c1_2) (h : proof_resolve.f k l0 a1_0 a1_1 l1_2 a1_3 a1_4 a1_5 = some (r1, r2)) :
  Calls Tryd.prog 21 #[.slice A0 l0.length c0, .agg #[.int .i64 a1_0, .int .i64 a1_1, .slice A1_2 l1_2.length c1_2, .int .i64 a1_3, .int .i64 a1_4, .int .i64 a1_5]] w fun e w' => ∃ v0_ : Value, e = .returned (.tuple #[v0_, .bool r2]) ∧ Kd.R (Kd.int .i64) 3 w' w.heap.size (fun _ => True) v0_ r1 ∧ Below w.heap.size w w' := by
 have hu28 := Tryd.underlying28
 have HR0 := Aside0.mk hr0
 have HC0 := Aside0.mk hc0
 clear hr0 hc0
 have HR1_2 := Aside0.mk hr1_2
 have HC1_2 := Aside0.mk hc1_2
 clear hr1_2 hc1_2
 have HB := Aside0.mk (Below.refl w.heap.size w)
 have H : (if a1_3 < 0 then (proof_resolve.j0 k l0 true a1_0 a1_1 l1_2 a1_3 a1_4 a1_5) else (if a1_4 < 0 then (proof_resolve.j0 k l0 true a1_0 a1_1 l1_2 a1_3 a1_4 a1_5) else (if a1_3 ≥ (l0.length : Int) then (proof_resolve.j0 k l0 true a1_0 a1_1 l1_2 a1_3 a1_4 a1_5) else (if a1_4 ≥ (l0.length : Int) then (proof_resolve.j0 k l0 true a1_0 a1_1 l1_2 a1_3 a1_4 a1_5) else (if a1_5 < 0 then (proof_resolve.j0 k l0 true a1_0 a1_1 l1_2 a1_3 a1_4 a1_5) else (proof_resolve.j0 k l0 (decide (a1_5 ≥ 1024)) a1_0 a1_1 l1_2 a1_3 a1_4 a1_5)))))) = some (r1, r2) := h
 clear h
 have HC3 := Aside0.mk H
 clear H
 go_enter Tryd.func21, Tryd.ntmps21
 go_upto_region 1 with (first | ((with_reducible refine gate_dst (N := 3) rfl ?_); (try (refine gate_guard (by rfl) ?_; dsimp only)); refine box_ev (N := 3) rfl (cs := #[.int .i64 a1_0, .int .i64 a1_1, .slice A1_2 l1_2.length c1_2, .int .i64 a1_3, .int .i64 a1_4, .int .i64 a1_5]) (t := 28) ?_; intro gb193 hg w4 hbox hb; have n0_ := Aside0.mk (below_step HB.l hb); have n1_ := Aside0.mk (hbox); have n2_ := Aside0.mk ((by rw [hg]; exact (below_size HB.l) : w.heap.size ≤ gb193)); have n3_ := Aside0.mk ((by rw [hg]; exact (below_size HB.l) : w.heap.size ≤ gb193)); clear HB; revert n0_ n1_ n2_ n3_; intro HB BK193 GW193 GE193; clear hb hbox hg))
 repeat (go_quiet (first | ((with_reducible refine gate_dst (N := 3) rfl ?_); (try (refine gate_guard (by rfl) ?_; dsimp only)); refine box_ev (N := 3) rfl (cs := #[.int .i64 a1_0, .int .i64 a1_1, .slice A1_2 l1_2.length c1_2, .int .i64 a1_3, .int .i64 a1_4, .int .i64 a1_5]) (t := 28) ?_; intro gb193 hg w4 hbox hb; have n0_ := Aside0.mk (below_step HB.l hb); have n1_ := Aside0.mk (hbox); have n2_ := Aside0.mk ((by rw [hg]; exact (below_size HB.l) : w.heap.size ≤ gb193)); have n3_ := Aside0.mk ((by rw [hg]; exact (below_size HB.l) : w.heap.size ≤ gb193)); clear HB; revert n0_ n1_ n2_ n3_; intro HB BK193 GW193 GE193; clear hb hbox hg)); go_upto_region 1 with (first | ((with_reducible refine gate_dst (N := 3) rfl ?_); (try (refine gate_guard (by rfl) ?_; dsimp only)); refine box_ev (N := 3) rfl (cs := #[.int .i64 a1_0, .int .i64 a1_1, .slice A1_2 l1_2.length c1_2, .int .i64 a1_3, .int .i64 a1_4, .int .i64 a1_5]) (t := 28) ?_; intro gb193 hg w4 hbox hb; have n0_ := Aside0.mk (below_step HB.l hb); have n1_ := Aside0.mk (hbox); have n2_ := Aside0.mk ((by rw [hg]; exact (below_size HB.l) : w.heap.size ≤ gb193)); have n3_ := Aside0.mk ((by rw [hg]; exact (below_size HB.l) : w.heap.size ≤ gb193)); clear HB; revert n0_ n1_ n2_ n3_; intro HB BK193 GW193 GE193; clear hb hbox hg)))
 (try simp only [Act.put, List.setIfInBounds_toArray, List.set_cons_zero, List.set_cons_succ])
 go_cut [44] (fun v44 wc => ∃ (kq : Nat) (x44_2 : Bool), v44 = .bool x44_2 ∧ Aside0 (proof_resolve.j0 kq l0 x44_2 a1_0 a1_1 l1_2 a1_3 a1_4 a1_5 = some (r1, r2)) ∧ Aside0 (kq ≤ k) ∧ Aside0 (wc.heap[gb193]? = some (.cells #[.int .i64 a1_0, .int .i64 a1_1, (.slice A1_2 l1_2.length c1_2), .int .i64 a1_3, .int .i64 a1_4, .int .i64 a1_5] 28 (0, 0))) ∧ Aside0 (Below w.heap.size w wc))
 case first => as_aux_lemma =>
  have H := HC3.out
  clear HC3
  by_cases c5 : a1_3 < 0
  ·rw [if_pos c5] at H
   have c5b0 : decide (a1_3 < 0) = true := decide_eq_true c5
   clear c5
   (first | rw [c5b0] | (simp only [i64_w, i32_w]; rw [c5b0]) | skip)
   have H' := Aside0.mk H
   clear H
   have hcz6_0 := BK193.cl 0 (.int .i64 a1_0)
   have hcz6_1 := BK193.cl 1 (.int .i64 a1_1)
   have hcz6_2 := BK193.cl 2 (.slice A1_2 l1_2.length c1_2)
   have hcz6_3 := BK193.cl 3 (.int .i64 a1_3)
   have hcz6_4 := BK193.cl 4 (.int .i64 a1_4)
   have hcz6_5 := BK193.cl 5 (.int .i64 a1_5)
   have hfz6_0 := BK193.fz 0
   have hfz6_1 := BK193.fz 1
   have hfz6_2 := BK193.fz 2
   have hfz6_3 := BK193.fz 3
   have hfz6_4 := BK193.fz 4
   have hfz6_5 := BK193.fz 5
   go_wp2
   repeat (go_quiet (fail); try go_wp2)
   go_meet
   case rel => exact ⟨_, (true), (by first | rfl | (simp; done) | (simp [*]; done)), H', ⟨by first | omega | exact Nat.le_refl _⟩, ⟨BK193.b⟩, ⟨HB.l⟩⟩
  ·rw [if_neg c5] at H
   have c5b0 : decide (a1_3 < 0) = false := decide_eq_false c5
   clear c5
   (first | rw [c5b0] | (simp only [i64_w, i32_w]; rw [c5b0]) | skip)
   by_cases c7 : a1_4 < 0
   ·rw [if_pos c7] at H
    have c7b0 : decide (a1_4 < 0) = true := decide_eq_true c7
    clear c7
    have H' := Aside0.mk H
    clear H
    have hcz8_0 := BK193.cl 0 (.int .i64 a1_0)
    have hcz8_1 := BK193.cl 1 (.int .i64 a1_1)
    have hcz8_2 := BK193.cl 2 (.slice A1_2 l1_2.length c1_2)
    have hcz8_3 := BK193.cl 3 (.int .i64 a1_3)
    have hcz8_4 := BK193.cl 4 (.int .i64 a1_4)
    have hcz8_5 := BK193.cl 5 (.int .i64 a1_5)
    have hfz8_0 := BK193.fz 0
    have hfz8_1 := BK193.fz 1
    have hfz8_2 := BK193.fz 2
    have hfz8_3 := BK193.fz 3
    have hfz8_4 := BK193.fz 4
    have hfz8_5 := BK193.fz 5
    go_wp2
    repeat (go_quiet (fail); try go_wp2)
    go_meet
    case rel => exact ⟨_, (true), (by first | rfl | (simp; done) | (simp [*]; done)), H', ⟨by first | omega | exact Nat.le_refl _⟩, ⟨BK193.b⟩, ⟨HB.l⟩⟩
   ·rw [if_neg c7] at H
    have c7b0 : decide (a1_4 < 0) = false := decide_eq_false c7
    clear c7
    by_cases c9 : a1_3 ≥ (l0.length : Int)
    ·rw [if_pos c9] at H
     have c9b0 : decide ((l0.length : Int) ≤ a1_3) = true := decide_eq_true c9
     clear c9
     have H' := Aside0.mk H
     clear H
     have hcz10_0 := BK193.cl 0 (.int .i64 a1_0)
     have hcz10_1 := BK193.cl 1 (.int .i64 a1_1)
     have hcz10_2 := BK193.cl 2 (.slice A1_2 l1_2.length c1_2)
     have hcz10_3 := BK193.cl 3 (.int .i64 a1_3)
     have hcz10_4 := BK193.cl 4 (.int .i64 a1_4)
     have hcz10_5 := BK193.cl 5 (.int .i64 a1_5)
     have hfz10_0 := BK193.fz 0
     have hfz10_1 := BK193.fz 1
     have hfz10_2 := BK193.fz 2
     have hfz10_3 := BK193.fz 3
     have hfz10_4 := BK193.fz 4
     have hfz10_5 := BK193.fz 5
     go_wp2
     repeat (go_quiet (fail); try go_wp2)
     go_meet
     case rel => exact ⟨_, (true), (by first | rfl | (simp; done) | (simp [*]; done)), H', ⟨by first | omega | exact Nat.le_refl _⟩, ⟨BK193.b⟩, ⟨HB.l⟩⟩
    ·rw [if_neg c9] at H
     have c9b0 : decide ((l0.length : Int) ≤ a1_3) = false := decide_eq_false c9
     clear c9
     by_cases c11 : a1_4 ≥ (l0.length : Int)
     ·rw [if_pos c11] at H
      have c11b0 : decide ((l0.length : Int) ≤ a1_4) = true := decide_eq_true c11
      clear c11
      have H' := Aside0.mk H
      clear H
      have hcz12_0 := BK193.cl 0 (.int .i64 a1_0)
      have hcz12_1 := BK193.cl 1 (.int .i64 a1_1)
      have hcz12_2 := BK193.cl 2 (.slice A1_2 l1_2.length c1_2)
      have hcz12_3 := BK193.cl 3 (.int .i64 a1_3)
      have hcz12_4 := BK193.cl 4 (.int .i64 a1_4)
      have hcz12_5 := BK193.cl 5 (.int .i64 a1_5)
      have hfz12_0 := BK193.fz 0
      have hfz12_1 := BK193.fz 1
      have hfz12_2 := BK193.fz 2
      have hfz12_3 := BK193.fz 3
      have hfz12_4 := BK193.fz 4
      have hfz12_5 := BK193.fz 5
      go_wp2
      repeat (go_quiet (fail); try go_wp2)
      go_meet
      case rel => exact ⟨_, (true), (by first | rfl | (simp; done) | (simp [*]; done)), H', ⟨by first | omega | exact Nat.le_refl _⟩, ⟨BK193.b⟩, ⟨HB.l⟩⟩
     ·rw [if_neg c11] at H
      have c11b0 : decide ((l0.length : Int) ≤ a1_4) = false := decide_eq_false c11
      clear c11
      by_cases c13 : a1_5 < 0
      ·rw [if_pos c13] at H
       have c13b0 : decide (a1_5 < 0) = true := decide_eq_true c13
       clear c13
       have H' := Aside0.mk H
       clear H
       have hcz14_0 := BK193.cl 0 (.int .i64 a1_0)
       have hcz14_1 := BK193.cl 1 (.int .i64 a1_1)
       have hcz14_2 := BK193.cl 2 (.slice A1_2 l1_2.length c1_2)
       have hcz14_3 := BK193.cl 3 (.int .i64 a1_3)
       have hcz14_4 := BK193.cl 4 (.int .i64 a1_4)
       have hcz14_5 := BK193.cl 5 (.int .i64 a1_5)
       have hfz14_0 := BK193.fz 0
       have hfz14_1 := BK193.fz 1
       have hfz14_2 := BK193.fz 2
       have hfz14_3 := BK193.fz 3
       have hfz14_4 := BK193.fz 4
       have hfz14_5 := BK193.fz 5
       go_wp2
       repeat (go_quiet (fail); try go_wp2)
       go_meet
       case rel => exact ⟨_, (true), (by first | rfl | (simp; done) | (simp [*]; done)), H', ⟨by first | omega | exact Nat.le_refl _⟩, ⟨BK193.b⟩, ⟨HB.l⟩⟩
      ·rw [if_neg c13] at H
       have c13b0 : decide (a1_5 < 0) = false := decide_eq_false c13
       clear c13
       have H' := Aside0.mk H
       clear H
       have hcz15_0 := BK193.cl 0 (.int .i64 a1_0)
       have hcz15_1 := BK193.cl 1 (.int .i64 a1_1)
       have hcz15_2 := BK193.cl 2 (.slice A1_2 l1_2.length c1_2)
       have hcz15_3 := BK193.cl 3 (.int .i64 a1_3)
       have hcz15_4 := BK193.cl 4 (.int .i64 a1_4)
       have hcz15_5 := BK193.cl 5 (.int .i64 a1_5)
       have hfz15_0 := BK193.fz 0
       have hfz15_1 := BK193.fz 1
       have hfz15_2 := BK193.fz 2
       have hfz15_3 := BK193.fz 3
       have hfz15_4 := BK193.fz 4
       have hfz15_5 := BK193.fz 5
       go_wp2
       repeat (go_quiet (fail); try go_wp2)
       go_meet
       case rel => exact ⟨_, (decide (a1_5 ≥ 1024)), (by first | rfl | (simp; done) | (simp [*]; done)), H', ⟨by first | omega | exact Nat.le_refl _⟩, ⟨BK193.b⟩, ⟨HB.l⟩⟩
 case rest => as_aux_lemma =>
  clear HC3
  try clear c1
  try clear c2
  try clear p2
  try clear c5
  try clear c5b0
  try clear c7
  try clear c7b0
  try clear c9
  try clear c9b0
  try clear c11
  try clear c11b0
  try clear c13
  try clear c13b0
  try clear hcz10_0
  try clear hcz10_1
  try clear hcz10_2
  try clear hcz10_3
  try clear hcz10_4
  try clear hcz10_5
  try clear hcz12_0
  try clear hcz12_1
  try clear hcz12_2
  try clear hcz12_3
  try clear hcz12_4
  try clear hcz12_5
  try clear hcz14_0
  try clear hcz14_1
  try clear hcz14_2
  try clear hcz14_3
  try clear hcz14_4
  try clear hcz14_5
  try clear hcz15_0
  try clear hcz15_1
  try clear hcz15_2
  try clear hcz15_3
  try clear hcz15_4
  try clear hcz15_5
  try clear hcz6_0
  try clear hcz6_1
  try clear hcz6_2
  try clear hcz6_3
  try clear hcz6_4
  try clear hcz6_5
  try clear hcz8_0
  try clear hcz8_1
  try clear hcz8_2
  try clear hcz8_3
  try clear hcz8_4
  try clear hcz8_5
  try clear hfz10_0
  try clear hfz10_1
  try clear hfz10_2
  try clear hfz10_3
  try clear hfz10_4
  try clear hfz10_5
  try clear hfz12_0
  try clear hfz12_1
  try clear hfz12_2
  try clear hfz12_3
  try clear hfz12_4
  try clear hfz12_5
  try clear hfz14_0
  try clear hfz14_1
  try clear hfz14_2
  try clear hfz14_3
  try clear hfz14_4
  try clear hfz14_5
  try clear hfz15_0
  try clear hfz15_1
  try clear hfz15_2
  try clear hfz15_3
  try clear hfz15_4
  try clear hfz15_5
  try clear hfz6_0
  try clear hfz6_1
  try clear hfz6_2
  try clear hfz6_3
  try clear hfz6_4
  try clear hfz6_5
  try clear hfz8_0
  try clear hfz8_1
  try clear hfz8_2
  try clear hfz8_3
  try clear hfz8_4
  try clear hfz8_5
  obtain ⟨kq, x44_2, rfl, HA, HJ2, BK193, HB⟩ := hcut
  cases kq with
  | zero => exact absurd HA.out (by simp [proof_resolve.j0])
  | succ kj2 =>
   have H := HA.out
   clear HA
   simp only [proof_resolve.j0] at H
   by_cases c16 : x44_2 = true
   ·subst c16
    have H1 : (some (([] : List Int), false)) = some (r1, r2) := by rw [if_pos rfl] at H; exact H
    clear H
    have H := H1
    clear H1
    simp only [Option.some.injEq, Prod.mk.injEq] at H
    obtain ⟨rfl, rfl⟩ := H
    go_wp2
    repeat (go_quiet (fail); try go_wp2)
    go_ret2
    exact ⟨_, by first | rfl | (simp [errW_none, errW_some] <;> rfl) | (simp [*, errW_none, errW_some] <;> rfl), by first | exact Kd.R_nil _ _ _ _ _ | exact Kd.N_nil _ _ _ _ _ | exact Kd.V_nil _ _ _ _ _ | exact Kd.Q_nil _ _ _ _ _ | exact Kd.S_nil _ _ _ _ _, HB.l⟩
   ·replace c16 := Bool.eq_false_iff.mpr c16
    subst c16
    have H1 : (if 0 ≤ a1_3 then (if a1_3 < (l0.length : Int) then (if 0 ≤ a1_4 then (if a1_4 < (l0.length : Int) then ((slices_Contains_int_int.f kj2 (rd_L1 l0 a1_3) (wrap64 (a1_5 + 1))).bind fun t196 => (if t196 = true then ((slices_Contains_int_int.f kj2 (rd_L1 l0 a1_4) (wrap64 ((wrap64 (-a1_5)) - 1))).bind fun t197 => (proof_resolve.j1 kj2 (rd_L1 l0 a1_3) (rd_L1 l0 a1_4) (!t197) a1_0 a1_1 l1_2 a1_3 a1_4 a1_5)) else (proof_resolve.j1 kj2 (rd_L1 l0 a1_3) (rd_L1 l0 a1_4) true a1_0 a1_1 l1_2 a1_3 a1_4 a1_5))) else (none)) else (none)) else (none)) else (none)) = some (r1, r2) := by rw [if_neg (show ¬ (false = true) by decide)] at H; exact H
    clear H
    have H := H1
    clear H1
    by_cases c17 : 0 ≤ a1_3
    ·rw [if_pos c17] at H
     have c17b0 : decide (0 ≤ a1_3) = true := decide_eq_true c17
     clear c17
     by_cases c18 : a1_3 < (l0.length : Int)
     ·rw [if_pos c18] at H
      have c18b0 : decide (a1_3 < (l0.length : Int)) = true := decide_eq_true c18
      clear c18
      by_cases c19 : 0 ≤ a1_4
      ·rw [if_pos c19] at H
       have c19b0 : decide (0 ≤ a1_4) = true := decide_eq_true c19
       clear c19
       by_cases c20 : a1_4 < (l0.length : Int)
       ·rw [if_pos c20] at H
        have c20b0 : decide (a1_4 < (l0.length : Int)) = true := decide_eq_true c20
        clear c20
        have HC21 := Aside0.mk H
        clear H
        have hcz22_0 := BK193.cl 0 (.int .i64 a1_0)
        have hcz22_1 := BK193.cl 1 (.int .i64 a1_1)
        have hcz22_2 := BK193.cl 2 (.slice A1_2 l1_2.length c1_2)
        have hcz22_3 := BK193.cl 3 (.int .i64 a1_3)
        have hcz22_4 := BK193.cl 4 (.int .i64 a1_4)
        have hcz22_5 := BK193.cl 5 (.int .i64 a1_5)
        have hfz22_0 := BK193.fz 0
        have hfz22_1 := BK193.fz 1
        have hfz22_2 := BK193.fz 2
        have hfz22_3 := BK193.fz 3
        have hfz22_4 := BK193.fz 4
        have hfz22_5 := BK193.fz 5
        have p194 : 0 ≤ (a1_3 : Int) := of_decide_eq_true (by first | (with_reducible assumption) | assumption)
        have q194 : a1_3 < (l0.length : Int) := of_decide_eq_true (by first | (with_reducible assumption) | assumption)
        obtain ⟨ad194, A194_0, c194_0, e194, hx194_0, hl194_0, hi194_0⟩ := at_L1 HR0.out a1_3 p194 q194
        cases e194
        replace hx194_0 := (HB.out.cell (World.block_lt_of_cell? w _ hx194_0)).trans hx194_0
        have HR194_0 := Aside0.mk hi194_0
        have HC194_0 := Aside0.mk hl194_0
        clear hi194_0 hl194_0
        replace p194 := eq_true p194
        replace q194 := eq_true q194
        have p195 : 0 ≤ (a1_4 : Int) := of_decide_eq_true (by first | (with_reducible assumption) | assumption)
        have q195 : a1_4 < (l0.length : Int) := of_decide_eq_true (by first | (with_reducible assumption) | assumption)
        obtain ⟨ad195, A195_0, c195_0, e195, hx195_0, hl195_0, hi195_0⟩ := at_L1 HR0.out a1_4 p195 q195
        obtain rfl : ad194 = ad195 := (by injection e195)
        replace hx195_0 := (HB.out.cell (World.block_lt_of_cell? w _ hx195_0)).trans hx195_0
        have HR195_0 := Aside0.mk hi195_0
        have HC195_0 := Aside0.mk hl195_0
        clear hi195_0 hl195_0
        replace p195 := eq_true p195
        replace q195 := eq_true q195
        go_upto_region 4 with (fail)
        repeat (go_quiet (fail); go_upto_region 4 with (fail))
        go_cut [69] (fun v69 wc => ∃ (kq : Nat) (x69_20 : Bool), v69 = .bool x69_20 ∧ Aside0 (proof_resolve.j1 kq (rd_L1 l0 a1_3) (rd_L1 l0 a1_4) x69_20 a1_0 a1_1 l1_2 a1_3 a1_4 a1_5 = some (r1, r2)) ∧ Aside0 (kq ≤ kj2) ∧ Aside0 (wc.heap[gb193]? = some (.cells #[.int .i64 a1_0, .int .i64 a1_1, (.slice A1_2 l1_2.length c1_2), .int .i64 a1_3, .int .i64 a1_4, .int .i64 a1_5] 28 (0, 0))) ∧ Aside0 (Below w.heap.size w wc))
        case first => as_aux_lemma =>
         have H := HC21.out
         clear HC21
         replace H := Option.bind_eq_some_iff.mp H
         obtain ⟨t196, A230, H⟩ := H
         replace H : (if t196 = true then ((slices_Contains_int_int.f kj2 (rd_L1 l0 a1_4) (wrap64 ((wrap64 (-a1_5)) - 1))).bind fun t197 => (proof_resolve.j1 kj2 (rd_L1 l0 a1_3) (rd_L1 l0 a1_4) (!t197) a1_0 a1_1 l1_2 a1_3 a1_4 a1_5)) else (proof_resolve.j1 kj2 (rd_L1 l0 a1_3) (rd_L1 l0 a1_4) true a1_0 a1_1 l1_2 a1_3 a1_4 a1_5)) = some (r1, r2) := H
         have A23 := Aside0.mk A230
         clear A230
         by_cases c24 : t196 = true
         ·subst c24
          have H1 : ((slices_Contains_int_int.f kj2 (rd_L1 l0 a1_4) (wrap64 ((wrap64 (-a1_5)) - 1))).bind fun t197 => (proof_resolve.j1 kj2 (rd_L1 l0 a1_3) (rd_L1 l0 a1_4) (!t197) a1_0 a1_1 l1_2 a1_3 a1_4 a1_5)) = some (r1, r2) := by rw [if_pos rfl] at H; exact H
          clear H
          have H := H1
          clear H1
          replace H := Option.bind_eq_some_iff.mp H
          obtain ⟨t197, A250, H⟩ := H
          replace H : (proof_resolve.j1 kj2 (rd_L1 l0 a1_3) (rd_L1 l0 a1_4) (!t197) a1_0 a1_1 l1_2 a1_3 a1_4 a1_5) = some (r1, r2) := H
          have A25 := Aside0.mk A250
          clear A250
          have H' := Aside0.mk H
          clear H
          have hcz26_0 := BK193.cl 0 (.int .i64 a1_0)
          have hcz26_1 := BK193.cl 1 (.int .i64 a1_1)
          have hcz26_2 := BK193.cl 2 (.slice A1_2 l1_2.length c1_2)
          have hcz26_3 := BK193.cl 3 (.int .i64 a1_3)
          have hcz26_4 := BK193.cl 4 (.int .i64 a1_4)
          have hcz26_5 := BK193.cl 5 (.int .i64 a1_5)
          have hfz26_0 := BK193.fz 0
          have hfz26_1 := BK193.fz 1
          have hfz26_2 := BK193.fz 2
          have hfz26_3 := BK193.fz 3
          have hfz26_4 := BK193.fz 4
          have hfz26_5 := BK193.fz 5
          go_wp2_with (first | (go_at_call 27; (with_reducible refine (slices_Contains_int_int.calls kj2 _ _ (rd_L1 l0 a1_3) (wrap64 (a1_5 + 1)) true _ ?side1 ?side2 A23.out).mono ?_); (case side1 => exact HR194_0.c HB.l); (case side2 => exact HC194_0.out); rintro e w' ⟨rfl, ⟨nd, rfl⟩⟩; (try first | exact ⟨rfl, _, World.drewN_drewN _ _ _⟩ | exact ⟨rfl, _, Eq.trans (World.drewN_drewN _ _ _) (congrArg (World.drewN _) (Nat.add_assoc _ _ _))⟩)) | (go_at_call 27; (with_reducible refine (slices_Contains_int_int.calls kj2 _ _ (rd_L1 l0 a1_4) (wrap64 ((wrap64 (-a1_5)) - 1)) t197 _ ?side1 ?side2 A25.out).mono ?_); (case side1 => repeat (first | exact (Kd.C_below HR195_0.out HB.l) | (with_reducible refine Kd.C_alloc ?_ _) | (with_reducible refine Kd.C_drewN ?_ _) | (with_reducible refine Kd.C_drew ?_))); (case side2 => exact HC195_0.out); rintro e w' ⟨rfl, ⟨nd, rfl⟩⟩; (try first | exact ⟨rfl, _, World.drewN_drewN _ _ _⟩ | exact ⟨rfl, _, Eq.trans (World.drewN_drewN _ _ _) (congrArg (World.drewN _) (Nat.add_assoc _ _ _))⟩)))
          repeat (go_quiet (first | (go_at_call 27; (with_reducible refine (slices_Contains_int_int.calls kj2 _ _ (rd_L1 l0 a1_3) (wrap64 (a1_5 + 1)) true _ ?side1 ?side2 A23.out).mono ?_); (case side1 => exact HR194_0.c HB.l); (case side2 => exact HC194_0.out); rintro e w' ⟨rfl, ⟨nd, rfl⟩⟩; (try first | exact ⟨rfl, _, World.drewN_drewN _ _ _⟩ | exact ⟨rfl, _, Eq.trans (World.drewN_drewN _ _ _) (congrArg (World.drewN _) (Nat.add_assoc _ _ _))⟩)) | (go_at_call 27; (with_reducible refine (slices_Contains_int_int.calls kj2 _ _ (rd_L1 l0 a1_4) (wrap64 ((wrap64 (-a1_5)) - 1)) t197 _ ?side1 ?side2 A25.out).mono ?_); (case side1 => repeat (first | exact (Kd.C_below HR195_0.out HB.l) | (with_reducible refine Kd.C_alloc ?_ _) | (with_reducible refine Kd.C_drewN ?_ _) | (with_reducible refine Kd.C_drew ?_))); (case side2 => exact HC195_0.out); rintro e w' ⟨rfl, ⟨nd, rfl⟩⟩; (try first | exact ⟨rfl, _, World.drewN_drewN _ _ _⟩ | exact ⟨rfl, _, Eq.trans (World.drewN_drewN _ _ _) (congrArg (World.drewN _) (Nat.add_assoc _ _ _))⟩))); try go_wp2_with (first | (go_at_call 27; (with_reducible refine (slices_Contains_int_int.calls kj2 _ _ (rd_L1 l0 a1_3) (wrap64 (a1_5 + 1)) true _ ?side1 ?side2 A23.out).mono ?_); (case side1 => exact HR194_0.c HB.l); (case side2 => exact HC194_0.out); rintro e w' ⟨rfl, ⟨nd, rfl⟩⟩; (try first | exact ⟨rfl, _, World.drewN_drewN _ _ _⟩ | exact ⟨rfl, _, Eq.trans (World.drewN_drewN _ _ _) (congrArg (World.drewN _) (Nat.add_assoc _ _ _))⟩)) | (go_at_call 27; (with_reducible refine (slices_Contains_int_int.calls kj2 _ _ (rd_L1 l0 a1_4) (wrap64 ((wrap64 (-a1_5)) - 1)) t197 _ ?side1 ?side2 A25.out).mono ?_); (case side1 => repeat (first | exact (Kd.C_below HR195_0.out HB.l) | (with_reducible refine Kd.C_alloc ?_ _) | (with_reducible refine Kd.C_drewN ?_ _) | (with_reducible refine Kd.C_drew ?_))); (case side2 => exact HC195_0.out); rintro e w' ⟨rfl, ⟨nd, rfl⟩⟩; (try first | exact ⟨rfl, _, World.drewN_drewN _ _ _⟩ | exact ⟨rfl, _, Eq.trans (World.drewN_drewN _ _ _) (congrArg (World.drewN _) (Nat.add_assoc _ _ _))⟩))))
          go_meet
          case rel => exact ⟨_, (!t197), (by first | rfl | (simp; done) | (simp [*]; done)), H', ⟨by have := HJ2.out; first | omega | exact Nat.le_refl _⟩, ⟨BK193.b⟩, ⟨HB.l⟩⟩
         ·replace c24 := Bool.eq_false_iff.mpr c24
          subst c24
          have H1 : (proof_resolve.j1 kj2 (rd_L1 l0 a1_3) (rd_L1 l0 a1_4) true a1_0 a1_1 l1_2 a1_3 a1_4 a1_5) = some (r1, r2) := by rw [if_neg (show ¬ (false = true) by decide)] at H; exact H
          clear H
          have H := H1
          clear H1
          have H' := Aside0.mk H
          clear H
          have hcz27_0 := BK193.cl 0 (.int .i64 a1_0)
          have hcz27_1 := BK193.cl 1 (.int .i64 a1_1)
          have hcz27_2 := BK193.cl 2 (.slice A1_2 l1_2.length c1_2)
          have hcz27_3 := BK193.cl 3 (.int .i64 a1_3)
          have hcz27_4 := BK193.cl 4 (.int .i64 a1_4)
          have hcz27_5 := BK193.cl 5 (.int .i64 a1_5)
          have hfz27_0 := BK193.fz 0
          have hfz27_1 := BK193.fz 1
          have hfz27_2 := BK193.fz 2
          have hfz27_3 := BK193.fz 3
          have hfz27_4 := BK193.fz 4
          have hfz27_5 := BK193.fz 5
          go_wp2_with (first | (go_at_call 27; (with_reducible refine (slices_Contains_int_int.calls kj2 _ _ (rd_L1 l0 a1_3) (wrap64 (a1_5 + 1)) false _ ?side1 ?side2 A23.out).mono ?_); (case side1 => exact HR194_0.c HB.l); (case side2 => exact HC194_0.out); rintro e w' ⟨rfl, ⟨nd, rfl⟩⟩; (try first | exact ⟨rfl, _, World.drewN_drewN _ _ _⟩ | exact ⟨rfl, _, Eq.trans (World.drewN_drewN _ _ _) (congrArg (World.drewN _) (Nat.add_assoc _ _ _))⟩)))
          repeat (go_quiet (first | (go_at_call 27; (with_reducible refine (slices_Contains_int_int.calls kj2 _ _ (rd_L1 l0 a1_3) (wrap64 (a1_5 + 1)) false _ ?side1 ?side2 A23.out).mono ?_); (case side1 => exact HR194_0.c HB.l); (case side2 => exact HC194_0.out); rintro e w' ⟨rfl, ⟨nd, rfl⟩⟩; (try first | exact ⟨rfl, _, World.drewN_drewN _ _ _⟩ | exact ⟨rfl, _, Eq.trans (World.drewN_drewN _ _ _) (congrArg (World.drewN _) (Nat.add_assoc _ _ _))⟩))); try go_wp2_with (first | (go_at_call 27; (with_reducible refine (slices_Contains_int_int.calls kj2 _ _ (rd_L1 l0 a1_3) (wrap64 (a1_5 + 1)) false _ ?side1 ?side2 A23.out).mono ?_); (case side1 => exact HR194_0.c HB.l); (case side2 => exact HC194_0.out); rintro e w' ⟨rfl, ⟨nd, rfl⟩⟩; (try first | exact ⟨rfl, _, World.drewN_drewN _ _ _⟩ | exact ⟨rfl, _, Eq.trans (World.drewN_drewN _ _ _) (congrArg (World.drewN _) (Nat.add_assoc _ _ _))⟩))))
          go_meet
          case rel => exact ⟨_, (true), (by first | rfl | (simp; done) | (simp [*]; done)), H', ⟨by have := HJ2.out; first | omega | exact Nat.le_refl _⟩, ⟨BK193.b⟩, ⟨HB.l⟩⟩
        case rest => as_aux_lemma =>
         clear HC21
         try clear c1
         try clear p1
         try clear q1
         try clear hx1
         try clear c2
         try clear p2
         try clear c5
         try clear c5b0
         try clear p6
         try clear c7
         try clear c7b0
         try clear c9
         try clear c9b0
         try clear c11
         try clear c11b0
         try clear c13
         try clear c13b0
         try clear c16
         try clear c17
         try clear c17b0
         try clear c18
         try clear c18b0
         try clear c19
         try clear c19b0
         try clear p19
         try clear q19
         try clear hx19
         try clear c20
         try clear c20b0
         try clear c21
         try clear c24
         try clear hcz10_0
         try clear hcz10_1
         try clear hcz10_2
         try clear hcz10_3
         try clear hcz10_4
         try clear hcz10_5
         try clear hcz12_0
         try clear hcz12_1
         try clear hcz12_2
         try clear hcz12_3
         try clear hcz12_4
         try clear hcz12_5
         try clear hcz14_0
         try clear hcz14_1
         try clear hcz14_2
         try clear hcz14_3
         try clear hcz14_4
         try clear hcz14_5
         try clear hcz15_0
         try clear hcz15_1
         try clear hcz15_2
         try clear hcz15_3
         try clear hcz15_4
         try clear hcz15_5
         try clear hcz22_0
         try clear hcz22_1
         try clear hcz22_2
         try clear hcz22_3
         try clear hcz22_4
         try clear hcz22_5
         try clear hcz26_0
         try clear hcz26_1
         try clear hcz26_2
         try clear hcz26_3
         try clear hcz26_4
         try clear hcz26_5
         try clear hcz27_0
         try clear hcz27_1
         try clear hcz27_2
         try clear hcz27_3
         try clear hcz27_4
         try clear hcz27_5
         try clear hcz6_0
         try clear hcz6_1
         try clear hcz6_2
         try clear hcz6_3
         try clear hcz6_4
         try clear hcz6_5
         try clear hcz8_0
         try clear hcz8_1
         try clear hcz8_2
         try clear hcz8_3
         try clear hcz8_4
         try clear hcz8_5
         try clear hfz10_0
         try clear hfz10_1
         try clear hfz10_2
         try clear hfz10_3
         try clear hfz10_4
         try clear hfz10_5
         try clear hfz12_0
         try clear hfz12_1
         try clear hfz12_2
         try clear hfz12_3
         try clear hfz12_4
         try clear hfz12_5
         try clear hfz14_0
         try clear hfz14_1
         try clear hfz14_2
         try clear hfz14_3
         try clear hfz14_4
         try clear hfz14_5
         try clear hfz15_0
         try clear hfz15_1
         try clear hfz15_2
         try clear hfz15_3
         try clear hfz15_4
         try clear hfz15_5
         try clear hfz22_0
         try clear hfz22_1
         try clear hfz22_2
         try clear hfz22_3
         try clear hfz22_4
         try clear hfz22_5
         try clear hfz26_0
         try clear hfz26_1
         try clear hfz26_2
         try clear hfz26_3
         try clear hfz26_4
         try clear hfz26_5
         try clear hfz27_0
         try clear hfz27_1
         try clear hfz27_2
         try clear hfz27_3
         try clear hfz27_4
         try clear hfz27_5
         try clear hfz6_0
         try clear hfz6_1
         try clear hfz6_2
         try clear hfz6_3
         try clear hfz6_4
         try clear hfz6_5
         try clear hfz8_0
         try clear hfz8_1
         try clear hfz8_2
         try clear hfz8_3
         try clear hfz8_4
         try clear hfz8_5
         try clear hx194_0
         try clear hx195_0
         try clear p194
         try clear p195
         try clear p2
         try clear q194
         try clear q195
         obtain ⟨kq, x69_20, rfl, HA, HJ20, BK193, HB⟩ := hcut
         cases kq with
         | zero => exact absurd HA.out (by simp [proof_resolve.j1])
         | succ kj20 =>
          have H := HA.out
          clear HA
          simp only [proof_resolve.j1] at H
          by_cases c28 : x69_20 = true
          ·subst c28
           have H1 : (some (([] : List Int), false)) = some (r1, r2) := by rw [if_pos rfl] at H; exact H
           clear H
           have H := H1
           clear H1
           simp only [Option.some.injEq, Prod.mk.injEq] at H
           obtain ⟨rfl, rfl⟩ := H
           go_wp2
           repeat (go_quiet (fail); try go_wp2)
           go_ret2
           exact ⟨_, by first | rfl | (simp [errW_none, errW_some] <;> rfl) | (simp [*, errW_none, errW_some] <;> rfl), by first | exact Kd.R_nil _ _ _ _ _ | exact Kd.N_nil _ _ _ _ _ | exact Kd.V_nil _ _ _ _ _ | exact Kd.Q_nil _ _ _ _ _ | exact Kd.S_nil _ _ _ _ _, HB.l⟩
          ·replace c28 := Bool.eq_false_iff.mpr c28
           subst c28
           have H1 : (proof_resolve.l0 kj20 (rd_L1 l0 a1_4) ([] : List Int) (rd_L1 l0 a1_3) ((rd_L1 l0 a1_3).length : Int) 0 a1_0 a1_1 l1_2 a1_3 a1_4 a1_5) = some (r1, r2) := by rw [if_neg (show ¬ (false = true) by decide)] at H; exact H
           clear H
           have H := H1
           clear H1
           have H' := Aside0.mk H
           clear H
           go_wp2
           repeat (go_quiet (fail); try go_wp2)
           go_loopg [8, 72] kj20 (fun kq v8 v72 w' => ∃ (x8_3 : List Int) (x72_3 : Int), v72 = .int .i64 x72_3 ∧ Aside0 (proof_resolve.l0 kq (rd_L1 l0 a1_4) x8_3 (rd_L1 l0 a1_3) ((rd_L1 l0 a1_3).length : Int) x72_3 a1_0 a1_1 l1_2 a1_3 a1_4 a1_5 = some (r1, r2)) ∧ Aside0 (kq ≤ kj20) ∧ Aside0 (Kd.R (Kd.int .i64) 3 w' w.heap.size (fun _ => True) v8 x8_3) ∧ Aside0 (w'.heap[gb193]? = some (.cells #[.int .i64 a1_0, .int .i64 a1_1, (.slice A1_2 l1_2.length c1_2), .int .i64 a1_3, .int .i64 a1_4, .int .i64 a1_5] 28 (0, 0))) ∧ Aside0 (Below w.heap.size w w'))
           case atStart => exact ⟨(([] : List Int)), (0), (by first | rfl | (simp; done) | (simp [*]; done)), H', ⟨Nat.le_refl _⟩, ⟨by first | exact Kd.R_nil _ _ _ _ _ | exact Kd.N_nil _ _ _ _ _ | exact Kd.V_nil _ _ _ _ _ | exact Kd.Q_nil _ _ _ _ _ | exact Kd.S_nil _ _ _ _ _⟩, ⟨BK193.b⟩, ⟨HB.l⟩⟩
           case round => as_aux_lemma =>
            clear H'
            try clear c1
            try clear p1
            try clear q1
            try clear hx1
            try clear c2
            try clear p2
            try clear c5
            try clear c5b0
            try clear p6
            try clear c7
            try clear c7b0
            try clear c9
            try clear c9b0
            try clear c11
            try clear c11b0
            try clear c13
            try clear c13b0
            try clear c16
            try clear c17
            try clear c17b0
            try clear c18
            try clear c18b0
            try clear c19
            try clear c19b0
            try clear p19
            try clear q19
            try clear hx19
            try clear c20
            try clear c20b0
            try clear c21
            try clear c24
            try clear c28
            try clear hcz10_0
            try clear hcz10_1
            try clear hcz10_2
            try clear hcz10_3
            try clear hcz10_4
            try clear hcz10_5
            try clear hcz12_0
            try clear hcz12_1
            try clear hcz12_2
            try clear hcz12_3
            try clear hcz12_4
            try clear hcz12_5
            try clear hcz14_0
            try clear hcz14_1
            try clear hcz14_2
            try clear hcz14_3
            try clear hcz14_4
            try clear hcz14_5
            try clear hcz15_0
            try clear hcz15_1
            try clear hcz15_2
            try clear hcz15_3
            try clear hcz15_4
            try clear hcz15_5
            try clear hcz22_0
            try clear hcz22_1
            try clear hcz22_2
            try clear hcz22_3
            try clear hcz22_4
            try clear hcz22_5
            try clear hcz26_0
            try clear hcz26_1
            try clear hcz26_2
            try clear hcz26_3
            try clear hcz26_4
            try clear hcz26_5
            try clear hcz27_0
            try clear hcz27_1
            try clear hcz27_2
            try clear hcz27_3
            try clear hcz27_4
            try clear hcz27_5
            try clear hcz6_0
            try clear hcz6_1
            try clear hcz6_2
            try clear hcz6_3
            try clear hcz6_4
            try clear hcz6_5
            try clear hcz8_0
            try clear hcz8_1
            try clear hcz8_2
            try clear hcz8_3
            try clear hcz8_4
            try clear hcz8_5
            try clear hfz10_0
            try clear hfz10_1
            try clear hfz10_2
            try clear hfz10_3
            try clear hfz10_4
            try clear hfz10_5
            try clear hfz12_0
            try clear hfz12_1
            try clear hfz12_2
            try clear hfz12_3
            try clear hfz12_4
            try clear hfz12_5
            try clear hfz14_0
            try clear hfz14_1
            try clear hfz14_2
            try clear hfz14_3
            try clear hfz14_4
            try clear hfz14_5
            try clear hfz15_0
            try clear hfz15_1
            try clear hfz15_2
            try clear hfz15_3
            try clear hfz15_4
            try clear hfz15_5
            try clear hfz22_0
            try clear hfz22_1
            try clear hfz22_2
            try clear hfz22_3
            try clear hfz22_4
            try clear hfz22_5
            try clear hfz26_0
            try clear hfz26_1
            try clear hfz26_2
            try clear hfz26_3
            try clear hfz26_4
            try clear hfz26_5
            try clear hfz27_0
            try clear hfz27_1
            try clear hfz27_2
            try clear hfz27_3
            try clear hfz27_4
            try clear hfz27_5
            try clear hfz6_0
            try clear hfz6_1
            try clear hfz6_2
            try clear hfz6_3
            try clear hfz6_4
            try clear hfz6_5
            try clear hfz8_0
            try clear hfz8_1
            try clear hfz8_2
            try clear hfz8_3
            try clear hfz8_4
            try clear hfz8_5
            try clear hx194_0
            try clear hx195_0
            try clear p1
            try clear p19
            try clear p194
            try clear p195
            try clear p2
            try clear p6
            try clear q1
            try clear q19
            try clear q194
            try clear q195
            obtain ⟨x8_3, x72_3, rfl, HA, HK3, HO_8, BK193, HB⟩ := hrel
            cases gk with
            | zero => exact absurd HA.out (by simp [proof_resolve.l0])
            | succ k3 =>
             have H := HA.out
             clear HA
             simp only [proof_resolve.l0] at H
             by_cases c29 : x72_3 < ((rd_L1 l0 a1_3).length : Int)
             ·rw [if_pos c29] at H
              have c29b0 : decide (x72_3 < ((rd_L1 l0 a1_3).length : Int)) = true := decide_eq_true c29
              clear c29
              by_cases c30 : 0 ≤ x72_3
              ·rw [if_pos c30] at H
               have c30b0 : decide (0 ≤ x72_3) = true := decide_eq_true c30
               clear c30
               by_cases c31 : x72_3 < ((rd_L1 l0 a1_3).length : Int)
               ·rw [if_pos c31] at H
                have c31b0 : decide (x72_3 < ((rd_L1 l0 a1_3).length : Int)) = true := decide_eq_true c31
                clear c31
                by_cases c32 : (rd (rd_L1 l0 a1_3) x72_3) = (wrap64 (a1_5 + 1))
                ·rw [if_pos c32] at H
                 have c32b0 : ((rd (rd_L1 l0 a1_3) x72_3) == (wrap64 (a1_5 + 1))) = true := beq_iff_eq.mpr c32
                 have c32b1 : ((rd (rd_L1 l0 a1_3) x72_3) != (wrap64 (a1_5 + 1))) = false := bne_eq_false_iff_eq.mpr c32
                 clear c32
                 have H' := Aside0.mk H
                 clear H
                 have p198 : 0 ≤ (x72_3 : Int) := of_decide_eq_true (by first | (with_reducible assumption) | assumption)
                 have q198 : x72_3 < ((rd_L1 l0 a1_3).length : Int) := of_decide_eq_true (by first | (with_reducible assumption) | assumption)
                 obtain ⟨ad198, e198, hx198_0⟩ := Kd.at_int HR194_0.out x72_3 p198 q198
                 cases e198
                 replace hx198_0 := (HB.out.cell (World.block_lt_of_cell? w _ hx198_0)).trans hx198_0
                 replace p198 := eq_true p198
                 replace q198 := eq_true q198
                 have hcz33_0 := BK193.cl 0 (.int .i64 a1_0)
                 have hcz33_1 := BK193.cl 1 (.int .i64 a1_1)
                 have hcz33_2 := BK193.cl 2 (.slice A1_2 l1_2.length c1_2)
                 have hcz33_3 := BK193.cl 3 (.int .i64 a1_3)
                 have hcz33_4 := BK193.cl 4 (.int .i64 a1_4)
                 have hcz33_5 := BK193.cl 5 (.int .i64 a1_5)
                 have hfz33_0 := BK193.fz 0
                 have hfz33_1 := BK193.fz 1
                 have hfz33_2 := BK193.fz 2
                 have hfz33_3 := BK193.fz 3
                 have hfz33_4 := BK193.fz 4
                 have hfz33_5 := BK193.fz 5
                 go_wp2
                 repeat (go_quiet (fail); try go_wp2)
                 go_roundg k3
                 case measure => have := HJ2.out; have := HJ20.out; have := HK3.out; omega
                 case rel => exact ⟨(x8_3), (wrap64 (x72_3 + 1)), (by first | rfl | (simp; done) | (simp [*]; done)), H', ⟨by have := HJ2.out; have := HJ20.out; have := HK3.out; omega⟩, ⟨HO_8.r⟩, ⟨BK193.b⟩, ⟨HB.l⟩⟩
                ·rw [if_neg c32] at H
                 have c32b0 : ((rd (rd_L1 l0 a1_3) x72_3) == (wrap64 (a1_5 + 1))) = false := beq_eq_false_iff_ne.mpr c32
                 have c32b1 : ((rd (rd_L1 l0 a1_3) x72_3) != (wrap64 (a1_5 + 1))) = true := bne_iff_ne.mpr c32
                 by_cases c34 : x8_3.length < 17592186044416
                 ·rw [if_pos c34] at H
                  have LMc34 := Aside0.mk c34
                  clear c34
                  obtain ⟨y199, hy199⟩ : ∃ y_ : List Int, y_ = (x8_3 ++ [rd (rd_L1 l0 a1_3) x72_3]) := ⟨_, rfl⟩
                  replace H : (proof_resolve.l0 k3 (rd_L1 l0 a1_4) y199 (rd_L1 l0 a1_3) ((rd_L1 l0 a1_3).length : Int) (wrap64 (x72_3 + 1)) a1_0 a1_1 l1_2 a1_3 a1_4 a1_5) = some (r1, r2) := by first | (rw [hy199]; with_reducible exact H) | (have H2_ := (Option.bind_some _ _).symm.trans H; rw [hy199]; with_reducible exact H2_) | (have H2_ := (Option.bind_some _ _).symm.trans H; with_reducible exact H2_) | with_reducible exact H | (rw [hy199]; exact H) | exact H
                  have Ny199 := Aside0.mk hy199
                  clear hy199
                  have H' := Aside0.mk H
                  clear H
                  have p198 : 0 ≤ (x72_3 : Int) := of_decide_eq_true (by first | (with_reducible assumption) | assumption)
                  have q198 : x72_3 < ((rd_L1 l0 a1_3).length : Int) := of_decide_eq_true (by first | (with_reducible assumption) | assumption)
                  obtain ⟨ad198, e198, hx198_0⟩ := Kd.at_int HR194_0.out x72_3 p198 q198
                  cases e198
                  replace hx198_0 := (HB.out.cell (World.block_lt_of_cell? w _ hx198_0)).trans hx198_0
                  replace p198 := eq_true p198
                  replace q198 := eq_true q198
                  have hcz35_0 := BK193.cl 0 (.int .i64 a1_0)
                  have hcz35_1 := BK193.cl 1 (.int .i64 a1_1)
                  have hcz35_2 := BK193.cl 2 (.slice A1_2 l1_2.length c1_2)
                  have hcz35_3 := BK193.cl 3 (.int .i64 a1_3)
                  have hcz35_4 := BK193.cl 4 (.int .i64 a1_4)
                  have hcz35_5 := BK193.cl 5 (.int .i64 a1_5)
                  have hfz35_0 := BK193.fz 0
                  have hfz35_1 := BK193.fz 1
                  have hfz35_2 := BK193.fz 2
                  have hfz35_3 := BK193.fz 3
                  have hfz35_4 := BK193.fz 4
                  have hfz35_5 := BK193.fz 5
                  go_wp2_with (first | ((with_reducible refine gate_builtin (b := .append) (xs := #[.tmp 81, .tmp 83]) rfl ?_); (try (refine gate_guard (by rfl) ?_; dsimp only)); at_builtin; refine Kd.R_append (Kd.int .i64) (w0 := w) w.heap.size rfl (.tmp 81) (.tmp 83) 26 3 (.int .i64 0) 8 rfl Tryd.underlying26 info3 rfl (by decide) (by omega) u8 x8_3 (rd (rd_L1 l0 a1_3) x72_3) [.int .i64 (rd (rd_L1 l0 a1_3) x72_3)] (fun _ => True) (fun _ => False) rfl rfl ?aP (fun _ hk => hk.elim) ?aF ?aO ?aB ?aS ?aL ?_; (case aP => exact rfl); (case aB => exact HB.l); (case aF => exact (fun _ _ => trivial)); (case aO => exact HO_8.r); (case aS => exact (below_size HB.l)); (case aL => have := LMc34.out; omega); intro v200 w36 ho hb hg hat; rw [← Ny199.out] at ho; have n0_ := Aside0.mk (blk_grown BK193.b hg (Kd.R_ne HO_8.out BK193.out (by decide))); have n1_ := Aside0.mk (hb); have n2_ := Aside0.mk (ho); clear BK193 HB HO_8; revert n0_ n1_ n2_; intro BK193 HB HO201; clear ho hb hg hat))
                  repeat (go_quiet (first | ((with_reducible refine gate_builtin (b := .append) (xs := #[.tmp 81, .tmp 83]) rfl ?_); (try (refine gate_guard (by rfl) ?_; dsimp only)); at_builtin; refine Kd.R_append (Kd.int .i64) (w0 := w) w.heap.size rfl (.tmp 81) (.tmp 83) 26 3 (.int .i64 0) 8 rfl Tryd.underlying26 info3 rfl (by decide) (by omega) u8 x8_3 (rd (rd_L1 l0 a1_3) x72_3) [.int .i64 (rd (rd_L1 l0 a1_3) x72_3)] (fun _ => True) (fun _ => False) rfl rfl ?aP (fun _ hk => hk.elim) ?aF ?aO ?aB ?aS ?aL ?_; (case aP => exact rfl); (case aB => exact HB.l); (case aF => exact (fun _ _ => trivial)); (case aO => exact HO_8.r); (case aS => exact (below_size HB.l)); (case aL => have := LMc34.out; omega); intro v200 w36 ho hb hg hat; rw [← Ny199.out] at ho; have n0_ := Aside0.mk (blk_grown BK193.b hg (Kd.R_ne HO_8.out BK193.out (by decide))); have n1_ := Aside0.mk (hb); have n2_ := Aside0.mk (ho); clear BK193 HB HO_8; revert n0_ n1_ n2_; intro BK193 HB HO201; clear ho hb hg hat)); try go_wp2_with (first | ((with_reducible refine gate_builtin (b := .append) (xs := #[.tmp 81, .tmp 83]) rfl ?_); (try (refine gate_guard (by rfl) ?_; dsimp only)); at_builtin; refine Kd.R_append (Kd.int .i64) (w0 := w) w.heap.size rfl (.tmp 81) (.tmp 83) 26 3 (.int .i64 0) 8 rfl Tryd.underlying26 info3 rfl (by decide) (by omega) u8 x8_3 (rd (rd_L1 l0 a1_3) x72_3) [.int .i64 (rd (rd_L1 l0 a1_3) x72_3)] (fun _ => True) (fun _ => False) rfl rfl ?aP (fun _ hk => hk.elim) ?aF ?aO ?aB ?aS ?aL ?_; (case aP => exact rfl); (case aB => exact HB.l); (case aF => exact (fun _ _ => trivial)); (case aO => exact HO_8.r); (case aS => exact (below_size HB.l)); (case aL => have := LMc34.out; omega); intro v200 w36 ho hb hg hat; rw [← Ny199.out] at ho; have n0_ := Aside0.mk (blk_grown BK193.b hg (Kd.R_ne HO_8.out BK193.out (by decide))); have n1_ := Aside0.mk (hb); have n2_ := Aside0.mk (ho); clear BK193 HB HO_8; revert n0_ n1_ n2_; intro BK193 HB HO201; clear ho hb hg hat)))
                  go_roundg k3
                  case measure => have := HJ2.out; have := HJ20.out; have := HK3.out; omega
                  case rel => exact ⟨(y199), (wrap64 (x72_3 + 1)), (by first | rfl | (simp; done) | (simp [*]; done)), H', ⟨by have := HJ2.out; have := HJ20.out; have := HK3.out; omega⟩, ⟨HO201.r⟩, ⟨BK193.b⟩, ⟨HB.l⟩⟩
                 ·rw [if_neg c34] at H
                  exact absurd H (by simp)
               ·rw [if_neg c31] at H
                exact absurd H (by simp)
              ·rw [if_neg c30] at H
               exact absurd H (by simp)
             ·rw [if_neg c29] at H
              have c29b0 : decide (x72_3 < ((rd_L1 l0 a1_3).length : Int)) = false := decide_eq_false c29
              clear c29
              have H' := Aside0.mk H
              clear H
              go_wp2
              repeat (go_quiet (fail); try go_wp2)
              go_loopg [8, 88] k3 (fun kq v8 v88 w' => ∃ (x8_4 : List Int) (x88_4 : Int), v88 = .int .i64 x88_4 ∧ Aside0 (proof_resolve.l1 kq x8_4 (rd_L1 l0 a1_4) ((rd_L1 l0 a1_4).length : Int) x88_4 a1_0 a1_1 l1_2 a1_3 a1_4 a1_5 = some (r1, r2)) ∧ Aside0 (kq ≤ k3) ∧ Aside0 (Kd.R (Kd.int .i64) 3 w' w.heap.size (fun _ => True) v8 x8_4) ∧ Aside0 (w'.heap[gb193]? = some (.cells #[.int .i64 a1_0, .int .i64 a1_1, (.slice A1_2 l1_2.length c1_2), .int .i64 a1_3, .int .i64 a1_4, .int .i64 a1_5] 28 (0, 0))) ∧ Aside0 (Below w.heap.size w w'))
              case atStart => exact ⟨(x8_3), (0), (by first | rfl | (simp; done) | (simp [*]; done)), H', ⟨Nat.le_refl _⟩, ⟨HO_8.r⟩, ⟨BK193.b⟩, ⟨HB.l⟩⟩
              case round => as_aux_lemma =>
               clear H'
               try clear c1
               try clear p1
               try clear q1
               try clear hx1
               try clear c2
               try clear p2
               try clear c3
               try clear c5
               try clear c5b0
               try clear p6
               try clear c7
               try clear c7b0
               try clear c9
               try clear c9b0
               try clear c11
               try clear c11b0
               try clear c13
               try clear c13b0
               try clear c16
               try clear c17
               try clear c17b0
               try clear c18
               try clear c18b0
               try clear c19
               try clear c19b0
               try clear p19
               try clear q19
               try clear hx19
               try clear c20
               try clear c20b0
               try clear c21
               try clear c24
               try clear c28
               try clear c29
               try clear c29b0
               try clear c30
               try clear c30b0
               try clear c31
               try clear c31b0
               try clear c32
               try clear c32b0
               try clear c32b1
               try clear c34
               try clear hcz10_0
               try clear hcz10_1
               try clear hcz10_2
               try clear hcz10_3
               try clear hcz10_4
               try clear hcz10_5
               try clear hcz12_0
               try clear hcz12_1
               try clear hcz12_2
               try clear hcz12_3
               try clear hcz12_4
               try clear hcz12_5
               try clear hcz14_0
               try clear hcz14_1
               try clear hcz14_2
               try clear hcz14_3
               try clear hcz14_4
               try clear hcz14_5
               try clear hcz15_0
               try clear hcz15_1
               try clear hcz15_2
               try clear hcz15_3
               try clear hcz15_4
               try clear hcz15_5
               try clear hcz22_0
               try clear hcz22_1
               try clear hcz22_2
               try clear hcz22_3
               try clear hcz22_4
               try clear hcz22_5
               try clear hcz26_0
               try clear hcz26_1
               try clear hcz26_2
               try clear hcz26_3
               try clear hcz26_4
               try clear hcz26_5
               try clear hcz27_0
               try clear hcz27_1
               try clear hcz27_2
               try clear hcz27_3
               try clear hcz27_4
               try clear hcz27_5
               try clear hcz33_0
               try clear hcz33_1
               try clear hcz33_2
               try clear hcz33_3
               try clear hcz33_4
               try clear hcz33_5
               try clear hcz35_0
               try clear hcz35_1
               try clear hcz35_2
               try clear hcz35_3
               try clear hcz35_4
               try clear hcz35_5
               try clear hcz6_0
               try clear hcz6_1
               try clear hcz6_2
               try clear hcz6_3
               try clear hcz6_4
               try clear hcz6_5
               try clear hcz8_0
               try clear hcz8_1
               try clear hcz8_2
               try clear hcz8_3
               try clear hcz8_4
               try clear hcz8_5
               try clear hfz10_0
               try clear hfz10_1
               try clear hfz10_2
               try clear hfz10_3
               try clear hfz10_4
               try clear hfz10_5
               try clear hfz12_0
               try clear hfz12_1
               try clear hfz12_2
               try clear hfz12_3
               try clear hfz12_4
               try clear hfz12_5
               try clear hfz14_0
               try clear hfz14_1
               try clear hfz14_2
               try clear hfz14_3
               try clear hfz14_4
               try clear hfz14_5
               try clear hfz15_0
               try clear hfz15_1
               try clear hfz15_2
               try clear hfz15_3
               try clear hfz15_4
               try clear hfz15_5
               try clear hfz22_0
               try clear hfz22_1
               try clear hfz22_2
               try clear hfz22_3
               try clear hfz22_4
               try clear hfz22_5
               try clear hfz26_0
               try clear hfz26_1
               try clear hfz26_2
               try clear hfz26_3
               try clear hfz26_4
               try clear hfz26_5
               try clear hfz27_0
               try clear hfz27_1
               try clear hfz27_2
               try clear hfz27_3
               try clear hfz27_4
               try clear hfz27_5
               try clear hfz33_0
               try clear hfz33_1
               try clear hfz33_2
               try clear hfz33_3
               try clear hfz33_4
               try clear hfz33_5
               try clear hfz35_0
               try clear hfz35_1
               try clear hfz35_2
               try clear hfz35_3
               try clear hfz35_4
               try clear hfz35_5
               try clear hfz6_0
               try clear hfz6_1
               try clear hfz6_2
               try clear hfz6_3
               try clear hfz6_4
               try clear hfz6_5
               try clear hfz8_0
               try clear hfz8_1
               try clear hfz8_2
               try clear hfz8_3
               try clear hfz8_4
               try clear hfz8_5
               try clear hx194_0
               try clear hx195_0
               try clear hx198_0
               try clear p1
               try clear p19
               try clear p194
               try clear p195
               try clear p198
               try clear p2
               try clear p6
               try clear q1
               try clear q19
               try clear q194
               try clear q195
               try clear q198
               obtain ⟨x8_4, x88_4, rfl, HA, HK4, HO_8, BK193, HB⟩ := hrel
               cases gk with
               | zero => exact absurd HA.out (by simp [proof_resolve.l1])
               | succ k4 =>
                have H := HA.out
                clear HA
                simp only [proof_resolve.l1] at H
                by_cases c37 : x88_4 < ((rd_L1 l0 a1_4).length : Int)
                ·rw [if_pos c37] at H
                 have c37b0 : decide (x88_4 < ((rd_L1 l0 a1_4).length : Int)) = true := decide_eq_true c37
                 clear c37
                 by_cases c38 : 0 ≤ x88_4
                 ·rw [if_pos c38] at H
                  have c38b0 : decide (0 ≤ x88_4) = true := decide_eq_true c38
                  clear c38
                  by_cases c39 : x88_4 < ((rd_L1 l0 a1_4).length : Int)
                  ·rw [if_pos c39] at H
                   have c39b0 : decide (x88_4 < ((rd_L1 l0 a1_4).length : Int)) = true := decide_eq_true c39
                   clear c39
                   by_cases c40 : (rd (rd_L1 l0 a1_4) x88_4) = (wrap64 ((wrap64 (-a1_5)) - 1))
                   ·rw [if_pos c40] at H
                    have c40b0 : ((rd (rd_L1 l0 a1_4) x88_4) == (wrap64 ((wrap64 (-a1_5)) - 1))) = true := beq_iff_eq.mpr c40
                    have c40b1 : ((rd (rd_L1 l0 a1_4) x88_4) != (wrap64 ((wrap64 (-a1_5)) - 1))) = false := bne_eq_false_iff_eq.mpr c40
                    clear c40
                    have H' := Aside0.mk H
                    clear H
                    have p202 : 0 ≤ (x88_4 : Int) := of_decide_eq_true (by first | (with_reducible assumption) | assumption)
                    have q202 : x88_4 < ((rd_L1 l0 a1_4).length : Int) := of_decide_eq_true (by first | (with_reducible assumption) | assumption)
                    obtain ⟨ad202, e202, hx202_0⟩ := Kd.at_int HR195_0.out x88_4 p202 q202
                    cases e202
                    replace hx202_0 := (HB.out.cell (World.block_lt_of_cell? w _ hx202_0)).trans hx202_0
                    replace p202 := eq_true p202
                    replace q202 := eq_true q202
                    have hcz41_0 := BK193.cl 0 (.int .i64 a1_0)
                    have hcz41_1 := BK193.cl 1 (.int .i64 a1_1)
                    have hcz41_2 := BK193.cl 2 (.slice A1_2 l1_2.length c1_2)
                    have hcz41_3 := BK193.cl 3 (.int .i64 a1_3)
                    have hcz41_4 := BK193.cl 4 (.int .i64 a1_4)
                    have hcz41_5 := BK193.cl 5 (.int .i64 a1_5)
                    have hfz41_0 := BK193.fz 0
                    have hfz41_1 := BK193.fz 1
                    have hfz41_2 := BK193.fz 2
                    have hfz41_3 := BK193.fz 3
                    have hfz41_4 := BK193.fz 4
                    have hfz41_5 := BK193.fz 5
                    go_wp2
                    repeat (go_quiet (fail); try go_wp2)
                    go_roundg k4
                    case measure => have := HJ2.out; have := HJ20.out; have := HK3.out; have := HK4.out; omega
                    case rel => exact ⟨(x8_4), (wrap64 (x88_4 + 1)), (by first | rfl | (simp; done) | (simp [*]; done)), H', ⟨by have := HJ2.out; have := HJ20.out; have := HK3.out; have := HK4.out; omega⟩, ⟨HO_8.r⟩, ⟨BK193.b⟩, ⟨HB.l⟩⟩
                   ·rw [if_neg c40] at H
                    have c40b0 : ((rd (rd_L1 l0 a1_4) x88_4) == (wrap64 ((wrap64 (-a1_5)) - 1))) = false := beq_eq_false_iff_ne.mpr c40
                    have c40b1 : ((rd (rd_L1 l0 a1_4) x88_4) != (wrap64 ((wrap64 (-a1_5)) - 1))) = true := bne_iff_ne.mpr c40
                    by_cases c42 : x8_4.length < 17592186044416
                    ·rw [if_pos c42] at H
                     have LMc42 := Aside0.mk c42
                     clear c42
                     obtain ⟨y203, hy203⟩ : ∃ y_ : List Int, y_ = (x8_4 ++ [rd (rd_L1 l0 a1_4) x88_4]) := ⟨_, rfl⟩
                     replace H : (proof_resolve.l1 k4 y203 (rd_L1 l0 a1_4) ((rd_L1 l0 a1_4).length : Int) (wrap64 (x88_4 + 1)) a1_0 a1_1 l1_2 a1_3 a1_4 a1_5) = some (r1, r2) := by first | (rw [hy203]; with_reducible exact H) | (have H2_ := (Option.bind_some _ _).symm.trans H; rw [hy203]; with_reducible exact H2_) | (have H2_ := (Option.bind_some _ _).symm.trans H; with_reducible exact H2_) | with_reducible exact H | (rw [hy203]; exact H) | exact H
                     have Ny203 := Aside0.mk hy203
                     clear hy203
                     have H' := Aside0.mk H
                     clear H
                     have p202 : 0 ≤ (x88_4 : Int) := of_decide_eq_true (by first | (with_reducible assumption) | assumption)
                     have q202 : x88_4 < ((rd_L1 l0 a1_4).length : Int) := of_decide_eq_true (by first | (with_reducible assumption) | assumption)
                     obtain ⟨ad202, e202, hx202_0⟩ := Kd.at_int HR195_0.out x88_4 p202 q202
                     cases e202
                     replace hx202_0 := (HB.out.cell (World.block_lt_of_cell? w _ hx202_0)).trans hx202_0
                     replace p202 := eq_true p202
                     replace q202 := eq_true q202
                     have hcz43_0 := BK193.cl 0 (.int .i64 a1_0)
                     have hcz43_1 := BK193.cl 1 (.int .i64 a1_1)
                     have hcz43_2 := BK193.cl 2 (.slice A1_2 l1_2.length c1_2)
                     have hcz43_3 := BK193.cl 3 (.int .i64 a1_3)
                     have hcz43_4 := BK193.cl 4 (.int .i64 a1_4)
                     have hcz43_5 := BK193.cl 5 (.int .i64 a1_5)
                     have hfz43_0 := BK193.fz 0
                     have hfz43_1 := BK193.fz 1
                     have hfz43_2 := BK193.fz 2
                     have hfz43_3 := BK193.fz 3
                     have hfz43_4 := BK193.fz 4
                     have hfz43_5 := BK193.fz 5
                     go_wp2_with (first | ((with_reducible refine gate_builtin (b := .append) (xs := #[.tmp 98, .tmp 100]) rfl ?_); (try (refine gate_guard (by rfl) ?_; dsimp only)); at_builtin; refine Kd.R_append (Kd.int .i64) (w0 := w) w.heap.size rfl (.tmp 98) (.tmp 100) 26 3 (.int .i64 0) 8 rfl Tryd.underlying26 info3 rfl (by decide) (by omega) u8 x8_4 (rd (rd_L1 l0 a1_4) x88_4) [.int .i64 (rd (rd_L1 l0 a1_4) x88_4)] (fun _ => True) (fun _ => False) rfl rfl ?aP (fun _ hk => hk.elim) ?aF ?aO ?aB ?aS ?aL ?_; (case aP => exact rfl); (case aB => exact HB.l); (case aF => exact (fun _ _ => trivial)); (case aO => exact HO_8.r); (case aS => exact (below_size HB.l)); (case aL => have := LMc42.out; omega); intro v204 w44 ho hb hg hat; rw [← Ny203.out] at ho; have n0_ := Aside0.mk (blk_grown BK193.b hg (Kd.R_ne HO_8.out BK193.out (by decide))); have n1_ := Aside0.mk (hb); have n2_ := Aside0.mk (ho); clear BK193 HB HO_8; revert n0_ n1_ n2_; intro BK193 HB HO205; clear ho hb hg hat))
                     repeat (go_quiet (first | ((with_reducible refine gate_builtin (b := .append) (xs := #[.tmp 98, .tmp 100]) rfl ?_); (try (refine gate_guard (by rfl) ?_; dsimp only)); at_builtin; refine Kd.R_append (Kd.int .i64) (w0 := w) w.heap.size rfl (.tmp 98) (.tmp 100) 26 3 (.int .i64 0) 8 rfl Tryd.underlying26 info3 rfl (by decide) (by omega) u8 x8_4 (rd (rd_L1 l0 a1_4) x88_4) [.int .i64 (rd (rd_L1 l0 a1_4) x88_4)] (fun _ => True) (fun _ => False) rfl rfl ?aP (fun _ hk => hk.elim) ?aF ?aO ?aB ?aS ?aL ?_; (case aP => exact rfl); (case aB => exact HB.l); (case aF => exact (fun _ _ => trivial)); (case aO => exact HO_8.r); (case aS => exact (below_size HB.l)); (case aL => have := LMc42.out; omega); intro v204 w44 ho hb hg hat; rw [← Ny203.out] at ho; have n0_ := Aside0.mk (blk_grown BK193.b hg (Kd.R_ne HO_8.out BK193.out (by decide))); have n1_ := Aside0.mk (hb); have n2_ := Aside0.mk (ho); clear BK193 HB HO_8; revert n0_ n1_ n2_; intro BK193 HB HO205; clear ho hb hg hat)); try go_wp2_with (first | ((with_reducible refine gate_builtin (b := .append) (xs := #[.tmp 98, .tmp 100]) rfl ?_); (try (refine gate_guard (by rfl) ?_; dsimp only)); at_builtin; refine Kd.R_append (Kd.int .i64) (w0 := w) w.heap.size rfl (.tmp 98) (.tmp 100) 26 3 (.int .i64 0) 8 rfl Tryd.underlying26 info3 rfl (by decide) (by omega) u8 x8_4 (rd (rd_L1 l0 a1_4) x88_4) [.int .i64 (rd (rd_L1 l0 a1_4) x88_4)] (fun _ => True) (fun _ => False) rfl rfl ?aP (fun _ hk => hk.elim) ?aF ?aO ?aB ?aS ?aL ?_; (case aP => exact rfl); (case aB => exact HB.l); (case aF => exact (fun _ _ => trivial)); (case aO => exact HO_8.r); (case aS => exact (below_size HB.l)); (case aL => have := LMc42.out; omega); intro v204 w44 ho hb hg hat; rw [← Ny203.out] at ho; have n0_ := Aside0.mk (blk_grown BK193.b hg (Kd.R_ne HO_8.out BK193.out (by decide))); have n1_ := Aside0.mk (hb); have n2_ := Aside0.mk (ho); clear BK193 HB HO_8; revert n0_ n1_ n2_; intro BK193 HB HO205; clear ho hb hg hat)))
                     go_roundg k4
                     case measure => have := HJ2.out; have := HJ20.out; have := HK3.out; have := HK4.out; omega
                     case rel => exact ⟨(y203), (wrap64 (x88_4 + 1)), (by first | rfl | (simp; done) | (simp [*]; done)), H', ⟨by have := HJ2.out; have := HJ20.out; have := HK3.out; have := HK4.out; omega⟩, ⟨HO205.r⟩, ⟨BK193.b⟩, ⟨HB.l⟩⟩
                    ·rw [if_neg c42] at H
                     exact absurd H (by simp)
                  ·rw [if_neg c39] at H
                   exact absurd H (by simp)
                 ·rw [if_neg c38] at H
                  exact absurd H (by simp)
                ·rw [if_neg c37] at H
                 have c37b0 : decide (x88_4 < ((rd_L1 l0 a1_4).length : Int)) = false := decide_eq_false c37
                 clear c37
                 replace H := Option.bind_eq_some_iff.mp H
                 obtain ⟨⟨t206, t207⟩, A450, H⟩ := H
                 replace H : (some (t206, t207)) = some (r1, r2) := H
                 have A45 := Aside0.mk A450
                 clear A450
                 simp only [Option.some.injEq, Prod.mk.injEq] at H
                 obtain ⟨rfl, rfl⟩ := H
                 obtain ⟨Ao46, co46, eo46⟩ := Kd.R_slice HO_8.out
                 subst eo46
                 go_wp2_with (first | (go_at_call 24; (with_reducible refine (formula_Normal.calls k4 _ _ x8_4 t206 t207 _ ?side1 ?side2 A45.out).mono ?_); (case side1 => repeat (first | exact (Kd.R_reads' HO_8.out).2.2 | (with_reducible refine Kd.C_alloc ?_ _) | (with_reducible refine Kd.C_drewN ?_ _) | (with_reducible refine Kd.C_drew ?_))); (case side2 => exact (Kd.R_reads' HO_8.out).2.1); rintro e w47 ⟨v208, rfl, ho0, hb⟩; have n0_ := Aside0.mk (Kd.R_elder' HO_8.r (Kd.R_base ho0) hb); have n1_ := Aside0.mk (Kd.R_lower (Kd.R_new' ho0 (Kd.R_lt HO_8.r)) (below_size HB.l)); have n2_ := Aside0.mk (blk_below BK193.b hb); have n3_ := Aside0.mk (below_step HB.l hb); clear HO_8 BK193 HB; revert n0_ n1_ n2_ n3_; intro HO_8 HO209 BK193 HB; (try clear hb); (try clear hb2); (try clear hk); (try clear hi); (try clear ho0)))
                 repeat (go_quiet (first | (go_at_call 24; (with_reducible refine (formula_Normal.calls k4 _ _ x8_4 t206 t207 _ ?side1 ?side2 A45.out).mono ?_); (case side1 => repeat (first | exact (Kd.R_reads' HO_8.out).2.2 | (with_reducible refine Kd.C_alloc ?_ _) | (with_reducible refine Kd.C_drewN ?_ _) | (with_reducible refine Kd.C_drew ?_))); (case side2 => exact (Kd.R_reads' HO_8.out).2.1); rintro e w47 ⟨v208, rfl, ho0, hb⟩; have n0_ := Aside0.mk (Kd.R_elder' HO_8.r (Kd.R_base ho0) hb); have n1_ := Aside0.mk (Kd.R_lower (Kd.R_new' ho0 (Kd.R_lt HO_8.r)) (below_size HB.l)); have n2_ := Aside0.mk (blk_below BK193.b hb); have n3_ := Aside0.mk (below_step HB.l hb); clear HO_8 BK193 HB; revert n0_ n1_ n2_ n3_; intro HO_8 HO209 BK193 HB; (try clear hb); (try clear hb2); (try clear hk); (try clear hi); (try clear ho0))); try go_wp2_with (first | (go_at_call 24; (with_reducible refine (formula_Normal.calls k4 _ _ x8_4 t206 t207 _ ?side1 ?side2 A45.out).mono ?_); (case side1 => repeat (first | exact (Kd.R_reads' HO_8.out).2.2 | (with_reducible refine Kd.C_alloc ?_ _) | (with_reducible refine Kd.C_drewN ?_ _) | (with_reducible refine Kd.C_drew ?_))); (case side2 => exact (Kd.R_reads' HO_8.out).2.1); rintro e w47 ⟨v208, rfl, ho0, hb⟩; have n0_ := Aside0.mk (Kd.R_elder' HO_8.r (Kd.R_base ho0) hb); have n1_ := Aside0.mk (Kd.R_lower (Kd.R_new' ho0 (Kd.R_lt HO_8.r)) (below_size HB.l)); have n2_ := Aside0.mk (blk_below BK193.b hb); have n3_ := Aside0.mk (below_step HB.l hb); clear HO_8 BK193 HB; revert n0_ n1_ n2_ n3_; intro HO_8 HO209 BK193 HB; (try clear hb); (try clear hb2); (try clear hk); (try clear hi); (try clear ho0))))
                 go_ret2
                 exact ⟨_, by first | rfl | (simp [errW_none, errW_some] <;> rfl) | (simp [*, errW_none, errW_some] <;> rfl), by (with_reducible repeat (first | apply Kd.R_alloc | apply Kd.R_drewN | apply Kd.R_drew)); exact Kd.R_mono HO209.out (fun _ hk => trivial), HB.l⟩
       ·rw [if_neg c20] at H
        exact absurd H (by simp)
      ·rw [if_neg c19] at H
       exact absurd H (by simp)
     ·rw [if_neg c18] at H
      exact absurd H (by simp)
    ·rw [if_neg c17] at H
     exact absurd H (by simp)

end Go.Proofs.YtppbnjmhkifdaaaDoor.X
