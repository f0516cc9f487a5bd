-- Written by this session's own program (wip/tools/xprint.py).
import Derived.Test.YtppbnjmhkifdaaaDoorX0
import Derived.Test.YtppbnjmhkifdaaaDoorSx
import Derived.Test.YtppbnjmhkifdaaaDoorX1
import Derived.Test.YtppbnjmhkifdaaaDoorX3
import Derived.Test.YtppbnjmhkifdaaaDoorX4
namespace Go.Proofs.YtppbnjmhkifdaaaDoor.X
open Go.RowKit Go.Proofs.YtppbnjmhkifdaaaDoorW.PrintWords Go.Proofs.YtppbnjmhkifdaaaDoorW.PrintLast Go.Proofs.YtppbnjmhkifdaaaDoorW.PrintMore
attribute [local go_sem] max2_int min2_int max_two min_two max_three min_three max_four min_four   -- for this text's walks alone
set_option linter.unusedVariables false
set_option linter.unusedSimpArgs false

/-! ### proof_clause: function 16 -/
def proof_clause.f (k : Nat) (a0_0 : Int) (a0_1 : Int) (l0_2 : List (S53)) (l0_3 : List (List Int)) (l1 : List (List Int)) (a2_0 : Int) (a2_1 : Int) (l2_2 : List Int) (a2_3 : Int) (a2_4 : Int) (a2_5 : Int) : Option (List Int × Bool) := if a2_0 = 1 then ((proof_input.f k a0_0 a0_1 l0_2 l0_3 a2_0 a2_1 l2_2 a2_3 a2_4 a2_5).bind fun bt212 => (some (bt212.1, bt212.2))) else (if a2_0 = 2 then ((proof_cycle.f k a0_0 a0_1 l0_2 l0_3 a2_0 a2_1 l2_2 a2_3 a2_4 a2_5).bind fun bt216 => (some (bt216.1, bt216.2))) else (if a2_0 = 3 then ((proof_resolve.f k l1 a2_0 a2_1 l2_2 a2_3 a2_4 a2_5).bind fun bt220 => (some (bt220.1, bt220.2))) else (some (([] : List Int), false))))
theorem proof_clause.mono : ∀ a0 a1 a2 a3 a4 a5 a6 a7 a8 a9 a10 k, LeO (proof_clause.f k a0 a1 a2 a3 a4 a5 a6 a7 a8 a9 a10) (proof_clause.f (k + 1) a0 a1 a2 a3 a4 a5 a6 a7 a8 a9 a10) := by
 intro a0 a1 a2 a3 a4 a5 a6 a7 a8 a9 a10 k
 unfold proof_clause.f
 repeat' first
   | (with_reducible exact proof_cycle.mono _ _ _ _ _ _ _ _ _ _ _)
   | (with_reducible exact proof_input.mono _ _ _ _ _ _ _ _ _ _ _)
   | (with_reducible exact proof_resolve.mono _ _ _ _ _ _ _ _)
   | (with_reducible exact LeO.refl _)
   | (with_reducible exact LeO.none _)
   | (with_reducible refine LeO.ite ?_ ?_)
   | (with_reducible refine LeO.bind ?_ (fun _ => ?_))
   | exact proof_cycle.mono _ _ _ _ _ _ _ _ _ _ _
   | exact proof_input.mono _ _ _ _ _ _ _ _ _ _ _
   | exact proof_resolve.mono _ _ _ _ _ _ _ _
   | exact LeO.none _
   | refine LeO.ite ?_ ?_
   | refine LeO.bind ?_ (fun _ => ?_)
set_option maxHeartbeats 8000000 in
set_option maxRecDepth 100000 in
theorem proof_clause.calls (k : Nat) (a0_0 : Int) (a0_1 : Int) (A0_2 : Option Addr) (c0_2 : Nat) (l0_2 : List (S53)) (A0_3 : Option Addr) (c0_3 : Nat) (l0_3 : List (List Int)) (A1 : Option Addr) (c1 : Nat) (l1 : List (List Int)) (a2_0 : Int) (a2_1 : Int) (A2_2 : Option Addr) (c2_2 : Nat) (l2_2 : List Int) (a2_3 : Int) (a2_4 : Int) (a2_5 : Int) (r1 : List Int) (r2 : Bool) (w : World) (hr0_2 : Kd.C k53 w A0_2 l0_2.length l0_2) (hc0_2 : l0_2.length ≤ c0_2) (hr0_3 : Kd.C (Kd.slice 3 (Kd.int .i64)) w A0_3 l0_3.length l0_3) (hc0_3 : l0_3.length ≤ c0_3) (hr1 : Kd.C (Kd.slice 3 (Kd.int .i64)) w A1 l1.length l1) (hc1 : l1.length ≤ c1) (hr2_2 : Kd.C (Kd.int .i64) w A2_2 l2_2.length l2_2) (hc2_2 : l2_2.length ≤ c2_2) (h : proof_clause.f k a0_0 a0_1 l0_2 l0_3 l1 a2_0 a2_1 l2_2 a2_3 a2_4 a2_5 = some (r1, r2)) :
  Calls Tryd.prog 16 #[.agg #[.int .i64 a0_0, .int .i64 a0_1, .slice A0_2 l0_2.length c0_2, .slice A0_3 l0_3.length c0_3], .slice A1 l1.length c1, .agg #[.int .i64 a2_0, .int .i64 a2_1, .slice A2_2 l2_2.length c2_2, .int .i64 a2_3, .int .i64 a2_4, .int .i64 a2_5]] w fun e w' => ∃ v0_ : Value, e = .returned (.tuple #[v0_, .bool r2]) ∧ Kd.R (Kd.int .i64) 3 w' w.heap.size (fun _ => True) v0_ r1 ∧ Below w.heap.size w w' := by
 have hu32 := Tryd.underlying32
 have hu28 := Tryd.underlying28
 have HR0_2 := Aside0.mk hr0_2
 have HC0_2 := Aside0.mk hc0_2
 clear hr0_2 hc0_2
 have HR0_3 := Aside0.mk hr0_3
 have HC0_3 := Aside0.mk hc0_3
 clear hr0_3 hc0_3
 have HR1 := Aside0.mk hr1
 have HC1 := Aside0.mk hc1
 clear hr1 hc1
 have HR2_2 := Aside0.mk hr2_2
 have HC2_2 := Aside0.mk hc2_2
 clear hr2_2 hc2_2
 have HB := Aside0.mk (Below.refl w.heap.size w)
 have H : (if a2_0 = 1 then ((proof_input.f k a0_0 a0_1 l0_2 l0_3 a2_0 a2_1 l2_2 a2_3 a2_4 a2_5).bind fun bt212 => (some (bt212.1, bt212.2))) else (if a2_0 = 2 then ((proof_cycle.f k a0_0 a0_1 l0_2 l0_3 a2_0 a2_1 l2_2 a2_3 a2_4 a2_5).bind fun bt216 => (some (bt216.1, bt216.2))) else (if a2_0 = 3 then ((proof_resolve.f k l1 a2_0 a2_1 l2_2 a2_3 a2_4 a2_5).bind fun bt220 => (some (bt220.1, bt220.2))) else (some (([] : List Int), false))))) = some (r1, r2) := h
 clear h
 by_cases c4 : a2_0 = 1
 ·rw [if_pos c4] at H
  have c4b0 : (a2_0 == 1) = true := beq_iff_eq.mpr c4
  have c4b1 : (a2_0 != 1) = false := bne_eq_false_iff_eq.mpr c4
  clear c4
  replace H := Option.bind_eq_some_iff.mp H
  obtain ⟨⟨t212, t215⟩, A50, H⟩ := H
  replace H : (some (t212, t215)) = some (r1, r2) := H
  have A5 := Aside0.mk A50
  clear A50
  simp only [Option.some.injEq, Prod.mk.injEq] at H
  obtain ⟨rfl, rfl⟩ := H
  go_enter Tryd.func16, Tryd.ntmps16
  go_wp2_with (first | ((with_reducible refine gate_dst (N := 3) rfl ?_); refine box_ev (N := 3) rfl (cs := #[.int .i64 a0_0, .int .i64 a0_1, .slice A0_2 l0_2.length c0_2, .slice A0_3 l0_3.length c0_3]) (t := 32) ?_; intro gb210 hg w6 hbox hb; have n0_ := Aside0.mk (below_step HB.l hb); have n1_ := Aside0.mk (hbox); have n2_ := Aside0.mk ((by rw [hg]; exact (below_size HB.l) : w.heap.size ≤ gb210)); have n3_ := Aside0.mk ((by rw [hg]; exact (below_size HB.l) : w.heap.size ≤ gb210)); clear HB; revert n0_ n1_ n2_ n3_; intro HB BK210 GW210 GE210; clear hb hbox hg) | ((with_reducible refine gate_dst (N := 5) rfl ?_); refine box_ev (N := 5) rfl (cs := #[.int .i64 a2_0, .int .i64 a2_1, .slice A2_2 l2_2.length c2_2, .int .i64 a2_3, .int .i64 a2_4, .int .i64 a2_5]) (t := 28) ?_; intro gb211 hg w7 hbox hb; have n0_ := Aside0.mk (blk_below BK210.b hb); have n1_ := Aside0.mk (below_step HB.l hb); have n2_ := Aside0.mk (hbox); have n3_ := Aside0.mk ((by rw [hg]; exact (below_size HB.l) : w.heap.size ≤ gb211)); have n4_ := Aside0.mk ((by rw [hg]; exact (below_size HB.l) : w.heap.size ≤ gb211)); have n5_ := Aside0.mk ((by rw [hg]; exact Nat.ne_of_lt (blk_lt BK210.b) : gb210 ≠ gb211)); have n6_ := Aside0.mk ((by rw [hg]; exact Nat.ne_of_gt (blk_lt BK210.b) : gb211 ≠ gb210)); clear BK210 HB; revert n0_ n1_ n2_ n3_ n4_ n5_ n6_; intro BK210 HB BK211 GW211 GE211 NB210_211 NB211_210; clear hb hbox hg; have hnb8 := NB211_210.out; have hnc8 := NB210_211.out; have hcz9_0 := BK211.cl 0 (.int .i64 a2_0); have hcz9_1 := BK211.cl 1 (.int .i64 a2_1); have hcz9_2 := BK211.cl 2 (.slice A2_2 l2_2.length c2_2); have hcz9_3 := BK211.cl 3 (.int .i64 a2_3); have hcz9_4 := BK211.cl 4 (.int .i64 a2_4); have hcz9_5 := BK211.cl 5 (.int .i64 a2_5); have hfz9_0 := BK211.fz 0; have hfz9_1 := BK211.fz 1; have hfz9_2 := BK211.fz 2; have hfz9_3 := BK211.fz 3; have hfz9_4 := BK211.fz 4; have hfz9_5 := BK211.fz 5; have hcz10_0 := BK210.cl 0 (.int .i64 a0_0); have hcz10_1 := BK210.cl 1 (.int .i64 a0_1); have hcz10_2 := BK210.cl 2 (.slice A0_2 l0_2.length c0_2); have hcz10_3 := BK210.cl 3 (.slice A0_3 l0_3.length c0_3); have hfz10_0 := BK210.fz 0; have hfz10_1 := BK210.fz 1; have hfz10_2 := BK210.fz 2; have hfz10_3 := BK210.fz 3) | ((with_reducible refine gate_callee (f := 19) rfl ?_); refine goesM_ Tryd.func19 #[.agg #[.int .i64 a0_0, .int .i64 a0_1, .slice A0_2 l0_2.length c0_2, .slice A0_3 l0_3.length c0_3], .agg #[.int .i64 a2_0, .int .i64 a2_1, .slice A2_2 l2_2.length c2_2, .int .i64 a2_3, .int .i64 a2_4, .int .i64 a2_5]] ?_; (with_reducible refine (proof_input.calls k a0_0 a0_1 _ _ l0_2 _ _ l0_3 a2_0 a2_1 _ _ l2_2 a2_3 a2_4 a2_5 t212 t215 _ ?side1 ?side2 ?side3 ?side4 ?side5 ?side6 A5.out).mono ?_); (case side1 => exact HR0_2.c HB.l); (case side2 => exact HC0_2.out); (case side3 => exact HR0_3.c HB.l); (case side4 => exact HC0_3.out); (case side5 => exact HR2_2.c HB.l); (case side6 => exact HC2_2.out); rintro e w11 ⟨v213, rfl, ho0, hb⟩; refine ⟨_, rfl, ?_⟩; have n0_ := Aside0.mk (Kd.R_lower ho0 (below_size HB.l)); have n1_ := Aside0.mk (blk_below BK210.b hb); have n2_ := Aside0.mk (blk_below BK211.b hb); have n3_ := Aside0.mk (below_step HB.l hb); clear BK210 BK211 HB; revert n0_ n1_ n2_ n3_; intro HO214 BK210 BK211 HB; (try clear hb); (try clear hb2); (try clear hk); (try clear hi); (try clear ho0)))
  go_ret2
  exact ⟨_, by first | rfl | (simp [errW_none, errW_some] <;> rfl) | (simp [*, errW_none, errW_some] <;> rfl), HO214.r, HB.l⟩
 ·rw [if_neg c4] at H
  have c4b0 : (a2_0 == 1) = false := beq_eq_false_iff_ne.mpr c4
  have c4b1 : (a2_0 != 1) = true := bne_iff_ne.mpr c4
  by_cases c12 : a2_0 = 2
  ·rw [if_pos c12] at H
   have c12b0 : (a2_0 == 2) = true := beq_iff_eq.mpr c12
   have c12b1 : (a2_0 != 2) = false := bne_eq_false_iff_eq.mpr c12
   clear c12
   replace H := Option.bind_eq_some_iff.mp H
   obtain ⟨⟨t216, t219⟩, A130, H⟩ := H
   replace H : (some (t216, t219)) = some (r1, r2) := H
   have A13 := Aside0.mk A130
   clear A130
   simp only [Option.some.injEq, Prod.mk.injEq] at H
   obtain ⟨rfl, rfl⟩ := H
   go_enter Tryd.func16, Tryd.ntmps16
   go_wp2_with (first | ((with_reducible refine gate_dst (N := 3) rfl ?_); refine box_ev (N := 3) rfl (cs := #[.int .i64 a0_0, .int .i64 a0_1, .slice A0_2 l0_2.length c0_2, .slice A0_3 l0_3.length c0_3]) (t := 32) ?_; intro gb210 hg w14 hbox hb; have n0_ := Aside0.mk (below_step HB.l hb); have n1_ := Aside0.mk (hbox); have n2_ := Aside0.mk ((by rw [hg]; exact (below_size HB.l) : w.heap.size ≤ gb210)); have n3_ := Aside0.mk ((by rw [hg]; exact (below_size HB.l) : w.heap.size ≤ gb210)); clear HB; revert n0_ n1_ n2_ n3_; intro HB BK210 GW210 GE210; clear hb hbox hg) | ((with_reducible refine gate_dst (N := 5) rfl ?_); refine box_ev (N := 5) rfl (cs := #[.int .i64 a2_0, .int .i64 a2_1, .slice A2_2 l2_2.length c2_2, .int .i64 a2_3, .int .i64 a2_4, .int .i64 a2_5]) (t := 28) ?_; intro gb211 hg w15 hbox hb; have n0_ := Aside0.mk (blk_below BK210.b hb); have n1_ := Aside0.mk (below_step HB.l hb); have n2_ := Aside0.mk (hbox); have n3_ := Aside0.mk ((by rw [hg]; exact (below_size HB.l) : w.heap.size ≤ gb211)); have n4_ := Aside0.mk ((by rw [hg]; exact (below_size HB.l) : w.heap.size ≤ gb211)); have n5_ := Aside0.mk ((by rw [hg]; exact Nat.ne_of_lt (blk_lt BK210.b) : gb210 ≠ gb211)); have n6_ := Aside0.mk ((by rw [hg]; exact Nat.ne_of_gt (blk_lt BK210.b) : gb211 ≠ gb210)); clear BK210 HB; revert n0_ n1_ n2_ n3_ n4_ n5_ n6_; intro BK210 HB BK211 GW211 GE211 NB210_211 NB211_210; clear hb hbox hg; have hnb16 := NB211_210.out; have hnc16 := NB210_211.out; have hcz17_0 := BK211.cl 0 (.int .i64 a2_0); have hcz17_1 := BK211.cl 1 (.int .i64 a2_1); have hcz17_2 := BK211.cl 2 (.slice A2_2 l2_2.length c2_2); have hcz17_3 := BK211.cl 3 (.int .i64 a2_3); have hcz17_4 := BK211.cl 4 (.int .i64 a2_4); have hcz17_5 := BK211.cl 5 (.int .i64 a2_5); have hfz17_0 := BK211.fz 0; have hfz17_1 := BK211.fz 1; have hfz17_2 := BK211.fz 2; have hfz17_3 := BK211.fz 3; have hfz17_4 := BK211.fz 4; have hfz17_5 := BK211.fz 5; have hcz18_0 := BK210.cl 0 (.int .i64 a0_0); have hcz18_1 := BK210.cl 1 (.int .i64 a0_1); have hcz18_2 := BK210.cl 2 (.slice A0_2 l0_2.length c0_2); have hcz18_3 := BK210.cl 3 (.slice A0_3 l0_3.length c0_3); have hfz18_0 := BK210.fz 0; have hfz18_1 := BK210.fz 1; have hfz18_2 := BK210.fz 2; have hfz18_3 := BK210.fz 3) | ((with_reducible refine gate_callee (f := 20) rfl ?_); refine goesM_ Tryd.func20 #[.agg #[.int .i64 a0_0, .int .i64 a0_1, .slice A0_2 l0_2.length c0_2, .slice A0_3 l0_3.length c0_3], .agg #[.int .i64 a2_0, .int .i64 a2_1, .slice A2_2 l2_2.length c2_2, .int .i64 a2_3, .int .i64 a2_4, .int .i64 a2_5]] ?_; (with_reducible refine (proof_cycle.calls k a0_0 a0_1 _ _ l0_2 _ _ l0_3 a2_0 a2_1 _ _ l2_2 a2_3 a2_4 a2_5 t216 t219 _ ?side1 ?side2 ?side3 ?side4 ?side5 ?side6 A13.out).mono ?_); (case side1 => exact HR0_2.c HB.l); (case side2 => exact HC0_2.out); (case side3 => exact HR0_3.c HB.l); (case side4 => exact HC0_3.out); (case side5 => exact HR2_2.c HB.l); (case side6 => exact HC2_2.out); rintro e w19 ⟨v217, rfl, ho0, hb⟩; refine ⟨_, rfl, ?_⟩; have n0_ := Aside0.mk (Kd.R_lower ho0 (below_size HB.l)); have n1_ := Aside0.mk (blk_below BK210.b hb); have n2_ := Aside0.mk (blk_below BK211.b hb); have n3_ := Aside0.mk (below_step HB.l hb); clear BK210 BK211 HB; revert n0_ n1_ n2_ n3_; intro HO218 BK210 BK211 HB; (try clear hb); (try clear hb2); (try clear hk); (try clear hi); (try clear ho0)))
   go_ret2
   exact ⟨_, by first | rfl | (simp [errW_none, errW_some] <;> rfl) | (simp [*, errW_none, errW_some] <;> rfl), HO218.r, HB.l⟩
  ·rw [if_neg c12] at H
   have c12b0 : (a2_0 == 2) = false := beq_eq_false_iff_ne.mpr c12
   have c12b1 : (a2_0 != 2) = true := bne_iff_ne.mpr c12
   by_cases c20 : a2_0 = 3
   ·rw [if_pos c20] at H
    have c20b0 : (a2_0 == 3) = true := beq_iff_eq.mpr c20
    have c20b1 : (a2_0 != 3) = false := bne_eq_false_iff_eq.mpr c20
    clear c20
    replace H := Option.bind_eq_some_iff.mp H
    obtain ⟨⟨t220, t223⟩, A210, H⟩ := H
    replace H : (some (t220, t223)) = some (r1, r2) := H
    have A21 := Aside0.mk A210
    clear A210
    simp only [Option.some.injEq, Prod.mk.injEq] at H
    obtain ⟨rfl, rfl⟩ := H
    go_enter Tryd.func16, Tryd.ntmps16
    go_wp2_with (first | ((with_reducible refine gate_dst (N := 3) rfl ?_); refine box_ev (N := 3) rfl (cs := #[.int .i64 a0_0, .int .i64 a0_1, .slice A0_2 l0_2.length c0_2, .slice A0_3 l0_3.length c0_3]) (t := 32) ?_; intro gb210 hg w22 hbox hb; have n0_ := Aside0.mk (below_step HB.l hb); have n1_ := Aside0.mk (hbox); have n2_ := Aside0.mk ((by rw [hg]; exact (below_size HB.l) : w.heap.size ≤ gb210)); have n3_ := Aside0.mk ((by rw [hg]; exact (below_size HB.l) : w.heap.size ≤ gb210)); clear HB; revert n0_ n1_ n2_ n3_; intro HB BK210 GW210 GE210; clear hb hbox hg) | ((with_reducible refine gate_dst (N := 5) rfl ?_); refine box_ev (N := 5) rfl (cs := #[.int .i64 a2_0, .int .i64 a2_1, .slice A2_2 l2_2.length c2_2, .int .i64 a2_3, .int .i64 a2_4, .int .i64 a2_5]) (t := 28) ?_; intro gb211 hg w23 hbox hb; have n0_ := Aside0.mk (blk_below BK210.b hb); have n1_ := Aside0.mk (below_step HB.l hb); have n2_ := Aside0.mk (hbox); have n3_ := Aside0.mk ((by rw [hg]; exact (below_size HB.l) : w.heap.size ≤ gb211)); have n4_ := Aside0.mk ((by rw [hg]; exact (below_size HB.l) : w.heap.size ≤ gb211)); have n5_ := Aside0.mk ((by rw [hg]; exact Nat.ne_of_lt (blk_lt BK210.b) : gb210 ≠ gb211)); have n6_ := Aside0.mk ((by rw [hg]; exact Nat.ne_of_gt (blk_lt BK210.b) : gb211 ≠ gb210)); clear BK210 HB; revert n0_ n1_ n2_ n3_ n4_ n5_ n6_; intro BK210 HB BK211 GW211 GE211 NB210_211 NB211_210; clear hb hbox hg; have hnb24 := NB211_210.out; have hnc24 := NB210_211.out; have hcz25_0 := BK211.cl 0 (.int .i64 a2_0); have hcz25_1 := BK211.cl 1 (.int .i64 a2_1); have hcz25_2 := BK211.cl 2 (.slice A2_2 l2_2.length c2_2); have hcz25_3 := BK211.cl 3 (.int .i64 a2_3); have hcz25_4 := BK211.cl 4 (.int .i64 a2_4); have hcz25_5 := BK211.cl 5 (.int .i64 a2_5); have hfz25_0 := BK211.fz 0; have hfz25_1 := BK211.fz 1; have hfz25_2 := BK211.fz 2; have hfz25_3 := BK211.fz 3; have hfz25_4 := BK211.fz 4; have hfz25_5 := BK211.fz 5) | ((with_reducible refine gate_callee (f := 21) rfl ?_); refine goesM_ Tryd.func21 #[.slice A1 l1.length c1, .agg #[.int .i64 a2_0, .int .i64 a2_1, .slice A2_2 l2_2.length c2_2, .int .i64 a2_3, .int .i64 a2_4, .int .i64 a2_5]] ?_; (with_reducible refine (proof_resolve.calls k _ _ l1 a2_0 a2_1 _ _ l2_2 a2_3 a2_4 a2_5 t220 t223 _ ?side1 ?side2 ?side3 ?side4 A21.out).mono ?_); (case side1 => exact HR1.c HB.l); (case side2 => exact HC1.out); (case side3 => exact HR2_2.c HB.l); (case side4 => exact HC2_2.out); rintro e w26 ⟨v221, rfl, ho0, hb⟩; refine ⟨_, rfl, ?_⟩; have n0_ := Aside0.mk (Kd.R_lower ho0 (below_size HB.l)); have n1_ := Aside0.mk (blk_below BK210.b hb); have n2_ := Aside0.mk (blk_below BK211.b hb); have n3_ := Aside0.mk (below_step HB.l hb); clear BK210 BK211 HB; revert n0_ n1_ n2_ n3_; intro HO222 BK210 BK211 HB; (try clear hb); (try clear hb2); (try clear hk); (try clear hi); (try clear ho0)))
    go_ret2
    exact ⟨_, by first | rfl | (simp [errW_none, errW_some] <;> rfl) | (simp [*, errW_none, errW_some] <;> rfl), HO222.r, HB.l⟩
   ·rw [if_neg c20] at H
    have c20b0 : (a2_0 == 3) = false := beq_eq_false_iff_ne.mpr c20
    have c20b1 : (a2_0 != 3) = true := bne_iff_ne.mpr c20
    simp only [Option.some.injEq, Prod.mk.injEq] at H
    obtain ⟨rfl, rfl⟩ := H
    go_enter Tryd.func16, Tryd.ntmps16
    go_wp2_with (first | ((with_reducible refine gate_dst (N := 3) rfl ?_); refine box_ev (N := 3) rfl (cs := #[.int .i64 a0_0, .int .i64 a0_1, .slice A0_2 l0_2.length c0_2, .slice A0_3 l0_3.length c0_3]) (t := 32) ?_; intro gb210 hg w27 hbox hb; have n0_ := Aside0.mk (below_step HB.l hb); have n1_ := Aside0.mk (hbox); have n2_ := Aside0.mk ((by rw [hg]; exact (below_size HB.l) : w.heap.size ≤ gb210)); have n3_ := Aside0.mk ((by rw [hg]; exact (below_size HB.l) : w.heap.size ≤ gb210)); clear HB; revert n0_ n1_ n2_ n3_; intro HB BK210 GW210 GE210; clear hb hbox hg) | ((with_reducible refine gate_dst (N := 5) rfl ?_); refine box_ev (N := 5) rfl (cs := #[.int .i64 a2_0, .int .i64 a2_1, .slice A2_2 l2_2.length c2_2, .int .i64 a2_3, .int .i64 a2_4, .int .i64 a2_5]) (t := 28) ?_; intro gb211 hg w28 hbox hb; have n0_ := Aside0.mk (blk_below BK210.b hb); have n1_ := Aside0.mk (below_step HB.l hb); have n2_ := Aside0.mk (hbox); have n3_ := Aside0.mk ((by rw [hg]; exact (below_size HB.l) : w.heap.size ≤ gb211)); have n4_ := Aside0.mk ((by rw [hg]; exact (below_size HB.l) : w.heap.size ≤ gb211)); have n5_ := Aside0.mk ((by rw [hg]; exact Nat.ne_of_lt (blk_lt BK210.b) : gb210 ≠ gb211)); have n6_ := Aside0.mk ((by rw [hg]; exact Nat.ne_of_gt (blk_lt BK210.b) : gb211 ≠ gb210)); clear BK210 HB; revert n0_ n1_ n2_ n3_ n4_ n5_ n6_; intro BK210 HB BK211 GW211 GE211 NB210_211 NB211_210; clear hb hbox hg; have hnb29 := NB211_210.out; have hnc29 := NB210_211.out; have hcz30_0 := BK211.cl 0 (.int .i64 a2_0); have hcz30_1 := BK211.cl 1 (.int .i64 a2_1); have hcz30_2 := BK211.cl 2 (.slice A2_2 l2_2.length c2_2); have hcz30_3 := BK211.cl 3 (.int .i64 a2_3); have hcz30_4 := BK211.cl 4 (.int .i64 a2_4); have hcz30_5 := BK211.cl 5 (.int .i64 a2_5); have hfz30_0 := BK211.fz 0; have hfz30_1 := BK211.fz 1; have hfz30_2 := BK211.fz 2; have hfz30_3 := BK211.fz 3; have hfz30_4 := BK211.fz 4; have hfz30_5 := BK211.fz 5))
    go_ret2
    exact ⟨_, by first | rfl | (simp [errW_none, errW_some] <;> rfl) | (simp [*, errW_none, errW_some] <;> rfl), by first | exact Kd.R_nil _ _ _ _ _ | exact Kd.N_nil _ _ _ _ _ | exact Kd.V_nil _ _ _ _ _ | exact Kd.Q_nil _ _ _ _ _ | exact Kd.S_nil _ _ _ _ _, HB.l⟩

/-! ### proof_Clauses: function 9 -/
def proof_Clauses.l0 : Nat → List (List Int) → List (S28) → Int → Int → Int → Int → List (S53) → List (List Int) → Option ((List (List Int)) × Int × Int)
 | 0, _, _, _, _, _, _, _, _ => none
 | k + 1, x7, x12, x13, x14, x225000, x225001, x225002, x225003 => if x14 < x13 then (if 0 ≤ x14 then (if x14 < (x12.length : Int) then ((proof_clause.f k x225000 x225001 x225002 x225003 x7 ((rd_T28 x12 x14).f0) ((rd_T28 x12 x14).f1) ((rd_T28 x12 x14).f2) ((rd_T28 x12 x14).f3) ((rd_T28 x12 x14).f4) ((rd_T28 x12 x14).f5)).bind fun bt227 => (if bt227.2 = true then (if x7.length < 5864062014805 then (proof_Clauses.l0 k (x7 ++ [bt227.1]) x12 x13 (wrap64 (x14 + 1)) x225000 x225001 x225002 x225003) else (none)) else (some (([] : List (List Int)), x14, 15)))) else (none)) else (none)) else (some (x7, 0, 0))
def proof_Clauses.f (k : Nat) (a0_0 : Int) (a0_1 : Int) (l0_2 : List (S53)) (l0_3 : List (List Int)) (l1 : List (S28)) : Option ((List (List Int)) × Int × Int) := proof_Clauses.l0 k ([] : List (List Int)) l1 (l1.length : Int) 0 a0_0 a0_1 l0_2 l0_3
theorem proof_Clauses.mono_l : ∀ k, (∀ y0 y1 y2 y3 y4 y5 y6 y7, LeO (proof_Clauses.l0 k y0 y1 y2 y3 y4 y5 y6 y7) (proof_Clauses.l0 (k + 1) y0 y1 y2 y3 y4 y5 y6 y7))
 | 0 => fun _ _ _ _ _ _ _ _ r h => by simp [proof_Clauses.l0] at h
 | k + 1 => by
  have ih0 := proof_Clauses.mono_l k
  ·intro y0 y1 y2 y3 y4 y5 y6 y7
   unfold proof_Clauses.l0
   repeat' first
   | (with_reducible exact ih0 _ _ _ _ _ _ _ _)
   | (with_reducible exact proof_clause.mono _ _ _ _ _ _ _ _ _ _ _ _)
   | (with_reducible exact LeO.refl _)
   | (with_reducible exact LeO.none _)
   | (with_reducible refine LeO.ite ?_ ?_)
   | (with_reducible refine LeO.bind ?_ (fun _ => ?_))
   | exact ih0 _ _ _ _ _ _ _ _
   | exact proof_clause.mono _ _ _ _ _ _ _ _ _ _ _ _
   | exact LeO.none _
   | refine LeO.ite ?_ ?_
   | refine LeO.bind ?_ (fun _ => ?_)
theorem proof_Clauses.mono : ∀ a0 a1 a2 a3 a4 k, LeO (proof_Clauses.f k a0 a1 a2 a3 a4) (proof_Clauses.f (k + 1) a0 a1 a2 a3 a4) := by
 intro a0 a1 a2 a3 a4 k
 have ih0 := proof_Clauses.mono_l k
 unfold proof_Clauses.f
 repeat' first
   | (with_reducible exact ih0 _ _ _ _ _ _ _ _)
   | (with_reducible exact proof_clause.mono _ _ _ _ _ _ _ _ _ _ _ _)
   | (with_reducible exact LeO.refl _)
   | (with_reducible exact LeO.none _)
   | (with_reducible refine LeO.ite ?_ ?_)
   | (with_reducible refine LeO.bind ?_ (fun _ => ?_))
   | exact ih0 _ _ _ _ _ _ _ _
   | exact proof_clause.mono _ _ _ _ _ _ _ _ _ _ _ _
   | exact LeO.none _
   | refine LeO.ite ?_ ?_
   | refine LeO.bind ?_ (fun _ => ?_)
set_option maxHeartbeats 8000000 in
set_option maxRecDepth 100000 in
theorem proof_Clauses.calls (k : Nat) (a0_0 : Int) (a0_1 : Int) (A0_2 : Option Addr) (c0_2 : Nat) (l0_2 : List (S53)) (A0_3 : Option Addr) (c0_3 : Nat) (l0_3 : List (List Int)) (A1 : Option Addr) (c1 : Nat) (l1 : List (S28)) (r1 : List (List Int)) (r2 : Int) (r3 : Int) (w : World) (hr0_2 : Kd.C k53 w A0_2 l0_2.length l0_2) (hc0_2 : l0_2.length ≤ c0_2) (hr0_3 : Kd.C (Kd.slice 3 (Kd.int .i64)) w A0_3 l0_3.length l0_3) (hc0_3 : l0_3.length ≤ c0_3) (hr1 : Kd.C k28 w A1 l1.length l1) (hc1 : l1.length ≤ c1) (h : proof_Clauses.f k a0_0 a0_1 l0_2 l0_3 l1 = some (r1, r2, r3)) :
  Calls Tryd.prog 9 #[.agg #[.int .i64 a0_0, .int .i64 a0_1, .slice A0_2 l0_2.length c0_2, .slice A0_3 l0_3.length c0_3], .slice A1 l1.length c1] w fun e w' => ∃ v0_ : Value, e = .returned (.tuple #[v0_, .int .i64 r2, .int .i64 r3]) ∧ Kd.S (Kd.slice 3 (Kd.int .i64)) 26 w' w.heap.size (fun _ => True) v0_ r1 ∧ Below w.heap.size w w' := by
 have hu32 := Tryd.underlying32
 have hu28 := Tryd.underlying28
 have HR0_2 := Aside0.mk hr0_2
 have HC0_2 := Aside0.mk hc0_2
 clear hr0_2 hc0_2
 have HR0_3 := Aside0.mk hr0_3
 have HC0_3 := Aside0.mk hc0_3
 clear hr0_3 hc0_3
 have HR1 := Aside0.mk hr1
 have HC1 := Aside0.mk hc1
 clear hr1 hc1
 have HB := Aside0.mk (Below.refl w.heap.size w)
 have H : (proof_Clauses.l0 k ([] : List (List Int)) l1 (l1.length : Int) 0 a0_0 a0_1 l0_2 l0_3) = some (r1, r2, r3) := h
 clear h
 have H' := Aside0.mk H
 clear H
 go_enter Tryd.func9, Tryd.ntmps9
 go_wp2_with (first | ((with_reducible refine gate_dst (N := 2) rfl ?_); refine box_ev (N := 2) rfl (cs := #[.int .i64 a0_0, .int .i64 a0_1, .slice A0_2 l0_2.length c0_2, .slice A0_3 l0_3.length c0_3]) (t := 32) ?_; intro gb224 hg w3 hbox hb; have n0_ := Aside0.mk (below_step HB.l hb); have n1_ := Aside0.mk (hbox); have n2_ := Aside0.mk ((by rw [hg]; exact (below_size HB.l) : w.heap.size ≤ gb224)); have n3_ := Aside0.mk ((by rw [hg]; exact (below_size HB.l) : w.heap.size ≤ gb224)); clear HB; revert n0_ n1_ n2_ n3_; intro HB BK224 GW224 GE224; clear hb hbox hg))
 go_loopg [7, 14] k (fun kq v7 v14 w' => ∃ (x7_1 : List (List Int)) (x14_1 : Int), v14 = .int .i64 x14_1 ∧ Aside0 (proof_Clauses.l0 kq x7_1 l1 (l1.length : Int) x14_1 a0_0 a0_1 l0_2 l0_3 = some (r1, r2, r3)) ∧ Aside0 (kq ≤ k) ∧ Aside0 (Kd.S (Kd.slice 3 (Kd.int .i64)) 26 w' w.heap.size (fun _ => True) v7 x7_1) ∧ Aside0 (w'.heap[gb224]? = some (.cells #[.int .i64 a0_0, .int .i64 a0_1, (.slice A0_2 l0_2.length c0_2), (.slice A0_3 l0_3.length c0_3)] 32 (0, 0))) ∧ Aside0 (Below w.heap.size w w'))
 case atStart => exact ⟨(([] : List (List Int))), (0), (by first | rfl | (simp; done) | (simp [*]; done)), H', ⟨Nat.le_refl _⟩, ⟨by first | exact Kd.S_nil _ _ _ _ _ | exact Kd.N_nil _ _ _ _ _ | exact Kd.V_nil _ _ _ _ _ | exact Kd.Q_nil _ _ _ _ _ | exact Kd.R_nil _ _ _ _ _⟩, ⟨BK224.b⟩, ⟨HB.l⟩⟩
 case round => as_aux_lemma =>
  clear H'
  try clear c1
  try clear p2
  obtain ⟨x7_1, x14_1, rfl, HA, HK1, HO_7, BK224, HB⟩ := hrel
  cases gk with
  | zero => exact absurd HA.out (by simp [proof_Clauses.l0])
  | succ k1 =>
   have H := HA.out
   clear HA
   simp only [proof_Clauses.l0] at H
   by_cases c4 : x14_1 < (l1.length : Int)
   ·rw [if_pos c4] at H
    have c4b0 : decide (x14_1 < (l1.length : Int)) = true := decide_eq_true c4
    clear c4
    by_cases c5 : 0 ≤ x14_1
    ·rw [if_pos c5] at H
     have c5b0 : decide (0 ≤ x14_1) = true := decide_eq_true c5
     clear c5
     by_cases c6 : x14_1 < (l1.length : Int)
     ·rw [if_pos c6] at H
      have c6b0 : decide (x14_1 < (l1.length : Int)) = true := decide_eq_true c6
      clear c6
      replace H := Option.bind_eq_some_iff.mp H
      obtain ⟨⟨t227, t230⟩, A70, H⟩ := H
      replace H : (if t230 = true then (if x7_1.length < 5864062014805 then (proof_Clauses.l0 k1 (x7_1 ++ [t227]) l1 (l1.length : Int) (wrap64 (x14_1 + 1)) a0_0 a0_1 l0_2 l0_3) else (none)) else (some (([] : List (List Int)), x14_1, 15))) = some (r1, r2, r3) := H
      have A7 := Aside0.mk A70
      clear A70
      by_cases c8 : t230 = true
      ·subst c8
       have H1 : (if x7_1.length < 5864062014805 then (proof_Clauses.l0 k1 (x7_1 ++ [t227]) l1 (l1.length : Int) (wrap64 (x14_1 + 1)) a0_0 a0_1 l0_2 l0_3) else (none)) = some (r1, r2, r3) := by rw [if_pos rfl] at H; exact H
       clear H
       have H := H1
       clear H1
       by_cases c9 : x7_1.length < 5864062014805
       ·rw [if_pos c9] at H
        have LMc9 := Aside0.mk c9
        clear c9
        obtain ⟨y231, hy231⟩ : ∃ y_ : List (List Int), y_ = (x7_1 ++ [t227]) := ⟨_, rfl⟩
        replace H : (proof_Clauses.l0 k1 y231 l1 (l1.length : Int) (wrap64 (x14_1 + 1)) a0_0 a0_1 l0_2 l0_3) = some (r1, r2, r3) := by first | (rw [hy231]; with_reducible exact H) | (have H2_ := (Option.bind_some _ _).symm.trans H; rw [hy231]; with_reducible exact H2_) | (have H2_ := (Option.bind_some _ _).symm.trans H; with_reducible exact H2_) | with_reducible exact H | (rw [hy231]; exact H) | exact H
        have Ny231 := Aside0.mk hy231
        clear hy231
        have H' := Aside0.mk H
        clear H
        have p225 : 0 ≤ (x14_1 : Int) := of_decide_eq_true (by first | (with_reducible assumption) | assumption)
        have q225 : x14_1 < (l1.length : Int) := of_decide_eq_true (by first | (with_reducible assumption) | assumption)
        obtain ⟨ad225, A225_2, c225_2, e225, hx225_0, hx225_1, hx225_2, hx225_3, hx225_4, hx225_5, hl225_2, hi225_2⟩ := at_T28 HR1.out x14_1 p225 q225
        cases e225
        replace hx225_0 := (HB.out.cell (World.block_lt_of_cell? w _ hx225_0)).trans hx225_0
        replace hx225_1 := (HB.out.cell (World.block_lt_of_cell? w _ hx225_1)).trans hx225_1
        replace hx225_2 := (HB.out.cell (World.block_lt_of_cell? w _ hx225_2)).trans hx225_2
        replace hx225_3 := (HB.out.cell (World.block_lt_of_cell? w _ hx225_3)).trans hx225_3
        replace hx225_4 := (HB.out.cell (World.block_lt_of_cell? w _ hx225_4)).trans hx225_4
        replace hx225_5 := (HB.out.cell (World.block_lt_of_cell? w _ hx225_5)).trans hx225_5
        have HR225_2 := Aside0.mk hi225_2
        have HC225_2 := Aside0.mk hl225_2
        clear hi225_2 hl225_2
        replace p225 := eq_true p225
        replace q225 := eq_true q225
        go_wp2_with (first | ((with_reducible refine gate_dst (N := 9) rfl ?_); refine box_ev (N := 9) rfl (cs := #[.int .i64 0, .int .i64 0, .slice none 0 0, .int .i64 0, .int .i64 0, .int .i64 0]) (t := 28) ?_; intro gb226 hg w10z hboxz hbz; have HGz := Aside0.mk (And.intro hg (And.intro hboxz hbz)); clear hg hboxz hbz) | ((with_reducible refine gate_store (t := 28) (p := 9) (v := _) rfl ?_); have hg := HGz.out.1; refine store_box rfl rfl rfl hg HGz.out.2.1 HGz.out.2.2 rfl (cs := #[.int .i64 ((rd_T28 l1 x14_1).f0), .int .i64 ((rd_T28 l1 x14_1).f1), .slice A225_2 ((rd_T28 l1 x14_1).f2).length c225_2, .int .i64 ((rd_T28 l1 x14_1).f3), .int .i64 ((rd_T28 l1 x14_1).f4), .int .i64 ((rd_T28 l1 x14_1).f5)]) ?hx (by kernel_rfl) rfl rfl ?_; (case hx => first | rfl | (go_simp; rfl)); intro w10 hbox hb; clear HGz; have n0_ := Aside0.mk (Kd.S_below HO_7.s hb); have n1_ := Aside0.mk (blk_below BK224.b hb); have n2_ := Aside0.mk (below_step HB.l hb); have n3_ := Aside0.mk (hbox); have n4_ := Aside0.mk ((by rw [hg]; exact (below_size HB.l) : w.heap.size ≤ gb226)); have n5_ := Aside0.mk ((by rw [hg]; exact (below_size HB.l) : w.heap.size ≤ gb226)); have n6_ := Aside0.mk ((by rw [hg]; exact Nat.ne_of_lt (blk_lt BK224.b) : gb224 ≠ gb226)); have n7_ := Aside0.mk ((by rw [hg]; exact Nat.ne_of_gt (blk_lt BK224.b) : gb226 ≠ gb224)); clear HO_7 BK224 HB; revert n0_ n1_ n2_ n3_ n4_ n5_ n6_ n7_; intro HO_7 BK224 HB BK226 GW226 GE226 NB224_226 NB226_224; clear hb hbox hg; have hnb11 := NB226_224.out; have hnc11 := NB224_226.out; have hcz12_0 := BK226.cl 0 (.int .i64 ((rd_T28 l1 x14_1).f0)); have hcz12_1 := BK226.cl 1 (.int .i64 ((rd_T28 l1 x14_1).f1)); have hcz12_2 := BK226.cl 2 (.slice A225_2 ((rd_T28 l1 x14_1).f2).length c225_2); have hcz12_3 := BK226.cl 3 (.int .i64 ((rd_T28 l1 x14_1).f3)); have hcz12_4 := BK226.cl 4 (.int .i64 ((rd_T28 l1 x14_1).f4)); have hcz12_5 := BK226.cl 5 (.int .i64 ((rd_T28 l1 x14_1).f5)); have hfz12_0 := BK226.fz 0; have hfz12_1 := BK226.fz 1; have hfz12_2 := BK226.fz 2; have hfz12_3 := BK226.fz 3; have hfz12_4 := BK226.fz 4; have hfz12_5 := BK226.fz 5; have hcz13_0 := BK224.cl 0 (.int .i64 a0_0); have hcz13_1 := BK224.cl 1 (.int .i64 a0_1); have hcz13_2 := BK224.cl 2 (.slice A0_2 l0_2.length c0_2); have hcz13_3 := BK224.cl 3 (.slice A0_3 l0_3.length c0_3); have hfz13_0 := BK224.fz 0; have hfz13_1 := BK224.fz 1; have hfz13_2 := BK224.fz 2; have hfz13_3 := BK224.fz 3; obtain ⟨Ao14, co14, eo14⟩ := Kd.S_slice HO_7.out; subst eo14) | ((with_reducible refine gate_callee (f := 16) rfl ?_); refine goesM_ Tryd.func16 #[.agg #[.int .i64 a0_0, .int .i64 a0_1, .slice A0_2 l0_2.length c0_2, .slice A0_3 l0_3.length c0_3], .slice Ao14 x7_1.length co14, .agg #[.int .i64 ((rd_T28 l1 x14_1).f0), .int .i64 ((rd_T28 l1 x14_1).f1), .slice A225_2 ((rd_T28 l1 x14_1).f2).length c225_2, .int .i64 ((rd_T28 l1 x14_1).f3), .int .i64 ((rd_T28 l1 x14_1).f4), .int .i64 ((rd_T28 l1 x14_1).f5)]] ?_; (with_reducible refine (proof_clause.calls k1 a0_0 a0_1 _ _ l0_2 _ _ l0_3 _ _ x7_1 ((rd_T28 l1 x14_1).f0) ((rd_T28 l1 x14_1).f1) _ _ ((rd_T28 l1 x14_1).f2) ((rd_T28 l1 x14_1).f3) ((rd_T28 l1 x14_1).f4) ((rd_T28 l1 x14_1).f5) t227 true _ ?side1 ?side2 ?side3 ?side4 ?side5 ?side6 ?side7 ?side8 A7.out).mono ?_); (case side1 => exact Kd.C_below HR0_2.out HB.l); (case side2 => exact HC0_2.out); (case side3 => exact Kd.C_below HR0_3.out HB.l); (case side4 => exact HC0_3.out); (case side5 => refine (Kd.S_reads' (e := 26) (base := w.heap.size) (ok := fun k_ => True) (n := x7_1.length) (c := co14) ?_).2.2; exact (by (with_reducible repeat (first | apply Kd.S_alloc | apply Kd.S_drewN | apply Kd.S_drew)); exact (HO_7.out))); (case side6 => exact (Kd.S_reads' HO_7.out).2.1); (case side7 => exact Kd.C_below HR225_2.out HB.l); (case side8 => exact HC225_2.out); rintro e w15 ⟨v228, rfl, ho0, hb⟩; refine ⟨_, rfl, ?_⟩; have n0_ := Aside0.mk (Kd.S_elder' (by (with_reducible repeat (first | apply Kd.S_alloc | apply Kd.S_drewN | apply Kd.S_drew)); exact (HO_7.out)) (Kd.R_base ho0) hb); have n1_ := Aside0.mk (Kd.R_lower ho0 (below_size HB.l)); have n2_ := Aside0.mk (blk_below BK224.b hb); have n3_ := Aside0.mk (blk_below BK226.b hb); have n4_ := Aside0.mk (below_step HB.l hb); clear HO_7 BK224 BK226 HB; revert n0_ n1_ n2_ n3_ n4_; intro HO_7 HO229 BK224 BK226 HB; (try clear hb); (try clear hb2); (try clear hk); (try clear hi); (try clear ho0); obtain ⟨Ao17, co17, eo17⟩ := Kd.R_slice HO229.out; subst eo17) | ((with_reducible refine gate_builtin (b := .append) (xs := #[.tmp 29, .tmp 31]) rfl ?_); at_builtin; refine Kd.S_append (Kd.slice 3 (Kd.int .i64)) (w0 := w) w.heap.size rfl (.tmp 29) (.tmp 31) 30 26 (.slice none 0 0) 24 rfl Tryd.underlying30 info26 rfl (by decide) (by omega) (.slice Ao14 x7_1.length co14) x7_1 t227 [.slice Ao17 t227.length co17] (fun _ => True) (fun k_ => some k_ = (.slice Ao17 t227.length co17 : Value).ownBlock) rfl rfl ?aP (fun k_ hk_ => ((Kd.R_mono (ok' := fun k_ => ((fun _ => True)) k_ ∧ some k_ ≠ (.slice Ao14 x7_1.length co14 : Value).ownBlock) (Kd.R_apart' (HO229.out) (Kd.S_typed HO_7.out) (by decide)) (fun k_ hk => ⟨trivial, hk.2⟩))).1 k_ hk_.symm) ?aF ?aO ?aB ?aS ?aL ?_; (case aP => exact Kd.M_row (Kd.R_mono (Kd.R_tight rfl (Kd.R_mono (ok' := fun k_ => ((fun _ => True)) k_ ∧ some k_ ≠ (.slice Ao14 x7_1.length co14 : Value).ownBlock) (Kd.R_apart' (HO229.out) (Kd.S_typed HO_7.out) (by decide)) (fun k_ hk => ⟨trivial, hk.2⟩))) (fun _ h_ => h_))); (case aB => exact HB.l); (case aF => exact (fun _ _ => trivial)); (case aO => exact (by (with_reducible repeat (first | apply Kd.S_alloc | apply Kd.S_drewN | apply Kd.S_drew)); exact Kd.S_mono HO_7.out (fun k_ hk => ⟨trivial, fun e_ => hk.2 e_⟩))); (case aS => exact (below_size HB.l)); (case aL => have := LMc9.out; omega); intro v232 w16 ho hb hg hat; rw [← Ny231.out] at ho; have n0_ := Aside0.mk (blk_grown BK224.b hg (Kd.S_ne HO_7.out BK224.out (by decide))); have n1_ := Aside0.mk (blk_grown BK226.b hg (Kd.S_ne HO_7.out BK226.out (by decide))); have n2_ := Aside0.mk (hb); have n3_ := Aside0.mk (ho); clear BK224 BK226 HB HO_7 HO229; revert n0_ n1_ n2_ n3_; intro BK224 BK226 HB HO233; clear ho hb hg hat))
        go_roundg k1
        case measure => have := HK1.out; omega
        case rel => exact ⟨(y231), (wrap64 (x14_1 + 1)), (by first | rfl | (simp; done) | (simp [*]; done)), H', ⟨by have := HK1.out; omega⟩, ⟨HO233.s⟩, ⟨BK224.b⟩, ⟨HB.l⟩⟩
       ·rw [if_neg c9] at H
        exact absurd H (by simp)
      ·replace c8 := Bool.eq_false_iff.mpr c8
       subst c8
       have H1 : (some (([] : List (List Int)), x14_1, 15)) = some (r1, r2, r3) := by rw [if_neg (show ¬ (false = true) by decide)] at H; exact H
       clear H
       have H := H1
       clear H1
       simp only [Option.some.injEq, Prod.mk.injEq] at H
       obtain ⟨rfl, rfl, rfl⟩ := H
       have p225 : 0 ≤ (x14_1 : Int) := of_decide_eq_true (by first | (with_reducible assumption) | assumption)
       have q225 : x14_1 < (l1.length : Int) := of_decide_eq_true (by first | (with_reducible assumption) | assumption)
       obtain ⟨ad225, A225_2, c225_2, e225, hx225_0, hx225_1, hx225_2, hx225_3, hx225_4, hx225_5, hl225_2, hi225_2⟩ := at_T28 HR1.out x14_1 p225 q225
       cases e225
       replace hx225_0 := (HB.out.cell (World.block_lt_of_cell? w _ hx225_0)).trans hx225_0
       replace hx225_1 := (HB.out.cell (World.block_lt_of_cell? w _ hx225_1)).trans hx225_1
       replace hx225_2 := (HB.out.cell (World.block_lt_of_cell? w _ hx225_2)).trans hx225_2
       replace hx225_3 := (HB.out.cell (World.block_lt_of_cell? w _ hx225_3)).trans hx225_3
       replace hx225_4 := (HB.out.cell (World.block_lt_of_cell? w _ hx225_4)).trans hx225_4
       replace hx225_5 := (HB.out.cell (World.block_lt_of_cell? w _ hx225_5)).trans hx225_5
       have HR225_2 := Aside0.mk hi225_2
       have HC225_2 := Aside0.mk hl225_2
       clear hi225_2 hl225_2
       replace p225 := eq_true p225
       replace q225 := eq_true q225
       go_wp2_with (first | ((with_reducible refine gate_dst (N := 9) rfl ?_); refine box_ev (N := 9) rfl (cs := #[.int .i64 0, .int .i64 0, .slice none 0 0, .int .i64 0, .int .i64 0, .int .i64 0]) (t := 28) ?_; intro gb226 hg w18z hboxz hbz; have HGz := Aside0.mk (And.intro hg (And.intro hboxz hbz)); clear hg hboxz hbz) | ((with_reducible refine gate_store (t := 28) (p := 9) (v := _) rfl ?_); have hg := HGz.out.1; refine store_box rfl rfl rfl hg HGz.out.2.1 HGz.out.2.2 rfl (cs := #[.int .i64 ((rd_T28 l1 x14_1).f0), .int .i64 ((rd_T28 l1 x14_1).f1), .slice A225_2 ((rd_T28 l1 x14_1).f2).length c225_2, .int .i64 ((rd_T28 l1 x14_1).f3), .int .i64 ((rd_T28 l1 x14_1).f4), .int .i64 ((rd_T28 l1 x14_1).f5)]) ?hx (by kernel_rfl) rfl rfl ?_; (case hx => first | rfl | (go_simp; rfl)); intro w18 hbox hb; clear HGz; have n0_ := Aside0.mk (Kd.S_below HO_7.s hb); have n1_ := Aside0.mk (blk_below BK224.b hb); have n2_ := Aside0.mk (below_step HB.l hb); have n3_ := Aside0.mk (hbox); have n4_ := Aside0.mk ((by rw [hg]; exact (below_size HB.l) : w.heap.size ≤ gb226)); have n5_ := Aside0.mk ((by rw [hg]; exact (below_size HB.l) : w.heap.size ≤ gb226)); have n6_ := Aside0.mk ((by rw [hg]; exact Nat.ne_of_lt (blk_lt BK224.b) : gb224 ≠ gb226)); have n7_ := Aside0.mk ((by rw [hg]; exact Nat.ne_of_gt (blk_lt BK224.b) : gb226 ≠ gb224)); clear HO_7 BK224 HB; revert n0_ n1_ n2_ n3_ n4_ n5_ n6_ n7_; intro HO_7 BK224 HB BK226 GW226 GE226 NB224_226 NB226_224; clear hb hbox hg; have hnb19 := NB226_224.out; have hnc19 := NB224_226.out; have hcz20_0 := BK226.cl 0 (.int .i64 ((rd_T28 l1 x14_1).f0)); have hcz20_1 := BK226.cl 1 (.int .i64 ((rd_T28 l1 x14_1).f1)); have hcz20_2 := BK226.cl 2 (.slice A225_2 ((rd_T28 l1 x14_1).f2).length c225_2); have hcz20_3 := BK226.cl 3 (.int .i64 ((rd_T28 l1 x14_1).f3)); have hcz20_4 := BK226.cl 4 (.int .i64 ((rd_T28 l1 x14_1).f4)); have hcz20_5 := BK226.cl 5 (.int .i64 ((rd_T28 l1 x14_1).f5)); have hfz20_0 := BK226.fz 0; have hfz20_1 := BK226.fz 1; have hfz20_2 := BK226.fz 2; have hfz20_3 := BK226.fz 3; have hfz20_4 := BK226.fz 4; have hfz20_5 := BK226.fz 5; have hcz21_0 := BK224.cl 0 (.int .i64 a0_0); have hcz21_1 := BK224.cl 1 (.int .i64 a0_1); have hcz21_2 := BK224.cl 2 (.slice A0_2 l0_2.length c0_2); have hcz21_3 := BK224.cl 3 (.slice A0_3 l0_3.length c0_3); have hfz21_0 := BK224.fz 0; have hfz21_1 := BK224.fz 1; have hfz21_2 := BK224.fz 2; have hfz21_3 := BK224.fz 3; obtain ⟨Ao22, co22, eo22⟩ := Kd.S_slice HO_7.out; subst eo22) | ((with_reducible refine gate_callee (f := 16) rfl ?_); refine goesM_ Tryd.func16 #[.agg #[.int .i64 a0_0, .int .i64 a0_1, .slice A0_2 l0_2.length c0_2, .slice A0_3 l0_3.length c0_3], .slice Ao22 x7_1.length co22, .agg #[.int .i64 ((rd_T28 l1 x14_1).f0), .int .i64 ((rd_T28 l1 x14_1).f1), .slice A225_2 ((rd_T28 l1 x14_1).f2).length c225_2, .int .i64 ((rd_T28 l1 x14_1).f3), .int .i64 ((rd_T28 l1 x14_1).f4), .int .i64 ((rd_T28 l1 x14_1).f5)]] ?_; (with_reducible refine (proof_clause.calls k1 a0_0 a0_1 _ _ l0_2 _ _ l0_3 _ _ x7_1 ((rd_T28 l1 x14_1).f0) ((rd_T28 l1 x14_1).f1) _ _ ((rd_T28 l1 x14_1).f2) ((rd_T28 l1 x14_1).f3) ((rd_T28 l1 x14_1).f4) ((rd_T28 l1 x14_1).f5) t227 false _ ?side1 ?side2 ?side3 ?side4 ?side5 ?side6 ?side7 ?side8 A7.out).mono ?_); (case side1 => exact Kd.C_below HR0_2.out HB.l); (case side2 => exact HC0_2.out); (case side3 => exact Kd.C_below HR0_3.out HB.l); (case side4 => exact HC0_3.out); (case side5 => refine (Kd.S_reads' (e := 26) (base := w.heap.size) (ok := fun k_ => True) (n := x7_1.length) (c := co22) ?_).2.2; exact (by (with_reducible repeat (first | apply Kd.S_alloc | apply Kd.S_drewN | apply Kd.S_drew)); exact (HO_7.out))); (case side6 => exact (Kd.S_reads' HO_7.out).2.1); (case side7 => exact Kd.C_below HR225_2.out HB.l); (case side8 => exact HC225_2.out); rintro e w23 ⟨v228, rfl, ho0, hb⟩; refine ⟨_, rfl, ?_⟩; have n0_ := Aside0.mk (Kd.S_elder' (by (with_reducible repeat (first | apply Kd.S_alloc | apply Kd.S_drewN | apply Kd.S_drew)); exact (HO_7.out)) (Kd.R_base ho0) hb); have n1_ := Aside0.mk (Kd.R_lower ho0 (below_size HB.l)); have n2_ := Aside0.mk (blk_below BK224.b hb); have n3_ := Aside0.mk (blk_below BK226.b hb); have n4_ := Aside0.mk (below_step HB.l hb); clear HO_7 BK224 BK226 HB; revert n0_ n1_ n2_ n3_ n4_; intro HO_7 HO229 BK224 BK226 HB; (try clear hb); (try clear hb2); (try clear hk); (try clear hi); (try clear ho0)))
       go_ret3
       exact ⟨_, by first | rfl | (simp [errW_none, errW_some] <;> rfl) | (simp [*, errW_none, errW_some] <;> rfl), by first | exact Kd.S_nil _ _ _ _ _ | exact Kd.N_nil _ _ _ _ _ | exact Kd.V_nil _ _ _ _ _ | exact Kd.Q_nil _ _ _ _ _ | exact Kd.R_nil _ _ _ _ _, HB.l⟩
     ·rw [if_neg c6] at H
      exact absurd H (by simp)
    ·rw [if_neg c5] at H
     exact absurd H (by simp)
   ·rw [if_neg c4] at H
    have c4b0 : decide (x14_1 < (l1.length : Int)) = false := decide_eq_false c4
    clear c4
    simp only [Option.some.injEq, Prod.mk.injEq] at H
    obtain ⟨rfl, rfl, rfl⟩ := H
    go_wp2
    go_ret3
    exact ⟨_, by first | rfl | (simp [errW_none, errW_some] <;> rfl) | (simp [*, errW_none, errW_some] <;> rfl), HO_7.s, HB.l⟩

/-! ### proof_Check: function 10 -/
def proof_Check.f (k : Nat) (a0_0 : Int) (a0_1 : Int) (l0_2 : List (S53)) (l0_3 : List (List Int)) (l1 : List (S28)) : Option (Int × Int) := (proof_Clauses.f k a0_0 a0_1 l0_2 l0_3 l1).bind fun bt235 => (if bt235.2.2 = 0 then (if (bt235.1.length : Int) = 0 then (some ((l1.length : Int), 15)) else (if 0 ≤ (wrap64 ((bt235.1.length : Int) - 1)) then (if (wrap64 ((bt235.1.length : Int) - 1)) < (bt235.1.length : Int) then (if ((rd_L1 bt235.1 (wrap64 ((bt235.1.length : Int) - 1))).length : Int) > 0 then (some ((l1.length : Int), 15)) else (some (0, 0))) else (none)) else (none))) else (some (bt235.2.1, bt235.2.2)))
theorem proof_Check.mono : ∀ a0 a1 a2 a3 a4 k, LeO (proof_Check.f k a0 a1 a2 a3 a4) (proof_Check.f (k + 1) a0 a1 a2 a3 a4) := by
 intro a0 a1 a2 a3 a4 k
 unfold proof_Check.f
 repeat' first
   | (with_reducible exact proof_Clauses.mono _ _ _ _ _ _)
   | (with_reducible exact LeO.refl _)
   | (with_reducible exact LeO.none _)
   | (with_reducible refine LeO.ite ?_ ?_)
   | (with_reducible refine LeO.bind ?_ (fun _ => ?_))
   | exact proof_Clauses.mono _ _ _ _ _ _
   | exact LeO.none _
   | refine LeO.ite ?_ ?_
   | refine LeO.bind ?_ (fun _ => ?_)
set_option maxHeartbeats 8000000 in
set_option maxRecDepth 100000 in
theorem proof_Check.calls (k : Nat) (a0_0 : Int) (a0_1 : Int) (A0_2 : Option Addr) (c0_2 : Nat) (l0_2 : List (S53)) (A0_3 : Option Addr) (c0_3 : Nat) (l0_3 : List (List Int)) (A1 : Option Addr) (c1 : Nat) (l1 : List (S28)) (r1 : Int) (r2 : Int) (w : World) (hr0_2 : Kd.C k53 w A0_2 l0_2.length l0_2) (hc0_2 : l0_2.length ≤ c0_2) (hr0_3 : Kd.C (Kd.slice 3 (Kd.int .i64)) w A0_3 l0_3.length l0_3) (hc0_3 : l0_3.length ≤ c0_3) (hr1 : Kd.C k28 w A1 l1.length l1) (hc1 : l1.length ≤ c1) (h : proof_Check.f k a0_0 a0_1 l0_2 l0_3 l1 = some (r1, r2)) :
  Calls Tryd.prog 10 #[.agg #[.int .i64 a0_0, .int .i64 a0_1, .slice A0_2 l0_2.length c0_2, .slice A0_3 l0_3.length c0_3], .slice A1 l1.length c1] w fun e w' => e = .returned (.tuple #[.int .i64 r1, .int .i64 r2]) ∧ Below w.heap.size w w' := by
 have hu32 := Tryd.underlying32
 have HR0_2 := Aside0.mk hr0_2
 have HC0_2 := Aside0.mk hc0_2
 clear hr0_2 hc0_2
 have HR0_3 := Aside0.mk hr0_3
 have HC0_3 := Aside0.mk hc0_3
 clear hr0_3 hc0_3
 have HR1 := Aside0.mk hr1
 have HC1 := Aside0.mk hc1
 clear hr1 hc1
 have HB := Aside0.mk (Below.refl w.heap.size w)
 have H : ((proof_Clauses.f k a0_0 a0_1 l0_2 l0_3 l1).bind fun bt235 => (if bt235.2.2 = 0 then (if (bt235.1.length : Int) = 0 then (some ((l1.length : Int), 15)) else (if 0 ≤ (wrap64 ((bt235.1.length : Int) - 1)) then (if (wrap64 ((bt235.1.length : Int) - 1)) < (bt235.1.length : Int) then (if ((rd_L1 bt235.1 (wrap64 ((bt235.1.length : Int) - 1))).length : Int) > 0 then (some ((l1.length : Int), 15)) else (some (0, 0))) else (none)) else (none))) else (some (bt235.2.1, bt235.2.2)))) = some (r1, r2) := h
 clear h
 replace H := Option.bind_eq_some_iff.mp H
 obtain ⟨⟨t235, t238, t239⟩, A30, H⟩ := H
 replace H : (if t239 = 0 then (if (t235.length : Int) = 0 then (some ((l1.length : Int), 15)) else (if 0 ≤ (wrap64 ((t235.length : Int) - 1)) then (if (wrap64 ((t235.length : Int) - 1)) < (t235.length : Int) then (if ((rd_L1 t235 (wrap64 ((t235.length : Int) - 1))).length : Int) > 0 then (some ((l1.length : Int), 15)) else (some (0, 0))) else (none)) else (none))) else (some (t238, t239))) = some (r1, r2) := H
 have A3 := Aside0.mk A30
 clear A30
 by_cases c4 : t239 = 0
 ·rw [if_pos c4] at H
  have c4b0 : (t239 == 0) = true := beq_iff_eq.mpr c4
  have c4b1 : (t239 != 0) = false := bne_eq_false_iff_eq.mpr c4
  clear c4
  by_cases c5 : (t235.length : Int) = 0
  ·rw [if_pos c5] at H
   have c5b0 : ((t235.length : Int) == 0) = true := beq_iff_eq.mpr c5
   have c5b1 : ((t235.length : Int) != 0) = false := bne_eq_false_iff_eq.mpr c5
   clear c5
   simp only [Option.some.injEq, Prod.mk.injEq] at H
   obtain ⟨rfl, rfl⟩ := H
   go_enter Tryd.func10, Tryd.ntmps10
   go_wp2_with (first | ((with_reducible refine gate_dst (N := 2) rfl ?_); (try (refine gate_guard (by rfl) ?_; dsimp only)); refine box_ev (N := 2) rfl (cs := #[.int .i64 a0_0, .int .i64 a0_1, .slice A0_2 l0_2.length c0_2, .slice A0_3 l0_3.length c0_3]) (t := 32) ?_; intro gb234 hg w6 hbox hb; have n0_ := Aside0.mk (below_step HB.l hb); have n1_ := Aside0.mk (hbox); have n2_ := Aside0.mk ((by rw [hg]; exact (below_size HB.l) : w.heap.size ≤ gb234)); have n3_ := Aside0.mk ((by rw [hg]; exact (below_size HB.l) : w.heap.size ≤ gb234)); clear HB; revert n0_ n1_ n2_ n3_; intro HB BK234 GW234 GE234; clear hb hbox hg; have hcz7_0 := BK234.cl 0 (.int .i64 a0_0); have hcz7_1 := BK234.cl 1 (.int .i64 a0_1); have hcz7_2 := BK234.cl 2 (.slice A0_2 l0_2.length c0_2); have hcz7_3 := BK234.cl 3 (.slice A0_3 l0_3.length c0_3); have hfz7_0 := BK234.fz 0; have hfz7_1 := BK234.fz 1; have hfz7_2 := BK234.fz 2; have hfz7_3 := BK234.fz 3) | ((with_reducible refine gate_callee (f := 9) rfl ?_); refine goesM_ Tryd.func9 #[.agg #[.int .i64 a0_0, .int .i64 a0_1, .slice A0_2 l0_2.length c0_2, .slice A0_3 l0_3.length c0_3], .slice A1 l1.length c1] ?_; (with_reducible refine (proof_Clauses.calls k a0_0 a0_1 _ _ l0_2 _ _ l0_3 _ _ l1 t235 t238 t239 _ ?side1 ?side2 ?side3 ?side4 ?side5 ?side6 A3.out).mono ?_); (case side1 => exact HR0_2.c HB.l); (case side2 => exact HC0_2.out); (case side3 => exact HR0_3.c HB.l); (case side4 => exact HC0_3.out); (case side5 => exact HR1.c HB.l); (case side6 => exact HC1.out); rintro e w8 ⟨v236, rfl, ho0, hb⟩; refine ⟨_, rfl, ?_⟩; have n0_ := Aside0.mk (Kd.S_lower ho0 (below_size HB.l)); have n1_ := Aside0.mk (blk_below BK234.b hb); have n2_ := Aside0.mk (below_step HB.l hb); clear BK234 HB; revert n0_ n1_ n2_; intro HO237 BK234 HB; (try clear hb); (try clear hb2); (try clear hk); (try clear hi); (try clear ho0); obtain ⟨Ao9, co9, eo9⟩ := Kd.S_slice HO237.out; subst eo9))
   go_ret2
   exact ⟨by first | rfl | (simp [errW_none, errW_some] <;> rfl) | (simp [*, errW_none, errW_some] <;> rfl), HB.l⟩
  ·rw [if_neg c5] at H
   have c5b0 : ((t235.length : Int) == 0) = false := beq_eq_false_iff_ne.mpr c5
   have c5b1 : ((t235.length : Int) != 0) = true := bne_iff_ne.mpr c5
   have c5b2 : ¬ (t235 = []) := fun h_ => c5 (by rw [h_]; rfl)
   obtain ⟨ji10, hji10⟩ : ∃ j_ : Int, (wrap64 ((t235.length : Int) - 1)) = j_ := ⟨_, rfl⟩
   replace H : (if 0 ≤ (ji10) then (if (ji10) < (t235.length : Int) then (if ((rd_L1 t235 (ji10)).length : Int) > 0 then (some ((l1.length : Int), 15)) else (some (0, 0))) else (none)) else (none)) = some (r1, r2) := by first | (rw [hji10] at H; exact H) | (simp only [hji10] at H ⊢; exact H)
   (try rw [hji10] at A3)
   have hji10w : (IntKind.i64.wrap ((t235.length : Int) - 1)) = ji10 := (i64_w _).trans hji10
   by_cases c11 : 0 ≤ (ji10)
   ·rw [if_pos c11] at H
    have c11b0 : decide (0 ≤ (ji10)) = true := decide_eq_true c11
    clear c11
    by_cases c12 : (ji10) < (t235.length : Int)
    ·rw [if_pos c12] at H
     have c12b0 : decide ((ji10) < (t235.length : Int)) = true := decide_eq_true c12
     clear c12
     by_cases c13 : ((rd_L1 t235 (ji10)).length : Int) > 0
     ·rw [if_pos c13] at H
      have c13b0 : decide (0 < ((rd_L1 t235 (ji10)).length : Int)) = true := decide_eq_true c13
      have c13b1 : decide (0 < (rd_L1 t235 (ji10)).length) = true := decide_eq_true (by omega)
      clear c13
      simp only [Option.some.injEq, Prod.mk.injEq] at H
      obtain ⟨rfl, rfl⟩ := H
      go_enter Tryd.func10, Tryd.ntmps10
      go_wp2_with (first | ((with_reducible refine gate_dst (N := 2) rfl ?_); (try (refine gate_guard (by rfl) ?_; dsimp only)); refine box_ev (N := 2) rfl (cs := #[.int .i64 a0_0, .int .i64 a0_1, .slice A0_2 l0_2.length c0_2, .slice A0_3 l0_3.length c0_3]) (t := 32) ?_; intro gb234 hg w14 hbox hb; have n0_ := Aside0.mk (below_step HB.l hb); have n1_ := Aside0.mk (hbox); have n2_ := Aside0.mk ((by rw [hg]; exact (below_size HB.l) : w.heap.size ≤ gb234)); have n3_ := Aside0.mk ((by rw [hg]; exact (below_size HB.l) : w.heap.size ≤ gb234)); clear HB; revert n0_ n1_ n2_ n3_; intro HB BK234 GW234 GE234; clear hb hbox hg; have hcz15_0 := BK234.cl 0 (.int .i64 a0_0); have hcz15_1 := BK234.cl 1 (.int .i64 a0_1); have hcz15_2 := BK234.cl 2 (.slice A0_2 l0_2.length c0_2); have hcz15_3 := BK234.cl 3 (.slice A0_3 l0_3.length c0_3); have hfz15_0 := BK234.fz 0; have hfz15_1 := BK234.fz 1; have hfz15_2 := BK234.fz 2; have hfz15_3 := BK234.fz 3) | ((with_reducible refine gate_callee (f := 9) rfl ?_); refine goesM_ Tryd.func9 #[.agg #[.int .i64 a0_0, .int .i64 a0_1, .slice A0_2 l0_2.length c0_2, .slice A0_3 l0_3.length c0_3], .slice A1 l1.length c1] ?_; (with_reducible refine (proof_Clauses.calls k a0_0 a0_1 _ _ l0_2 _ _ l0_3 _ _ l1 t235 t238 t239 _ ?side1 ?side2 ?side3 ?side4 ?side5 ?side6 A3.out).mono ?_); (case side1 => exact HR0_2.c HB.l); (case side2 => exact HC0_2.out); (case side3 => exact HR0_3.c HB.l); (case side4 => exact HC0_3.out); (case side5 => exact HR1.c HB.l); (case side6 => exact HC1.out); rintro e w16 ⟨v236, rfl, ho0, hb⟩; refine ⟨_, rfl, ?_⟩; have n0_ := Aside0.mk (Kd.S_lower ho0 (below_size HB.l)); have n1_ := Aside0.mk (blk_below BK234.b hb); have n2_ := Aside0.mk (below_step HB.l hb); clear BK234 HB; revert n0_ n1_ n2_; intro HO237 BK234 HB; (try clear hb); (try clear hb2); (try clear hk); (try clear hi); (try clear ho0); obtain ⟨Ao17, co17, eo17⟩ := Kd.S_slice HO237.out; subst eo17; have p240 : 0 ≤ ((ji10) : Int) := of_decide_eq_true (by first | (with_reducible assumption) | assumption); have q240 : (ji10) < (t235.length : Int) := of_decide_eq_true (by first | (with_reducible assumption) | assumption); obtain ⟨ad240, A240_0, c240_0, e240, hx240_0, hl240_0, hi240_0⟩ := at_L1 (Kd.S_reads' HO237.out).2.2 (ji10) p240 q240; cases e240; obtain ⟨ce240, hce240, hMe240, hcc240⟩ := Kd.S_get HO237.out [] (ji10) p240 (by first | exact q240 | exact of_decide_eq_true (by first | (with_reducible assumption) | assumption) | (have e_ := (Kd.S_reads' HO237.out).1; omega)); obtain ⟨ve240_0, rfl, ge240_0⟩ := hMe240; have hv240_0 := hcc240 0 _ rfl; rw [Nat.add_zero, show ((Kd.slice 3 (Kd.int .i64))).sz = 1 from rfl, Nat.mul_one] at hv240_0; replace hv240_0 := Option.some.inj (hv240_0.symm.trans hx240_0); rw [hv240_0] at ge240_0; have HL240_0 := Aside0.mk (show Kd.R (Kd.int .i64) 3 _ _ _ _ (rd_L1 t235 (ji10)) from ge240_0); clear hv240_0 ge240_0; clear hcc240 hce240; have HR240_0 := Aside0.mk hi240_0; have HC240_0 := Aside0.mk hl240_0; clear hi240_0 hl240_0; replace p240 := eq_true p240; replace q240 := eq_true q240))
      go_ret2
      exact ⟨by first | rfl | (simp [errW_none, errW_some] <;> rfl) | (simp only [← hji10]; first | rfl | (simp [errW_none, errW_some] <;> rfl)) | (simp [*, errW_none, errW_some] <;> rfl), HB.l⟩
     ·rw [if_neg c13] at H
      have c13b0 : decide (0 < ((rd_L1 t235 (ji10)).length : Int)) = false := decide_eq_false c13
      have c13b1 : decide (0 < (rd_L1 t235 (ji10)).length) = false := decide_eq_false (by omega)
      clear c13
      simp only [Option.some.injEq, Prod.mk.injEq] at H
      obtain ⟨rfl, rfl⟩ := H
      go_enter Tryd.func10, Tryd.ntmps10
      go_wp2_with (first | ((with_reducible refine gate_dst (N := 2) rfl ?_); (try (refine gate_guard (by rfl) ?_; dsimp only)); refine box_ev (N := 2) rfl (cs := #[.int .i64 a0_0, .int .i64 a0_1, .slice A0_2 l0_2.length c0_2, .slice A0_3 l0_3.length c0_3]) (t := 32) ?_; intro gb234 hg w18 hbox hb; have n0_ := Aside0.mk (below_step HB.l hb); have n1_ := Aside0.mk (hbox); have n2_ := Aside0.mk ((by rw [hg]; exact (below_size HB.l) : w.heap.size ≤ gb234)); have n3_ := Aside0.mk ((by rw [hg]; exact (below_size HB.l) : w.heap.size ≤ gb234)); clear HB; revert n0_ n1_ n2_ n3_; intro HB BK234 GW234 GE234; clear hb hbox hg; have hcz19_0 := BK234.cl 0 (.int .i64 a0_0); have hcz19_1 := BK234.cl 1 (.int .i64 a0_1); have hcz19_2 := BK234.cl 2 (.slice A0_2 l0_2.length c0_2); have hcz19_3 := BK234.cl 3 (.slice A0_3 l0_3.length c0_3); have hfz19_0 := BK234.fz 0; have hfz19_1 := BK234.fz 1; have hfz19_2 := BK234.fz 2; have hfz19_3 := BK234.fz 3) | ((with_reducible refine gate_callee (f := 9) rfl ?_); refine goesM_ Tryd.func9 #[.agg #[.int .i64 a0_0, .int .i64 a0_1, .slice A0_2 l0_2.length c0_2, .slice A0_3 l0_3.length c0_3], .slice A1 l1.length c1] ?_; (with_reducible refine (proof_Clauses.calls k a0_0 a0_1 _ _ l0_2 _ _ l0_3 _ _ l1 t235 t238 t239 _ ?side1 ?side2 ?side3 ?side4 ?side5 ?side6 A3.out).mono ?_); (case side1 => exact HR0_2.c HB.l); (case side2 => exact HC0_2.out); (case side3 => exact HR0_3.c HB.l); (case side4 => exact HC0_3.out); (case side5 => exact HR1.c HB.l); (case side6 => exact HC1.out); rintro e w20 ⟨v236, rfl, ho0, hb⟩; refine ⟨_, rfl, ?_⟩; have n0_ := Aside0.mk (Kd.S_lower ho0 (below_size HB.l)); have n1_ := Aside0.mk (blk_below BK234.b hb); have n2_ := Aside0.mk (below_step HB.l hb); clear BK234 HB; revert n0_ n1_ n2_; intro HO237 BK234 HB; (try clear hb); (try clear hb2); (try clear hk); (try clear hi); (try clear ho0); obtain ⟨Ao21, co21, eo21⟩ := Kd.S_slice HO237.out; subst eo21; have p240 : 0 ≤ ((ji10) : Int) := of_decide_eq_true (by first | (with_reducible assumption) | assumption); have q240 : (ji10) < (t235.length : Int) := of_decide_eq_true (by first | (with_reducible assumption) | assumption); obtain ⟨ad240, A240_0, c240_0, e240, hx240_0, hl240_0, hi240_0⟩ := at_L1 (Kd.S_reads' HO237.out).2.2 (ji10) p240 q240; cases e240; obtain ⟨ce240, hce240, hMe240, hcc240⟩ := Kd.S_get HO237.out [] (ji10) p240 (by first | exact q240 | exact of_decide_eq_true (by first | (with_reducible assumption) | assumption) | (have e_ := (Kd.S_reads' HO237.out).1; omega)); obtain ⟨ve240_0, rfl, ge240_0⟩ := hMe240; have hv240_0 := hcc240 0 _ rfl; rw [Nat.add_zero, show ((Kd.slice 3 (Kd.int .i64))).sz = 1 from rfl, Nat.mul_one] at hv240_0; replace hv240_0 := Option.some.inj (hv240_0.symm.trans hx240_0); rw [hv240_0] at ge240_0; have HL240_0 := Aside0.mk (show Kd.R (Kd.int .i64) 3 _ _ _ _ (rd_L1 t235 (ji10)) from ge240_0); clear hv240_0 ge240_0; clear hcc240 hce240; have HR240_0 := Aside0.mk hi240_0; have HC240_0 := Aside0.mk hl240_0; clear hi240_0 hl240_0; replace p240 := eq_true p240; replace q240 := eq_true q240))
      go_ret2
      exact ⟨by first | rfl | (simp [errW_none, errW_some] <;> rfl) | (simp only [← hji10]; first | rfl | (simp [errW_none, errW_some] <;> rfl)) | (simp [*, errW_none, errW_some] <;> rfl), HB.l⟩
    ·rw [if_neg c12] at H
     exact absurd H (by simp)
   ·rw [if_neg c11] at H
    exact absurd H (by simp)
 ·rw [if_neg c4] at H
  have c4b0 : (t239 == 0) = false := beq_eq_false_iff_ne.mpr c4
  have c4b1 : (t239 != 0) = true := bne_iff_ne.mpr c4
  simp only [Option.some.injEq, Prod.mk.injEq] at H
  obtain ⟨rfl, rfl⟩ := H
  go_enter Tryd.func10, Tryd.ntmps10
  go_wp2_with (first | ((with_reducible refine gate_dst (N := 2) rfl ?_); (try (refine gate_guard (by rfl) ?_; dsimp only)); refine box_ev (N := 2) rfl (cs := #[.int .i64 a0_0, .int .i64 a0_1, .slice A0_2 l0_2.length c0_2, .slice A0_3 l0_3.length c0_3]) (t := 32) ?_; intro gb234 hg w22 hbox hb; have n0_ := Aside0.mk (below_step HB.l hb); have n1_ := Aside0.mk (hbox); have n2_ := Aside0.mk ((by rw [hg]; exact (below_size HB.l) : w.heap.size ≤ gb234)); have n3_ := Aside0.mk ((by rw [hg]; exact (below_size HB.l) : w.heap.size ≤ gb234)); clear HB; revert n0_ n1_ n2_ n3_; intro HB BK234 GW234 GE234; clear hb hbox hg; have hcz23_0 := BK234.cl 0 (.int .i64 a0_0); have hcz23_1 := BK234.cl 1 (.int .i64 a0_1); have hcz23_2 := BK234.cl 2 (.slice A0_2 l0_2.length c0_2); have hcz23_3 := BK234.cl 3 (.slice A0_3 l0_3.length c0_3); have hfz23_0 := BK234.fz 0; have hfz23_1 := BK234.fz 1; have hfz23_2 := BK234.fz 2; have hfz23_3 := BK234.fz 3) | ((with_reducible refine gate_callee (f := 9) rfl ?_); refine goesM_ Tryd.func9 #[.agg #[.int .i64 a0_0, .int .i64 a0_1, .slice A0_2 l0_2.length c0_2, .slice A0_3 l0_3.length c0_3], .slice A1 l1.length c1] ?_; (with_reducible refine (proof_Clauses.calls k a0_0 a0_1 _ _ l0_2 _ _ l0_3 _ _ l1 t235 t238 t239 _ ?side1 ?side2 ?side3 ?side4 ?side5 ?side6 A3.out).mono ?_); (case side1 => exact HR0_2.c HB.l); (case side2 => exact HC0_2.out); (case side3 => exact HR0_3.c HB.l); (case side4 => exact HC0_3.out); (case side5 => exact HR1.c HB.l); (case side6 => exact HC1.out); rintro e w24 ⟨v236, rfl, ho0, hb⟩; refine ⟨_, rfl, ?_⟩; have n0_ := Aside0.mk (Kd.S_lower ho0 (below_size HB.l)); have n1_ := Aside0.mk (blk_below BK234.b hb); have n2_ := Aside0.mk (below_step HB.l hb); clear BK234 HB; revert n0_ n1_ n2_; intro HO237 BK234 HB; (try clear hb); (try clear hb2); (try clear hk); (try clear hi); (try clear ho0)))
  go_ret2
  exact ⟨by first | rfl | (simp [errW_none, errW_some] <;> rfl) | (simp [*, errW_none, errW_some] <;> rfl), HB.l⟩

/-! ### interleaveref31_Same: function 11 -/
def interleaveref31_Same.l0 : Nat → List Int → List Int → Int → Int → Option (Bool)
 | 0, _, _, _, _ => none
 | k + 1, x0, x1, x12, x13 => if x13 < x12 then (if 0 ≤ x13 then (if x13 < (x0.length : Int) then (if x13 < (x1.length : Int) then (if (rd x0 x13) = (rd x1 x13) then (interleaveref31_Same.l0 k x0 x1 x12 (wrap64 (x13 + 1))) else (some false)) else (none)) else (none)) else (none)) else (some true)
def interleaveref31_Same.f (k : Nat) (l0 : List Int) (l1 : List Int) : Option (Bool) := if (l0.length : Int) = (l1.length : Int) then (interleaveref31_Same.l0 k l0 l1 (l0.length : Int) 0) else (some false)
theorem interleaveref31_Same.mono_l : ∀ k, (∀ y0 y1 y2 y3, LeO (interleaveref31_Same.l0 k y0 y1 y2 y3) (interleaveref31_Same.l0 (k + 1) y0 y1 y2 y3))
 | 0 => fun _ _ _ _ r h => by simp [interleaveref31_Same.l0] at h
 | k + 1 => by
  have ih0 := interleaveref31_Same.mono_l k
  ·intro y0 y1 y2 y3
   unfold interleaveref31_Same.l0
   repeat' first
   | (with_reducible exact ih0 _ _ _ _)
   | (with_reducible exact LeO.refl _)
   | (with_reducible exact LeO.none _)
   | (with_reducible refine LeO.ite ?_ ?_)
   | (with_reducible refine LeO.bind ?_ (fun _ => ?_))
   | exact ih0 _ _ _ _
   | exact LeO.none _
   | refine LeO.ite ?_ ?_
   | refine LeO.bind ?_ (fun _ => ?_)
theorem interleaveref31_Same.mono : ∀ a0 a1 k, LeO (interleaveref31_Same.f k a0 a1) (interleaveref31_Same.f (k + 1) a0 a1) := by
 intro a0 a1 k
 have ih0 := interleaveref31_Same.mono_l k
 unfold interleaveref31_Same.f
 repeat' first
   | (with_reducible exact ih0 _ _ _ _)
   | (with_reducible exact LeO.refl _)
   | (with_reducible exact LeO.none _)
   | (with_reducible refine LeO.ite ?_ ?_)
   | (with_reducible refine LeO.bind ?_ (fun _ => ?_))
   | exact ih0 _ _ _ _
   | exact LeO.none _
   | refine LeO.ite ?_ ?_
   | refine LeO.bind ?_ (fun _ => ?_)
set_option maxHeartbeats 8000000 in
set_option maxRecDepth 100000 in
theorem interleaveref31_Same.calls (k : Nat) (A0 : Option Addr) (c0 : Nat) (l0 : List Int) (A1 : Option Addr) (c1 : Nat) (l1 : List Int) (r : Bool) (w : World) (hr0 : Kd.C (Kd.int .i64) w A0 l0.length l0) (hc0 : l0.length ≤ c0) (hr1 : Kd.C (Kd.int .i64) w A1 l1.length l1) (hc1 : l1.length ≤ c1) (h : interleaveref31_Same.f k l0 l1 = some r) :
  Calls Tryd.prog 11 #[.slice A0 l0.length c0, .slice A1 l1.length c1] w fun e w' => e = .returned (.bool r) ∧ Drawn0 w w' := by
 have HR0 := Aside0.mk hr0
 have HC0 := Aside0.mk hc0
 clear hr0 hc0
 have HR1 := Aside0.mk hr1
 have HC1 := Aside0.mk hc1
 clear hr1 hc1
 have H : (if (l0.length : Int) = (l1.length : Int) then (interleaveref31_Same.l0 k l0 l1 (l0.length : Int) 0) else (some false)) = some r := h
 clear h
 by_cases c3 : (l0.length : Int) = (l1.length : Int)
 ·rw [if_pos c3] at H
  have c3b0 : ((l0.length : Int) == (l1.length : Int)) = true := beq_iff_eq.mpr c3
  have c3b1 : ((l0.length : Int) != (l1.length : Int)) = false := bne_eq_false_iff_eq.mpr c3
  have c3b2 : (l0.length == l1.length) = true := by first | simpa using c3 | (simp at c3 ⊢; omega)
  clear c3
  have H' := Aside0.mk H
  clear H
  go_enter Tryd.func11, Tryd.ntmps11
  go_wp2
  repeat (go_quiet (fail); try go_wp2)
  go_loopg [13] k (fun kq v13 w' => ∃ (x13_1 : Int), v13 = .int .i64 x13_1 ∧ Aside0 (interleaveref31_Same.l0 kq l0 l1 (l0.length : Int) x13_1 = some r) ∧ Aside0 (kq ≤ k) ∧ Drawn0 w w')
  case atStart => exact ⟨(0), (by first | rfl | (simp; done) | (simp [*]; done)), H', ⟨Nat.le_refl _⟩, by repeat (first | exact Drawn0.refl _ | apply Drawn0.step)⟩
  case round => as_aux_lemma =>
   clear H'
   try clear c1
   try clear p2
   try clear c3
   try clear c3b0
   try clear c3b1
   try clear c3b2
   obtain ⟨x13_1, rfl, HA, HK1, ⟨m1, rfl⟩⟩ := hrel
   cases gk with
   | zero => exact absurd HA.out (by simp [interleaveref31_Same.l0])
   | succ k1 =>
    have H := HA.out
    clear HA
    simp only [interleaveref31_Same.l0] at H
    by_cases c4 : x13_1 < (l0.length : Int)
    ·rw [if_pos c4] at H
     have c4b0 : decide (x13_1 < (l0.length : Int)) = true := decide_eq_true c4
     clear c4
     by_cases c5 : 0 ≤ x13_1
     ·rw [if_pos c5] at H
      have c5b0 : decide (0 ≤ x13_1) = true := decide_eq_true c5
      clear c5
      by_cases c6 : x13_1 < (l0.length : Int)
      ·rw [if_pos c6] at H
       have c6b0 : decide (x13_1 < (l0.length : Int)) = true := decide_eq_true c6
       clear c6
       by_cases c7 : x13_1 < (l1.length : Int)
       ·rw [if_pos c7] at H
        have c7b0 : decide (x13_1 < (l1.length : Int)) = true := decide_eq_true c7
        clear c7
        by_cases c8 : (rd l0 x13_1) = (rd l1 x13_1)
        ·rw [if_pos c8] at H
         have c8b0 : ((rd l0 x13_1) == (rd l1 x13_1)) = true := beq_iff_eq.mpr c8
         have c8b1 : ((rd l0 x13_1) != (rd l1 x13_1)) = false := bne_eq_false_iff_eq.mpr c8
         clear c8
         have H' := Aside0.mk H
         clear H
         have p241 : 0 ≤ (x13_1 : Int) := of_decide_eq_true (by first | (with_reducible assumption) | assumption)
         have q241 : x13_1 < (l0.length : Int) := of_decide_eq_true (by first | (with_reducible assumption) | assumption)
         obtain ⟨ad241, e241, hx241_0⟩ := Kd.at_int HR0.out x13_1 p241 q241
         cases e241
         replace p241 := eq_true p241
         replace q241 := eq_true q241
         have p242 : 0 ≤ (x13_1 : Int) := of_decide_eq_true (by first | (with_reducible assumption) | assumption)
         have q242 : x13_1 < (l1.length : Int) := of_decide_eq_true (by first | (with_reducible assumption) | assumption)
         obtain ⟨ad242, e242, hx242_0⟩ := Kd.at_int HR1.out x13_1 p242 q242
         cases e242
         replace p242 := eq_true p242
         replace q242 := eq_true q242
         go_wp2
         repeat (go_quiet (fail); try go_wp2)
         go_roundg k1
         case measure => have := HK1.out; omega
         case rel => exact ⟨(wrap64 (x13_1 + 1)), (by first | rfl | (simp; done) | (simp [*]; done)), H', ⟨by have := HK1.out; omega⟩, by repeat (first | exact Drawn0.refl _ | apply Drawn0.step)⟩
        ·rw [if_neg c8] at H
         have c8b0 : ((rd l0 x13_1) == (rd l1 x13_1)) = false := beq_eq_false_iff_ne.mpr c8
         have c8b1 : ((rd l0 x13_1) != (rd l1 x13_1)) = true := bne_iff_ne.mpr c8
         obtain rfl := Option.some.inj H
         have p241 : 0 ≤ (x13_1 : Int) := of_decide_eq_true (by first | (with_reducible assumption) | assumption)
         have q241 : x13_1 < (l0.length : Int) := of_decide_eq_true (by first | (with_reducible assumption) | assumption)
         obtain ⟨ad241, e241, hx241_0⟩ := Kd.at_int HR0.out x13_1 p241 q241
         cases e241
         replace p241 := eq_true p241
         replace q241 := eq_true q241
         have p242 : 0 ≤ (x13_1 : Int) := of_decide_eq_true (by first | (with_reducible assumption) | assumption)
         have q242 : x13_1 < (l1.length : Int) := of_decide_eq_true (by first | (with_reducible assumption) | assumption)
         obtain ⟨ad242, e242, hx242_0⟩ := Kd.at_int HR1.out x13_1 p242 q242
         cases e242
         replace p242 := eq_true p242
         replace q242 := eq_true q242
         go_wp2
         repeat (go_quiet (fail); try go_wp2)
         go_ret
         exact ⟨by first | rfl | (simp; done) | (simp [*]; done), by repeat (first | exact Drawn0.refl _ | apply Drawn0.step)⟩
       ·rw [if_neg c7] at H
        exact absurd H (by simp)
      ·rw [if_neg c6] at H
       exact absurd H (by simp)
     ·rw [if_neg c5] at H
      exact absurd H (by simp)
    ·rw [if_neg c4] at H
     have c4b0 : decide (x13_1 < (l0.length : Int)) = false := decide_eq_false c4
     clear c4
     obtain rfl := Option.some.inj H
     go_wp2
     repeat (go_quiet (fail); try go_wp2)
     go_ret
     exact ⟨by first | rfl | (simp; done) | (simp [*]; done), by repeat (first | exact Drawn0.refl _ | apply Drawn0.step)⟩
 ·rw [if_neg c3] at H
  have c3b0 : ((l0.length : Int) == (l1.length : Int)) = false := beq_eq_false_iff_ne.mpr c3
  have c3b1 : ((l0.length : Int) != (l1.length : Int)) = true := bne_iff_ne.mpr c3
  have c3b2 : (l0.length == l1.length) = false := by first | simpa using c3 | (simp at c3 ⊢; omega)
  obtain rfl := Option.some.inj H
  go_enter Tryd.func11, Tryd.ntmps11
  go_wp2
  repeat (go_quiet (fail); try go_wp2)
  go_ret
  exact ⟨by first | rfl | (simp; done) | (simp [*]; done), by repeat (first | exact Drawn0.refl _ | apply Drawn0.step)⟩

/-! ### interleavelaw33_awake: function 5 -/
def interleavelaw33_awake.f (k : Nat)  : Option (Bool) := (interleavelaw33_example.f).bind fun bt243 => ((proof_Clauses.f k bt243.1 bt243.2.1 bt243.2.2.1 bt243.2.2.2.1 bt243.2.2.2.2).bind fun bt255 => ((proof_Check.f k bt243.1 bt243.2.1 bt243.2.2.1 bt243.2.2.2.1 bt243.2.2.2.2).bind fun bt260 => (if 4 ≤ (bt243.2.2.2.2.length : Int) then ((proof_Check.f k bt243.1 bt243.2.1 bt243.2.2.1 bt243.2.2.2.1 (bt243.2.2.2.2.take 4)).bind fun bt267 => (if bt255.2.2 = 0 then (if bt255.2.1 = 0 then (if (bt255.1.length : Int) = 5 then (if 3 < (bt255.1.length : Int) then ((interleaveref31_Same.f k (rd_L1 bt255.1 3) (([(-2)] : List Int))).bind fun t273 => (if t273 = true then (if bt260.1 = 0 then (if bt260.2 = 0 then (if bt267.1 = 4 then (some (bt267.2 == 15)) else (none)) else (none)) else (none)) else (none))) else (none)) else (none)) else (none)) else (none))) else (none))))
theorem interleavelaw33_awake.mono : ∀ k, LeO (interleavelaw33_awake.f k ) (interleavelaw33_awake.f (k + 1) ) := by
 intro  k
 unfold interleavelaw33_awake.f
 repeat' first
   | (with_reducible exact interleaveref31_Same.mono _ _ _)
   | (with_reducible exact proof_Check.mono _ _ _ _ _ _)
   | (with_reducible exact proof_Clauses.mono _ _ _ _ _ _)
   | (with_reducible exact LeO.refl _)
   | (with_reducible exact LeO.none _)
   | (with_reducible refine LeO.ite ?_ ?_)
   | (with_reducible refine LeO.bind ?_ (fun _ => ?_))
   | exact interleaveref31_Same.mono _ _ _
   | exact proof_Check.mono _ _ _ _ _ _
   | exact proof_Clauses.mono _ _ _ _ _ _
   | exact LeO.none _
   | refine LeO.ite ?_ ?_
   | refine LeO.bind ?_ (fun _ => ?_)
def interleavelaw33_awake.T4 : Bool × List (List Nat × List Nat) := (true, [([], []), ([], []), ([1], [1]), ([0, 2], [0, 2]), ([3], [3]), ([4], [4]), ([4], [4]), ([5, 3, 0, 1, 2, 3, 4, 5], [5]), ([6, 7, 0, 1, 2, 3, 4, 5, 6, 7], [6])])
def interleavelaw33_awake.B4 : List Nat := [0, 0, 2, 7, 15, 31, 31, 63, 255]
theorem interleavelaw33_awake.tab4 : rtab .any (opsOf Tryd.f5 4) = interleavelaw33_awake.T4 := by kernel_rfl
theorem interleavelaw33_awake.bits4 : waitsOk interleavelaw33_awake.T4.2 interleavelaw33_awake.B4 = true := by kernel_rfl
set_option maxHeartbeats 8000000 in
set_option maxRecDepth 100000 in
theorem interleavelaw33_awake.calls (k : Nat)  (r : Bool) (w : World) (h : interleavelaw33_awake.f k  = some r) :
  Calls Tryd.prog 5 #[] w fun e w' => e = .returned (.bool r) ∧ Below w.heap.size w w' := by
 have hu32 := Tryd.underlying32
 have HB := Aside0.mk (Below.refl w.heap.size w)
 have H : ((interleavelaw33_example.f).bind fun bt243 => ((proof_Clauses.f k bt243.1 bt243.2.1 bt243.2.2.1 bt243.2.2.2.1 bt243.2.2.2.2).bind fun bt255 => ((proof_Check.f k bt243.1 bt243.2.1 bt243.2.2.1 bt243.2.2.2.1 bt243.2.2.2.2).bind fun bt260 => (if 4 ≤ (bt243.2.2.2.2.length : Int) then ((proof_Check.f k bt243.1 bt243.2.1 bt243.2.2.1 bt243.2.2.2.1 (bt243.2.2.2.2.take 4)).bind fun bt267 => (if bt255.2.2 = 0 then (if bt255.2.1 = 0 then (if (bt255.1.length : Int) = 5 then (if 3 < (bt255.1.length : Int) then ((interleaveref31_Same.f k (rd_L1 bt255.1 3) (([(-2)] : List Int))).bind fun t273 => (if t273 = true then (if bt260.1 = 0 then (if bt260.2 = 0 then (if bt267.1 = 4 then (some (bt267.2 == 15)) else (none)) else (none)) else (none)) else (none))) else (none)) else (none)) else (none)) else (none))) else (none))))) = some r := h
 clear h
 replace H := Option.bind_eq_some_iff.mp H
 obtain ⟨⟨t243, t244, t245, t248, t251⟩, A10, H⟩ := H
 replace H : ((proof_Clauses.f k t243 t244 t245 t248 t251).bind fun bt255 => ((proof_Check.f k t243 t244 t245 t248 t251).bind fun bt260 => (if 4 ≤ (t251.length : Int) then ((proof_Check.f k t243 t244 t245 t248 (t251.take 4)).bind fun bt267 => (if bt255.2.2 = 0 then (if bt255.2.1 = 0 then (if (bt255.1.length : Int) = 5 then (if 3 < (bt255.1.length : Int) then ((interleaveref31_Same.f k (rd_L1 bt255.1 3) (([(-2)] : List Int))).bind fun t273 => (if t273 = true then (if bt260.1 = 0 then (if bt260.2 = 0 then (if bt267.1 = 4 then (some (bt267.2 == 15)) else (none)) else (none)) else (none)) else (none))) else (none)) else (none)) else (none)) else (none))) else (none)))) = some r := H
 have A1 := Aside0.mk A10
 clear A10
 replace H := Option.bind_eq_some_iff.mp H
 obtain ⟨⟨t255, t258, t259⟩, A20, H⟩ := H
 replace H : ((proof_Check.f k t243 t244 t245 t248 t251).bind fun bt260 => (if 4 ≤ (t251.length : Int) then ((proof_Check.f k t243 t244 t245 t248 (t251.take 4)).bind fun bt267 => (if t259 = 0 then (if t258 = 0 then (if (t255.length : Int) = 5 then (if 3 < (t255.length : Int) then ((interleaveref31_Same.f k (rd_L1 t255 3) (([(-2)] : List Int))).bind fun t273 => (if t273 = true then (if bt260.1 = 0 then (if bt260.2 = 0 then (if bt267.1 = 4 then (some (bt267.2 == 15)) else (none)) else (none)) else (none)) else (none))) else (none)) else (none)) else (none)) else (none))) else (none))) = some r := H
 have A2 := Aside0.mk A20
 clear A20
 replace H := Option.bind_eq_some_iff.mp H
 obtain ⟨⟨t260, t261⟩, A30, H⟩ := H
 replace H : (if 4 ≤ (t251.length : Int) then ((proof_Check.f k t243 t244 t245 t248 (t251.take 4)).bind fun bt267 => (if t259 = 0 then (if t258 = 0 then (if (t255.length : Int) = 5 then (if 3 < (t255.length : Int) then ((interleaveref31_Same.f k (rd_L1 t255 3) (([(-2)] : List Int))).bind fun t273 => (if t273 = true then (if t260 = 0 then (if t261 = 0 then (if bt267.1 = 4 then (some (bt267.2 == 15)) else (none)) else (none)) else (none)) else (none))) else (none)) else (none)) else (none)) else (none))) else (none)) = some r := H
 have A3 := Aside0.mk A30
 clear A30
 by_cases c4 : 4 ≤ (t251.length : Int)
 ·rw [if_pos c4] at H
  have c4b0 := eq_true c4
  have c4b1 : decide (4 ≤ (t251.length : Int)) = true := decide_eq_true c4
  clear c4
  obtain ⟨y262, hy262⟩ : ∃ y_ : List (S28), y_ = (t251.take 4) := ⟨_, rfl⟩
  replace H : ((proof_Check.f k t243 t244 t245 t248 y262).bind fun bt267 => (if t259 = 0 then (if t258 = 0 then (if (t255.length : Int) = 5 then (if 3 < (t255.length : Int) then ((interleaveref31_Same.f k (rd_L1 t255 3) (([(-2)] : List Int))).bind fun t273 => (if t273 = true then (if t260 = 0 then (if t261 = 0 then (if bt267.1 = 4 then (some (bt267.2 == 15)) else (none)) else (none)) else (none)) else (none))) else (none)) else (none)) else (none)) else (none))) = some r := by first | (rw [hy262]; with_reducible exact H) | (have H2_ := (Option.bind_some _ _).symm.trans H; rw [hy262]; with_reducible exact H2_) | (have H2_ := (Option.bind_some _ _).symm.trans H; with_reducible exact H2_) | with_reducible exact H | (rw [hy262]; exact H) | exact H
  have Ny262 := Aside0.mk hy262
  clear hy262
  replace H := Option.bind_eq_some_iff.mp H
  obtain ⟨⟨t267, t268⟩, A50, H⟩ := H
  replace H : (if t259 = 0 then (if t258 = 0 then (if (t255.length : Int) = 5 then (if 3 < (t255.length : Int) then ((interleaveref31_Same.f k (rd_L1 t255 3) (([(-2)] : List Int))).bind fun t273 => (if t273 = true then (if t260 = 0 then (if t261 = 0 then (if t267 = 4 then (some (t268 == 15)) else (none)) else (none)) else (none)) else (none))) else (none)) else (none)) else (none)) else (none)) = some r := H
  have A5 := Aside0.mk A50
  clear A50
  by_cases c6 : t259 = 0
  ·rw [if_pos c6] at H
   have c6b0 : (t259 == 0) = true := beq_iff_eq.mpr c6
   have c6b1 : (t259 != 0) = false := bne_eq_false_iff_eq.mpr c6
   clear c6
   by_cases c7 : t258 = 0
   ·rw [if_pos c7] at H
    have c7b0 : (t258 == 0) = true := beq_iff_eq.mpr c7
    have c7b1 : (t258 != 0) = false := bne_eq_false_iff_eq.mpr c7
    clear c7
    by_cases c8 : (t255.length : Int) = 5
    ·rw [if_pos c8] at H
     have c8b0 : ((t255.length : Int) == 5) = true := beq_iff_eq.mpr c8
     have c8b1 : ((t255.length : Int) != 5) = false := bne_eq_false_iff_eq.mpr c8
     clear c8
     by_cases c9 : 3 < (t255.length : Int)
     ·rw [if_pos c9] at H
      have c9b0 : decide (3 < (t255.length : Int)) = true := decide_eq_true c9
      have c9b1 : decide (3 < t255.length) = true := decide_eq_true (by omega)
      clear c9
      obtain ⟨y270, hy270⟩ : ∃ y_ : List Int, y_ = (([(-2)] : List Int)) := ⟨_, rfl⟩
      replace H : ((interleaveref31_Same.f k (rd_L1 t255 3) y270).bind fun t273 => (if t273 = true then (if t260 = 0 then (if t261 = 0 then (if t267 = 4 then (some (t268 == 15)) else (none)) else (none)) else (none)) else (none))) = some r := by first | (rw [hy270]; with_reducible exact H) | (have H2_ := (Option.bind_some _ _).symm.trans H; rw [hy270]; with_reducible exact H2_) | (have H2_ := (Option.bind_some _ _).symm.trans H; with_reducible exact H2_) | with_reducible exact H | (rw [hy270]; exact H) | exact H
      have Ny270 := Aside0.mk hy270
      clear hy270
      replace H := Option.bind_eq_some_iff.mp H
      obtain ⟨t273, A100, H⟩ := H
      replace H : (if t273 = true then (if t260 = 0 then (if t261 = 0 then (if t267 = 4 then (some (t268 == 15)) else (none)) else (none)) else (none)) else (none)) = some r := H
      have A10 := Aside0.mk A100
      clear A100
      by_cases c11 : t273 = true
      ·subst c11
       have H1 : (if t260 = 0 then (if t261 = 0 then (if t267 = 4 then (some (t268 == 15)) else (none)) else (none)) else (none)) = some r := by rw [if_pos rfl] at H; exact H
       clear H
       have H := H1
       clear H1
       by_cases c12 : t260 = 0
       ·rw [if_pos c12] at H
        have c12b0 : (t260 == 0) = true := beq_iff_eq.mpr c12
        have c12b1 : (t260 != 0) = false := bne_eq_false_iff_eq.mpr c12
        clear c12
        by_cases c13 : t261 = 0
        ·rw [if_pos c13] at H
         have c13b0 : (t261 == 0) = true := beq_iff_eq.mpr c13
         have c13b1 : (t261 != 0) = false := bne_eq_false_iff_eq.mpr c13
         clear c13
         by_cases c14 : t267 = 4
         ·rw [if_pos c14] at H
          have c14b0 : (t267 == 4) = true := beq_iff_eq.mpr c14
          have c14b1 : (t267 != 4) = false := bne_eq_false_iff_eq.mpr c14
          clear c14
          obtain rfl := Option.some.inj H
          go_enter Tryd.func5, Tryd.ntmps5
          try go_wp2_with (first | ((with_reducible refine gate_callee (f := 8) rfl ?_); refine goesM_ Tryd.func8 #[] ?_; (with_reducible refine (interleavelaw33_example.calls  t243 t244 t245 t248 t251 _ A1.out).mono ?_); rintro e w15 ⟨v246, v249, v252, rfl, ho0, ho1, ho2, hb⟩; refine ⟨_, rfl, ?_⟩; have n0_ := Aside0.mk (Kd.R_lower (Kd.R_mono (ok' := fun k_ => True) ho0 (fun _ hk_ => trivial)) (below_size HB.l)); have n1_ := Aside0.mk (Kd.N_lower (Kd.N_mono (ok' := fun k_ => some k_ ≠ (v246 : Value).ownBlock ∧ some k_ ≠ (v252 : Value).ownBlock) ho1 (fun k_ hk_ => ⟨hk_.2.1, hk_.2.2⟩)) (below_size HB.l)); have n2_ := Aside0.mk (Kd.N_lower (Kd.N_mono (ok' := fun k_ => some k_ ≠ (v246 : Value).ownBlock ∧ some k_ ≠ (v249 : Value).ownBlock) ho2 (fun k_ hk_ => ⟨hk_.2.1, hk_.2.2⟩)) (below_size HB.l)); have n3_ := Aside0.mk (below_step HB.l hb); clear HB; revert n0_ n1_ n2_ n3_; intro HO247 HO250 HO253 HB; (try clear hb); (try clear hb2); (try clear hk); (try clear hi); (try clear ho0); (try clear ho1); (try clear ho2)) | ((with_reducible refine gate_dst (N := 1) rfl ?_); (try (refine gate_guard (by rfl) ?_; dsimp only)); refine box_ev (N := 1) rfl (cs := #[.int .i64 0, .int .i64 0, .slice none 0 0, .slice none 0 0]) (t := 32) ?_; intro gb254 hg w16 hbox hb; have n0_ := Aside0.mk (Kd.R_below HO247.r hb); have n1_ := Aside0.mk (Kd.N_below (Kd.N_elderB HO250.n gb254 (Nat.le_of_eq hg.symm)) hb); have n2_ := Aside0.mk (Kd.N_below (Kd.N_elderB HO253.n gb254 (Nat.le_of_eq hg.symm)) hb); have n3_ := Aside0.mk (below_step HB.l hb); have n4_ := Aside0.mk (hbox); have n5_ := Aside0.mk ((by rw [hg]; exact (below_size HB.l) : w.heap.size ≤ gb254)); have n6_ := Aside0.mk ((by rw [hg]; exact (below_size HB.l) : w.heap.size ≤ gb254)); clear HO247 HO250 HO253 HB; revert n0_ n1_ n2_ n3_ n4_ n5_ n6_; intro HO247 HO250 HO253 HB BK254 GW254 GE254; clear hb hbox hg; have hcz17_0 := BK254.cl 0 (.int .i64 0); have hcz17_1 := BK254.cl 1 (.int .i64 0); have hcz17_2 := BK254.cl 2 (.slice none 0 0); have hcz17_3 := BK254.cl 3 (.slice none 0 0); have hfz17_0 := BK254.fz 0; have hfz17_1 := BK254.fz 1; have hfz17_2 := BK254.fz 2; have hfz17_3 := BK254.fz 3; obtain ⟨Ao18, co18, eo18⟩ := Kd.R_slice HO247.out; subst eo18; obtain ⟨Ao19, co19, eo19⟩ := Kd.N_slice HO250.out; subst eo19; obtain ⟨Ao20, co20, eo20⟩ := Kd.N_slice HO253.out; subst eo20) | ((with_reducible refine gate_callee (f := 9) rfl ?_); refine goesM_ Tryd.func9 #[.agg #[.int .i64 t243, .int .i64 t244, .slice Ao18 t245.length co18, .slice Ao19 t248.length co19], .slice Ao20 t251.length co20] ?_; (with_reducible refine (proof_Clauses.calls k t243 t244 _ _ t245 _ _ t248 _ _ t251 t255 t258 t259 _ ?side1 ?side2 ?side3 ?side4 ?side5 ?side6 A2.out).mono ?_); (case side1 => refine (Kd.R_reads' (e := 53) (base := w.heap.size) (ok := fun k_ => True) (n := t245.length) (c := co18) ?_).2.2; exact (by (with_reducible repeat (first | apply Kd.R_alloc | apply Kd.R_drewN | apply Kd.R_drew)); exact (Kd.R_mono (Kd.R_far (p := ⟨gb254, 3, none⟩) (Kd.R_far (p := ⟨gb254, 2, none⟩) (Kd.R_far (p := ⟨gb254, 1, none⟩) (Kd.R_far (p := ⟨gb254, 0, none⟩) (Kd.R_types HO247.out BK254.out (by decide)) (fun _ hk => hk.2) (.int .i64 t243)) (fun _ hk => hk.2) (.int .i64 t244)) (fun _ hk => hk.2) (.slice Ao18 t245.length co18)) (fun _ hk => hk.2) (.slice Ao19 t248.length co19)) (fun _ h_ => h_.1)))); (case side2 => exact (Kd.R_reads' HO247.out).2.1); (case side3 => refine (Kd.N_reads' (e := 26) (base := w.heap.size) (ok := fun k_ => ((some k_ ≠ (.slice Ao18 t245.length co18 : Value).ownBlock ∧ some k_ ≠ (.slice Ao20 t251.length co20 : Value).ownBlock) ∧ k_ ≠ gb254)) (n := t248.length) (c := co19) ?_).2.2; exact (by (with_reducible repeat (first | apply Kd.N_alloc | apply Kd.N_drewN | apply Kd.N_drew)); exact (Kd.N_mono (Kd.N_far (p := ⟨gb254, 3, none⟩) (Kd.N_far (p := ⟨gb254, 2, none⟩) (Kd.N_far (p := ⟨gb254, 1, none⟩) (Kd.N_far (p := ⟨gb254, 0, none⟩) (Kd.N_mono HO250.out (fun k_ hk => (⟨hk, hk.2⟩ : _ ∧ k_ ≠ gb254))) (fun _ hk => hk.2) (.int .i64 t243)) (fun _ hk => hk.2) (.int .i64 t244)) (fun _ hk => hk.2) (.slice Ao18 t245.length co18)) (fun _ hk => hk.2) (.slice Ao19 t248.length co19)) (fun _ h_ => h_.1)))); (case side4 => exact (Kd.N_reads' HO250.out).2.1); (case side5 => refine (Kd.N_reads' (e := 28) (base := w.heap.size) (ok := fun k_ => ((some k_ ≠ (.slice Ao18 t245.length co18 : Value).ownBlock ∧ some k_ ≠ (.slice Ao19 t248.length co19 : Value).ownBlock) ∧ k_ ≠ gb254)) (n := t251.length) (c := co20) ?_).2.2; exact (by (with_reducible repeat (first | apply Kd.N_alloc | apply Kd.N_drewN | apply Kd.N_drew)); exact (Kd.N_mono (Kd.N_far (p := ⟨gb254, 3, none⟩) (Kd.N_far (p := ⟨gb254, 2, none⟩) (Kd.N_far (p := ⟨gb254, 1, none⟩) (Kd.N_far (p := ⟨gb254, 0, none⟩) (Kd.N_mono HO253.out (fun k_ hk => (⟨hk, hk.2⟩ : _ ∧ k_ ≠ gb254))) (fun _ hk => hk.2) (.int .i64 t243)) (fun _ hk => hk.2) (.int .i64 t244)) (fun _ hk => hk.2) (.slice Ao18 t245.length co18)) (fun _ hk => hk.2) (.slice Ao19 t248.length co19)) (fun _ h_ => h_.1)))); (case side6 => exact (Kd.N_reads' HO253.out).2.1); rintro e w21 ⟨v256, rfl, ho0, hb⟩; refine ⟨_, rfl, ?_⟩; have n0_ := Aside0.mk (Kd.R_below (by (with_reducible repeat (first | apply Kd.R_alloc | apply Kd.R_drewN | apply Kd.R_drew)); exact (Kd.R_mono (Kd.R_far (p := ⟨gb254, 3, none⟩) (Kd.R_far (p := ⟨gb254, 2, none⟩) (Kd.R_far (p := ⟨gb254, 1, none⟩) (Kd.R_far (p := ⟨gb254, 0, none⟩) (Kd.R_types HO247.out BK254.out (by decide)) (fun _ hk => hk.2) (.int .i64 t243)) (fun _ hk => hk.2) (.int .i64 t244)) (fun _ hk => hk.2) (.slice Ao18 t245.length co18)) (fun _ hk => hk.2) (.slice Ao19 t248.length co19)) (fun _ h_ => h_.1))) hb); have n1_ := Aside0.mk (Kd.N_elder' (by (with_reducible repeat (first | apply Kd.N_alloc | apply Kd.N_drewN | apply Kd.N_drew)); exact (Kd.N_mono (Kd.N_far (p := ⟨gb254, 3, none⟩) (Kd.N_far (p := ⟨gb254, 2, none⟩) (Kd.N_far (p := ⟨gb254, 1, none⟩) (Kd.N_far (p := ⟨gb254, 0, none⟩) (Kd.N_mono HO250.out (fun k_ hk => (⟨hk, hk.2⟩ : _ ∧ k_ ≠ gb254))) (fun _ hk => hk.2) (.int .i64 t243)) (fun _ hk => hk.2) (.int .i64 t244)) (fun _ hk => hk.2) (.slice Ao18 t245.length co18)) (fun _ hk => hk.2) (.slice Ao19 t248.length co19)) (fun _ h_ => h_.1))) (Kd.S_base ho0) hb); have n2_ := Aside0.mk (Kd.N_elder' (by (with_reducible repeat (first | apply Kd.N_alloc | apply Kd.N_drewN | apply Kd.N_drew)); exact (Kd.N_mono (Kd.N_far (p := ⟨gb254, 3, none⟩) (Kd.N_far (p := ⟨gb254, 2, none⟩) (Kd.N_far (p := ⟨gb254, 1, none⟩) (Kd.N_far (p := ⟨gb254, 0, none⟩) (Kd.N_mono HO253.out (fun k_ hk => (⟨hk, hk.2⟩ : _ ∧ k_ ≠ gb254))) (fun _ hk => hk.2) (.int .i64 t243)) (fun _ hk => hk.2) (.int .i64 t244)) (fun _ hk => hk.2) (.slice Ao18 t245.length co18)) (fun _ hk => hk.2) (.slice Ao19 t248.length co19)) (fun _ h_ => h_.1))) (Kd.S_base ho0) hb); have n3_ := Aside0.mk (Kd.N_lower (Kd.N_mono (ok' := fun k_ => some k_ ≠ (.slice Ao18 t245.length co18 : Value).ownBlock ∧ some k_ ≠ (.slice Ao19 t248.length co19 : Value).ownBlock ∧ some k_ ≠ (.slice Ao20 t251.length co20 : Value).ownBlock ∧ k_ ≠ gb254) (Kd.S_N (Kd.S_bound ho0)) (fun k_ hk_ => ⟨(Kd.fresh' (Kd.R_lt (by (with_reducible repeat (first | apply Kd.R_alloc | apply Kd.R_drewN | apply Kd.R_drew)); exact (Kd.R_mono (Kd.R_far (p := ⟨gb254, 3, none⟩) (Kd.R_far (p := ⟨gb254, 2, none⟩) (Kd.R_far (p := ⟨gb254, 1, none⟩) (Kd.R_far (p := ⟨gb254, 0, none⟩) (Kd.R_types HO247.out BK254.out (by decide)) (fun _ hk => hk.2) (.int .i64 t243)) (fun _ hk => hk.2) (.int .i64 t244)) (fun _ hk => hk.2) (.slice Ao18 t245.length co18)) (fun _ hk => hk.2) (.slice Ao19 t248.length co19)) (fun _ h_ => h_.1)))) k_ hk_.2.1), (Kd.fresh' (Kd.N_lt (by (with_reducible repeat (first | apply Kd.N_alloc | apply Kd.N_drewN | apply Kd.N_drew)); exact (Kd.N_mono (Kd.N_far (p := ⟨gb254, 3, none⟩) (Kd.N_far (p := ⟨gb254, 2, none⟩) (Kd.N_far (p := ⟨gb254, 1, none⟩) (Kd.N_far (p := ⟨gb254, 0, none⟩) (Kd.N_mono HO250.out (fun k_ hk => (⟨hk, hk.2⟩ : _ ∧ k_ ≠ gb254))) (fun _ hk => hk.2) (.int .i64 t243)) (fun _ hk => hk.2) (.int .i64 t244)) (fun _ hk => hk.2) (.slice Ao18 t245.length co18)) (fun _ hk => hk.2) (.slice Ao19 t248.length co19)) (fun _ h_ => h_.1)))) k_ hk_.2.1), (Kd.fresh' (Kd.N_lt (by (with_reducible repeat (first | apply Kd.N_alloc | apply Kd.N_drewN | apply Kd.N_drew)); exact (Kd.N_mono (Kd.N_far (p := ⟨gb254, 3, none⟩) (Kd.N_far (p := ⟨gb254, 2, none⟩) (Kd.N_far (p := ⟨gb254, 1, none⟩) (Kd.N_far (p := ⟨gb254, 0, none⟩) (Kd.N_mono HO253.out (fun k_ hk => (⟨hk, hk.2⟩ : _ ∧ k_ ≠ gb254))) (fun _ hk => hk.2) (.int .i64 t243)) (fun _ hk => hk.2) (.int .i64 t244)) (fun _ hk => hk.2) (.slice Ao18 t245.length co18)) (fun _ hk => hk.2) (.slice Ao19 t248.length co19)) (fun _ h_ => h_.1)))) k_ hk_.2.1), (Kd.freshB (g := gb254) (o := .cells #[.int .i64 t243, .int .i64 t244, .slice Ao18 t245.length co18, .slice Ao19 t248.length co19] 32 (0, 0)) (by (with_reducible repeat (first | refine blk_drewN ?_ _ | refine blk_drew ?_ | refine blk_alloc ?_ _)); refine blk_put (cs := #[.int .i64 t243, .int .i64 t244, .slice Ao18 t245.length co18, .slice none 0 0]) ?_ 3 _ rfl; (with_reducible repeat (first | refine blk_drewN ?_ _ | refine blk_drew ?_ | refine blk_alloc ?_ _)); refine blk_put (cs := #[.int .i64 t243, .int .i64 t244, .slice none 0 0, .slice none 0 0]) ?_ 2 _ rfl; (with_reducible repeat (first | refine blk_drewN ?_ _ | refine blk_drew ?_ | refine blk_alloc ?_ _)); refine blk_put (cs := #[.int .i64 t243, .int .i64 0, .slice none 0 0, .slice none 0 0]) ?_ 1 _ rfl; (with_reducible repeat (first | refine blk_drewN ?_ _ | refine blk_drew ?_ | refine blk_alloc ?_ _)); refine blk_put (cs := #[.int .i64 0, .int .i64 0, .slice none 0 0, .slice none 0 0]) ?_ 0 _ rfl; (with_reducible repeat (first | refine blk_drewN ?_ _ | refine blk_drew ?_ | refine blk_alloc ?_ _)); exact BK254.out) k_ hk_.2.1)⟩)) (below_size HB.l)); have n4_ := Aside0.mk (blk_below (g := gb254) (o := .cells #[.int .i64 t243, .int .i64 t244, .slice Ao18 t245.length co18, .slice Ao19 t248.length co19] 32 (0, 0)) (by (with_reducible repeat (first | refine blk_drewN ?_ _ | refine blk_drew ?_ | refine blk_alloc ?_ _)); refine blk_put (cs := #[.int .i64 t243, .int .i64 t244, .slice Ao18 t245.length co18, .slice none 0 0]) ?_ 3 _ rfl; (with_reducible repeat (first | refine blk_drewN ?_ _ | refine blk_drew ?_ | refine blk_alloc ?_ _)); refine blk_put (cs := #[.int .i64 t243, .int .i64 t244, .slice none 0 0, .slice none 0 0]) ?_ 2 _ rfl; (with_reducible repeat (first | refine blk_drewN ?_ _ | refine blk_drew ?_ | refine blk_alloc ?_ _)); refine blk_put (cs := #[.int .i64 t243, .int .i64 0, .slice none 0 0, .slice none 0 0]) ?_ 1 _ rfl; (with_reducible repeat (first | refine blk_drewN ?_ _ | refine blk_drew ?_ | refine blk_alloc ?_ _)); refine blk_put (cs := #[.int .i64 0, .int .i64 0, .slice none 0 0, .slice none 0 0]) ?_ 0 _ rfl; (with_reducible repeat (first | refine blk_drewN ?_ _ | refine blk_drew ?_ | refine blk_alloc ?_ _)); exact BK254.out) hb); have n5_ := Aside0.mk (below_step HB.l hb); clear HO247 HO250 HO253 BK254 HB; revert n0_ n1_ n2_ n3_ n4_ n5_; intro HO247 HO250 HO253 HO257 BK254 HB; (try clear hb); (try clear hb2); (try clear hk); (try clear hi); (try clear ho0); have hcz22_0 := BK254.cl 0 (.int .i64 t243); have hcz22_1 := BK254.cl 1 (.int .i64 t244); have hcz22_2 := BK254.cl 2 (.slice Ao18 t245.length co18); have hcz22_3 := BK254.cl 3 (.slice Ao19 t248.length co19); have hfz22_0 := BK254.fz 0; have hfz22_1 := BK254.fz 1; have hfz22_2 := BK254.fz 2; have hfz22_3 := BK254.fz 3) | ((with_reducible refine gate_callee (f := 10) rfl ?_); refine goesM_ Tryd.func10 #[.agg #[.int .i64 t243, .int .i64 t244, .slice Ao18 t245.length co18, .slice Ao19 t248.length co19], .slice Ao20 t251.length co20] ?_; (with_reducible refine (proof_Check.calls k t243 t244 _ _ t245 _ _ t248 _ _ t251 t260 t261 _ ?side1 ?side2 ?side3 ?side4 ?side5 ?side6 A3.out).mono ?_); (case side1 => repeat (first | exact (Kd.R_reads' HO247.out).2.2 | (with_reducible refine Kd.C_alloc ?_ _) | (with_reducible refine Kd.C_drewN ?_ _) | (with_reducible refine Kd.C_drew ?_))); (case side2 => exact (Kd.R_reads' HO247.out).2.1); (case side3 => repeat (first | exact (Kd.N_reads' HO250.out).2.2 | (with_reducible refine Kd.C_alloc ?_ _) | (with_reducible refine Kd.C_drewN ?_ _) | (with_reducible refine Kd.C_drew ?_))); (case side4 => exact (Kd.N_reads' HO250.out).2.1); (case side5 => repeat (first | exact (Kd.N_reads' HO253.out).2.2 | (with_reducible refine Kd.C_alloc ?_ _) | (with_reducible refine Kd.C_drewN ?_ _) | (with_reducible refine Kd.C_drew ?_))); (case side6 => exact (Kd.N_reads' HO253.out).2.1); rintro e w23 ⟨rfl, hb⟩; refine ⟨_, rfl, ?_⟩; have n0_ := Aside0.mk (Kd.R_below HO247.r hb); have n1_ := Aside0.mk (Kd.N_below HO250.n hb); have n2_ := Aside0.mk (Kd.N_below HO253.n hb); have n3_ := Aside0.mk (Kd.N_below HO257.n hb); have n4_ := Aside0.mk (blk_below BK254.b hb); have n5_ := Aside0.mk (below_step HB.l hb); clear HO247 HO250 HO253 HO257 BK254 HB; revert n0_ n1_ n2_ n3_ n4_ n5_; intro HO247 HO250 HO253 HO257 BK254 HB; (try clear hb); (try clear hb2); (try clear hk); (try clear hi)))
          have n0_ := Aside0.mk (Kd.R_drew HO247.out)
          have n1_ := Aside0.mk (Kd.N_drew HO250.out)
          have n2_ := Aside0.mk (Kd.N_drew HO253.out)
          have n3_ := Aside0.mk (Kd.N_drew HO257.out)
          have n4_ := Aside0.mk (blk_drew BK254.out)
          have n5_ := Aside0.mk (below_drew1 HB.out)
          clear HO247 HO250 HO253 HO257 BK254 HB; revert n0_ n1_ n2_ n3_ n4_ n5_; intro HO247 HO250 HO253 HO257 BK254 HB
          have q25 : (4 : Int) ≤ ((t251.length : Int) : Int) := of_decide_eq_true (by first | (with_reducible assumption) | assumption)
          obtain ⟨i025, hi025, _, hsz25, _⟩ := info_parts info28
          have hroom25 : t251.length ≤ co20 := (Kd.N_reads' HO253.out).2.1
          have hC25 : Kd.F k28 _ _ Ao20 t251.length t251 := (Kd.V_at (base := w.heap.size) (Kd.N_V HO253.out)).2.2
          have hcut25 := cut_to (P := Tryd.prog) 22 28 .i64 Tryd.underlying22 hi025 Ao20 t251.length co20 4 (by omega) q25 hroom25
          have hr25 := Kd.F_take (m := 4) hC25 (by omega)
          have hy25 : y262.length = (4 : Int).toNat := (by rw [Ny262.out, List.length_take]; omega)
          rw [← Ny262.out] at hr25
          rw [← hy25] at hcut25
          have HO266 := Aside0.mk (show Kd.V k28 28 _ w.heap.size _ (.slice Ao20 y262.length co20) y262 from Kd.V_mk (by omega) hr25)
          have HC266 := Aside0.mk (show y262.length ≤ co20 from by omega)
          clear hr25 hC25 hroom25 hi025 hsz25
          have KY25 := Aside0.mk hy25
          clear hy25
          replace q25 := eq_true q25
          refine start_ (n := 9) (S := fun w' => w'.cell? ⟨gb254, 0, none⟩ = some (.int .i64 t243) ∧ w'.cell? ⟨gb254, 1, none⟩ = some (.int .i64 t244) ∧ w'.cell? ⟨gb254, 2, none⟩ = some (.slice Ao18 t245.length co18) ∧ w'.cell? ⟨gb254, 3, none⟩ = some (.slice Ao19 t248.length co19)) (ds := []) #[false, false, false, false, false, false, false, false, false] (by kernel_rfl) rfl rfl ⟨(blk_cell BK254.out 0).trans rfl, (blk_cell BK254.out 1).trans rfl, (blk_cell BK254.out 2).trans rfl, (blk_cell BK254.out 3).trans rfl⟩ (fun hHeld => ?_); refine with_tabW interleavelaw33_awake.tab4 interleavelaw33_awake.bits4 (fun HT_ HW_ => ?_)
          generalize w23.drew = w24 at HO247 HO250 HO253 HO257 BK254 HB HO266 hHeld ⊢
          refine pure_ (i := 1) (N := some 29) (v := ?_) (a' := ?_) #[false, true, false, false, false, false, false, false, false] rfl rfl (any_of HT_.out (by kernel_rfl)) (fun _ _ _ h => h) (Or.inl ⟨by rfl, ?_⟩) ?_ ?_
          rotate_left
          ·intro w'
           go_simp
           with_reducible rfl
          rotate_left
          ·simp only [Act.put, List.setIfInBounds_toArray, List.set_cons_zero, List.set_cons_succ, i64_w, i32_w]
           rfl
          refine pure_ (i := 2) (N := some 30) (v := ?_) (a' := ?_) #[false, true, true, false, false, false, false, false, false] rfl rfl (any_of HT_.out (by kernel_rfl)) (fun _ _ _ h => h) (Or.inl ⟨by rfl, ?_⟩) ?_ ?_
          rotate_left
          ·intro w'
           go_simp
           with_reducible rfl
          rotate_left
          ·simp only [Act.put, List.setIfInBounds_toArray, List.set_cons_zero, List.set_cons_succ, i64_w, i32_w]
           rfl
          refine take_ (i := 0) (N := some 28) (v := ?_) (a' := ?_) #[true, true, true, false, false, false, false, false, false] rfl rfl (take_ofW HT_.out HW_.out (by kernel_rfl)) (fun _ _ _ h => h) (Or.inl ⟨by rfl, ?_⟩) hHeld ?_ ?_
          rotate_left
          ·rintro w' ⟨s0, s1, s2, s3⟩
           go_simp
           with_reducible rfl
          rotate_left
          ·simp only [Act.put, List.setIfInBounds_toArray, List.set_cons_zero, List.set_cons_succ, i64_w, i32_w]
           rfl
          refine one_ (i := 3) (N := some 31) #[true, true, true, true, false, false, false, false, false] rfl rfl (one_of HT_.out (by kernel_rfl)) (by decide) (fun K hK => ?_)
          refine goes_ Tryd.func10 (by kernel_rfl) rfl #[.agg #[.int .i64 t243, .int .i64 t244, .slice Ao18 t245.length co18, .slice Ao19 t248.length co19], .slice Ao20 y262.length co20] (by rfl) rfl rfl (by (try simp only [List.map_toArray, List.map_cons, List.map_nil]); first | done | rfl | (simp only [List.length_drop, List.length_take]; rfl)) ?_
          with_reducible refine (proof_Check.calls k t243 t244 _ _ t245 _ _ t248 _ _ y262 t267 t268 _ ?side1 ?side2 ?side3 ?side4 ?side5 ?side6 A5.out).mono ?_
          (case side1 => repeat (first | exact (Kd.R_reads' HO247.out).2.2 | (with_reducible refine Kd.C_alloc ?_ _) | (with_reducible refine Kd.C_drewN ?_ _) | (with_reducible refine Kd.C_drew ?_)))
          (case side2 => exact (Kd.R_reads' HO247.out).2.1)
          (case side3 => repeat (first | exact (Kd.N_reads' HO250.out).2.2 | (with_reducible refine Kd.C_alloc ?_ _) | (with_reducible refine Kd.C_drewN ?_ _) | (with_reducible refine Kd.C_drew ?_)))
          (case side4 => exact (Kd.N_reads' HO250.out).2.1)
          (case side5 => repeat (first | exact (Kd.V_reads' HO266.out).2.2 | (with_reducible refine Kd.C_alloc ?_ _) | (with_reducible refine Kd.C_drewN ?_ _) | (with_reducible refine Kd.C_drew ?_)))
          (case side6 => exact (Kd.V_reads' HO266.out).2.1)
          rintro e w26 ⟨rfl, hb⟩
          refine ⟨_, rfl, ?_⟩
          have n0_ := Aside0.mk (Kd.R_below HO247.r hb)
          have n1_ := Aside0.mk (Kd.N_below HO250.n hb)
          have n2_ := Aside0.mk (Kd.N_below HO253.n hb)
          have n3_ := Aside0.mk (Kd.N_below HO257.n hb)
          have n4_ := Aside0.mk (Kd.V_below (by (with_reducible repeat (first | apply Kd.V_alloc | apply Kd.V_drewN | apply Kd.V_drew)); exact HO266.out) hb)
          have n5_ := Aside0.mk (blk_below BK254.b hb)
          have n6_ := Aside0.mk (below_step HB.l hb)
          clear HO247 HO250 HO253 HO257 HO266 BK254 HB; revert n0_ n1_ n2_ n3_ n4_ n5_ n6_; intro HO247 HO250 HO253 HO257 HO266 BK254 HB
          (try clear hb)
          (try clear hb2)
          (try clear hk)
          (try clear hi)
          refine hK.out _ _ ⟨(blk_cell BK254.out 0).trans rfl, (blk_cell BK254.out 1).trans rfl, (blk_cell BK254.out 2).trans rfl, (blk_cell BK254.out 3).trans rfl⟩ (fun hHeld => ?_)
          clear hK K
          refine norm_ (a' := ?_) ?_ ?_
          rotate_left
          ·show Act.put _ (some 31) _ = _
           simp only [Act.put, List.setIfInBounds_toArray, List.set_cons_zero, List.set_cons_succ, i64_w, i32_w]
           rfl
          refine pure_ (i := 4) (N := some 27) (v := ?_) (a' := ?_) #[true, true, true, true, true, false, false, false, false] rfl rfl (any_of HT_.out (by kernel_rfl)) (fun _ _ _ h => h) (Or.inl ⟨by rfl, ?_⟩) ?_ ?_
          rotate_left
          ·intro w'
           go_simp
           with_reducible rfl
          rotate_left
          ·simp only [Act.put, List.setIfInBounds_toArray, List.set_cons_zero, List.set_cons_succ, i64_w, i32_w]
           rfl
          refine pure_ (i := 5) (N := some 32) (v := ?_) (a' := ?_) #[true, true, true, true, true, true, false, false, false] rfl rfl (any_of HT_.out (by kernel_rfl)) (fun _ _ _ h => h) (Or.inl ⟨by rfl, ?_⟩) ?_ ?_
          rotate_left
          ·intro w'
           go_simp
           with_reducible rfl
          rotate_left
          ·simp only [Act.put, List.setIfInBounds_toArray, List.set_cons_zero, List.set_cons_succ, i64_w, i32_w]
           rfl
          refine pure_ (i := 6) (N := some 33) (v := ?_) (a' := ?_) #[true, true, true, true, true, true, true, false, false] rfl rfl (any_of HT_.out (by kernel_rfl)) (fun _ _ _ h => h) (Or.inl ⟨by rfl, ?_⟩) ?_ ?_
          rotate_left
          ·intro w'
           go_simp
           with_reducible rfl
          rotate_left
          ·simp only [Act.put, List.setIfInBounds_toArray, List.set_cons_zero, List.set_cons_succ, i64_w, i32_w]
           rfl
          refine pure_ (i := 7) (N := some 8) (v := ?_) (a' := ?_) #[true, true, true, true, true, true, true, true, false] rfl rfl (any_of HT_.out (by kernel_rfl)) (fun _ _ _ h => h) (Or.inl ⟨by rfl, ?_⟩) ?_ ?_
          rotate_left
          ·intro w'
           go_simp
           with_reducible rfl
          rotate_left
          ·simp only [Act.put, List.setIfInBounds_toArray, List.set_cons_zero, List.set_cons_succ, i64_w, i32_w]
           rfl
          refine pure_ (i := 8) (N := some 9) (v := ?_) (a' := ?_) #[true, true, true, true, true, true, true, true, true] rfl rfl (any_of HT_.out (by kernel_rfl)) (fun _ _ _ h => h) (Or.inl ⟨by rfl, ?_⟩) ?_ ?_
          rotate_left
          ·intro w'
           go_simp
           with_reducible rfl
          rotate_left
          ·simp only [Act.put, List.setIfInBounds_toArray, List.set_cons_zero, List.set_cons_succ, i64_w, i32_w]
           rfl
          refine done_ (done_of HT_.out (by kernel_rfl)) ?_
          obtain ⟨Ao27, co27, eo27⟩ := Kd.N_slice HO257.out
          subst eo27
          have p269 : 0 ≤ (3 : Int) := (by omega)
          have q269 : 3 < (t255.length : Int) := of_decide_eq_true (by first | (with_reducible assumption) | assumption)
          obtain ⟨ad269, A269_0, c269_0, e269, hx269_0, hl269_0, hi269_0⟩ := at_L1 (Kd.N_reads' HO257.out).2.2 3 p269 q269
          cases e269
          obtain ⟨ce269, hce269, hMe269, hcc269⟩ := Kd.N_get HO257.out [] 3 p269 (by first | exact q269 | exact of_decide_eq_true (by first | (with_reducible assumption) | assumption) | (have e_ := (Kd.N_reads' HO257.out).1; omega))
          obtain ⟨ua269_0, uc269_0, rfl, ul269_0, ge269_0⟩ := Kd.FK_slice_open hMe269
          have hv269_0 := hcc269 0 _ rfl
          rw [Nat.add_zero, show ((Kd.slice 3 (Kd.int .i64))).sz = 1 from rfl, Nat.mul_one] at hv269_0
          replace hv269_0 := Option.some.inj (hv269_0.symm.trans hx269_0)
          injection hv269_0 with hva_ hvn_ hvc_
          rw [hva_] at ge269_0
          rw [hvc_] at ul269_0
          have HL269_0 := Aside0.mk (show Kd.V (Kd.int .i64) 3 _ w.heap.size _ _ (rd_L1 t255 3) from Kd.V_mk ul269_0 ge269_0)
          clear hva_ hvn_ hvc_ ge269_0 ul269_0
          clear hcc269 hce269
          (try simp only [show (3 : Int).toNat = 3 from rfl, Nat.reduceMul, Nat.reduceEqDiff, Go.Addr.add, ↓reduceIte] at hx269_0)
          have qi269 : (3 < t255.length) = True := eq_true (by omega)
          (try rw [show ((3 : Int)).toNat = 3 from rfl] at hx269_0)
          have HR269_0 := Aside0.mk hi269_0
          have HC269_0 := Aside0.mk hl269_0
          clear hi269_0 hl269_0
          replace p269 := eq_true p269
          replace q269 := eq_true q269
          try go_wp2_with (first | ((with_reducible refine gate_dst (N := 49) rfl ?_); (try (refine gate_guard (by rfl) ?_; dsimp only)); refine Kd.R_lit (Kd.int .i64) _ 3 ?hg (N := 49) ?hd (xs := ([(-2)] : List Int)) (inner := [.int .i64 (-2)]) (ok := fun _ => True) (okp := fun _ => True) ?hr ?hp (fun _ hk => hk) trivial (Below.refl _ _) (Nat.le_refl _) (by simp) ?_; (case hd => rfl); (case hg => rfl); (case hr => first | (go_simp; done) | (go_simp; rfl)); (case hp => exact (Reps.one (show Kd.M (Kd.int .i64) _ _ _ (-2) [.int .i64 (-2)] from rfl) (Reps.none _ _))); intro v271 w28 ho29 hb hg_ hnew_; clear hg_ hnew_; (first | rw [← Ny270.out] at ho29 | (simp only [Int.reduceToNat] at ho29; rw [← Ny270.out] at ho29)); have n0_ := Aside0.mk (Kd.R_below HO247.r hb); have n1_ := Aside0.mk (Kd.N_elder' HO250.n (Kd.R_base ho29) hb); have n2_ := Aside0.mk (Kd.N_elder' HO253.n (Kd.R_base ho29) hb); have n3_ := Aside0.mk (Kd.N_elder' HO257.n (Kd.R_base ho29) hb); have n4_ := Aside0.mk (Kd.V_elder' (by (with_reducible repeat (first | apply Kd.V_alloc | apply Kd.V_drewN | apply Kd.V_drew)); exact HO266.out) (Kd.R_base ho29) hb); have n5_ := Aside0.mk (Kd.V_elder' (by (with_reducible repeat (first | apply Kd.V_alloc | apply Kd.V_drewN | apply Kd.V_drew)); exact HL269_0.out) (Kd.R_base ho29) hb); have n6_ := Aside0.mk (Kd.R_lower ho29 (below_size HB.l)); have n7_ := Aside0.mk (blk_below BK254.b hb); have n8_ := Aside0.mk (Kd.C_below (by repeat (first | (with_reducible exact HR269_0.out) | (with_reducible refine Kd.C_alloc ?_ _) | (with_reducible refine Kd.C_drewN ?_ _) | (with_reducible refine Kd.C_drew ?_) | exact HR269_0.out)) hb); have n9_ := Aside0.mk (below_step HB.l hb); clear HO247 HO250 HO253 HO257 HO266 HL269_0 BK254 HR269_0 HB; revert n0_ n1_ n2_ n3_ n4_ n5_ n6_ n7_ n8_ n9_; intro HO247 HO250 HO253 HO257 HO266 HL269_0 HO272 BK254 HR269_0 HB; clear hb ho29; obtain ⟨Ao30, co30, eo30⟩ := Kd.R_slice HO272.out; subst eo30) | (go_at_call 11; (with_reducible refine (interleaveref31_Same.calls k _ _ (rd_L1 t255 3) _ _ y270 true _ ?side1 ?side2 ?side3 ?side4 A10.out).mono ?_); (case side1 => repeat (first | exact (by repeat (first | (with_reducible exact HR269_0.out) | (with_reducible refine Kd.C_alloc ?_ _) | (with_reducible refine Kd.C_drewN ?_ _) | (with_reducible refine Kd.C_drew ?_) | exact HR269_0.out)) | (with_reducible refine Kd.C_alloc ?_ _) | (with_reducible refine Kd.C_drewN ?_ _) | (with_reducible refine Kd.C_drew ?_))); (case side2 => exact HC269_0.out); (case side3 => repeat (first | exact (Kd.R_reads' HO272.out).2.2 | (with_reducible refine Kd.C_alloc ?_ _) | (with_reducible refine Kd.C_drewN ?_ _) | (with_reducible refine Kd.C_drew ?_))); (case side4 => exact (Kd.R_reads' HO272.out).2.1); rintro e w' ⟨rfl, ⟨nd, rfl⟩⟩))
          go_ret
          exact ⟨by first | rfl | (simp [errW_none, errW_some] <;> rfl) | (simp [*, errW_none, errW_some] <;> rfl), HB.l⟩
         ·rw [if_neg c14] at H
          exact absurd H (by simp)
        ·rw [if_neg c13] at H
         exact absurd H (by simp)
       ·rw [if_neg c12] at H
        exact absurd H (by simp)
      ·replace c11 := Bool.eq_false_iff.mpr c11
       subst c11
       have H1 : (none) = some r := by rw [if_neg (show ¬ (false = true) by decide)] at H; exact H
       clear H
       have H := H1
       clear H1
       exact absurd H (by simp)
     ·rw [if_neg c9] at H
      exact absurd H (by simp)
    ·rw [if_neg c8] at H
     exact absurd H (by simp)
   ·rw [if_neg c7] at H
    exact absurd H (by simp)
  ·rw [if_neg c6] at H
   exact absurd H (by simp)
 ·rw [if_neg c4] at H
  exact absurd H (by simp)

-- NOT PRINTED: function 22 (abi_NoEscape)

-- NOT PRINTED: function 17 (strings_Builder_copyCheck)

-- NOT PRINTED: function 12 (strings_Builder_WriteString)

end Go.Proofs.YtppbnjmhkifdaaaDoor.X
