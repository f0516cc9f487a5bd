-- Written by this session's own program (wip/tools/xprint.py).
import Derived.Test.YtppbnjmhkifdaaaX0
import Derived.Test.YtppbnjmhkifdaaaSx
import Derived.Test.YtppbnjmhkifdaaaX1
import Derived.Test.YtppbnjmhkifdaaaX3
import Derived.Test.YtppbnjmhkifdaaaX4
namespace Go.Proofs.Ytppbnjmhkifdaaa.X
open Go.RowKit Go.Proofs.YtppbnjmhkifdaaaW.PrintWords Go.Proofs.YtppbnjmhkifdaaaW.PrintLast Go.Proofs.YtppbnjmhkifdaaaW.PrintMore
attribute [local go_sem] max2_int min2_int max_two min_two max_three min_three max_four min_four   -- for this text's walks alone
set_option linter.unusedVariables false
set_option linter.unusedSimpArgs false

/-! ### proof_clause: function 39 -/
def proof_clause.f (k : Nat) (a0_0 : Int) (a0_1 : Int) (l0_2 : List (S75)) (l0_3 : List (List Int)) (l1 : List (List Int)) (a2_0 : Int) (a2_1 : Int) (l2_2 : List Int) (a2_3 : Int) (a2_4 : Int) (a2_5 : Int) : Option (List Int × Bool) := if a2_0 = 1 then ((proof_input.f k a0_0 a0_1 l0_2 l0_3 a2_0 a2_1 l2_2 a2_3 a2_4 a2_5).bind fun bt192 => (some (bt192.1, bt192.2))) else (if a2_0 = 2 then ((proof_cycle.f k a0_0 a0_1 l0_2 l0_3 a2_0 a2_1 l2_2 a2_3 a2_4 a2_5).bind fun bt196 => (some (bt196.1, bt196.2))) else (if a2_0 = 3 then ((proof_resolve.f k l1 a2_0 a2_1 l2_2 a2_3 a2_4 a2_5).bind fun bt200 => (some (bt200.1, bt200.2))) else (some (([] : List Int), false))))
theorem proof_clause.mono : ∀ a0 a1 a2 a3 a4 a5 a6 a7 a8 a9 a10 k, LeO (proof_clause.f k a0 a1 a2 a3 a4 a5 a6 a7 a8 a9 a10) (proof_clause.f (k + 1) a0 a1 a2 a3 a4 a5 a6 a7 a8 a9 a10) := by
 intro a0 a1 a2 a3 a4 a5 a6 a7 a8 a9 a10 k
 unfold proof_clause.f
 repeat' first
   | (with_reducible exact proof_cycle.mono _ _ _ _ _ _ _ _ _ _ _)
   | (with_reducible exact proof_input.mono _ _ _ _ _ _ _ _ _ _ _)
   | (with_reducible exact proof_resolve.mono _ _ _ _ _ _ _ _)
   | (with_reducible exact LeO.refl _)
   | (with_reducible exact LeO.none _)
   | (with_reducible refine LeO.ite ?_ ?_)
   | (with_reducible refine LeO.bind ?_ (fun _ => ?_))
   | exact proof_cycle.mono _ _ _ _ _ _ _ _ _ _ _
   | exact proof_input.mono _ _ _ _ _ _ _ _ _ _ _
   | exact proof_resolve.mono _ _ _ _ _ _ _ _
   | exact LeO.none _
   | refine LeO.ite ?_ ?_
   | refine LeO.bind ?_ (fun _ => ?_)
set_option maxHeartbeats 8000000 in
set_option maxRecDepth 100000 in
theorem proof_clause.calls (k : Nat) (a0_0 : Int) (a0_1 : Int) (A0_2 : Option Addr) (c0_2 : Nat) (l0_2 : List (S75)) (A0_3 : Option Addr) (c0_3 : Nat) (l0_3 : List (List Int)) (A1 : Option Addr) (c1 : Nat) (l1 : List (List Int)) (a2_0 : Int) (a2_1 : Int) (A2_2 : Option Addr) (c2_2 : Nat) (l2_2 : List Int) (a2_3 : Int) (a2_4 : Int) (a2_5 : Int) (r1 : List Int) (r2 : Bool) (w : World) (hr0_2 : Kd.C k75 w A0_2 l0_2.length l0_2) (hc0_2 : l0_2.length ≤ c0_2) (hr0_3 : Kd.C (Kd.slice 3 (Kd.int .i64)) w A0_3 l0_3.length l0_3) (hc0_3 : l0_3.length ≤ c0_3) (hr1 : Kd.C (Kd.slice 3 (Kd.int .i64)) w A1 l1.length l1) (hc1 : l1.length ≤ c1) (hr2_2 : Kd.C (Kd.int .i64) w A2_2 l2_2.length l2_2) (hc2_2 : l2_2.length ≤ c2_2) (h : proof_clause.f k a0_0 a0_1 l0_2 l0_3 l1 a2_0 a2_1 l2_2 a2_3 a2_4 a2_5 = some (r1, r2)) :
  Calls Try.prog 39 #[.agg #[.int .i64 a0_0, .int .i64 a0_1, .slice A0_2 l0_2.length c0_2, .slice A0_3 l0_3.length c0_3], .slice A1 l1.length c1, .agg #[.int .i64 a2_0, .int .i64 a2_1, .slice A2_2 l2_2.length c2_2, .int .i64 a2_3, .int .i64 a2_4, .int .i64 a2_5]] w fun e w' => ∃ v0_ : Value, e = .returned (.tuple #[v0_, .bool r2]) ∧ Kd.R (Kd.int .i64) 3 w' w.heap.size (fun _ => True) v0_ r1 ∧ Below w.heap.size w w' := by
 have hu32 := Try.underlying32
 have hu50 := Try.underlying50
 have HR0_2 := Aside0.mk hr0_2
 have HC0_2 := Aside0.mk hc0_2
 clear hr0_2 hc0_2
 have HR0_3 := Aside0.mk hr0_3
 have HC0_3 := Aside0.mk hc0_3
 clear hr0_3 hc0_3
 have HR1 := Aside0.mk hr1
 have HC1 := Aside0.mk hc1
 clear hr1 hc1
 have HR2_2 := Aside0.mk hr2_2
 have HC2_2 := Aside0.mk hc2_2
 clear hr2_2 hc2_2
 have HB := Aside0.mk (Below.refl w.heap.size w)
 have H : (if a2_0 = 1 then ((proof_input.f k a0_0 a0_1 l0_2 l0_3 a2_0 a2_1 l2_2 a2_3 a2_4 a2_5).bind fun bt192 => (some (bt192.1, bt192.2))) else (if a2_0 = 2 then ((proof_cycle.f k a0_0 a0_1 l0_2 l0_3 a2_0 a2_1 l2_2 a2_3 a2_4 a2_5).bind fun bt196 => (some (bt196.1, bt196.2))) else (if a2_0 = 3 then ((proof_resolve.f k l1 a2_0 a2_1 l2_2 a2_3 a2_4 a2_5).bind fun bt200 => (some (bt200.1, bt200.2))) else (some (([] : List Int), false))))) = some (r1, r2) := h
 clear h
 by_cases c4 : a2_0 = 1
 ·rw [if_pos c4] at H
  have c4b0 : (a2_0 == 1) = true := beq_iff_eq.mpr c4
  have c4b1 : (a2_0 != 1) = false := bne_eq_false_iff_eq.mpr c4
  clear c4
  replace H := Option.bind_eq_some_iff.mp H
  obtain ⟨⟨t192, t195⟩, A50, H⟩ := H
  replace H : (some (t192, t195)) = some (r1, r2) := H
  have A5 := Aside0.mk A50
  clear A50
  simp only [Option.some.injEq, Prod.mk.injEq] at H
  obtain ⟨rfl, rfl⟩ := H
  go_enter Try.func39, Try.ntmps39
  go_wp2_with (first | ((with_reducible refine gate_dst (N := 3) rfl ?_); refine box_ev (N := 3) rfl (cs := #[.int .i64 a0_0, .int .i64 a0_1, .slice A0_2 l0_2.length c0_2, .slice A0_3 l0_3.length c0_3]) (t := 32) ?_; intro gb190 hg w6 hbox hb; have n0_ := Aside0.mk (below_step HB.l hb); have n1_ := Aside0.mk (hbox); have n2_ := Aside0.mk ((by rw [hg]; exact (below_size HB.l) : w.heap.size ≤ gb190)); have n3_ := Aside0.mk ((by rw [hg]; exact (below_size HB.l) : w.heap.size ≤ gb190)); clear HB; revert n0_ n1_ n2_ n3_; intro HB BK190 GW190 GE190; clear hb hbox hg) | ((with_reducible refine gate_dst (N := 5) rfl ?_); refine box_ev (N := 5) rfl (cs := #[.int .i64 a2_0, .int .i64 a2_1, .slice A2_2 l2_2.length c2_2, .int .i64 a2_3, .int .i64 a2_4, .int .i64 a2_5]) (t := 50) ?_; intro gb191 hg w7 hbox hb; have n0_ := Aside0.mk (blk_below BK190.b hb); have n1_ := Aside0.mk (below_step HB.l hb); have n2_ := Aside0.mk (hbox); have n3_ := Aside0.mk ((by rw [hg]; exact (below_size HB.l) : w.heap.size ≤ gb191)); have n4_ := Aside0.mk ((by rw [hg]; exact (below_size HB.l) : w.heap.size ≤ gb191)); have n5_ := Aside0.mk ((by rw [hg]; exact Nat.ne_of_lt (blk_lt BK190.b) : gb190 ≠ gb191)); have n6_ := Aside0.mk ((by rw [hg]; exact Nat.ne_of_gt (blk_lt BK190.b) : gb191 ≠ gb190)); clear BK190 HB; revert n0_ n1_ n2_ n3_ n4_ n5_ n6_; intro BK190 HB BK191 GW191 GE191 NB190_191 NB191_190; clear hb hbox hg; have hnb8 := NB191_190.out; have hnc8 := NB190_191.out; have hcz9_0 := BK191.cl 0 (.int .i64 a2_0); have hcz9_1 := BK191.cl 1 (.int .i64 a2_1); have hcz9_2 := BK191.cl 2 (.slice A2_2 l2_2.length c2_2); have hcz9_3 := BK191.cl 3 (.int .i64 a2_3); have hcz9_4 := BK191.cl 4 (.int .i64 a2_4); have hcz9_5 := BK191.cl 5 (.int .i64 a2_5); have hfz9_0 := BK191.fz 0; have hfz9_1 := BK191.fz 1; have hfz9_2 := BK191.fz 2; have hfz9_3 := BK191.fz 3; have hfz9_4 := BK191.fz 4; have hfz9_5 := BK191.fz 5; have hcz10_0 := BK190.cl 0 (.int .i64 a0_0); have hcz10_1 := BK190.cl 1 (.int .i64 a0_1); have hcz10_2 := BK190.cl 2 (.slice A0_2 l0_2.length c0_2); have hcz10_3 := BK190.cl 3 (.slice A0_3 l0_3.length c0_3); have hfz10_0 := BK190.fz 0; have hfz10_1 := BK190.fz 1; have hfz10_2 := BK190.fz 2; have hfz10_3 := BK190.fz 3) | ((with_reducible refine gate_callee (f := 50) rfl ?_); refine goesM_ Try.func50 #[.agg #[.int .i64 a0_0, .int .i64 a0_1, .slice A0_2 l0_2.length c0_2, .slice A0_3 l0_3.length c0_3], .agg #[.int .i64 a2_0, .int .i64 a2_1, .slice A2_2 l2_2.length c2_2, .int .i64 a2_3, .int .i64 a2_4, .int .i64 a2_5]] ?_; (with_reducible refine (proof_input.calls k a0_0 a0_1 _ _ l0_2 _ _ l0_3 a2_0 a2_1 _ _ l2_2 a2_3 a2_4 a2_5 t192 t195 _ ?side1 ?side2 ?side3 ?side4 ?side5 ?side6 A5.out).mono ?_); (case side1 => exact HR0_2.c HB.l); (case side2 => exact HC0_2.out); (case side3 => exact HR0_3.c HB.l); (case side4 => exact HC0_3.out); (case side5 => exact HR2_2.c HB.l); (case side6 => exact HC2_2.out); rintro e w11 ⟨v193, rfl, ho0, hb⟩; refine ⟨_, rfl, ?_⟩; have n0_ := Aside0.mk (Kd.R_lower ho0 (below_size HB.l)); have n1_ := Aside0.mk (blk_below BK190.b hb); have n2_ := Aside0.mk (blk_below BK191.b hb); have n3_ := Aside0.mk (below_step HB.l hb); clear BK190 BK191 HB; revert n0_ n1_ n2_ n3_; intro HO194 BK190 BK191 HB; (try clear hb); (try clear hb2); (try clear hk); (try clear hi); (try clear ho0)))
  go_ret2
  exact ⟨_, by first | rfl | (simp [errW_none, errW_some] <;> rfl) | (simp [*, errW_none, errW_some] <;> rfl), HO194.r, HB.l⟩
 ·rw [if_neg c4] at H
  have c4b0 : (a2_0 == 1) = false := beq_eq_false_iff_ne.mpr c4
  have c4b1 : (a2_0 != 1) = true := bne_iff_ne.mpr c4
  by_cases c12 : a2_0 = 2
  ·rw [if_pos c12] at H
   have c12b0 : (a2_0 == 2) = true := beq_iff_eq.mpr c12
   have c12b1 : (a2_0 != 2) = false := bne_eq_false_iff_eq.mpr c12
   clear c12
   replace H := Option.bind_eq_some_iff.mp H
   obtain ⟨⟨t196, t199⟩, A130, H⟩ := H
   replace H : (some (t196, t199)) = some (r1, r2) := H
   have A13 := Aside0.mk A130
   clear A130
   simp only [Option.some.injEq, Prod.mk.injEq] at H
   obtain ⟨rfl, rfl⟩ := H
   go_enter Try.func39, Try.ntmps39
   go_wp2_with (first | ((with_reducible refine gate_dst (N := 3) rfl ?_); refine box_ev (N := 3) rfl (cs := #[.int .i64 a0_0, .int .i64 a0_1, .slice A0_2 l0_2.length c0_2, .slice A0_3 l0_3.length c0_3]) (t := 32) ?_; intro gb190 hg w14 hbox hb; have n0_ := Aside0.mk (below_step HB.l hb); have n1_ := Aside0.mk (hbox); have n2_ := Aside0.mk ((by rw [hg]; exact (below_size HB.l) : w.heap.size ≤ gb190)); have n3_ := Aside0.mk ((by rw [hg]; exact (below_size HB.l) : w.heap.size ≤ gb190)); clear HB; revert n0_ n1_ n2_ n3_; intro HB BK190 GW190 GE190; clear hb hbox hg) | ((with_reducible refine gate_dst (N := 5) rfl ?_); refine box_ev (N := 5) rfl (cs := #[.int .i64 a2_0, .int .i64 a2_1, .slice A2_2 l2_2.length c2_2, .int .i64 a2_3, .int .i64 a2_4, .int .i64 a2_5]) (t := 50) ?_; intro gb191 hg w15 hbox hb; have n0_ := Aside0.mk (blk_below BK190.b hb); have n1_ := Aside0.mk (below_step HB.l hb); have n2_ := Aside0.mk (hbox); have n3_ := Aside0.mk ((by rw [hg]; exact (below_size HB.l) : w.heap.size ≤ gb191)); have n4_ := Aside0.mk ((by rw [hg]; exact (below_size HB.l) : w.heap.size ≤ gb191)); have n5_ := Aside0.mk ((by rw [hg]; exact Nat.ne_of_lt (blk_lt BK190.b) : gb190 ≠ gb191)); have n6_ := Aside0.mk ((by rw [hg]; exact Nat.ne_of_gt (blk_lt BK190.b) : gb191 ≠ gb190)); clear BK190 HB; revert n0_ n1_ n2_ n3_ n4_ n5_ n6_; intro BK190 HB BK191 GW191 GE191 NB190_191 NB191_190; clear hb hbox hg; have hnb16 := NB191_190.out; have hnc16 := NB190_191.out; have hcz17_0 := BK191.cl 0 (.int .i64 a2_0); have hcz17_1 := BK191.cl 1 (.int .i64 a2_1); have hcz17_2 := BK191.cl 2 (.slice A2_2 l2_2.length c2_2); have hcz17_3 := BK191.cl 3 (.int .i64 a2_3); have hcz17_4 := BK191.cl 4 (.int .i64 a2_4); have hcz17_5 := BK191.cl 5 (.int .i64 a2_5); have hfz17_0 := BK191.fz 0; have hfz17_1 := BK191.fz 1; have hfz17_2 := BK191.fz 2; have hfz17_3 := BK191.fz 3; have hfz17_4 := BK191.fz 4; have hfz17_5 := BK191.fz 5; have hcz18_0 := BK190.cl 0 (.int .i64 a0_0); have hcz18_1 := BK190.cl 1 (.int .i64 a0_1); have hcz18_2 := BK190.cl 2 (.slice A0_2 l0_2.length c0_2); have hcz18_3 := BK190.cl 3 (.slice A0_3 l0_3.length c0_3); have hfz18_0 := BK190.fz 0; have hfz18_1 := BK190.fz 1; have hfz18_2 := BK190.fz 2; have hfz18_3 := BK190.fz 3) | ((with_reducible refine gate_callee (f := 51) rfl ?_); refine goesM_ Try.func51 #[.agg #[.int .i64 a0_0, .int .i64 a0_1, .slice A0_2 l0_2.length c0_2, .slice A0_3 l0_3.length c0_3], .agg #[.int .i64 a2_0, .int .i64 a2_1, .slice A2_2 l2_2.length c2_2, .int .i64 a2_3, .int .i64 a2_4, .int .i64 a2_5]] ?_; (with_reducible refine (proof_cycle.calls k a0_0 a0_1 _ _ l0_2 _ _ l0_3 a2_0 a2_1 _ _ l2_2 a2_3 a2_4 a2_5 t196 t199 _ ?side1 ?side2 ?side3 ?side4 ?side5 ?side6 A13.out).mono ?_); (case side1 => exact HR0_2.c HB.l); (case side2 => exact HC0_2.out); (case side3 => exact HR0_3.c HB.l); (case side4 => exact HC0_3.out); (case side5 => exact HR2_2.c HB.l); (case side6 => exact HC2_2.out); rintro e w19 ⟨v197, rfl, ho0, hb⟩; refine ⟨_, rfl, ?_⟩; have n0_ := Aside0.mk (Kd.R_lower ho0 (below_size HB.l)); have n1_ := Aside0.mk (blk_below BK190.b hb); have n2_ := Aside0.mk (blk_below BK191.b hb); have n3_ := Aside0.mk (below_step HB.l hb); clear BK190 BK191 HB; revert n0_ n1_ n2_ n3_; intro HO198 BK190 BK191 HB; (try clear hb); (try clear hb2); (try clear hk); (try clear hi); (try clear ho0)))
   go_ret2
   exact ⟨_, by first | rfl | (simp [errW_none, errW_some] <;> rfl) | (simp [*, errW_none, errW_some] <;> rfl), HO198.r, HB.l⟩
  ·rw [if_neg c12] at H
   have c12b0 : (a2_0 == 2) = false := beq_eq_false_iff_ne.mpr c12
   have c12b1 : (a2_0 != 2) = true := bne_iff_ne.mpr c12
   by_cases c20 : a2_0 = 3
   ·rw [if_pos c20] at H
    have c20b0 : (a2_0 == 3) = true := beq_iff_eq.mpr c20
    have c20b1 : (a2_0 != 3) = false := bne_eq_false_iff_eq.mpr c20
    clear c20
    replace H := Option.bind_eq_some_iff.mp H
    obtain ⟨⟨t200, t203⟩, A210, H⟩ := H
    replace H : (some (t200, t203)) = some (r1, r2) := H
    have A21 := Aside0.mk A210
    clear A210
    simp only [Option.some.injEq, Prod.mk.injEq] at H
    obtain ⟨rfl, rfl⟩ := H
    go_enter Try.func39, Try.ntmps39
    go_wp2_with (first | ((with_reducible refine gate_dst (N := 3) rfl ?_); refine box_ev (N := 3) rfl (cs := #[.int .i64 a0_0, .int .i64 a0_1, .slice A0_2 l0_2.length c0_2, .slice A0_3 l0_3.length c0_3]) (t := 32) ?_; intro gb190 hg w22 hbox hb; have n0_ := Aside0.mk (below_step HB.l hb); have n1_ := Aside0.mk (hbox); have n2_ := Aside0.mk ((by rw [hg]; exact (below_size HB.l) : w.heap.size ≤ gb190)); have n3_ := Aside0.mk ((by rw [hg]; exact (below_size HB.l) : w.heap.size ≤ gb190)); clear HB; revert n0_ n1_ n2_ n3_; intro HB BK190 GW190 GE190; clear hb hbox hg) | ((with_reducible refine gate_dst (N := 5) rfl ?_); refine box_ev (N := 5) rfl (cs := #[.int .i64 a2_0, .int .i64 a2_1, .slice A2_2 l2_2.length c2_2, .int .i64 a2_3, .int .i64 a2_4, .int .i64 a2_5]) (t := 50) ?_; intro gb191 hg w23 hbox hb; have n0_ := Aside0.mk (blk_below BK190.b hb); have n1_ := Aside0.mk (below_step HB.l hb); have n2_ := Aside0.mk (hbox); have n3_ := Aside0.mk ((by rw [hg]; exact (below_size HB.l) : w.heap.size ≤ gb191)); have n4_ := Aside0.mk ((by rw [hg]; exact (below_size HB.l) : w.heap.size ≤ gb191)); have n5_ := Aside0.mk ((by rw [hg]; exact Nat.ne_of_lt (blk_lt BK190.b) : gb190 ≠ gb191)); have n6_ := Aside0.mk ((by rw [hg]; exact Nat.ne_of_gt (blk_lt BK190.b) : gb191 ≠ gb190)); clear BK190 HB; revert n0_ n1_ n2_ n3_ n4_ n5_ n6_; intro BK190 HB BK191 GW191 GE191 NB190_191 NB191_190; clear hb hbox hg; have hnb24 := NB191_190.out; have hnc24 := NB190_191.out; have hcz25_0 := BK191.cl 0 (.int .i64 a2_0); have hcz25_1 := BK191.cl 1 (.int .i64 a2_1); have hcz25_2 := BK191.cl 2 (.slice A2_2 l2_2.length c2_2); have hcz25_3 := BK191.cl 3 (.int .i64 a2_3); have hcz25_4 := BK191.cl 4 (.int .i64 a2_4); have hcz25_5 := BK191.cl 5 (.int .i64 a2_5); have hfz25_0 := BK191.fz 0; have hfz25_1 := BK191.fz 1; have hfz25_2 := BK191.fz 2; have hfz25_3 := BK191.fz 3; have hfz25_4 := BK191.fz 4; have hfz25_5 := BK191.fz 5) | ((with_reducible refine gate_callee (f := 52) rfl ?_); refine goesM_ Try.func52 #[.slice A1 l1.length c1, .agg #[.int .i64 a2_0, .int .i64 a2_1, .slice A2_2 l2_2.length c2_2, .int .i64 a2_3, .int .i64 a2_4, .int .i64 a2_5]] ?_; (with_reducible refine (proof_resolve.calls k _ _ l1 a2_0 a2_1 _ _ l2_2 a2_3 a2_4 a2_5 t200 t203 _ ?side1 ?side2 ?side3 ?side4 A21.out).mono ?_); (case side1 => exact HR1.c HB.l); (case side2 => exact HC1.out); (case side3 => exact HR2_2.c HB.l); (case side4 => exact HC2_2.out); rintro e w26 ⟨v201, rfl, ho0, hb⟩; refine ⟨_, rfl, ?_⟩; have n0_ := Aside0.mk (Kd.R_lower ho0 (below_size HB.l)); have n1_ := Aside0.mk (blk_below BK190.b hb); have n2_ := Aside0.mk (blk_below BK191.b hb); have n3_ := Aside0.mk (below_step HB.l hb); clear BK190 BK191 HB; revert n0_ n1_ n2_ n3_; intro HO202 BK190 BK191 HB; (try clear hb); (try clear hb2); (try clear hk); (try clear hi); (try clear ho0)))
    go_ret2
    exact ⟨_, by first | rfl | (simp [errW_none, errW_some] <;> rfl) | (simp [*, errW_none, errW_some] <;> rfl), HO202.r, HB.l⟩
   ·rw [if_neg c20] at H
    have c20b0 : (a2_0 == 3) = false := beq_eq_false_iff_ne.mpr c20
    have c20b1 : (a2_0 != 3) = true := bne_iff_ne.mpr c20
    simp only [Option.some.injEq, Prod.mk.injEq] at H
    obtain ⟨rfl, rfl⟩ := H
    go_enter Try.func39, Try.ntmps39
    go_wp2_with (first | ((with_reducible refine gate_dst (N := 3) rfl ?_); refine box_ev (N := 3) rfl (cs := #[.int .i64 a0_0, .int .i64 a0_1, .slice A0_2 l0_2.length c0_2, .slice A0_3 l0_3.length c0_3]) (t := 32) ?_; intro gb190 hg w27 hbox hb; have n0_ := Aside0.mk (below_step HB.l hb); have n1_ := Aside0.mk (hbox); have n2_ := Aside0.mk ((by rw [hg]; exact (below_size HB.l) : w.heap.size ≤ gb190)); have n3_ := Aside0.mk ((by rw [hg]; exact (below_size HB.l) : w.heap.size ≤ gb190)); clear HB; revert n0_ n1_ n2_ n3_; intro HB BK190 GW190 GE190; clear hb hbox hg) | ((with_reducible refine gate_dst (N := 5) rfl ?_); refine box_ev (N := 5) rfl (cs := #[.int .i64 a2_0, .int .i64 a2_1, .slice A2_2 l2_2.length c2_2, .int .i64 a2_3, .int .i64 a2_4, .int .i64 a2_5]) (t := 50) ?_; intro gb191 hg w28 hbox hb; have n0_ := Aside0.mk (blk_below BK190.b hb); have n1_ := Aside0.mk (below_step HB.l hb); have n2_ := Aside0.mk (hbox); have n3_ := Aside0.mk ((by rw [hg]; exact (below_size HB.l) : w.heap.size ≤ gb191)); have n4_ := Aside0.mk ((by rw [hg]; exact (below_size HB.l) : w.heap.size ≤ gb191)); have n5_ := Aside0.mk ((by rw [hg]; exact Nat.ne_of_lt (blk_lt BK190.b) : gb190 ≠ gb191)); have n6_ := Aside0.mk ((by rw [hg]; exact Nat.ne_of_gt (blk_lt BK190.b) : gb191 ≠ gb190)); clear BK190 HB; revert n0_ n1_ n2_ n3_ n4_ n5_ n6_; intro BK190 HB BK191 GW191 GE191 NB190_191 NB191_190; clear hb hbox hg; have hnb29 := NB191_190.out; have hnc29 := NB190_191.out; have hcz30_0 := BK191.cl 0 (.int .i64 a2_0); have hcz30_1 := BK191.cl 1 (.int .i64 a2_1); have hcz30_2 := BK191.cl 2 (.slice A2_2 l2_2.length c2_2); have hcz30_3 := BK191.cl 3 (.int .i64 a2_3); have hcz30_4 := BK191.cl 4 (.int .i64 a2_4); have hcz30_5 := BK191.cl 5 (.int .i64 a2_5); have hfz30_0 := BK191.fz 0; have hfz30_1 := BK191.fz 1; have hfz30_2 := BK191.fz 2; have hfz30_3 := BK191.fz 3; have hfz30_4 := BK191.fz 4; have hfz30_5 := BK191.fz 5))
    go_ret2
    exact ⟨_, by first | rfl | (simp [errW_none, errW_some] <;> rfl) | (simp [*, errW_none, errW_some] <;> rfl), by first | exact Kd.R_nil _ _ _ _ _ | exact Kd.N_nil _ _ _ _ _ | exact Kd.V_nil _ _ _ _ _ | exact Kd.Q_nil _ _ _ _ _ | exact Kd.S_nil _ _ _ _ _, HB.l⟩

/-! ### proof_Clauses: function 23 -/
def proof_Clauses.l0 : Nat → List (List Int) → List (S50) → Int → Int → Int → Int → List (S75) → List (List Int) → Option ((List (List Int)) × Int × Int)
 | 0, _, _, _, _, _, _, _, _ => none
 | k + 1, x7, x12, x13, x14, x205000, x205001, x205002, x205003 => if x14 < x13 then (if 0 ≤ x14 then (if x14 < (x12.length : Int) then ((proof_clause.f k x205000 x205001 x205002 x205003 x7 ((rd_T50 x12 x14).f0) ((rd_T50 x12 x14).f1) ((rd_T50 x12 x14).f2) ((rd_T50 x12 x14).f3) ((rd_T50 x12 x14).f4) ((rd_T50 x12 x14).f5)).bind fun bt207 => (if bt207.2 = true then (if x7.length < 5864062014805 then (proof_Clauses.l0 k (x7 ++ [bt207.1]) x12 x13 (wrap64 (x14 + 1)) x205000 x205001 x205002 x205003) else (none)) else (some (([] : List (List Int)), x14, 15)))) else (none)) else (none)) else (some (x7, 0, 0))
def proof_Clauses.f (k : Nat) (a0_0 : Int) (a0_1 : Int) (l0_2 : List (S75)) (l0_3 : List (List Int)) (l1 : List (S50)) : Option ((List (List Int)) × Int × Int) := proof_Clauses.l0 k ([] : List (List Int)) l1 (l1.length : Int) 0 a0_0 a0_1 l0_2 l0_3
theorem proof_Clauses.mono_l : ∀ k, (∀ y0 y1 y2 y3 y4 y5 y6 y7, LeO (proof_Clauses.l0 k y0 y1 y2 y3 y4 y5 y6 y7) (proof_Clauses.l0 (k + 1) y0 y1 y2 y3 y4 y5 y6 y7))
 | 0 => fun _ _ _ _ _ _ _ _ r h => by simp [proof_Clauses.l0] at h
 | k + 1 => by
  have ih0 := proof_Clauses.mono_l k
  ·intro y0 y1 y2 y3 y4 y5 y6 y7
   unfold proof_Clauses.l0
   repeat' first
   | (with_reducible exact ih0 _ _ _ _ _ _ _ _)
   | (with_reducible exact proof_clause.mono _ _ _ _ _ _ _ _ _ _ _ _)
   | (with_reducible exact LeO.refl _)
   | (with_reducible exact LeO.none _)
   | (with_reducible refine LeO.ite ?_ ?_)
   | (with_reducible refine LeO.bind ?_ (fun _ => ?_))
   | exact ih0 _ _ _ _ _ _ _ _
   | exact proof_clause.mono _ _ _ _ _ _ _ _ _ _ _ _
   | exact LeO.none _
   | refine LeO.ite ?_ ?_
   | refine LeO.bind ?_ (fun _ => ?_)
theorem proof_Clauses.mono : ∀ a0 a1 a2 a3 a4 k, LeO (proof_Clauses.f k a0 a1 a2 a3 a4) (proof_Clauses.f (k + 1) a0 a1 a2 a3 a4) := by
 intro a0 a1 a2 a3 a4 k
 have ih0 := proof_Clauses.mono_l k
 unfold proof_Clauses.f
 repeat' first
   | (with_reducible exact ih0 _ _ _ _ _ _ _ _)
   | (with_reducible exact proof_clause.mono _ _ _ _ _ _ _ _ _ _ _ _)
   | (with_reducible exact LeO.refl _)
   | (with_reducible exact LeO.none _)
   | (with_reducible refine LeO.ite ?_ ?_)
   | (with_reducible refine LeO.bind ?_ (fun _ => ?_))
   | exact ih0 _ _ _ _ _ _ _ _
   | exact proof_clause.mono _ _ _ _ _ _ _ _ _ _ _ _
   | exact LeO.none _
   | refine LeO.ite ?_ ?_
   | refine LeO.bind ?_ (fun _ => ?_)
set_option maxHeartbeats 8000000 in
set_option maxRecDepth 100000 in
theorem proof_Clauses.calls (k : Nat) (a0_0 : Int) (a0_1 : Int) (A0_2 : Option Addr) (c0_2 : Nat) (l0_2 : List (S75)) (A0_3 : Option Addr) (c0_3 : Nat) (l0_3 : List (List Int)) (A1 : Option Addr) (c1 : Nat) (l1 : List (S50)) (r1 : List (List Int)) (r2 : Int) (r3 : Int) (w : World) (hr0_2 : Kd.C k75 w A0_2 l0_2.length l0_2) (hc0_2 : l0_2.length ≤ c0_2) (hr0_3 : Kd.C (Kd.slice 3 (Kd.int .i64)) w A0_3 l0_3.length l0_3) (hc0_3 : l0_3.length ≤ c0_3) (hr1 : Kd.C k50 w A1 l1.length l1) (hc1 : l1.length ≤ c1) (h : proof_Clauses.f k a0_0 a0_1 l0_2 l0_3 l1 = some (r1, r2, r3)) :
  Calls Try.prog 23 #[.agg #[.int .i64 a0_0, .int .i64 a0_1, .slice A0_2 l0_2.length c0_2, .slice A0_3 l0_3.length c0_3], .slice A1 l1.length c1] w fun e w' => ∃ v0_ : Value, e = .returned (.tuple #[v0_, .int .i64 r2, .int .i64 r3]) ∧ Kd.S (Kd.slice 3 (Kd.int .i64)) 43 w' w.heap.size (fun _ => True) v0_ r1 ∧ Below w.heap.size w w' := by
 have hu32 := Try.underlying32
 have hu50 := Try.underlying50
 have HR0_2 := Aside0.mk hr0_2
 have HC0_2 := Aside0.mk hc0_2
 clear hr0_2 hc0_2
 have HR0_3 := Aside0.mk hr0_3
 have HC0_3 := Aside0.mk hc0_3
 clear hr0_3 hc0_3
 have HR1 := Aside0.mk hr1
 have HC1 := Aside0.mk hc1
 clear hr1 hc1
 have HB := Aside0.mk (Below.refl w.heap.size w)
 have H : (proof_Clauses.l0 k ([] : List (List Int)) l1 (l1.length : Int) 0 a0_0 a0_1 l0_2 l0_3) = some (r1, r2, r3) := h
 clear h
 have H' := Aside0.mk H
 clear H
 go_enter Try.func23, Try.ntmps23
 go_wp2_with (first | ((with_reducible refine gate_dst (N := 2) rfl ?_); refine box_ev (N := 2) rfl (cs := #[.int .i64 a0_0, .int .i64 a0_1, .slice A0_2 l0_2.length c0_2, .slice A0_3 l0_3.length c0_3]) (t := 32) ?_; intro gb204 hg w3 hbox hb; have n0_ := Aside0.mk (below_step HB.l hb); have n1_ := Aside0.mk (hbox); have n2_ := Aside0.mk ((by rw [hg]; exact (below_size HB.l) : w.heap.size ≤ gb204)); have n3_ := Aside0.mk ((by rw [hg]; exact (below_size HB.l) : w.heap.size ≤ gb204)); clear HB; revert n0_ n1_ n2_ n3_; intro HB BK204 GW204 GE204; clear hb hbox hg))
 go_loopg [7, 14] k (fun kq v7 v14 w' => ∃ (x7_1 : List (List Int)) (x14_1 : Int), v14 = .int .i64 x14_1 ∧ Aside0 (proof_Clauses.l0 kq x7_1 l1 (l1.length : Int) x14_1 a0_0 a0_1 l0_2 l0_3 = some (r1, r2, r3)) ∧ Aside0 (kq ≤ k) ∧ Aside0 (Kd.S (Kd.slice 3 (Kd.int .i64)) 43 w' w.heap.size (fun _ => True) v7 x7_1) ∧ Aside0 (w'.heap[gb204]? = some (.cells #[.int .i64 a0_0, .int .i64 a0_1, (.slice A0_2 l0_2.length c0_2), (.slice A0_3 l0_3.length c0_3)] 32 (0, 0))) ∧ Aside0 (Below w.heap.size w w'))
 case atStart => exact ⟨(([] : List (List Int))), (0), (by first | rfl | (simp; done) | (simp [*]; done)), H', ⟨Nat.le_refl _⟩, ⟨by first | exact Kd.S_nil _ _ _ _ _ | exact Kd.N_nil _ _ _ _ _ | exact Kd.V_nil _ _ _ _ _ | exact Kd.Q_nil _ _ _ _ _ | exact Kd.R_nil _ _ _ _ _⟩, ⟨BK204.b⟩, ⟨HB.l⟩⟩
 case round => as_aux_lemma =>
  clear H'
  try clear c1
  try clear c2
  try clear p2
  obtain ⟨x7_1, x14_1, rfl, HA, HK1, HO_7, BK204, HB⟩ := hrel
  cases gk with
  | zero => exact absurd HA.out (by simp [proof_Clauses.l0])
  | succ k1 =>
   have H := HA.out
   clear HA
   simp only [proof_Clauses.l0] at H
   by_cases c4 : x14_1 < (l1.length : Int)
   ·rw [if_pos c4] at H
    have c4b0 : decide (x14_1 < (l1.length : Int)) = true := decide_eq_true c4
    clear c4
    by_cases c5 : 0 ≤ x14_1
    ·rw [if_pos c5] at H
     have c5b0 : decide (0 ≤ x14_1) = true := decide_eq_true c5
     clear c5
     by_cases c6 : x14_1 < (l1.length : Int)
     ·rw [if_pos c6] at H
      have c6b0 : decide (x14_1 < (l1.length : Int)) = true := decide_eq_true c6
      clear c6
      replace H := Option.bind_eq_some_iff.mp H
      obtain ⟨⟨t207, t210⟩, A70, H⟩ := H
      replace H : (if t210 = true then (if x7_1.length < 5864062014805 then (proof_Clauses.l0 k1 (x7_1 ++ [t207]) l1 (l1.length : Int) (wrap64 (x14_1 + 1)) a0_0 a0_1 l0_2 l0_3) else (none)) else (some (([] : List (List Int)), x14_1, 15))) = some (r1, r2, r3) := H
      have A7 := Aside0.mk A70
      clear A70
      by_cases c8 : t210 = true
      ·subst c8
       have H1 : (if x7_1.length < 5864062014805 then (proof_Clauses.l0 k1 (x7_1 ++ [t207]) l1 (l1.length : Int) (wrap64 (x14_1 + 1)) a0_0 a0_1 l0_2 l0_3) else (none)) = some (r1, r2, r3) := by rw [if_pos rfl] at H; exact H
       clear H
       have H := H1
       clear H1
       by_cases c9 : x7_1.length < 5864062014805
       ·rw [if_pos c9] at H
        have LMc9 := Aside0.mk c9
        clear c9
        obtain ⟨y211, hy211⟩ : ∃ y_ : List (List Int), y_ = (x7_1 ++ [t207]) := ⟨_, rfl⟩
        replace H : (proof_Clauses.l0 k1 y211 l1 (l1.length : Int) (wrap64 (x14_1 + 1)) a0_0 a0_1 l0_2 l0_3) = some (r1, r2, r3) := by first | (rw [hy211]; with_reducible exact H) | (have H2_ := (Option.bind_some _ _).symm.trans H; rw [hy211]; with_reducible exact H2_) | (have H2_ := (Option.bind_some _ _).symm.trans H; with_reducible exact H2_) | with_reducible exact H | (rw [hy211]; exact H) | exact H
        have Ny211 := Aside0.mk hy211
        clear hy211
        have H' := Aside0.mk H
        clear H
        have p205 : 0 ≤ (x14_1 : Int) := of_decide_eq_true (by first | (with_reducible assumption) | assumption)
        have q205 : x14_1 < (l1.length : Int) := of_decide_eq_true (by first | (with_reducible assumption) | assumption)
        obtain ⟨ad205, A205_2, c205_2, e205, hx205_0, hx205_1, hx205_2, hx205_3, hx205_4, hx205_5, hl205_2, hi205_2⟩ := at_T50 HR1.out x14_1 p205 q205
        cases e205
        replace hx205_0 := (HB.out.cell (World.block_lt_of_cell? w _ hx205_0)).trans hx205_0
        replace hx205_1 := (HB.out.cell (World.block_lt_of_cell? w _ hx205_1)).trans hx205_1
        replace hx205_2 := (HB.out.cell (World.block_lt_of_cell? w _ hx205_2)).trans hx205_2
        replace hx205_3 := (HB.out.cell (World.block_lt_of_cell? w _ hx205_3)).trans hx205_3
        replace hx205_4 := (HB.out.cell (World.block_lt_of_cell? w _ hx205_4)).trans hx205_4
        replace hx205_5 := (HB.out.cell (World.block_lt_of_cell? w _ hx205_5)).trans hx205_5
        have HR205_2 := Aside0.mk hi205_2
        have HC205_2 := Aside0.mk hl205_2
        clear hi205_2 hl205_2
        replace p205 := eq_true p205
        replace q205 := eq_true q205
        go_wp2_with (first | ((with_reducible refine gate_dst (N := 9) rfl ?_); refine box_ev (N := 9) rfl (cs := #[.int .i64 0, .int .i64 0, .slice none 0 0, .int .i64 0, .int .i64 0, .int .i64 0]) (t := 50) ?_; intro gb206 hg w10z hboxz hbz; have HGz := Aside0.mk (And.intro hg (And.intro hboxz hbz)); clear hg hboxz hbz) | ((with_reducible refine gate_store (t := 50) (p := 9) (v := _) rfl ?_); have hg := HGz.out.1; refine store_box rfl rfl rfl hg HGz.out.2.1 HGz.out.2.2 rfl (cs := #[.int .i64 ((rd_T50 l1 x14_1).f0), .int .i64 ((rd_T50 l1 x14_1).f1), .slice A205_2 ((rd_T50 l1 x14_1).f2).length c205_2, .int .i64 ((rd_T50 l1 x14_1).f3), .int .i64 ((rd_T50 l1 x14_1).f4), .int .i64 ((rd_T50 l1 x14_1).f5)]) ?hx (by kernel_rfl) rfl rfl ?_; (case hx => first | rfl | (go_simp; rfl)); intro w10 hbox hb; clear HGz; have n0_ := Aside0.mk (Kd.S_below HO_7.s hb); have n1_ := Aside0.mk (blk_below BK204.b hb); have n2_ := Aside0.mk (below_step HB.l hb); have n3_ := Aside0.mk (hbox); have n4_ := Aside0.mk ((by rw [hg]; exact (below_size HB.l) : w.heap.size ≤ gb206)); have n5_ := Aside0.mk ((by rw [hg]; exact (below_size HB.l) : w.heap.size ≤ gb206)); have n6_ := Aside0.mk ((by rw [hg]; exact Nat.ne_of_lt (blk_lt BK204.b) : gb204 ≠ gb206)); have n7_ := Aside0.mk ((by rw [hg]; exact Nat.ne_of_gt (blk_lt BK204.b) : gb206 ≠ gb204)); clear HO_7 BK204 HB; revert n0_ n1_ n2_ n3_ n4_ n5_ n6_ n7_; intro HO_7 BK204 HB BK206 GW206 GE206 NB204_206 NB206_204; clear hb hbox hg; have hnb11 := NB206_204.out; have hnc11 := NB204_206.out; have hcz12_0 := BK206.cl 0 (.int .i64 ((rd_T50 l1 x14_1).f0)); have hcz12_1 := BK206.cl 1 (.int .i64 ((rd_T50 l1 x14_1).f1)); have hcz12_2 := BK206.cl 2 (.slice A205_2 ((rd_T50 l1 x14_1).f2).length c205_2); have hcz12_3 := BK206.cl 3 (.int .i64 ((rd_T50 l1 x14_1).f3)); have hcz12_4 := BK206.cl 4 (.int .i64 ((rd_T50 l1 x14_1).f4)); have hcz12_5 := BK206.cl 5 (.int .i64 ((rd_T50 l1 x14_1).f5)); have hfz12_0 := BK206.fz 0; have hfz12_1 := BK206.fz 1; have hfz12_2 := BK206.fz 2; have hfz12_3 := BK206.fz 3; have hfz12_4 := BK206.fz 4; have hfz12_5 := BK206.fz 5; have hcz13_0 := BK204.cl 0 (.int .i64 a0_0); have hcz13_1 := BK204.cl 1 (.int .i64 a0_1); have hcz13_2 := BK204.cl 2 (.slice A0_2 l0_2.length c0_2); have hcz13_3 := BK204.cl 3 (.slice A0_3 l0_3.length c0_3); have hfz13_0 := BK204.fz 0; have hfz13_1 := BK204.fz 1; have hfz13_2 := BK204.fz 2; have hfz13_3 := BK204.fz 3; obtain ⟨Ao14, co14, eo14⟩ := Kd.S_slice HO_7.out; subst eo14) | ((with_reducible refine gate_callee (f := 39) rfl ?_); refine goesM_ Try.func39 #[.agg #[.int .i64 a0_0, .int .i64 a0_1, .slice A0_2 l0_2.length c0_2, .slice A0_3 l0_3.length c0_3], .slice Ao14 x7_1.length co14, .agg #[.int .i64 ((rd_T50 l1 x14_1).f0), .int .i64 ((rd_T50 l1 x14_1).f1), .slice A205_2 ((rd_T50 l1 x14_1).f2).length c205_2, .int .i64 ((rd_T50 l1 x14_1).f3), .int .i64 ((rd_T50 l1 x14_1).f4), .int .i64 ((rd_T50 l1 x14_1).f5)]] ?_; (with_reducible refine (proof_clause.calls k1 a0_0 a0_1 _ _ l0_2 _ _ l0_3 _ _ x7_1 ((rd_T50 l1 x14_1).f0) ((rd_T50 l1 x14_1).f1) _ _ ((rd_T50 l1 x14_1).f2) ((rd_T50 l1 x14_1).f3) ((rd_T50 l1 x14_1).f4) ((rd_T50 l1 x14_1).f5) t207 true _ ?side1 ?side2 ?side3 ?side4 ?side5 ?side6 ?side7 ?side8 A7.out).mono ?_); (case side1 => exact Kd.C_below HR0_2.out HB.l); (case side2 => exact HC0_2.out); (case side3 => exact Kd.C_below HR0_3.out HB.l); (case side4 => exact HC0_3.out); (case side5 => refine (Kd.S_reads' (e := 43) (base := w.heap.size) (ok := fun k_ => True) (n := x7_1.length) (c := co14) ?_).2.2; exact (by (with_reducible repeat (first | apply Kd.S_alloc | apply Kd.S_drewN | apply Kd.S_drew)); exact (HO_7.out))); (case side6 => exact (Kd.S_reads' HO_7.out).2.1); (case side7 => exact Kd.C_below HR205_2.out HB.l); (case side8 => exact HC205_2.out); rintro e w15 ⟨v208, rfl, ho0, hb⟩; refine ⟨_, rfl, ?_⟩; have n0_ := Aside0.mk (Kd.S_elder' (by (with_reducible repeat (first | apply Kd.S_alloc | apply Kd.S_drewN | apply Kd.S_drew)); exact (HO_7.out)) (Kd.R_base ho0) hb); have n1_ := Aside0.mk (Kd.R_lower ho0 (below_size HB.l)); have n2_ := Aside0.mk (blk_below BK204.b hb); have n3_ := Aside0.mk (blk_below BK206.b hb); have n4_ := Aside0.mk (below_step HB.l hb); clear HO_7 BK204 BK206 HB; revert n0_ n1_ n2_ n3_ n4_; intro HO_7 HO209 BK204 BK206 HB; (try clear hb); (try clear hb2); (try clear hk); (try clear hi); (try clear ho0); obtain ⟨Ao17, co17, eo17⟩ := Kd.R_slice HO209.out; subst eo17) | ((with_reducible refine gate_builtin (b := .append) (xs := #[.tmp 29, .tmp 31]) rfl ?_); at_builtin; refine Kd.S_append (Kd.slice 3 (Kd.int .i64)) (w0 := w) w.heap.size rfl (.tmp 29) (.tmp 31) 30 43 (.slice none 0 0) 24 rfl Try.underlying30 info43 rfl (by decide) (by omega) (.slice Ao14 x7_1.length co14) x7_1 t207 [.slice Ao17 t207.length co17] (fun _ => True) (fun k_ => some k_ = (.slice Ao17 t207.length co17 : Value).ownBlock) rfl rfl ?aP (fun k_ hk_ => ((Kd.R_mono (ok' := fun k_ => ((fun _ => True)) k_ ∧ some k_ ≠ (.slice Ao14 x7_1.length co14 : Value).ownBlock) (Kd.R_apart' (HO209.out) (Kd.S_typed HO_7.out) (by decide)) (fun k_ hk => ⟨trivial, hk.2⟩))).1 k_ hk_.symm) ?aF ?aO ?aB ?aS ?aL ?_; (case aP => exact Kd.M_row (Kd.R_mono (Kd.R_tight rfl (Kd.R_mono (ok' := fun k_ => ((fun _ => True)) k_ ∧ some k_ ≠ (.slice Ao14 x7_1.length co14 : Value).ownBlock) (Kd.R_apart' (HO209.out) (Kd.S_typed HO_7.out) (by decide)) (fun k_ hk => ⟨trivial, hk.2⟩))) (fun _ h_ => h_))); (case aB => exact HB.l); (case aF => exact (fun _ _ => trivial)); (case aO => exact (by (with_reducible repeat (first | apply Kd.S_alloc | apply Kd.S_drewN | apply Kd.S_drew)); exact Kd.S_mono HO_7.out (fun k_ hk => ⟨trivial, fun e_ => hk.2 e_⟩))); (case aS => exact (below_size HB.l)); (case aL => have := LMc9.out; omega); intro v212 w16 ho hb hg hat; rw [← Ny211.out] at ho; have n0_ := Aside0.mk (blk_grown BK204.b hg (Kd.S_ne HO_7.out BK204.out (by decide))); have n1_ := Aside0.mk (blk_grown BK206.b hg (Kd.S_ne HO_7.out BK206.out (by decide))); have n2_ := Aside0.mk (hb); have n3_ := Aside0.mk (ho); clear BK204 BK206 HB HO_7 HO209; revert n0_ n1_ n2_ n3_; intro BK204 BK206 HB HO213; clear ho hb hg hat))
        go_roundg k1
        case measure => have := HK1.out; omega
        case rel => exact ⟨(y211), (wrap64 (x14_1 + 1)), (by first | rfl | (simp; done) | (simp [*]; done)), H', ⟨by have := HK1.out; omega⟩, ⟨HO213.s⟩, ⟨BK204.b⟩, ⟨HB.l⟩⟩
       ·rw [if_neg c9] at H
        exact absurd H (by simp)
      ·replace c8 := Bool.eq_false_iff.mpr c8
       subst c8
       have H1 : (some (([] : List (List Int)), x14_1, 15)) = some (r1, r2, r3) := by rw [if_neg (show ¬ (false = true) by decide)] at H; exact H
       clear H
       have H := H1
       clear H1
       simp only [Option.some.injEq, Prod.mk.injEq] at H
       obtain ⟨rfl, rfl, rfl⟩ := H
       have p205 : 0 ≤ (x14_1 : Int) := of_decide_eq_true (by first | (with_reducible assumption) | assumption)
       have q205 : x14_1 < (l1.length : Int) := of_decide_eq_true (by first | (with_reducible assumption) | assumption)
       obtain ⟨ad205, A205_2, c205_2, e205, hx205_0, hx205_1, hx205_2, hx205_3, hx205_4, hx205_5, hl205_2, hi205_2⟩ := at_T50 HR1.out x14_1 p205 q205
       cases e205
       replace hx205_0 := (HB.out.cell (World.block_lt_of_cell? w _ hx205_0)).trans hx205_0
       replace hx205_1 := (HB.out.cell (World.block_lt_of_cell? w _ hx205_1)).trans hx205_1
       replace hx205_2 := (HB.out.cell (World.block_lt_of_cell? w _ hx205_2)).trans hx205_2
       replace hx205_3 := (HB.out.cell (World.block_lt_of_cell? w _ hx205_3)).trans hx205_3
       replace hx205_4 := (HB.out.cell (World.block_lt_of_cell? w _ hx205_4)).trans hx205_4
       replace hx205_5 := (HB.out.cell (World.block_lt_of_cell? w _ hx205_5)).trans hx205_5
       have HR205_2 := Aside0.mk hi205_2
       have HC205_2 := Aside0.mk hl205_2
       clear hi205_2 hl205_2
       replace p205 := eq_true p205
       replace q205 := eq_true q205
       go_wp2_with (first | ((with_reducible refine gate_dst (N := 9) rfl ?_); refine box_ev (N := 9) rfl (cs := #[.int .i64 0, .int .i64 0, .slice none 0 0, .int .i64 0, .int .i64 0, .int .i64 0]) (t := 50) ?_; intro gb206 hg w18z hboxz hbz; have HGz := Aside0.mk (And.intro hg (And.intro hboxz hbz)); clear hg hboxz hbz) | ((with_reducible refine gate_store (t := 50) (p := 9) (v := _) rfl ?_); have hg := HGz.out.1; refine store_box rfl rfl rfl hg HGz.out.2.1 HGz.out.2.2 rfl (cs := #[.int .i64 ((rd_T50 l1 x14_1).f0), .int .i64 ((rd_T50 l1 x14_1).f1), .slice A205_2 ((rd_T50 l1 x14_1).f2).length c205_2, .int .i64 ((rd_T50 l1 x14_1).f3), .int .i64 ((rd_T50 l1 x14_1).f4), .int .i64 ((rd_T50 l1 x14_1).f5)]) ?hx (by kernel_rfl) rfl rfl ?_; (case hx => first | rfl | (go_simp; rfl)); intro w18 hbox hb; clear HGz; have n0_ := Aside0.mk (Kd.S_below HO_7.s hb); have n1_ := Aside0.mk (blk_below BK204.b hb); have n2_ := Aside0.mk (below_step HB.l hb); have n3_ := Aside0.mk (hbox); have n4_ := Aside0.mk ((by rw [hg]; exact (below_size HB.l) : w.heap.size ≤ gb206)); have n5_ := Aside0.mk ((by rw [hg]; exact (below_size HB.l) : w.heap.size ≤ gb206)); have n6_ := Aside0.mk ((by rw [hg]; exact Nat.ne_of_lt (blk_lt BK204.b) : gb204 ≠ gb206)); have n7_ := Aside0.mk ((by rw [hg]; exact Nat.ne_of_gt (blk_lt BK204.b) : gb206 ≠ gb204)); clear HO_7 BK204 HB; revert n0_ n1_ n2_ n3_ n4_ n5_ n6_ n7_; intro HO_7 BK204 HB BK206 GW206 GE206 NB204_206 NB206_204; clear hb hbox hg; have hnb19 := NB206_204.out; have hnc19 := NB204_206.out; have hcz20_0 := BK206.cl 0 (.int .i64 ((rd_T50 l1 x14_1).f0)); have hcz20_1 := BK206.cl 1 (.int .i64 ((rd_T50 l1 x14_1).f1)); have hcz20_2 := BK206.cl 2 (.slice A205_2 ((rd_T50 l1 x14_1).f2).length c205_2); have hcz20_3 := BK206.cl 3 (.int .i64 ((rd_T50 l1 x14_1).f3)); have hcz20_4 := BK206.cl 4 (.int .i64 ((rd_T50 l1 x14_1).f4)); have hcz20_5 := BK206.cl 5 (.int .i64 ((rd_T50 l1 x14_1).f5)); have hfz20_0 := BK206.fz 0; have hfz20_1 := BK206.fz 1; have hfz20_2 := BK206.fz 2; have hfz20_3 := BK206.fz 3; have hfz20_4 := BK206.fz 4; have hfz20_5 := BK206.fz 5; have hcz21_0 := BK204.cl 0 (.int .i64 a0_0); have hcz21_1 := BK204.cl 1 (.int .i64 a0_1); have hcz21_2 := BK204.cl 2 (.slice A0_2 l0_2.length c0_2); have hcz21_3 := BK204.cl 3 (.slice A0_3 l0_3.length c0_3); have hfz21_0 := BK204.fz 0; have hfz21_1 := BK204.fz 1; have hfz21_2 := BK204.fz 2; have hfz21_3 := BK204.fz 3; obtain ⟨Ao22, co22, eo22⟩ := Kd.S_slice HO_7.out; subst eo22) | ((with_reducible refine gate_callee (f := 39) rfl ?_); refine goesM_ Try.func39 #[.agg #[.int .i64 a0_0, .int .i64 a0_1, .slice A0_2 l0_2.length c0_2, .slice A0_3 l0_3.length c0_3], .slice Ao22 x7_1.length co22, .agg #[.int .i64 ((rd_T50 l1 x14_1).f0), .int .i64 ((rd_T50 l1 x14_1).f1), .slice A205_2 ((rd_T50 l1 x14_1).f2).length c205_2, .int .i64 ((rd_T50 l1 x14_1).f3), .int .i64 ((rd_T50 l1 x14_1).f4), .int .i64 ((rd_T50 l1 x14_1).f5)]] ?_; (with_reducible refine (proof_clause.calls k1 a0_0 a0_1 _ _ l0_2 _ _ l0_3 _ _ x7_1 ((rd_T50 l1 x14_1).f0) ((rd_T50 l1 x14_1).f1) _ _ ((rd_T50 l1 x14_1).f2) ((rd_T50 l1 x14_1).f3) ((rd_T50 l1 x14_1).f4) ((rd_T50 l1 x14_1).f5) t207 false _ ?side1 ?side2 ?side3 ?side4 ?side5 ?side6 ?side7 ?side8 A7.out).mono ?_); (case side1 => exact Kd.C_below HR0_2.out HB.l); (case side2 => exact HC0_2.out); (case side3 => exact Kd.C_below HR0_3.out HB.l); (case side4 => exact HC0_3.out); (case side5 => refine (Kd.S_reads' (e := 43) (base := w.heap.size) (ok := fun k_ => True) (n := x7_1.length) (c := co22) ?_).2.2; exact (by (with_reducible repeat (first | apply Kd.S_alloc | apply Kd.S_drewN | apply Kd.S_drew)); exact (HO_7.out))); (case side6 => exact (Kd.S_reads' HO_7.out).2.1); (case side7 => exact Kd.C_below HR205_2.out HB.l); (case side8 => exact HC205_2.out); rintro e w23 ⟨v208, rfl, ho0, hb⟩; refine ⟨_, rfl, ?_⟩; have n0_ := Aside0.mk (Kd.S_elder' (by (with_reducible repeat (first | apply Kd.S_alloc | apply Kd.S_drewN | apply Kd.S_drew)); exact (HO_7.out)) (Kd.R_base ho0) hb); have n1_ := Aside0.mk (Kd.R_lower ho0 (below_size HB.l)); have n2_ := Aside0.mk (blk_below BK204.b hb); have n3_ := Aside0.mk (blk_below BK206.b hb); have n4_ := Aside0.mk (below_step HB.l hb); clear HO_7 BK204 BK206 HB; revert n0_ n1_ n2_ n3_ n4_; intro HO_7 HO209 BK204 BK206 HB; (try clear hb); (try clear hb2); (try clear hk); (try clear hi); (try clear ho0)))
       go_ret3
       exact ⟨_, by first | rfl | (simp [errW_none, errW_some] <;> rfl) | (simp [*, errW_none, errW_some] <;> rfl), by first | exact Kd.S_nil _ _ _ _ _ | exact Kd.N_nil _ _ _ _ _ | exact Kd.V_nil _ _ _ _ _ | exact Kd.Q_nil _ _ _ _ _ | exact Kd.R_nil _ _ _ _ _, HB.l⟩
     ·rw [if_neg c6] at H
      exact absurd H (by simp)
    ·rw [if_neg c5] at H
     exact absurd H (by simp)
   ·rw [if_neg c4] at H
    have c4b0 : decide (x14_1 < (l1.length : Int)) = false := decide_eq_false c4
    clear c4
    simp only [Option.some.injEq, Prod.mk.injEq] at H
    obtain ⟨rfl, rfl, rfl⟩ := H
    go_wp2
    go_ret3
    exact ⟨_, by first | rfl | (simp [errW_none, errW_some] <;> rfl) | (simp [*, errW_none, errW_some] <;> rfl), HO_7.s, HB.l⟩

/-! ### proof_Check: function 15 -/
def proof_Check.f (k : Nat) (a0_0 : Int) (a0_1 : Int) (l0_2 : List (S75)) (l0_3 : List (List Int)) (l1 : List (S50)) : Option (Int × Int) := (proof_Clauses.f k a0_0 a0_1 l0_2 l0_3 l1).bind fun bt215 => (if bt215.2.2 = 0 then (if (bt215.1.length : Int) = 0 then (some ((l1.length : Int), 15)) else (if 0 ≤ (wrap64 ((bt215.1.length : Int) - 1)) then (if (wrap64 ((bt215.1.length : Int) - 1)) < (bt215.1.length : Int) then (if ((rd_L1 bt215.1 (wrap64 ((bt215.1.length : Int) - 1))).length : Int) > 0 then (some ((l1.length : Int), 15)) else (some (0, 0))) else (none)) else (none))) else (some (bt215.2.1, bt215.2.2)))
theorem proof_Check.mono : ∀ a0 a1 a2 a3 a4 k, LeO (proof_Check.f k a0 a1 a2 a3 a4) (proof_Check.f (k + 1) a0 a1 a2 a3 a4) := by
 intro a0 a1 a2 a3 a4 k
 unfold proof_Check.f
 repeat' first
   | (with_reducible exact proof_Clauses.mono _ _ _ _ _ _)
   | (with_reducible exact LeO.refl _)
   | (with_reducible exact LeO.none _)
   | (with_reducible refine LeO.ite ?_ ?_)
   | (with_reducible refine LeO.bind ?_ (fun _ => ?_))
   | exact proof_Clauses.mono _ _ _ _ _ _
   | exact LeO.none _
   | refine LeO.ite ?_ ?_
   | refine LeO.bind ?_ (fun _ => ?_)
set_option maxHeartbeats 8000000 in
set_option maxRecDepth 100000 in
theorem proof_Check.calls (k : Nat) (a0_0 : Int) (a0_1 : Int) (A0_2 : Option Addr) (c0_2 : Nat) (l0_2 : List (S75)) (A0_3 : Option Addr) (c0_3 : Nat) (l0_3 : List (List Int)) (A1 : Option Addr) (c1 : Nat) (l1 : List (S50)) (r1 : Int) (r2 : Int) (w : World) (hr0_2 : Kd.C k75 w A0_2 l0_2.length l0_2) (hc0_2 : l0_2.length ≤ c0_2) (hr0_3 : Kd.C (Kd.slice 3 (Kd.int .i64)) w A0_3 l0_3.length l0_3) (hc0_3 : l0_3.length ≤ c0_3) (hr1 : Kd.C k50 w A1 l1.length l1) (hc1 : l1.length ≤ c1) (h : proof_Check.f k a0_0 a0_1 l0_2 l0_3 l1 = some (r1, r2)) :
  Calls Try.prog 15 #[.agg #[.int .i64 a0_0, .int .i64 a0_1, .slice A0_2 l0_2.length c0_2, .slice A0_3 l0_3.length c0_3], .slice A1 l1.length c1] w fun e w' => e = .returned (.tuple #[.int .i64 r1, .int .i64 r2]) ∧ Below w.heap.size w w' := by
 have hu32 := Try.underlying32
 have HR0_2 := Aside0.mk hr0_2
 have HC0_2 := Aside0.mk hc0_2
 clear hr0_2 hc0_2
 have HR0_3 := Aside0.mk hr0_3
 have HC0_3 := Aside0.mk hc0_3
 clear hr0_3 hc0_3
 have HR1 := Aside0.mk hr1
 have HC1 := Aside0.mk hc1
 clear hr1 hc1
 have HB := Aside0.mk (Below.refl w.heap.size w)
 have H : ((proof_Clauses.f k a0_0 a0_1 l0_2 l0_3 l1).bind fun bt215 => (if bt215.2.2 = 0 then (if (bt215.1.length : Int) = 0 then (some ((l1.length : Int), 15)) else (if 0 ≤ (wrap64 ((bt215.1.length : Int) - 1)) then (if (wrap64 ((bt215.1.length : Int) - 1)) < (bt215.1.length : Int) then (if ((rd_L1 bt215.1 (wrap64 ((bt215.1.length : Int) - 1))).length : Int) > 0 then (some ((l1.length : Int), 15)) else (some (0, 0))) else (none)) else (none))) else (some (bt215.2.1, bt215.2.2)))) = some (r1, r2) := h
 clear h
 replace H := Option.bind_eq_some_iff.mp H
 obtain ⟨⟨t215, t218, t219⟩, A30, H⟩ := H
 replace H : (if t219 = 0 then (if (t215.length : Int) = 0 then (some ((l1.length : Int), 15)) else (if 0 ≤ (wrap64 ((t215.length : Int) - 1)) then (if (wrap64 ((t215.length : Int) - 1)) < (t215.length : Int) then (if ((rd_L1 t215 (wrap64 ((t215.length : Int) - 1))).length : Int) > 0 then (some ((l1.length : Int), 15)) else (some (0, 0))) else (none)) else (none))) else (some (t218, t219))) = some (r1, r2) := H
 have A3 := Aside0.mk A30
 clear A30
 by_cases c4 : t219 = 0
 ·rw [if_pos c4] at H
  have c4b0 : (t219 == 0) = true := beq_iff_eq.mpr c4
  have c4b1 : (t219 != 0) = false := bne_eq_false_iff_eq.mpr c4
  clear c4
  by_cases c5 : (t215.length : Int) = 0
  ·rw [if_pos c5] at H
   have c5b0 : ((t215.length : Int) == 0) = true := beq_iff_eq.mpr c5
   have c5b1 : ((t215.length : Int) != 0) = false := bne_eq_false_iff_eq.mpr c5
   clear c5
   simp only [Option.some.injEq, Prod.mk.injEq] at H
   obtain ⟨rfl, rfl⟩ := H
   go_enter Try.func15, Try.ntmps15
   go_wp2_with (first | ((with_reducible refine gate_dst (N := 2) rfl ?_); (try (refine gate_guard (by rfl) ?_; dsimp only)); refine box_ev (N := 2) rfl (cs := #[.int .i64 a0_0, .int .i64 a0_1, .slice A0_2 l0_2.length c0_2, .slice A0_3 l0_3.length c0_3]) (t := 32) ?_; intro gb214 hg w6 hbox hb; have n0_ := Aside0.mk (below_step HB.l hb); have n1_ := Aside0.mk (hbox); have n2_ := Aside0.mk ((by rw [hg]; exact (below_size HB.l) : w.heap.size ≤ gb214)); have n3_ := Aside0.mk ((by rw [hg]; exact (below_size HB.l) : w.heap.size ≤ gb214)); clear HB; revert n0_ n1_ n2_ n3_; intro HB BK214 GW214 GE214; clear hb hbox hg; have hcz7_0 := BK214.cl 0 (.int .i64 a0_0); have hcz7_1 := BK214.cl 1 (.int .i64 a0_1); have hcz7_2 := BK214.cl 2 (.slice A0_2 l0_2.length c0_2); have hcz7_3 := BK214.cl 3 (.slice A0_3 l0_3.length c0_3); have hfz7_0 := BK214.fz 0; have hfz7_1 := BK214.fz 1; have hfz7_2 := BK214.fz 2; have hfz7_3 := BK214.fz 3) | ((with_reducible refine gate_callee (f := 23) rfl ?_); refine goesM_ Try.func23 #[.agg #[.int .i64 a0_0, .int .i64 a0_1, .slice A0_2 l0_2.length c0_2, .slice A0_3 l0_3.length c0_3], .slice A1 l1.length c1] ?_; (with_reducible refine (proof_Clauses.calls k a0_0 a0_1 _ _ l0_2 _ _ l0_3 _ _ l1 t215 t218 t219 _ ?side1 ?side2 ?side3 ?side4 ?side5 ?side6 A3.out).mono ?_); (case side1 => exact HR0_2.c HB.l); (case side2 => exact HC0_2.out); (case side3 => exact HR0_3.c HB.l); (case side4 => exact HC0_3.out); (case side5 => exact HR1.c HB.l); (case side6 => exact HC1.out); rintro e w8 ⟨v216, rfl, ho0, hb⟩; refine ⟨_, rfl, ?_⟩; have n0_ := Aside0.mk (Kd.S_lower ho0 (below_size HB.l)); have n1_ := Aside0.mk (blk_below BK214.b hb); have n2_ := Aside0.mk (below_step HB.l hb); clear BK214 HB; revert n0_ n1_ n2_; intro HO217 BK214 HB; (try clear hb); (try clear hb2); (try clear hk); (try clear hi); (try clear ho0); obtain ⟨Ao9, co9, eo9⟩ := Kd.S_slice HO217.out; subst eo9))
   go_ret2
   exact ⟨by first | rfl | (simp [errW_none, errW_some] <;> rfl) | (simp [*, errW_none, errW_some] <;> rfl), HB.l⟩
  ·rw [if_neg c5] at H
   have c5b0 : ((t215.length : Int) == 0) = false := beq_eq_false_iff_ne.mpr c5
   have c5b1 : ((t215.length : Int) != 0) = true := bne_iff_ne.mpr c5
   have c5b2 : ¬ (t215 = []) := fun h_ => c5 (by rw [h_]; rfl)
   obtain ⟨ji10, hji10⟩ : ∃ j_ : Int, (wrap64 ((t215.length : Int) - 1)) = j_ := ⟨_, rfl⟩
   replace H : (if 0 ≤ (ji10) then (if (ji10) < (t215.length : Int) then (if ((rd_L1 t215 (ji10)).length : Int) > 0 then (some ((l1.length : Int), 15)) else (some (0, 0))) else (none)) else (none)) = some (r1, r2) := by first | (rw [hji10] at H; exact H) | (simp only [hji10] at H ⊢; exact H)
   (try rw [hji10] at A3)
   have hji10w : (IntKind.i64.wrap ((t215.length : Int) - 1)) = ji10 := (i64_w _).trans hji10
   by_cases c11 : 0 ≤ (ji10)
   ·rw [if_pos c11] at H
    have c11b0 : decide (0 ≤ (ji10)) = true := decide_eq_true c11
    clear c11
    by_cases c12 : (ji10) < (t215.length : Int)
    ·rw [if_pos c12] at H
     have c12b0 : decide ((ji10) < (t215.length : Int)) = true := decide_eq_true c12
     clear c12
     by_cases c13 : ((rd_L1 t215 (ji10)).length : Int) > 0
     ·rw [if_pos c13] at H
      have c13b0 : decide (0 < ((rd_L1 t215 (ji10)).length : Int)) = true := decide_eq_true c13
      have c13b1 : decide (0 < (rd_L1 t215 (ji10)).length) = true := decide_eq_true (by omega)
      clear c13
      simp only [Option.some.injEq, Prod.mk.injEq] at H
      obtain ⟨rfl, rfl⟩ := H
      go_enter Try.func15, Try.ntmps15
      go_wp2_with (first | ((with_reducible refine gate_dst (N := 2) rfl ?_); (try (refine gate_guard (by rfl) ?_; dsimp only)); refine box_ev (N := 2) rfl (cs := #[.int .i64 a0_0, .int .i64 a0_1, .slice A0_2 l0_2.length c0_2, .slice A0_3 l0_3.length c0_3]) (t := 32) ?_; intro gb214 hg w14 hbox hb; have n0_ := Aside0.mk (below_step HB.l hb); have n1_ := Aside0.mk (hbox); have n2_ := Aside0.mk ((by rw [hg]; exact (below_size HB.l) : w.heap.size ≤ gb214)); have n3_ := Aside0.mk ((by rw [hg]; exact (below_size HB.l) : w.heap.size ≤ gb214)); clear HB; revert n0_ n1_ n2_ n3_; intro HB BK214 GW214 GE214; clear hb hbox hg; have hcz15_0 := BK214.cl 0 (.int .i64 a0_0); have hcz15_1 := BK214.cl 1 (.int .i64 a0_1); have hcz15_2 := BK214.cl 2 (.slice A0_2 l0_2.length c0_2); have hcz15_3 := BK214.cl 3 (.slice A0_3 l0_3.length c0_3); have hfz15_0 := BK214.fz 0; have hfz15_1 := BK214.fz 1; have hfz15_2 := BK214.fz 2; have hfz15_3 := BK214.fz 3) | ((with_reducible refine gate_callee (f := 23) rfl ?_); refine goesM_ Try.func23 #[.agg #[.int .i64 a0_0, .int .i64 a0_1, .slice A0_2 l0_2.length c0_2, .slice A0_3 l0_3.length c0_3], .slice A1 l1.length c1] ?_; (with_reducible refine (proof_Clauses.calls k a0_0 a0_1 _ _ l0_2 _ _ l0_3 _ _ l1 t215 t218 t219 _ ?side1 ?side2 ?side3 ?side4 ?side5 ?side6 A3.out).mono ?_); (case side1 => exact HR0_2.c HB.l); (case side2 => exact HC0_2.out); (case side3 => exact HR0_3.c HB.l); (case side4 => exact HC0_3.out); (case side5 => exact HR1.c HB.l); (case side6 => exact HC1.out); rintro e w16 ⟨v216, rfl, ho0, hb⟩; refine ⟨_, rfl, ?_⟩; have n0_ := Aside0.mk (Kd.S_lower ho0 (below_size HB.l)); have n1_ := Aside0.mk (blk_below BK214.b hb); have n2_ := Aside0.mk (below_step HB.l hb); clear BK214 HB; revert n0_ n1_ n2_; intro HO217 BK214 HB; (try clear hb); (try clear hb2); (try clear hk); (try clear hi); (try clear ho0); obtain ⟨Ao17, co17, eo17⟩ := Kd.S_slice HO217.out; subst eo17; have p220 : 0 ≤ ((ji10) : Int) := of_decide_eq_true (by first | (with_reducible assumption) | assumption); have q220 : (ji10) < (t215.length : Int) := of_decide_eq_true (by first | (with_reducible assumption) | assumption); obtain ⟨ad220, A220_0, c220_0, e220, hx220_0, hl220_0, hi220_0⟩ := at_L1 (Kd.S_reads' HO217.out).2.2 (ji10) p220 q220; cases e220; obtain ⟨ce220, hce220, hMe220, hcc220⟩ := Kd.S_get HO217.out [] (ji10) p220 (by first | exact q220 | exact of_decide_eq_true (by first | (with_reducible assumption) | assumption) | (have e_ := (Kd.S_reads' HO217.out).1; omega)); obtain ⟨ve220_0, rfl, ge220_0⟩ := hMe220; have hv220_0 := hcc220 0 _ rfl; rw [Nat.add_zero, show ((Kd.slice 3 (Kd.int .i64))).sz = 1 from rfl, Nat.mul_one] at hv220_0; replace hv220_0 := Option.some.inj (hv220_0.symm.trans hx220_0); rw [hv220_0] at ge220_0; have HL220_0 := Aside0.mk (show Kd.R (Kd.int .i64) 3 _ _ _ _ (rd_L1 t215 (ji10)) from ge220_0); clear hv220_0 ge220_0; clear hcc220 hce220; have HR220_0 := Aside0.mk hi220_0; have HC220_0 := Aside0.mk hl220_0; clear hi220_0 hl220_0; replace p220 := eq_true p220; replace q220 := eq_true q220))
      go_ret2
      exact ⟨by first | rfl | (simp [errW_none, errW_some] <;> rfl) | (simp only [← hji10]; first | rfl | (simp [errW_none, errW_some] <;> rfl)) | (simp [*, errW_none, errW_some] <;> rfl), HB.l⟩
     ·rw [if_neg c13] at H
      have c13b0 : decide (0 < ((rd_L1 t215 (ji10)).length : Int)) = false := decide_eq_false c13
      have c13b1 : decide (0 < (rd_L1 t215 (ji10)).length) = false := decide_eq_false (by omega)
      clear c13
      simp only [Option.some.injEq, Prod.mk.injEq] at H
      obtain ⟨rfl, rfl⟩ := H
      go_enter Try.func15, Try.ntmps15
      go_wp2_with (first | ((with_reducible refine gate_dst (N := 2) rfl ?_); (try (refine gate_guard (by rfl) ?_; dsimp only)); refine box_ev (N := 2) rfl (cs := #[.int .i64 a0_0, .int .i64 a0_1, .slice A0_2 l0_2.length c0_2, .slice A0_3 l0_3.length c0_3]) (t := 32) ?_; intro gb214 hg w18 hbox hb; have n0_ := Aside0.mk (below_step HB.l hb); have n1_ := Aside0.mk (hbox); have n2_ := Aside0.mk ((by rw [hg]; exact (below_size HB.l) : w.heap.size ≤ gb214)); have n3_ := Aside0.mk ((by rw [hg]; exact (below_size HB.l) : w.heap.size ≤ gb214)); clear HB; revert n0_ n1_ n2_ n3_; intro HB BK214 GW214 GE214; clear hb hbox hg; have hcz19_0 := BK214.cl 0 (.int .i64 a0_0); have hcz19_1 := BK214.cl 1 (.int .i64 a0_1); have hcz19_2 := BK214.cl 2 (.slice A0_2 l0_2.length c0_2); have hcz19_3 := BK214.cl 3 (.slice A0_3 l0_3.length c0_3); have hfz19_0 := BK214.fz 0; have hfz19_1 := BK214.fz 1; have hfz19_2 := BK214.fz 2; have hfz19_3 := BK214.fz 3) | ((with_reducible refine gate_callee (f := 23) rfl ?_); refine goesM_ Try.func23 #[.agg #[.int .i64 a0_0, .int .i64 a0_1, .slice A0_2 l0_2.length c0_2, .slice A0_3 l0_3.length c0_3], .slice A1 l1.length c1] ?_; (with_reducible refine (proof_Clauses.calls k a0_0 a0_1 _ _ l0_2 _ _ l0_3 _ _ l1 t215 t218 t219 _ ?side1 ?side2 ?side3 ?side4 ?side5 ?side6 A3.out).mono ?_); (case side1 => exact HR0_2.c HB.l); (case side2 => exact HC0_2.out); (case side3 => exact HR0_3.c HB.l); (case side4 => exact HC0_3.out); (case side5 => exact HR1.c HB.l); (case side6 => exact HC1.out); rintro e w20 ⟨v216, rfl, ho0, hb⟩; refine ⟨_, rfl, ?_⟩; have n0_ := Aside0.mk (Kd.S_lower ho0 (below_size HB.l)); have n1_ := Aside0.mk (blk_below BK214.b hb); have n2_ := Aside0.mk (below_step HB.l hb); clear BK214 HB; revert n0_ n1_ n2_; intro HO217 BK214 HB; (try clear hb); (try clear hb2); (try clear hk); (try clear hi); (try clear ho0); obtain ⟨Ao21, co21, eo21⟩ := Kd.S_slice HO217.out; subst eo21; have p220 : 0 ≤ ((ji10) : Int) := of_decide_eq_true (by first | (with_reducible assumption) | assumption); have q220 : (ji10) < (t215.length : Int) := of_decide_eq_true (by first | (with_reducible assumption) | assumption); obtain ⟨ad220, A220_0, c220_0, e220, hx220_0, hl220_0, hi220_0⟩ := at_L1 (Kd.S_reads' HO217.out).2.2 (ji10) p220 q220; cases e220; obtain ⟨ce220, hce220, hMe220, hcc220⟩ := Kd.S_get HO217.out [] (ji10) p220 (by first | exact q220 | exact of_decide_eq_true (by first | (with_reducible assumption) | assumption) | (have e_ := (Kd.S_reads' HO217.out).1; omega)); obtain ⟨ve220_0, rfl, ge220_0⟩ := hMe220; have hv220_0 := hcc220 0 _ rfl; rw [Nat.add_zero, show ((Kd.slice 3 (Kd.int .i64))).sz = 1 from rfl, Nat.mul_one] at hv220_0; replace hv220_0 := Option.some.inj (hv220_0.symm.trans hx220_0); rw [hv220_0] at ge220_0; have HL220_0 := Aside0.mk (show Kd.R (Kd.int .i64) 3 _ _ _ _ (rd_L1 t215 (ji10)) from ge220_0); clear hv220_0 ge220_0; clear hcc220 hce220; have HR220_0 := Aside0.mk hi220_0; have HC220_0 := Aside0.mk hl220_0; clear hi220_0 hl220_0; replace p220 := eq_true p220; replace q220 := eq_true q220))
      go_ret2
      exact ⟨by first | rfl | (simp [errW_none, errW_some] <;> rfl) | (simp only [← hji10]; first | rfl | (simp [errW_none, errW_some] <;> rfl)) | (simp [*, errW_none, errW_some] <;> rfl), HB.l⟩
    ·rw [if_neg c12] at H
     exact absurd H (by simp)
   ·rw [if_neg c11] at H
    exact absurd H (by simp)
 ·rw [if_neg c4] at H
  have c4b0 : (t219 == 0) = false := beq_eq_false_iff_ne.mpr c4
  have c4b1 : (t219 != 0) = true := bne_iff_ne.mpr c4
  simp only [Option.some.injEq, Prod.mk.injEq] at H
  obtain ⟨rfl, rfl⟩ := H
  go_enter Try.func15, Try.ntmps15
  go_wp2_with (first | ((with_reducible refine gate_dst (N := 2) rfl ?_); (try (refine gate_guard (by rfl) ?_; dsimp only)); refine box_ev (N := 2) rfl (cs := #[.int .i64 a0_0, .int .i64 a0_1, .slice A0_2 l0_2.length c0_2, .slice A0_3 l0_3.length c0_3]) (t := 32) ?_; intro gb214 hg w22 hbox hb; have n0_ := Aside0.mk (below_step HB.l hb); have n1_ := Aside0.mk (hbox); have n2_ := Aside0.mk ((by rw [hg]; exact (below_size HB.l) : w.heap.size ≤ gb214)); have n3_ := Aside0.mk ((by rw [hg]; exact (below_size HB.l) : w.heap.size ≤ gb214)); clear HB; revert n0_ n1_ n2_ n3_; intro HB BK214 GW214 GE214; clear hb hbox hg; have hcz23_0 := BK214.cl 0 (.int .i64 a0_0); have hcz23_1 := BK214.cl 1 (.int .i64 a0_1); have hcz23_2 := BK214.cl 2 (.slice A0_2 l0_2.length c0_2); have hcz23_3 := BK214.cl 3 (.slice A0_3 l0_3.length c0_3); have hfz23_0 := BK214.fz 0; have hfz23_1 := BK214.fz 1; have hfz23_2 := BK214.fz 2; have hfz23_3 := BK214.fz 3) | ((with_reducible refine gate_callee (f := 23) rfl ?_); refine goesM_ Try.func23 #[.agg #[.int .i64 a0_0, .int .i64 a0_1, .slice A0_2 l0_2.length c0_2, .slice A0_3 l0_3.length c0_3], .slice A1 l1.length c1] ?_; (with_reducible refine (proof_Clauses.calls k a0_0 a0_1 _ _ l0_2 _ _ l0_3 _ _ l1 t215 t218 t219 _ ?side1 ?side2 ?side3 ?side4 ?side5 ?side6 A3.out).mono ?_); (case side1 => exact HR0_2.c HB.l); (case side2 => exact HC0_2.out); (case side3 => exact HR0_3.c HB.l); (case side4 => exact HC0_3.out); (case side5 => exact HR1.c HB.l); (case side6 => exact HC1.out); rintro e w24 ⟨v216, rfl, ho0, hb⟩; refine ⟨_, rfl, ?_⟩; have n0_ := Aside0.mk (Kd.S_lower ho0 (below_size HB.l)); have n1_ := Aside0.mk (blk_below BK214.b hb); have n2_ := Aside0.mk (below_step HB.l hb); clear BK214 HB; revert n0_ n1_ n2_; intro HO217 BK214 HB; (try clear hb); (try clear hb2); (try clear hk); (try clear hi); (try clear ho0)))
  go_ret2
  exact ⟨by first | rfl | (simp [errW_none, errW_some] <;> rfl) | (simp [*, errW_none, errW_some] <;> rfl), HB.l⟩

/-! ### interleaveref31_Same: function 30 -/
def interleaveref31_Same.l0 : Nat → List Int → List Int → Int → Int → Option (Bool)
 | 0, _, _, _, _ => none
 | k + 1, x0, x1, x12, x13 => if x13 < x12 then (if 0 ≤ x13 then (if x13 < (x0.length : Int) then (if x13 < (x1.length : Int) then (if (rd x0 x13) = (rd x1 x13) then (interleaveref31_Same.l0 k x0 x1 x12 (wrap64 (x13 + 1))) else (some false)) else (none)) else (none)) else (none)) else (some true)
def interleaveref31_Same.f (k : Nat) (l0 : List Int) (l1 : List Int) : Option (Bool) := if (l0.length : Int) = (l1.length : Int) then (interleaveref31_Same.l0 k l0 l1 (l0.length : Int) 0) else (some false)
theorem interleaveref31_Same.mono_l : ∀ k, (∀ y0 y1 y2 y3, LeO (interleaveref31_Same.l0 k y0 y1 y2 y3) (interleaveref31_Same.l0 (k + 1) y0 y1 y2 y3))
 | 0 => fun _ _ _ _ r h => by simp [interleaveref31_Same.l0] at h
 | k + 1 => by
  have ih0 := interleaveref31_Same.mono_l k
  ·intro y0 y1 y2 y3
   unfold interleaveref31_Same.l0
   repeat' first
   | (with_reducible exact ih0 _ _ _ _)
   | (with_reducible exact LeO.refl _)
   | (with_reducible exact LeO.none _)
   | (with_reducible refine LeO.ite ?_ ?_)
   | (with_reducible refine LeO.bind ?_ (fun _ => ?_))
   | exact ih0 _ _ _ _
   | exact LeO.none _
   | refine LeO.ite ?_ ?_
   | refine LeO.bind ?_ (fun _ => ?_)
theorem interleaveref31_Same.mono : ∀ a0 a1 k, LeO (interleaveref31_Same.f k a0 a1) (interleaveref31_Same.f (k + 1) a0 a1) := by
 intro a0 a1 k
 have ih0 := interleaveref31_Same.mono_l k
 unfold interleaveref31_Same.f
 repeat' first
   | (with_reducible exact ih0 _ _ _ _)
   | (with_reducible exact LeO.refl _)
   | (with_reducible exact LeO.none _)
   | (with_reducible refine LeO.ite ?_ ?_)
   | (with_reducible refine LeO.bind ?_ (fun _ => ?_))
   | exact ih0 _ _ _ _
   | exact LeO.none _
   | refine LeO.ite ?_ ?_
   | refine LeO.bind ?_ (fun _ => ?_)
set_option maxHeartbeats 8000000 in
set_option maxRecDepth 100000 in
theorem interleaveref31_Same.calls (k : Nat) (A0 : Option Addr) (c0 : Nat) (l0 : List Int) (A1 : Option Addr) (c1 : Nat) (l1 : List Int) (r : Bool) (w : World) (hr0 : Kd.C (Kd.int .i64) w A0 l0.length l0) (hc0 : l0.length ≤ c0) (hr1 : Kd.C (Kd.int .i64) w A1 l1.length l1) (hc1 : l1.length ≤ c1) (h : interleaveref31_Same.f k l0 l1 = some r) :
  Calls Try.prog 30 #[.slice A0 l0.length c0, .slice A1 l1.length c1] w fun e w' => e = .returned (.bool r) ∧ Drawn0 w w' := by
 have HR0 := Aside0.mk hr0
 have HC0 := Aside0.mk hc0
 clear hr0 hc0
 have HR1 := Aside0.mk hr1
 have HC1 := Aside0.mk hc1
 clear hr1 hc1
 have H : (if (l0.length : Int) = (l1.length : Int) then (interleaveref31_Same.l0 k l0 l1 (l0.length : Int) 0) else (some false)) = some r := h
 clear h
 by_cases c3 : (l0.length : Int) = (l1.length : Int)
 ·rw [if_pos c3] at H
  have c3b0 : ((l0.length : Int) == (l1.length : Int)) = true := beq_iff_eq.mpr c3
  have c3b1 : ((l0.length : Int) != (l1.length : Int)) = false := bne_eq_false_iff_eq.mpr c3
  have c3b2 : (l0.length == l1.length) = true := by first | simpa using c3 | (simp at c3 ⊢; omega)
  clear c3
  have H' := Aside0.mk H
  clear H
  go_enter Try.func30, Try.ntmps30
  go_wp2
  repeat (go_quiet (fail); try go_wp2)
  go_loopg [13] k (fun kq v13 w' => ∃ (x13_1 : Int), v13 = .int .i64 x13_1 ∧ Aside0 (interleaveref31_Same.l0 kq l0 l1 (l0.length : Int) x13_1 = some r) ∧ Aside0 (kq ≤ k) ∧ Drawn0 w w')
  case atStart => exact ⟨(0), (by first | rfl | (simp; done) | (simp [*]; done)), H', ⟨Nat.le_refl _⟩, by repeat (first | exact Drawn0.refl _ | apply Drawn0.step)⟩
  case round => as_aux_lemma =>
   clear H'
   try clear c1
   try clear p2
   try clear c3
   try clear c3b0
   try clear c3b1
   try clear c3b2
   obtain ⟨x13_1, rfl, HA, HK1, ⟨m1, rfl⟩⟩ := hrel
   cases gk with
   | zero => exact absurd HA.out (by simp [interleaveref31_Same.l0])
   | succ k1 =>
    have H := HA.out
    clear HA
    simp only [interleaveref31_Same.l0] at H
    by_cases c4 : x13_1 < (l0.length : Int)
    ·rw [if_pos c4] at H
     have c4b0 : decide (x13_1 < (l0.length : Int)) = true := decide_eq_true c4
     clear c4
     by_cases c5 : 0 ≤ x13_1
     ·rw [if_pos c5] at H
      have c5b0 : decide (0 ≤ x13_1) = true := decide_eq_true c5
      clear c5
      by_cases c6 : x13_1 < (l0.length : Int)
      ·rw [if_pos c6] at H
       have c6b0 : decide (x13_1 < (l0.length : Int)) = true := decide_eq_true c6
       clear c6
       by_cases c7 : x13_1 < (l1.length : Int)
       ·rw [if_pos c7] at H
        have c7b0 : decide (x13_1 < (l1.length : Int)) = true := decide_eq_true c7
        clear c7
        by_cases c8 : (rd l0 x13_1) = (rd l1 x13_1)
        ·rw [if_pos c8] at H
         have c8b0 : ((rd l0 x13_1) == (rd l1 x13_1)) = true := beq_iff_eq.mpr c8
         have c8b1 : ((rd l0 x13_1) != (rd l1 x13_1)) = false := bne_eq_false_iff_eq.mpr c8
         clear c8
         have H' := Aside0.mk H
         clear H
         have p221 : 0 ≤ (x13_1 : Int) := of_decide_eq_true (by first | (with_reducible assumption) | assumption)
         have q221 : x13_1 < (l0.length : Int) := of_decide_eq_true (by first | (with_reducible assumption) | assumption)
         obtain ⟨ad221, e221, hx221_0⟩ := Kd.at_int HR0.out x13_1 p221 q221
         cases e221
         replace p221 := eq_true p221
         replace q221 := eq_true q221
         have p222 : 0 ≤ (x13_1 : Int) := of_decide_eq_true (by first | (with_reducible assumption) | assumption)
         have q222 : x13_1 < (l1.length : Int) := of_decide_eq_true (by first | (with_reducible assumption) | assumption)
         obtain ⟨ad222, e222, hx222_0⟩ := Kd.at_int HR1.out x13_1 p222 q222
         cases e222
         replace p222 := eq_true p222
         replace q222 := eq_true q222
         go_wp2
         repeat (go_quiet (fail); try go_wp2)
         go_roundg k1
         case measure => have := HK1.out; omega
         case rel => exact ⟨(wrap64 (x13_1 + 1)), (by first | rfl | (simp; done) | (simp [*]; done)), H', ⟨by have := HK1.out; omega⟩, by repeat (first | exact Drawn0.refl _ | apply Drawn0.step)⟩
        ·rw [if_neg c8] at H
         have c8b0 : ((rd l0 x13_1) == (rd l1 x13_1)) = false := beq_eq_false_iff_ne.mpr c8
         have c8b1 : ((rd l0 x13_1) != (rd l1 x13_1)) = true := bne_iff_ne.mpr c8
         obtain rfl := Option.some.inj H
         have p221 : 0 ≤ (x13_1 : Int) := of_decide_eq_true (by first | (with_reducible assumption) | assumption)
         have q221 : x13_1 < (l0.length : Int) := of_decide_eq_true (by first | (with_reducible assumption) | assumption)
         obtain ⟨ad221, e221, hx221_0⟩ := Kd.at_int HR0.out x13_1 p221 q221
         cases e221
         replace p221 := eq_true p221
         replace q221 := eq_true q221
         have p222 : 0 ≤ (x13_1 : Int) := of_decide_eq_true (by first | (with_reducible assumption) | assumption)
         have q222 : x13_1 < (l1.length : Int) := of_decide_eq_true (by first | (with_reducible assumption) | assumption)
         obtain ⟨ad222, e222, hx222_0⟩ := Kd.at_int HR1.out x13_1 p222 q222
         cases e222
         replace p222 := eq_true p222
         replace q222 := eq_true q222
         go_wp2
         repeat (go_quiet (fail); try go_wp2)
         go_ret
         exact ⟨by first | rfl | (simp; done) | (simp [*]; done), by repeat (first | exact Drawn0.refl _ | apply Drawn0.step)⟩
       ·rw [if_neg c7] at H
        exact absurd H (by simp)
      ·rw [if_neg c6] at H
       exact absurd H (by simp)
     ·rw [if_neg c5] at H
      exact absurd H (by simp)
    ·rw [if_neg c4] at H
     have c4b0 : decide (x13_1 < (l0.length : Int)) = false := decide_eq_false c4
     clear c4
     obtain rfl := Option.some.inj H
     go_wp2
     repeat (go_quiet (fail); try go_wp2)
     go_ret
     exact ⟨by first | rfl | (simp; done) | (simp [*]; done), by repeat (first | exact Drawn0.refl _ | apply Drawn0.step)⟩
 ·rw [if_neg c3] at H
  have c3b0 : ((l0.length : Int) == (l1.length : Int)) = false := beq_eq_false_iff_ne.mpr c3
  have c3b1 : ((l0.length : Int) != (l1.length : Int)) = true := bne_iff_ne.mpr c3
  have c3b2 : (l0.length == l1.length) = false := by first | simpa using c3 | (simp at c3 ⊢; omega)
  obtain rfl := Option.some.inj H
  go_enter Try.func30, Try.ntmps30
  go_wp2
  repeat (go_quiet (fail); try go_wp2)
  go_ret
  exact ⟨by first | rfl | (simp; done) | (simp [*]; done), by repeat (first | exact Drawn0.refl _ | apply Drawn0.step)⟩

/-! ### interleavelaw33_example: function 31 -/
def interleavelaw33_example.f  : Option (Int × Int × (List (S75)) × (List (List Int)) × (List (S50))) := some (2, 2, (([(⟨0, 1, (-1)⟩ : S75), (⟨1, 0, (-1)⟩ : S75)] : List (S75))), (([(([1] : List Int)), (([2] : List Int))] : List (List Int))), (([(⟨1, 0, ([] : List Int), 0, 0, 0⟩ : S50), (⟨1, 1, ([] : List Int), 0, 0, 0⟩ : S50), (⟨2, 0, (([1, 2] : List Int)), 0, 0, 0⟩ : S50), (⟨3, 0, ([] : List Int), 0, 2, 0⟩ : S50), (⟨3, 0, ([] : List Int), 1, 3, 1⟩ : S50)] : List (S50))))
set_option maxHeartbeats 8000000 in
set_option maxRecDepth 100000 in
theorem interleavelaw33_example.calls  (r1 : Int) (r2 : Int) (r3 : List (S75)) (r4 : List (List Int)) (r5 : List (S50)) (w : World) (h : interleavelaw33_example.f  = some (r1, r2, r3, r4, r5)) :
  Calls Try.prog 31 #[] w fun e w' => ∃ v2_ v3_ v4_ : Value, e = .returned (.tuple #[.agg #[.int .i64 r1, .int .i64 r2, v2_, v3_], v4_]) ∧ Kd.R k75 75 w' w.heap.size (fun k_ => (w.heap.size ≤ k_)) v2_ r3 ∧ Kd.N (Kd.slice 3 (Kd.int .i64)) 43 w' w.heap.size (fun k_ => (w.heap.size ≤ k_) ∧ some k_ ≠ (v2_ : Value).ownBlock ∧ some k_ ≠ (v4_ : Value).ownBlock) v3_ r4 ∧ Kd.N k50 50 w' w.heap.size (fun k_ => (w.heap.size ≤ k_) ∧ some k_ ≠ (v2_ : Value).ownBlock ∧ some k_ ≠ (v3_ : Value).ownBlock) v4_ r5 ∧ Below w.heap.size w w' := by
 have hu32 := Try.underlying32
 have hu75 := Try.underlying75
 have hu50 := Try.underlying50
 have HB := Aside0.mk (Below.refl w.heap.size w)
 have H : (some (2, 2, (([(⟨0, 1, (-1)⟩ : S75), (⟨1, 0, (-1)⟩ : S75)] : List (S75))), (([(([1] : List Int)), (([2] : List Int))] : List (List Int))), (([(⟨1, 0, ([] : List Int), 0, 0, 0⟩ : S50), (⟨1, 1, ([] : List Int), 0, 0, 0⟩ : S50), (⟨2, 0, (([1, 2] : List Int)), 0, 0, 0⟩ : S50), (⟨3, 0, ([] : List Int), 0, 2, 0⟩ : S50), (⟨3, 0, ([] : List Int), 1, 3, 1⟩ : S50)] : List (S50))))) = some (r1, r2, r3, r4, r5) := h
 clear h
 obtain ⟨y224, hy224⟩ : ∃ y_ : List (S75), y_ = (([(⟨0, 1, (-1)⟩ : S75), (⟨1, 0, (-1)⟩ : S75)] : List (S75))) := ⟨_, rfl⟩
 replace H : (some (2, 2, y224, (([(([1] : List Int)), (([2] : List Int))] : List (List Int))), (([(⟨1, 0, ([] : List Int), 0, 0, 0⟩ : S50), (⟨1, 1, ([] : List Int), 0, 0, 0⟩ : S50), (⟨2, 0, (([1, 2] : List Int)), 0, 0, 0⟩ : S50), (⟨3, 0, ([] : List Int), 0, 2, 0⟩ : S50), (⟨3, 0, ([] : List Int), 1, 3, 1⟩ : S50)] : List (S50))))) = some (r1, r2, r3, r4, r5) := by first | (rw [hy224]; with_reducible exact H) | (have H2_ := (Option.bind_some _ _).symm.trans H; rw [hy224]; with_reducible exact H2_) | (have H2_ := (Option.bind_some _ _).symm.trans H; with_reducible exact H2_) | with_reducible exact H | (rw [hy224]; exact H) | exact H
 have Ny224 := Aside0.mk hy224
 clear hy224
 obtain ⟨y227, hy227⟩ : ∃ y_ : List Int, y_ = (([1] : List Int)) := ⟨_, rfl⟩
 replace H : (some (2, 2, y224, (([y227, (([2] : List Int))] : List (List Int))), (([(⟨1, 0, ([] : List Int), 0, 0, 0⟩ : S50), (⟨1, 1, ([] : List Int), 0, 0, 0⟩ : S50), (⟨2, 0, (([1, 2] : List Int)), 0, 0, 0⟩ : S50), (⟨3, 0, ([] : List Int), 0, 2, 0⟩ : S50), (⟨3, 0, ([] : List Int), 1, 3, 1⟩ : S50)] : List (S50))))) = some (r1, r2, r3, r4, r5) := by first | (rw [hy227]; with_reducible exact H) | (have H2_ := (Option.bind_some _ _).symm.trans H; rw [hy227]; with_reducible exact H2_) | (have H2_ := (Option.bind_some _ _).symm.trans H; with_reducible exact H2_) | with_reducible exact H | (rw [hy227]; exact H) | exact H
 have Ny227 := Aside0.mk hy227
 clear hy227
 obtain ⟨y230, hy230⟩ : ∃ y_ : List Int, y_ = (([2] : List Int)) := ⟨_, rfl⟩
 replace H : (some (2, 2, y224, (([y227, y230] : List (List Int))), (([(⟨1, 0, ([] : List Int), 0, 0, 0⟩ : S50), (⟨1, 1, ([] : List Int), 0, 0, 0⟩ : S50), (⟨2, 0, (([1, 2] : List Int)), 0, 0, 0⟩ : S50), (⟨3, 0, ([] : List Int), 0, 2, 0⟩ : S50), (⟨3, 0, ([] : List Int), 1, 3, 1⟩ : S50)] : List (S50))))) = some (r1, r2, r3, r4, r5) := by first | (rw [hy230]; with_reducible exact H) | (have H2_ := (Option.bind_some _ _).symm.trans H; rw [hy230]; with_reducible exact H2_) | (have H2_ := (Option.bind_some _ _).symm.trans H; with_reducible exact H2_) | with_reducible exact H | (rw [hy230]; exact H) | exact H
 have Ny230 := Aside0.mk hy230
 clear hy230
 obtain ⟨y233, hy233⟩ : ∃ y_ : List (List Int), y_ = (([y227, y230] : List (List Int))) := ⟨_, rfl⟩
 replace H : (some (2, 2, y224, y233, (([(⟨1, 0, ([] : List Int), 0, 0, 0⟩ : S50), (⟨1, 1, ([] : List Int), 0, 0, 0⟩ : S50), (⟨2, 0, (([1, 2] : List Int)), 0, 0, 0⟩ : S50), (⟨3, 0, ([] : List Int), 0, 2, 0⟩ : S50), (⟨3, 0, ([] : List Int), 1, 3, 1⟩ : S50)] : List (S50))))) = some (r1, r2, r3, r4, r5) := by first | (rw [hy233]; with_reducible exact H) | (have H2_ := (Option.bind_some _ _).symm.trans H; rw [hy233]; with_reducible exact H2_) | (have H2_ := (Option.bind_some _ _).symm.trans H; with_reducible exact H2_) | with_reducible exact H | (rw [hy233]; exact H) | exact H
 have Ny233 := Aside0.mk hy233
 clear hy233
 obtain ⟨y237, hy237⟩ : ∃ y_ : List Int, y_ = (([1, 2] : List Int)) := ⟨_, rfl⟩
 replace H : (some (2, 2, y224, y233, (([(⟨1, 0, ([] : List Int), 0, 0, 0⟩ : S50), (⟨1, 1, ([] : List Int), 0, 0, 0⟩ : S50), (⟨2, 0, y237, 0, 0, 0⟩ : S50), (⟨3, 0, ([] : List Int), 0, 2, 0⟩ : S50), (⟨3, 0, ([] : List Int), 1, 3, 1⟩ : S50)] : List (S50))))) = some (r1, r2, r3, r4, r5) := by first | (rw [hy237]; with_reducible exact H) | (have H2_ := (Option.bind_some _ _).symm.trans H; rw [hy237]; with_reducible exact H2_) | (have H2_ := (Option.bind_some _ _).symm.trans H; with_reducible exact H2_) | with_reducible exact H | (rw [hy237]; exact H) | exact H
 have Ny237 := Aside0.mk hy237
 clear hy237
 obtain ⟨y240, hy240⟩ : ∃ y_ : List (S50), y_ = (([(⟨1, 0, ([] : List Int), 0, 0, 0⟩ : S50), (⟨1, 1, ([] : List Int), 0, 0, 0⟩ : S50), (⟨2, 0, y237, 0, 0, 0⟩ : S50), (⟨3, 0, ([] : List Int), 0, 2, 0⟩ : S50), (⟨3, 0, ([] : List Int), 1, 3, 1⟩ : S50)] : List (S50))) := ⟨_, rfl⟩
 replace H : (some (2, 2, y224, y233, y240)) = some (r1, r2, r3, r4, r5) := by first | (rw [hy240]; with_reducible exact H) | (have H2_ := (Option.bind_some _ _).symm.trans H; rw [hy240]; with_reducible exact H2_) | (have H2_ := (Option.bind_some _ _).symm.trans H; with_reducible exact H2_) | with_reducible exact H | (rw [hy240]; exact H) | exact H
 have Ny240 := Aside0.mk hy240
 clear hy240
 simp only [Option.some.injEq, Prod.mk.injEq] at H
 obtain ⟨rfl, rfl, rfl, rfl, rfl⟩ := H
 go_enter Try.func31, Try.ntmps31
 go_wp2_with (first | ((with_reducible refine gate_dst (N := 0) rfl ?_); refine box_ev (N := 0) rfl (cs := #[.int .i64 0, .int .i64 0, .slice none 0 0, .slice none 0 0]) (t := 32) ?_; intro gb223 hg w1 hbox hb; have n0_ := Aside0.mk (below_step HB.l hb); have n1_ := Aside0.mk (hbox); have n2_ := Aside0.mk ((by rw [hg]; exact (below_size HB.l) : w.heap.size ≤ gb223)); have n3_ := Aside0.mk ((by rw [hg]; exact (below_size HB.l) : w.heap.size ≤ gb223)); clear HB; revert n0_ n1_ n2_ n3_; intro HB BK223 GW223 GE223; clear hb hbox hg) | ((with_reducible refine gate_dst (N := 5) rfl ?_); refine Kd.R_lit k75 _ 75 ?hg (N := 5) ?hd (xs := ([(⟨0, 1, (-1)⟩ : S75), (⟨1, 0, (-1)⟩ : S75)] : List (S75))) (inner := [.int .i64 0, .int .i64 1, .int .i64 (-1), .int .i64 1, .int .i64 0, .int .i64 (-1)]) (ok := fun _ => True) (okp := fun _ => True) ?hr ?hp (fun _ hk => hk) trivial (Below.refl _ _) (Nat.le_refl _) (by simp) ?_; (case hd => rfl); (case hg => rfl); (case hr => first | (go_simp; done) | (go_simp; rfl)); (case hp => exact (Reps.c3 (show Kd.M k75 _ _ _ (⟨0, 1, (-1)⟩ : S75) [.int .i64 0, .int .i64 1, .int .i64 (-1)] from (k75_mkM _ _ _ (⟨0, 1, (-1)⟩ : S75) )) (Reps.c3 (show Kd.M k75 _ _ _ (⟨1, 0, (-1)⟩ : S75) [.int .i64 1, .int .i64 0, .int .i64 (-1)] from (k75_mkM _ _ _ (⟨1, 0, (-1)⟩ : S75) )) (Reps.none _ _)))); intro v225 w2 ho3 hb hg_ hnew_; clear hg_ hnew_; (first | rw [← Ny224.out] at ho3 | (simp only [Int.reduceToNat] at ho3; rw [← Ny224.out] at ho3)); have n0_ := Aside0.mk (Kd.R_lower (Kd.R_newM (M := fun k_ => (w.heap.size ≤ k_)) ho3 (below_size HB.l) (fun k_ h_ => h_)) (below_size HB.l)); have n1_ := Aside0.mk (blk_below BK223.b hb); have n2_ := Aside0.mk (below_step HB.l hb); clear BK223 HB; revert n0_ n1_ n2_; intro HO226 BK223 HB; clear hb ho3) | ((with_reducible refine gate_dst (N := 6) rfl ?_); refine Kd.R_lit (Kd.int .i64) _ 3 ?hg (N := 6) ?hd (xs := ([1] : List Int)) (inner := [.int .i64 1]) (ok := fun _ => True) (okp := fun _ => True) ?hr ?hp (fun _ hk => hk) trivial (Below.refl _ _) (Nat.le_refl _) (by simp) ?_; (case hd => rfl); (case hg => rfl); (case hr => first | (go_simp; done) | (go_simp; rfl)); (case hp => exact (Reps.one (show Kd.M (Kd.int .i64) _ _ _ 1 [.int .i64 1] from rfl) (Reps.none _ _))); intro v228 w4 ho5 hb hg_ hnew_; clear hg_ hnew_; (first | rw [← Ny227.out] at ho5 | (simp only [Int.reduceToNat] at ho5; rw [← Ny227.out] at ho5)); have n0_ := Aside0.mk (Kd.R_below HO226.r hb); have n1_ := Aside0.mk (Kd.R_lower (Kd.R_newM (M := fun k_ => (w.heap.size ≤ k_)) ho5 (below_size HB.l) (fun k_ h_ => h_)) (below_size HB.l)); have n2_ := Aside0.mk (blk_below BK223.b hb); have n3_ := Aside0.mk (below_step HB.l hb); clear HO226 BK223 HB; revert n0_ n1_ n2_ n3_; intro HO226 HO229 BK223 HB; clear hb ho5) | ((with_reducible refine gate_dst (N := 7) rfl ?_); refine Kd.R_lit (Kd.int .i64) _ 3 ?hg (N := 7) ?hd (xs := ([2] : List Int)) (inner := [.int .i64 2]) (ok := fun _ => True) (okp := fun _ => True) ?hr ?hp (fun _ hk => hk) trivial (Below.refl _ _) (Nat.le_refl _) (by simp) ?_; (case hd => rfl); (case hg => rfl); (case hr => first | (go_simp; done) | (go_simp; rfl)); (case hp => exact (Reps.one (show Kd.M (Kd.int .i64) _ _ _ 2 [.int .i64 2] from rfl) (Reps.none _ _))); intro v231 w6 ho7 hb hg_ hnew_; clear hg_ hnew_; (first | rw [← Ny230.out] at ho7 | (simp only [Int.reduceToNat] at ho7; rw [← Ny230.out] at ho7)); have n0_ := Aside0.mk (Kd.R_below HO226.r hb); have n1_ := Aside0.mk (Kd.R_elder' HO229.r (Kd.R_base ho7) hb); have n2_ := Aside0.mk (Kd.R_lower (Kd.R_new' (Kd.R_newM (M := fun k_ => (w.heap.size ≤ k_)) ho7 (below_size HB.l) (fun k_ h_ => h_)) (Kd.R_lt HO229.r)) (below_size HB.l)); have n3_ := Aside0.mk (blk_below BK223.b hb); have n4_ := Aside0.mk (below_step HB.l hb); clear HO226 HO229 BK223 HB; revert n0_ n1_ n2_ n3_ n4_; intro HO226 HO229 HO232 BK223 HB; clear hb ho7; obtain ⟨Ao8, co8, eo8⟩ := Kd.R_slice HO229.out; subst eo8; obtain ⟨Ao9, co9, eo9⟩ := Kd.R_slice HO232.out; subst eo9) | ((with_reducible refine gate_dst (N := 8) rfl ?_); refine Kd.N_lit (Kd.slice 3 (Kd.int .i64)) _ 43 ?hg (N' := 8) ?hd (xs := ([y227, y230] : List (List Int))) (inner := [.slice Ao8 y227.length co8, .slice Ao9 y230.length co9]) (ok := (fun k_ => (w.heap.size ≤ k_) ∧ some k_ ≠ (v225 : Value).ownBlock ∧ k_ ≠ gb223)) (okp := (fun k_ => (w.heap.size ≤ k_) ∧ some k_ ≠ (v225 : Value).ownBlock ∧ k_ ≠ gb223)) ?hr ?hp (fun _ hk => hk) ((show ∀ k_, w6.heap.size ≤ k_ → (fun k_ => (w.heap.size ≤ k_) ∧ some k_ ≠ (v225 : Value).ownBlock ∧ k_ ≠ gb223) k_ from fun k_ hk => ⟨(Nat.le_trans (below_size HB.l) hk), Kd.fresh' (Kd.R_lt HO226.r) k_ hk, Kd.freshB (g := gb223) (o := .cells #[.int .i64 0, .int .i64 0, .slice none 0 0, .slice none 0 0] 32 (0, 0)) BK223.b k_ hk⟩) _ (Nat.le_refl _)) (Below.refl _ _) (Nat.le_refl _) (by simp) ?_; (case hd => rfl); (case hg => rfl); (case hr => first | (go_simp; done) | (go_simp; rfl)); (case hp => exact (Reps.one (show Kd.FK (Kd.slice 3 (Kd.int .i64)) _ _ y227 [.slice Ao8 y227.length co8] from (Kd.FK_slice_mk (Kd.R_reads' (Kd.R_mono (ok' := (fun k_ => (w.heap.size ≤ k_) ∧ some k_ ≠ (v225 : Value).ownBlock ∧ k_ ≠ gb223)) (Kd.R_types (Kd.R_apart' (HO229.out) (Kd.R_typed HO226.out) (by decide)) BK223.out (by decide)) (fun k_ hk => ⟨hk.1.1.1.1, ⟨hk.1.2, hk.2⟩⟩))).2.1 (Kd.R_F (Kd.R_mono (ok' := (fun k_ => (w.heap.size ≤ k_) ∧ some k_ ≠ (v225 : Value).ownBlock ∧ k_ ≠ gb223)) (Kd.R_types (Kd.R_apart' (HO229.out) (Kd.R_typed HO226.out) (by decide)) BK223.out (by decide)) (fun k_ hk => ⟨hk.1.1.1.1, ⟨hk.1.2, hk.2⟩⟩))))) (Reps.one (show Kd.FK (Kd.slice 3 (Kd.int .i64)) _ _ y230 [.slice Ao9 y230.length co9] from (Kd.FK_slice_mk (Kd.R_reads' (Kd.R_mono (ok' := (fun k_ => (w.heap.size ≤ k_) ∧ some k_ ≠ (v225 : Value).ownBlock ∧ k_ ≠ gb223)) (Kd.R_types (Kd.R_apart' (HO232.out) (Kd.R_typed HO226.out) (by decide)) BK223.out (by decide)) (fun k_ hk => ⟨hk.1.1.1.1, ⟨hk.1.2, hk.2⟩⟩))).2.1 (Kd.R_F (Kd.R_mono (ok' := (fun k_ => (w.heap.size ≤ k_) ∧ some k_ ≠ (v225 : Value).ownBlock ∧ k_ ≠ gb223)) (Kd.R_types (Kd.R_apart' (HO232.out) (Kd.R_typed HO226.out) (by decide)) BK223.out (by decide)) (fun k_ hk => ⟨hk.1.1.1.1, ⟨hk.1.2, hk.2⟩⟩))))) (Reps.none _ _)))); intro v234 w10 ho11 hb hg_ hnew_; clear hg_ hnew_; (first | rw [← Ny233.out] at ho11 | (simp only [Int.reduceToNat] at ho11; rw [← Ny233.out] at ho11)); have n0_ := Aside0.mk (Kd.R_below HO226.r hb); have n1_ := Aside0.mk (Kd.N_lower ho11 (below_size HB.l)); have n2_ := Aside0.mk (blk_below BK223.b hb); have n3_ := Aside0.mk (below_step HB.l hb); clear HO226 BK223 HB HO229 HO232; revert n0_ n1_ n2_ n3_; intro HO226 HO235 BK223 HB; clear hb ho11; obtain ⟨Ao12, co12, eo12⟩ := Kd.N_slice HO235.out; subst eo12; obtain ⟨Ao13, co13, eo13⟩ := Kd.R_slice HO226.out; subst eo13) | ((with_reducible refine gate_dst (N := 2) rfl ?_); refine box_ev (N := 2) rfl (cs := #[.int .i64 0, .int .i64 0, .slice none 0 0, .slice none 0 0]) (t := 32) ?_; intro gb236 hg w14z hboxz hbz; have HGz := Aside0.mk (And.intro hg (And.intro hboxz hbz)); clear hg hboxz hbz) | ((with_reducible refine gate_store (t := 32) (p := 2) (v := _) rfl ?_); have hg := HGz.out.1; refine store_box rfl rfl rfl hg HGz.out.2.1 HGz.out.2.2 rfl (cs := #[.int .i64 2, .int .i64 2, .slice Ao13 y224.length co13, .slice Ao12 y233.length co12]) ?hx (by kernel_rfl) rfl rfl ?_; (case hx => first | rfl | (go_simp; rfl)); intro w14 hbox hb; clear HGz; have n0_ := Aside0.mk (Kd.R_below HO226.r hb); have n1_ := Aside0.mk (Kd.N_below (Kd.N_elderB HO235.n gb236 (Nat.le_of_eq hg.symm)) hb); have n2_ := Aside0.mk (blk_below BK223.b hb); have n3_ := Aside0.mk (below_step HB.l hb); have n4_ := Aside0.mk (hbox); have n5_ := Aside0.mk ((by rw [hg]; exact (below_size HB.l) : w.heap.size ≤ gb236)); have n6_ := Aside0.mk ((by rw [hg]; exact (below_size HB.l) : w.heap.size ≤ gb236)); have n7_ := Aside0.mk ((by rw [hg]; exact Nat.ne_of_lt (blk_lt BK223.b) : gb223 ≠ gb236)); have n8_ := Aside0.mk ((by rw [hg]; exact Nat.ne_of_gt (blk_lt BK223.b) : gb236 ≠ gb223)); clear HO226 HO235 BK223 HB; revert n0_ n1_ n2_ n3_ n4_ n5_ n6_ n7_ n8_; intro HO226 HO235 BK223 HB BK236 GW236 GE236 NB223_236 NB236_223; clear hb hbox hg; have hnb15 := NB236_223.out; have hnc15 := NB223_236.out; have hcz16_0 := BK236.cl 0 (.int .i64 2); have hcz16_1 := BK236.cl 1 (.int .i64 2); have hcz16_2 := BK236.cl 2 (.slice Ao13 y224.length co13); have hcz16_3 := BK236.cl 3 (.slice Ao12 y233.length co12); have hfz16_0 := BK236.fz 0; have hfz16_1 := BK236.fz 1; have hfz16_2 := BK236.fz 2; have hfz16_3 := BK236.fz 3) | ((with_reducible refine gate_dst (N := 13) rfl ?_); refine Kd.R_lit (Kd.int .i64) _ 3 ?hg (N := 13) ?hd (xs := ([1, 2] : List Int)) (inner := [.int .i64 1, .int .i64 2]) (ok := fun _ => True) (okp := fun _ => True) ?hr ?hp (fun _ hk => hk) trivial (Below.refl _ _) (Nat.le_refl _) (by simp) ?_; (case hd => rfl); (case hg => rfl); (case hr => first | (go_simp; done) | (go_simp; rfl)); (case hp => exact (Reps.one (show Kd.M (Kd.int .i64) _ _ _ 1 [.int .i64 1] from rfl) (Reps.one (show Kd.M (Kd.int .i64) _ _ _ 2 [.int .i64 2] from rfl) (Reps.none _ _)))); intro v238 w17 ho18 hb hg_ hnew_; clear hg_ hnew_; (first | rw [← Ny237.out] at ho18 | (simp only [Int.reduceToNat] at ho18; rw [← Ny237.out] at ho18)); have n0_ := Aside0.mk (Kd.R_below (by (with_reducible repeat (first | apply Kd.R_alloc | apply Kd.R_drewN | apply Kd.R_drew)); exact (HO226.out)) hb); have n1_ := Aside0.mk (Kd.N_elder' (by (with_reducible repeat (first | apply Kd.N_alloc | apply Kd.N_drewN | apply Kd.N_drew)); exact (HO235.out)) (Kd.R_base ho18) hb); have n2_ := Aside0.mk (Kd.R_lower (Kd.R_newM (M := fun k_ => (w.heap.size ≤ k_)) ho18 (below_size HB.l) (fun k_ h_ => h_)) (below_size HB.l)); have n3_ := Aside0.mk (blk_below BK223.b hb); have n4_ := Aside0.mk (blk_below BK236.b hb); have n5_ := Aside0.mk (below_step HB.l hb); clear HO226 HO235 BK223 BK236 HB; revert n0_ n1_ n2_ n3_ n4_ n5_; intro HO226 HO235 HO239 BK223 BK236 HB; clear hb ho18; obtain ⟨Ao19, co19, eo19⟩ := Kd.R_slice HO239.out; subst eo19) | ((with_reducible refine gate_dst (N := 17) rfl ?_); refine Kd.N_lit k50 _ 50 ?hg (N' := 17) ?hd (xs := ([(⟨1, 0, ([] : List Int), 0, 0, 0⟩ : S50), (⟨1, 1, ([] : List Int), 0, 0, 0⟩ : S50), (⟨2, 0, y237, 0, 0, 0⟩ : S50), (⟨3, 0, ([] : List Int), 0, 2, 0⟩ : S50), (⟨3, 0, ([] : List Int), 1, 3, 1⟩ : S50)] : List (S50))) (inner := [.int .i64 1, .int .i64 0, .slice none 0 0, .int .i64 0, .int .i64 0, .int .i64 0, .int .i64 1, .int .i64 1, .slice none 0 0, .int .i64 0, .int .i64 0, .int .i64 0, .int .i64 2, .int .i64 0, .slice Ao19 y237.length co19, .int .i64 0, .int .i64 0, .int .i64 0, .int .i64 3, .int .i64 0, .slice none 0 0, .int .i64 0, .int .i64 2, .int .i64 0, .int .i64 3, .int .i64 0, .slice none 0 0, .int .i64 1, .int .i64 3, .int .i64 1]) (ok := (fun k_ => (w.heap.size ≤ k_) ∧ some k_ ≠ (.slice Ao13 y224.length co13 : Value).ownBlock ∧ some k_ ≠ (.slice Ao12 y233.length co12 : Value).ownBlock ∧ k_ ≠ gb223 ∧ k_ ≠ gb236)) (okp := (fun k_ => (w.heap.size ≤ k_) ∧ some k_ ≠ (.slice Ao13 y224.length co13 : Value).ownBlock ∧ some k_ ≠ (.slice Ao12 y233.length co12 : Value).ownBlock ∧ k_ ≠ gb223 ∧ k_ ≠ gb236)) ?hr ?hp (fun _ hk => hk) ((show ∀ k_, w17.heap.size ≤ k_ → (fun k_ => (w.heap.size ≤ k_) ∧ some k_ ≠ (.slice Ao13 y224.length co13 : Value).ownBlock ∧ some k_ ≠ (.slice Ao12 y233.length co12 : Value).ownBlock ∧ k_ ≠ gb223 ∧ k_ ≠ gb236) k_ from fun k_ hk => ⟨(Nat.le_trans (below_size HB.l) hk), Kd.fresh' (Kd.R_lt HO226.r) k_ hk, Kd.fresh' (Kd.N_lt HO235.n) k_ hk, Kd.freshB (g := gb223) (o := .cells #[.int .i64 0, .int .i64 0, .slice none 0 0, .slice none 0 0] 32 (0, 0)) BK223.b k_ hk, Kd.freshB (g := gb236) (o := .cells #[.int .i64 2, .int .i64 2, .slice Ao13 y224.length co13, .slice Ao12 y233.length co12] 32 (0, 0)) BK236.b k_ hk⟩) _ (Nat.le_refl _)) (Below.refl _ _) (Nat.le_refl _) (by simp) ?_; (case hd => rfl); (case hg => rfl); (case hr => first | (go_simp; done) | (go_simp; rfl)); (case hp => exact (Reps.c6 (show Kd.FK k50 _ _ (⟨1, 0, ([] : List Int), 0, 0, 0⟩ : S50) [.int .i64 1, .int .i64 0, .slice none 0 0, .int .i64 0, .int .i64 0, .int .i64 0] from (k50_mkF _ _ (⟨1, 0, ([] : List Int), 0, 0, 0⟩ : S50) (Nat.le_refl _) (Kd.F_nil _ _ _))) (Reps.c6 (show Kd.FK k50 _ _ (⟨1, 1, ([] : List Int), 0, 0, 0⟩ : S50) [.int .i64 1, .int .i64 1, .slice none 0 0, .int .i64 0, .int .i64 0, .int .i64 0] from (k50_mkF _ _ (⟨1, 1, ([] : List Int), 0, 0, 0⟩ : S50) (Nat.le_refl _) (Kd.F_nil _ _ _))) (Reps.c6 (show Kd.FK k50 _ _ (⟨2, 0, y237, 0, 0, 0⟩ : S50) [.int .i64 2, .int .i64 0, .slice Ao19 y237.length co19, .int .i64 0, .int .i64 0, .int .i64 0] from (k50_mkF _ _ (⟨2, 0, y237, 0, 0, 0⟩ : S50) (Kd.R_reads' (Kd.R_mono (ok' := (fun k_ => (w.heap.size ≤ k_) ∧ some k_ ≠ (.slice Ao13 y224.length co13 : Value).ownBlock ∧ some k_ ≠ (.slice Ao12 y233.length co12 : Value).ownBlock ∧ k_ ≠ gb223 ∧ k_ ≠ gb236)) (Kd.R_types (Kd.R_types (Kd.R_apart' (Kd.R_apart' (HO239.out) (Kd.R_typed HO226.out) (by decide)) (Kd.N_typed HO235.out) (by decide)) BK223.out (by decide)) BK236.out (by decide)) (fun k_ hk => ⟨hk.1.1.1.1.1, ⟨hk.1.1.1.2, ⟨hk.1.1.2, ⟨hk.1.2, hk.2⟩⟩⟩⟩))).2.1 (Kd.R_F (Kd.R_mono (ok' := (fun k_ => (w.heap.size ≤ k_) ∧ some k_ ≠ (.slice Ao13 y224.length co13 : Value).ownBlock ∧ some k_ ≠ (.slice Ao12 y233.length co12 : Value).ownBlock ∧ k_ ≠ gb223 ∧ k_ ≠ gb236)) (Kd.R_types (Kd.R_types (Kd.R_apart' (Kd.R_apart' (HO239.out) (Kd.R_typed HO226.out) (by decide)) (Kd.N_typed HO235.out) (by decide)) BK223.out (by decide)) BK236.out (by decide)) (fun k_ hk => ⟨hk.1.1.1.1.1, ⟨hk.1.1.1.2, ⟨hk.1.1.2, ⟨hk.1.2, hk.2⟩⟩⟩⟩))))) (Reps.c6 (show Kd.FK k50 _ _ (⟨3, 0, ([] : List Int), 0, 2, 0⟩ : S50) [.int .i64 3, .int .i64 0, .slice none 0 0, .int .i64 0, .int .i64 2, .int .i64 0] from (k50_mkF _ _ (⟨3, 0, ([] : List Int), 0, 2, 0⟩ : S50) (Nat.le_refl _) (Kd.F_nil _ _ _))) (Reps.c6 (show Kd.FK k50 _ _ (⟨3, 0, ([] : List Int), 1, 3, 1⟩ : S50) [.int .i64 3, .int .i64 0, .slice none 0 0, .int .i64 1, .int .i64 3, .int .i64 1] from (k50_mkF _ _ (⟨3, 0, ([] : List Int), 1, 3, 1⟩ : S50) (Nat.le_refl _) (Kd.F_nil _ _ _))) (Reps.none _ _))))))); intro v241 w20 ho21 hb hg_ hnew_; clear hg_ hnew_; (first | rw [← Ny240.out] at ho21 | (simp only [Int.reduceToNat] at ho21; rw [← Ny240.out] at ho21)); have n0_ := Aside0.mk (Kd.R_below HO226.r hb); have n1_ := Aside0.mk (Kd.N_elder' HO235.n (Kd.N_base ho21) hb); have n2_ := Aside0.mk (Kd.N_lower ho21 (below_size HB.l)); have n3_ := Aside0.mk (blk_below BK223.b hb); have n4_ := Aside0.mk (blk_below BK236.b hb); have n5_ := Aside0.mk (below_step HB.l hb); clear HO226 HO235 BK223 BK236 HB HO239; revert n0_ n1_ n2_ n3_ n4_ n5_; intro HO226 HO235 HO242 BK223 BK236 HB; clear hb ho21; have hcz22_0 := BK223.cl 0 (.int .i64 0); have hcz22_1 := BK223.cl 1 (.int .i64 0); have hcz22_2 := BK223.cl 2 (.slice none 0 0); have hcz22_3 := BK223.cl 3 (.slice none 0 0); have hfz22_0 := BK223.fz 0; have hfz22_1 := BK223.fz 1; have hfz22_2 := BK223.fz 2; have hfz22_3 := BK223.fz 3))
 refine bodyPost_ret (results_ct rfl _ _ gb223 32 #[.int .i64 2, .int .i64 2, .slice Ao13 y224.length co13, .slice Ao12 y233.length co12] (0, 0) _ rfl (by (with_reducible repeat (first | refine blk_drewN ?_ _ | refine blk_drew ?_ | refine blk_alloc ?_ _)); refine blk_put (cs := #[.int .i64 2, .int .i64 2, .slice Ao13 y224.length co13, .slice none 0 0]) ?_ 3 _ rfl; (with_reducible repeat (first | refine blk_drewN ?_ _ | refine blk_drew ?_ | refine blk_alloc ?_ _)); refine blk_put (cs := #[.int .i64 2, .int .i64 2, .slice none 0 0, .slice none 0 0]) ?_ 2 _ rfl; (with_reducible repeat (first | refine blk_drewN ?_ _ | refine blk_drew ?_ | refine blk_alloc ?_ _)); refine blk_put (cs := #[.int .i64 2, .int .i64 0, .slice none 0 0, .slice none 0 0]) ?_ 1 _ rfl; (with_reducible repeat (first | refine blk_drewN ?_ _ | refine blk_drew ?_ | refine blk_alloc ?_ _)); refine blk_put (cs := #[.int .i64 0, .int .i64 0, .slice none 0 0, .slice none 0 0]) ?_ 0 _ rfl; (with_reducible repeat (first | refine blk_drewN ?_ _ | refine blk_drew ?_ | refine blk_alloc ?_ _)); exact BK223.out) Try.underlying32 rfl (by kernel_rfl)) rfl ?_
 exact ⟨_, _, _, by first | rfl | (simp [errW_none, errW_some] <;> rfl) | (simp [*, errW_none, errW_some] <;> rfl), by (with_reducible repeat (first | apply Kd.R_alloc | apply Kd.R_drewN | apply Kd.R_drew)); exact Kd.R_mono (Kd.R_far (p := ⟨gb223, 3, none⟩) (Kd.R_far (p := ⟨gb223, 2, none⟩) (Kd.R_far (p := ⟨gb223, 1, none⟩) (Kd.R_far (p := ⟨gb223, 0, none⟩) (Kd.R_types HO226.out BK223.out (by decide)) (fun _ hk => hk.2) (.int .i64 2)) (fun _ hk => hk.2) (.int .i64 2)) (fun _ hk => hk.2) (.slice Ao13 y224.length co13)) (fun _ hk => hk.2) (.slice Ao12 y233.length co12)) (fun _ hk => hk.1.1), by (with_reducible repeat (first | apply Kd.N_alloc | apply Kd.N_drewN | apply Kd.N_drew)); exact Kd.N_mono (Kd.N_far (p := ⟨gb223, 3, none⟩) (Kd.N_far (p := ⟨gb223, 2, none⟩) (Kd.N_far (p := ⟨gb223, 1, none⟩) (Kd.N_far (p := ⟨gb223, 0, none⟩) (Kd.N_mono HO235.out (fun k_ hk => (⟨hk, hk.1.1.1.2.2⟩ : _ ∧ k_ ≠ gb223))) (fun _ hk => hk.2) (.int .i64 2)) (fun _ hk => hk.2) (.int .i64 2)) (fun _ hk => hk.2) (.slice Ao13 y224.length co13)) (fun _ hk => hk.2) (.slice Ao12 y233.length co12)) (fun _ hk => ⟨hk.1.1.1.1.1, ⟨hk.1.1.1.1.2.1, hk.1.2⟩⟩), by (with_reducible repeat (first | apply Kd.N_alloc | apply Kd.N_drewN | apply Kd.N_drew)); exact Kd.N_mono (Kd.N_far (p := ⟨gb223, 3, none⟩) (Kd.N_far (p := ⟨gb223, 2, none⟩) (Kd.N_far (p := ⟨gb223, 1, none⟩) (Kd.N_far (p := ⟨gb223, 0, none⟩) (Kd.N_mono HO242.out (fun k_ hk => (⟨hk, hk.2.2.2.1⟩ : _ ∧ k_ ≠ gb223))) (fun _ hk => hk.2) (.int .i64 2)) (fun _ hk => hk.2) (.int .i64 2)) (fun _ hk => hk.2) (.slice Ao13 y224.length co13)) (fun _ hk => hk.2) (.slice Ao12 y233.length co12)) (fun _ hk => ⟨hk.1.1, ⟨hk.1.2.1, hk.1.2.2.1⟩⟩), HB.l⟩

/-! ### interleavelaw33_awake: function 13 -/
def interleavelaw33_awake.f (k : Nat)  : Option (Bool) := (interleavelaw33_example.f).bind fun bt243 => ((proof_Clauses.f k bt243.1 bt243.2.1 bt243.2.2.1 bt243.2.2.2.1 bt243.2.2.2.2).bind fun bt255 => ((proof_Check.f k bt243.1 bt243.2.1 bt243.2.2.1 bt243.2.2.2.1 bt243.2.2.2.2).bind fun bt260 => (if 4 ≤ (bt243.2.2.2.2.length : Int) then ((proof_Check.f k bt243.1 bt243.2.1 bt243.2.2.1 bt243.2.2.2.1 (bt243.2.2.2.2.take 4)).bind fun bt267 => (if bt255.2.2 = 0 then (if bt255.2.1 = 0 then (if (bt255.1.length : Int) = 5 then (if 3 < (bt255.1.length : Int) then ((interleaveref31_Same.f k (rd_L1 bt255.1 3) (([(-2)] : List Int))).bind fun t273 => (if t273 = true then (if bt260.1 = 0 then (if bt260.2 = 0 then (if bt267.1 = 4 then (some (bt267.2 == 15)) else (none)) else (none)) else (none)) else (none))) else (none)) else (none)) else (none)) else (none))) else (none))))
theorem interleavelaw33_awake.mono : ∀ k, LeO (interleavelaw33_awake.f k ) (interleavelaw33_awake.f (k + 1) ) := by
 intro  k
 unfold interleavelaw33_awake.f
 repeat' first
   | (with_reducible exact interleaveref31_Same.mono _ _ _)
   | (with_reducible exact proof_Check.mono _ _ _ _ _ _)
   | (with_reducible exact proof_Clauses.mono _ _ _ _ _ _)
   | (with_reducible exact LeO.refl _)
   | (with_reducible exact LeO.none _)
   | (with_reducible refine LeO.ite ?_ ?_)
   | (with_reducible refine LeO.bind ?_ (fun _ => ?_))
   | exact interleaveref31_Same.mono _ _ _
   | exact proof_Check.mono _ _ _ _ _ _
   | exact proof_Clauses.mono _ _ _ _ _ _
   | exact LeO.none _
   | refine LeO.ite ?_ ?_
   | refine LeO.bind ?_ (fun _ => ?_)
def interleavelaw33_awake.T4 : Bool × List (List Nat × List Nat) := (true, [([], []), ([], []), ([1], [1]), ([0, 2], [0, 2]), ([3], [3]), ([4], [4]), ([4], [4]), ([5, 3, 0, 1, 2, 3, 4, 5], [5]), ([6, 7, 0, 1, 2, 3, 4, 5, 6, 7], [6])])
def interleavelaw33_awake.B4 : List Nat := [0, 0, 2, 7, 15, 31, 31, 63, 255]
theorem interleavelaw33_awake.tab4 : rtab .any (opsOf Try.f13 4) = interleavelaw33_awake.T4 := by kernel_rfl
theorem interleavelaw33_awake.bits4 : waitsOk interleavelaw33_awake.T4.2 interleavelaw33_awake.B4 = true := by kernel_rfl
set_option maxHeartbeats 8000000 in
set_option maxRecDepth 100000 in
theorem interleavelaw33_awake.calls (k : Nat)  (r : Bool) (w : World) (h : interleavelaw33_awake.f k  = some r) :
  Calls Try.prog 13 #[] w fun e w' => e = .returned (.bool r) ∧ Below w.heap.size w w' := by
 have hu32 := Try.underlying32
 have HB := Aside0.mk (Below.refl w.heap.size w)
 have H : ((interleavelaw33_example.f).bind fun bt243 => ((proof_Clauses.f k bt243.1 bt243.2.1 bt243.2.2.1 bt243.2.2.2.1 bt243.2.2.2.2).bind fun bt255 => ((proof_Check.f k bt243.1 bt243.2.1 bt243.2.2.1 bt243.2.2.2.1 bt243.2.2.2.2).bind fun bt260 => (if 4 ≤ (bt243.2.2.2.2.length : Int) then ((proof_Check.f k bt243.1 bt243.2.1 bt243.2.2.1 bt243.2.2.2.1 (bt243.2.2.2.2.take 4)).bind fun bt267 => (if bt255.2.2 = 0 then (if bt255.2.1 = 0 then (if (bt255.1.length : Int) = 5 then (if 3 < (bt255.1.length : Int) then ((interleaveref31_Same.f k (rd_L1 bt255.1 3) (([(-2)] : List Int))).bind fun t273 => (if t273 = true then (if bt260.1 = 0 then (if bt260.2 = 0 then (if bt267.1 = 4 then (some (bt267.2 == 15)) else (none)) else (none)) else (none)) else (none))) else (none)) else (none)) else (none)) else (none))) else (none))))) = some r := h
 clear h
 replace H := Option.bind_eq_some_iff.mp H
 obtain ⟨⟨t243, t244, t245, t248, t251⟩, A10, H⟩ := H
 replace H : ((proof_Clauses.f k t243 t244 t245 t248 t251).bind fun bt255 => ((proof_Check.f k t243 t244 t245 t248 t251).bind fun bt260 => (if 4 ≤ (t251.length : Int) then ((proof_Check.f k t243 t244 t245 t248 (t251.take 4)).bind fun bt267 => (if bt255.2.2 = 0 then (if bt255.2.1 = 0 then (if (bt255.1.length : Int) = 5 then (if 3 < (bt255.1.length : Int) then ((interleaveref31_Same.f k (rd_L1 bt255.1 3) (([(-2)] : List Int))).bind fun t273 => (if t273 = true then (if bt260.1 = 0 then (if bt260.2 = 0 then (if bt267.1 = 4 then (some (bt267.2 == 15)) else (none)) else (none)) else (none)) else (none))) else (none)) else (none)) else (none)) else (none))) else (none)))) = some r := H
 have A1 := Aside0.mk A10
 clear A10
 replace H := Option.bind_eq_some_iff.mp H
 obtain ⟨⟨t255, t258, t259⟩, A20, H⟩ := H
 replace H : ((proof_Check.f k t243 t244 t245 t248 t251).bind fun bt260 => (if 4 ≤ (t251.length : Int) then ((proof_Check.f k t243 t244 t245 t248 (t251.take 4)).bind fun bt267 => (if t259 = 0 then (if t258 = 0 then (if (t255.length : Int) = 5 then (if 3 < (t255.length : Int) then ((interleaveref31_Same.f k (rd_L1 t255 3) (([(-2)] : List Int))).bind fun t273 => (if t273 = true then (if bt260.1 = 0 then (if bt260.2 = 0 then (if bt267.1 = 4 then (some (bt267.2 == 15)) else (none)) else (none)) else (none)) else (none))) else (none)) else (none)) else (none)) else (none))) else (none))) = some r := H
 have A2 := Aside0.mk A20
 clear A20
 replace H := Option.bind_eq_some_iff.mp H
 obtain ⟨⟨t260, t261⟩, A30, H⟩ := H
 replace H : (if 4 ≤ (t251.length : Int) then ((proof_Check.f k t243 t244 t245 t248 (t251.take 4)).bind fun bt267 => (if t259 = 0 then (if t258 = 0 then (if (t255.length : Int) = 5 then (if 3 < (t255.length : Int) then ((interleaveref31_Same.f k (rd_L1 t255 3) (([(-2)] : List Int))).bind fun t273 => (if t273 = true then (if t260 = 0 then (if t261 = 0 then (if bt267.1 = 4 then (some (bt267.2 == 15)) else (none)) else (none)) else (none)) else (none))) else (none)) else (none)) else (none)) else (none))) else (none)) = some r := H
 have A3 := Aside0.mk A30
 clear A30
 by_cases c4 : 4 ≤ (t251.length : Int)
 ·rw [if_pos c4] at H
  have c4b0 := eq_true c4
  have c4b1 : decide (4 ≤ (t251.length : Int)) = true := decide_eq_true c4
  clear c4
  obtain ⟨y262, hy262⟩ : ∃ y_ : List (S50), y_ = (t251.take 4) := ⟨_, rfl⟩
  replace H : ((proof_Check.f k t243 t244 t245 t248 y262).bind fun bt267 => (if t259 = 0 then (if t258 = 0 then (if (t255.length : Int) = 5 then (if 3 < (t255.length : Int) then ((interleaveref31_Same.f k (rd_L1 t255 3) (([(-2)] : List Int))).bind fun t273 => (if t273 = true then (if t260 = 0 then (if t261 = 0 then (if bt267.1 = 4 then (some (bt267.2 == 15)) else (none)) else (none)) else (none)) else (none))) else (none)) else (none)) else (none)) else (none))) = some r := by first | (rw [hy262]; with_reducible exact H) | (have H2_ := (Option.bind_some _ _).symm.trans H; rw [hy262]; with_reducible exact H2_) | (have H2_ := (Option.bind_some _ _).symm.trans H; with_reducible exact H2_) | with_reducible exact H | (rw [hy262]; exact H) | exact H
  have Ny262 := Aside0.mk hy262
  clear hy262
  replace H := Option.bind_eq_some_iff.mp H
  obtain ⟨⟨t267, t268⟩, A50, H⟩ := H
  replace H : (if t259 = 0 then (if t258 = 0 then (if (t255.length : Int) = 5 then (if 3 < (t255.length : Int) then ((interleaveref31_Same.f k (rd_L1 t255 3) (([(-2)] : List Int))).bind fun t273 => (if t273 = true then (if t260 = 0 then (if t261 = 0 then (if t267 = 4 then (some (t268 == 15)) else (none)) else (none)) else (none)) else (none))) else (none)) else (none)) else (none)) else (none)) = some r := H
  have A5 := Aside0.mk A50
  clear A50
  by_cases c6 : t259 = 0
  ·rw [if_pos c6] at H
   have c6b0 : (t259 == 0) = true := beq_iff_eq.mpr c6
   have c6b1 : (t259 != 0) = false := bne_eq_false_iff_eq.mpr c6
   clear c6
   by_cases c7 : t258 = 0
   ·rw [if_pos c7] at H
    have c7b0 : (t258 == 0) = true := beq_iff_eq.mpr c7
    have c7b1 : (t258 != 0) = false := bne_eq_false_iff_eq.mpr c7
    clear c7
    by_cases c8 : (t255.length : Int) = 5
    ·rw [if_pos c8] at H
     have c8b0 : ((t255.length : Int) == 5) = true := beq_iff_eq.mpr c8
     have c8b1 : ((t255.length : Int) != 5) = false := bne_eq_false_iff_eq.mpr c8
     clear c8
     by_cases c9 : 3 < (t255.length : Int)
     ·rw [if_pos c9] at H
      have c9b0 : decide (3 < (t255.length : Int)) = true := decide_eq_true c9
      have c9b1 : decide (3 < t255.length) = true := decide_eq_true (by omega)
      clear c9
      obtain ⟨y270, hy270⟩ : ∃ y_ : List Int, y_ = (([(-2)] : List Int)) := ⟨_, rfl⟩
      replace H : ((interleaveref31_Same.f k (rd_L1 t255 3) y270).bind fun t273 => (if t273 = true then (if t260 = 0 then (if t261 = 0 then (if t267 = 4 then (some (t268 == 15)) else (none)) else (none)) else (none)) else (none))) = some r := by first | (rw [hy270]; with_reducible exact H) | (have H2_ := (Option.bind_some _ _).symm.trans H; rw [hy270]; with_reducible exact H2_) | (have H2_ := (Option.bind_some _ _).symm.trans H; with_reducible exact H2_) | with_reducible exact H | (rw [hy270]; exact H) | exact H
      have Ny270 := Aside0.mk hy270
      clear hy270
      replace H := Option.bind_eq_some_iff.mp H
      obtain ⟨t273, A100, H⟩ := H
      replace H : (if t273 = true then (if t260 = 0 then (if t261 = 0 then (if t267 = 4 then (some (t268 == 15)) else (none)) else (none)) else (none)) else (none)) = some r := H
      have A10 := Aside0.mk A100
      clear A100
      by_cases c11 : t273 = true
      ·subst c11
       have H1 : (if t260 = 0 then (if t261 = 0 then (if t267 = 4 then (some (t268 == 15)) else (none)) else (none)) else (none)) = some r := by rw [if_pos rfl] at H; exact H
       clear H
       have H := H1
       clear H1
       by_cases c12 : t260 = 0
       ·rw [if_pos c12] at H
        have c12b0 : (t260 == 0) = true := beq_iff_eq.mpr c12
        have c12b1 : (t260 != 0) = false := bne_eq_false_iff_eq.mpr c12
        clear c12
        by_cases c13 : t261 = 0
        ·rw [if_pos c13] at H
         have c13b0 : (t261 == 0) = true := beq_iff_eq.mpr c13
         have c13b1 : (t261 != 0) = false := bne_eq_false_iff_eq.mpr c13
         clear c13
         by_cases c14 : t267 = 4
         ·rw [if_pos c14] at H
          have c14b0 : (t267 == 4) = true := beq_iff_eq.mpr c14
          have c14b1 : (t267 != 4) = false := bne_eq_false_iff_eq.mpr c14
          clear c14
          obtain rfl := Option.some.inj H
          go_enter Try.func13, Try.ntmps13
          try go_wp2_with (first | ((with_reducible refine gate_callee (f := 31) rfl ?_); refine goesM_ Try.func31 #[] ?_; (with_reducible refine (interleavelaw33_example.calls  t243 t244 t245 t248 t251 _ A1.out).mono ?_); rintro e w15 ⟨v246, v249, v252, rfl, ho0, ho1, ho2, hb⟩; refine ⟨_, rfl, ?_⟩; have n0_ := Aside0.mk (Kd.R_lower (Kd.R_mono (ok' := fun k_ => True) ho0 (fun _ hk_ => trivial)) (below_size HB.l)); have n1_ := Aside0.mk (Kd.N_lower (Kd.N_mono (ok' := fun k_ => some k_ ≠ (v246 : Value).ownBlock ∧ some k_ ≠ (v252 : Value).ownBlock) ho1 (fun k_ hk_ => ⟨hk_.2.1, hk_.2.2⟩)) (below_size HB.l)); have n2_ := Aside0.mk (Kd.N_lower (Kd.N_mono (ok' := fun k_ => some k_ ≠ (v246 : Value).ownBlock ∧ some k_ ≠ (v249 : Value).ownBlock) ho2 (fun k_ hk_ => ⟨hk_.2.1, hk_.2.2⟩)) (below_size HB.l)); have n3_ := Aside0.mk (below_step HB.l hb); clear HB; revert n0_ n1_ n2_ n3_; intro HO247 HO250 HO253 HB; (try clear hb); (try clear hb2); (try clear hk); (try clear hi); (try clear ho0); (try clear ho1); (try clear ho2)) | ((with_reducible refine gate_dst (N := 1) rfl ?_); (try (refine gate_guard (by rfl) ?_; dsimp only)); refine box_ev (N := 1) rfl (cs := #[.int .i64 0, .int .i64 0, .slice none 0 0, .slice none 0 0]) (t := 32) ?_; intro gb254 hg w16 hbox hb; have n0_ := Aside0.mk (Kd.R_below HO247.r hb); have n1_ := Aside0.mk (Kd.N_below (Kd.N_elderB HO250.n gb254 (Nat.le_of_eq hg.symm)) hb); have n2_ := Aside0.mk (Kd.N_below (Kd.N_elderB HO253.n gb254 (Nat.le_of_eq hg.symm)) hb); have n3_ := Aside0.mk (below_step HB.l hb); have n4_ := Aside0.mk (hbox); have n5_ := Aside0.mk ((by rw [hg]; exact (below_size HB.l) : w.heap.size ≤ gb254)); have n6_ := Aside0.mk ((by rw [hg]; exact (below_size HB.l) : w.heap.size ≤ gb254)); clear HO247 HO250 HO253 HB; revert n0_ n1_ n2_ n3_ n4_ n5_ n6_; intro HO247 HO250 HO253 HB BK254 GW254 GE254; clear hb hbox hg; have hcz17_0 := BK254.cl 0 (.int .i64 0); have hcz17_1 := BK254.cl 1 (.int .i64 0); have hcz17_2 := BK254.cl 2 (.slice none 0 0); have hcz17_3 := BK254.cl 3 (.slice none 0 0); have hfz17_0 := BK254.fz 0; have hfz17_1 := BK254.fz 1; have hfz17_2 := BK254.fz 2; have hfz17_3 := BK254.fz 3; obtain ⟨Ao18, co18, eo18⟩ := Kd.R_slice HO247.out; subst eo18; obtain ⟨Ao19, co19, eo19⟩ := Kd.N_slice HO250.out; subst eo19; obtain ⟨Ao20, co20, eo20⟩ := Kd.N_slice HO253.out; subst eo20) | ((with_reducible refine gate_callee (f := 23) rfl ?_); refine goesM_ Try.func23 #[.agg #[.int .i64 t243, .int .i64 t244, .slice Ao18 t245.length co18, .slice Ao19 t248.length co19], .slice Ao20 t251.length co20] ?_; (with_reducible refine (proof_Clauses.calls k t243 t244 _ _ t245 _ _ t248 _ _ t251 t255 t258 t259 _ ?side1 ?side2 ?side3 ?side4 ?side5 ?side6 A2.out).mono ?_); (case side1 => refine (Kd.R_reads' (e := 75) (base := w.heap.size) (ok := fun k_ => True) (n := t245.length) (c := co18) ?_).2.2; exact (by (with_reducible repeat (first | apply Kd.R_alloc | apply Kd.R_drewN | apply Kd.R_drew)); exact (Kd.R_mono (Kd.R_far (p := ⟨gb254, 3, none⟩) (Kd.R_far (p := ⟨gb254, 2, none⟩) (Kd.R_far (p := ⟨gb254, 1, none⟩) (Kd.R_far (p := ⟨gb254, 0, none⟩) (Kd.R_types HO247.out BK254.out (by decide)) (fun _ hk => hk.2) (.int .i64 t243)) (fun _ hk => hk.2) (.int .i64 t244)) (fun _ hk => hk.2) (.slice Ao18 t245.length co18)) (fun _ hk => hk.2) (.slice Ao19 t248.length co19)) (fun _ h_ => h_.1)))); (case side2 => exact (Kd.R_reads' HO247.out).2.1); (case side3 => refine (Kd.N_reads' (e := 43) (base := w.heap.size) (ok := fun k_ => ((some k_ ≠ (.slice Ao18 t245.length co18 : Value).ownBlock ∧ some k_ ≠ (.slice Ao20 t251.length co20 : Value).ownBlock) ∧ k_ ≠ gb254)) (n := t248.length) (c := co19) ?_).2.2; exact (by (with_reducible repeat (first | apply Kd.N_alloc | apply Kd.N_drewN | apply Kd.N_drew)); exact (Kd.N_mono (Kd.N_far (p := ⟨gb254, 3, none⟩) (Kd.N_far (p := ⟨gb254, 2, none⟩) (Kd.N_far (p := ⟨gb254, 1, none⟩) (Kd.N_far (p := ⟨gb254, 0, none⟩) (Kd.N_mono HO250.out (fun k_ hk => (⟨hk, hk.2⟩ : _ ∧ k_ ≠ gb254))) (fun _ hk => hk.2) (.int .i64 t243)) (fun _ hk => hk.2) (.int .i64 t244)) (fun _ hk => hk.2) (.slice Ao18 t245.length co18)) (fun _ hk => hk.2) (.slice Ao19 t248.length co19)) (fun _ h_ => h_.1)))); (case side4 => exact (Kd.N_reads' HO250.out).2.1); (case side5 => refine (Kd.N_reads' (e := 50) (base := w.heap.size) (ok := fun k_ => ((some k_ ≠ (.slice Ao18 t245.length co18 : Value).ownBlock ∧ some k_ ≠ (.slice Ao19 t248.length co19 : Value).ownBlock) ∧ k_ ≠ gb254)) (n := t251.length) (c := co20) ?_).2.2; exact (by (with_reducible repeat (first | apply Kd.N_alloc | apply Kd.N_drewN | apply Kd.N_drew)); exact (Kd.N_mono (Kd.N_far (p := ⟨gb254, 3, none⟩) (Kd.N_far (p := ⟨gb254, 2, none⟩) (Kd.N_far (p := ⟨gb254, 1, none⟩) (Kd.N_far (p := ⟨gb254, 0, none⟩) (Kd.N_mono HO253.out (fun k_ hk => (⟨hk, hk.2⟩ : _ ∧ k_ ≠ gb254))) (fun _ hk => hk.2) (.int .i64 t243)) (fun _ hk => hk.2) (.int .i64 t244)) (fun _ hk => hk.2) (.slice Ao18 t245.length co18)) (fun _ hk => hk.2) (.slice Ao19 t248.length co19)) (fun _ h_ => h_.1)))); (case side6 => exact (Kd.N_reads' HO253.out).2.1); rintro e w21 ⟨v256, rfl, ho0, hb⟩; refine ⟨_, rfl, ?_⟩; have n0_ := Aside0.mk (Kd.R_below (by (with_reducible repeat (first | apply Kd.R_alloc | apply Kd.R_drewN | apply Kd.R_drew)); exact (Kd.R_mono (Kd.R_far (p := ⟨gb254, 3, none⟩) (Kd.R_far (p := ⟨gb254, 2, none⟩) (Kd.R_far (p := ⟨gb254, 1, none⟩) (Kd.R_far (p := ⟨gb254, 0, none⟩) (Kd.R_types HO247.out BK254.out (by decide)) (fun _ hk => hk.2) (.int .i64 t243)) (fun _ hk => hk.2) (.int .i64 t244)) (fun _ hk => hk.2) (.slice Ao18 t245.length co18)) (fun _ hk => hk.2) (.slice Ao19 t248.length co19)) (fun _ h_ => h_.1))) hb); have n1_ := Aside0.mk (Kd.N_elder' (by (with_reducible repeat (first | apply Kd.N_alloc | apply Kd.N_drewN | apply Kd.N_drew)); exact (Kd.N_mono (Kd.N_far (p := ⟨gb254, 3, none⟩) (Kd.N_far (p := ⟨gb254, 2, none⟩) (Kd.N_far (p := ⟨gb254, 1, none⟩) (Kd.N_far (p := ⟨gb254, 0, none⟩) (Kd.N_mono HO250.out (fun k_ hk => (⟨hk, hk.2⟩ : _ ∧ k_ ≠ gb254))) (fun _ hk => hk.2) (.int .i64 t243)) (fun _ hk => hk.2) (.int .i64 t244)) (fun _ hk => hk.2) (.slice Ao18 t245.length co18)) (fun _ hk => hk.2) (.slice Ao19 t248.length co19)) (fun _ h_ => h_.1))) (Kd.S_base ho0) hb); have n2_ := Aside0.mk (Kd.N_elder' (by (with_reducible repeat (first | apply Kd.N_alloc | apply Kd.N_drewN | apply Kd.N_drew)); exact (Kd.N_mono (Kd.N_far (p := ⟨gb254, 3, none⟩) (Kd.N_far (p := ⟨gb254, 2, none⟩) (Kd.N_far (p := ⟨gb254, 1, none⟩) (Kd.N_far (p := ⟨gb254, 0, none⟩) (Kd.N_mono HO253.out (fun k_ hk => (⟨hk, hk.2⟩ : _ ∧ k_ ≠ gb254))) (fun _ hk => hk.2) (.int .i64 t243)) (fun _ hk => hk.2) (.int .i64 t244)) (fun _ hk => hk.2) (.slice Ao18 t245.length co18)) (fun _ hk => hk.2) (.slice Ao19 t248.length co19)) (fun _ h_ => h_.1))) (Kd.S_base ho0) hb); have n3_ := Aside0.mk (Kd.N_lower (Kd.N_mono (ok' := fun k_ => some k_ ≠ (.slice Ao18 t245.length co18 : Value).ownBlock ∧ some k_ ≠ (.slice Ao19 t248.length co19 : Value).ownBlock ∧ some k_ ≠ (.slice Ao20 t251.length co20 : Value).ownBlock ∧ k_ ≠ gb254) (Kd.S_N (Kd.S_bound ho0)) (fun k_ hk_ => ⟨(Kd.fresh' (Kd.R_lt (by (with_reducible repeat (first | apply Kd.R_alloc | apply Kd.R_drewN | apply Kd.R_drew)); exact (Kd.R_mono (Kd.R_far (p := ⟨gb254, 3, none⟩) (Kd.R_far (p := ⟨gb254, 2, none⟩) (Kd.R_far (p := ⟨gb254, 1, none⟩) (Kd.R_far (p := ⟨gb254, 0, none⟩) (Kd.R_types HO247.out BK254.out (by decide)) (fun _ hk => hk.2) (.int .i64 t243)) (fun _ hk => hk.2) (.int .i64 t244)) (fun _ hk => hk.2) (.slice Ao18 t245.length co18)) (fun _ hk => hk.2) (.slice Ao19 t248.length co19)) (fun _ h_ => h_.1)))) k_ hk_.2.1), (Kd.fresh' (Kd.N_lt (by (with_reducible repeat (first | apply Kd.N_alloc | apply Kd.N_drewN | apply Kd.N_drew)); exact (Kd.N_mono (Kd.N_far (p := ⟨gb254, 3, none⟩) (Kd.N_far (p := ⟨gb254, 2, none⟩) (Kd.N_far (p := ⟨gb254, 1, none⟩) (Kd.N_far (p := ⟨gb254, 0, none⟩) (Kd.N_mono HO250.out (fun k_ hk => (⟨hk, hk.2⟩ : _ ∧ k_ ≠ gb254))) (fun _ hk => hk.2) (.int .i64 t243)) (fun _ hk => hk.2) (.int .i64 t244)) (fun _ hk => hk.2) (.slice Ao18 t245.length co18)) (fun _ hk => hk.2) (.slice Ao19 t248.length co19)) (fun _ h_ => h_.1)))) k_ hk_.2.1), (Kd.fresh' (Kd.N_lt (by (with_reducible repeat (first | apply Kd.N_alloc | apply Kd.N_drewN | apply Kd.N_drew)); exact (Kd.N_mono (Kd.N_far (p := ⟨gb254, 3, none⟩) (Kd.N_far (p := ⟨gb254, 2, none⟩) (Kd.N_far (p := ⟨gb254, 1, none⟩) (Kd.N_far (p := ⟨gb254, 0, none⟩) (Kd.N_mono HO253.out (fun k_ hk => (⟨hk, hk.2⟩ : _ ∧ k_ ≠ gb254))) (fun _ hk => hk.2) (.int .i64 t243)) (fun _ hk => hk.2) (.int .i64 t244)) (fun _ hk => hk.2) (.slice Ao18 t245.length co18)) (fun _ hk => hk.2) (.slice Ao19 t248.length co19)) (fun _ h_ => h_.1)))) k_ hk_.2.1), (Kd.freshB (g := gb254) (o := .cells #[.int .i64 t243, .int .i64 t244, .slice Ao18 t245.length co18, .slice Ao19 t248.length co19] 32 (0, 0)) (by (with_reducible repeat (first | refine blk_drewN ?_ _ | refine blk_drew ?_ | refine blk_alloc ?_ _)); refine blk_put (cs := #[.int .i64 t243, .int .i64 t244, .slice Ao18 t245.length co18, .slice none 0 0]) ?_ 3 _ rfl; (with_reducible repeat (first | refine blk_drewN ?_ _ | refine blk_drew ?_ | refine blk_alloc ?_ _)); refine blk_put (cs := #[.int .i64 t243, .int .i64 t244, .slice none 0 0, .slice none 0 0]) ?_ 2 _ rfl; (with_reducible repeat (first | refine blk_drewN ?_ _ | refine blk_drew ?_ | refine blk_alloc ?_ _)); refine blk_put (cs := #[.int .i64 t243, .int .i64 0, .slice none 0 0, .slice none 0 0]) ?_ 1 _ rfl; (with_reducible repeat (first | refine blk_drewN ?_ _ | refine blk_drew ?_ | refine blk_alloc ?_ _)); refine blk_put (cs := #[.int .i64 0, .int .i64 0, .slice none 0 0, .slice none 0 0]) ?_ 0 _ rfl; (with_reducible repeat (first | refine blk_drewN ?_ _ | refine blk_drew ?_ | refine blk_alloc ?_ _)); exact BK254.out) k_ hk_.2.1)⟩)) (below_size HB.l)); have n4_ := Aside0.mk (blk_below (g := gb254) (o := .cells #[.int .i64 t243, .int .i64 t244, .slice Ao18 t245.length co18, .slice Ao19 t248.length co19] 32 (0, 0)) (by (with_reducible repeat (first | refine blk_drewN ?_ _ | refine blk_drew ?_ | refine blk_alloc ?_ _)); refine blk_put (cs := #[.int .i64 t243, .int .i64 t244, .slice Ao18 t245.length co18, .slice none 0 0]) ?_ 3 _ rfl; (with_reducible repeat (first | refine blk_drewN ?_ _ | refine blk_drew ?_ | refine blk_alloc ?_ _)); refine blk_put (cs := #[.int .i64 t243, .int .i64 t244, .slice none 0 0, .slice none 0 0]) ?_ 2 _ rfl; (with_reducible repeat (first | refine blk_drewN ?_ _ | refine blk_drew ?_ | refine blk_alloc ?_ _)); refine blk_put (cs := #[.int .i64 t243, .int .i64 0, .slice none 0 0, .slice none 0 0]) ?_ 1 _ rfl; (with_reducible repeat (first | refine blk_drewN ?_ _ | refine blk_drew ?_ | refine blk_alloc ?_ _)); refine blk_put (cs := #[.int .i64 0, .int .i64 0, .slice none 0 0, .slice none 0 0]) ?_ 0 _ rfl; (with_reducible repeat (first | refine blk_drewN ?_ _ | refine blk_drew ?_ | refine blk_alloc ?_ _)); exact BK254.out) hb); have n5_ := Aside0.mk (below_step HB.l hb); clear HO247 HO250 HO253 BK254 HB; revert n0_ n1_ n2_ n3_ n4_ n5_; intro HO247 HO250 HO253 HO257 BK254 HB; (try clear hb); (try clear hb2); (try clear hk); (try clear hi); (try clear ho0); have hcz22_0 := BK254.cl 0 (.int .i64 t243); have hcz22_1 := BK254.cl 1 (.int .i64 t244); have hcz22_2 := BK254.cl 2 (.slice Ao18 t245.length co18); have hcz22_3 := BK254.cl 3 (.slice Ao19 t248.length co19); have hfz22_0 := BK254.fz 0; have hfz22_1 := BK254.fz 1; have hfz22_2 := BK254.fz 2; have hfz22_3 := BK254.fz 3) | ((with_reducible refine gate_callee (f := 15) rfl ?_); refine goesM_ Try.func15 #[.agg #[.int .i64 t243, .int .i64 t244, .slice Ao18 t245.length co18, .slice Ao19 t248.length co19], .slice Ao20 t251.length co20] ?_; (with_reducible refine (proof_Check.calls k t243 t244 _ _ t245 _ _ t248 _ _ t251 t260 t261 _ ?side1 ?side2 ?side3 ?side4 ?side5 ?side6 A3.out).mono ?_); (case side1 => repeat (first | exact (Kd.R_reads' HO247.out).2.2 | (with_reducible refine Kd.C_alloc ?_ _) | (with_reducible refine Kd.C_drewN ?_ _) | (with_reducible refine Kd.C_drew ?_))); (case side2 => exact (Kd.R_reads' HO247.out).2.1); (case side3 => repeat (first | exact (Kd.N_reads' HO250.out).2.2 | (with_reducible refine Kd.C_alloc ?_ _) | (with_reducible refine Kd.C_drewN ?_ _) | (with_reducible refine Kd.C_drew ?_))); (case side4 => exact (Kd.N_reads' HO250.out).2.1); (case side5 => repeat (first | exact (Kd.N_reads' HO253.out).2.2 | (with_reducible refine Kd.C_alloc ?_ _) | (with_reducible refine Kd.C_drewN ?_ _) | (with_reducible refine Kd.C_drew ?_))); (case side6 => exact (Kd.N_reads' HO253.out).2.1); rintro e w23 ⟨rfl, hb⟩; refine ⟨_, rfl, ?_⟩; have n0_ := Aside0.mk (Kd.R_below HO247.r hb); have n1_ := Aside0.mk (Kd.N_below HO250.n hb); have n2_ := Aside0.mk (Kd.N_below HO253.n hb); have n3_ := Aside0.mk (Kd.N_below HO257.n hb); have n4_ := Aside0.mk (blk_below BK254.b hb); have n5_ := Aside0.mk (below_step HB.l hb); clear HO247 HO250 HO253 HO257 BK254 HB; revert n0_ n1_ n2_ n3_ n4_ n5_; intro HO247 HO250 HO253 HO257 BK254 HB; (try clear hb); (try clear hb2); (try clear hk); (try clear hi)))
          have n0_ := Aside0.mk (Kd.R_drew HO247.out)
          have n1_ := Aside0.mk (Kd.N_drew HO250.out)
          have n2_ := Aside0.mk (Kd.N_drew HO253.out)
          have n3_ := Aside0.mk (Kd.N_drew HO257.out)
          have n4_ := Aside0.mk (blk_drew BK254.out)
          have n5_ := Aside0.mk (below_drew1 HB.out)
          clear HO247 HO250 HO253 HO257 BK254 HB; revert n0_ n1_ n2_ n3_ n4_ n5_; intro HO247 HO250 HO253 HO257 BK254 HB
          have q25 : (4 : Int) ≤ ((t251.length : Int) : Int) := of_decide_eq_true (by first | (with_reducible assumption) | assumption)
          obtain ⟨i025, hi025, _, hsz25, _⟩ := info_parts info50
          have hroom25 : t251.length ≤ co20 := (Kd.N_reads' HO253.out).2.1
          have hC25 : Kd.F k50 _ _ Ao20 t251.length t251 := (Kd.V_at (base := w.heap.size) (Kd.N_V HO253.out)).2.2
          have hcut25 := cut_to (P := Try.prog) 26 50 .i64 Try.underlying26 hi025 Ao20 t251.length co20 4 (by omega) q25 hroom25
          have hr25 := Kd.F_take (m := 4) hC25 (by omega)
          have hy25 : y262.length = (4 : Int).toNat := (by rw [Ny262.out, List.length_take]; omega)
          rw [← Ny262.out] at hr25
          rw [← hy25] at hcut25
          have HO266 := Aside0.mk (show Kd.V k50 50 _ w.heap.size _ (.slice Ao20 y262.length co20) y262 from Kd.V_mk (by omega) hr25)
          have HC266 := Aside0.mk (show y262.length ≤ co20 from by omega)
          clear hr25 hC25 hroom25 hi025 hsz25
          have KY25 := Aside0.mk hy25
          clear hy25
          replace q25 := eq_true q25
          refine start_ (n := 9) (S := fun w' => w'.cell? ⟨gb254, 0, none⟩ = some (.int .i64 t243) ∧ w'.cell? ⟨gb254, 1, none⟩ = some (.int .i64 t244) ∧ w'.cell? ⟨gb254, 2, none⟩ = some (.slice Ao18 t245.length co18) ∧ w'.cell? ⟨gb254, 3, none⟩ = some (.slice Ao19 t248.length co19)) (ds := []) #[false, false, false, false, false, false, false, false, false] (by kernel_rfl) rfl rfl ⟨(blk_cell BK254.out 0).trans rfl, (blk_cell BK254.out 1).trans rfl, (blk_cell BK254.out 2).trans rfl, (blk_cell BK254.out 3).trans rfl⟩ (fun hHeld => ?_); refine with_tabW interleavelaw33_awake.tab4 interleavelaw33_awake.bits4 (fun HT_ HW_ => ?_)
          generalize w23.drew = w24 at HO247 HO250 HO253 HO257 BK254 HB HO266 hHeld ⊢
          refine pure_ (i := 1) (N := some 29) (v := ?_) (a' := ?_) #[false, true, false, false, false, false, false, false, false] rfl rfl (any_of HT_.out (by kernel_rfl)) (fun _ _ _ h => h) (Or.inl ⟨by rfl, ?_⟩) ?_ ?_
          rotate_left
          ·intro w'
           go_simp
           with_reducible rfl
          rotate_left
          ·simp only [Act.put, List.setIfInBounds_toArray, List.set_cons_zero, List.set_cons_succ, i64_w, i32_w]
           rfl
          refine pure_ (i := 2) (N := some 30) (v := ?_) (a' := ?_) #[false, true, true, false, false, false, false, false, false] rfl rfl (any_of HT_.out (by kernel_rfl)) (fun _ _ _ h => h) (Or.inl ⟨by rfl, ?_⟩) ?_ ?_
          rotate_left
          ·intro w'
           go_simp
           with_reducible rfl
          rotate_left
          ·simp only [Act.put, List.setIfInBounds_toArray, List.set_cons_zero, List.set_cons_succ, i64_w, i32_w]
           rfl
          refine take_ (i := 0) (N := some 28) (v := ?_) (a' := ?_) #[true, true, true, false, false, false, false, false, false] rfl rfl (take_ofW HT_.out HW_.out (by kernel_rfl)) (fun _ _ _ h => h) (Or.inl ⟨by rfl, ?_⟩) hHeld ?_ ?_
          rotate_left
          ·rintro w' ⟨s0, s1, s2, s3⟩
           go_simp
           with_reducible rfl
          rotate_left
          ·simp only [Act.put, List.setIfInBounds_toArray, List.set_cons_zero, List.set_cons_succ, i64_w, i32_w]
           rfl
          refine one_ (i := 3) (N := some 31) #[true, true, true, true, false, false, false, false, false] rfl rfl (one_of HT_.out (by kernel_rfl)) (by decide) (fun K hK => ?_)
          refine goes_ Try.func15 (by kernel_rfl) rfl #[.agg #[.int .i64 t243, .int .i64 t244, .slice Ao18 t245.length co18, .slice Ao19 t248.length co19], .slice Ao20 y262.length co20] (by rfl) rfl rfl (by (try simp only [List.map_toArray, List.map_cons, List.map_nil]); first | done | rfl | (simp only [List.length_drop, List.length_take]; rfl)) ?_
          with_reducible refine (proof_Check.calls k t243 t244 _ _ t245 _ _ t248 _ _ y262 t267 t268 _ ?side1 ?side2 ?side3 ?side4 ?side5 ?side6 A5.out).mono ?_
          (case side1 => repeat (first | exact (Kd.R_reads' HO247.out).2.2 | (with_reducible refine Kd.C_alloc ?_ _) | (with_reducible refine Kd.C_drewN ?_ _) | (with_reducible refine Kd.C_drew ?_)))
          (case side2 => exact (Kd.R_reads' HO247.out).2.1)
          (case side3 => repeat (first | exact (Kd.N_reads' HO250.out).2.2 | (with_reducible refine Kd.C_alloc ?_ _) | (with_reducible refine Kd.C_drewN ?_ _) | (with_reducible refine Kd.C_drew ?_)))
          (case side4 => exact (Kd.N_reads' HO250.out).2.1)
          (case side5 => repeat (first | exact (Kd.V_reads' HO266.out).2.2 | (with_reducible refine Kd.C_alloc ?_ _) | (with_reducible refine Kd.C_drewN ?_ _) | (with_reducible refine Kd.C_drew ?_)))
          (case side6 => exact (Kd.V_reads' HO266.out).2.1)
          rintro e w26 ⟨rfl, hb⟩
          refine ⟨_, rfl, ?_⟩
          have n0_ := Aside0.mk (Kd.R_below HO247.r hb)
          have n1_ := Aside0.mk (Kd.N_below HO250.n hb)
          have n2_ := Aside0.mk (Kd.N_below HO253.n hb)
          have n3_ := Aside0.mk (Kd.N_below HO257.n hb)
          have n4_ := Aside0.mk (Kd.V_below (by (with_reducible repeat (first | apply Kd.V_alloc | apply Kd.V_drewN | apply Kd.V_drew)); exact HO266.out) hb)
          have n5_ := Aside0.mk (blk_below BK254.b hb)
          have n6_ := Aside0.mk (below_step HB.l hb)
          clear HO247 HO250 HO253 HO257 HO266 BK254 HB; revert n0_ n1_ n2_ n3_ n4_ n5_ n6_; intro HO247 HO250 HO253 HO257 HO266 BK254 HB
          (try clear hb)
          (try clear hb2)
          (try clear hk)
          (try clear hi)
          refine hK.out _ _ ⟨(blk_cell BK254.out 0).trans rfl, (blk_cell BK254.out 1).trans rfl, (blk_cell BK254.out 2).trans rfl, (blk_cell BK254.out 3).trans rfl⟩ (fun hHeld => ?_)
          clear hK K
          refine norm_ (a' := ?_) ?_ ?_
          rotate_left
          ·show Act.put _ (some 31) _ = _
           simp only [Act.put, List.setIfInBounds_toArray, List.set_cons_zero, List.set_cons_succ, i64_w, i32_w]
           rfl
          refine pure_ (i := 4) (N := some 27) (v := ?_) (a' := ?_) #[true, true, true, true, true, false, false, false, false] rfl rfl (any_of HT_.out (by kernel_rfl)) (fun _ _ _ h => h) (Or.inl ⟨by rfl, ?_⟩) ?_ ?_
          rotate_left
          ·intro w'
           go_simp
           with_reducible rfl
          rotate_left
          ·simp only [Act.put, List.setIfInBounds_toArray, List.set_cons_zero, List.set_cons_succ, i64_w, i32_w]
           rfl
          refine pure_ (i := 5) (N := some 32) (v := ?_) (a' := ?_) #[true, true, true, true, true, true, false, false, false] rfl rfl (any_of HT_.out (by kernel_rfl)) (fun _ _ _ h => h) (Or.inl ⟨by rfl, ?_⟩) ?_ ?_
          rotate_left
          ·intro w'
           go_simp
           with_reducible rfl
          rotate_left
          ·simp only [Act.put, List.setIfInBounds_toArray, List.set_cons_zero, List.set_cons_succ, i64_w, i32_w]
           rfl
          refine pure_ (i := 6) (N := some 33) (v := ?_) (a' := ?_) #[true, true, true, true, true, true, true, false, false] rfl rfl (any_of HT_.out (by kernel_rfl)) (fun _ _ _ h => h) (Or.inl ⟨by rfl, ?_⟩) ?_ ?_
          rotate_left
          ·intro w'
           go_simp
           with_reducible rfl
          rotate_left
          ·simp only [Act.put, List.setIfInBounds_toArray, List.set_cons_zero, List.set_cons_succ, i64_w, i32_w]
           rfl
          refine pure_ (i := 7) (N := some 8) (v := ?_) (a' := ?_) #[true, true, true, true, true, true, true, true, false] rfl rfl (any_of HT_.out (by kernel_rfl)) (fun _ _ _ h => h) (Or.inl ⟨by rfl, ?_⟩) ?_ ?_
          rotate_left
          ·intro w'
           go_simp
           with_reducible rfl
          rotate_left
          ·simp only [Act.put, List.setIfInBounds_toArray, List.set_cons_zero, List.set_cons_succ, i64_w, i32_w]
           rfl
          refine pure_ (i := 8) (N := some 9) (v := ?_) (a' := ?_) #[true, true, true, true, true, true, true, true, true] rfl rfl (any_of HT_.out (by kernel_rfl)) (fun _ _ _ h => h) (Or.inl ⟨by rfl, ?_⟩) ?_ ?_
          rotate_left
          ·intro w'
           go_simp
           with_reducible rfl
          rotate_left
          ·simp only [Act.put, List.setIfInBounds_toArray, List.set_cons_zero, List.set_cons_succ, i64_w, i32_w]
           rfl
          refine done_ (done_of HT_.out (by kernel_rfl)) ?_
          obtain ⟨Ao27, co27, eo27⟩ := Kd.N_slice HO257.out
          subst eo27
          have p269 : 0 ≤ (3 : Int) := (by omega)
          have q269 : 3 < (t255.length : Int) := of_decide_eq_true (by first | (with_reducible assumption) | assumption)
          obtain ⟨ad269, A269_0, c269_0, e269, hx269_0, hl269_0, hi269_0⟩ := at_L1 (Kd.N_reads' HO257.out).2.2 3 p269 q269
          cases e269
          obtain ⟨ce269, hce269, hMe269, hcc269⟩ := Kd.N_get HO257.out [] 3 p269 (by first | exact q269 | exact of_decide_eq_true (by first | (with_reducible assumption) | assumption) | (have e_ := (Kd.N_reads' HO257.out).1; omega))
          obtain ⟨ua269_0, uc269_0, rfl, ul269_0, ge269_0⟩ := Kd.FK_slice_open hMe269
          have hv269_0 := hcc269 0 _ rfl
          rw [Nat.add_zero, show ((Kd.slice 3 (Kd.int .i64))).sz = 1 from rfl, Nat.mul_one] at hv269_0
          replace hv269_0 := Option.some.inj (hv269_0.symm.trans hx269_0)
          injection hv269_0 with hva_ hvn_ hvc_
          rw [hva_] at ge269_0
          rw [hvc_] at ul269_0
          have HL269_0 := Aside0.mk (show Kd.V (Kd.int .i64) 3 _ w.heap.size _ _ (rd_L1 t255 3) from Kd.V_mk ul269_0 ge269_0)
          clear hva_ hvn_ hvc_ ge269_0 ul269_0
          clear hcc269 hce269
          (try simp only [show (3 : Int).toNat = 3 from rfl, Nat.reduceMul, Nat.reduceEqDiff, Go.Addr.add, ↓reduceIte] at hx269_0)
          have qi269 : (3 < t255.length) = True := eq_true (by omega)
          (try rw [show ((3 : Int)).toNat = 3 from rfl] at hx269_0)
          have HR269_0 := Aside0.mk hi269_0
          have HC269_0 := Aside0.mk hl269_0
          clear hi269_0 hl269_0
          replace p269 := eq_true p269
          replace q269 := eq_true q269
          try go_wp2_with (first | ((with_reducible refine gate_dst (N := 49) rfl ?_); (try (refine gate_guard (by rfl) ?_; dsimp only)); refine Kd.R_lit (Kd.int .i64) _ 3 ?hg (N := 49) ?hd (xs := ([(-2)] : List Int)) (inner := [.int .i64 (-2)]) (ok := fun _ => True) (okp := fun _ => True) ?hr ?hp (fun _ hk => hk) trivial (Below.refl _ _) (Nat.le_refl _) (by simp) ?_; (case hd => rfl); (case hg => rfl); (case hr => first | (go_simp; done) | (go_simp; rfl)); (case hp => exact (Reps.one (show Kd.M (Kd.int .i64) _ _ _ (-2) [.int .i64 (-2)] from rfl) (Reps.none _ _))); intro v271 w28 ho29 hb hg_ hnew_; clear hg_ hnew_; (first | rw [← Ny270.out] at ho29 | (simp only [Int.reduceToNat] at ho29; rw [← Ny270.out] at ho29)); have n0_ := Aside0.mk (Kd.R_below HO247.r hb); have n1_ := Aside0.mk (Kd.N_elder' HO250.n (Kd.R_base ho29) hb); have n2_ := Aside0.mk (Kd.N_elder' HO253.n (Kd.R_base ho29) hb); have n3_ := Aside0.mk (Kd.N_elder' HO257.n (Kd.R_base ho29) hb); have n4_ := Aside0.mk (Kd.V_elder' (by (with_reducible repeat (first | apply Kd.V_alloc | apply Kd.V_drewN | apply Kd.V_drew)); exact HO266.out) (Kd.R_base ho29) hb); have n5_ := Aside0.mk (Kd.V_elder' (by (with_reducible repeat (first | apply Kd.V_alloc | apply Kd.V_drewN | apply Kd.V_drew)); exact HL269_0.out) (Kd.R_base ho29) hb); have n6_ := Aside0.mk (Kd.R_lower ho29 (below_size HB.l)); have n7_ := Aside0.mk (blk_below BK254.b hb); have n8_ := Aside0.mk (Kd.C_below (by repeat (first | (with_reducible exact HR269_0.out) | (with_reducible refine Kd.C_alloc ?_ _) | (with_reducible refine Kd.C_drewN ?_ _) | (with_reducible refine Kd.C_drew ?_) | exact HR269_0.out)) hb); have n9_ := Aside0.mk (below_step HB.l hb); clear HO247 HO250 HO253 HO257 HO266 HL269_0 BK254 HR269_0 HB; revert n0_ n1_ n2_ n3_ n4_ n5_ n6_ n7_ n8_ n9_; intro HO247 HO250 HO253 HO257 HO266 HL269_0 HO272 BK254 HR269_0 HB; clear hb ho29; obtain ⟨Ao30, co30, eo30⟩ := Kd.R_slice HO272.out; subst eo30) | (go_at_call 30; (with_reducible refine (interleaveref31_Same.calls k _ _ (rd_L1 t255 3) _ _ y270 true _ ?side1 ?side2 ?side3 ?side4 A10.out).mono ?_); (case side1 => repeat (first | exact (by repeat (first | (with_reducible exact HR269_0.out) | (with_reducible refine Kd.C_alloc ?_ _) | (with_reducible refine Kd.C_drewN ?_ _) | (with_reducible refine Kd.C_drew ?_) | exact HR269_0.out)) | (with_reducible refine Kd.C_alloc ?_ _) | (with_reducible refine Kd.C_drewN ?_ _) | (with_reducible refine Kd.C_drew ?_))); (case side2 => exact HC269_0.out); (case side3 => repeat (first | exact (Kd.R_reads' HO272.out).2.2 | (with_reducible refine Kd.C_alloc ?_ _) | (with_reducible refine Kd.C_drewN ?_ _) | (with_reducible refine Kd.C_drew ?_))); (case side4 => exact (Kd.R_reads' HO272.out).2.1); rintro e w' ⟨rfl, ⟨nd, rfl⟩⟩))
          go_ret
          exact ⟨by first | rfl | (simp [errW_none, errW_some] <;> rfl) | (simp [*, errW_none, errW_some] <;> rfl), HB.l⟩
         ·rw [if_neg c14] at H
          exact absurd H (by simp)
        ·rw [if_neg c13] at H
         exact absurd H (by simp)
       ·rw [if_neg c12] at H
        exact absurd H (by simp)
      ·replace c11 := Bool.eq_false_iff.mpr c11
       subst c11
       have H1 : (none) = some r := by rw [if_neg (show ¬ (false = true) by decide)] at H; exact H
       clear H
       have H := H1
       clear H1
       exact absurd H (by simp)
     ·rw [if_neg c9] at H
      exact absurd H (by simp)
    ·rw [if_neg c8] at H
     exact absurd H (by simp)
   ·rw [if_neg c7] at H
    exact absurd H (by simp)
  ·rw [if_neg c6] at H
   exact absurd H (by simp)
 ·rw [if_neg c4] at H
  exact absurd H (by simp)

end Go.Proofs.Ytppbnjmhkifdaaa.X
