-- Written by this session's own program (wip/tools/xprint.py).
import Derived.Test.YtppbnjmhkifdaaaX0
import Derived.Test.YtppbnjmhkifdaaaSx
import Derived.Test.YtppbnjmhkifdaaaX1
import Derived.Test.YtppbnjmhkifdaaaX5
import Derived.Test.YtppbnjmhkifdaaaX7
import Derived.Test.YtppbnjmhkifdaaaX11
namespace Go.Proofs.Ytppbnjmhkifdaaa.X
open Go.RowKit Go.Proofs.YtppbnjmhkifdaaaW.PrintWords Go.Proofs.YtppbnjmhkifdaaaW.PrintLast Go.Proofs.YtppbnjmhkifdaaaW.PrintMore
attribute [local go_sem] max2_int min2_int max_two min_two max_three min_three max_four min_four   -- for this text's walks alone
set_option linter.unusedVariables false
set_option linter.unusedSimpArgs false

/-! ### interleaveref31_Check: function 16 -/
def interleaveref31_Check.f (k : Nat) (a0_0 : Int) (a0_1 : Int) (l0_2 : List (S75)) (l0_3 : List (List Int)) (l1 : List (S50)) : Option (Int × Int) := (interleaveref31_Clauses.f k a0_0 a0_1 l0_2 l0_3 l1).bind fun bt421 => (if bt421.2 ≥ 0 then (some (bt421.2, 15)) else (if (l1.length : Int) = 0 then (some ((l1.length : Int), 15)) else (if 0 ≤ (wrap64 ((l1.length : Int) - 1)) then (if (wrap64 ((l1.length : Int) - 1)) < (bt421.1.length : Int) then (if ((rd_L1 bt421.1 (wrap64 ((l1.length : Int) - 1))).length : Int) > 0 then (some ((l1.length : Int), 15)) else (some (0, 0))) else (none)) else (none))))
theorem interleaveref31_Check.mono : ∀ a0 a1 a2 a3 a4 k, LeO (interleaveref31_Check.f k a0 a1 a2 a3 a4) (interleaveref31_Check.f (k + 1) a0 a1 a2 a3 a4) := by
 intro a0 a1 a2 a3 a4 k
 unfold interleaveref31_Check.f
 repeat' first
   | (with_reducible exact interleaveref31_Clauses.mono _ _ _ _ _ _)
   | (with_reducible exact LeO.refl _)
   | (with_reducible exact LeO.none _)
   | (with_reducible refine LeO.ite ?_ ?_)
   | (with_reducible refine LeO.bind ?_ (fun _ => ?_))
   | exact interleaveref31_Clauses.mono _ _ _ _ _ _
   | exact LeO.none _
   | refine LeO.ite ?_ ?_
   | refine LeO.bind ?_ (fun _ => ?_)
set_option maxHeartbeats 8000000 in
set_option maxRecDepth 100000 in
theorem interleaveref31_Check.calls (k : Nat) (a0_0 : Int) (a0_1 : Int) (A0_2 : Option Addr) (c0_2 : Nat) (l0_2 : List (S75)) (A0_3 : Option Addr) (c0_3 : Nat) (l0_3 : List (List Int)) (A1 : Option Addr) (c1 : Nat) (l1 : List (S50)) (r1 : Int) (r2 : Int) (w : World) (hr0_2 : Kd.C k75 w A0_2 l0_2.length l0_2) (hc0_2 : l0_2.length ≤ c0_2) (hr0_3 : Kd.C (Kd.slice 3 (Kd.int .i64)) w A0_3 l0_3.length l0_3) (hc0_3 : l0_3.length ≤ c0_3) (hr1 : Kd.C k50 w A1 l1.length l1) (hc1 : l1.length ≤ c1) (h : interleaveref31_Check.f k a0_0 a0_1 l0_2 l0_3 l1 = some (r1, r2)) :
  Calls Try.prog 16 #[.agg #[.int .i64 a0_0, .int .i64 a0_1, .slice A0_2 l0_2.length c0_2, .slice A0_3 l0_3.length c0_3], .slice A1 l1.length c1] w fun e w' => e = .returned (.tuple #[.int .i64 r1, .int .i64 r2]) ∧ Below w.heap.size w w' := by
 have hu32 := Try.underlying32
 have HR0_2 := Aside0.mk hr0_2
 have HC0_2 := Aside0.mk hc0_2
 clear hr0_2 hc0_2
 have HR0_3 := Aside0.mk hr0_3
 have HC0_3 := Aside0.mk hc0_3
 clear hr0_3 hc0_3
 have HR1 := Aside0.mk hr1
 have HC1 := Aside0.mk hc1
 clear hr1 hc1
 have HB := Aside0.mk (Below.refl w.heap.size w)
 have H : ((interleaveref31_Clauses.f k a0_0 a0_1 l0_2 l0_3 l1).bind fun bt421 => (if bt421.2 ≥ 0 then (some (bt421.2, 15)) else (if (l1.length : Int) = 0 then (some ((l1.length : Int), 15)) else (if 0 ≤ (wrap64 ((l1.length : Int) - 1)) then (if (wrap64 ((l1.length : Int) - 1)) < (bt421.1.length : Int) then (if ((rd_L1 bt421.1 (wrap64 ((l1.length : Int) - 1))).length : Int) > 0 then (some ((l1.length : Int), 15)) else (some (0, 0))) else (none)) else (none))))) = some (r1, r2) := h
 clear h
 replace H := Option.bind_eq_some_iff.mp H
 obtain ⟨⟨t421, t424⟩, A30, H⟩ := H
 replace H : (if t424 ≥ 0 then (some (t424, 15)) else (if (l1.length : Int) = 0 then (some ((l1.length : Int), 15)) else (if 0 ≤ (wrap64 ((l1.length : Int) - 1)) then (if (wrap64 ((l1.length : Int) - 1)) < (t421.length : Int) then (if ((rd_L1 t421 (wrap64 ((l1.length : Int) - 1))).length : Int) > 0 then (some ((l1.length : Int), 15)) else (some (0, 0))) else (none)) else (none)))) = some (r1, r2) := H
 have A3 := Aside0.mk A30
 clear A30
 by_cases c4 : t424 ≥ 0
 ·rw [if_pos c4] at H
  have c4b0 : decide (0 ≤ t424) = true := decide_eq_true c4
  clear c4
  simp only [Option.some.injEq, Prod.mk.injEq] at H
  obtain ⟨rfl, rfl⟩ := H
  go_enter Try.func16, Try.ntmps16
  go_wp2_with (first | ((with_reducible refine gate_dst (N := 2) rfl ?_); (try (refine gate_guard (by rfl) ?_; dsimp only)); refine box_ev (N := 2) rfl (cs := #[.int .i64 a0_0, .int .i64 a0_1, .slice A0_2 l0_2.length c0_2, .slice A0_3 l0_3.length c0_3]) (t := 32) ?_; intro gb420 hg w5 hbox hb; have n0_ := Aside0.mk (below_step HB.l hb); have n1_ := Aside0.mk (hbox); have n2_ := Aside0.mk ((by rw [hg]; exact (below_size HB.l) : w.heap.size ≤ gb420)); have n3_ := Aside0.mk ((by rw [hg]; exact (below_size HB.l) : w.heap.size ≤ gb420)); clear HB; revert n0_ n1_ n2_ n3_; intro HB BK420 GW420 GE420; clear hb hbox hg; have hcz6_0 := BK420.cl 0 (.int .i64 a0_0); have hcz6_1 := BK420.cl 1 (.int .i64 a0_1); have hcz6_2 := BK420.cl 2 (.slice A0_2 l0_2.length c0_2); have hcz6_3 := BK420.cl 3 (.slice A0_3 l0_3.length c0_3); have hfz6_0 := BK420.fz 0; have hfz6_1 := BK420.fz 1; have hfz6_2 := BK420.fz 2; have hfz6_3 := BK420.fz 3) | ((with_reducible refine gate_callee (f := 33) rfl ?_); refine goesM_ Try.func33 #[.agg #[.int .i64 a0_0, .int .i64 a0_1, .slice A0_2 l0_2.length c0_2, .slice A0_3 l0_3.length c0_3], .slice A1 l1.length c1] ?_; (with_reducible refine (interleaveref31_Clauses.calls k a0_0 a0_1 _ _ l0_2 _ _ l0_3 _ _ l1 t421 t424 _ ?side1 ?side2 ?side3 ?side4 ?side5 ?side6 A3.out).mono ?_); (case side1 => exact HR0_2.c HB.l); (case side2 => exact HC0_2.out); (case side3 => exact HR0_3.c HB.l); (case side4 => exact HC0_3.out); (case side5 => exact HR1.c HB.l); (case side6 => exact HC1.out); rintro e w7 ⟨v422, rfl, ho0, hb⟩; refine ⟨_, rfl, ?_⟩; have n0_ := Aside0.mk (Kd.S_lower ho0 (below_size HB.l)); have n1_ := Aside0.mk (blk_below BK420.b hb); have n2_ := Aside0.mk (below_step HB.l hb); clear BK420 HB; revert n0_ n1_ n2_; intro HO423 BK420 HB; (try clear hb); (try clear hb2); (try clear hk); (try clear hi); (try clear ho0)))
  go_ret2
  exact ⟨by first | rfl | (simp [errW_none, errW_some] <;> rfl) | (simp [*, errW_none, errW_some] <;> rfl), HB.l⟩
 ·rw [if_neg c4] at H
  have c4b0 : decide (0 ≤ t424) = false := decide_eq_false c4
  clear c4
  by_cases c8 : (l1.length : Int) = 0
  ·rw [if_pos c8] at H
   have c8b0 : ((l1.length : Int) == 0) = true := beq_iff_eq.mpr c8
   have c8b1 : ((l1.length : Int) != 0) = false := bne_eq_false_iff_eq.mpr c8
   clear c8
   simp only [Option.some.injEq, Prod.mk.injEq] at H
   obtain ⟨rfl, rfl⟩ := H
   go_enter Try.func16, Try.ntmps16
   go_wp2_with (first | ((with_reducible refine gate_dst (N := 2) rfl ?_); (try (refine gate_guard (by rfl) ?_; dsimp only)); refine box_ev (N := 2) rfl (cs := #[.int .i64 a0_0, .int .i64 a0_1, .slice A0_2 l0_2.length c0_2, .slice A0_3 l0_3.length c0_3]) (t := 32) ?_; intro gb420 hg w9 hbox hb; have n0_ := Aside0.mk (below_step HB.l hb); have n1_ := Aside0.mk (hbox); have n2_ := Aside0.mk ((by rw [hg]; exact (below_size HB.l) : w.heap.size ≤ gb420)); have n3_ := Aside0.mk ((by rw [hg]; exact (below_size HB.l) : w.heap.size ≤ gb420)); clear HB; revert n0_ n1_ n2_ n3_; intro HB BK420 GW420 GE420; clear hb hbox hg; have hcz10_0 := BK420.cl 0 (.int .i64 a0_0); have hcz10_1 := BK420.cl 1 (.int .i64 a0_1); have hcz10_2 := BK420.cl 2 (.slice A0_2 l0_2.length c0_2); have hcz10_3 := BK420.cl 3 (.slice A0_3 l0_3.length c0_3); have hfz10_0 := BK420.fz 0; have hfz10_1 := BK420.fz 1; have hfz10_2 := BK420.fz 2; have hfz10_3 := BK420.fz 3) | ((with_reducible refine gate_callee (f := 33) rfl ?_); refine goesM_ Try.func33 #[.agg #[.int .i64 a0_0, .int .i64 a0_1, .slice A0_2 l0_2.length c0_2, .slice A0_3 l0_3.length c0_3], .slice A1 l1.length c1] ?_; (with_reducible refine (interleaveref31_Clauses.calls k a0_0 a0_1 _ _ l0_2 _ _ l0_3 _ _ l1 t421 t424 _ ?side1 ?side2 ?side3 ?side4 ?side5 ?side6 A3.out).mono ?_); (case side1 => exact HR0_2.c HB.l); (case side2 => exact HC0_2.out); (case side3 => exact HR0_3.c HB.l); (case side4 => exact HC0_3.out); (case side5 => exact HR1.c HB.l); (case side6 => exact HC1.out); rintro e w11 ⟨v422, rfl, ho0, hb⟩; refine ⟨_, rfl, ?_⟩; have n0_ := Aside0.mk (Kd.S_lower ho0 (below_size HB.l)); have n1_ := Aside0.mk (blk_below BK420.b hb); have n2_ := Aside0.mk (below_step HB.l hb); clear BK420 HB; revert n0_ n1_ n2_; intro HO423 BK420 HB; (try clear hb); (try clear hb2); (try clear hk); (try clear hi); (try clear ho0)))
   go_ret2
   exact ⟨by first | rfl | (simp [errW_none, errW_some] <;> rfl) | (simp [*, errW_none, errW_some] <;> rfl), HB.l⟩
  ·rw [if_neg c8] at H
   have c8b0 : ((l1.length : Int) == 0) = false := beq_eq_false_iff_ne.mpr c8
   have c8b1 : ((l1.length : Int) != 0) = true := bne_iff_ne.mpr c8
   have c8b2 : ¬ (l1 = []) := fun h_ => c8 (by rw [h_]; rfl)
   obtain ⟨ji12, hji12⟩ : ∃ j_ : Int, (wrap64 ((l1.length : Int) - 1)) = j_ := ⟨_, rfl⟩
   replace H : (if 0 ≤ (ji12) then (if (ji12) < (t421.length : Int) then (if ((rd_L1 t421 (ji12)).length : Int) > 0 then (some ((l1.length : Int), 15)) else (some (0, 0))) else (none)) else (none)) = some (r1, r2) := by first | (rw [hji12] at H; exact H) | (simp only [hji12] at H ⊢; exact H)
   (try rw [hji12] at A3)
   have hji12w : (IntKind.i64.wrap ((l1.length : Int) - 1)) = ji12 := (i64_w _).trans hji12
   by_cases c13 : 0 ≤ (ji12)
   ·rw [if_pos c13] at H
    have c13b0 : decide (0 ≤ (ji12)) = true := decide_eq_true c13
    clear c13
    by_cases c14 : (ji12) < (t421.length : Int)
    ·rw [if_pos c14] at H
     have c14b0 : decide ((ji12) < (t421.length : Int)) = true := decide_eq_true c14
     clear c14
     by_cases c15 : ((rd_L1 t421 (ji12)).length : Int) > 0
     ·rw [if_pos c15] at H
      have c15b0 : decide (0 < ((rd_L1 t421 (ji12)).length : Int)) = true := decide_eq_true c15
      have c15b1 : decide (0 < (rd_L1 t421 (ji12)).length) = true := decide_eq_true (by omega)
      clear c15
      simp only [Option.some.injEq, Prod.mk.injEq] at H
      obtain ⟨rfl, rfl⟩ := H
      go_enter Try.func16, Try.ntmps16
      go_wp2_with (first | ((with_reducible refine gate_dst (N := 2) rfl ?_); (try (refine gate_guard (by rfl) ?_; dsimp only)); refine box_ev (N := 2) rfl (cs := #[.int .i64 a0_0, .int .i64 a0_1, .slice A0_2 l0_2.length c0_2, .slice A0_3 l0_3.length c0_3]) (t := 32) ?_; intro gb420 hg w16 hbox hb; have n0_ := Aside0.mk (below_step HB.l hb); have n1_ := Aside0.mk (hbox); have n2_ := Aside0.mk ((by rw [hg]; exact (below_size HB.l) : w.heap.size ≤ gb420)); have n3_ := Aside0.mk ((by rw [hg]; exact (below_size HB.l) : w.heap.size ≤ gb420)); clear HB; revert n0_ n1_ n2_ n3_; intro HB BK420 GW420 GE420; clear hb hbox hg; have hcz17_0 := BK420.cl 0 (.int .i64 a0_0); have hcz17_1 := BK420.cl 1 (.int .i64 a0_1); have hcz17_2 := BK420.cl 2 (.slice A0_2 l0_2.length c0_2); have hcz17_3 := BK420.cl 3 (.slice A0_3 l0_3.length c0_3); have hfz17_0 := BK420.fz 0; have hfz17_1 := BK420.fz 1; have hfz17_2 := BK420.fz 2; have hfz17_3 := BK420.fz 3) | ((with_reducible refine gate_callee (f := 33) rfl ?_); refine goesM_ Try.func33 #[.agg #[.int .i64 a0_0, .int .i64 a0_1, .slice A0_2 l0_2.length c0_2, .slice A0_3 l0_3.length c0_3], .slice A1 l1.length c1] ?_; (with_reducible refine (interleaveref31_Clauses.calls k a0_0 a0_1 _ _ l0_2 _ _ l0_3 _ _ l1 t421 t424 _ ?side1 ?side2 ?side3 ?side4 ?side5 ?side6 A3.out).mono ?_); (case side1 => exact HR0_2.c HB.l); (case side2 => exact HC0_2.out); (case side3 => exact HR0_3.c HB.l); (case side4 => exact HC0_3.out); (case side5 => exact HR1.c HB.l); (case side6 => exact HC1.out); rintro e w18 ⟨v422, rfl, ho0, hb⟩; refine ⟨_, rfl, ?_⟩; have n0_ := Aside0.mk (Kd.S_lower ho0 (below_size HB.l)); have n1_ := Aside0.mk (blk_below BK420.b hb); have n2_ := Aside0.mk (below_step HB.l hb); clear BK420 HB; revert n0_ n1_ n2_; intro HO423 BK420 HB; (try clear hb); (try clear hb2); (try clear hk); (try clear hi); (try clear ho0); obtain ⟨Ao19, co19, eo19⟩ := Kd.S_slice HO423.out; subst eo19; have p425 : 0 ≤ ((ji12) : Int) := of_decide_eq_true (by first | (with_reducible assumption) | assumption); have q425 : (ji12) < (t421.length : Int) := of_decide_eq_true (by first | (with_reducible assumption) | assumption); obtain ⟨ad425, A425_0, c425_0, e425, hx425_0, hl425_0, hi425_0⟩ := at_L1 (Kd.S_reads' HO423.out).2.2 (ji12) p425 q425; cases e425; obtain ⟨ce425, hce425, hMe425, hcc425⟩ := Kd.S_get HO423.out [] (ji12) p425 (by first | exact q425 | exact of_decide_eq_true (by first | (with_reducible assumption) | assumption) | (have e_ := (Kd.S_reads' HO423.out).1; omega)); obtain ⟨ve425_0, rfl, ge425_0⟩ := hMe425; have hv425_0 := hcc425 0 _ rfl; rw [Nat.add_zero, show ((Kd.slice 3 (Kd.int .i64))).sz = 1 from rfl, Nat.mul_one] at hv425_0; replace hv425_0 := Option.some.inj (hv425_0.symm.trans hx425_0); rw [hv425_0] at ge425_0; have HL425_0 := Aside0.mk (show Kd.R (Kd.int .i64) 3 _ _ _ _ (rd_L1 t421 (ji12)) from ge425_0); clear hv425_0 ge425_0; clear hcc425 hce425; have HR425_0 := Aside0.mk hi425_0; have HC425_0 := Aside0.mk hl425_0; clear hi425_0 hl425_0; replace p425 := eq_true p425; replace q425 := eq_true q425))
      go_ret2
      exact ⟨by first | rfl | (simp [errW_none, errW_some] <;> rfl) | (simp only [← hji12]; first | rfl | (simp [errW_none, errW_some] <;> rfl)) | (simp [*, errW_none, errW_some] <;> rfl), HB.l⟩
     ·rw [if_neg c15] at H
      have c15b0 : decide (0 < ((rd_L1 t421 (ji12)).length : Int)) = false := decide_eq_false c15
      have c15b1 : decide (0 < (rd_L1 t421 (ji12)).length) = false := decide_eq_false (by omega)
      clear c15
      simp only [Option.some.injEq, Prod.mk.injEq] at H
      obtain ⟨rfl, rfl⟩ := H
      go_enter Try.func16, Try.ntmps16
      go_wp2_with (first | ((with_reducible refine gate_dst (N := 2) rfl ?_); (try (refine gate_guard (by rfl) ?_; dsimp only)); refine box_ev (N := 2) rfl (cs := #[.int .i64 a0_0, .int .i64 a0_1, .slice A0_2 l0_2.length c0_2, .slice A0_3 l0_3.length c0_3]) (t := 32) ?_; intro gb420 hg w20 hbox hb; have n0_ := Aside0.mk (below_step HB.l hb); have n1_ := Aside0.mk (hbox); have n2_ := Aside0.mk ((by rw [hg]; exact (below_size HB.l) : w.heap.size ≤ gb420)); have n3_ := Aside0.mk ((by rw [hg]; exact (below_size HB.l) : w.heap.size ≤ gb420)); clear HB; revert n0_ n1_ n2_ n3_; intro HB BK420 GW420 GE420; clear hb hbox hg; have hcz21_0 := BK420.cl 0 (.int .i64 a0_0); have hcz21_1 := BK420.cl 1 (.int .i64 a0_1); have hcz21_2 := BK420.cl 2 (.slice A0_2 l0_2.length c0_2); have hcz21_3 := BK420.cl 3 (.slice A0_3 l0_3.length c0_3); have hfz21_0 := BK420.fz 0; have hfz21_1 := BK420.fz 1; have hfz21_2 := BK420.fz 2; have hfz21_3 := BK420.fz 3) | ((with_reducible refine gate_callee (f := 33) rfl ?_); refine goesM_ Try.func33 #[.agg #[.int .i64 a0_0, .int .i64 a0_1, .slice A0_2 l0_2.length c0_2, .slice A0_3 l0_3.length c0_3], .slice A1 l1.length c1] ?_; (with_reducible refine (interleaveref31_Clauses.calls k a0_0 a0_1 _ _ l0_2 _ _ l0_3 _ _ l1 t421 t424 _ ?side1 ?side2 ?side3 ?side4 ?side5 ?side6 A3.out).mono ?_); (case side1 => exact HR0_2.c HB.l); (case side2 => exact HC0_2.out); (case side3 => exact HR0_3.c HB.l); (case side4 => exact HC0_3.out); (case side5 => exact HR1.c HB.l); (case side6 => exact HC1.out); rintro e w22 ⟨v422, rfl, ho0, hb⟩; refine ⟨_, rfl, ?_⟩; have n0_ := Aside0.mk (Kd.S_lower ho0 (below_size HB.l)); have n1_ := Aside0.mk (blk_below BK420.b hb); have n2_ := Aside0.mk (below_step HB.l hb); clear BK420 HB; revert n0_ n1_ n2_; intro HO423 BK420 HB; (try clear hb); (try clear hb2); (try clear hk); (try clear hi); (try clear ho0); obtain ⟨Ao23, co23, eo23⟩ := Kd.S_slice HO423.out; subst eo23; have p425 : 0 ≤ ((ji12) : Int) := of_decide_eq_true (by first | (with_reducible assumption) | assumption); have q425 : (ji12) < (t421.length : Int) := of_decide_eq_true (by first | (with_reducible assumption) | assumption); obtain ⟨ad425, A425_0, c425_0, e425, hx425_0, hl425_0, hi425_0⟩ := at_L1 (Kd.S_reads' HO423.out).2.2 (ji12) p425 q425; cases e425; obtain ⟨ce425, hce425, hMe425, hcc425⟩ := Kd.S_get HO423.out [] (ji12) p425 (by first | exact q425 | exact of_decide_eq_true (by first | (with_reducible assumption) | assumption) | (have e_ := (Kd.S_reads' HO423.out).1; omega)); obtain ⟨ve425_0, rfl, ge425_0⟩ := hMe425; have hv425_0 := hcc425 0 _ rfl; rw [Nat.add_zero, show ((Kd.slice 3 (Kd.int .i64))).sz = 1 from rfl, Nat.mul_one] at hv425_0; replace hv425_0 := Option.some.inj (hv425_0.symm.trans hx425_0); rw [hv425_0] at ge425_0; have HL425_0 := Aside0.mk (show Kd.R (Kd.int .i64) 3 _ _ _ _ (rd_L1 t421 (ji12)) from ge425_0); clear hv425_0 ge425_0; clear hcc425 hce425; have HR425_0 := Aside0.mk hi425_0; have HC425_0 := Aside0.mk hl425_0; clear hi425_0 hl425_0; replace p425 := eq_true p425; replace q425 := eq_true q425))
      go_ret2
      exact ⟨by first | rfl | (simp [errW_none, errW_some] <;> rfl) | (simp only [← hji12]; first | rfl | (simp [errW_none, errW_some] <;> rfl)) | (simp [*, errW_none, errW_some] <;> rfl), HB.l⟩
    ·rw [if_neg c14] at H
     exact absurd H (by simp)
   ·rw [if_neg c13] at H
    exact absurd H (by simp)

/-! ### interleavelaw33_sameClauses: function 34 -/
def interleavelaw33_sameClauses.l0 : Nat → List (List Int) → List (List Int) → Int → Int → Option (Bool)
 | 0, _, _, _, _ => none
 | k + 1, x0, x1, x12, x13 => if x13 < x12 then (if 0 ≤ x13 then (if x13 < (x0.length : Int) then (if x13 < (x1.length : Int) then ((interleaveref31_Same.f k (rd_L1 x0 x13) (rd_L1 x1 x13)).bind fun t428 => (if t428 = true then (interleavelaw33_sameClauses.l0 k x0 x1 x12 (wrap64 (x13 + 1))) else (none))) else (none)) else (none)) else (none)) else (some true)
def interleavelaw33_sameClauses.f (k : Nat) (l0 : List (List Int)) (l1 : List (List Int)) : Option (Bool) := if (l0.length : Int) = (l1.length : Int) then (interleavelaw33_sameClauses.l0 k l0 l1 (l0.length : Int) 0) else (none)
theorem interleavelaw33_sameClauses.mono_l : ∀ k, (∀ y0 y1 y2 y3, LeO (interleavelaw33_sameClauses.l0 k y0 y1 y2 y3) (interleavelaw33_sameClauses.l0 (k + 1) y0 y1 y2 y3))
 | 0 => fun _ _ _ _ r h => by simp [interleavelaw33_sameClauses.l0] at h
 | k + 1 => by
  have ih0 := interleavelaw33_sameClauses.mono_l k
  ·intro y0 y1 y2 y3
   unfold interleavelaw33_sameClauses.l0
   repeat' first
   | (with_reducible exact ih0 _ _ _ _)
   | (with_reducible exact interleaveref31_Same.mono _ _ _)
   | (with_reducible exact LeO.refl _)
   | (with_reducible exact LeO.none _)
   | (with_reducible refine LeO.ite ?_ ?_)
   | (with_reducible refine LeO.bind ?_ (fun _ => ?_))
   | exact ih0 _ _ _ _
   | exact interleaveref31_Same.mono _ _ _
   | exact LeO.none _
   | refine LeO.ite ?_ ?_
   | refine LeO.bind ?_ (fun _ => ?_)
theorem interleavelaw33_sameClauses.mono : ∀ a0 a1 k, LeO (interleavelaw33_sameClauses.f k a0 a1) (interleavelaw33_sameClauses.f (k + 1) a0 a1) := by
 intro a0 a1 k
 have ih0 := interleavelaw33_sameClauses.mono_l k
 unfold interleavelaw33_sameClauses.f
 repeat' first
   | (with_reducible exact ih0 _ _ _ _)
   | (with_reducible exact interleaveref31_Same.mono _ _ _)
   | (with_reducible exact LeO.refl _)
   | (with_reducible exact LeO.none _)
   | (with_reducible refine LeO.ite ?_ ?_)
   | (with_reducible refine LeO.bind ?_ (fun _ => ?_))
   | exact ih0 _ _ _ _
   | exact interleaveref31_Same.mono _ _ _
   | exact LeO.none _
   | refine LeO.ite ?_ ?_
   | refine LeO.bind ?_ (fun _ => ?_)
set_option maxHeartbeats 8000000 in
set_option maxRecDepth 100000 in
theorem interleavelaw33_sameClauses.calls (k : Nat) (A0 : Option Addr) (c0 : Nat) (l0 : List (List Int)) (A1 : Option Addr) (c1 : Nat) (l1 : List (List Int)) (r : Bool) (w : World) (hr0 : Kd.C (Kd.slice 3 (Kd.int .i64)) w A0 l0.length l0) (hc0 : l0.length ≤ c0) (hr1 : Kd.C (Kd.slice 3 (Kd.int .i64)) w A1 l1.length l1) (hc1 : l1.length ≤ c1) (h : interleavelaw33_sameClauses.f k l0 l1 = some r) :
  Calls Try.prog 34 #[.slice A0 l0.length c0, .slice A1 l1.length c1] w fun e w' => e = .returned (.bool r) ∧ Drawn0 w w' := by
 have HR0 := Aside0.mk hr0
 have HC0 := Aside0.mk hc0
 clear hr0 hc0
 have HR1 := Aside0.mk hr1
 have HC1 := Aside0.mk hc1
 clear hr1 hc1
 have H : (if (l0.length : Int) = (l1.length : Int) then (interleavelaw33_sameClauses.l0 k l0 l1 (l0.length : Int) 0) else (none)) = some r := h
 clear h
 by_cases c3 : (l0.length : Int) = (l1.length : Int)
 ·rw [if_pos c3] at H
  have c3b0 : ((l0.length : Int) == (l1.length : Int)) = true := beq_iff_eq.mpr c3
  have c3b1 : ((l0.length : Int) != (l1.length : Int)) = false := bne_eq_false_iff_eq.mpr c3
  have c3b2 : (l0.length == l1.length) = true := by first | simpa using c3 | (simp at c3 ⊢; omega)
  clear c3
  have H' := Aside0.mk H
  clear H
  go_enter Try.func34, Try.ntmps34
  go_wp2
  repeat (go_quiet (fail); try go_wp2)
  go_loopg [13] k (fun kq v13 w' => ∃ (x13_1 : Int), v13 = .int .i64 x13_1 ∧ Aside0 (interleavelaw33_sameClauses.l0 kq l0 l1 (l0.length : Int) x13_1 = some r) ∧ Aside0 (kq ≤ k) ∧ Drawn0 w w')
  case atStart => exact ⟨(0), (by first | rfl | (simp; done) | (simp [*]; done)), H', ⟨Nat.le_refl _⟩, by repeat (first | exact Drawn0.refl _ | apply Drawn0.step)⟩
  case round => as_aux_lemma =>
   clear H'
   try clear c1
   try clear p2
   try clear c3
   try clear c3b0
   try clear c3b1
   try clear c3b2
   obtain ⟨x13_1, rfl, HA, HK1, ⟨m1, rfl⟩⟩ := hrel
   cases gk with
   | zero => exact absurd HA.out (by simp [interleavelaw33_sameClauses.l0])
   | succ k1 =>
    have H := HA.out
    clear HA
    simp only [interleavelaw33_sameClauses.l0] at H
    by_cases c4 : x13_1 < (l0.length : Int)
    ·rw [if_pos c4] at H
     have c4b0 : decide (x13_1 < (l0.length : Int)) = true := decide_eq_true c4
     clear c4
     by_cases c5 : 0 ≤ x13_1
     ·rw [if_pos c5] at H
      have c5b0 : decide (0 ≤ x13_1) = true := decide_eq_true c5
      clear c5
      by_cases c6 : x13_1 < (l0.length : Int)
      ·rw [if_pos c6] at H
       have c6b0 : decide (x13_1 < (l0.length : Int)) = true := decide_eq_true c6
       clear c6
       by_cases c7 : x13_1 < (l1.length : Int)
       ·rw [if_pos c7] at H
        have c7b0 : decide (x13_1 < (l1.length : Int)) = true := decide_eq_true c7
        clear c7
        replace H := Option.bind_eq_some_iff.mp H
        obtain ⟨t428, A80, H⟩ := H
        replace H : (if t428 = true then (interleavelaw33_sameClauses.l0 k1 l0 l1 (l0.length : Int) (wrap64 (x13_1 + 1))) else (none)) = some r := H
        have A8 := Aside0.mk A80
        clear A80
        by_cases c9 : t428 = true
        ·subst c9
         have H1 : (interleavelaw33_sameClauses.l0 k1 l0 l1 (l0.length : Int) (wrap64 (x13_1 + 1))) = some r := by rw [if_pos rfl] at H; exact H
         clear H
         have H := H1
         clear H1
         have H' := Aside0.mk H
         clear H
         have p426 : 0 ≤ (x13_1 : Int) := of_decide_eq_true (by first | (with_reducible assumption) | assumption)
         have q426 : x13_1 < (l0.length : Int) := of_decide_eq_true (by first | (with_reducible assumption) | assumption)
         obtain ⟨ad426, A426_0, c426_0, e426, hx426_0, hl426_0, hi426_0⟩ := at_L1 HR0.out x13_1 p426 q426
         cases e426
         have HR426_0 := Aside0.mk hi426_0
         have HC426_0 := Aside0.mk hl426_0
         clear hi426_0 hl426_0
         replace p426 := eq_true p426
         replace q426 := eq_true q426
         have p427 : 0 ≤ (x13_1 : Int) := of_decide_eq_true (by first | (with_reducible assumption) | assumption)
         have q427 : x13_1 < (l1.length : Int) := of_decide_eq_true (by first | (with_reducible assumption) | assumption)
         obtain ⟨ad427, A427_0, c427_0, e427, hx427_0, hl427_0, hi427_0⟩ := at_L1 HR1.out x13_1 p427 q427
         cases e427
         have HR427_0 := Aside0.mk hi427_0
         have HC427_0 := Aside0.mk hl427_0
         clear hi427_0 hl427_0
         replace p427 := eq_true p427
         replace q427 := eq_true q427
         go_wp2_with (first | (go_at_call 30; (with_reducible refine (interleaveref31_Same.calls k1 _ _ (rd_L1 l0 x13_1) _ _ (rd_L1 l1 x13_1) true _ ?side1 ?side2 ?side3 ?side4 A8.out).mono ?_); (case side1 => repeat (first | exact HR426_0.out | (with_reducible refine Kd.C_alloc ?_ _) | (with_reducible refine Kd.C_drewN ?_ _) | (with_reducible refine Kd.C_drew ?_))); (case side2 => exact HC426_0.out); (case side3 => repeat (first | exact HR427_0.out | (with_reducible refine Kd.C_alloc ?_ _) | (with_reducible refine Kd.C_drewN ?_ _) | (with_reducible refine Kd.C_drew ?_))); (case side4 => exact HC427_0.out); rintro e w' ⟨rfl, ⟨nd, rfl⟩⟩; (try first | exact ⟨rfl, _, World.drewN_drewN _ _ _⟩ | exact ⟨rfl, _, Eq.trans (World.drewN_drewN _ _ _) (congrArg (World.drewN _) (Nat.add_assoc _ _ _))⟩)))
         repeat (go_quiet (first | (go_at_call 30; (with_reducible refine (interleaveref31_Same.calls k1 _ _ (rd_L1 l0 x13_1) _ _ (rd_L1 l1 x13_1) true _ ?side1 ?side2 ?side3 ?side4 A8.out).mono ?_); (case side1 => repeat (first | exact HR426_0.out | (with_reducible refine Kd.C_alloc ?_ _) | (with_reducible refine Kd.C_drewN ?_ _) | (with_reducible refine Kd.C_drew ?_))); (case side2 => exact HC426_0.out); (case side3 => repeat (first | exact HR427_0.out | (with_reducible refine Kd.C_alloc ?_ _) | (with_reducible refine Kd.C_drewN ?_ _) | (with_reducible refine Kd.C_drew ?_))); (case side4 => exact HC427_0.out); rintro e w' ⟨rfl, ⟨nd, rfl⟩⟩; (try first | exact ⟨rfl, _, World.drewN_drewN _ _ _⟩ | exact ⟨rfl, _, Eq.trans (World.drewN_drewN _ _ _) (congrArg (World.drewN _) (Nat.add_assoc _ _ _))⟩))); try go_wp2_with (first | (go_at_call 30; (with_reducible refine (interleaveref31_Same.calls k1 _ _ (rd_L1 l0 x13_1) _ _ (rd_L1 l1 x13_1) true _ ?side1 ?side2 ?side3 ?side4 A8.out).mono ?_); (case side1 => repeat (first | exact HR426_0.out | (with_reducible refine Kd.C_alloc ?_ _) | (with_reducible refine Kd.C_drewN ?_ _) | (with_reducible refine Kd.C_drew ?_))); (case side2 => exact HC426_0.out); (case side3 => repeat (first | exact HR427_0.out | (with_reducible refine Kd.C_alloc ?_ _) | (with_reducible refine Kd.C_drewN ?_ _) | (with_reducible refine Kd.C_drew ?_))); (case side4 => exact HC427_0.out); rintro e w' ⟨rfl, ⟨nd, rfl⟩⟩; (try first | exact ⟨rfl, _, World.drewN_drewN _ _ _⟩ | exact ⟨rfl, _, Eq.trans (World.drewN_drewN _ _ _) (congrArg (World.drewN _) (Nat.add_assoc _ _ _))⟩))))
         go_roundg k1
         case measure => have := HK1.out; omega
         case rel => exact ⟨(wrap64 (x13_1 + 1)), (by first | rfl | (simp; done) | (simp [*]; done)), H', ⟨by have := HK1.out; omega⟩, by repeat (first | exact Drawn0.refl _ | apply Drawn0.step)⟩
        ·replace c9 := Bool.eq_false_iff.mpr c9
         subst c9
         have H1 : (none) = some r := by rw [if_neg (show ¬ (false = true) by decide)] at H; exact H
         clear H
         have H := H1
         clear H1
         exact absurd H (by simp)
       ·rw [if_neg c7] at H
        exact absurd H (by simp)
      ·rw [if_neg c6] at H
       exact absurd H (by simp)
     ·rw [if_neg c5] at H
      exact absurd H (by simp)
    ·rw [if_neg c4] at H
     have c4b0 : decide (x13_1 < (l0.length : Int)) = false := decide_eq_false c4
     clear c4
     obtain rfl := Option.some.inj H
     go_wp2
     repeat (go_quiet (fail); try go_wp2)
     go_ret
     exact ⟨by first | rfl | (simp; done) | (simp [*]; done), by repeat (first | exact Drawn0.refl _ | apply Drawn0.step)⟩
 ·rw [if_neg c3] at H
  exact absurd H (by simp)

/-! ### interleavelaw33_clauses: function 17 -/
def interleavelaw33_clauses.f (k : Nat) (a0_0 : Int) (a0_1 : Int) (l0_2 : List (S75)) (l0_3 : List (List Int)) (l1 : List (S50)) : Option (Bool) := (proof_Clauses.f k a0_0 a0_1 l0_2 l0_3 l1).bind fun bt430 => ((interleaveref31_Clauses.f k a0_0 a0_1 l0_2 l0_3 l1).bind fun bt435 => (if bt435.2 ≥ 0 then (if bt430.2.2 = 15 then (if bt430.2.1 = bt435.2 then (some ((bt430.1.length : Int) == 0)) else (none)) else (none)) else (if bt430.2.2 = 0 then (if bt430.2.1 = 0 then ((interleavelaw33_sameClauses.f k bt430.1 bt435.1).bind fun t439 => (some t439)) else (none)) else (none))))
theorem interleavelaw33_clauses.mono : ∀ a0 a1 a2 a3 a4 k, LeO (interleavelaw33_clauses.f k a0 a1 a2 a3 a4) (interleavelaw33_clauses.f (k + 1) a0 a1 a2 a3 a4) := by
 intro a0 a1 a2 a3 a4 k
 unfold interleavelaw33_clauses.f
 repeat' first
   | (with_reducible exact interleavelaw33_sameClauses.mono _ _ _)
   | (with_reducible exact interleaveref31_Clauses.mono _ _ _ _ _ _)
   | (with_reducible exact proof_Clauses.mono _ _ _ _ _ _)
   | (with_reducible exact LeO.refl _)
   | (with_reducible exact LeO.none _)
   | (with_reducible refine LeO.ite ?_ ?_)
   | (with_reducible refine LeO.bind ?_ (fun _ => ?_))
   | exact interleavelaw33_sameClauses.mono _ _ _
   | exact interleaveref31_Clauses.mono _ _ _ _ _ _
   | exact proof_Clauses.mono _ _ _ _ _ _
   | exact LeO.none _
   | refine LeO.ite ?_ ?_
   | refine LeO.bind ?_ (fun _ => ?_)
set_option maxHeartbeats 8000000 in
set_option maxRecDepth 100000 in
theorem interleavelaw33_clauses.calls (k : Nat) (a0_0 : Int) (a0_1 : Int) (A0_2 : Option Addr) (c0_2 : Nat) (l0_2 : List (S75)) (A0_3 : Option Addr) (c0_3 : Nat) (l0_3 : List (List Int)) (A1 : Option Addr) (c1 : Nat) (l1 : List (S50)) (r : Bool) (w : World) (hr0_2 : Kd.C k75 w A0_2 l0_2.length l0_2) (hc0_2 : l0_2.length ≤ c0_2) (hr0_3 : Kd.C (Kd.slice 3 (Kd.int .i64)) w A0_3 l0_3.length l0_3) (hc0_3 : l0_3.length ≤ c0_3) (hr1 : Kd.C k50 w A1 l1.length l1) (hc1 : l1.length ≤ c1) (h : interleavelaw33_clauses.f k a0_0 a0_1 l0_2 l0_3 l1 = some r) :
  Calls Try.prog 17 #[.agg #[.int .i64 a0_0, .int .i64 a0_1, .slice A0_2 l0_2.length c0_2, .slice A0_3 l0_3.length c0_3], .slice A1 l1.length c1] w fun e w' => e = .returned (.bool r) ∧ Below w.heap.size w w' := by
 have hu32 := Try.underlying32
 have HR0_2 := Aside0.mk hr0_2
 have HC0_2 := Aside0.mk hc0_2
 clear hr0_2 hc0_2
 have HR0_3 := Aside0.mk hr0_3
 have HC0_3 := Aside0.mk hc0_3
 clear hr0_3 hc0_3
 have HR1 := Aside0.mk hr1
 have HC1 := Aside0.mk hc1
 clear hr1 hc1
 have HB := Aside0.mk (Below.refl w.heap.size w)
 have H : ((proof_Clauses.f k a0_0 a0_1 l0_2 l0_3 l1).bind fun bt430 => ((interleaveref31_Clauses.f k a0_0 a0_1 l0_2 l0_3 l1).bind fun bt435 => (if bt435.2 ≥ 0 then (if bt430.2.2 = 15 then (if bt430.2.1 = bt435.2 then (some ((bt430.1.length : Int) == 0)) else (none)) else (none)) else (if bt430.2.2 = 0 then (if bt430.2.1 = 0 then ((interleavelaw33_sameClauses.f k bt430.1 bt435.1).bind fun t439 => (some t439)) else (none)) else (none))))) = some r := h
 clear h
 replace H := Option.bind_eq_some_iff.mp H
 obtain ⟨⟨t430, t433, t434⟩, A30, H⟩ := H
 replace H : ((interleaveref31_Clauses.f k a0_0 a0_1 l0_2 l0_3 l1).bind fun bt435 => (if bt435.2 ≥ 0 then (if t434 = 15 then (if t433 = bt435.2 then (some ((t430.length : Int) == 0)) else (none)) else (none)) else (if t434 = 0 then (if t433 = 0 then ((interleavelaw33_sameClauses.f k t430 bt435.1).bind fun t439 => (some t439)) else (none)) else (none)))) = some r := H
 have A3 := Aside0.mk A30
 clear A30
 replace H := Option.bind_eq_some_iff.mp H
 obtain ⟨⟨t435, t438⟩, A40, H⟩ := H
 replace H : (if t438 ≥ 0 then (if t434 = 15 then (if t433 = t438 then (some ((t430.length : Int) == 0)) else (none)) else (none)) else (if t434 = 0 then (if t433 = 0 then ((interleavelaw33_sameClauses.f k t430 t435).bind fun t439 => (some t439)) else (none)) else (none))) = some r := H
 have A4 := Aside0.mk A40
 clear A40
 by_cases c5 : t438 ≥ 0
 ·rw [if_pos c5] at H
  have c5b0 : decide (0 ≤ t438) = true := decide_eq_true c5
  clear c5
  by_cases c6 : t434 = 15
  ·rw [if_pos c6] at H
   have c6b0 : (t434 == 15) = true := beq_iff_eq.mpr c6
   have c6b1 : (t434 != 15) = false := bne_eq_false_iff_eq.mpr c6
   clear c6
   by_cases c7 : t433 = t438
   ·rw [if_pos c7] at H
    have c7b0 : (t433 == t438) = true := beq_iff_eq.mpr c7
    have c7b1 : (t433 != t438) = false := bne_eq_false_iff_eq.mpr c7
    clear c7
    obtain rfl := Option.some.inj H
    go_enter Try.func17, Try.ntmps17
    go_wp2_with (first | ((with_reducible refine gate_dst (N := 2) rfl ?_); (try (refine gate_guard (by rfl) ?_; dsimp only)); refine box_ev (N := 2) rfl (cs := #[.int .i64 a0_0, .int .i64 a0_1, .slice A0_2 l0_2.length c0_2, .slice A0_3 l0_3.length c0_3]) (t := 32) ?_; intro gb429 hg w8 hbox hb; have n0_ := Aside0.mk (below_step HB.l hb); have n1_ := Aside0.mk (hbox); have n2_ := Aside0.mk ((by rw [hg]; exact (below_size HB.l) : w.heap.size ≤ gb429)); have n3_ := Aside0.mk ((by rw [hg]; exact (below_size HB.l) : w.heap.size ≤ gb429)); clear HB; revert n0_ n1_ n2_ n3_; intro HB BK429 GW429 GE429; clear hb hbox hg; have hcz9_0 := BK429.cl 0 (.int .i64 a0_0); have hcz9_1 := BK429.cl 1 (.int .i64 a0_1); have hcz9_2 := BK429.cl 2 (.slice A0_2 l0_2.length c0_2); have hcz9_3 := BK429.cl 3 (.slice A0_3 l0_3.length c0_3); have hfz9_0 := BK429.fz 0; have hfz9_1 := BK429.fz 1; have hfz9_2 := BK429.fz 2; have hfz9_3 := BK429.fz 3) | ((with_reducible refine gate_callee (f := 23) rfl ?_); refine goesM_ Try.func23 #[.agg #[.int .i64 a0_0, .int .i64 a0_1, .slice A0_2 l0_2.length c0_2, .slice A0_3 l0_3.length c0_3], .slice A1 l1.length c1] ?_; (with_reducible refine (proof_Clauses.calls k a0_0 a0_1 _ _ l0_2 _ _ l0_3 _ _ l1 t430 t433 t434 _ ?side1 ?side2 ?side3 ?side4 ?side5 ?side6 A3.out).mono ?_); (case side1 => exact HR0_2.c HB.l); (case side2 => exact HC0_2.out); (case side3 => exact HR0_3.c HB.l); (case side4 => exact HC0_3.out); (case side5 => exact HR1.c HB.l); (case side6 => exact HC1.out); rintro e w10 ⟨v431, rfl, ho0, hb⟩; refine ⟨_, rfl, ?_⟩; have n0_ := Aside0.mk (Kd.S_lower ho0 (below_size HB.l)); have n1_ := Aside0.mk (blk_below BK429.b hb); have n2_ := Aside0.mk (below_step HB.l hb); clear BK429 HB; revert n0_ n1_ n2_; intro HO432 BK429 HB; (try clear hb); (try clear hb2); (try clear hk); (try clear hi); (try clear ho0); have hcz11_0 := BK429.cl 0 (.int .i64 a0_0); have hcz11_1 := BK429.cl 1 (.int .i64 a0_1); have hcz11_2 := BK429.cl 2 (.slice A0_2 l0_2.length c0_2); have hcz11_3 := BK429.cl 3 (.slice A0_3 l0_3.length c0_3); have hfz11_0 := BK429.fz 0; have hfz11_1 := BK429.fz 1; have hfz11_2 := BK429.fz 2; have hfz11_3 := BK429.fz 3) | ((with_reducible refine gate_callee (f := 33) rfl ?_); refine goesM_ Try.func33 #[.agg #[.int .i64 a0_0, .int .i64 a0_1, .slice A0_2 l0_2.length c0_2, .slice A0_3 l0_3.length c0_3], .slice A1 l1.length c1] ?_; (with_reducible refine (interleaveref31_Clauses.calls k a0_0 a0_1 _ _ l0_2 _ _ l0_3 _ _ l1 t435 t438 _ ?side1 ?side2 ?side3 ?side4 ?side5 ?side6 A4.out).mono ?_); (case side1 => exact HR0_2.c HB.l); (case side2 => exact HC0_2.out); (case side3 => exact HR0_3.c HB.l); (case side4 => exact HC0_3.out); (case side5 => exact HR1.c HB.l); (case side6 => exact HC1.out); rintro e w12 ⟨v436, rfl, ho0, hb⟩; refine ⟨_, rfl, ?_⟩; have n0_ := Aside0.mk (Kd.S_elder' HO432.s (Kd.S_base ho0) hb); have n1_ := Aside0.mk (Kd.S_lower (Kd.S_new' ho0 (Kd.S_lt HO432.s)) (below_size HB.l)); have n2_ := Aside0.mk (blk_below BK429.b hb); have n3_ := Aside0.mk (below_step HB.l hb); clear HO432 BK429 HB; revert n0_ n1_ n2_ n3_; intro HO432 HO437 BK429 HB; (try clear hb); (try clear hb2); (try clear hk); (try clear hi); (try clear ho0); obtain ⟨Ao13, co13, eo13⟩ := Kd.S_slice HO432.out; subst eo13))
    go_ret
    exact ⟨by first | rfl | (simp [errW_none, errW_some] <;> rfl) | (simp [*, errW_none, errW_some] <;> rfl), HB.l⟩
   ·rw [if_neg c7] at H
    exact absurd H (by simp)
  ·rw [if_neg c6] at H
   exact absurd H (by simp)
 ·rw [if_neg c5] at H
  have c5b0 : decide (0 ≤ t438) = false := decide_eq_false c5
  clear c5
  by_cases c14 : t434 = 0
  ·rw [if_pos c14] at H
   have c14b0 : (t434 == 0) = true := beq_iff_eq.mpr c14
   have c14b1 : (t434 != 0) = false := bne_eq_false_iff_eq.mpr c14
   clear c14
   by_cases c15 : t433 = 0
   ·rw [if_pos c15] at H
    have c15b0 : (t433 == 0) = true := beq_iff_eq.mpr c15
    have c15b1 : (t433 != 0) = false := bne_eq_false_iff_eq.mpr c15
    clear c15
    replace H := Option.bind_eq_some_iff.mp H
    obtain ⟨t439, A160, H⟩ := H
    replace H : (some t439) = some r := H
    have A16 := Aside0.mk A160
    clear A160
    obtain rfl := Option.some.inj H
    go_enter Try.func17, Try.ntmps17
    go_wp2_with (first | ((with_reducible refine gate_dst (N := 2) rfl ?_); (try (refine gate_guard (by rfl) ?_; dsimp only)); refine box_ev (N := 2) rfl (cs := #[.int .i64 a0_0, .int .i64 a0_1, .slice A0_2 l0_2.length c0_2, .slice A0_3 l0_3.length c0_3]) (t := 32) ?_; intro gb429 hg w17 hbox hb; have n0_ := Aside0.mk (below_step HB.l hb); have n1_ := Aside0.mk (hbox); have n2_ := Aside0.mk ((by rw [hg]; exact (below_size HB.l) : w.heap.size ≤ gb429)); have n3_ := Aside0.mk ((by rw [hg]; exact (below_size HB.l) : w.heap.size ≤ gb429)); clear HB; revert n0_ n1_ n2_ n3_; intro HB BK429 GW429 GE429; clear hb hbox hg; have hcz18_0 := BK429.cl 0 (.int .i64 a0_0); have hcz18_1 := BK429.cl 1 (.int .i64 a0_1); have hcz18_2 := BK429.cl 2 (.slice A0_2 l0_2.length c0_2); have hcz18_3 := BK429.cl 3 (.slice A0_3 l0_3.length c0_3); have hfz18_0 := BK429.fz 0; have hfz18_1 := BK429.fz 1; have hfz18_2 := BK429.fz 2; have hfz18_3 := BK429.fz 3) | ((with_reducible refine gate_callee (f := 23) rfl ?_); refine goesM_ Try.func23 #[.agg #[.int .i64 a0_0, .int .i64 a0_1, .slice A0_2 l0_2.length c0_2, .slice A0_3 l0_3.length c0_3], .slice A1 l1.length c1] ?_; (with_reducible refine (proof_Clauses.calls k a0_0 a0_1 _ _ l0_2 _ _ l0_3 _ _ l1 t430 t433 t434 _ ?side1 ?side2 ?side3 ?side4 ?side5 ?side6 A3.out).mono ?_); (case side1 => exact HR0_2.c HB.l); (case side2 => exact HC0_2.out); (case side3 => exact HR0_3.c HB.l); (case side4 => exact HC0_3.out); (case side5 => exact HR1.c HB.l); (case side6 => exact HC1.out); rintro e w19 ⟨v431, rfl, ho0, hb⟩; refine ⟨_, rfl, ?_⟩; have n0_ := Aside0.mk (Kd.S_lower ho0 (below_size HB.l)); have n1_ := Aside0.mk (blk_below BK429.b hb); have n2_ := Aside0.mk (below_step HB.l hb); clear BK429 HB; revert n0_ n1_ n2_; intro HO432 BK429 HB; (try clear hb); (try clear hb2); (try clear hk); (try clear hi); (try clear ho0); have hcz20_0 := BK429.cl 0 (.int .i64 a0_0); have hcz20_1 := BK429.cl 1 (.int .i64 a0_1); have hcz20_2 := BK429.cl 2 (.slice A0_2 l0_2.length c0_2); have hcz20_3 := BK429.cl 3 (.slice A0_3 l0_3.length c0_3); have hfz20_0 := BK429.fz 0; have hfz20_1 := BK429.fz 1; have hfz20_2 := BK429.fz 2; have hfz20_3 := BK429.fz 3) | ((with_reducible refine gate_callee (f := 33) rfl ?_); refine goesM_ Try.func33 #[.agg #[.int .i64 a0_0, .int .i64 a0_1, .slice A0_2 l0_2.length c0_2, .slice A0_3 l0_3.length c0_3], .slice A1 l1.length c1] ?_; (with_reducible refine (interleaveref31_Clauses.calls k a0_0 a0_1 _ _ l0_2 _ _ l0_3 _ _ l1 t435 t438 _ ?side1 ?side2 ?side3 ?side4 ?side5 ?side6 A4.out).mono ?_); (case side1 => exact HR0_2.c HB.l); (case side2 => exact HC0_2.out); (case side3 => exact HR0_3.c HB.l); (case side4 => exact HC0_3.out); (case side5 => exact HR1.c HB.l); (case side6 => exact HC1.out); rintro e w21 ⟨v436, rfl, ho0, hb⟩; refine ⟨_, rfl, ?_⟩; have n0_ := Aside0.mk (Kd.S_elder' HO432.s (Kd.S_base ho0) hb); have n1_ := Aside0.mk (Kd.S_lower (Kd.S_new' ho0 (Kd.S_lt HO432.s)) (below_size HB.l)); have n2_ := Aside0.mk (blk_below BK429.b hb); have n3_ := Aside0.mk (below_step HB.l hb); clear HO432 BK429 HB; revert n0_ n1_ n2_ n3_; intro HO432 HO437 BK429 HB; (try clear hb); (try clear hb2); (try clear hk); (try clear hi); (try clear ho0); obtain ⟨Ao22, co22, eo22⟩ := Kd.S_slice HO432.out; subst eo22; obtain ⟨Ao23, co23, eo23⟩ := Kd.S_slice HO437.out; subst eo23) | (go_at_call 34; (with_reducible refine (interleavelaw33_sameClauses.calls k _ _ t430 _ _ t435 t439 _ ?side1 ?side2 ?side3 ?side4 A16.out).mono ?_); (case side1 => repeat (first | exact (Kd.S_reads' HO432.out).2.2 | (with_reducible refine Kd.C_alloc ?_ _) | (with_reducible refine Kd.C_drewN ?_ _) | (with_reducible refine Kd.C_drew ?_))); (case side2 => exact (Kd.S_reads' HO432.out).2.1); (case side3 => repeat (first | exact (Kd.S_reads' HO437.out).2.2 | (with_reducible refine Kd.C_alloc ?_ _) | (with_reducible refine Kd.C_drewN ?_ _) | (with_reducible refine Kd.C_drew ?_))); (case side4 => exact (Kd.S_reads' HO437.out).2.1); rintro e w' ⟨rfl, ⟨nd, rfl⟩⟩))
    go_ret
    exact ⟨by first | rfl | (simp [errW_none, errW_some] <;> rfl) | (simp [*, errW_none, errW_some] <;> rfl), HB.l⟩
   ·rw [if_neg c15] at H
    exact absurd H (by simp)
  ·rw [if_neg c14] at H
   exact absurd H (by simp)

/-! ### interleavelaw33_ProofAny: function 3 -/
def interleavelaw33_ProofAny.f (k : Nat) (a0_0 : Int) (a0_1 : Int) (a0_2 : Int) (l0_3 : List Int) (l1 : List (S50)) : Option (Bool) := (interleavelaw33_large.f k l1).bind fun t441 => (if t441 = true then ((interleavelaw33_awake.f k).bind fun t442 => (some t442)) else ((interleavescene_Problem_Formula.f k a0_0 a0_1 a0_2 l0_3).bind fun bt443 => ((proof_Check.f k bt443.1 bt443.2.1 bt443.2.2.1 bt443.2.2.2 l1).bind fun bt452 => ((interleaveref31_Check.f k bt443.1 bt443.2.1 bt443.2.2.1 bt443.2.2.2 l1).bind fun bt454 => ((interleavelaw33_clauses.f k bt443.1 bt443.2.1 bt443.2.2.1 bt443.2.2.2 l1).bind fun t456 => (if t456 = true then (if bt452.1 = bt454.1 then (if bt452.2 = bt454.2 then ((interleavelaw33_awake.f k).bind fun t457 => (some t457)) else (none)) else (none)) else (none)))))))
theorem interleavelaw33_ProofAny.mono : ∀ a0 a1 a2 a3 a4 k, LeO (interleavelaw33_ProofAny.f k a0 a1 a2 a3 a4) (interleavelaw33_ProofAny.f (k + 1) a0 a1 a2 a3 a4) := by
 intro a0 a1 a2 a3 a4 k
 unfold interleavelaw33_ProofAny.f
 repeat' first
   | (with_reducible exact interleavelaw33_awake.mono _)
   | (with_reducible exact interleavelaw33_clauses.mono _ _ _ _ _ _)
   | (with_reducible exact interleavelaw33_large.mono _ _)
   | (with_reducible exact interleaveref31_Check.mono _ _ _ _ _ _)
   | (with_reducible exact interleavescene_Problem_Formula.mono _ _ _ _ _)
   | (with_reducible exact proof_Check.mono _ _ _ _ _ _)
   | (with_reducible exact LeO.refl _)
   | (with_reducible exact LeO.none _)
   | (with_reducible refine LeO.ite ?_ ?_)
   | (with_reducible refine LeO.bind ?_ (fun _ => ?_))
   | exact interleavelaw33_awake.mono _
   | exact interleavelaw33_clauses.mono _ _ _ _ _ _
   | exact interleavelaw33_large.mono _ _
   | exact interleaveref31_Check.mono _ _ _ _ _ _
   | exact interleavescene_Problem_Formula.mono _ _ _ _ _
   | exact proof_Check.mono _ _ _ _ _ _
   | exact LeO.none _
   | refine LeO.ite ?_ ?_
   | refine LeO.bind ?_ (fun _ => ?_)
set_option maxHeartbeats 8000000 in
set_option maxRecDepth 100000 in
theorem interleavelaw33_ProofAny.calls (k : Nat) (a0_0 : Int) (a0_1 : Int) (a0_2 : Int) (A0_3 : Option Addr) (c0_3 : Nat) (l0_3 : List Int) (A1 : Option Addr) (c1 : Nat) (l1 : List (S50)) (r : Bool) (w : World) (hr0_3 : Kd.C (Kd.int .u8) w A0_3 l0_3.length l0_3) (hc0_3 : l0_3.length ≤ c0_3) (hr1 : Kd.C k50 w A1 l1.length l1) (hc1 : l1.length ≤ c1) (h : interleavelaw33_ProofAny.f k a0_0 a0_1 a0_2 l0_3 l1 = some r) :
  Calls Try.prog 3 #[.agg #[.int .u8 a0_0, .int .u8 a0_1, .int .u8 a0_2, .slice A0_3 l0_3.length c0_3], .slice A1 l1.length c1] w fun e w' => e = .returned (.bool r) ∧ Below w.heap.size w w' := by
 have hu25 := Try.underlying25
 have hu32 := Try.underlying32
 have HR0_3 := Aside0.mk hr0_3
 have HC0_3 := Aside0.mk hc0_3
 clear hr0_3 hc0_3
 have HR1 := Aside0.mk hr1
 have HC1 := Aside0.mk hc1
 clear hr1 hc1
 have HB := Aside0.mk (Below.refl w.heap.size w)
 have H : ((interleavelaw33_large.f k l1).bind fun t441 => (if t441 = true then ((interleavelaw33_awake.f k).bind fun t442 => (some t442)) else ((interleavescene_Problem_Formula.f k a0_0 a0_1 a0_2 l0_3).bind fun bt443 => ((proof_Check.f k bt443.1 bt443.2.1 bt443.2.2.1 bt443.2.2.2 l1).bind fun bt452 => ((interleaveref31_Check.f k bt443.1 bt443.2.1 bt443.2.2.1 bt443.2.2.2 l1).bind fun bt454 => ((interleavelaw33_clauses.f k bt443.1 bt443.2.1 bt443.2.2.1 bt443.2.2.2 l1).bind fun t456 => (if t456 = true then (if bt452.1 = bt454.1 then (if bt452.2 = bt454.2 then ((interleavelaw33_awake.f k).bind fun t457 => (some t457)) else (none)) else (none)) else (none)))))))) = some r := h
 clear h
 replace H := Option.bind_eq_some_iff.mp H
 obtain ⟨t441, A30, H⟩ := H
 replace H : (if t441 = true then ((interleavelaw33_awake.f k).bind fun t442 => (some t442)) else ((interleavescene_Problem_Formula.f k a0_0 a0_1 a0_2 l0_3).bind fun bt443 => ((proof_Check.f k bt443.1 bt443.2.1 bt443.2.2.1 bt443.2.2.2 l1).bind fun bt452 => ((interleaveref31_Check.f k bt443.1 bt443.2.1 bt443.2.2.1 bt443.2.2.2 l1).bind fun bt454 => ((interleavelaw33_clauses.f k bt443.1 bt443.2.1 bt443.2.2.1 bt443.2.2.2 l1).bind fun t456 => (if t456 = true then (if bt452.1 = bt454.1 then (if bt452.2 = bt454.2 then ((interleavelaw33_awake.f k).bind fun t457 => (some t457)) else (none)) else (none)) else (none))))))) = some r := H
 have A3 := Aside0.mk A30
 clear A30
 by_cases c4 : t441 = true
 ·subst c4
  have H1 : ((interleavelaw33_awake.f k).bind fun t442 => (some t442)) = some r := by rw [if_pos rfl] at H; exact H
  clear H
  have H := H1
  clear H1
  replace H := Option.bind_eq_some_iff.mp H
  obtain ⟨t442, A50, H⟩ := H
  replace H : (some t442) = some r := H
  have A5 := Aside0.mk A50
  clear A50
  obtain rfl := Option.some.inj H
  go_enter Try.func3, Try.ntmps3
  go_wp2_with (first | ((with_reducible refine gate_dst (N := 2) rfl ?_); refine box_ev (N := 2) rfl (cs := #[.int .u8 a0_0, .int .u8 a0_1, .int .u8 a0_2, .slice A0_3 l0_3.length c0_3]) (t := 25) ?_; intro gb440 hg w6 hbox hb; have n0_ := Aside0.mk (below_step HB.l hb); have n1_ := Aside0.mk (hbox); have n2_ := Aside0.mk ((by rw [hg]; exact (below_size HB.l) : w.heap.size ≤ gb440)); have n3_ := Aside0.mk ((by rw [hg]; exact (below_size HB.l) : w.heap.size ≤ gb440)); clear HB; revert n0_ n1_ n2_ n3_; intro HB BK440 GW440 GE440; clear hb hbox hg) | ((with_reducible refine gate_callee (f := 12) rfl ?_); refine goesM_ Try.func12 #[.slice A1 l1.length c1] ?_; (with_reducible refine (interleavelaw33_large.calls k _ _ l1 true _ ?side1 ?side2 A3.out).mono ?_); (case side1 => exact HR1.c HB.l); (case side2 => exact HC1.out); rintro e w' ⟨rfl, ⟨nd, rfl⟩⟩; refine ⟨_, rfl, ?_⟩) | ((with_reducible refine gate_callee (f := 13) rfl ?_); refine goesM_ Try.func13 #[] ?_; (with_reducible refine (interleavelaw33_awake.calls k  t442 _ A5.out).mono ?_); rintro e w7 ⟨rfl, hb⟩; refine ⟨_, rfl, ?_⟩; have n0_ := Aside0.mk (blk_below BK440.b hb); have n1_ := Aside0.mk (below_step HB.l hb); clear BK440 HB; revert n0_ n1_; intro BK440 HB; (try clear hb); (try clear hb2); (try clear hk); (try clear hi)))
  go_ret
  exact ⟨by first | rfl | (simp [errW_none, errW_some] <;> rfl) | (simp [*, errW_none, errW_some] <;> rfl), HB.l⟩
 ·replace c4 := Bool.eq_false_iff.mpr c4
  subst c4
  have H1 : ((interleavescene_Problem_Formula.f k a0_0 a0_1 a0_2 l0_3).bind fun bt443 => ((proof_Check.f k bt443.1 bt443.2.1 bt443.2.2.1 bt443.2.2.2 l1).bind fun bt452 => ((interleaveref31_Check.f k bt443.1 bt443.2.1 bt443.2.2.1 bt443.2.2.2 l1).bind fun bt454 => ((interleavelaw33_clauses.f k bt443.1 bt443.2.1 bt443.2.2.1 bt443.2.2.2 l1).bind fun t456 => (if t456 = true then (if bt452.1 = bt454.1 then (if bt452.2 = bt454.2 then ((interleavelaw33_awake.f k).bind fun t457 => (some t457)) else (none)) else (none)) else (none)))))) = some r := by rw [if_neg (show ¬ (false = true) by decide)] at H; exact H
  clear H
  have H := H1
  clear H1
  replace H := Option.bind_eq_some_iff.mp H
  obtain ⟨⟨t443, t444, t445, t448⟩, A80, H⟩ := H
  replace H : ((proof_Check.f k t443 t444 t445 t448 l1).bind fun bt452 => ((interleaveref31_Check.f k t443 t444 t445 t448 l1).bind fun bt454 => ((interleavelaw33_clauses.f k t443 t444 t445 t448 l1).bind fun t456 => (if t456 = true then (if bt452.1 = bt454.1 then (if bt452.2 = bt454.2 then ((interleavelaw33_awake.f k).bind fun t457 => (some t457)) else (none)) else (none)) else (none))))) = some r := H
  have A8 := Aside0.mk A80
  clear A80
  replace H := Option.bind_eq_some_iff.mp H
  obtain ⟨⟨t452, t453⟩, A90, H⟩ := H
  replace H : ((interleaveref31_Check.f k t443 t444 t445 t448 l1).bind fun bt454 => ((interleavelaw33_clauses.f k t443 t444 t445 t448 l1).bind fun t456 => (if t456 = true then (if t452 = bt454.1 then (if t453 = bt454.2 then ((interleavelaw33_awake.f k).bind fun t457 => (some t457)) else (none)) else (none)) else (none)))) = some r := H
  have A9 := Aside0.mk A90
  clear A90
  replace H := Option.bind_eq_some_iff.mp H
  obtain ⟨⟨t454, t455⟩, A100, H⟩ := H
  replace H : ((interleavelaw33_clauses.f k t443 t444 t445 t448 l1).bind fun t456 => (if t456 = true then (if t452 = t454 then (if t453 = t455 then ((interleavelaw33_awake.f k).bind fun t457 => (some t457)) else (none)) else (none)) else (none))) = some r := H
  have A10 := Aside0.mk A100
  clear A100
  replace H := Option.bind_eq_some_iff.mp H
  obtain ⟨t456, A110, H⟩ := H
  replace H : (if t456 = true then (if t452 = t454 then (if t453 = t455 then ((interleavelaw33_awake.f k).bind fun t457 => (some t457)) else (none)) else (none)) else (none)) = some r := H
  have A11 := Aside0.mk A110
  clear A110
  by_cases c12 : t456 = true
  ·subst c12
   have H1 : (if t452 = t454 then (if t453 = t455 then ((interleavelaw33_awake.f k).bind fun t457 => (some t457)) else (none)) else (none)) = some r := by rw [if_pos rfl] at H; exact H
   clear H
   have H := H1
   clear H1
   by_cases c13 : t452 = t454
   ·rw [if_pos c13] at H
    have c13b0 : (t452 == t454) = true := beq_iff_eq.mpr c13
    have c13b1 : (t452 != t454) = false := bne_eq_false_iff_eq.mpr c13
    clear c13
    by_cases c14 : t453 = t455
    ·rw [if_pos c14] at H
     have c14b0 : (t453 == t455) = true := beq_iff_eq.mpr c14
     have c14b1 : (t453 != t455) = false := bne_eq_false_iff_eq.mpr c14
     clear c14
     replace H := Option.bind_eq_some_iff.mp H
     obtain ⟨t457, A150, H⟩ := H
     replace H : (some t457) = some r := H
     have A15 := Aside0.mk A150
     clear A150
     obtain rfl := Option.some.inj H
     go_enter Try.func3, Try.ntmps3
     go_wp2_with (first | ((with_reducible refine gate_dst (N := 2) rfl ?_); refine box_ev (N := 2) rfl (cs := #[.int .u8 a0_0, .int .u8 a0_1, .int .u8 a0_2, .slice A0_3 l0_3.length c0_3]) (t := 25) ?_; intro gb440 hg w16 hbox hb; have n0_ := Aside0.mk (below_step HB.l hb); have n1_ := Aside0.mk (hbox); have n2_ := Aside0.mk ((by rw [hg]; exact (below_size HB.l) : w.heap.size ≤ gb440)); have n3_ := Aside0.mk ((by rw [hg]; exact (below_size HB.l) : w.heap.size ≤ gb440)); clear HB; revert n0_ n1_ n2_ n3_; intro HB BK440 GW440 GE440; clear hb hbox hg) | ((with_reducible refine gate_callee (f := 12) rfl ?_); refine goesM_ Try.func12 #[.slice A1 l1.length c1] ?_; (with_reducible refine (interleavelaw33_large.calls k _ _ l1 false _ ?side1 ?side2 A3.out).mono ?_); (case side1 => exact HR1.c HB.l); (case side2 => exact HC1.out); rintro e w' ⟨rfl, ⟨nd, rfl⟩⟩; refine ⟨_, rfl, ?_⟩; (try (rw [drewN_self w16]; generalize hq_ : World.drewN w16 _ = w16; have n0_ : Aside0 (w16.heap[gb440]? = some (.cells #[.int .u8 a0_0, .int .u8 a0_1, .int .u8 a0_2, .slice A0_3 l0_3.length c0_3] 25 (0, 0))) := ⟨by rw [← hq_]; exact BK440.b⟩; have n1_ : Aside0 (Below w.heap.size w w16) := ⟨by rw [← hq_]; exact HB.l⟩; clear BK440 HB hq_; have BK440 := n0_; have HB := n1_; clear n0_ n1_)); have hcz17_0 := BK440.cl 0 (.int .u8 a0_0); have hcz17_1 := BK440.cl 1 (.int .u8 a0_1); have hcz17_2 := BK440.cl 2 (.int .u8 a0_2); have hcz17_3 := BK440.cl 3 (.slice A0_3 l0_3.length c0_3); have hfz17_0 := BK440.fz 0; have hfz17_1 := BK440.fz 1; have hfz17_2 := BK440.fz 2; have hfz17_3 := BK440.fz 3) | ((with_reducible refine gate_callee (f := 14) rfl ?_); refine goesM_ Try.func14 #[.agg #[.int .u8 a0_0, .int .u8 a0_1, .int .u8 a0_2, .slice A0_3 l0_3.length c0_3]] ?_; (with_reducible refine (interleavescene_Problem_Formula.calls k a0_0 a0_1 a0_2 _ _ l0_3 t443 t444 t445 t448 _ ?side1 ?side2 A8.out).mono ?_); (case side1 => exact HR0_3.c HB.l); (case side2 => exact HC0_3.out); rintro e w18 ⟨v446, v449, rfl, ho0, ho1, hb⟩; refine ⟨_, rfl, ?_⟩; have n0_ := Aside0.mk (Kd.R_lower ho0 (below_size HB.l)); have n1_ := Aside0.mk (Kd.S_lower ho1 (below_size HB.l)); have n2_ := Aside0.mk (blk_below BK440.b hb); have n3_ := Aside0.mk (below_step HB.l hb); clear BK440 HB; revert n0_ n1_ n2_ n3_; intro HO447 HO450 BK440 HB; (try clear hb); (try clear hb2); (try clear hk); (try clear hi); (try clear ho0); (try clear ho1)) | ((with_reducible refine gate_dst (N := 5) rfl ?_); refine box_ev (N := 5) rfl (cs := #[.int .i64 0, .int .i64 0, .slice none 0 0, .slice none 0 0]) (t := 32) ?_; intro gb451 hg w19z hboxz hbz; have HGz := Aside0.mk (And.intro hg (And.intro hboxz hbz)); clear hg hboxz hbz) | ((with_reducible refine gate_store (t := 32) (p := 5) (v := _) rfl ?_); obtain ⟨Ao22, co22, eo22⟩ := Kd.R_slice HO447.out; subst eo22; obtain ⟨Ao23, co23, eo23⟩ := Kd.S_slice HO450.out; subst eo23; have hg := HGz.out.1; refine store_box rfl rfl rfl hg HGz.out.2.1 HGz.out.2.2 rfl (cs := #[.int .i64 t443, .int .i64 t444, .slice Ao22 t445.length co22, .slice Ao23 t448.length co23]) ?hx (by kernel_rfl) rfl rfl ?_; (case hx => first | rfl | (go_simp; rfl)); intro w19 hbox hb; clear HGz; have n0_ := Aside0.mk (Kd.R_below HO447.r hb); have n1_ := Aside0.mk (Kd.S_below HO450.s hb); have n2_ := Aside0.mk (blk_below BK440.b hb); have n3_ := Aside0.mk (below_step HB.l hb); have n4_ := Aside0.mk (hbox); have n5_ := Aside0.mk ((by rw [hg]; exact (below_size HB.l) : w.heap.size ≤ gb451)); have n6_ := Aside0.mk ((by rw [hg]; exact (below_size HB.l) : w.heap.size ≤ gb451)); have n7_ := Aside0.mk ((by rw [hg]; exact Nat.ne_of_lt (blk_lt BK440.b) : gb440 ≠ gb451)); have n8_ := Aside0.mk ((by rw [hg]; exact Nat.ne_of_gt (blk_lt BK440.b) : gb451 ≠ gb440)); clear HO447 HO450 BK440 HB; revert n0_ n1_ n2_ n3_ n4_ n5_ n6_ n7_ n8_; intro HO447 HO450 BK440 HB BK451 GW451 GE451 NB440_451 NB451_440; clear hb hbox hg; have hnb20 := NB451_440.out; have hnc20 := NB440_451.out; have hcz21_0 := BK451.cl 0 (.int .i64 t443); have hcz21_1 := BK451.cl 1 (.int .i64 t444); have hcz21_2 := BK451.cl 2 (.slice Ao22 t445.length co22); have hcz21_3 := BK451.cl 3 (.slice Ao23 t448.length co23); have hfz21_0 := BK451.fz 0; have hfz21_1 := BK451.fz 1; have hfz21_2 := BK451.fz 2; have hfz21_3 := BK451.fz 3) | ((with_reducible refine gate_callee (f := 15) rfl ?_); refine goesM_ Try.func15 #[.agg #[.int .i64 t443, .int .i64 t444, .slice Ao22 t445.length co22, .slice Ao23 t448.length co23], .slice A1 l1.length c1] ?_; (with_reducible refine (proof_Check.calls k t443 t444 _ _ t445 _ _ t448 _ _ l1 t452 t453 _ ?side1 ?side2 ?side3 ?side4 ?side5 ?side6 A9.out).mono ?_); (case side1 => refine (Kd.R_reads' (e := 75) (base := w.heap.size) (ok := fun k_ => True) (n := t445.length) (c := co22) ?_).2.2; exact (by (with_reducible repeat (first | apply Kd.R_alloc | apply Kd.R_drewN | apply Kd.R_drew)); exact (HO447.out))); (case side2 => exact (Kd.R_reads' HO447.out).2.1); (case side3 => refine (Kd.S_reads' (e := 43) (base := w.heap.size) (ok := fun k_ => True) (n := t448.length) (c := co23) ?_).2.2; exact (by (with_reducible repeat (first | apply Kd.S_alloc | apply Kd.S_drewN | apply Kd.S_drew)); exact (HO450.out))); (case side4 => exact (Kd.S_reads' HO450.out).2.1); (case side5 => exact Kd.C_below HR1.out HB.l); (case side6 => exact HC1.out); rintro e w24 ⟨rfl, hb⟩; refine ⟨_, rfl, ?_⟩; have n0_ := Aside0.mk (Kd.R_below (by (with_reducible repeat (first | apply Kd.R_alloc | apply Kd.R_drewN | apply Kd.R_drew)); exact (HO447.out)) hb); have n1_ := Aside0.mk (Kd.S_below (by (with_reducible repeat (first | apply Kd.S_alloc | apply Kd.S_drewN | apply Kd.S_drew)); exact (HO450.out)) hb); have n2_ := Aside0.mk (blk_below BK440.b hb); have n3_ := Aside0.mk (blk_below BK451.b hb); have n4_ := Aside0.mk (below_step HB.l hb); clear HO447 HO450 BK440 BK451 HB; revert n0_ n1_ n2_ n3_ n4_; intro HO447 HO450 BK440 BK451 HB; (try clear hb); (try clear hb2); (try clear hk); (try clear hi); have hcz25_0 := BK451.cl 0 (.int .i64 t443); have hcz25_1 := BK451.cl 1 (.int .i64 t444); have hcz25_2 := BK451.cl 2 (.slice Ao22 t445.length co22); have hcz25_3 := BK451.cl 3 (.slice Ao23 t448.length co23); have hfz25_0 := BK451.fz 0; have hfz25_1 := BK451.fz 1; have hfz25_2 := BK451.fz 2; have hfz25_3 := BK451.fz 3) | ((with_reducible refine gate_callee (f := 16) rfl ?_); refine goesM_ Try.func16 #[.agg #[.int .i64 t443, .int .i64 t444, .slice Ao22 t445.length co22, .slice Ao23 t448.length co23], .slice A1 l1.length c1] ?_; (with_reducible refine (interleaveref31_Check.calls k t443 t444 _ _ t445 _ _ t448 _ _ l1 t454 t455 _ ?side1 ?side2 ?side3 ?side4 ?side5 ?side6 A10.out).mono ?_); (case side1 => repeat (first | exact (Kd.R_reads' HO447.out).2.2 | (with_reducible refine Kd.C_alloc ?_ _) | (with_reducible refine Kd.C_drewN ?_ _) | (with_reducible refine Kd.C_drew ?_))); (case side2 => exact (Kd.R_reads' HO447.out).2.1); (case side3 => repeat (first | exact (Kd.S_reads' HO450.out).2.2 | (with_reducible refine Kd.C_alloc ?_ _) | (with_reducible refine Kd.C_drewN ?_ _) | (with_reducible refine Kd.C_drew ?_))); (case side4 => exact (Kd.S_reads' HO450.out).2.1); (case side5 => exact HR1.c HB.l); (case side6 => exact HC1.out); rintro e w26 ⟨rfl, hb⟩; refine ⟨_, rfl, ?_⟩; have n0_ := Aside0.mk (Kd.R_below HO447.r hb); have n1_ := Aside0.mk (Kd.S_below HO450.s hb); have n2_ := Aside0.mk (blk_below BK440.b hb); have n3_ := Aside0.mk (blk_below BK451.b hb); have n4_ := Aside0.mk (below_step HB.l hb); clear HO447 HO450 BK440 BK451 HB; revert n0_ n1_ n2_ n3_ n4_; intro HO447 HO450 BK440 BK451 HB; (try clear hb); (try clear hb2); (try clear hk); (try clear hi); have hcz27_0 := BK451.cl 0 (.int .i64 t443); have hcz27_1 := BK451.cl 1 (.int .i64 t444); have hcz27_2 := BK451.cl 2 (.slice Ao22 t445.length co22); have hcz27_3 := BK451.cl 3 (.slice Ao23 t448.length co23); have hfz27_0 := BK451.fz 0; have hfz27_1 := BK451.fz 1; have hfz27_2 := BK451.fz 2; have hfz27_3 := BK451.fz 3) | ((with_reducible refine gate_callee (f := 17) rfl ?_); refine goesM_ Try.func17 #[.agg #[.int .i64 t443, .int .i64 t444, .slice Ao22 t445.length co22, .slice Ao23 t448.length co23], .slice A1 l1.length c1] ?_; (with_reducible refine (interleavelaw33_clauses.calls k t443 t444 _ _ t445 _ _ t448 _ _ l1 true _ ?side1 ?side2 ?side3 ?side4 ?side5 ?side6 A11.out).mono ?_); (case side1 => repeat (first | exact (Kd.R_reads' HO447.out).2.2 | (with_reducible refine Kd.C_alloc ?_ _) | (with_reducible refine Kd.C_drewN ?_ _) | (with_reducible refine Kd.C_drew ?_))); (case side2 => exact (Kd.R_reads' HO447.out).2.1); (case side3 => repeat (first | exact (Kd.S_reads' HO450.out).2.2 | (with_reducible refine Kd.C_alloc ?_ _) | (with_reducible refine Kd.C_drewN ?_ _) | (with_reducible refine Kd.C_drew ?_))); (case side4 => exact (Kd.S_reads' HO450.out).2.1); (case side5 => exact HR1.c HB.l); (case side6 => exact HC1.out); rintro e w28 ⟨rfl, hb⟩; refine ⟨_, rfl, ?_⟩; have n0_ := Aside0.mk (Kd.R_below HO447.r hb); have n1_ := Aside0.mk (Kd.S_below HO450.s hb); have n2_ := Aside0.mk (blk_below BK440.b hb); have n3_ := Aside0.mk (blk_below BK451.b hb); have n4_ := Aside0.mk (below_step HB.l hb); clear HO447 HO450 BK440 BK451 HB; revert n0_ n1_ n2_ n3_ n4_; intro HO447 HO450 BK440 BK451 HB; (try clear hb); (try clear hb2); (try clear hk); (try clear hi)) | (go_at_call 13; (with_reducible refine (interleavelaw33_awake.calls k  t457 _ A15.out).mono ?_); rintro e w29 ⟨rfl, hb⟩; have n0_ := Aside0.mk (Kd.R_below HO447.r hb); have n1_ := Aside0.mk (Kd.S_below HO450.s hb); have n2_ := Aside0.mk (blk_below BK440.b hb); have n3_ := Aside0.mk (blk_below BK451.b hb); have n4_ := Aside0.mk (below_step HB.l hb); clear HO447 HO450 BK440 BK451 HB; revert n0_ n1_ n2_ n3_ n4_; intro HO447 HO450 BK440 BK451 HB; (try clear hb); (try clear hb2); (try clear hk); (try clear hi)))
     go_ret
     exact ⟨by first | rfl | (simp [errW_none, errW_some] <;> rfl) | (simp [*, errW_none, errW_some] <;> rfl), HB.l⟩
    ·rw [if_neg c14] at H
     exact absurd H (by simp)
   ·rw [if_neg c13] at H
    exact absurd H (by simp)
  ·replace c12 := Bool.eq_false_iff.mpr c12
   subst c12
   have H1 : (none) = some r := by rw [if_neg (show ¬ (false = true) by decide)] at H; exact H
   clear H
   have H := H1
   clear H1
   exact absurd H (by simp)

/-! ### interleavescene_has: function 46 -/
def interleavescene_has.l0 : Nat → Int → List Int → Int → Int → Option (Bool)
 | 0, _, _, _, _ => none
 | k + 1, x1, x7, x8, x9 => if x9 < x8 then (if 0 ≤ x9 then (if x9 < (x7.length : Int) then (if x1 = (rd x7 x9) then (some true) else (interleavescene_has.l0 k x1 x7 x8 (wrap64 (x9 + 1)))) else (none)) else (none)) else (some false)
def interleavescene_has.f (k : Nat) (l0 : List Int) (a1 : Int) : Option (Bool) := interleavescene_has.l0 k a1 l0 (l0.length : Int) 0
theorem interleavescene_has.mono_l : ∀ k, (∀ y0 y1 y2 y3, LeO (interleavescene_has.l0 k y0 y1 y2 y3) (interleavescene_has.l0 (k + 1) y0 y1 y2 y3))
 | 0 => fun _ _ _ _ r h => by simp [interleavescene_has.l0] at h
 | k + 1 => by
  have ih0 := interleavescene_has.mono_l k
  ·intro y0 y1 y2 y3
   unfold interleavescene_has.l0
   repeat' first
   | (with_reducible exact ih0 _ _ _ _)
   | (with_reducible exact LeO.refl _)
   | (with_reducible exact LeO.none _)
   | (with_reducible refine LeO.ite ?_ ?_)
   | (with_reducible refine LeO.bind ?_ (fun _ => ?_))
   | exact ih0 _ _ _ _
   | exact LeO.none _
   | refine LeO.ite ?_ ?_
   | refine LeO.bind ?_ (fun _ => ?_)
theorem interleavescene_has.mono : ∀ a0 a1 k, LeO (interleavescene_has.f k a0 a1) (interleavescene_has.f (k + 1) a0 a1) := by
 intro a0 a1 k
 have ih0 := interleavescene_has.mono_l k
 unfold interleavescene_has.f
 repeat' first
   | (with_reducible exact ih0 _ _ _ _)
   | (with_reducible exact LeO.refl _)
   | (with_reducible exact LeO.none _)
   | (with_reducible refine LeO.ite ?_ ?_)
   | (with_reducible refine LeO.bind ?_ (fun _ => ?_))
   | exact ih0 _ _ _ _
   | exact LeO.none _
   | refine LeO.ite ?_ ?_
   | refine LeO.bind ?_ (fun _ => ?_)
set_option maxHeartbeats 8000000 in
set_option maxRecDepth 100000 in
theorem interleavescene_has.calls (k : Nat) (A0 : Option Addr) (c0 : Nat) (l0 : List Int) (a1 : Int) (r : Bool) (w : World) (hr0 : Kd.C (Kd.int .i64) w A0 l0.length l0) (hc0 : l0.length ≤ c0) (h : interleavescene_has.f k l0 a1 = some r) :
  Calls Try.prog 46 #[.slice A0 l0.length c0, .int .i64 a1] w fun e w' => e = .returned (.bool r) ∧ Drawn0 w w' := by
 have HR0 := Aside0.mk hr0
 have HC0 := Aside0.mk hc0
 clear hr0 hc0
 have H : (interleavescene_has.l0 k a1 l0 (l0.length : Int) 0) = some r := h
 clear h
 have H' := Aside0.mk H
 clear H
 go_enter Try.func46, Try.ntmps46
 go_wp2
 go_loopg [9] k (fun kq v9 w' => ∃ (x9_1 : Int), v9 = .int .i64 x9_1 ∧ Aside0 (interleavescene_has.l0 kq a1 l0 (l0.length : Int) x9_1 = some r) ∧ Aside0 (kq ≤ k) ∧ Drawn0 w w')
 case atStart => exact ⟨(0), (by first | rfl | (simp; done) | (simp [*]; done)), H', ⟨Nat.le_refl _⟩, by repeat (first | exact Drawn0.refl _ | apply Drawn0.step)⟩
 case round => as_aux_lemma =>
  clear H'
  try clear p2
  obtain ⟨x9_1, rfl, HA, HK1, ⟨m1, rfl⟩⟩ := hrel
  cases gk with
  | zero => exact absurd HA.out (by simp [interleavescene_has.l0])
  | succ k1 =>
   have H := HA.out
   clear HA
   simp only [interleavescene_has.l0] at H
   by_cases c3 : x9_1 < (l0.length : Int)
   ·rw [if_pos c3] at H
    have c3b0 : decide (x9_1 < (l0.length : Int)) = true := decide_eq_true c3
    clear c3
    by_cases c4 : 0 ≤ x9_1
    ·rw [if_pos c4] at H
     have c4b0 : decide (0 ≤ x9_1) = true := decide_eq_true c4
     clear c4
     by_cases c5 : x9_1 < (l0.length : Int)
     ·rw [if_pos c5] at H
      have c5b0 : decide (x9_1 < (l0.length : Int)) = true := decide_eq_true c5
      clear c5
      by_cases c6 : a1 = (rd l0 x9_1)
      ·rw [if_pos c6] at H
       have c6b0 : (a1 == (rd l0 x9_1)) = true := beq_iff_eq.mpr c6
       have c6b1 : (a1 != (rd l0 x9_1)) = false := bne_eq_false_iff_eq.mpr c6
       clear c6
       obtain rfl := Option.some.inj H
       have p458 : 0 ≤ (x9_1 : Int) := of_decide_eq_true (by first | (with_reducible assumption) | assumption)
       have q458 : x9_1 < (l0.length : Int) := of_decide_eq_true (by first | (with_reducible assumption) | assumption)
       obtain ⟨ad458, e458, hx458_0⟩ := Kd.at_int HR0.out x9_1 p458 q458
       cases e458
       replace p458 := eq_true p458
       replace q458 := eq_true q458
       go_wp2
       go_ret
       exact ⟨by first | rfl | (simp; done) | (simp [*]; done), by repeat (first | exact Drawn0.refl _ | apply Drawn0.step)⟩
      ·rw [if_neg c6] at H
       have c6b0 : (a1 == (rd l0 x9_1)) = false := beq_eq_false_iff_ne.mpr c6
       have c6b1 : (a1 != (rd l0 x9_1)) = true := bne_iff_ne.mpr c6
       have H' := Aside0.mk H
       clear H
       have p458 : 0 ≤ (x9_1 : Int) := of_decide_eq_true (by first | (with_reducible assumption) | assumption)
       have q458 : x9_1 < (l0.length : Int) := of_decide_eq_true (by first | (with_reducible assumption) | assumption)
       obtain ⟨ad458, e458, hx458_0⟩ := Kd.at_int HR0.out x9_1 p458 q458
       cases e458
       replace p458 := eq_true p458
       replace q458 := eq_true q458
       go_wp2
       go_roundg k1
       case measure => have := HK1.out; omega
       case rel => exact ⟨(wrap64 (x9_1 + 1)), (by first | rfl | (simp; done) | (simp [*]; done)), H', ⟨by have := HK1.out; omega⟩, by repeat (first | exact Drawn0.refl _ | apply Drawn0.step)⟩
     ·rw [if_neg c5] at H
      exact absurd H (by simp)
    ·rw [if_neg c4] at H
     exact absurd H (by simp)
   ·rw [if_neg c3] at H
    have c3b0 : decide (x9_1 < (l0.length : Int)) = false := decide_eq_false c3
    clear c3
    obtain rfl := Option.some.inj H
    go_wp2
    go_ret
    exact ⟨by first | rfl | (simp; done) | (simp [*]; done), by repeat (first | exact Drawn0.refl _ | apply Drawn0.step)⟩

end Go.Proofs.Ytppbnjmhkifdaaa.X
