-- Written by this session's own program (wip/tools/xprint.py).
import Derived.Test.YtppbnjmhkifdaaaX0
import Derived.Test.YtppbnjmhkifdaaaSx
import Derived.Test.YtppbnjmhkifdaaaX8
import Derived.Test.YtppbnjmhkifdaaaX9
import Derived.Test.YtppbnjmhkifdaaaX10
namespace Go.Proofs.Ytppbnjmhkifdaaa.X
open Go.RowKit Go.Proofs.YtppbnjmhkifdaaaW.PrintWords Go.Proofs.YtppbnjmhkifdaaaW.PrintLast Go.Proofs.YtppbnjmhkifdaaaW.PrintMore
attribute [local go_sem] max2_int min2_int max_two min_two max_three min_three max_four min_four   -- for this text's walks alone
set_option linter.unusedVariables false
set_option linter.unusedSimpArgs false

/-! ### interleaveref31_Clauses: function 33 -/
mutual
def interleaveref31_Clauses.l0 : Nat → List (List Int) → List (S50) → Int → Int → Int → Int → List (S75) → List (List Int) → Option ((List (List Int)) × Int)
 | 0, _, _, _, _, _, _, _, _ => none
 | k + 1, x6, x11, x12, x13, x388000, x388001, x388002, x388003 => if x13 < x12 then (if 0 ≤ x13 then (if x13 < (x11.length : Int) then (if ((rd_T50 x11 x13).f0) = 1 then (if ((rd_T50 x11 x13).f1) ≥ 0 then (interleaveref31_Clauses.j1 k x6 x13 ([] : List Int) false x11 x12 x13 (decide (((rd_T50 x11 x13).f1) < (x388003.length : Int))) x388000 x388001 x388002 x388003 ((rd_T50 x11 x13).f0) ((rd_T50 x11 x13).f1) ((rd_T50 x11 x13).f2) ((rd_T50 x11 x13).f3) ((rd_T50 x11 x13).f4) ((rd_T50 x11 x13).f5)) else (interleaveref31_Clauses.j1 k x6 x13 ([] : List Int) false x11 x12 x13 false x388000 x388001 x388002 x388003 ((rd_T50 x11 x13).f0) ((rd_T50 x11 x13).f1) ((rd_T50 x11 x13).f2) ((rd_T50 x11 x13).f3) ((rd_T50 x11 x13).f4) ((rd_T50 x11 x13).f5))) else (if ((rd_T50 x11 x13).f0) = 2 then ((interleaveref31_Cyclic.f k x388000 x388001 x388002 x388003 ((rd_T50 x11 x13).f2)).bind fun bt401 => (if bt401.2 = true then (if x6.length < 5864062014805 then (interleaveref31_Clauses.l0 k (x6 ++ [bt401.1]) x11 x12 (wrap64 (x13 + 1)) x388000 x388001 x388002 x388003) else (none)) else (some (([] : List (List Int)), x13)))) else (if ((rd_T50 x11 x13).f0) = 3 then (if ((rd_T50 x11 x13).f3) ≥ 0 then (if ((rd_T50 x11 x13).f3) < x13 then (if ((rd_T50 x11 x13).f4) ≥ 0 then (interleaveref31_Clauses.j2 k x6 x13 ([] : List Int) false x11 x12 x13 (decide (((rd_T50 x11 x13).f4) < x13)) x388000 x388001 x388002 x388003 ((rd_T50 x11 x13).f0) ((rd_T50 x11 x13).f1) ((rd_T50 x11 x13).f2) ((rd_T50 x11 x13).f3) ((rd_T50 x11 x13).f4) ((rd_T50 x11 x13).f5)) else (interleaveref31_Clauses.j2 k x6 x13 ([] : List Int) false x11 x12 x13 false x388000 x388001 x388002 x388003 ((rd_T50 x11 x13).f0) ((rd_T50 x11 x13).f1) ((rd_T50 x11 x13).f2) ((rd_T50 x11 x13).f3) ((rd_T50 x11 x13).f4) ((rd_T50 x11 x13).f5))) else (interleaveref31_Clauses.j2 k x6 x13 ([] : List Int) false x11 x12 x13 false x388000 x388001 x388002 x388003 ((rd_T50 x11 x13).f0) ((rd_T50 x11 x13).f1) ((rd_T50 x11 x13).f2) ((rd_T50 x11 x13).f3) ((rd_T50 x11 x13).f4) ((rd_T50 x11 x13).f5))) else (interleaveref31_Clauses.j2 k x6 x13 ([] : List Int) false x11 x12 x13 false x388000 x388001 x388002 x388003 ((rd_T50 x11 x13).f0) ((rd_T50 x11 x13).f1) ((rd_T50 x11 x13).f2) ((rd_T50 x11 x13).f3) ((rd_T50 x11 x13).f4) ((rd_T50 x11 x13).f5))) else (some (([] : List (List Int)), x13))))) else (none)) else (none)) else (some (x6, (-1)))
def interleaveref31_Clauses.j1 : Nat → List (List Int) → Int → List Int → Bool → List (S50) → Int → Int → Bool → Int → Int → List (S75) → List (List Int) → Int → Int → List Int → Int → Int → Int → Option ((List (List Int)) × Int)
 | 0, _, _, _, _, _, _, _, _, _, _, _, _, _, _, _, _, _, _ => none
 | k + 1, x6, x7, x9, x10, x11, x12, x13, x32, x388000, x388001, x388002, x388003, x390000, x390001, x390002, x390003, x390004, x390005 => if x32 = true then (if 0 ≤ x390001 then (if x390001 < (x388003.length : Int) then ((interleaveref31_Normal.f k (rd_L1 x388003 x390001)).bind fun bt391 => (if bt391.2 = true then (if x6.length < 5864062014805 then (interleaveref31_Clauses.l0 k (x6 ++ [bt391.1]) x11 x12 (wrap64 (x13 + 1)) x388000 x388001 x388002 x388003) else (none)) else (some (([] : List (List Int)), x7)))) else (none)) else (none)) else (if x10 = true then (if x6.length < 5864062014805 then (interleaveref31_Clauses.l0 k (x6 ++ [x9]) x11 x12 (wrap64 (x13 + 1)) x388000 x388001 x388002 x388003) else (none)) else (some (([] : List (List Int)), x7)))
def interleaveref31_Clauses.j2 : Nat → List (List Int) → Int → List Int → Bool → List (S50) → Int → Int → Bool → Int → Int → List (S75) → List (List Int) → Int → Int → List Int → Int → Int → Int → Option ((List (List Int)) × Int)
 | 0, _, _, _, _, _, _, _, _, _, _, _, _, _, _, _, _, _, _ => none
 | k + 1, x6, x7, x9, x10, x11, x12, x13, x73, x388000, x388001, x388002, x388003, x390000, x390001, x390002, x390003, x390004, x390005 => if x73 = true then (if 0 ≤ x390003 then (if x390003 < (x6.length : Int) then (if 0 ≤ x390004 then (if x390004 < (x6.length : Int) then ((interleaveref31_Resolvent.f k (rd_L1 x6 x390003) (rd_L1 x6 x390004) x390005).bind fun bt410 => (if bt410.2 = true then (if x6.length < 5864062014805 then (interleaveref31_Clauses.l0 k (x6 ++ [bt410.1]) x11 x12 (wrap64 (x13 + 1)) x388000 x388001 x388002 x388003) else (none)) else (some (([] : List (List Int)), x7)))) else (none)) else (none)) else (none)) else (none)) else (if x10 = true then (if x6.length < 5864062014805 then (interleaveref31_Clauses.l0 k (x6 ++ [x9]) x11 x12 (wrap64 (x13 + 1)) x388000 x388001 x388002 x388003) else (none)) else (some (([] : List (List Int)), x7)))
end
def interleaveref31_Clauses.f (k : Nat) (a0_0 : Int) (a0_1 : Int) (l0_2 : List (S75)) (l0_3 : List (List Int)) (l1 : List (S50)) : Option ((List (List Int)) × Int) := interleaveref31_Clauses.l0 k ([] : List (List Int)) l1 (l1.length : Int) 0 a0_0 a0_1 l0_2 l0_3
theorem interleaveref31_Clauses.mono_l : ∀ k, (∀ y0 y1 y2 y3 y4 y5 y6 y7, LeO (interleaveref31_Clauses.l0 k y0 y1 y2 y3 y4 y5 y6 y7) (interleaveref31_Clauses.l0 (k + 1) y0 y1 y2 y3 y4 y5 y6 y7)) ∧ (∀ y0 y1 y2 y3 y4 y5 y6 y7 y8 y9 y10 y11 y12 y13 y14 y15 y16 y17, LeO (interleaveref31_Clauses.j1 k y0 y1 y2 y3 y4 y5 y6 y7 y8 y9 y10 y11 y12 y13 y14 y15 y16 y17) (interleaveref31_Clauses.j1 (k + 1) y0 y1 y2 y3 y4 y5 y6 y7 y8 y9 y10 y11 y12 y13 y14 y15 y16 y17)) ∧ (∀ y0 y1 y2 y3 y4 y5 y6 y7 y8 y9 y10 y11 y12 y13 y14 y15 y16 y17, LeO (interleaveref31_Clauses.j2 k y0 y1 y2 y3 y4 y5 y6 y7 y8 y9 y10 y11 y12 y13 y14 y15 y16 y17) (interleaveref31_Clauses.j2 (k + 1) y0 y1 y2 y3 y4 y5 y6 y7 y8 y9 y10 y11 y12 y13 y14 y15 y16 y17))
 | 0 => ⟨fun _ _ _ _ _ _ _ _ r h => by simp [interleaveref31_Clauses.l0] at h, fun _ _ _ _ _ _ _ _ _ _ _ _ _ _ _ _ _ _ r h => by simp [interleaveref31_Clauses.j1] at h, fun _ _ _ _ _ _ _ _ _ _ _ _ _ _ _ _ _ _ r h => by simp [interleaveref31_Clauses.j2] at h⟩
 | k + 1 => by
  obtain ⟨ih0, ih1, ih2⟩ := interleaveref31_Clauses.mono_l k
  refine ⟨?_, ?_, ?_⟩
  ·intro y0 y1 y2 y3 y4 y5 y6 y7
   unfold interleaveref31_Clauses.l0
   repeat' first
   | (with_reducible exact ih0 _ _ _ _ _ _ _ _)
   | (with_reducible exact ih1 _ _ _ _ _ _ _ _ _ _ _ _ _ _ _ _ _ _)
   | (with_reducible exact ih2 _ _ _ _ _ _ _ _ _ _ _ _ _ _ _ _ _ _)
   | (with_reducible exact interleaveref31_Cyclic.mono _ _ _ _ _ _)
   | (with_reducible exact interleaveref31_Normal.mono _ _)
   | (with_reducible exact interleaveref31_Resolvent.mono _ _ _ _)
   | (with_reducible exact LeO.refl _)
   | (with_reducible exact LeO.none _)
   | (with_reducible refine LeO.ite ?_ ?_)
   | (with_reducible refine LeO.bind ?_ (fun _ => ?_))
   | exact ih0 _ _ _ _ _ _ _ _
   | exact ih1 _ _ _ _ _ _ _ _ _ _ _ _ _ _ _ _ _ _
   | exact ih2 _ _ _ _ _ _ _ _ _ _ _ _ _ _ _ _ _ _
   | exact interleaveref31_Cyclic.mono _ _ _ _ _ _
   | exact interleaveref31_Normal.mono _ _
   | exact interleaveref31_Resolvent.mono _ _ _ _
   | exact LeO.none _
   | refine LeO.ite ?_ ?_
   | refine LeO.bind ?_ (fun _ => ?_)
  ·intro y0 y1 y2 y3 y4 y5 y6 y7 y8 y9 y10 y11 y12 y13 y14 y15 y16 y17
   unfold interleaveref31_Clauses.j1
   repeat' first
   | (with_reducible exact ih0 _ _ _ _ _ _ _ _)
   | (with_reducible exact ih1 _ _ _ _ _ _ _ _ _ _ _ _ _ _ _ _ _ _)
   | (with_reducible exact ih2 _ _ _ _ _ _ _ _ _ _ _ _ _ _ _ _ _ _)
   | (with_reducible exact interleaveref31_Cyclic.mono _ _ _ _ _ _)
   | (with_reducible exact interleaveref31_Normal.mono _ _)
   | (with_reducible exact interleaveref31_Resolvent.mono _ _ _ _)
   | (with_reducible exact LeO.refl _)
   | (with_reducible exact LeO.none _)
   | (with_reducible refine LeO.ite ?_ ?_)
   | (with_reducible refine LeO.bind ?_ (fun _ => ?_))
   | exact ih0 _ _ _ _ _ _ _ _
   | exact ih1 _ _ _ _ _ _ _ _ _ _ _ _ _ _ _ _ _ _
   | exact ih2 _ _ _ _ _ _ _ _ _ _ _ _ _ _ _ _ _ _
   | exact interleaveref31_Cyclic.mono _ _ _ _ _ _
   | exact interleaveref31_Normal.mono _ _
   | exact interleaveref31_Resolvent.mono _ _ _ _
   | exact LeO.none _
   | refine LeO.ite ?_ ?_
   | refine LeO.bind ?_ (fun _ => ?_)
  ·intro y0 y1 y2 y3 y4 y5 y6 y7 y8 y9 y10 y11 y12 y13 y14 y15 y16 y17
   unfold interleaveref31_Clauses.j2
   repeat' first
   | (with_reducible exact ih0 _ _ _ _ _ _ _ _)
   | (with_reducible exact ih1 _ _ _ _ _ _ _ _ _ _ _ _ _ _ _ _ _ _)
   | (with_reducible exact ih2 _ _ _ _ _ _ _ _ _ _ _ _ _ _ _ _ _ _)
   | (with_reducible exact interleaveref31_Cyclic.mono _ _ _ _ _ _)
   | (with_reducible exact interleaveref31_Normal.mono _ _)
   | (with_reducible exact interleaveref31_Resolvent.mono _ _ _ _)
   | (with_reducible exact LeO.refl _)
   | (with_reducible exact LeO.none _)
   | (with_reducible refine LeO.ite ?_ ?_)
   | (with_reducible refine LeO.bind ?_ (fun _ => ?_))
   | exact ih0 _ _ _ _ _ _ _ _
   | exact ih1 _ _ _ _ _ _ _ _ _ _ _ _ _ _ _ _ _ _
   | exact ih2 _ _ _ _ _ _ _ _ _ _ _ _ _ _ _ _ _ _
   | exact interleaveref31_Cyclic.mono _ _ _ _ _ _
   | exact interleaveref31_Normal.mono _ _
   | exact interleaveref31_Resolvent.mono _ _ _ _
   | exact LeO.none _
   | refine LeO.ite ?_ ?_
   | refine LeO.bind ?_ (fun _ => ?_)
theorem interleaveref31_Clauses.mono : ∀ a0 a1 a2 a3 a4 k, LeO (interleaveref31_Clauses.f k a0 a1 a2 a3 a4) (interleaveref31_Clauses.f (k + 1) a0 a1 a2 a3 a4) := by
 intro a0 a1 a2 a3 a4 k
 obtain ⟨ih0, ih1, ih2⟩ := interleaveref31_Clauses.mono_l k
 unfold interleaveref31_Clauses.f
 repeat' first
   | (with_reducible exact ih0 _ _ _ _ _ _ _ _)
   | (with_reducible exact ih1 _ _ _ _ _ _ _ _ _ _ _ _ _ _ _ _ _ _)
   | (with_reducible exact ih2 _ _ _ _ _ _ _ _ _ _ _ _ _ _ _ _ _ _)
   | (with_reducible exact interleaveref31_Cyclic.mono _ _ _ _ _ _)
   | (with_reducible exact interleaveref31_Normal.mono _ _)
   | (with_reducible exact interleaveref31_Resolvent.mono _ _ _ _)
   | (with_reducible exact LeO.refl _)
   | (with_reducible exact LeO.none _)
   | (with_reducible refine LeO.ite ?_ ?_)
   | (with_reducible refine LeO.bind ?_ (fun _ => ?_))
   | exact ih0 _ _ _ _ _ _ _ _
   | exact ih1 _ _ _ _ _ _ _ _ _ _ _ _ _ _ _ _ _ _
   | exact ih2 _ _ _ _ _ _ _ _ _ _ _ _ _ _ _ _ _ _
   | exact interleaveref31_Cyclic.mono _ _ _ _ _ _
   | exact interleaveref31_Normal.mono _ _
   | exact interleaveref31_Resolvent.mono _ _ _ _
   | exact LeO.none _
   | refine LeO.ite ?_ ?_
   | refine LeO.bind ?_ (fun _ => ?_)
def interleaveref31_Clauses.T15 : Bool × List (List Nat × List Nat) := (true, [([], []), ([], []), ([1], [1]), ([0, 2], [0, 2]), ([3], [3]), ([], []), ([], []), ([6], [6]), ([5, 7], [5, 7]), ([8], [8]), ([], []), ([10], [10]), ([4, 9, 11], [4, 9, 11]), ([12], [12]), ([13], [13]), ([13], [13]), ([14, 12, 0, 1, 2, 3, 4, 5, 6, 7, 8, 9, 10, 11, 12, 13, 14], [14]), ([15, 16, 0, 1, 2, 3, 4, 5, 6, 7, 8, 9, 10, 11, 12, 13, 14, 15, 16], [15])])
def interleaveref31_Clauses.B15 : List Nat := [0, 0, 2, 7, 15, 0, 0, 64, 224, 480, 0, 1024, 4095, 8191, 16383, 16383, 32767, 131071]
theorem interleaveref31_Clauses.tab15 : rtab .any (opsOf Try.f33 15) = interleaveref31_Clauses.T15 := by kernel_rfl
theorem interleaveref31_Clauses.bits15 : waitsOk interleaveref31_Clauses.T15.2 interleaveref31_Clauses.B15 = true := by kernel_rfl
set_option maxHeartbeats 8000000 in
set_option maxRecDepth 100000 in
theorem interleaveref31_Clauses.calls (k : Nat) (a0_0 : Int) (a0_1 : Int) (A0_2 : Option Addr) (c0_2 : Nat) (l0_2 : List (S75)) (A0_3 : Option Addr) (c0_3 : Nat) (l0_3 : List (List Int)) (A1 : Option Addr) (c1 : Nat) (l1 : List (S50)) (r1 : List (List Int)) (r2 : Int) (w : World) (hr0_2 : Kd.C k75 w A0_2 l0_2.length l0_2) (hc0_2 : l0_2.length ≤ c0_2) (hr0_3 : Kd.C (Kd.slice 3 (Kd.int .i64)) w A0_3 l0_3.length l0_3) (hc0_3 : l0_3.length ≤ c0_3) (hr1 : Kd.C k50 w A1 l1.length l1) (hc1 : l1.length ≤ c1) (h : interleaveref31_Clauses.f k a0_0 a0_1 l0_2 l0_3 l1 = some (r1, r2)) :
  Calls Try.prog 33 #[.agg #[.int .i64 a0_0, .int .i64 a0_1, .slice A0_2 l0_2.length c0_2, .slice A0_3 l0_3.length c0_3], .slice A1 l1.length c1] w fun e w' => ∃ v0_ : Value, e = .returned (.tuple #[v0_, .int .i64 r2]) ∧ Kd.S (Kd.slice 3 (Kd.int .i64)) 43 w' w.heap.size (fun _ => True) v0_ r1 ∧ Below w.heap.size w w' := by
 have hu32 := Try.underlying32
 have hu50 := Try.underlying50
 have HR0_2 := Aside0.mk hr0_2
 have HC0_2 := Aside0.mk hc0_2
 clear hr0_2 hc0_2
 have HR0_3 := Aside0.mk hr0_3
 have HC0_3 := Aside0.mk hc0_3
 clear hr0_3 hc0_3
 have HR1 := Aside0.mk hr1
 have HC1 := Aside0.mk hc1
 clear hr1 hc1
 have HB := Aside0.mk (Below.refl w.heap.size w)
 have H : (interleaveref31_Clauses.l0 k ([] : List (List Int)) l1 (l1.length : Int) 0 a0_0 a0_1 l0_2 l0_3) = some (r1, r2) := h
 clear h
 have H' := Aside0.mk H
 clear H
 go_enter Try.func33, Try.ntmps33
 go_wp2_with (first | ((with_reducible refine gate_dst (N := 2) rfl ?_); (try (refine gate_guard (by rfl) ?_; dsimp only)); refine box_ev (N := 2) rfl (cs := #[.int .i64 a0_0, .int .i64 a0_1, .slice A0_2 l0_2.length c0_2, .slice A0_3 l0_3.length c0_3]) (t := 32) ?_; intro gb387 hg w3 hbox hb; have n0_ := Aside0.mk (below_step HB.l hb); have n1_ := Aside0.mk (hbox); have n2_ := Aside0.mk ((by rw [hg]; exact (below_size HB.l) : w.heap.size ≤ gb387)); have n3_ := Aside0.mk ((by rw [hg]; exact (below_size HB.l) : w.heap.size ≤ gb387)); clear HB; revert n0_ n1_ n2_ n3_; intro HB BK387 GW387 GE387; clear hb hbox hg))
 go_loopg [6, 13] k (fun kq v6 v13 w' => ∃ (x6_1 : List (List Int)) (x13_1 : Int), v13 = .int .i64 x13_1 ∧ Aside0 (interleaveref31_Clauses.l0 kq x6_1 l1 (l1.length : Int) x13_1 a0_0 a0_1 l0_2 l0_3 = some (r1, r2)) ∧ Aside0 (kq ≤ k) ∧ Aside0 (Kd.S (Kd.slice 3 (Kd.int .i64)) 43 w' w.heap.size (fun _ => True) v6 x6_1) ∧ Aside0 (w'.heap[gb387]? = some (.cells #[.int .i64 a0_0, .int .i64 a0_1, (.slice A0_2 l0_2.length c0_2), (.slice A0_3 l0_3.length c0_3)] 32 (0, 0))) ∧ Aside0 (Below w.heap.size w w'))
 case atStart => exact ⟨(([] : List (List Int))), (0), (by first | rfl | (simp; done) | (simp [*]; done)), H', ⟨Nat.le_refl _⟩, ⟨by first | exact Kd.S_nil _ _ _ _ _ | exact Kd.N_nil _ _ _ _ _ | exact Kd.V_nil _ _ _ _ _ | exact Kd.Q_nil _ _ _ _ _ | exact Kd.R_nil _ _ _ _ _⟩, ⟨BK387.b⟩, ⟨HB.l⟩⟩
 case round => as_aux_lemma =>
  clear H'
  try clear c1
  try clear p2
  try clear c3
  obtain ⟨x6_1, x13_1, rfl, HA, HK1, HO_6, BK387, HB⟩ := hrel
  cases gk with
  | zero => exact absurd HA.out (by simp [interleaveref31_Clauses.l0])
  | succ k1 =>
   have H := HA.out
   clear HA
   simp only [interleaveref31_Clauses.l0] at H
   by_cases c4 : x13_1 < (l1.length : Int)
   ·rw [if_pos c4] at H
    have c4b0 : decide (x13_1 < (l1.length : Int)) = true := decide_eq_true c4
    clear c4
    by_cases c5 : 0 ≤ x13_1
    ·rw [if_pos c5] at H
     have c5b0 : decide (0 ≤ x13_1) = true := decide_eq_true c5
     clear c5
     by_cases c6 : x13_1 < (l1.length : Int)
     ·rw [if_pos c6] at H
      have c6b0 : decide (x13_1 < (l1.length : Int)) = true := decide_eq_true c6
      clear c6
      by_cases c7 : ((rd_T50 l1 x13_1).f0) = 1
      ·rw [if_pos c7] at H
       have c7b0 : (((rd_T50 l1 x13_1).f0) == 1) = true := beq_iff_eq.mpr c7
       have c7b1 : (((rd_T50 l1 x13_1).f0) != 1) = false := bne_eq_false_iff_eq.mpr c7
       clear c7
       have HC8 := Aside0.mk H
       clear H
       have p388 : 0 ≤ (x13_1 : Int) := of_decide_eq_true (by first | (with_reducible assumption) | assumption)
       have q388 : x13_1 < (l1.length : Int) := of_decide_eq_true (by first | (with_reducible assumption) | assumption)
       obtain ⟨ad388, A388_2, c388_2, e388, hx388_0, hx388_1, hx388_2, hx388_3, hx388_4, hx388_5, hl388_2, hi388_2⟩ := at_T50 HR1.out x13_1 p388 q388
       cases e388
       replace hx388_0 := (HB.out.cell (World.block_lt_of_cell? w _ hx388_0)).trans hx388_0
       replace hx388_1 := (HB.out.cell (World.block_lt_of_cell? w _ hx388_1)).trans hx388_1
       replace hx388_2 := (HB.out.cell (World.block_lt_of_cell? w _ hx388_2)).trans hx388_2
       replace hx388_3 := (HB.out.cell (World.block_lt_of_cell? w _ hx388_3)).trans hx388_3
       replace hx388_4 := (HB.out.cell (World.block_lt_of_cell? w _ hx388_4)).trans hx388_4
       replace hx388_5 := (HB.out.cell (World.block_lt_of_cell? w _ hx388_5)).trans hx388_5
       have HR388_2 := Aside0.mk hi388_2
       have HC388_2 := Aside0.mk hl388_2
       clear hi388_2 hl388_2
       replace p388 := eq_true p388
       replace q388 := eq_true q388
       go_upto_region 9 with (first | ((with_reducible refine gate_dst (N := 8) rfl ?_); (try (refine gate_guard (by rfl) ?_; dsimp only)); refine box_ev (N := 8) rfl (cs := #[.int .i64 0, .int .i64 0, .slice none 0 0, .int .i64 0, .int .i64 0, .int .i64 0]) (t := 50) ?_; intro gb389 hg w9z hboxz hbz; have HGz := Aside0.mk (And.intro hg (And.intro hboxz hbz)); clear hg hboxz hbz) | ((with_reducible refine gate_store (t := 50) (p := 8) (v := _) rfl ?_); have hg := HGz.out.1; refine store_box rfl rfl rfl hg HGz.out.2.1 HGz.out.2.2 rfl (cs := #[.int .i64 ((rd_T50 l1 x13_1).f0), .int .i64 ((rd_T50 l1 x13_1).f1), .slice A388_2 ((rd_T50 l1 x13_1).f2).length c388_2, .int .i64 ((rd_T50 l1 x13_1).f3), .int .i64 ((rd_T50 l1 x13_1).f4), .int .i64 ((rd_T50 l1 x13_1).f5)]) ?hx (by kernel_rfl) rfl rfl ?_; (case hx => first | rfl | (go_simp; rfl)); intro w9 hbox hb; clear HGz; have n0_ := Aside0.mk (Kd.S_below HO_6.s hb); have n1_ := Aside0.mk (blk_below BK387.b hb); have n2_ := Aside0.mk (below_step HB.l hb); have n3_ := Aside0.mk (hbox); have n4_ := Aside0.mk ((by rw [hg]; exact (below_size HB.l) : w.heap.size ≤ gb389)); have n5_ := Aside0.mk ((by rw [hg]; exact (below_size HB.l) : w.heap.size ≤ gb389)); have n6_ := Aside0.mk ((by rw [hg]; exact Nat.ne_of_lt (blk_lt BK387.b) : gb387 ≠ gb389)); have n7_ := Aside0.mk ((by rw [hg]; exact Nat.ne_of_gt (blk_lt BK387.b) : gb389 ≠ gb387)); clear HO_6 BK387 HB; revert n0_ n1_ n2_ n3_ n4_ n5_ n6_ n7_; intro HO_6 BK387 HB BK389 GW389 GE389 NB387_389 NB389_387; clear hb hbox hg; have hnb10 := NB389_387.out; have hnc10 := NB387_389.out; have hcz11_0 := BK389.cl 0 (.int .i64 ((rd_T50 l1 x13_1).f0)); have hcz11_1 := BK389.cl 1 (.int .i64 ((rd_T50 l1 x13_1).f1)); have hcz11_2 := BK389.cl 2 (.slice A388_2 ((rd_T50 l1 x13_1).f2).length c388_2); have hcz11_3 := BK389.cl 3 (.int .i64 ((rd_T50 l1 x13_1).f3)); have hcz11_4 := BK389.cl 4 (.int .i64 ((rd_T50 l1 x13_1).f4)); have hcz11_5 := BK389.cl 5 (.int .i64 ((rd_T50 l1 x13_1).f5)); have hfz11_0 := BK389.fz 0; have hfz11_1 := BK389.fz 1; have hfz11_2 := BK389.fz 2; have hfz11_3 := BK389.fz 3; have hfz11_4 := BK389.fz 4; have hfz11_5 := BK389.fz 5))
       (try simp only [Act.put, List.setIfInBounds_toArray, List.set_cons_zero, List.set_cons_succ])
       go_cut [32] (fun v32 wc => ∃ (kq : Nat) (x32_7 : Bool), v32 = .bool x32_7 ∧ Aside0 (interleaveref31_Clauses.j1 kq x6_1 x13_1 ([] : List Int) false l1 (l1.length : Int) x13_1 x32_7 a0_0 a0_1 l0_2 l0_3 ((rd_T50 l1 x13_1).f0) ((rd_T50 l1 x13_1).f1) ((rd_T50 l1 x13_1).f2) ((rd_T50 l1 x13_1).f3) ((rd_T50 l1 x13_1).f4) ((rd_T50 l1 x13_1).f5) = some (r1, r2)) ∧ Aside0 (kq ≤ k1) ∧ Aside0 (Kd.S (Kd.slice 3 (Kd.int .i64)) 43 wc w.heap.size (fun k_ => some k_ ≠ ((.slice none 0 0) : Value).ownBlock) u6 x6_1) ∧ Aside0 (Kd.R (Kd.int .i64) 3 wc w.heap.size (fun _ => True) (.slice none 0 0) ([] : List Int)) ∧ Aside0 (wc.heap[gb387]? = some (.cells #[.int .i64 a0_0, .int .i64 a0_1, (.slice A0_2 l0_2.length c0_2), (.slice A0_3 l0_3.length c0_3)] 32 (0, 0))) ∧ Aside0 (wc.heap[gb389]? = some (.cells #[.int .i64 ((rd_T50 l1 x13_1).f0), .int .i64 ((rd_T50 l1 x13_1).f1), (.slice A388_2 ((rd_T50 l1 x13_1).f2).length c388_2), .int .i64 ((rd_T50 l1 x13_1).f3), .int .i64 ((rd_T50 l1 x13_1).f4), .int .i64 ((rd_T50 l1 x13_1).f5)] 50 (0, 0))) ∧ Aside0 (Below w.heap.size w wc))
       case first => as_aux_lemma =>
        have H := HC8.out
        clear HC8
        by_cases c12 : ((rd_T50 l1 x13_1).f1) ≥ 0
        ·rw [if_pos c12] at H
         have c12b0 : decide (0 ≤ ((rd_T50 l1 x13_1).f1)) = true := decide_eq_true c12
         clear c12
         (first | rw [c12b0] | (simp only [i64_w, i32_w]; rw [c12b0]) | skip)
         have H' := Aside0.mk H
         clear H
         have hnb13 := NB389_387.out
         have hnc13 := NB387_389.out
         have hcz14_0 := BK389.cl 0 (.int .i64 ((rd_T50 l1 x13_1).f0))
         have hcz14_1 := BK389.cl 1 (.int .i64 ((rd_T50 l1 x13_1).f1))
         have hcz14_2 := BK389.cl 2 (.slice A388_2 ((rd_T50 l1 x13_1).f2).length c388_2)
         have hcz14_3 := BK389.cl 3 (.int .i64 ((rd_T50 l1 x13_1).f3))
         have hcz14_4 := BK389.cl 4 (.int .i64 ((rd_T50 l1 x13_1).f4))
         have hcz14_5 := BK389.cl 5 (.int .i64 ((rd_T50 l1 x13_1).f5))
         have hfz14_0 := BK389.fz 0
         have hfz14_1 := BK389.fz 1
         have hfz14_2 := BK389.fz 2
         have hfz14_3 := BK389.fz 3
         have hfz14_4 := BK389.fz 4
         have hfz14_5 := BK389.fz 5
         have hcz15_0 := BK387.cl 0 (.int .i64 a0_0)
         have hcz15_1 := BK387.cl 1 (.int .i64 a0_1)
         have hcz15_2 := BK387.cl 2 (.slice A0_2 l0_2.length c0_2)
         have hcz15_3 := BK387.cl 3 (.slice A0_3 l0_3.length c0_3)
         have hfz15_0 := BK387.fz 0
         have hfz15_1 := BK387.fz 1
         have hfz15_2 := BK387.fz 2
         have hfz15_3 := BK387.fz 3
         go_wp2
         go_meet
         case rel => exact ⟨_, (decide (((rd_T50 l1 x13_1).f1) < (l0_3.length : Int))), (by first | rfl | (simp; done) | (simp [*]; done)), H', ⟨by have := HK1.out; first | omega | exact Nat.le_refl _⟩, ⟨by (with_reducible repeat (first | apply Kd.S_alloc | apply Kd.S_drewN | apply Kd.S_drew)); exact Kd.S_mono (Kd.S_types HO_6.out BK389.out (by decide)) (fun _ hk => (by simp [Value.ownBlock]))⟩, ⟨by first | exact Kd.R_nil _ _ _ _ _ | exact Kd.N_nil _ _ _ _ _ | exact Kd.V_nil _ _ _ _ _ | exact Kd.Q_nil _ _ _ _ _ | exact Kd.S_nil _ _ _ _ _⟩, ⟨BK387.b⟩, ⟨BK389.b⟩, ⟨HB.l⟩⟩
        ·rw [if_neg c12] at H
         have c12b0 : decide (0 ≤ ((rd_T50 l1 x13_1).f1)) = false := decide_eq_false c12
         clear c12
         (first | rw [c12b0] | (simp only [i64_w, i32_w]; rw [c12b0]) | skip)
         have H' := Aside0.mk H
         clear H
         have hnb16 := NB389_387.out
         have hnc16 := NB387_389.out
         have hcz17_0 := BK389.cl 0 (.int .i64 ((rd_T50 l1 x13_1).f0))
         have hcz17_1 := BK389.cl 1 (.int .i64 ((rd_T50 l1 x13_1).f1))
         have hcz17_2 := BK389.cl 2 (.slice A388_2 ((rd_T50 l1 x13_1).f2).length c388_2)
         have hcz17_3 := BK389.cl 3 (.int .i64 ((rd_T50 l1 x13_1).f3))
         have hcz17_4 := BK389.cl 4 (.int .i64 ((rd_T50 l1 x13_1).f4))
         have hcz17_5 := BK389.cl 5 (.int .i64 ((rd_T50 l1 x13_1).f5))
         have hfz17_0 := BK389.fz 0
         have hfz17_1 := BK389.fz 1
         have hfz17_2 := BK389.fz 2
         have hfz17_3 := BK389.fz 3
         have hfz17_4 := BK389.fz 4
         have hfz17_5 := BK389.fz 5
         go_wp2
         go_meet
         case rel => exact ⟨_, (false), (by first | rfl | (simp; done) | (simp [*]; done)), H', ⟨by have := HK1.out; first | omega | exact Nat.le_refl _⟩, ⟨by (with_reducible repeat (first | apply Kd.S_alloc | apply Kd.S_drewN | apply Kd.S_drew)); exact Kd.S_mono (Kd.S_types HO_6.out BK389.out (by decide)) (fun _ hk => (by simp [Value.ownBlock]))⟩, ⟨by first | exact Kd.R_nil _ _ _ _ _ | exact Kd.N_nil _ _ _ _ _ | exact Kd.V_nil _ _ _ _ _ | exact Kd.Q_nil _ _ _ _ _ | exact Kd.S_nil _ _ _ _ _⟩, ⟨BK387.b⟩, ⟨BK389.b⟩, ⟨HB.l⟩⟩
       case rest => as_aux_lemma =>
        clear HC8
        try clear c1
        try clear p2
        try clear c3
        try clear p3
        try clear q3
        try clear hx3
        try clear c4
        try clear c4b0
        try clear c5
        try clear c5b0
        try clear c6
        try clear c6b0
        try clear c7
        try clear c7b0
        try clear c7b1
        try clear c10
        try clear c12
        try clear c12b0
        try clear c13
        try clear c16
        try clear hcz11_0
        try clear hcz11_1
        try clear hcz11_2
        try clear hcz11_3
        try clear hcz11_4
        try clear hcz11_5
        try clear hcz14_0
        try clear hcz14_1
        try clear hcz14_2
        try clear hcz14_3
        try clear hcz14_4
        try clear hcz14_5
        try clear hcz15_0
        try clear hcz15_1
        try clear hcz15_2
        try clear hcz15_3
        try clear hcz17_0
        try clear hcz17_1
        try clear hcz17_2
        try clear hcz17_3
        try clear hcz17_4
        try clear hcz17_5
        try clear hfz11_0
        try clear hfz11_1
        try clear hfz11_2
        try clear hfz11_3
        try clear hfz11_4
        try clear hfz11_5
        try clear hfz14_0
        try clear hfz14_1
        try clear hfz14_2
        try clear hfz14_3
        try clear hfz14_4
        try clear hfz14_5
        try clear hfz15_0
        try clear hfz15_1
        try clear hfz15_2
        try clear hfz15_3
        try clear hfz17_0
        try clear hfz17_1
        try clear hfz17_2
        try clear hfz17_3
        try clear hfz17_4
        try clear hfz17_5
        try clear hx388_0
        try clear hx388_1
        try clear hx388_2
        try clear hx388_3
        try clear hx388_4
        try clear hx388_5
        try clear p2
        try clear p388
        try clear q388
        obtain ⟨kq, x32_7, rfl, HA, HJ7, HO_6, HO_9, BK387, BK389, HB⟩ := hcut
        cases kq with
        | zero => exact absurd HA.out (by simp [interleaveref31_Clauses.j1])
        | succ kj7 =>
         have H := HA.out
         clear HA
         simp only [interleaveref31_Clauses.j1] at H
         by_cases c18 : x32_7 = true
         ·subst c18
          have H1 : (if 0 ≤ ((rd_T50 l1 x13_1).f1) then (if ((rd_T50 l1 x13_1).f1) < (l0_3.length : Int) then ((interleaveref31_Normal.f kj7 (rd_L1 l0_3 ((rd_T50 l1 x13_1).f1))).bind fun bt391 => (if bt391.2 = true then (if x6_1.length < 5864062014805 then (interleaveref31_Clauses.l0 kj7 (x6_1 ++ [bt391.1]) l1 (l1.length : Int) (wrap64 (x13_1 + 1)) a0_0 a0_1 l0_2 l0_3) else (none)) else (some (([] : List (List Int)), x13_1)))) else (none)) else (none)) = some (r1, r2) := by rw [if_pos rfl] at H; exact H
          clear H
          have H := H1
          clear H1
          by_cases c19 : 0 ≤ ((rd_T50 l1 x13_1).f1)
          ·rw [if_pos c19] at H
           have c19b0 : decide (0 ≤ ((rd_T50 l1 x13_1).f1)) = true := decide_eq_true c19
           clear c19
           by_cases c20 : ((rd_T50 l1 x13_1).f1) < (l0_3.length : Int)
           ·rw [if_pos c20] at H
            have c20b0 : decide (((rd_T50 l1 x13_1).f1) < (l0_3.length : Int)) = true := decide_eq_true c20
            clear c20
            replace H := Option.bind_eq_some_iff.mp H
            obtain ⟨⟨t391, t392⟩, A210, H⟩ := H
            replace H : (if t392 = true then (if x6_1.length < 5864062014805 then (interleaveref31_Clauses.l0 kj7 (x6_1 ++ [t391]) l1 (l1.length : Int) (wrap64 (x13_1 + 1)) a0_0 a0_1 l0_2 l0_3) else (none)) else (some (([] : List (List Int)), x13_1))) = some (r1, r2) := H
            have A21 := Aside0.mk A210
            clear A210
            by_cases c22 : t392 = true
            ·subst c22
             have H1 : (if x6_1.length < 5864062014805 then (interleaveref31_Clauses.l0 kj7 (x6_1 ++ [t391]) l1 (l1.length : Int) (wrap64 (x13_1 + 1)) a0_0 a0_1 l0_2 l0_3) else (none)) = some (r1, r2) := by rw [if_pos rfl] at H; exact H
             clear H
             have H := H1
             clear H1
             by_cases c23 : x6_1.length < 5864062014805
             ·rw [if_pos c23] at H
              have LMc23 := Aside0.mk c23
              clear c23
              obtain ⟨y395, hy395⟩ : ∃ y_ : List (List Int), y_ = (x6_1 ++ [t391]) := ⟨_, rfl⟩
              replace H : (interleaveref31_Clauses.l0 kj7 y395 l1 (l1.length : Int) (wrap64 (x13_1 + 1)) a0_0 a0_1 l0_2 l0_3) = some (r1, r2) := by first | (rw [hy395]; with_reducible exact H) | (have H2_ := (Option.bind_some _ _).symm.trans H; rw [hy395]; with_reducible exact H2_) | (have H2_ := (Option.bind_some _ _).symm.trans H; with_reducible exact H2_) | with_reducible exact H | (rw [hy395]; exact H) | exact H
              have Ny395 := Aside0.mk hy395
              clear hy395
              have H' := Aside0.mk H
              clear H
              have hnb24 := NB387_389.out
              have hnc24 := NB389_387.out
              have hcz25_0 := BK387.cl 0 (.int .i64 a0_0)
              have hcz25_1 := BK387.cl 1 (.int .i64 a0_1)
              have hcz25_2 := BK387.cl 2 (.slice A0_2 l0_2.length c0_2)
              have hcz25_3 := BK387.cl 3 (.slice A0_3 l0_3.length c0_3)
              have hfz25_0 := BK387.fz 0
              have hfz25_1 := BK387.fz 1
              have hfz25_2 := BK387.fz 2
              have hfz25_3 := BK387.fz 3
              have hcz26_0 := BK389.cl 0 (.int .i64 ((rd_T50 l1 x13_1).f0))
              have hcz26_1 := BK389.cl 1 (.int .i64 ((rd_T50 l1 x13_1).f1))
              have hcz26_2 := BK389.cl 2 (.slice A388_2 ((rd_T50 l1 x13_1).f2).length c388_2)
              have hcz26_3 := BK389.cl 3 (.int .i64 ((rd_T50 l1 x13_1).f3))
              have hcz26_4 := BK389.cl 4 (.int .i64 ((rd_T50 l1 x13_1).f4))
              have hcz26_5 := BK389.cl 5 (.int .i64 ((rd_T50 l1 x13_1).f5))
              have hfz26_0 := BK389.fz 0
              have hfz26_1 := BK389.fz 1
              have hfz26_2 := BK389.fz 2
              have hfz26_3 := BK389.fz 3
              have hfz26_4 := BK389.fz 4
              have hfz26_5 := BK389.fz 5
              have p390 : 0 ≤ (((rd_T50 l1 x13_1).f1) : Int) := of_decide_eq_true (by first | (with_reducible assumption) | assumption)
              have q390 : ((rd_T50 l1 x13_1).f1) < (l0_3.length : Int) := of_decide_eq_true (by first | (with_reducible assumption) | assumption)
              obtain ⟨ad390, A390_0, c390_0, e390, hx390_0, hl390_0, hi390_0⟩ := at_L1 HR0_3.out ((rd_T50 l1 x13_1).f1) p390 q390
              cases e390
              replace hx390_0 := (HB.out.cell (World.block_lt_of_cell? w _ hx390_0)).trans hx390_0
              have HR390_0 := Aside0.mk hi390_0
              have HC390_0 := Aside0.mk hl390_0
              clear hi390_0 hl390_0
              replace p390 := eq_true p390
              replace q390 := eq_true q390
              go_wp2_with (first | ((with_reducible refine gate_callee (f := 43) rfl ?_); refine goesM_ Try.func43 #[.slice A390_0 (rd_L1 l0_3 ((rd_T50 l1 x13_1).f1)).length c390_0] ?_; (with_reducible refine (interleaveref31_Normal.calls kj7 _ _ (rd_L1 l0_3 ((rd_T50 l1 x13_1).f1)) t391 true _ ?side1 ?side2 A21.out).mono ?_); (case side1 => exact HR390_0.c HB.l); (case side2 => exact HC390_0.out); rintro e w27 ⟨v393, rfl, ho0, hb⟩; refine ⟨_, rfl, ?_⟩; have n0_ := Aside0.mk (Kd.S_elder' HO_6.s (Kd.R_base ho0) hb); have n1_ := Aside0.mk (Kd.R_elder' HO_9.r (Kd.R_base ho0) hb); have n2_ := Aside0.mk (Kd.R_lower (Kd.R_new' ho0 (Kd.R_lt HO_9.r)) (below_size HB.l)); have n3_ := Aside0.mk (blk_below BK387.b hb); have n4_ := Aside0.mk (blk_below BK389.b hb); have n5_ := Aside0.mk (below_step HB.l hb); clear HO_6 HO_9 BK387 BK389 HB; revert n0_ n1_ n2_ n3_ n4_ n5_; intro HO_6 HO_9 HO394 BK387 BK389 HB; (try clear hb); (try clear hb2); (try clear hk); (try clear hi); (try clear ho0); obtain ⟨Ao29, co29, eo29⟩ := Kd.R_slice HO394.out; subst eo29) | ((with_reducible refine gate_builtin (b := .append) (xs := #[.tmp 93, .tmp 95]) rfl ?_); (try (refine gate_guard (by rfl) ?_; dsimp only)); at_builtin; refine Kd.S_append (Kd.slice 3 (Kd.int .i64)) (w0 := w) w.heap.size rfl (.tmp 93) (.tmp 95) 30 43 (.slice none 0 0) 24 rfl Try.underlying30 info43 rfl (by decide) (by omega) u6 x6_1 t391 [.slice Ao29 t391.length co29] (fun k_ => some k_ ≠ (.slice none 0 0 : Value).ownBlock) (fun k_ => some k_ = (.slice Ao29 t391.length co29 : Value).ownBlock) rfl rfl ?aP (fun k_ hk_ => ((Kd.R_mono (ok' := fun k_ => ((fun k_ => some k_ ≠ (.slice none 0 0 : Value).ownBlock)) k_ ∧ some k_ ≠ (u6 : Value).ownBlock) (Kd.R_apart' (HO394.out) (Kd.S_typed HO_6.out) (by decide)) (fun k_ hk => ⟨hk.1.2, hk.2⟩))).1 k_ hk_.symm) ?aF ?aO ?aB ?aS ?aL ?_; (case aP => exact Kd.M_row (Kd.R_mono (Kd.R_tight rfl (Kd.R_mono (ok' := fun k_ => ((fun k_ => some k_ ≠ (.slice none 0 0 : Value).ownBlock)) k_ ∧ some k_ ≠ (u6 : Value).ownBlock) (Kd.R_apart' (HO394.out) (Kd.S_typed HO_6.out) (by decide)) (fun k_ hk => ⟨hk.1.2, hk.2⟩))) (fun _ h_ => h_))); (case aB => exact HB.l); (case aF => exact (fun k_ hk => Kd.fresh' (Kd.R_lt HO_9.r) k_ hk)); (case aO => exact (by (with_reducible repeat (first | apply Kd.S_alloc | apply Kd.S_drewN | apply Kd.S_drew)); exact Kd.S_mono HO_6.out (fun k_ hk => ⟨hk.1, fun e_ => hk.2 e_⟩))); (case aS => exact (below_size HB.l)); (case aL => have := LMc23.out; omega); intro v396 w28 ho hb hg hat; rw [← Ny395.out] at ho; have n0_ := Aside0.mk (Kd.R_over' HO_9.r (Kd.S_typed HO_6.s) (by decide) hg); have n1_ := Aside0.mk (blk_grown BK387.b hg (Kd.S_ne HO_6.out BK387.out (by decide))); have n2_ := Aside0.mk (blk_grown BK389.b hg (Kd.S_ne HO_6.out BK389.out (by decide))); have n3_ := Aside0.mk (hb); have n4_ := Aside0.mk (ho); clear HO_9 BK387 BK389 HB HO_6 HO394; revert n0_ n1_ n2_ n3_ n4_; intro HO_9 BK387 BK389 HB HO397; clear ho hb hg hat))
              go_roundg kj7
              case measure => have := HK1.out; have := HJ7.out; omega
              case rel => exact ⟨(y395), (wrap64 (x13_1 + 1)), (by first | rfl | (simp; done) | (simp [*]; done)), H', ⟨by have := HK1.out; have := HJ7.out; omega⟩, ⟨by (with_reducible repeat (first | apply Kd.S_alloc | apply Kd.S_drewN | apply Kd.S_drew)); exact Kd.S_mono HO397.out (fun _ hk => trivial)⟩, ⟨BK387.b⟩, ⟨HB.l⟩⟩
             ·rw [if_neg c23] at H
              exact absurd H (by simp)
            ·replace c22 := Bool.eq_false_iff.mpr c22
             subst c22
             have H1 : (some (([] : List (List Int)), x13_1)) = some (r1, r2) := by rw [if_neg (show ¬ (false = true) by decide)] at H; exact H
             clear H
             have H := H1
             clear H1
             simp only [Option.some.injEq, Prod.mk.injEq] at H
             obtain ⟨rfl, rfl⟩ := H
             have hnb30 := NB387_389.out
             have hnc30 := NB389_387.out
             have hcz31_0 := BK387.cl 0 (.int .i64 a0_0)
             have hcz31_1 := BK387.cl 1 (.int .i64 a0_1)
             have hcz31_2 := BK387.cl 2 (.slice A0_2 l0_2.length c0_2)
             have hcz31_3 := BK387.cl 3 (.slice A0_3 l0_3.length c0_3)
             have hfz31_0 := BK387.fz 0
             have hfz31_1 := BK387.fz 1
             have hfz31_2 := BK387.fz 2
             have hfz31_3 := BK387.fz 3
             have hcz32_0 := BK389.cl 0 (.int .i64 ((rd_T50 l1 x13_1).f0))
             have hcz32_1 := BK389.cl 1 (.int .i64 ((rd_T50 l1 x13_1).f1))
             have hcz32_2 := BK389.cl 2 (.slice A388_2 ((rd_T50 l1 x13_1).f2).length c388_2)
             have hcz32_3 := BK389.cl 3 (.int .i64 ((rd_T50 l1 x13_1).f3))
             have hcz32_4 := BK389.cl 4 (.int .i64 ((rd_T50 l1 x13_1).f4))
             have hcz32_5 := BK389.cl 5 (.int .i64 ((rd_T50 l1 x13_1).f5))
             have hfz32_0 := BK389.fz 0
             have hfz32_1 := BK389.fz 1
             have hfz32_2 := BK389.fz 2
             have hfz32_3 := BK389.fz 3
             have hfz32_4 := BK389.fz 4
             have hfz32_5 := BK389.fz 5
             have p390 : 0 ≤ (((rd_T50 l1 x13_1).f1) : Int) := of_decide_eq_true (by first | (with_reducible assumption) | assumption)
             have q390 : ((rd_T50 l1 x13_1).f1) < (l0_3.length : Int) := of_decide_eq_true (by first | (with_reducible assumption) | assumption)
             obtain ⟨ad390, A390_0, c390_0, e390, hx390_0, hl390_0, hi390_0⟩ := at_L1 HR0_3.out ((rd_T50 l1 x13_1).f1) p390 q390
             cases e390
             replace hx390_0 := (HB.out.cell (World.block_lt_of_cell? w _ hx390_0)).trans hx390_0
             have HR390_0 := Aside0.mk hi390_0
             have HC390_0 := Aside0.mk hl390_0
             clear hi390_0 hl390_0
             replace p390 := eq_true p390
             replace q390 := eq_true q390
             go_wp2_with (first | ((with_reducible refine gate_callee (f := 43) rfl ?_); refine goesM_ Try.func43 #[.slice A390_0 (rd_L1 l0_3 ((rd_T50 l1 x13_1).f1)).length c390_0] ?_; (with_reducible refine (interleaveref31_Normal.calls kj7 _ _ (rd_L1 l0_3 ((rd_T50 l1 x13_1).f1)) t391 false _ ?side1 ?side2 A21.out).mono ?_); (case side1 => exact HR390_0.c HB.l); (case side2 => exact HC390_0.out); rintro e w33 ⟨v393, rfl, ho0, hb⟩; refine ⟨_, rfl, ?_⟩; have n0_ := Aside0.mk (Kd.S_elder' HO_6.s (Kd.R_base ho0) hb); have n1_ := Aside0.mk (Kd.R_elder' HO_9.r (Kd.R_base ho0) hb); have n2_ := Aside0.mk (Kd.R_lower (Kd.R_new' ho0 (Kd.R_lt HO_9.r)) (below_size HB.l)); have n3_ := Aside0.mk (blk_below BK387.b hb); have n4_ := Aside0.mk (blk_below BK389.b hb); have n5_ := Aside0.mk (below_step HB.l hb); clear HO_6 HO_9 BK387 BK389 HB; revert n0_ n1_ n2_ n3_ n4_ n5_; intro HO_6 HO_9 HO394 BK387 BK389 HB; (try clear hb); (try clear hb2); (try clear hk); (try clear hi); (try clear ho0)))
             go_ret2
             exact ⟨_, by first | rfl | (simp [errW_none, errW_some] <;> rfl) | (simp [*, errW_none, errW_some] <;> rfl), by first | exact Kd.S_nil _ _ _ _ _ | exact Kd.N_nil _ _ _ _ _ | exact Kd.V_nil _ _ _ _ _ | exact Kd.Q_nil _ _ _ _ _ | exact Kd.R_nil _ _ _ _ _, HB.l⟩
           ·rw [if_neg c20] at H
            exact absurd H (by simp)
          ·rw [if_neg c19] at H
           exact absurd H (by simp)
         ·replace c18 := Bool.eq_false_iff.mpr c18
          subst c18
          have H1 : (if false = true then (if x6_1.length < 5864062014805 then (interleaveref31_Clauses.l0 kj7 (x6_1 ++ [([] : List Int)]) l1 (l1.length : Int) (wrap64 (x13_1 + 1)) a0_0 a0_1 l0_2 l0_3) else (none)) else (some (([] : List (List Int)), x13_1))) = some (r1, r2) := by rw [if_neg (show ¬ (false = true) by decide)] at H; exact H
          clear H
          have H := H1
          clear H1
          by_cases c34 : false = true
          ·exact absurd c34 (by decide)
          ·clear c34
           have H1 : (some (([] : List (List Int)), x13_1)) = some (r1, r2) := by rw [if_neg (show ¬ (false = true) by decide)] at H; exact H
           clear H
           have H := H1
           clear H1
           simp only [Option.some.injEq, Prod.mk.injEq] at H
           obtain ⟨rfl, rfl⟩ := H
           go_wp2
           go_ret2
           exact ⟨_, by first | rfl | (simp [errW_none, errW_some] <;> rfl) | (simp [*, errW_none, errW_some] <;> rfl), by first | exact Kd.S_nil _ _ _ _ _ | exact Kd.N_nil _ _ _ _ _ | exact Kd.V_nil _ _ _ _ _ | exact Kd.Q_nil _ _ _ _ _ | exact Kd.R_nil _ _ _ _ _, HB.l⟩
      ·rw [if_neg c7] at H
       have c7b0 : (((rd_T50 l1 x13_1).f0) == 1) = false := beq_eq_false_iff_ne.mpr c7
       have c7b1 : (((rd_T50 l1 x13_1).f0) != 1) = true := bne_iff_ne.mpr c7
       by_cases c37 : ((rd_T50 l1 x13_1).f0) = 2
       ·rw [if_pos c37] at H
        have c37b0 : (((rd_T50 l1 x13_1).f0) == 2) = true := beq_iff_eq.mpr c37
        have c37b1 : (((rd_T50 l1 x13_1).f0) != 2) = false := bne_eq_false_iff_eq.mpr c37
        clear c37
        replace H := Option.bind_eq_some_iff.mp H
        obtain ⟨⟨t401, t404⟩, A380, H⟩ := H
        replace H : (if t404 = true then (if x6_1.length < 5864062014805 then (interleaveref31_Clauses.l0 k1 (x6_1 ++ [t401]) l1 (l1.length : Int) (wrap64 (x13_1 + 1)) a0_0 a0_1 l0_2 l0_3) else (none)) else (some (([] : List (List Int)), x13_1))) = some (r1, r2) := H
        have A38 := Aside0.mk A380
        clear A380
        by_cases c39 : t404 = true
        ·subst c39
         have H1 : (if x6_1.length < 5864062014805 then (interleaveref31_Clauses.l0 k1 (x6_1 ++ [t401]) l1 (l1.length : Int) (wrap64 (x13_1 + 1)) a0_0 a0_1 l0_2 l0_3) else (none)) = some (r1, r2) := by rw [if_pos rfl] at H; exact H
         clear H
         have H := H1
         clear H1
         by_cases c40 : x6_1.length < 5864062014805
         ·rw [if_pos c40] at H
          have LMc40 := Aside0.mk c40
          clear c40
          obtain ⟨y405, hy405⟩ : ∃ y_ : List (List Int), y_ = (x6_1 ++ [t401]) := ⟨_, rfl⟩
          replace H : (interleaveref31_Clauses.l0 k1 y405 l1 (l1.length : Int) (wrap64 (x13_1 + 1)) a0_0 a0_1 l0_2 l0_3) = some (r1, r2) := by first | (rw [hy405]; with_reducible exact H) | (have H2_ := (Option.bind_some _ _).symm.trans H; rw [hy405]; with_reducible exact H2_) | (have H2_ := (Option.bind_some _ _).symm.trans H; with_reducible exact H2_) | with_reducible exact H | (rw [hy405]; exact H) | exact H
          have Ny405 := Aside0.mk hy405
          clear hy405
          have H' := Aside0.mk H
          clear H
          have p388 : 0 ≤ (x13_1 : Int) := of_decide_eq_true (by first | (with_reducible assumption) | assumption)
          have q388 : x13_1 < (l1.length : Int) := of_decide_eq_true (by first | (with_reducible assumption) | assumption)
          obtain ⟨ad388, A388_2, c388_2, e388, hx388_0, hx388_1, hx388_2, hx388_3, hx388_4, hx388_5, hl388_2, hi388_2⟩ := at_T50 HR1.out x13_1 p388 q388
          cases e388
          replace hx388_0 := (HB.out.cell (World.block_lt_of_cell? w _ hx388_0)).trans hx388_0
          replace hx388_1 := (HB.out.cell (World.block_lt_of_cell? w _ hx388_1)).trans hx388_1
          replace hx388_2 := (HB.out.cell (World.block_lt_of_cell? w _ hx388_2)).trans hx388_2
          replace hx388_3 := (HB.out.cell (World.block_lt_of_cell? w _ hx388_3)).trans hx388_3
          replace hx388_4 := (HB.out.cell (World.block_lt_of_cell? w _ hx388_4)).trans hx388_4
          replace hx388_5 := (HB.out.cell (World.block_lt_of_cell? w _ hx388_5)).trans hx388_5
          have HR388_2 := Aside0.mk hi388_2
          have HC388_2 := Aside0.mk hl388_2
          clear hi388_2 hl388_2
          replace p388 := eq_true p388
          replace q388 := eq_true q388
          go_wp2_with (first | ((with_reducible refine gate_dst (N := 8) rfl ?_); (try (refine gate_guard (by rfl) ?_; dsimp only)); refine box_ev (N := 8) rfl (cs := #[.int .i64 0, .int .i64 0, .slice none 0 0, .int .i64 0, .int .i64 0, .int .i64 0]) (t := 50) ?_; intro gb389 hg w41z hboxz hbz; have HGz := Aside0.mk (And.intro hg (And.intro hboxz hbz)); clear hg hboxz hbz) | ((with_reducible refine gate_store (t := 50) (p := 8) (v := _) rfl ?_); have hg := HGz.out.1; refine store_box rfl rfl rfl hg HGz.out.2.1 HGz.out.2.2 rfl (cs := #[.int .i64 ((rd_T50 l1 x13_1).f0), .int .i64 ((rd_T50 l1 x13_1).f1), .slice A388_2 ((rd_T50 l1 x13_1).f2).length c388_2, .int .i64 ((rd_T50 l1 x13_1).f3), .int .i64 ((rd_T50 l1 x13_1).f4), .int .i64 ((rd_T50 l1 x13_1).f5)]) ?hx (by kernel_rfl) rfl rfl ?_; (case hx => first | rfl | (go_simp; rfl)); intro w41 hbox hb; clear HGz; have n0_ := Aside0.mk (Kd.S_below HO_6.s hb); have n1_ := Aside0.mk (blk_below BK387.b hb); have n2_ := Aside0.mk (below_step HB.l hb); have n3_ := Aside0.mk (hbox); have n4_ := Aside0.mk ((by rw [hg]; exact (below_size HB.l) : w.heap.size ≤ gb389)); have n5_ := Aside0.mk ((by rw [hg]; exact (below_size HB.l) : w.heap.size ≤ gb389)); have n6_ := Aside0.mk ((by rw [hg]; exact Nat.ne_of_lt (blk_lt BK387.b) : gb387 ≠ gb389)); have n7_ := Aside0.mk ((by rw [hg]; exact Nat.ne_of_gt (blk_lt BK387.b) : gb389 ≠ gb387)); clear HO_6 BK387 HB; revert n0_ n1_ n2_ n3_ n4_ n5_ n6_ n7_; intro HO_6 BK387 HB BK389 GW389 GE389 NB387_389 NB389_387; clear hb hbox hg; have hnb42 := NB389_387.out; have hnc42 := NB387_389.out; have hcz43_0 := BK389.cl 0 (.int .i64 ((rd_T50 l1 x13_1).f0)); have hcz43_1 := BK389.cl 1 (.int .i64 ((rd_T50 l1 x13_1).f1)); have hcz43_2 := BK389.cl 2 (.slice A388_2 ((rd_T50 l1 x13_1).f2).length c388_2); have hcz43_3 := BK389.cl 3 (.int .i64 ((rd_T50 l1 x13_1).f3)); have hcz43_4 := BK389.cl 4 (.int .i64 ((rd_T50 l1 x13_1).f4)); have hcz43_5 := BK389.cl 5 (.int .i64 ((rd_T50 l1 x13_1).f5)); have hfz43_0 := BK389.fz 0; have hfz43_1 := BK389.fz 1; have hfz43_2 := BK389.fz 2; have hfz43_3 := BK389.fz 3; have hfz43_4 := BK389.fz 4; have hfz43_5 := BK389.fz 5; have hcz44_0 := BK387.cl 0 (.int .i64 a0_0); have hcz44_1 := BK387.cl 1 (.int .i64 a0_1); have hcz44_2 := BK387.cl 2 (.slice A0_2 l0_2.length c0_2); have hcz44_3 := BK387.cl 3 (.slice A0_3 l0_3.length c0_3); have hfz44_0 := BK387.fz 0; have hfz44_1 := BK387.fz 1; have hfz44_2 := BK387.fz 2; have hfz44_3 := BK387.fz 3) | ((with_reducible refine gate_callee (f := 44) rfl ?_); refine goesM_ Try.func44 #[.agg #[.int .i64 a0_0, .int .i64 a0_1, .slice A0_2 l0_2.length c0_2, .slice A0_3 l0_3.length c0_3], .slice A388_2 ((rd_T50 l1 x13_1).f2).length c388_2] ?_; (with_reducible refine (interleaveref31_Cyclic.calls k1 a0_0 a0_1 _ _ l0_2 _ _ l0_3 _ _ ((rd_T50 l1 x13_1).f2) t401 true _ ?side1 ?side2 ?side3 ?side4 ?side5 ?side6 A38.out).mono ?_); (case side1 => exact Kd.C_below HR0_2.out HB.l); (case side2 => exact HC0_2.out); (case side3 => exact Kd.C_below HR0_3.out HB.l); (case side4 => exact HC0_3.out); (case side5 => exact Kd.C_below HR388_2.out HB.l); (case side6 => exact HC388_2.out); rintro e w45 ⟨v402, rfl, ho0, hb⟩; refine ⟨_, rfl, ?_⟩; have n0_ := Aside0.mk (Kd.S_elder' (by (with_reducible repeat (first | apply Kd.S_alloc | apply Kd.S_drewN | apply Kd.S_drew)); exact (HO_6.out)) (Kd.R_base ho0) hb); have n1_ := Aside0.mk (Kd.R_lower ho0 (below_size HB.l)); have n2_ := Aside0.mk (blk_below BK387.b hb); have n3_ := Aside0.mk (blk_below BK389.b hb); have n4_ := Aside0.mk (below_step HB.l hb); clear HO_6 BK387 BK389 HB; revert n0_ n1_ n2_ n3_ n4_; intro HO_6 HO403 BK387 BK389 HB; (try clear hb); (try clear hb2); (try clear hk); (try clear hi); (try clear ho0); obtain ⟨Ao47, co47, eo47⟩ := Kd.R_slice HO403.out; subst eo47) | ((with_reducible refine gate_builtin (b := .append) (xs := #[.tmp 93, .tmp 95]) rfl ?_); (try (refine gate_guard (by rfl) ?_; dsimp only)); at_builtin; refine Kd.S_append (Kd.slice 3 (Kd.int .i64)) (w0 := w) w.heap.size rfl (.tmp 93) (.tmp 95) 30 43 (.slice none 0 0) 24 rfl Try.underlying30 info43 rfl (by decide) (by omega) u6 x6_1 t401 [.slice Ao47 t401.length co47] (fun _ => True) (fun k_ => some k_ = (.slice Ao47 t401.length co47 : Value).ownBlock) rfl rfl ?aP (fun k_ hk_ => ((Kd.R_mono (ok' := fun k_ => ((fun _ => True)) k_ ∧ some k_ ≠ (u6 : Value).ownBlock) (Kd.R_apart' (HO403.out) (Kd.S_typed HO_6.out) (by decide)) (fun k_ hk => ⟨trivial, hk.2⟩))).1 k_ hk_.symm) ?aF ?aO ?aB ?aS ?aL ?_; (case aP => exact Kd.M_row (Kd.R_mono (Kd.R_tight rfl (Kd.R_mono (ok' := fun k_ => ((fun _ => True)) k_ ∧ some k_ ≠ (u6 : Value).ownBlock) (Kd.R_apart' (HO403.out) (Kd.S_typed HO_6.out) (by decide)) (fun k_ hk => ⟨trivial, hk.2⟩))) (fun _ h_ => h_))); (case aB => exact HB.l); (case aF => exact (fun _ _ => trivial)); (case aO => exact (by (with_reducible repeat (first | apply Kd.S_alloc | apply Kd.S_drewN | apply Kd.S_drew)); exact Kd.S_mono HO_6.out (fun k_ hk => ⟨trivial, fun e_ => hk.2 e_⟩))); (case aS => exact (below_size HB.l)); (case aL => have := LMc40.out; omega); intro v406 w46 ho hb hg hat; rw [← Ny405.out] at ho; have n0_ := Aside0.mk (blk_grown BK387.b hg (Kd.S_ne HO_6.out BK387.out (by decide))); have n1_ := Aside0.mk (blk_grown BK389.b hg (Kd.S_ne HO_6.out BK389.out (by decide))); have n2_ := Aside0.mk (hb); have n3_ := Aside0.mk (ho); clear BK387 BK389 HB HO_6 HO403; revert n0_ n1_ n2_ n3_; intro BK387 BK389 HB HO407; clear ho hb hg hat))
          go_roundg k1
          case measure => have := HK1.out; omega
          case rel => exact ⟨(y405), (wrap64 (x13_1 + 1)), (by first | rfl | (simp; done) | (simp [*]; done)), H', ⟨by have := HK1.out; omega⟩, ⟨HO407.s⟩, ⟨BK387.b⟩, ⟨HB.l⟩⟩
         ·rw [if_neg c40] at H
          exact absurd H (by simp)
        ·replace c39 := Bool.eq_false_iff.mpr c39
         subst c39
         have H1 : (some (([] : List (List Int)), x13_1)) = some (r1, r2) := by rw [if_neg (show ¬ (false = true) by decide)] at H; exact H
         clear H
         have H := H1
         clear H1
         simp only [Option.some.injEq, Prod.mk.injEq] at H
         obtain ⟨rfl, rfl⟩ := H
         have p388 : 0 ≤ (x13_1 : Int) := of_decide_eq_true (by first | (with_reducible assumption) | assumption)
         have q388 : x13_1 < (l1.length : Int) := of_decide_eq_true (by first | (with_reducible assumption) | assumption)
         obtain ⟨ad388, A388_2, c388_2, e388, hx388_0, hx388_1, hx388_2, hx388_3, hx388_4, hx388_5, hl388_2, hi388_2⟩ := at_T50 HR1.out x13_1 p388 q388
         cases e388
         replace hx388_0 := (HB.out.cell (World.block_lt_of_cell? w _ hx388_0)).trans hx388_0
         replace hx388_1 := (HB.out.cell (World.block_lt_of_cell? w _ hx388_1)).trans hx388_1
         replace hx388_2 := (HB.out.cell (World.block_lt_of_cell? w _ hx388_2)).trans hx388_2
         replace hx388_3 := (HB.out.cell (World.block_lt_of_cell? w _ hx388_3)).trans hx388_3
         replace hx388_4 := (HB.out.cell (World.block_lt_of_cell? w _ hx388_4)).trans hx388_4
         replace hx388_5 := (HB.out.cell (World.block_lt_of_cell? w _ hx388_5)).trans hx388_5
         have HR388_2 := Aside0.mk hi388_2
         have HC388_2 := Aside0.mk hl388_2
         clear hi388_2 hl388_2
         replace p388 := eq_true p388
         replace q388 := eq_true q388
         go_wp2_with (first | ((with_reducible refine gate_dst (N := 8) rfl ?_); (try (refine gate_guard (by rfl) ?_; dsimp only)); refine box_ev (N := 8) rfl (cs := #[.int .i64 0, .int .i64 0, .slice none 0 0, .int .i64 0, .int .i64 0, .int .i64 0]) (t := 50) ?_; intro gb389 hg w48z hboxz hbz; have HGz := Aside0.mk (And.intro hg (And.intro hboxz hbz)); clear hg hboxz hbz) | ((with_reducible refine gate_store (t := 50) (p := 8) (v := _) rfl ?_); have hg := HGz.out.1; refine store_box rfl rfl rfl hg HGz.out.2.1 HGz.out.2.2 rfl (cs := #[.int .i64 ((rd_T50 l1 x13_1).f0), .int .i64 ((rd_T50 l1 x13_1).f1), .slice A388_2 ((rd_T50 l1 x13_1).f2).length c388_2, .int .i64 ((rd_T50 l1 x13_1).f3), .int .i64 ((rd_T50 l1 x13_1).f4), .int .i64 ((rd_T50 l1 x13_1).f5)]) ?hx (by kernel_rfl) rfl rfl ?_; (case hx => first | rfl | (go_simp; rfl)); intro w48 hbox hb; clear HGz; have n0_ := Aside0.mk (Kd.S_below HO_6.s hb); have n1_ := Aside0.mk (blk_below BK387.b hb); have n2_ := Aside0.mk (below_step HB.l hb); have n3_ := Aside0.mk (hbox); have n4_ := Aside0.mk ((by rw [hg]; exact (below_size HB.l) : w.heap.size ≤ gb389)); have n5_ := Aside0.mk ((by rw [hg]; exact (below_size HB.l) : w.heap.size ≤ gb389)); have n6_ := Aside0.mk ((by rw [hg]; exact Nat.ne_of_lt (blk_lt BK387.b) : gb387 ≠ gb389)); have n7_ := Aside0.mk ((by rw [hg]; exact Nat.ne_of_gt (blk_lt BK387.b) : gb389 ≠ gb387)); clear HO_6 BK387 HB; revert n0_ n1_ n2_ n3_ n4_ n5_ n6_ n7_; intro HO_6 BK387 HB BK389 GW389 GE389 NB387_389 NB389_387; clear hb hbox hg; have hnb49 := NB389_387.out; have hnc49 := NB387_389.out; have hcz50_0 := BK389.cl 0 (.int .i64 ((rd_T50 l1 x13_1).f0)); have hcz50_1 := BK389.cl 1 (.int .i64 ((rd_T50 l1 x13_1).f1)); have hcz50_2 := BK389.cl 2 (.slice A388_2 ((rd_T50 l1 x13_1).f2).length c388_2); have hcz50_3 := BK389.cl 3 (.int .i64 ((rd_T50 l1 x13_1).f3)); have hcz50_4 := BK389.cl 4 (.int .i64 ((rd_T50 l1 x13_1).f4)); have hcz50_5 := BK389.cl 5 (.int .i64 ((rd_T50 l1 x13_1).f5)); have hfz50_0 := BK389.fz 0; have hfz50_1 := BK389.fz 1; have hfz50_2 := BK389.fz 2; have hfz50_3 := BK389.fz 3; have hfz50_4 := BK389.fz 4; have hfz50_5 := BK389.fz 5; have hcz51_0 := BK387.cl 0 (.int .i64 a0_0); have hcz51_1 := BK387.cl 1 (.int .i64 a0_1); have hcz51_2 := BK387.cl 2 (.slice A0_2 l0_2.length c0_2); have hcz51_3 := BK387.cl 3 (.slice A0_3 l0_3.length c0_3); have hfz51_0 := BK387.fz 0; have hfz51_1 := BK387.fz 1; have hfz51_2 := BK387.fz 2; have hfz51_3 := BK387.fz 3) | ((with_reducible refine gate_callee (f := 44) rfl ?_); refine goesM_ Try.func44 #[.agg #[.int .i64 a0_0, .int .i64 a0_1, .slice A0_2 l0_2.length c0_2, .slice A0_3 l0_3.length c0_3], .slice A388_2 ((rd_T50 l1 x13_1).f2).length c388_2] ?_; (with_reducible refine (interleaveref31_Cyclic.calls k1 a0_0 a0_1 _ _ l0_2 _ _ l0_3 _ _ ((rd_T50 l1 x13_1).f2) t401 false _ ?side1 ?side2 ?side3 ?side4 ?side5 ?side6 A38.out).mono ?_); (case side1 => exact Kd.C_below HR0_2.out HB.l); (case side2 => exact HC0_2.out); (case side3 => exact Kd.C_below HR0_3.out HB.l); (case side4 => exact HC0_3.out); (case side5 => exact Kd.C_below HR388_2.out HB.l); (case side6 => exact HC388_2.out); rintro e w52 ⟨v402, rfl, ho0, hb⟩; refine ⟨_, rfl, ?_⟩; have n0_ := Aside0.mk (Kd.S_elder' (by (with_reducible repeat (first | apply Kd.S_alloc | apply Kd.S_drewN | apply Kd.S_drew)); exact (HO_6.out)) (Kd.R_base ho0) hb); have n1_ := Aside0.mk (Kd.R_lower ho0 (below_size HB.l)); have n2_ := Aside0.mk (blk_below BK387.b hb); have n3_ := Aside0.mk (blk_below BK389.b hb); have n4_ := Aside0.mk (below_step HB.l hb); clear HO_6 BK387 BK389 HB; revert n0_ n1_ n2_ n3_ n4_; intro HO_6 HO403 BK387 BK389 HB; (try clear hb); (try clear hb2); (try clear hk); (try clear hi); (try clear ho0)))
         go_ret2
         exact ⟨_, by first | rfl | (simp [errW_none, errW_some] <;> rfl) | (simp [*, errW_none, errW_some] <;> rfl), by first | exact Kd.S_nil _ _ _ _ _ | exact Kd.N_nil _ _ _ _ _ | exact Kd.V_nil _ _ _ _ _ | exact Kd.Q_nil _ _ _ _ _ | exact Kd.R_nil _ _ _ _ _, HB.l⟩
       ·rw [if_neg c37] at H
        have c37b0 : (((rd_T50 l1 x13_1).f0) == 2) = false := beq_eq_false_iff_ne.mpr c37
        have c37b1 : (((rd_T50 l1 x13_1).f0) != 2) = true := bne_iff_ne.mpr c37
        by_cases c53 : ((rd_T50 l1 x13_1).f0) = 3
        ·rw [if_pos c53] at H
         have c53b0 : (((rd_T50 l1 x13_1).f0) == 3) = true := beq_iff_eq.mpr c53
         have c53b1 : (((rd_T50 l1 x13_1).f0) != 3) = false := bne_eq_false_iff_eq.mpr c53
         clear c53
         have HC54 := Aside0.mk H
         clear H
         have p388 : 0 ≤ (x13_1 : Int) := of_decide_eq_true (by first | (with_reducible assumption) | assumption)
         have q388 : x13_1 < (l1.length : Int) := of_decide_eq_true (by first | (with_reducible assumption) | assumption)
         obtain ⟨ad388, A388_2, c388_2, e388, hx388_0, hx388_1, hx388_2, hx388_3, hx388_4, hx388_5, hl388_2, hi388_2⟩ := at_T50 HR1.out x13_1 p388 q388
         cases e388
         replace hx388_0 := (HB.out.cell (World.block_lt_of_cell? w _ hx388_0)).trans hx388_0
         replace hx388_1 := (HB.out.cell (World.block_lt_of_cell? w _ hx388_1)).trans hx388_1
         replace hx388_2 := (HB.out.cell (World.block_lt_of_cell? w _ hx388_2)).trans hx388_2
         replace hx388_3 := (HB.out.cell (World.block_lt_of_cell? w _ hx388_3)).trans hx388_3
         replace hx388_4 := (HB.out.cell (World.block_lt_of_cell? w _ hx388_4)).trans hx388_4
         replace hx388_5 := (HB.out.cell (World.block_lt_of_cell? w _ hx388_5)).trans hx388_5
         have HR388_2 := Aside0.mk hi388_2
         have HC388_2 := Aside0.mk hl388_2
         clear hi388_2 hl388_2
         replace p388 := eq_true p388
         replace q388 := eq_true q388
         go_upto_region 14 with (first | ((with_reducible refine gate_dst (N := 8) rfl ?_); (try (refine gate_guard (by rfl) ?_; dsimp only)); refine box_ev (N := 8) rfl (cs := #[.int .i64 0, .int .i64 0, .slice none 0 0, .int .i64 0, .int .i64 0, .int .i64 0]) (t := 50) ?_; intro gb389 hg w55z hboxz hbz; have HGz := Aside0.mk (And.intro hg (And.intro hboxz hbz)); clear hg hboxz hbz) | ((with_reducible refine gate_store (t := 50) (p := 8) (v := _) rfl ?_); have hg := HGz.out.1; refine store_box rfl rfl rfl hg HGz.out.2.1 HGz.out.2.2 rfl (cs := #[.int .i64 ((rd_T50 l1 x13_1).f0), .int .i64 ((rd_T50 l1 x13_1).f1), .slice A388_2 ((rd_T50 l1 x13_1).f2).length c388_2, .int .i64 ((rd_T50 l1 x13_1).f3), .int .i64 ((rd_T50 l1 x13_1).f4), .int .i64 ((rd_T50 l1 x13_1).f5)]) ?hx (by kernel_rfl) rfl rfl ?_; (case hx => first | rfl | (go_simp; rfl)); intro w55 hbox hb; clear HGz; have n0_ := Aside0.mk (Kd.S_below HO_6.s hb); have n1_ := Aside0.mk (blk_below BK387.b hb); have n2_ := Aside0.mk (below_step HB.l hb); have n3_ := Aside0.mk (hbox); have n4_ := Aside0.mk ((by rw [hg]; exact (below_size HB.l) : w.heap.size ≤ gb389)); have n5_ := Aside0.mk ((by rw [hg]; exact (below_size HB.l) : w.heap.size ≤ gb389)); have n6_ := Aside0.mk ((by rw [hg]; exact Nat.ne_of_lt (blk_lt BK387.b) : gb387 ≠ gb389)); have n7_ := Aside0.mk ((by rw [hg]; exact Nat.ne_of_gt (blk_lt BK387.b) : gb389 ≠ gb387)); clear HO_6 BK387 HB; revert n0_ n1_ n2_ n3_ n4_ n5_ n6_ n7_; intro HO_6 BK387 HB BK389 GW389 GE389 NB387_389 NB389_387; clear hb hbox hg; have hnb56 := NB389_387.out; have hnc56 := NB387_389.out; have hcz57_0 := BK389.cl 0 (.int .i64 ((rd_T50 l1 x13_1).f0)); have hcz57_1 := BK389.cl 1 (.int .i64 ((rd_T50 l1 x13_1).f1)); have hcz57_2 := BK389.cl 2 (.slice A388_2 ((rd_T50 l1 x13_1).f2).length c388_2); have hcz57_3 := BK389.cl 3 (.int .i64 ((rd_T50 l1 x13_1).f3)); have hcz57_4 := BK389.cl 4 (.int .i64 ((rd_T50 l1 x13_1).f4)); have hcz57_5 := BK389.cl 5 (.int .i64 ((rd_T50 l1 x13_1).f5)); have hfz57_0 := BK389.fz 0; have hfz57_1 := BK389.fz 1; have hfz57_2 := BK389.fz 2; have hfz57_3 := BK389.fz 3; have hfz57_4 := BK389.fz 4; have hfz57_5 := BK389.fz 5))
         (try simp only [Act.put, List.setIfInBounds_toArray, List.set_cons_zero, List.set_cons_succ])
         go_cut [73] (fun v73 wc => ∃ (kq : Nat) (x73_53 : Bool), v73 = .bool x73_53 ∧ Aside0 (interleaveref31_Clauses.j2 kq x6_1 x13_1 ([] : List Int) false l1 (l1.length : Int) x13_1 x73_53 a0_0 a0_1 l0_2 l0_3 ((rd_T50 l1 x13_1).f0) ((rd_T50 l1 x13_1).f1) ((rd_T50 l1 x13_1).f2) ((rd_T50 l1 x13_1).f3) ((rd_T50 l1 x13_1).f4) ((rd_T50 l1 x13_1).f5) = some (r1, r2)) ∧ Aside0 (kq ≤ k1) ∧ Aside0 (Kd.S (Kd.slice 3 (Kd.int .i64)) 43 wc w.heap.size (fun k_ => some k_ ≠ ((.slice none 0 0) : Value).ownBlock) u6 x6_1) ∧ Aside0 (Kd.R (Kd.int .i64) 3 wc w.heap.size (fun _ => True) (.slice none 0 0) ([] : List Int)) ∧ Aside0 (wc.heap[gb387]? = some (.cells #[.int .i64 a0_0, .int .i64 a0_1, (.slice A0_2 l0_2.length c0_2), (.slice A0_3 l0_3.length c0_3)] 32 (0, 0))) ∧ Aside0 (wc.heap[gb389]? = some (.cells #[.int .i64 ((rd_T50 l1 x13_1).f0), .int .i64 ((rd_T50 l1 x13_1).f1), (.slice A388_2 ((rd_T50 l1 x13_1).f2).length c388_2), .int .i64 ((rd_T50 l1 x13_1).f3), .int .i64 ((rd_T50 l1 x13_1).f4), .int .i64 ((rd_T50 l1 x13_1).f5)] 50 (0, 0))) ∧ Aside0 (Below w.heap.size w wc))
         case first => as_aux_lemma =>
          have H := HC54.out
          clear HC54
          by_cases c58 : ((rd_T50 l1 x13_1).f3) ≥ 0
          ·rw [if_pos c58] at H
           have c58b0 : decide (0 ≤ ((rd_T50 l1 x13_1).f3)) = true := decide_eq_true c58
           clear c58
           (first | rw [c58b0] | (simp only [i64_w, i32_w]; rw [c58b0]) | skip)
           by_cases c59 : ((rd_T50 l1 x13_1).f3) < x13_1
           ·rw [if_pos c59] at H
            have c59b0 : decide (((rd_T50 l1 x13_1).f3) < x13_1) = true := decide_eq_true c59
            clear c59
            by_cases c60 : ((rd_T50 l1 x13_1).f4) ≥ 0
            ·rw [if_pos c60] at H
             have c60b0 : decide (0 ≤ ((rd_T50 l1 x13_1).f4)) = true := decide_eq_true c60
             clear c60
             have H' := Aside0.mk H
             clear H
             have hnb61 := NB389_387.out
             have hnc61 := NB387_389.out
             have hcz62_0 := BK389.cl 0 (.int .i64 ((rd_T50 l1 x13_1).f0))
             have hcz62_1 := BK389.cl 1 (.int .i64 ((rd_T50 l1 x13_1).f1))
             have hcz62_2 := BK389.cl 2 (.slice A388_2 ((rd_T50 l1 x13_1).f2).length c388_2)
             have hcz62_3 := BK389.cl 3 (.int .i64 ((rd_T50 l1 x13_1).f3))
             have hcz62_4 := BK389.cl 4 (.int .i64 ((rd_T50 l1 x13_1).f4))
             have hcz62_5 := BK389.cl 5 (.int .i64 ((rd_T50 l1 x13_1).f5))
             have hfz62_0 := BK389.fz 0
             have hfz62_1 := BK389.fz 1
             have hfz62_2 := BK389.fz 2
             have hfz62_3 := BK389.fz 3
             have hfz62_4 := BK389.fz 4
             have hfz62_5 := BK389.fz 5
             go_wp2
             go_meet
             case rel => exact ⟨_, (decide (((rd_T50 l1 x13_1).f4) < x13_1)), (by first | rfl | (simp; done) | (simp [*]; done)), H', ⟨by have := HK1.out; first | omega | exact Nat.le_refl _⟩, ⟨by (with_reducible repeat (first | apply Kd.S_alloc | apply Kd.S_drewN | apply Kd.S_drew)); exact Kd.S_mono (Kd.S_types HO_6.out BK389.out (by decide)) (fun _ hk => (by simp [Value.ownBlock]))⟩, ⟨by first | exact Kd.R_nil _ _ _ _ _ | exact Kd.N_nil _ _ _ _ _ | exact Kd.V_nil _ _ _ _ _ | exact Kd.Q_nil _ _ _ _ _ | exact Kd.S_nil _ _ _ _ _⟩, ⟨BK387.b⟩, ⟨BK389.b⟩, ⟨HB.l⟩⟩
            ·rw [if_neg c60] at H
             have c60b0 : decide (0 ≤ ((rd_T50 l1 x13_1).f4)) = false := decide_eq_false c60
             clear c60
             have H' := Aside0.mk H
             clear H
             have hnb63 := NB389_387.out
             have hnc63 := NB387_389.out
             have hcz64_0 := BK389.cl 0 (.int .i64 ((rd_T50 l1 x13_1).f0))
             have hcz64_1 := BK389.cl 1 (.int .i64 ((rd_T50 l1 x13_1).f1))
             have hcz64_2 := BK389.cl 2 (.slice A388_2 ((rd_T50 l1 x13_1).f2).length c388_2)
             have hcz64_3 := BK389.cl 3 (.int .i64 ((rd_T50 l1 x13_1).f3))
             have hcz64_4 := BK389.cl 4 (.int .i64 ((rd_T50 l1 x13_1).f4))
             have hcz64_5 := BK389.cl 5 (.int .i64 ((rd_T50 l1 x13_1).f5))
             have hfz64_0 := BK389.fz 0
             have hfz64_1 := BK389.fz 1
             have hfz64_2 := BK389.fz 2
             have hfz64_3 := BK389.fz 3
             have hfz64_4 := BK389.fz 4
             have hfz64_5 := BK389.fz 5
             go_wp2
             go_meet
             case rel => exact ⟨_, (false), (by first | rfl | (simp; done) | (simp [*]; done)), H', ⟨by have := HK1.out; first | omega | exact Nat.le_refl _⟩, ⟨by (with_reducible repeat (first | apply Kd.S_alloc | apply Kd.S_drewN | apply Kd.S_drew)); exact Kd.S_mono (Kd.S_types HO_6.out BK389.out (by decide)) (fun _ hk => (by simp [Value.ownBlock]))⟩, ⟨by first | exact Kd.R_nil _ _ _ _ _ | exact Kd.N_nil _ _ _ _ _ | exact Kd.V_nil _ _ _ _ _ | exact Kd.Q_nil _ _ _ _ _ | exact Kd.S_nil _ _ _ _ _⟩, ⟨BK387.b⟩, ⟨BK389.b⟩, ⟨HB.l⟩⟩
           ·rw [if_neg c59] at H
            have c59b0 : decide (((rd_T50 l1 x13_1).f3) < x13_1) = false := decide_eq_false c59
            clear c59
            have H' := Aside0.mk H
            clear H
            have hnb65 := NB389_387.out
            have hnc65 := NB387_389.out
            have hcz66_0 := BK389.cl 0 (.int .i64 ((rd_T50 l1 x13_1).f0))
            have hcz66_1 := BK389.cl 1 (.int .i64 ((rd_T50 l1 x13_1).f1))
            have hcz66_2 := BK389.cl 2 (.slice A388_2 ((rd_T50 l1 x13_1).f2).length c388_2)
            have hcz66_3 := BK389.cl 3 (.int .i64 ((rd_T50 l1 x13_1).f3))
            have hcz66_4 := BK389.cl 4 (.int .i64 ((rd_T50 l1 x13_1).f4))
            have hcz66_5 := BK389.cl 5 (.int .i64 ((rd_T50 l1 x13_1).f5))
            have hfz66_0 := BK389.fz 0
            have hfz66_1 := BK389.fz 1
            have hfz66_2 := BK389.fz 2
            have hfz66_3 := BK389.fz 3
            have hfz66_4 := BK389.fz 4
            have hfz66_5 := BK389.fz 5
            go_wp2
            go_meet
            case rel => exact ⟨_, (false), (by first | rfl | (simp; done) | (simp [*]; done)), H', ⟨by have := HK1.out; first | omega | exact Nat.le_refl _⟩, ⟨by (with_reducible repeat (first | apply Kd.S_alloc | apply Kd.S_drewN | apply Kd.S_drew)); exact Kd.S_mono (Kd.S_types HO_6.out BK389.out (by decide)) (fun _ hk => (by simp [Value.ownBlock]))⟩, ⟨by first | exact Kd.R_nil _ _ _ _ _ | exact Kd.N_nil _ _ _ _ _ | exact Kd.V_nil _ _ _ _ _ | exact Kd.Q_nil _ _ _ _ _ | exact Kd.S_nil _ _ _ _ _⟩, ⟨BK387.b⟩, ⟨BK389.b⟩, ⟨HB.l⟩⟩
          ·rw [if_neg c58] at H
           have c58b0 : decide (0 ≤ ((rd_T50 l1 x13_1).f3)) = false := decide_eq_false c58
           clear c58
           (first | rw [c58b0] | (simp only [i64_w, i32_w]; rw [c58b0]) | skip)
           have H' := Aside0.mk H
           clear H
           have hnb67 := NB389_387.out
           have hnc67 := NB387_389.out
           have hcz68_0 := BK389.cl 0 (.int .i64 ((rd_T50 l1 x13_1).f0))
           have hcz68_1 := BK389.cl 1 (.int .i64 ((rd_T50 l1 x13_1).f1))
           have hcz68_2 := BK389.cl 2 (.slice A388_2 ((rd_T50 l1 x13_1).f2).length c388_2)
           have hcz68_3 := BK389.cl 3 (.int .i64 ((rd_T50 l1 x13_1).f3))
           have hcz68_4 := BK389.cl 4 (.int .i64 ((rd_T50 l1 x13_1).f4))
           have hcz68_5 := BK389.cl 5 (.int .i64 ((rd_T50 l1 x13_1).f5))
           have hfz68_0 := BK389.fz 0
           have hfz68_1 := BK389.fz 1
           have hfz68_2 := BK389.fz 2
           have hfz68_3 := BK389.fz 3
           have hfz68_4 := BK389.fz 4
           have hfz68_5 := BK389.fz 5
           go_wp2
           go_meet
           case rel => exact ⟨_, (false), (by first | rfl | (simp; done) | (simp [*]; done)), H', ⟨by have := HK1.out; first | omega | exact Nat.le_refl _⟩, ⟨by (with_reducible repeat (first | apply Kd.S_alloc | apply Kd.S_drewN | apply Kd.S_drew)); exact Kd.S_mono (Kd.S_types HO_6.out BK389.out (by decide)) (fun _ hk => (by simp [Value.ownBlock]))⟩, ⟨by first | exact Kd.R_nil _ _ _ _ _ | exact Kd.N_nil _ _ _ _ _ | exact Kd.V_nil _ _ _ _ _ | exact Kd.Q_nil _ _ _ _ _ | exact Kd.S_nil _ _ _ _ _⟩, ⟨BK387.b⟩, ⟨BK389.b⟩, ⟨HB.l⟩⟩
         case rest => as_aux_lemma =>
          clear HC54
          try clear c1
          try clear c2
          try clear p2
          try clear c3
          try clear p3
          try clear q3
          try clear hx3
          try clear c4
          try clear c4b0
          try clear c5
          try clear c5b0
          try clear c6
          try clear c6b0
          try clear p6
          try clear c7
          try clear c7b0
          try clear c7b1
          try clear c10
          try clear c12
          try clear c12b0
          try clear c13
          try clear c16
          try clear c18
          try clear c19
          try clear c19b0
          try clear c20
          try clear c20b0
          try clear c22
          try clear c23
          try clear c24
          try clear c30
          try clear c33
          try clear c34
          try clear c35
          try clear c37
          try clear c37b0
          try clear c37b1
          try clear c38
          try clear p38
          try clear q38
          try clear hx38
          try clear c39
          try clear p39
          try clear q39
          try clear hx39
          try clear c40
          try clear c42
          try clear c43
          try clear c44
          try clear c49
          try clear c53
          try clear c53b0
          try clear c53b1
          try clear c56
          try clear c58
          try clear c58b0
          try clear c59
          try clear c59b0
          try clear c60
          try clear c60b0
          try clear c61
          try clear c63
          try clear p64
          try clear c65
          try clear c67
          try clear hcz11_0
          try clear hcz11_1
          try clear hcz11_2
          try clear hcz11_3
          try clear hcz11_4
          try clear hcz11_5
          try clear hcz14_0
          try clear hcz14_1
          try clear hcz14_2
          try clear hcz14_3
          try clear hcz14_4
          try clear hcz14_5
          try clear hcz15_0
          try clear hcz15_1
          try clear hcz15_2
          try clear hcz15_3
          try clear hcz17_0
          try clear hcz17_1
          try clear hcz17_2
          try clear hcz17_3
          try clear hcz17_4
          try clear hcz17_5
          try clear hcz25_0
          try clear hcz25_1
          try clear hcz25_2
          try clear hcz25_3
          try clear hcz26_0
          try clear hcz26_1
          try clear hcz26_2
          try clear hcz26_3
          try clear hcz26_4
          try clear hcz26_5
          try clear hcz31_0
          try clear hcz31_1
          try clear hcz31_2
          try clear hcz31_3
          try clear hcz32_0
          try clear hcz32_1
          try clear hcz32_2
          try clear hcz32_3
          try clear hcz32_4
          try clear hcz32_5
          try clear hcz43_0
          try clear hcz43_1
          try clear hcz43_2
          try clear hcz43_3
          try clear hcz43_4
          try clear hcz43_5
          try clear hcz44_0
          try clear hcz44_1
          try clear hcz44_2
          try clear hcz44_3
          try clear hcz50_0
          try clear hcz50_1
          try clear hcz50_2
          try clear hcz50_3
          try clear hcz50_4
          try clear hcz50_5
          try clear hcz51_0
          try clear hcz51_1
          try clear hcz51_2
          try clear hcz51_3
          try clear hcz57_0
          try clear hcz57_1
          try clear hcz57_2
          try clear hcz57_3
          try clear hcz57_4
          try clear hcz57_5
          try clear hcz62_0
          try clear hcz62_1
          try clear hcz62_2
          try clear hcz62_3
          try clear hcz62_4
          try clear hcz62_5
          try clear hcz64_0
          try clear hcz64_1
          try clear hcz64_2
          try clear hcz64_3
          try clear hcz64_4
          try clear hcz64_5
          try clear hcz66_0
          try clear hcz66_1
          try clear hcz66_2
          try clear hcz66_3
          try clear hcz66_4
          try clear hcz66_5
          try clear hcz68_0
          try clear hcz68_1
          try clear hcz68_2
          try clear hcz68_3
          try clear hcz68_4
          try clear hcz68_5
          try clear hfz11_0
          try clear hfz11_1
          try clear hfz11_2
          try clear hfz11_3
          try clear hfz11_4
          try clear hfz11_5
          try clear hfz14_0
          try clear hfz14_1
          try clear hfz14_2
          try clear hfz14_3
          try clear hfz14_4
          try clear hfz14_5
          try clear hfz15_0
          try clear hfz15_1
          try clear hfz15_2
          try clear hfz15_3
          try clear hfz17_0
          try clear hfz17_1
          try clear hfz17_2
          try clear hfz17_3
          try clear hfz17_4
          try clear hfz17_5
          try clear hfz25_0
          try clear hfz25_1
          try clear hfz25_2
          try clear hfz25_3
          try clear hfz26_0
          try clear hfz26_1
          try clear hfz26_2
          try clear hfz26_3
          try clear hfz26_4
          try clear hfz26_5
          try clear hfz31_0
          try clear hfz31_1
          try clear hfz31_2
          try clear hfz31_3
          try clear hfz32_0
          try clear hfz32_1
          try clear hfz32_2
          try clear hfz32_3
          try clear hfz32_4
          try clear hfz32_5
          try clear hfz43_0
          try clear hfz43_1
          try clear hfz43_2
          try clear hfz43_3
          try clear hfz43_4
          try clear hfz43_5
          try clear hfz44_0
          try clear hfz44_1
          try clear hfz44_2
          try clear hfz44_3
          try clear hfz50_0
          try clear hfz50_1
          try clear hfz50_2
          try clear hfz50_3
          try clear hfz50_4
          try clear hfz50_5
          try clear hfz51_0
          try clear hfz51_1
          try clear hfz51_2
          try clear hfz51_3
          try clear hfz57_0
          try clear hfz57_1
          try clear hfz57_2
          try clear hfz57_3
          try clear hfz57_4
          try clear hfz57_5
          try clear hfz62_0
          try clear hfz62_1
          try clear hfz62_2
          try clear hfz62_3
          try clear hfz62_4
          try clear hfz62_5
          try clear hfz64_0
          try clear hfz64_1
          try clear hfz64_2
          try clear hfz64_3
          try clear hfz64_4
          try clear hfz64_5
          try clear hfz66_0
          try clear hfz66_1
          try clear hfz66_2
          try clear hfz66_3
          try clear hfz66_4
          try clear hfz66_5
          try clear hfz68_0
          try clear hfz68_1
          try clear hfz68_2
          try clear hfz68_3
          try clear hfz68_4
          try clear hfz68_5
          try clear hx388_0
          try clear hx388_1
          try clear hx388_2
          try clear hx388_3
          try clear hx388_4
          try clear hx388_5
          try clear hx390_0
          try clear p2
          try clear p3
          try clear p388
          try clear p390
          try clear q3
          try clear q388
          try clear q390
          obtain ⟨kq, x73_53, rfl, HA, HJ53, HO_6, HO_9, BK387, BK389, HB⟩ := hcut
          cases kq with
          | zero => exact absurd HA.out (by simp [interleaveref31_Clauses.j2])
          | succ kj53 =>
           have H := HA.out
           clear HA
           simp only [interleaveref31_Clauses.j2] at H
           by_cases c69 : x73_53 = true
           ·subst c69
            have H1 : (if 0 ≤ ((rd_T50 l1 x13_1).f3) then (if ((rd_T50 l1 x13_1).f3) < (x6_1.length : Int) then (if 0 ≤ ((rd_T50 l1 x13_1).f4) then (if ((rd_T50 l1 x13_1).f4) < (x6_1.length : Int) then ((interleaveref31_Resolvent.f kj53 (rd_L1 x6_1 ((rd_T50 l1 x13_1).f3)) (rd_L1 x6_1 ((rd_T50 l1 x13_1).f4)) ((rd_T50 l1 x13_1).f5)).bind fun bt410 => (if bt410.2 = true then (if x6_1.length < 5864062014805 then (interleaveref31_Clauses.l0 kj53 (x6_1 ++ [bt410.1]) l1 (l1.length : Int) (wrap64 (x13_1 + 1)) a0_0 a0_1 l0_2 l0_3) else (none)) else (some (([] : List (List Int)), x13_1)))) else (none)) else (none)) else (none)) else (none)) = some (r1, r2) := by rw [if_pos rfl] at H; exact H
            clear H
            have H := H1
            clear H1
            by_cases c70 : 0 ≤ ((rd_T50 l1 x13_1).f3)
            ·rw [if_pos c70] at H
             have c70b0 : decide (0 ≤ ((rd_T50 l1 x13_1).f3)) = true := decide_eq_true c70
             clear c70
             by_cases c71 : ((rd_T50 l1 x13_1).f3) < (x6_1.length : Int)
             ·rw [if_pos c71] at H
              have c71b0 : decide (((rd_T50 l1 x13_1).f3) < (x6_1.length : Int)) = true := decide_eq_true c71
              clear c71
              by_cases c72 : 0 ≤ ((rd_T50 l1 x13_1).f4)
              ·rw [if_pos c72] at H
               have c72b0 : decide (0 ≤ ((rd_T50 l1 x13_1).f4)) = true := decide_eq_true c72
               clear c72
               by_cases c73 : ((rd_T50 l1 x13_1).f4) < (x6_1.length : Int)
               ·rw [if_pos c73] at H
                have c73b0 : decide (((rd_T50 l1 x13_1).f4) < (x6_1.length : Int)) = true := decide_eq_true c73
                clear c73
                replace H := Option.bind_eq_some_iff.mp H
                obtain ⟨⟨t410, t411⟩, A740, H⟩ := H
                replace H : (if t411 = true then (if x6_1.length < 5864062014805 then (interleaveref31_Clauses.l0 kj53 (x6_1 ++ [t410]) l1 (l1.length : Int) (wrap64 (x13_1 + 1)) a0_0 a0_1 l0_2 l0_3) else (none)) else (some (([] : List (List Int)), x13_1))) = some (r1, r2) := H
                have A74 := Aside0.mk A740
                clear A740
                by_cases c75 : t411 = true
                ·subst c75
                 have H1 : (if x6_1.length < 5864062014805 then (interleaveref31_Clauses.l0 kj53 (x6_1 ++ [t410]) l1 (l1.length : Int) (wrap64 (x13_1 + 1)) a0_0 a0_1 l0_2 l0_3) else (none)) = some (r1, r2) := by rw [if_pos rfl] at H; exact H
                 clear H
                 have H := H1
                 clear H1
                 by_cases c76 : x6_1.length < 5864062014805
                 ·rw [if_pos c76] at H
                  have LMc76 := Aside0.mk c76
                  clear c76
                  obtain ⟨y414, hy414⟩ : ∃ y_ : List (List Int), y_ = (x6_1 ++ [t410]) := ⟨_, rfl⟩
                  replace H : (interleaveref31_Clauses.l0 kj53 y414 l1 (l1.length : Int) (wrap64 (x13_1 + 1)) a0_0 a0_1 l0_2 l0_3) = some (r1, r2) := by first | (rw [hy414]; with_reducible exact H) | (have H2_ := (Option.bind_some _ _).symm.trans H; rw [hy414]; with_reducible exact H2_) | (have H2_ := (Option.bind_some _ _).symm.trans H; with_reducible exact H2_) | with_reducible exact H | (rw [hy414]; exact H) | exact H
                  have Ny414 := Aside0.mk hy414
                  clear hy414
                  have H' := Aside0.mk H
                  clear H
                  try go_wp2
                  have n0_ := Aside0.mk (Kd.S_drew HO_6.out)
                  have n1_ := Aside0.mk (Kd.R_drew HO_9.out)
                  have n2_ := Aside0.mk (blk_drew BK387.out)
                  have n3_ := Aside0.mk (blk_drew BK389.out)
                  have n4_ := Aside0.mk (below_drew1 HB.out)
                  clear HO_6 HO_9 BK387 BK389 HB; revert n0_ n1_ n2_ n3_ n4_; intro HO_6 HO_9 BK387 BK389 HB
                  obtain ⟨Ao78, co78, eo78⟩ := Kd.S_slice HO_6.out
                  (first | subst eo78 | (injection eo78 with f1_ f2_ f3_; have f4_ := f1_.symm; have f5_ := f3_.symm; clear f1_ f2_ f3_; subst f4_; subst f5_))
                  have p408 : 0 ≤ (((rd_T50 l1 x13_1).f3) : Int) := of_decide_eq_true (by first | (with_reducible assumption) | assumption)
                  have q408 : ((rd_T50 l1 x13_1).f3) < (x6_1.length : Int) := of_decide_eq_true (by first | (with_reducible assumption) | assumption)
                  obtain ⟨ad408, A408_0, c408_0, e408, hx408_0, hl408_0, hi408_0⟩ := at_L1 (Kd.S_reads' HO_6.out).2.2 ((rd_T50 l1 x13_1).f3) p408 q408
                  cases e408
                  obtain ⟨ce408, hce408, hMe408, hcc408⟩ := Kd.S_get HO_6.out [] ((rd_T50 l1 x13_1).f3) p408 (by first | exact q408 | exact of_decide_eq_true (by first | (with_reducible assumption) | assumption) | (have e_ := (Kd.S_reads' HO_6.out).1; omega))
                  obtain ⟨ve408_0, rfl, ge408_0⟩ := hMe408
                  have hv408_0 := hcc408 0 _ rfl
                  rw [Nat.add_zero, show ((Kd.slice 3 (Kd.int .i64))).sz = 1 from rfl, Nat.mul_one] at hv408_0
                  replace hv408_0 := Option.some.inj (hv408_0.symm.trans hx408_0)
                  rw [hv408_0] at ge408_0
                  have HL408_0 := Aside0.mk (show Kd.R (Kd.int .i64) 3 _ _ _ _ (rd_L1 x6_1 ((rd_T50 l1 x13_1).f3)) from ge408_0)
                  clear hv408_0 ge408_0
                  clear hcc408 hce408
                  have HR408_0 := Aside0.mk hi408_0
                  have HC408_0 := Aside0.mk hl408_0
                  clear hi408_0 hl408_0
                  replace p408 := eq_true p408
                  replace q408 := eq_true q408
                  have p409 : 0 ≤ (((rd_T50 l1 x13_1).f4) : Int) := of_decide_eq_true (by first | (with_reducible assumption) | assumption)
                  have q409 : ((rd_T50 l1 x13_1).f4) < (x6_1.length : Int) := of_decide_eq_true (by first | (with_reducible assumption) | assumption)
                  obtain ⟨ad409, A409_0, c409_0, e409, hx409_0, hl409_0, hi409_0⟩ := at_L1 (Kd.S_reads' HO_6.out).2.2 ((rd_T50 l1 x13_1).f4) p409 q409
                  obtain rfl : ad408 = ad409 := (by injection e409)
                  obtain ⟨ce409, hce409, hMe409, hcc409⟩ := Kd.S_get HO_6.out [] ((rd_T50 l1 x13_1).f4) p409 (by first | exact q409 | exact of_decide_eq_true (by first | (with_reducible assumption) | assumption) | (have e_ := (Kd.S_reads' HO_6.out).1; omega))
                  obtain ⟨ve409_0, rfl, ge409_0⟩ := hMe409
                  have hv409_0 := hcc409 0 _ rfl
                  rw [Nat.add_zero, show ((Kd.slice 3 (Kd.int .i64))).sz = 1 from rfl, Nat.mul_one] at hv409_0
                  replace hv409_0 := Option.some.inj (hv409_0.symm.trans hx409_0)
                  rw [hv409_0] at ge409_0
                  have HL409_0 := Aside0.mk (show Kd.R (Kd.int .i64) 3 _ _ _ _ (rd_L1 x6_1 ((rd_T50 l1 x13_1).f4)) from ge409_0)
                  clear hv409_0 ge409_0
                  clear hcc409 hce409
                  have HR409_0 := Aside0.mk hi409_0
                  have HC409_0 := Aside0.mk hl409_0
                  clear hi409_0 hl409_0
                  replace p409 := eq_true p409
                  replace q409 := eq_true q409
                  refine start_ (n := 18) (S := fun w' => w'.cell? ⟨gb389, 0, none⟩ = some (.int .i64 ((rd_T50 l1 x13_1).f0)) ∧ w'.cell? ⟨gb389, 1, none⟩ = some (.int .i64 ((rd_T50 l1 x13_1).f1)) ∧ w'.cell? ⟨gb389, 2, none⟩ = some (.slice A388_2 ((rd_T50 l1 x13_1).f2).length c388_2) ∧ w'.cell? ⟨gb389, 3, none⟩ = some (.int .i64 ((rd_T50 l1 x13_1).f3)) ∧ w'.cell? ⟨gb389, 4, none⟩ = some (.int .i64 ((rd_T50 l1 x13_1).f4)) ∧ w'.cell? ⟨gb389, 5, none⟩ = some (.int .i64 ((rd_T50 l1 x13_1).f5)) ∧ w'.cell? (ad408.add (((rd_T50 l1 x13_1).f3)).toNat) = some (.slice A408_0 (rd_L1 x6_1 ((rd_T50 l1 x13_1).f3)).length c408_0) ∧ w'.cell? (ad408.add (((rd_T50 l1 x13_1).f4)).toNat) = some (.slice A409_0 (rd_L1 x6_1 ((rd_T50 l1 x13_1).f4)).length c409_0)) (ds := []) #[false, false, false, false, false, false, false, false, false, false, false, false, false, false, false, false, false, false] (by kernel_rfl) rfl rfl ⟨(blk_cell BK389.out 0).trans rfl, (blk_cell BK389.out 1).trans rfl, (blk_cell BK389.out 2).trans rfl, (blk_cell BK389.out 3).trans rfl, (blk_cell BK389.out 4).trans rfl, (blk_cell BK389.out 5).trans rfl, hx408_0, hx409_0⟩ (fun hHeld => ?_); refine with_tabW interleaveref31_Clauses.tab15 interleaveref31_Clauses.bits15 (fun HT_ HW_ => ?_)
                  generalize wc.drew = w77 at HO_6 HO_9 BK387 BK389 HB HL408_0 HL409_0 HR408_0 HR409_0 hx408_0 hx409_0 hHeld ⊢
                  refine pure_ (i := 0) (N := some 75) (v := ?_) (a' := ?_) #[true, false, false, false, false, false, false, false, false, false, false, false, false, false, false, false, false, false] rfl rfl (any_of HT_.out (by kernel_rfl)) (fun _ _ _ h => h) (Or.inl ⟨by rfl, ?_⟩) ?_ ?_
                  rotate_left
                  ·intro w'
                   go_simp
                   with_reducible rfl
                  rotate_left
                  ·simp only [Act.put, List.setIfInBounds_toArray, List.set_cons_zero, List.set_cons_succ, i64_w, i32_w]
                   rfl
                  refine pure_ (i := 1) (N := some 76) (v := ?_) (a' := ?_) #[true, true, false, false, false, false, false, false, false, false, false, false, false, false, false, false, false, false] rfl rfl (any_of HT_.out (by kernel_rfl)) (fun _ _ _ h => h) (Or.inl ⟨by rfl, ?_⟩) ?_ ?_
                  rotate_left
                  ·intro w'
                   go_simp
                   with_reducible rfl
                  rotate_left
                  ·simp only [Act.put, List.setIfInBounds_toArray, List.set_cons_zero, List.set_cons_succ, i64_w, i32_w]
                   rfl
                  refine pure_ (i := 5) (N := some 80) (v := ?_) (a' := ?_) #[true, true, false, false, false, true, false, false, false, false, false, false, false, false, false, false, false, false] rfl rfl (any_of HT_.out (by kernel_rfl)) (fun _ _ _ h => h) (Or.inl ⟨by rfl, ?_⟩) ?_ ?_
                  rotate_left
                  ·intro w'
                   go_simp
                   with_reducible rfl
                  rotate_left
                  ·simp only [Act.put, List.setIfInBounds_toArray, List.set_cons_zero, List.set_cons_succ, i64_w, i32_w]
                   rfl
                  refine pure_ (i := 6) (N := some 81) (v := ?_) (a' := ?_) #[true, true, false, false, false, true, true, false, false, false, false, false, false, false, false, false, false, false] rfl rfl (any_of HT_.out (by kernel_rfl)) (fun _ _ _ h => h) (Or.inl ⟨by rfl, ?_⟩) ?_ ?_
                  rotate_left
                  ·intro w'
                   go_simp
                   with_reducible rfl
                  rotate_left
                  ·simp only [Act.put, List.setIfInBounds_toArray, List.set_cons_zero, List.set_cons_succ, i64_w, i32_w]
                   rfl
                  refine pure_ (i := 10) (N := some 85) (v := ?_) (a' := ?_) #[true, true, false, false, false, true, true, false, false, false, true, false, false, false, false, false, false, false] rfl rfl (any_of HT_.out (by kernel_rfl)) (fun _ _ _ h => h) (Or.inl ⟨by rfl, ?_⟩) ?_ ?_
                  rotate_left
                  ·intro w'
                   go_simp
                   with_reducible rfl
                  rotate_left
                  ·simp only [Act.put, List.setIfInBounds_toArray, List.set_cons_zero, List.set_cons_succ, i64_w, i32_w]
                   rfl
                  refine take_ (i := 2) (N := some 77) (v := ?_) (a' := ?_) #[true, true, true, false, false, true, true, false, false, false, true, false, false, false, false, false, false, false] rfl rfl (take_ofW HT_.out HW_.out (by kernel_rfl)) (fun _ _ _ h => h) (Or.inl ⟨by rfl, ?_⟩) hHeld ?_ ?_
                  rotate_left
                  ·rintro w' ⟨s0, s1, s2, s3, s4, s5, s6, s7⟩
                   go_simp
                   with_reducible rfl
                  rotate_left
                  ·simp only [Act.put, List.setIfInBounds_toArray, List.set_cons_zero, List.set_cons_succ, i64_w, i32_w]
                   rfl
                  refine pure_ (i := 3) (N := some 78) (v := ?_) (a' := ?_) #[true, true, true, true, false, true, true, false, false, false, true, false, false, false, false, false, false, false] rfl rfl (any_of HT_.out (by kernel_rfl)) (fun _ _ _ h => h) (Or.inl ⟨by rfl, ?_⟩) ?_ ?_
                  rotate_left
                  ·intro w'
                   go_simp
                   with_reducible rfl
                  rotate_left
                  ·simp only [Act.put, List.setIfInBounds_toArray, List.set_cons_zero, List.set_cons_succ, i64_w, i32_w]
                   rfl
                  refine take_ (i := 4) (N := some 79) (v := ?_) (a' := ?_) #[true, true, true, true, true, true, true, false, false, false, true, false, false, false, false, false, false, false] rfl rfl (take_ofW HT_.out HW_.out (by kernel_rfl)) (fun _ _ _ h => h) (Or.inl ⟨by rfl, ?_⟩) hHeld ?_ ?_
                  rotate_left
                  ·rintro w' ⟨s0, s1, s2, s3, s4, s5, s6, s7⟩
                   go_simp
                   with_reducible rfl
                  rotate_left
                  ·simp only [Act.put, List.setIfInBounds_toArray, List.set_cons_zero, List.set_cons_succ, i64_w, i32_w]
                   rfl
                  refine take_ (i := 7) (N := some 82) (v := ?_) (a' := ?_) #[true, true, true, true, true, true, true, true, false, false, true, false, false, false, false, false, false, false] rfl rfl (take_ofW HT_.out HW_.out (by kernel_rfl)) (fun _ _ _ h => h) (Or.inl ⟨by rfl, ?_⟩) hHeld ?_ ?_
                  rotate_left
                  ·rintro w' ⟨s0, s1, s2, s3, s4, s5, s6, s7⟩
                   go_simp
                   with_reducible rfl
                  rotate_left
                  ·simp only [Act.put, List.setIfInBounds_toArray, List.set_cons_zero, List.set_cons_succ, i64_w, i32_w]
                   rfl
                  refine pure_ (i := 8) (N := some 83) (v := ?_) (a' := ?_) #[true, true, true, true, true, true, true, true, true, false, true, false, false, false, false, false, false, false] rfl rfl (any_of HT_.out (by kernel_rfl)) (fun _ _ _ h => h) (Or.inl ⟨by rfl, ?_⟩) ?_ ?_
                  rotate_left
                  ·intro w'
                   go_simp
                   with_reducible rfl
                  rotate_left
                  ·simp only [Act.put, List.setIfInBounds_toArray, List.set_cons_zero, List.set_cons_succ, i64_w, i32_w]
                   rfl
                  refine take_ (i := 9) (N := some 84) (v := ?_) (a' := ?_) #[true, true, true, true, true, true, true, true, true, true, true, false, false, false, false, false, false, false] rfl rfl (take_ofW HT_.out HW_.out (by kernel_rfl)) (fun _ _ _ h => h) (Or.inl ⟨by rfl, ?_⟩) hHeld ?_ ?_
                  rotate_left
                  ·rintro w' ⟨s0, s1, s2, s3, s4, s5, s6, s7⟩
                   go_simp
                   with_reducible rfl
                  rotate_left
                  ·simp only [Act.put, List.setIfInBounds_toArray, List.set_cons_zero, List.set_cons_succ, i64_w, i32_w]
                   rfl
                  refine take_ (i := 11) (N := some 86) (v := ?_) (a' := ?_) #[true, true, true, true, true, true, true, true, true, true, true, true, false, false, false, false, false, false] rfl rfl (take_ofW HT_.out HW_.out (by kernel_rfl)) (fun _ _ _ h => h) (Or.inl ⟨by rfl, ?_⟩) hHeld ?_ ?_
                  rotate_left
                  ·rintro w' ⟨s0, s1, s2, s3, s4, s5, s6, s7⟩
                   go_simp
                   with_reducible rfl
                  rotate_left
                  ·simp only [Act.put, List.setIfInBounds_toArray, List.set_cons_zero, List.set_cons_succ, i64_w, i32_w]
                   rfl
                  refine one_ (i := 12) (N := some 87) #[true, true, true, true, true, true, true, true, true, true, true, true, true, false, false, false, false, false] rfl rfl (one_of HT_.out (by kernel_rfl)) (by decide) (fun K hK => ?_)
                  refine goes_ Try.func45 (by kernel_rfl) rfl #[.slice A408_0 (rd_L1 x6_1 ((rd_T50 l1 x13_1).f3)).length c408_0, .slice A409_0 (rd_L1 x6_1 ((rd_T50 l1 x13_1).f4)).length c409_0, .int .i64 ((rd_T50 l1 x13_1).f5)] (by rfl) rfl rfl (by (try simp only [List.map_toArray, List.map_cons, List.map_nil]); first | done | rfl | (simp only [List.length_drop, List.length_take]; rfl)) ?_
                  with_reducible refine (interleaveref31_Resolvent.calls kj53 _ _ (rd_L1 x6_1 ((rd_T50 l1 x13_1).f3)) _ _ (rd_L1 x6_1 ((rd_T50 l1 x13_1).f4)) ((rd_T50 l1 x13_1).f5) t410 true _ ?side1 ?side2 ?side3 ?side4 A74.out).mono ?_
                  (case side1 => repeat (first | exact (by repeat (first | (with_reducible exact HR408_0.out) | (with_reducible refine Kd.C_alloc ?_ _) | (with_reducible refine Kd.C_drewN ?_ _) | (with_reducible refine Kd.C_drew ?_) | exact HR408_0.out)) | (with_reducible refine Kd.C_alloc ?_ _) | (with_reducible refine Kd.C_drewN ?_ _) | (with_reducible refine Kd.C_drew ?_)))
                  (case side2 => exact HC408_0.out)
                  (case side3 => repeat (first | exact (by repeat (first | (with_reducible exact HR409_0.out) | (with_reducible refine Kd.C_alloc ?_ _) | (with_reducible refine Kd.C_drewN ?_ _) | (with_reducible refine Kd.C_drew ?_) | exact HR409_0.out)) | (with_reducible refine Kd.C_alloc ?_ _) | (with_reducible refine Kd.C_drewN ?_ _) | (with_reducible refine Kd.C_drew ?_)))
                  (case side4 => exact HC409_0.out)
                  rintro e w79 ⟨v412, rfl, ho0, hb⟩
                  have HS6_ := (hb.cell (World.block_lt_of_cell? _ _ (hHeld.2.2.2.2.2.2.1))).trans (hHeld.2.2.2.2.2.2.1)
                  have HS7_ := (hb.cell (World.block_lt_of_cell? _ _ (hHeld.2.2.2.2.2.2.2))).trans (hHeld.2.2.2.2.2.2.2)
                  refine ⟨_, rfl, ?_⟩
                  have n0_ := Aside0.mk (Kd.S_elder' HO_6.s (Kd.R_base ho0) hb)
                  have n1_ := Aside0.mk (Kd.R_elder' HO_9.r (Kd.R_base ho0) hb)
                  have n2_ := Aside0.mk (Kd.R_elder' HL408_0.r (Kd.R_base ho0) hb)
                  have n3_ := Aside0.mk (Kd.R_elder' HL409_0.r (Kd.R_base ho0) hb)
                  have n4_ := Aside0.mk (Kd.R_lower (Kd.R_new' (Kd.R_new' (Kd.R_new' ho0 (Kd.R_lt HO_9.r)) (Kd.R_lt HL408_0.r)) (Kd.R_lt HL409_0.r)) (below_size HB.l))
                  have n5_ := Aside0.mk (blk_below BK387.b hb)
                  have n6_ := Aside0.mk (blk_below BK389.b hb)
                  have n7_ := Aside0.mk (Kd.C_below (by repeat (first | (with_reducible exact HR408_0.out) | (with_reducible refine Kd.C_alloc ?_ _) | (with_reducible refine Kd.C_drewN ?_ _) | (with_reducible refine Kd.C_drew ?_) | exact HR408_0.out)) hb)
                  have n8_ := Aside0.mk (Kd.C_below (by repeat (first | (with_reducible exact HR409_0.out) | (with_reducible refine Kd.C_alloc ?_ _) | (with_reducible refine Kd.C_drewN ?_ _) | (with_reducible refine Kd.C_drew ?_) | exact HR409_0.out)) hb)
                  have n9_ := Aside0.mk (below_step HB.l hb)
                  clear HO_6 HO_9 HL408_0 HL409_0 BK387 BK389 HR408_0 HR409_0 HB; revert n0_ n1_ n2_ n3_ n4_ n5_ n6_ n7_ n8_ n9_; intro HO_6 HO_9 HL408_0 HL409_0 HO413 BK387 BK389 HR408_0 HR409_0 HB
                  (try clear hb)
                  (try clear hb2)
                  (try clear hk)
                  (try clear hi)
                  (try clear ho0)
                  refine hK.out _ _ ⟨(blk_cell BK389.out 0).trans rfl, (blk_cell BK389.out 1).trans rfl, (blk_cell BK389.out 2).trans rfl, (blk_cell BK389.out 3).trans rfl, (blk_cell BK389.out 4).trans rfl, (blk_cell BK389.out 5).trans rfl, HS6_, HS7_⟩ (fun hHeld => ?_)
                  clear hK K
                  refine norm_ (a' := ?_) ?_ ?_
                  rotate_left
                  ·show Act.put _ (some 87) _ = _
                   simp only [Act.put, List.setIfInBounds_toArray, List.set_cons_zero, List.set_cons_succ, i64_w, i32_w]
                   rfl
                  refine pure_ (i := 13) (N := some 74) (v := ?_) (a' := ?_) #[true, true, true, true, true, true, true, true, true, true, true, true, true, true, false, false, false, false] rfl rfl (any_of HT_.out (by kernel_rfl)) (fun _ _ _ h => h) (Or.inl ⟨by rfl, ?_⟩) ?_ ?_
                  rotate_left
                  ·intro w'
                   go_simp
                   with_reducible rfl
                  rotate_left
                  ·simp only [Act.put, List.setIfInBounds_toArray, List.set_cons_zero, List.set_cons_succ, i64_w, i32_w]
                   rfl
                  refine pure_ (i := 14) (N := some 88) (v := ?_) (a' := ?_) #[true, true, true, true, true, true, true, true, true, true, true, true, true, true, true, false, false, false] rfl rfl (any_of HT_.out (by kernel_rfl)) (fun _ _ _ h => h) (Or.inl ⟨by rfl, ?_⟩) ?_ ?_
                  rotate_left
                  ·intro w'
                   go_simp
                   with_reducible rfl
                  rotate_left
                  ·simp only [Act.put, List.setIfInBounds_toArray, List.set_cons_zero, List.set_cons_succ, i64_w, i32_w]
                   rfl
                  refine pure_ (i := 15) (N := some 89) (v := ?_) (a' := ?_) #[true, true, true, true, true, true, true, true, true, true, true, true, true, true, true, true, false, false] rfl rfl (any_of HT_.out (by kernel_rfl)) (fun _ _ _ h => h) (Or.inl ⟨by rfl, ?_⟩) ?_ ?_
                  rotate_left
                  ·intro w'
                   go_simp
                   with_reducible rfl
                  rotate_left
                  ·simp only [Act.put, List.setIfInBounds_toArray, List.set_cons_zero, List.set_cons_succ, i64_w, i32_w]
                   rfl
                  refine pure_ (i := 16) (N := some 9) (v := ?_) (a' := ?_) #[true, true, true, true, true, true, true, true, true, true, true, true, true, true, true, true, true, false] rfl rfl (any_of HT_.out (by kernel_rfl)) (fun _ _ _ h => h) (Or.inl ⟨by rfl, ?_⟩) ?_ ?_
                  rotate_left
                  ·intro w'
                   go_simp
                   with_reducible rfl
                  rotate_left
                  ·simp only [Act.put, List.setIfInBounds_toArray, List.set_cons_zero, List.set_cons_succ, i64_w, i32_w]
                   rfl
                  refine pure_ (i := 17) (N := some 10) (v := ?_) (a' := ?_) #[true, true, true, true, true, true, true, true, true, true, true, true, true, true, true, true, true, true] rfl rfl (any_of HT_.out (by kernel_rfl)) (fun _ _ _ h => h) (Or.inl ⟨by rfl, ?_⟩) ?_ ?_
                  rotate_left
                  ·intro w'
                   go_simp
                   with_reducible rfl
                  rotate_left
                  ·simp only [Act.put, List.setIfInBounds_toArray, List.set_cons_zero, List.set_cons_succ, i64_w, i32_w]
                   rfl
                  refine done_ (done_of HT_.out (by kernel_rfl)) ?_
                  obtain ⟨Ao81, co81, eo81⟩ := Kd.R_slice HO413.out
                  subst eo81
                  try go_wp2_with (first | ((with_reducible refine gate_builtin (b := .append) (xs := #[.tmp 93, .tmp 95]) rfl ?_); (try (refine gate_guard (by rfl) ?_; dsimp only)); at_builtin; refine Kd.S_append (Kd.slice 3 (Kd.int .i64)) (w0 := w) w.heap.size rfl (.tmp 93) (.tmp 95) 30 43 (.slice none 0 0) 24 rfl Try.underlying30 info43 rfl (by decide) (by omega) (.slice (some ad408) x6_1.length co78) x6_1 t410 [.slice Ao81 t410.length co81] (fun k_ => some k_ ≠ (.slice none 0 0 : Value).ownBlock) (fun k_ => some k_ = (.slice Ao81 t410.length co81 : Value).ownBlock) rfl rfl ?aP (fun k_ hk_ => ((Kd.R_mono (ok' := fun k_ => ((fun k_ => some k_ ≠ (.slice none 0 0 : Value).ownBlock)) k_ ∧ some k_ ≠ (.slice (some ad408) x6_1.length co78 : Value).ownBlock) (Kd.R_apart' (HO413.out) (Kd.S_typed HO_6.out) (by decide)) (fun k_ hk => ⟨hk.1.1.1.2, hk.2⟩))).1 k_ hk_.symm) ?aF ?aO ?aB ?aS ?aL ?_; (case aP => exact Kd.M_row (Kd.R_mono (Kd.R_tight rfl (Kd.R_mono (ok' := fun k_ => ((fun k_ => some k_ ≠ (.slice none 0 0 : Value).ownBlock)) k_ ∧ some k_ ≠ (.slice (some ad408) x6_1.length co78 : Value).ownBlock) (Kd.R_apart' (HO413.out) (Kd.S_typed HO_6.out) (by decide)) (fun k_ hk => ⟨hk.1.1.1.2, hk.2⟩))) (fun _ h_ => h_))); (case aB => exact HB.l); (case aF => exact (fun k_ hk => Kd.fresh' (Kd.R_lt HO_9.r) k_ hk)); (case aO => exact (by (with_reducible repeat (first | apply Kd.S_alloc | apply Kd.S_drewN | apply Kd.S_drew)); exact Kd.S_mono HO_6.out (fun k_ hk => ⟨hk.1, fun e_ => hk.2 e_⟩))); (case aS => exact (below_size HB.l)); (case aL => have := LMc76.out; omega); intro v415 w80 ho hb hg hat; rw [← Ny414.out] at ho; have n0_ := Aside0.mk (Kd.R_over' HO_9.r (Kd.S_typed HO_6.s) (by decide) hg); have n1_ := Aside0.mk (blk_grown BK387.b hg (Kd.S_ne HO_6.out BK387.out (by decide))); have n2_ := Aside0.mk (blk_grown BK389.b hg (Kd.S_ne HO_6.out BK389.out (by decide))); have n3_ := Aside0.mk (Kd.R_after (ok := (fun k_ => some k_ ≠ (.slice none 0 0 : Value).ownBlock ∧ some k_ ≠ (.slice Ao81 t410.length co81 : Value).ownBlock)) (by (with_reducible repeat (first | apply Kd.R_alloc | apply Kd.R_drewN | apply Kd.R_drew)); exact Kd.R_mono HL408_0.out (fun _ hk => ⟨⟨hk.1.1, hk.2⟩, hk.1.2⟩)) hg hat); have n4_ := Aside0.mk (Kd.R_after (ok := (fun k_ => some k_ ≠ (.slice none 0 0 : Value).ownBlock ∧ some k_ ≠ (.slice Ao81 t410.length co81 : Value).ownBlock)) (by (with_reducible repeat (first | apply Kd.R_alloc | apply Kd.R_drewN | apply Kd.R_drew)); exact Kd.R_mono HL409_0.out (fun _ hk => ⟨⟨hk.1.1, hk.2⟩, hk.1.2⟩)) hg hat); have n5_ := Aside0.mk (hb); have n6_ := Aside0.mk (ho); clear HO_9 BK387 BK389 HL408_0 HL409_0 HB HO_6 HO413; revert n0_ n1_ n2_ n3_ n4_ n5_ n6_; intro HO_9 BK387 BK389 HL408_0 HL409_0 HB HO416; clear ho hb hg hat))
                  go_roundg kj53
                  case measure => have := HK1.out; have := HJ53.out; omega
                  case rel => exact ⟨(y414), (wrap64 (x13_1 + 1)), (by first | rfl | (simp; done) | (simp [*]; done)), H', ⟨by have := HK1.out; have := HJ53.out; omega⟩, ⟨by (with_reducible repeat (first | apply Kd.S_alloc | apply Kd.S_drewN | apply Kd.S_drew)); exact Kd.S_mono HO416.out (fun _ hk => trivial)⟩, ⟨BK387.b⟩, ⟨HB.l⟩⟩
                 ·rw [if_neg c76] at H
                  exact absurd H (by simp)
                ·replace c75 := Bool.eq_false_iff.mpr c75
                 subst c75
                 have H1 : (some (([] : List (List Int)), x13_1)) = some (r1, r2) := by rw [if_neg (show ¬ (false = true) by decide)] at H; exact H
                 clear H
                 have H := H1
                 clear H1
                 simp only [Option.some.injEq, Prod.mk.injEq] at H
                 obtain ⟨rfl, rfl⟩ := H
                 try go_wp2
                 have n0_ := Aside0.mk (Kd.S_drew HO_6.out)
                 have n1_ := Aside0.mk (Kd.R_drew HO_9.out)
                 have n2_ := Aside0.mk (blk_drew BK387.out)
                 have n3_ := Aside0.mk (blk_drew BK389.out)
                 have n4_ := Aside0.mk (below_drew1 HB.out)
                 clear HO_6 HO_9 BK387 BK389 HB; revert n0_ n1_ n2_ n3_ n4_; intro HO_6 HO_9 BK387 BK389 HB
                 obtain ⟨Ao83, co83, eo83⟩ := Kd.S_slice HO_6.out
                 (first | subst eo83 | (injection eo83 with f1_ f2_ f3_; have f4_ := f1_.symm; have f5_ := f3_.symm; clear f1_ f2_ f3_; subst f4_; subst f5_))
                 have p408 : 0 ≤ (((rd_T50 l1 x13_1).f3) : Int) := of_decide_eq_true (by first | (with_reducible assumption) | assumption)
                 have q408 : ((rd_T50 l1 x13_1).f3) < (x6_1.length : Int) := of_decide_eq_true (by first | (with_reducible assumption) | assumption)
                 obtain ⟨ad408, A408_0, c408_0, e408, hx408_0, hl408_0, hi408_0⟩ := at_L1 (Kd.S_reads' HO_6.out).2.2 ((rd_T50 l1 x13_1).f3) p408 q408
                 cases e408
                 obtain ⟨ce408, hce408, hMe408, hcc408⟩ := Kd.S_get HO_6.out [] ((rd_T50 l1 x13_1).f3) p408 (by first | exact q408 | exact of_decide_eq_true (by first | (with_reducible assumption) | assumption) | (have e_ := (Kd.S_reads' HO_6.out).1; omega))
                 obtain ⟨ve408_0, rfl, ge408_0⟩ := hMe408
                 have hv408_0 := hcc408 0 _ rfl
                 rw [Nat.add_zero, show ((Kd.slice 3 (Kd.int .i64))).sz = 1 from rfl, Nat.mul_one] at hv408_0
                 replace hv408_0 := Option.some.inj (hv408_0.symm.trans hx408_0)
                 rw [hv408_0] at ge408_0
                 have HL408_0 := Aside0.mk (show Kd.R (Kd.int .i64) 3 _ _ _ _ (rd_L1 x6_1 ((rd_T50 l1 x13_1).f3)) from ge408_0)
                 clear hv408_0 ge408_0
                 clear hcc408 hce408
                 have HR408_0 := Aside0.mk hi408_0
                 have HC408_0 := Aside0.mk hl408_0
                 clear hi408_0 hl408_0
                 replace p408 := eq_true p408
                 replace q408 := eq_true q408
                 have p409 : 0 ≤ (((rd_T50 l1 x13_1).f4) : Int) := of_decide_eq_true (by first | (with_reducible assumption) | assumption)
                 have q409 : ((rd_T50 l1 x13_1).f4) < (x6_1.length : Int) := of_decide_eq_true (by first | (with_reducible assumption) | assumption)
                 obtain ⟨ad409, A409_0, c409_0, e409, hx409_0, hl409_0, hi409_0⟩ := at_L1 (Kd.S_reads' HO_6.out).2.2 ((rd_T50 l1 x13_1).f4) p409 q409
                 obtain rfl : ad408 = ad409 := (by injection e409)
                 obtain ⟨ce409, hce409, hMe409, hcc409⟩ := Kd.S_get HO_6.out [] ((rd_T50 l1 x13_1).f4) p409 (by first | exact q409 | exact of_decide_eq_true (by first | (with_reducible assumption) | assumption) | (have e_ := (Kd.S_reads' HO_6.out).1; omega))
                 obtain ⟨ve409_0, rfl, ge409_0⟩ := hMe409
                 have hv409_0 := hcc409 0 _ rfl
                 rw [Nat.add_zero, show ((Kd.slice 3 (Kd.int .i64))).sz = 1 from rfl, Nat.mul_one] at hv409_0
                 replace hv409_0 := Option.some.inj (hv409_0.symm.trans hx409_0)
                 rw [hv409_0] at ge409_0
                 have HL409_0 := Aside0.mk (show Kd.R (Kd.int .i64) 3 _ _ _ _ (rd_L1 x6_1 ((rd_T50 l1 x13_1).f4)) from ge409_0)
                 clear hv409_0 ge409_0
                 clear hcc409 hce409
                 have HR409_0 := Aside0.mk hi409_0
                 have HC409_0 := Aside0.mk hl409_0
                 clear hi409_0 hl409_0
                 replace p409 := eq_true p409
                 replace q409 := eq_true q409
                 refine start_ (n := 18) (S := fun w' => w'.cell? ⟨gb389, 0, none⟩ = some (.int .i64 ((rd_T50 l1 x13_1).f0)) ∧ w'.cell? ⟨gb389, 1, none⟩ = some (.int .i64 ((rd_T50 l1 x13_1).f1)) ∧ w'.cell? ⟨gb389, 2, none⟩ = some (.slice A388_2 ((rd_T50 l1 x13_1).f2).length c388_2) ∧ w'.cell? ⟨gb389, 3, none⟩ = some (.int .i64 ((rd_T50 l1 x13_1).f3)) ∧ w'.cell? ⟨gb389, 4, none⟩ = some (.int .i64 ((rd_T50 l1 x13_1).f4)) ∧ w'.cell? ⟨gb389, 5, none⟩ = some (.int .i64 ((rd_T50 l1 x13_1).f5)) ∧ w'.cell? (ad408.add (((rd_T50 l1 x13_1).f3)).toNat) = some (.slice A408_0 (rd_L1 x6_1 ((rd_T50 l1 x13_1).f3)).length c408_0) ∧ w'.cell? (ad408.add (((rd_T50 l1 x13_1).f4)).toNat) = some (.slice A409_0 (rd_L1 x6_1 ((rd_T50 l1 x13_1).f4)).length c409_0)) (ds := []) #[false, false, false, false, false, false, false, false, false, false, false, false, false, false, false, false, false, false] (by kernel_rfl) rfl rfl ⟨(blk_cell BK389.out 0).trans rfl, (blk_cell BK389.out 1).trans rfl, (blk_cell BK389.out 2).trans rfl, (blk_cell BK389.out 3).trans rfl, (blk_cell BK389.out 4).trans rfl, (blk_cell BK389.out 5).trans rfl, hx408_0, hx409_0⟩ (fun hHeld => ?_); refine with_tabW interleaveref31_Clauses.tab15 interleaveref31_Clauses.bits15 (fun HT_ HW_ => ?_)
                 generalize wc.drew = w82 at HO_6 HO_9 BK387 BK389 HB HL408_0 HL409_0 HR408_0 HR409_0 hx408_0 hx409_0 hHeld ⊢
                 refine pure_ (i := 0) (N := some 75) (v := ?_) (a' := ?_) #[true, false, false, false, false, false, false, false, false, false, false, false, false, false, false, false, false, false] rfl rfl (any_of HT_.out (by kernel_rfl)) (fun _ _ _ h => h) (Or.inl ⟨by rfl, ?_⟩) ?_ ?_
                 rotate_left
                 ·intro w'
                  go_simp
                  with_reducible rfl
                 rotate_left
                 ·simp only [Act.put, List.setIfInBounds_toArray, List.set_cons_zero, List.set_cons_succ, i64_w, i32_w]
                  rfl
                 refine pure_ (i := 1) (N := some 76) (v := ?_) (a' := ?_) #[true, true, false, false, false, false, false, false, false, false, false, false, false, false, false, false, false, false] rfl rfl (any_of HT_.out (by kernel_rfl)) (fun _ _ _ h => h) (Or.inl ⟨by rfl, ?_⟩) ?_ ?_
                 rotate_left
                 ·intro w'
                  go_simp
                  with_reducible rfl
                 rotate_left
                 ·simp only [Act.put, List.setIfInBounds_toArray, List.set_cons_zero, List.set_cons_succ, i64_w, i32_w]
                  rfl
                 refine pure_ (i := 5) (N := some 80) (v := ?_) (a' := ?_) #[true, true, false, false, false, true, false, false, false, false, false, false, false, false, false, false, false, false] rfl rfl (any_of HT_.out (by kernel_rfl)) (fun _ _ _ h => h) (Or.inl ⟨by rfl, ?_⟩) ?_ ?_
                 rotate_left
                 ·intro w'
                  go_simp
                  with_reducible rfl
                 rotate_left
                 ·simp only [Act.put, List.setIfInBounds_toArray, List.set_cons_zero, List.set_cons_succ, i64_w, i32_w]
                  rfl
                 refine pure_ (i := 6) (N := some 81) (v := ?_) (a' := ?_) #[true, true, false, false, false, true, true, false, false, false, false, false, false, false, false, false, false, false] rfl rfl (any_of HT_.out (by kernel_rfl)) (fun _ _ _ h => h) (Or.inl ⟨by rfl, ?_⟩) ?_ ?_
                 rotate_left
                 ·intro w'
                  go_simp
                  with_reducible rfl
                 rotate_left
                 ·simp only [Act.put, List.setIfInBounds_toArray, List.set_cons_zero, List.set_cons_succ, i64_w, i32_w]
                  rfl
                 refine pure_ (i := 10) (N := some 85) (v := ?_) (a' := ?_) #[true, true, false, false, false, true, true, false, false, false, true, false, false, false, false, false, false, false] rfl rfl (any_of HT_.out (by kernel_rfl)) (fun _ _ _ h => h) (Or.inl ⟨by rfl, ?_⟩) ?_ ?_
                 rotate_left
                 ·intro w'
                  go_simp
                  with_reducible rfl
                 rotate_left
                 ·simp only [Act.put, List.setIfInBounds_toArray, List.set_cons_zero, List.set_cons_succ, i64_w, i32_w]
                  rfl
                 refine take_ (i := 2) (N := some 77) (v := ?_) (a' := ?_) #[true, true, true, false, false, true, true, false, false, false, true, false, false, false, false, false, false, false] rfl rfl (take_ofW HT_.out HW_.out (by kernel_rfl)) (fun _ _ _ h => h) (Or.inl ⟨by rfl, ?_⟩) hHeld ?_ ?_
                 rotate_left
                 ·rintro w' ⟨s0, s1, s2, s3, s4, s5, s6, s7⟩
                  go_simp
                  with_reducible rfl
                 rotate_left
                 ·simp only [Act.put, List.setIfInBounds_toArray, List.set_cons_zero, List.set_cons_succ, i64_w, i32_w]
                  rfl
                 refine pure_ (i := 3) (N := some 78) (v := ?_) (a' := ?_) #[true, true, true, true, false, true, true, false, false, false, true, false, false, false, false, false, false, false] rfl rfl (any_of HT_.out (by kernel_rfl)) (fun _ _ _ h => h) (Or.inl ⟨by rfl, ?_⟩) ?_ ?_
                 rotate_left
                 ·intro w'
                  go_simp
                  with_reducible rfl
                 rotate_left
                 ·simp only [Act.put, List.setIfInBounds_toArray, List.set_cons_zero, List.set_cons_succ, i64_w, i32_w]
                  rfl
                 refine take_ (i := 4) (N := some 79) (v := ?_) (a' := ?_) #[true, true, true, true, true, true, true, false, false, false, true, false, false, false, false, false, false, false] rfl rfl (take_ofW HT_.out HW_.out (by kernel_rfl)) (fun _ _ _ h => h) (Or.inl ⟨by rfl, ?_⟩) hHeld ?_ ?_
                 rotate_left
                 ·rintro w' ⟨s0, s1, s2, s3, s4, s5, s6, s7⟩
                  go_simp
                  with_reducible rfl
                 rotate_left
                 ·simp only [Act.put, List.setIfInBounds_toArray, List.set_cons_zero, List.set_cons_succ, i64_w, i32_w]
                  rfl
                 refine take_ (i := 7) (N := some 82) (v := ?_) (a' := ?_) #[true, true, true, true, true, true, true, true, false, false, true, false, false, false, false, false, false, false] rfl rfl (take_ofW HT_.out HW_.out (by kernel_rfl)) (fun _ _ _ h => h) (Or.inl ⟨by rfl, ?_⟩) hHeld ?_ ?_
                 rotate_left
                 ·rintro w' ⟨s0, s1, s2, s3, s4, s5, s6, s7⟩
                  go_simp
                  with_reducible rfl
                 rotate_left
                 ·simp only [Act.put, List.setIfInBounds_toArray, List.set_cons_zero, List.set_cons_succ, i64_w, i32_w]
                  rfl
                 refine pure_ (i := 8) (N := some 83) (v := ?_) (a' := ?_) #[true, true, true, true, true, true, true, true, true, false, true, false, false, false, false, false, false, false] rfl rfl (any_of HT_.out (by kernel_rfl)) (fun _ _ _ h => h) (Or.inl ⟨by rfl, ?_⟩) ?_ ?_
                 rotate_left
                 ·intro w'
                  go_simp
                  with_reducible rfl
                 rotate_left
                 ·simp only [Act.put, List.setIfInBounds_toArray, List.set_cons_zero, List.set_cons_succ, i64_w, i32_w]
                  rfl
                 refine take_ (i := 9) (N := some 84) (v := ?_) (a' := ?_) #[true, true, true, true, true, true, true, true, true, true, true, false, false, false, false, false, false, false] rfl rfl (take_ofW HT_.out HW_.out (by kernel_rfl)) (fun _ _ _ h => h) (Or.inl ⟨by rfl, ?_⟩) hHeld ?_ ?_
                 rotate_left
                 ·rintro w' ⟨s0, s1, s2, s3, s4, s5, s6, s7⟩
                  go_simp
                  with_reducible rfl
                 rotate_left
                 ·simp only [Act.put, List.setIfInBounds_toArray, List.set_cons_zero, List.set_cons_succ, i64_w, i32_w]
                  rfl
                 refine take_ (i := 11) (N := some 86) (v := ?_) (a' := ?_) #[true, true, true, true, true, true, true, true, true, true, true, true, false, false, false, false, false, false] rfl rfl (take_ofW HT_.out HW_.out (by kernel_rfl)) (fun _ _ _ h => h) (Or.inl ⟨by rfl, ?_⟩) hHeld ?_ ?_
                 rotate_left
                 ·rintro w' ⟨s0, s1, s2, s3, s4, s5, s6, s7⟩
                  go_simp
                  with_reducible rfl
                 rotate_left
                 ·simp only [Act.put, List.setIfInBounds_toArray, List.set_cons_zero, List.set_cons_succ, i64_w, i32_w]
                  rfl
                 refine one_ (i := 12) (N := some 87) #[true, true, true, true, true, true, true, true, true, true, true, true, true, false, false, false, false, false] rfl rfl (one_of HT_.out (by kernel_rfl)) (by decide) (fun K hK => ?_)
                 refine goes_ Try.func45 (by kernel_rfl) rfl #[.slice A408_0 (rd_L1 x6_1 ((rd_T50 l1 x13_1).f3)).length c408_0, .slice A409_0 (rd_L1 x6_1 ((rd_T50 l1 x13_1).f4)).length c409_0, .int .i64 ((rd_T50 l1 x13_1).f5)] (by rfl) rfl rfl (by (try simp only [List.map_toArray, List.map_cons, List.map_nil]); first | done | rfl | (simp only [List.length_drop, List.length_take]; rfl)) ?_
                 with_reducible refine (interleaveref31_Resolvent.calls kj53 _ _ (rd_L1 x6_1 ((rd_T50 l1 x13_1).f3)) _ _ (rd_L1 x6_1 ((rd_T50 l1 x13_1).f4)) ((rd_T50 l1 x13_1).f5) t410 false _ ?side1 ?side2 ?side3 ?side4 A74.out).mono ?_
                 (case side1 => repeat (first | exact (by repeat (first | (with_reducible exact HR408_0.out) | (with_reducible refine Kd.C_alloc ?_ _) | (with_reducible refine Kd.C_drewN ?_ _) | (with_reducible refine Kd.C_drew ?_) | exact HR408_0.out)) | (with_reducible refine Kd.C_alloc ?_ _) | (with_reducible refine Kd.C_drewN ?_ _) | (with_reducible refine Kd.C_drew ?_)))
                 (case side2 => exact HC408_0.out)
                 (case side3 => repeat (first | exact (by repeat (first | (with_reducible exact HR409_0.out) | (with_reducible refine Kd.C_alloc ?_ _) | (with_reducible refine Kd.C_drewN ?_ _) | (with_reducible refine Kd.C_drew ?_) | exact HR409_0.out)) | (with_reducible refine Kd.C_alloc ?_ _) | (with_reducible refine Kd.C_drewN ?_ _) | (with_reducible refine Kd.C_drew ?_)))
                 (case side4 => exact HC409_0.out)
                 rintro e w84 ⟨v412, rfl, ho0, hb⟩
                 have HS6_ := (hb.cell (World.block_lt_of_cell? _ _ (hHeld.2.2.2.2.2.2.1))).trans (hHeld.2.2.2.2.2.2.1)
                 have HS7_ := (hb.cell (World.block_lt_of_cell? _ _ (hHeld.2.2.2.2.2.2.2))).trans (hHeld.2.2.2.2.2.2.2)
                 refine ⟨_, rfl, ?_⟩
                 have n0_ := Aside0.mk (Kd.S_elder' HO_6.s (Kd.R_base ho0) hb)
                 have n1_ := Aside0.mk (Kd.R_elder' HO_9.r (Kd.R_base ho0) hb)
                 have n2_ := Aside0.mk (Kd.R_elder' HL408_0.r (Kd.R_base ho0) hb)
                 have n3_ := Aside0.mk (Kd.R_elder' HL409_0.r (Kd.R_base ho0) hb)
                 have n4_ := Aside0.mk (Kd.R_lower (Kd.R_new' (Kd.R_new' (Kd.R_new' ho0 (Kd.R_lt HO_9.r)) (Kd.R_lt HL408_0.r)) (Kd.R_lt HL409_0.r)) (below_size HB.l))
                 have n5_ := Aside0.mk (blk_below BK387.b hb)
                 have n6_ := Aside0.mk (blk_below BK389.b hb)
                 have n7_ := Aside0.mk (Kd.C_below (by repeat (first | (with_reducible exact HR408_0.out) | (with_reducible refine Kd.C_alloc ?_ _) | (with_reducible refine Kd.C_drewN ?_ _) | (with_reducible refine Kd.C_drew ?_) | exact HR408_0.out)) hb)
                 have n8_ := Aside0.mk (Kd.C_below (by repeat (first | (with_reducible exact HR409_0.out) | (with_reducible refine Kd.C_alloc ?_ _) | (with_reducible refine Kd.C_drewN ?_ _) | (with_reducible refine Kd.C_drew ?_) | exact HR409_0.out)) hb)
                 have n9_ := Aside0.mk (below_step HB.l hb)
                 clear HO_6 HO_9 HL408_0 HL409_0 BK387 BK389 HR408_0 HR409_0 HB; revert n0_ n1_ n2_ n3_ n4_ n5_ n6_ n7_ n8_ n9_; intro HO_6 HO_9 HL408_0 HL409_0 HO413 BK387 BK389 HR408_0 HR409_0 HB
                 (try clear hb)
                 (try clear hb2)
                 (try clear hk)
                 (try clear hi)
                 (try clear ho0)
                 refine hK.out _ _ ⟨(blk_cell BK389.out 0).trans rfl, (blk_cell BK389.out 1).trans rfl, (blk_cell BK389.out 2).trans rfl, (blk_cell BK389.out 3).trans rfl, (blk_cell BK389.out 4).trans rfl, (blk_cell BK389.out 5).trans rfl, HS6_, HS7_⟩ (fun hHeld => ?_)
                 clear hK K
                 refine norm_ (a' := ?_) ?_ ?_
                 rotate_left
                 ·show Act.put _ (some 87) _ = _
                  simp only [Act.put, List.setIfInBounds_toArray, List.set_cons_zero, List.set_cons_succ, i64_w, i32_w]
                  rfl
                 refine pure_ (i := 13) (N := some 74) (v := ?_) (a' := ?_) #[true, true, true, true, true, true, true, true, true, true, true, true, true, true, false, false, false, false] rfl rfl (any_of HT_.out (by kernel_rfl)) (fun _ _ _ h => h) (Or.inl ⟨by rfl, ?_⟩) ?_ ?_
                 rotate_left
                 ·intro w'
                  go_simp
                  with_reducible rfl
                 rotate_left
                 ·simp only [Act.put, List.setIfInBounds_toArray, List.set_cons_zero, List.set_cons_succ, i64_w, i32_w]
                  rfl
                 refine pure_ (i := 14) (N := some 88) (v := ?_) (a' := ?_) #[true, true, true, true, true, true, true, true, true, true, true, true, true, true, true, false, false, false] rfl rfl (any_of HT_.out (by kernel_rfl)) (fun _ _ _ h => h) (Or.inl ⟨by rfl, ?_⟩) ?_ ?_
                 rotate_left
                 ·intro w'
                  go_simp
                  with_reducible rfl
                 rotate_left
                 ·simp only [Act.put, List.setIfInBounds_toArray, List.set_cons_zero, List.set_cons_succ, i64_w, i32_w]
                  rfl
                 refine pure_ (i := 15) (N := some 89) (v := ?_) (a' := ?_) #[true, true, true, true, true, true, true, true, true, true, true, true, true, true, true, true, false, false] rfl rfl (any_of HT_.out (by kernel_rfl)) (fun _ _ _ h => h) (Or.inl ⟨by rfl, ?_⟩) ?_ ?_
                 rotate_left
                 ·intro w'
                  go_simp
                  with_reducible rfl
                 rotate_left
                 ·simp only [Act.put, List.setIfInBounds_toArray, List.set_cons_zero, List.set_cons_succ, i64_w, i32_w]
                  rfl
                 refine pure_ (i := 16) (N := some 9) (v := ?_) (a' := ?_) #[true, true, true, true, true, true, true, true, true, true, true, true, true, true, true, true, true, false] rfl rfl (any_of HT_.out (by kernel_rfl)) (fun _ _ _ h => h) (Or.inl ⟨by rfl, ?_⟩) ?_ ?_
                 rotate_left
                 ·intro w'
                  go_simp
                  with_reducible rfl
                 rotate_left
                 ·simp only [Act.put, List.setIfInBounds_toArray, List.set_cons_zero, List.set_cons_succ, i64_w, i32_w]
                  rfl
                 refine pure_ (i := 17) (N := some 10) (v := ?_) (a' := ?_) #[true, true, true, true, true, true, true, true, true, true, true, true, true, true, true, true, true, true] rfl rfl (any_of HT_.out (by kernel_rfl)) (fun _ _ _ h => h) (Or.inl ⟨by rfl, ?_⟩) ?_ ?_
                 rotate_left
                 ·intro w'
                  go_simp
                  with_reducible rfl
                 rotate_left
                 ·simp only [Act.put, List.setIfInBounds_toArray, List.set_cons_zero, List.set_cons_succ, i64_w, i32_w]
                  rfl
                 refine done_ (done_of HT_.out (by kernel_rfl)) ?_
                 try go_wp2
                 go_ret2
                 exact ⟨_, by first | rfl | (simp [errW_none, errW_some] <;> rfl) | (simp [*, errW_none, errW_some] <;> rfl), by first | exact Kd.S_nil _ _ _ _ _ | exact Kd.N_nil _ _ _ _ _ | exact Kd.V_nil _ _ _ _ _ | exact Kd.Q_nil _ _ _ _ _ | exact Kd.R_nil _ _ _ _ _, HB.l⟩
               ·rw [if_neg c73] at H
                exact absurd H (by simp)
              ·rw [if_neg c72] at H
               exact absurd H (by simp)
             ·rw [if_neg c71] at H
              exact absurd H (by simp)
            ·rw [if_neg c70] at H
             exact absurd H (by simp)
           ·replace c69 := Bool.eq_false_iff.mpr c69
            subst c69
            have H1 : (if false = true then (if x6_1.length < 5864062014805 then (interleaveref31_Clauses.l0 kj53 (x6_1 ++ [([] : List Int)]) l1 (l1.length : Int) (wrap64 (x13_1 + 1)) a0_0 a0_1 l0_2 l0_3) else (none)) else (some (([] : List (List Int)), x13_1))) = some (r1, r2) := by rw [if_neg (show ¬ (false = true) by decide)] at H; exact H
            clear H
            have H := H1
            clear H1
            by_cases c85 : false = true
            ·exact absurd c85 (by decide)
            ·clear c85
             have H1 : (some (([] : List (List Int)), x13_1)) = some (r1, r2) := by rw [if_neg (show ¬ (false = true) by decide)] at H; exact H
             clear H
             have H := H1
             clear H1
             simp only [Option.some.injEq, Prod.mk.injEq] at H
             obtain ⟨rfl, rfl⟩ := H
             go_wp2
             go_ret2
             exact ⟨_, by first | rfl | (simp [errW_none, errW_some] <;> rfl) | (simp [*, errW_none, errW_some] <;> rfl), by first | exact Kd.S_nil _ _ _ _ _ | exact Kd.N_nil _ _ _ _ _ | exact Kd.V_nil _ _ _ _ _ | exact Kd.Q_nil _ _ _ _ _ | exact Kd.R_nil _ _ _ _ _, HB.l⟩
        ·rw [if_neg c53] at H
         have c53b0 : (((rd_T50 l1 x13_1).f0) == 3) = false := beq_eq_false_iff_ne.mpr c53
         have c53b1 : (((rd_T50 l1 x13_1).f0) != 3) = true := bne_iff_ne.mpr c53
         simp only [Option.some.injEq, Prod.mk.injEq] at H
         obtain ⟨rfl, rfl⟩ := H
         have p388 : 0 ≤ (x13_1 : Int) := of_decide_eq_true (by first | (with_reducible assumption) | assumption)
         have q388 : x13_1 < (l1.length : Int) := of_decide_eq_true (by first | (with_reducible assumption) | assumption)
         obtain ⟨ad388, A388_2, c388_2, e388, hx388_0, hx388_1, hx388_2, hx388_3, hx388_4, hx388_5, hl388_2, hi388_2⟩ := at_T50 HR1.out x13_1 p388 q388
         cases e388
         replace hx388_0 := (HB.out.cell (World.block_lt_of_cell? w _ hx388_0)).trans hx388_0
         replace hx388_1 := (HB.out.cell (World.block_lt_of_cell? w _ hx388_1)).trans hx388_1
         replace hx388_2 := (HB.out.cell (World.block_lt_of_cell? w _ hx388_2)).trans hx388_2
         replace hx388_3 := (HB.out.cell (World.block_lt_of_cell? w _ hx388_3)).trans hx388_3
         replace hx388_4 := (HB.out.cell (World.block_lt_of_cell? w _ hx388_4)).trans hx388_4
         replace hx388_5 := (HB.out.cell (World.block_lt_of_cell? w _ hx388_5)).trans hx388_5
         have HR388_2 := Aside0.mk hi388_2
         have HC388_2 := Aside0.mk hl388_2
         clear hi388_2 hl388_2
         replace p388 := eq_true p388
         replace q388 := eq_true q388
         go_wp2_with (first | ((with_reducible refine gate_dst (N := 8) rfl ?_); (try (refine gate_guard (by rfl) ?_; dsimp only)); refine box_ev (N := 8) rfl (cs := #[.int .i64 0, .int .i64 0, .slice none 0 0, .int .i64 0, .int .i64 0, .int .i64 0]) (t := 50) ?_; intro gb389 hg w88 hbox hb; have n0_ := Aside0.mk (Kd.S_below HO_6.s hb); have n1_ := Aside0.mk (blk_below BK387.b hb); have n2_ := Aside0.mk (below_step HB.l hb); have n3_ := Aside0.mk (hbox); have n4_ := Aside0.mk ((by rw [hg]; exact (below_size HB.l) : w.heap.size ≤ gb389)); have n5_ := Aside0.mk ((by rw [hg]; exact (below_size HB.l) : w.heap.size ≤ gb389)); have n6_ := Aside0.mk ((by rw [hg]; exact Nat.ne_of_lt (blk_lt BK387.b) : gb387 ≠ gb389)); have n7_ := Aside0.mk ((by rw [hg]; exact Nat.ne_of_gt (blk_lt BK387.b) : gb389 ≠ gb387)); clear HO_6 BK387 HB; revert n0_ n1_ n2_ n3_ n4_ n5_ n6_ n7_; intro HO_6 BK387 HB BK389 GW389 GE389 NB387_389 NB389_387; clear hb hbox hg; have hnb89 := NB389_387.out; have hnc89 := NB387_389.out; have hcz90_0 := BK389.cl 0 (.int .i64 0); have hcz90_1 := BK389.cl 1 (.int .i64 0); have hcz90_2 := BK389.cl 2 (.slice none 0 0); have hcz90_3 := BK389.cl 3 (.int .i64 0); have hcz90_4 := BK389.cl 4 (.int .i64 0); have hcz90_5 := BK389.cl 5 (.int .i64 0); have hfz90_0 := BK389.fz 0; have hfz90_1 := BK389.fz 1; have hfz90_2 := BK389.fz 2; have hfz90_3 := BK389.fz 3; have hfz90_4 := BK389.fz 4; have hfz90_5 := BK389.fz 5))
         go_ret2
         exact ⟨_, by first | rfl | (simp [errW_none, errW_some] <;> rfl) | (simp [*, errW_none, errW_some] <;> rfl), by first | exact Kd.S_nil _ _ _ _ _ | exact Kd.N_nil _ _ _ _ _ | exact Kd.V_nil _ _ _ _ _ | exact Kd.Q_nil _ _ _ _ _ | exact Kd.R_nil _ _ _ _ _, HB.l⟩
     ·rw [if_neg c6] at H
      exact absurd H (by simp)
    ·rw [if_neg c5] at H
     exact absurd H (by simp)
   ·rw [if_neg c4] at H
    have c4b0 : decide (x13_1 < (l1.length : Int)) = false := decide_eq_false c4
    clear c4
    simp only [Option.some.injEq, Prod.mk.injEq] at H
    obtain ⟨rfl, rfl⟩ := H
    go_wp2
    go_ret2
    exact ⟨_, by first | rfl | (simp [errW_none, errW_some] <;> rfl) | (simp [*, errW_none, errW_some] <;> rfl), HO_6.s, HB.l⟩

end Go.Proofs.Ytppbnjmhkifdaaa.X
