-- Written by this session's own program (wip/tools/xprint.py).
import Derived.Test.YtppbnjmhkifdaaaX0
import Derived.Test.YtppbnjmhkifdaaaSx
import Derived.Test.YtppbnjmhkifdaaaX6
namespace Go.Proofs.Ytppbnjmhkifdaaa.X
open Go.RowKit Go.Proofs.YtppbnjmhkifdaaaW.PrintWords Go.Proofs.YtppbnjmhkifdaaaW.PrintLast Go.Proofs.YtppbnjmhkifdaaaW.PrintMore
attribute [local go_sem] max2_int min2_int max_two min_two max_three min_three max_four min_four   -- for this text's walks alone
set_option linter.unusedVariables false
set_option linter.unusedSimpArgs false

/-! ### interleavescene_Problem_Formula: function 14 -/
mutual
def interleavescene_Problem_Formula.l0 : Nat → Int → Int → Int → Int → List Int → Int → Int → List (S75) → List Int → Int → Option (Int × Int × (List (S75)) × (List (List Int)))
 | 0, _, _, _, _, _, _, _, _, _, _ => none
 | k + 1, x5, x276000, x276001, x276002, x276003, x278000, x278001, x278002, x280000, x280001 => if x5 < (wrap64 (1 + (Int.tmod (wrap64 (x276001)) 12))) then ((interleavemade_Tape_Next.f x280000 x280001 256).bind fun bt280 => (if x278000 = 0 then (none) else ((interleavemade_Tape_Next.f x280000 bt280.2 256).bind fun bt283 => (if (wrap64 (x278000 - 1)) = 0 then (none) else (if x278002.length < 5864062014805 then (interleavescene_Problem_Formula.l0 k (wrap64 (x5 + 1)) x276000 x276001 x276002 x276003 x278000 x278001 (x278002 ++ [(⟨Int.tmod bt280.1 x278000, Int.tmod (wrap64 ((wrap64 ((Int.tmod bt280.1 x278000) + 1)) + (Int.tmod bt283.1 (wrap64 (x278000 - 1))))) x278000, wrap64 ((Int.tmod (wrap64 (Int.tdiv bt280.1 16)) 7) - 4)⟩ : S75)]) x280000 bt283.2) else (none)))))) else (interleavescene_Problem_Formula.l1 k x278000 (wrap64 ((x278002.length : Int) + (Int.tmod (wrap64 (x276002)) 7))) x278002 ([] : List (List Int)) x280000 x280001)
def interleavescene_Problem_Formula.l1 : Nat → Int → Int → List (S75) → List (List Int) → List Int → Int → Option (Int × Int × (List (S75)) × (List (List Int)))
 | 0, _, _, _, _, _, _ => none
 | k + 1, x278000, x278001, x278002, x278003, x280000, x280001 => if x280001 < (x280000.length : Int) then (interleavescene_Problem_Formula.j2 k (decide ((x278003.length : Int) < 40)) x278000 x278001 x278002 x278003 x280000 x280001) else (interleavescene_Problem_Formula.j2 k false x278000 x278001 x278002 x278003 x280000 x280001)
def interleavescene_Problem_Formula.j2 : Nat → Bool → Int → Int → List (S75) → List (List Int) → List Int → Int → Option (Int × Int × (List (S75)) × (List (List Int)))
 | 0, _, _, _, _, _, _, _ => none
 | k + 1, x94, x278000, x278001, x278002, x278003, x280000, x280001 => if x94 = true then ((interleavemade_Tape_Next.f x280000 x280001 256).bind fun bt288 => (interleavescene_Problem_Formula.l2 k ([] : List Int) (Int.tmod bt288.1 4) x278000 x278001 x278002 x278003 x280000 bt288.2)) else (some (x278000, x278001, x278002, x278003))
def interleavescene_Problem_Formula.l2 : Nat → List Int → Int → Int → Int → List (S75) → List (List Int) → List Int → Int → Option (Int × Int × (List (S75)) × (List (List Int)))
 | 0, _, _, _, _, _, _, _, _ => none
 | k + 1, x8, x9, x278000, x278001, x278002, x278003, x280000, x280001 => if x9 ≥ 0 then ((interleavemade_Tape_Next.f x280000 x280001 256).bind fun bt290 => (if x278001 = 0 then (none) else (if (Int.tmod bt290.1 2) = 1 then (if x8.length < 17592186044416 then (interleavescene_Problem_Formula.l2 k (x8 ++ [wrap64 (-(wrap64 (1 + (Int.tmod (wrap64 (Int.tdiv bt290.1 2)) x278001))))]) (wrap64 (x9 - 1)) x278000 x278001 x278002 x278003 x280000 bt290.2) else (none)) else (if x8.length < 17592186044416 then (interleavescene_Problem_Formula.l2 k (x8 ++ [wrap64 (1 + (Int.tmod (wrap64 (Int.tdiv bt290.1 2)) x278001))]) (wrap64 (x9 - 1)) x278000 x278001 x278002 x278003 x280000 bt290.2) else (none))))) else (if x278003.length < 5864062014805 then (interleavescene_Problem_Formula.l1 k x278000 x278001 x278002 (x278003 ++ [x8]) x280000 x280001) else (none))
end
def interleavescene_Problem_Formula.f (k : Nat) (a0_0 : Int) (a0_1 : Int) (a0_2 : Int) (l0_3 : List Int) : Option (Int × Int × (List (S75)) × (List (List Int))) := if 0 ≤ (mn (l0_3.length : Int) 300) then (if (mn (l0_3.length : Int) 300) ≤ (l0_3.length : Int) then (interleavescene_Problem_Formula.l0 k 0 a0_0 a0_1 a0_2 l0_3 (wrap64 (2 + (Int.tmod (wrap64 (a0_0)) 5))) 0 ([] : List (S75)) (l0_3.take ((mn (l0_3.length : Int) 300) : Int).toNat) 0) else (none)) else (none)
theorem interleavescene_Problem_Formula.mono_l : ∀ k, (∀ y0 y1 y2 y3 y4 y5 y6 y7 y8 y9, LeO (interleavescene_Problem_Formula.l0 k y0 y1 y2 y3 y4 y5 y6 y7 y8 y9) (interleavescene_Problem_Formula.l0 (k + 1) y0 y1 y2 y3 y4 y5 y6 y7 y8 y9)) ∧ (∀ y0 y1 y2 y3 y4 y5, LeO (interleavescene_Problem_Formula.l1 k y0 y1 y2 y3 y4 y5) (interleavescene_Problem_Formula.l1 (k + 1) y0 y1 y2 y3 y4 y5)) ∧ (∀ y0 y1 y2 y3 y4 y5 y6, LeO (interleavescene_Problem_Formula.j2 k y0 y1 y2 y3 y4 y5 y6) (interleavescene_Problem_Formula.j2 (k + 1) y0 y1 y2 y3 y4 y5 y6)) ∧ (∀ y0 y1 y2 y3 y4 y5 y6 y7, LeO (interleavescene_Problem_Formula.l2 k y0 y1 y2 y3 y4 y5 y6 y7) (interleavescene_Problem_Formula.l2 (k + 1) y0 y1 y2 y3 y4 y5 y6 y7))
 | 0 => ⟨fun _ _ _ _ _ _ _ _ _ _ r h => by simp [interleavescene_Problem_Formula.l0] at h, fun _ _ _ _ _ _ r h => by simp [interleavescene_Problem_Formula.l1] at h, fun _ _ _ _ _ _ _ r h => by simp [interleavescene_Problem_Formula.j2] at h, fun _ _ _ _ _ _ _ _ r h => by simp [interleavescene_Problem_Formula.l2] at h⟩
 | k + 1 => by
  obtain ⟨ih0, ih1, ih2, ih3⟩ := interleavescene_Problem_Formula.mono_l k
  refine ⟨?_, ?_, ?_, ?_⟩
  ·intro y0 y1 y2 y3 y4 y5 y6 y7 y8 y9
   unfold interleavescene_Problem_Formula.l0
   repeat' first
   | (with_reducible exact ih0 _ _ _ _ _ _ _ _ _ _)
   | (with_reducible exact ih1 _ _ _ _ _ _)
   | (with_reducible exact ih2 _ _ _ _ _ _ _)
   | (with_reducible exact ih3 _ _ _ _ _ _ _ _)
   | (with_reducible exact LeO.refl _)
   | (with_reducible exact LeO.none _)
   | (with_reducible refine LeO.ite ?_ ?_)
   | (with_reducible refine LeO.bind ?_ (fun _ => ?_))
   | exact ih0 _ _ _ _ _ _ _ _ _ _
   | exact ih1 _ _ _ _ _ _
   | exact ih2 _ _ _ _ _ _ _
   | exact ih3 _ _ _ _ _ _ _ _
   | exact LeO.none _
   | refine LeO.ite ?_ ?_
   | refine LeO.bind ?_ (fun _ => ?_)
  ·intro y0 y1 y2 y3 y4 y5
   unfold interleavescene_Problem_Formula.l1
   repeat' first
   | (with_reducible exact ih0 _ _ _ _ _ _ _ _ _ _)
   | (with_reducible exact ih1 _ _ _ _ _ _)
   | (with_reducible exact ih2 _ _ _ _ _ _ _)
   | (with_reducible exact ih3 _ _ _ _ _ _ _ _)
   | (with_reducible exact LeO.refl _)
   | (with_reducible exact LeO.none _)
   | (with_reducible refine LeO.ite ?_ ?_)
   | (with_reducible refine LeO.bind ?_ (fun _ => ?_))
   | exact ih0 _ _ _ _ _ _ _ _ _ _
   | exact ih1 _ _ _ _ _ _
   | exact ih2 _ _ _ _ _ _ _
   | exact ih3 _ _ _ _ _ _ _ _
   | exact LeO.none _
   | refine LeO.ite ?_ ?_
   | refine LeO.bind ?_ (fun _ => ?_)
  ·intro y0 y1 y2 y3 y4 y5 y6
   unfold interleavescene_Problem_Formula.j2
   repeat' first
   | (with_reducible exact ih0 _ _ _ _ _ _ _ _ _ _)
   | (with_reducible exact ih1 _ _ _ _ _ _)
   | (with_reducible exact ih2 _ _ _ _ _ _ _)
   | (with_reducible exact ih3 _ _ _ _ _ _ _ _)
   | (with_reducible exact LeO.refl _)
   | (with_reducible exact LeO.none _)
   | (with_reducible refine LeO.ite ?_ ?_)
   | (with_reducible refine LeO.bind ?_ (fun _ => ?_))
   | exact ih0 _ _ _ _ _ _ _ _ _ _
   | exact ih1 _ _ _ _ _ _
   | exact ih2 _ _ _ _ _ _ _
   | exact ih3 _ _ _ _ _ _ _ _
   | exact LeO.none _
   | refine LeO.ite ?_ ?_
   | refine LeO.bind ?_ (fun _ => ?_)
  ·intro y0 y1 y2 y3 y4 y5 y6 y7
   unfold interleavescene_Problem_Formula.l2
   repeat' first
   | (with_reducible exact ih0 _ _ _ _ _ _ _ _ _ _)
   | (with_reducible exact ih1 _ _ _ _ _ _)
   | (with_reducible exact ih2 _ _ _ _ _ _ _)
   | (with_reducible exact ih3 _ _ _ _ _ _ _ _)
   | (with_reducible exact LeO.refl _)
   | (with_reducible exact LeO.none _)
   | (with_reducible refine LeO.ite ?_ ?_)
   | (with_reducible refine LeO.bind ?_ (fun _ => ?_))
   | exact ih0 _ _ _ _ _ _ _ _ _ _
   | exact ih1 _ _ _ _ _ _
   | exact ih2 _ _ _ _ _ _ _
   | exact ih3 _ _ _ _ _ _ _ _
   | exact LeO.none _
   | refine LeO.ite ?_ ?_
   | refine LeO.bind ?_ (fun _ => ?_)
theorem interleavescene_Problem_Formula.mono : ∀ a0 a1 a2 a3 k, LeO (interleavescene_Problem_Formula.f k a0 a1 a2 a3) (interleavescene_Problem_Formula.f (k + 1) a0 a1 a2 a3) := by
 intro a0 a1 a2 a3 k
 obtain ⟨ih0, ih1, ih2, ih3⟩ := interleavescene_Problem_Formula.mono_l k
 unfold interleavescene_Problem_Formula.f
 repeat' first
   | (with_reducible exact ih0 _ _ _ _ _ _ _ _ _ _)
   | (with_reducible exact ih1 _ _ _ _ _ _)
   | (with_reducible exact ih2 _ _ _ _ _ _ _)
   | (with_reducible exact ih3 _ _ _ _ _ _ _ _)
   | (with_reducible exact LeO.refl _)
   | (with_reducible exact LeO.none _)
   | (with_reducible refine LeO.ite ?_ ?_)
   | (with_reducible refine LeO.bind ?_ (fun _ => ?_))
   | exact ih0 _ _ _ _ _ _ _ _ _ _
   | exact ih1 _ _ _ _ _ _
   | exact ih2 _ _ _ _ _ _ _
   | exact ih3 _ _ _ _ _ _ _ _
   | exact LeO.none _
   | refine LeO.ite ?_ ?_
   | refine LeO.bind ?_ (fun _ => ?_)
def interleavescene_Problem_Formula.T8 : Bool × List (List Nat × List Nat) := (true, [([], []), ([0], [0]), ([1], [1]), ([], []), ([3], [3]), ([], []), ([5], [5]), ([6], [6]), ([4, 7], [4, 7]), ([2, 8], [2, 8]), ([], []), ([10], [10]), ([9, 11], [9, 11]), ([0, 1, 2, 3, 4, 5, 6, 7, 8, 9, 10, 11, 12], []), ([13, 12, 4, 0, 1, 2, 3, 4, 5, 6, 7, 8, 9, 10, 11, 12], [12, 13])])
def interleavescene_Problem_Formula.B8 : List Nat := [0, 1, 3, 0, 8, 0, 32, 96, 248, 511, 0, 1024, 4095, 8191, 16383]
theorem interleavescene_Problem_Formula.tab8 : rtab .any (opsOf Try.f14 8) = interleavescene_Problem_Formula.T8 := by kernel_rfl
theorem interleavescene_Problem_Formula.bits8 : waitsOk interleavescene_Problem_Formula.T8.2 interleavescene_Problem_Formula.B8 = true := by kernel_rfl
def interleavescene_Problem_Formula.T11 : Bool × List (List Nat × List Nat) := (true, [([], []), ([0], [0]), ([1], [1]), ([2], [2]), ([], []), ([4], [4]), ([5], [5]), ([6], [6]), ([7], [7]), ([3, 8], [3, 8]), ([9], [9]), ([10], [10]), ([11, 10], [10, 11]), ([12, 10], [10, 12]), ([13, 10], [10, 13]), ([10, 14], [10, 14])])
def interleavescene_Problem_Formula.B11 : List Nat := [0, 1, 3, 7, 0, 16, 48, 112, 240, 511, 1023, 2047, 4095, 8191, 16383, 32767]
theorem interleavescene_Problem_Formula.tab11 : rtab .any (opsOf Try.f14 11) = interleavescene_Problem_Formula.T11 := by kernel_rfl
theorem interleavescene_Problem_Formula.bits11 : waitsOk interleavescene_Problem_Formula.T11.2 interleavescene_Problem_Formula.B11 = true := by kernel_rfl
set_option maxHeartbeats 8000000 in
set_option maxRecDepth 100000 in
theorem interleavescene_Problem_Formula.calls (k : Nat) (a0_0 : Int) (a0_1 : Int) (a0_2 : Int) (A0_3 : Option Addr) (c0_3 : Nat) (l0_3 : List Int) (r1 : Int) (r2 : Int) (r3 : List (S75)) (r4 : List (List Int)) (w : World) (hr0_3 : Kd.C (Kd.int .u8) w A0_3 l0_3.length l0_3) (hc0_3 : l0_3.length ≤ c0_3) (h : interleavescene_Problem_Formula.f k a0_0 a0_1 a0_2 l0_3 = some (r1, r2, r3, r4)) :
  Calls Try.prog 14 #[.agg #[.int .u8 a0_0, .int .u8 a0_1, .int .u8 a0_2, .slice A0_3 l0_3.length c0_3]] w fun e w' => ∃ v2_ v3_ : Value, e = .returned (.agg #[.int .i64 r1, .int .i64 r2, v2_, v3_]) ∧ Kd.R k75 75 w' w.heap.size (fun _ => True) v2_ r3 ∧ Kd.S (Kd.slice 3 (Kd.int .i64)) 43 w' w.heap.size (fun _ => True) v3_ r4 ∧ Below w.heap.size w w' := by
 have hu25 := Try.underlying25
 have hu32 := Try.underlying32
 have hu72 := Try.underlying72
 have hu75 := Try.underlying75
 have HR0_3 := Aside0.mk hr0_3
 have HC0_3 := Aside0.mk hc0_3
 clear hr0_3 hc0_3
 have HB := Aside0.mk (Below.refl w.heap.size w)
 have H : (if 0 ≤ (mn (l0_3.length : Int) 300) then (if (mn (l0_3.length : Int) 300) ≤ (l0_3.length : Int) then (interleavescene_Problem_Formula.l0 k 0 a0_0 a0_1 a0_2 l0_3 (wrap64 (2 + (Int.tmod (wrap64 (a0_0)) 5))) 0 ([] : List (S75)) (l0_3.take ((mn (l0_3.length : Int) 300) : Int).toNat) 0) else (none)) else (none)) = some (r1, r2, r3, r4) := h
 clear h
 obtain ⟨ji2, hji2⟩ : ∃ j_ : Int, (mn (l0_3.length : Int) 300) = j_ := ⟨_, rfl⟩
 replace H : (if 0 ≤ (ji2) then (if (ji2) ≤ (l0_3.length : Int) then (interleavescene_Problem_Formula.l0 k 0 a0_0 a0_1 a0_2 l0_3 (wrap64 (2 + (Int.tmod (wrap64 (a0_0)) 5))) 0 ([] : List (S75)) (l0_3.take ((ji2) : Int).toNat) 0) else (none)) else (none)) = some (r1, r2, r3, r4) := by first | (rw [hji2] at H; exact H) | (simp only [hji2] at H ⊢; exact H)
 (try (have hji2h : ji2 ≤ 300 := by (rw [← hji2]; unfold mn; (repeat' split) <;> omega)))
 (try (have hji2g : ji2 ≤ 64 := by omega))
 (try (have hji2l : 0 ≤ ji2 := by (rw [← hji2]; unfold mn; (repeat' split) <;> omega)))
 (try (have hji2m : 0 ≤ ji2 := by omega))
 have hji2_ : (if 300 < (l0_3.length : Int) then 300 else (l0_3.length : Int)) = ji2 := hji2
 by_cases c3 : 0 ≤ (ji2)
 ·rw [if_pos c3] at H
  have c3b0 := eq_true c3
  have c3b1 : decide (0 ≤ (ji2)) = true := decide_eq_true c3
  clear c3
  by_cases c4 : (ji2) ≤ (l0_3.length : Int)
  ·rw [if_pos c4] at H
   have c4b0 := eq_true c4
   have c4b1 : decide ((ji2) ≤ (l0_3.length : Int)) = true := decide_eq_true c4
   clear c4
   have H' := Aside0.mk H
   clear H
   go_enter Try.func14, Try.ntmps14
   go_wp2_with (first | ((with_reducible refine gate_dst (N := 1) rfl ?_); (try (refine gate_guard (by rfl) ?_; dsimp only)); refine box_ev (N := 1) rfl (cs := #[.int .u8 a0_0, .int .u8 a0_1, .int .u8 a0_2, .slice A0_3 l0_3.length c0_3]) (t := 25) ?_; intro gb275 hg w5 hbox hb; have n0_ := Aside0.mk (below_step HB.l hb); have n1_ := Aside0.mk (hbox); have n2_ := Aside0.mk ((by rw [hg]; exact (below_size HB.l) : w.heap.size ≤ gb275)); have n3_ := Aside0.mk ((by rw [hg]; exact (below_size HB.l) : w.heap.size ≤ gb275)); clear HB; revert n0_ n1_ n2_ n3_; intro HB BK275 GW275 GE275; clear hb hbox hg) | ((with_reducible refine gate_dst (N := 2) rfl ?_); (try (refine gate_guard (by rfl) ?_; dsimp only)); refine box_ev (N := 2) rfl (cs := #[.int .i64 0, .int .i64 0, .slice none 0 0, .slice none 0 0]) (t := 32) ?_; intro gb276 hg w6 hbox hb; have n0_ := Aside0.mk (blk_below BK275.b hb); have n1_ := Aside0.mk (below_step HB.l hb); have n2_ := Aside0.mk (hbox); have n3_ := Aside0.mk ((by rw [hg]; exact (below_size HB.l) : w.heap.size ≤ gb276)); have n4_ := Aside0.mk ((by rw [hg]; exact (below_size HB.l) : w.heap.size ≤ gb276)); have n5_ := Aside0.mk ((by rw [hg]; exact Nat.ne_of_lt (blk_lt BK275.b) : gb275 ≠ gb276)); have n6_ := Aside0.mk ((by rw [hg]; exact Nat.ne_of_gt (blk_lt BK275.b) : gb276 ≠ gb275)); clear BK275 HB; revert n0_ n1_ n2_ n3_ n4_ n5_ n6_; intro BK275 HB BK276 GW276 GE276 NB275_276 NB276_275; clear hb hbox hg; have hnb7 := NB275_276.out; have hnc7 := NB276_275.out; have hcz8_0 := BK275.cl 0 (.int .u8 a0_0); have hcz8_1 := BK275.cl 1 (.int .u8 a0_1); have hcz8_2 := BK275.cl 2 (.int .u8 a0_2); have hcz8_3 := BK275.cl 3 (.slice A0_3 l0_3.length c0_3); have hfz8_0 := BK275.fz 0; have hfz8_1 := BK275.fz 1; have hfz8_2 := BK275.fz 2; have hfz8_3 := BK275.fz 3) | ((with_reducible refine gate_dst (N := 3) rfl ?_); (try (refine gate_guard (by rfl) ?_; dsimp only)); refine box_ev (N := 3) rfl (cs := #[.int .i64 0, .int .i64 0, .slice none 0 0, .slice none 0 0]) (t := 32) ?_; intro gb277 hg w9z hboxz hbz; have HGz := Aside0.mk (And.intro hg (And.intro hboxz hbz)); clear hg hboxz hbz) | ((with_reducible refine gate_store (t := 32) (p := 3) (v := _) rfl ?_); have hg := HGz.out.1; refine store_box rfl rfl rfl hg HGz.out.2.1 HGz.out.2.2 rfl (cs := #[.int .i64 (wrap64 (2 + (Int.tmod (wrap64 (a0_0)) 5))), .int .i64 0, .slice none 0 0, .slice none 0 0]) ?hx (by kernel_rfl) rfl rfl ?_; (case hx => first | rfl | (go_simp; rfl)); intro w9 hbox hb; clear HGz; have n0_ := Aside0.mk (blk_below BK275.b hb); have n1_ := Aside0.mk (blk_below BK276.b hb); have n2_ := Aside0.mk (below_step HB.l hb); have n3_ := Aside0.mk (hbox); have n4_ := Aside0.mk ((by rw [hg]; exact (below_size HB.l) : w.heap.size ≤ gb277)); have n5_ := Aside0.mk ((by rw [hg]; exact (below_size HB.l) : w.heap.size ≤ gb277)); have n6_ := Aside0.mk ((by rw [hg]; exact Nat.ne_of_lt (blk_lt BK275.b) : gb275 ≠ gb277)); have n7_ := Aside0.mk ((by rw [hg]; exact Nat.ne_of_gt (blk_lt BK275.b) : gb277 ≠ gb275)); have n8_ := Aside0.mk ((by rw [hg]; exact Nat.ne_of_lt (blk_lt BK276.b) : gb276 ≠ gb277)); have n9_ := Aside0.mk ((by rw [hg]; exact Nat.ne_of_gt (blk_lt BK276.b) : gb277 ≠ gb276)); clear BK275 BK276 HB; revert n0_ n1_ n2_ n3_ n4_ n5_ n6_ n7_ n8_ n9_; intro BK275 BK276 HB BK277 GW277 GE277 NB275_277 NB277_275 NB276_277 NB277_276; clear hb hbox hg; have hnb10 := NB277_275.out; have hnc10 := NB275_277.out; have hnb11 := NB277_276.out; have hnc11 := NB276_277.out; have hcz12_0 := BK277.cl 0 (.int .i64 (wrap64 (2 + (Int.tmod (wrap64 (a0_0)) 5)))); have hcz12_1 := BK277.cl 1 (.int .i64 0); have hcz12_2 := BK277.cl 2 (.slice none 0 0); have hcz12_3 := BK277.cl 3 (.slice none 0 0); have hfz12_0 := BK277.fz 0; have hfz12_1 := BK277.fz 1; have hfz12_2 := BK277.fz 2; have hfz12_3 := BK277.fz 3; have hcz13_0 := BK275.cl 0 (.int .u8 a0_0); have hcz13_1 := BK275.cl 1 (.int .u8 a0_1); have hcz13_2 := BK275.cl 2 (.int .u8 a0_2); have hcz13_3 := BK275.cl 3 (.slice A0_3 l0_3.length c0_3); have hfz13_0 := BK275.fz 0; have hfz13_1 := BK275.fz 1; have hfz13_2 := BK275.fz 2; have hfz13_3 := BK275.fz 3; obtain ⟨i014, hi014, _, hsz14, _⟩ := info_parts info5; obtain ⟨hcut14, hA14, hC14⟩ := print_take_of (P := Try.prog) (Value.int .u8) 0 23 5 .i64 Try.underlying23 hi014 hsz14 A0_3 c0_3 l0_3 (ji2) (of_decide_eq_true (by first | (with_reducible assumption) | assumption)) (of_decide_eq_true (by first | (with_reducible assumption) | assumption)) HC0_3.out; have HR278 := Aside0.mk (Kd.C_of_reads (h1 := fun _ => rfl) (hA14 _ (Kd.reads_of_C HR0_3.out))); have HC278 := Aside0.mk hC14; clear hA14 hC14 hi014 hsz14) | ((with_reducible refine gate_dst (N := 27) rfl ?_); (try (refine gate_guard (by rfl) ?_; dsimp only)); refine box_ev (N := 27) rfl (cs := #[.slice A0_3 (l0_3.take ((ji2) : Int).toNat).length c0_3, .int .i64 0]) (t := 72) ?_; intro gb279 hg w15 hbox hb; have n0_ := Aside0.mk (blk_below BK275.b hb); have n1_ := Aside0.mk (blk_below BK276.b hb); have n2_ := Aside0.mk (blk_below BK277.b hb); have n3_ := Aside0.mk (below_step HB.l hb); have n4_ := Aside0.mk ((show IsS72 w w15 gb279 (l0_3.take ((ji2) : Int).toNat) 0 from ⟨_, _, hbox, (by rw [hg]; exact (below_size HB.l) : w.heap.size ≤ gb279), HR278.out⟩)); have n5_ := Aside0.mk ((by rw [hg]; exact (below_size HB.l) : w.heap.size ≤ gb279)); have n6_ := Aside0.mk ((by rw [hg]; exact (below_size HB.l) : w.heap.size ≤ gb279)); have n7_ := Aside0.mk ((by rw [hg]; exact Nat.ne_of_lt (blk_lt BK275.b) : gb275 ≠ gb279)); have n8_ := Aside0.mk ((by rw [hg]; exact Nat.ne_of_gt (blk_lt BK275.b) : gb279 ≠ gb275)); have n9_ := Aside0.mk ((by rw [hg]; exact Nat.ne_of_lt (blk_lt BK276.b) : gb276 ≠ gb279)); have n10_ := Aside0.mk ((by rw [hg]; exact Nat.ne_of_gt (blk_lt BK276.b) : gb279 ≠ gb276)); have n11_ := Aside0.mk ((by rw [hg]; exact Nat.ne_of_lt (blk_lt BK277.b) : gb277 ≠ gb279)); have n12_ := Aside0.mk ((by rw [hg]; exact Nat.ne_of_gt (blk_lt BK277.b) : gb279 ≠ gb277)); clear BK275 BK276 BK277 HB; revert n0_ n1_ n2_ n3_ n4_ n5_ n6_ n7_ n8_ n9_ n10_ n11_ n12_; intro BK275 BK276 BK277 HB HI279 GW279 GE279 NB275_279 NB279_275 NB276_279 NB279_276 NB277_279 NB279_277; clear hb hbox hg))
   go_loopg [5] k (fun kq v5 w' => ∃ (x5_1 : Int) (x278002_1 : List (S75)) (x280001_1 : Int) (u278002 : Value), v5 = .int .i64 x5_1 ∧ Aside0 (interleavescene_Problem_Formula.l0 kq x5_1 a0_0 a0_1 a0_2 l0_3 (wrap64 (2 + (Int.tmod (wrap64 (a0_0)) 5))) 0 x278002_1 (l0_3.take ((ji2) : Int).toNat) x280001_1 = some (r1, r2, r3, r4)) ∧ Aside0 (kq ≤ k) ∧ Aside0 (Kd.R k75 75 w' w.heap.size (fun _ => True) u278002 x278002_1) ∧ Aside0 (w'.heap[gb275]? = some (.cells #[.int .u8 a0_0, .int .u8 a0_1, .int .u8 a0_2, (.slice A0_3 l0_3.length c0_3)] 25 (0, 0))) ∧ Aside0 (w'.heap[gb276]? = some (.cells #[.int .i64 0, .int .i64 0, (.slice none 0 0), (.slice none 0 0)] 32 (0, 0))) ∧ Aside0 (w'.heap[gb277]? = some (.cells #[.int .i64 (wrap64 (2 + (Int.tmod (wrap64 (a0_0)) 5))), .int .i64 0, u278002, (.slice none 0 0)] 32 (0, 0))) ∧ Aside0 (IsS72 w w' gb279 (l0_3.take ((ji2) : Int).toNat) x280001_1) ∧ Aside0 (Below w.heap.size w w'))
   case atStart => exact ⟨(0), (([] : List (S75))), (0), (.slice none 0 0), (by first | rfl | (simp; done) | (simp [*]; done)), H', ⟨Nat.le_refl _⟩, ⟨by first | exact Kd.R_nil _ _ _ _ _ | exact Kd.N_nil _ _ _ _ _ | exact Kd.V_nil _ _ _ _ _ | exact Kd.Q_nil _ _ _ _ _ | exact Kd.S_nil _ _ _ _ _⟩, ⟨BK275.b⟩, ⟨BK276.b⟩, ⟨BK277.b⟩, ⟨by repeat (first | (with_reducible first | exact HI279.out | apply IsS72.alloc | apply IsS72.drewN | apply IsS72.drew | apply IsS72.set_1 | refine IsS72.far ?_ NB279_275.out _ | refine IsS72.far ?_ NB279_276.out _ | refine IsS72.far ?_ NB279_277.out _) | exact HI279.out)⟩, ⟨by repeat (first | (with_reducible first | exact HB.out | apply below_alloc | apply pw_below_drewN | apply below_drew1 | refine below_set ?_ (IsS72.ge HI279.out) | refine below_set ?_ GE275.out | refine below_set ?_ GE276.out | refine below_set ?_ GE277.out) | exact HB.out)⟩⟩
   case round => as_aux_lemma =>
    clear H'
    try clear c1
    try clear p2
    try clear c3
    try clear c3b0
    try clear c3b1
    try clear c4
    try clear c4b0
    try clear c4b1
    try clear p6
    try clear c7
    try clear c10
    try clear c11
    try clear c14
    try clear hcz12_0
    try clear hcz12_1
    try clear hcz12_2
    try clear hcz12_3
    try clear hcz13_0
    try clear hcz13_1
    try clear hcz13_2
    try clear hcz13_3
    try clear hcz8_0
    try clear hcz8_1
    try clear hcz8_2
    try clear hcz8_3
    try clear hfz12_0
    try clear hfz12_1
    try clear hfz12_2
    try clear hfz12_3
    try clear hfz13_0
    try clear hfz13_1
    try clear hfz13_2
    try clear hfz13_3
    try clear hfz8_0
    try clear hfz8_1
    try clear hfz8_2
    try clear hfz8_3
    obtain ⟨x5_1, x278002_1, x280001_1, u278002, rfl, HA, HK1, HO_278002, BK275, BK276, BK277, HI279, HB⟩ := hrel
    cases gk with
    | zero => exact absurd HA.out (by simp [interleavescene_Problem_Formula.l0])
    | succ k1 =>
     have H := HA.out
     clear HA
     simp only [interleavescene_Problem_Formula.l0] at H
     by_cases c16 : x5_1 < (wrap64 (1 + (Int.tmod (wrap64 (a0_1)) 12)))
     ·rw [if_pos c16] at H
      have c16b0 : decide (x5_1 < (wrap64 (1 + (Int.tmod (wrap64 (a0_1)) 12)))) = true := decide_eq_true c16
      clear c16
      replace H := Option.bind_eq_some_iff.mp H
      obtain ⟨⟨t280, t281⟩, A170, H⟩ := H
      replace H : (if (wrap64 (2 + (Int.tmod (wrap64 (a0_0)) 5))) = 0 then (none) else ((interleavemade_Tape_Next.f (l0_3.take ((ji2) : Int).toNat) t281 256).bind fun bt283 => (if (wrap64 ((wrap64 (2 + (Int.tmod (wrap64 (a0_0)) 5))) - 1)) = 0 then (none) else (if x278002_1.length < 5864062014805 then (interleavescene_Problem_Formula.l0 k1 (wrap64 (x5_1 + 1)) a0_0 a0_1 a0_2 l0_3 (wrap64 (2 + (Int.tmod (wrap64 (a0_0)) 5))) 0 (x278002_1 ++ [(⟨Int.tmod t280 (wrap64 (2 + (Int.tmod (wrap64 (a0_0)) 5))), Int.tmod (wrap64 ((wrap64 ((Int.tmod t280 (wrap64 (2 + (Int.tmod (wrap64 (a0_0)) 5)))) + 1)) + (Int.tmod bt283.1 (wrap64 ((wrap64 (2 + (Int.tmod (wrap64 (a0_0)) 5))) - 1))))) (wrap64 (2 + (Int.tmod (wrap64 (a0_0)) 5))), wrap64 ((Int.tmod (wrap64 (Int.tdiv t280 16)) 7) - 4)⟩ : S75)]) (l0_3.take ((ji2) : Int).toNat) bt283.2) else (none))))) = some (r1, r2, r3, r4) := H
      have A17 := Aside0.mk A170
      clear A170
      by_cases c18 : (wrap64 (2 + (Int.tmod (wrap64 (a0_0)) 5))) = 0
      ·rw [if_pos c18] at H
       exact absurd H (by simp)
      ·rw [if_neg c18] at H
       have c18b0 : ((wrap64 (2 + (Int.tmod (wrap64 (a0_0)) 5))) == 0) = false := beq_eq_false_iff_ne.mpr c18
       have c18b1 : ((wrap64 (2 + (Int.tmod (wrap64 (a0_0)) 5))) != 0) = true := bne_iff_ne.mpr c18
       replace H := Option.bind_eq_some_iff.mp H
       obtain ⟨⟨t283, t284⟩, A190, H⟩ := H
       replace H : (if (wrap64 ((wrap64 (2 + (Int.tmod (wrap64 (a0_0)) 5))) - 1)) = 0 then (none) else (if x278002_1.length < 5864062014805 then (interleavescene_Problem_Formula.l0 k1 (wrap64 (x5_1 + 1)) a0_0 a0_1 a0_2 l0_3 (wrap64 (2 + (Int.tmod (wrap64 (a0_0)) 5))) 0 (x278002_1 ++ [(⟨Int.tmod t280 (wrap64 (2 + (Int.tmod (wrap64 (a0_0)) 5))), Int.tmod (wrap64 ((wrap64 ((Int.tmod t280 (wrap64 (2 + (Int.tmod (wrap64 (a0_0)) 5)))) + 1)) + (Int.tmod t283 (wrap64 ((wrap64 (2 + (Int.tmod (wrap64 (a0_0)) 5))) - 1))))) (wrap64 (2 + (Int.tmod (wrap64 (a0_0)) 5))), wrap64 ((Int.tmod (wrap64 (Int.tdiv t280 16)) 7) - 4)⟩ : S75)]) (l0_3.take ((ji2) : Int).toNat) t284) else (none))) = some (r1, r2, r3, r4) := H
       have A19 := Aside0.mk A190
       clear A190
       by_cases c20 : (wrap64 ((wrap64 (2 + (Int.tmod (wrap64 (a0_0)) 5))) - 1)) = 0
       ·rw [if_pos c20] at H
        exact absurd H (by simp)
       ·rw [if_neg c20] at H
        have c20b0 : ((wrap64 ((wrap64 (2 + (Int.tmod (wrap64 (a0_0)) 5))) - 1)) == 0) = false := beq_eq_false_iff_ne.mpr c20
        have c20b1 : ((wrap64 ((wrap64 (2 + (Int.tmod (wrap64 (a0_0)) 5))) - 1)) != 0) = true := bne_iff_ne.mpr c20
        by_cases c21 : x278002_1.length < 5864062014805
        ·rw [if_pos c21] at H
         have LMc21 := Aside0.mk c21
         clear c21
         obtain ⟨y285, hy285⟩ : ∃ y_ : List (S75), y_ = (x278002_1 ++ [(⟨Int.tmod t280 (wrap64 (2 + (Int.tmod (wrap64 (a0_0)) 5))), Int.tmod (wrap64 ((wrap64 ((Int.tmod t280 (wrap64 (2 + (Int.tmod (wrap64 (a0_0)) 5)))) + 1)) + (Int.tmod t283 (wrap64 ((wrap64 (2 + (Int.tmod (wrap64 (a0_0)) 5))) - 1))))) (wrap64 (2 + (Int.tmod (wrap64 (a0_0)) 5))), wrap64 ((Int.tmod (wrap64 (Int.tdiv t280 16)) 7) - 4)⟩ : S75)]) := ⟨_, rfl⟩
         replace H : (interleavescene_Problem_Formula.l0 k1 (wrap64 (x5_1 + 1)) a0_0 a0_1 a0_2 l0_3 (wrap64 (2 + (Int.tmod (wrap64 (a0_0)) 5))) 0 y285 (l0_3.take ((ji2) : Int).toNat) t284) = some (r1, r2, r3, r4) := by first | (rw [hy285]; with_reducible exact H) | (have H2_ := (Option.bind_some _ _).symm.trans H; rw [hy285]; with_reducible exact H2_) | (have H2_ := (Option.bind_some _ _).symm.trans H; with_reducible exact H2_) | with_reducible exact H | (rw [hy285]; exact H) | exact H
         have Ny285 := Aside0.mk hy285
         clear hy285
         have H' := Aside0.mk H
         clear H
         have hnb22 := NB275_276.out
         have hnc22 := NB276_275.out
         have hnb23 := NB275_277.out
         have hnc23 := NB277_275.out
         have hnb24 := NB275_279.out
         have hnc24 := NB279_275.out
         have hcz25_0 := BK275.cl 0 (.int .u8 a0_0)
         have hcz25_1 := BK275.cl 1 (.int .u8 a0_1)
         have hcz25_2 := BK275.cl 2 (.int .u8 a0_2)
         have hcz25_3 := BK275.cl 3 (.slice A0_3 l0_3.length c0_3)
         have hfz25_0 := BK275.fz 0
         have hfz25_1 := BK275.fz 1
         have hfz25_2 := BK275.fz 2
         have hfz25_3 := BK275.fz 3
         try go_wp2_with (first | ((with_reducible refine gate_callee (f := 32) rfl ?_); refine goesM_ Try.func32 #[.pointer (some ⟨gb279, 0, none⟩), .int .i64 256] ?_; (with_reducible refine (interleavemade_Tape_Next.calls gb279 (l0_3.take ((ji2) : Int).toNat) x280001_1 256 t280 t281 w _ ?side1 ?side2 A17.out).mono ?_); (case side1 => repeat (first | (with_reducible first | exact HI279.out | apply IsS72.alloc | apply IsS72.drewN | apply IsS72.drew | apply IsS72.set_1 | refine IsS72.far ?_ NB279_275.out _ | refine IsS72.far ?_ NB279_276.out _ | refine IsS72.far ?_ NB279_277.out _) | exact HI279.out)); (case side2 => repeat (first | (with_reducible first | exact HB.out | apply below_alloc | apply pw_below_drewN | apply below_drew1 | refine below_set ?_ (IsS72.ge HI279.out) | refine below_set ?_ GE275.out | refine below_set ?_ GE276.out | refine below_set ?_ GE277.out) | exact HB.out)); rintro e w26 ⟨rfl, hi, hb, hk⟩; refine ⟨_, rfl, ?_⟩; have n0_ := Aside0.mk (Kd.R_mono (Kd.R_keep (IsS72.apart (show IsS72 w _ gb279 (l0_3.take ((ji2) : Int).toNat) x280001_1 from by repeat (first | (with_reducible first | exact HI279.out | apply IsS72.alloc | apply IsS72.drewN | apply IsS72.drew | apply IsS72.set_1 | refine IsS72.far ?_ NB279_275.out _ | refine IsS72.far ?_ NB279_276.out _ | refine IsS72.far ?_ NB279_277.out _) | exact HI279.out)) HO_278002.r (by decide)) hk (fun _ h => h.2)) (fun _ h => h.1)); have n1_ := Aside0.mk (KeepBut.blk hk (g' := gb275) (o := .cells #[.int .u8 a0_0, .int .u8 a0_1, .int .u8 a0_2, .slice A0_3 l0_3.length c0_3] 25 (0, 0)) BK275.b NB275_279.out (by simp)); have n2_ := Aside0.mk (KeepBut.blk hk (g' := gb276) (o := .cells #[.int .i64 0, .int .i64 0, .slice none 0 0, .slice none 0 0] 32 (0, 0)) BK276.b NB276_279.out (by simp)); have n3_ := Aside0.mk (KeepBut.blk hk (g' := gb277) (o := .cells #[.int .i64 (wrap64 (2 + (Int.tmod (wrap64 (a0_0)) 5))), .int .i64 0, u278002, .slice none 0 0] 32 (0, 0)) BK277.b NB277_279.out (by simp)); have n4_ := Aside0.mk (hb); have n5_ := Aside0.mk (hi); clear HO_278002 BK275 BK276 BK277 HB HI279; revert n0_ n1_ n2_ n3_ n4_ n5_; intro HO_278002 BK275 BK276 BK277 HB HI279; (try clear hb); (try clear hb2); (try clear hk); (try clear hi); have hnb27 := NB277_276.out; have hnc27 := NB276_277.out; have hnb28 := NB277_279.out; have hnc28 := NB279_277.out; have hcz29_0 := BK277.cl 0 (.int .i64 (wrap64 (2 + (Int.tmod (wrap64 (a0_0)) 5)))); have hcz29_1 := BK277.cl 1 (.int .i64 0); have hcz29_2 := BK277.cl 2 (u278002); have hcz29_3 := BK277.cl 3 (.slice none 0 0); have hfz29_0 := BK277.fz 0; have hfz29_1 := BK277.fz 1; have hfz29_2 := BK277.fz 2; have hfz29_3 := BK277.fz 3) | ((with_reducible refine gate_dst (N := 7) rfl ?_); (try (refine gate_guard (by rfl) ?_; dsimp only)); refine box_ev (N := 7) rfl (cs := #[.int .i64 0, .int .i64 0, .int .i64 0]) (t := 75) ?_; intro gb282 hg w30 hbox hb; have n0_ := Aside0.mk (Kd.R_below (Kd.R_elderB HO_278002.r gb282 (Nat.le_of_eq hg.symm)) hb); have n1_ := Aside0.mk (blk_below BK275.b hb); have n2_ := Aside0.mk (blk_below BK276.b hb); have n3_ := Aside0.mk (blk_below BK277.b hb); have n4_ := Aside0.mk (IsS72.below (by repeat (first | (with_reducible first | exact HI279.out | apply IsS72.alloc | apply IsS72.drewN | apply IsS72.drew | apply IsS72.set_1 | refine IsS72.far ?_ NB279_275.out _ | refine IsS72.far ?_ NB279_276.out _ | refine IsS72.far ?_ NB279_277.out _) | exact HI279.out)) hb); have n5_ := Aside0.mk (below_step (by repeat (first | (with_reducible first | exact HB.out | apply below_alloc | apply pw_below_drewN | apply below_drew1 | refine below_set ?_ (IsS72.ge HI279.out) | refine below_set ?_ GE275.out | refine below_set ?_ GE276.out | refine below_set ?_ GE277.out) | exact HB.out)) hb); have n6_ := Aside0.mk (hbox); have n7_ := Aside0.mk ((by rw [hg]; exact (below_size (by repeat (first | (with_reducible first | exact HB.out | apply below_alloc | apply pw_below_drewN | apply below_drew1 | refine below_set ?_ (IsS72.ge HI279.out) | refine below_set ?_ GE275.out | refine below_set ?_ GE276.out | refine below_set ?_ GE277.out) | exact HB.out))) : w.heap.size ≤ gb282)); have n8_ := Aside0.mk ((by rw [hg]; exact (below_size (by repeat (first | (with_reducible first | exact HB.out | apply below_alloc | apply pw_below_drewN | apply below_drew1 | refine below_set ?_ (IsS72.ge HI279.out) | refine below_set ?_ GE275.out | refine below_set ?_ GE276.out | refine below_set ?_ GE277.out) | exact HB.out))) : w.heap.size ≤ gb282)); have n9_ := Aside0.mk ((by rw [hg]; exact Nat.ne_of_lt (blk_lt BK275.b) : gb275 ≠ gb282)); have n10_ := Aside0.mk ((by rw [hg]; exact Nat.ne_of_gt (blk_lt BK275.b) : gb282 ≠ gb275)); have n11_ := Aside0.mk ((by rw [hg]; exact Nat.ne_of_lt (blk_lt BK276.b) : gb276 ≠ gb282)); have n12_ := Aside0.mk ((by rw [hg]; exact Nat.ne_of_gt (blk_lt BK276.b) : gb282 ≠ gb276)); have n13_ := Aside0.mk ((by rw [hg]; exact Nat.ne_of_lt (blk_lt BK277.b) : gb277 ≠ gb282)); have n14_ := Aside0.mk ((by rw [hg]; exact Nat.ne_of_gt (blk_lt BK277.b) : gb282 ≠ gb277)); have n15_ := Aside0.mk ((by rw [hg]; exact Nat.ne_of_lt (IsS72.lt (show IsS72 w _ gb279 (l0_3.take ((ji2) : Int).toNat) t281 from by repeat (first | (with_reducible first | exact HI279.out | apply IsS72.alloc | apply IsS72.drewN | apply IsS72.drew | apply IsS72.set_1 | refine IsS72.far ?_ NB279_275.out _ | refine IsS72.far ?_ NB279_276.out _ | refine IsS72.far ?_ NB279_277.out _) | exact HI279.out))) : gb279 ≠ gb282)); have n16_ := Aside0.mk ((by rw [hg]; exact Nat.ne_of_gt (IsS72.lt (show IsS72 w _ gb279 (l0_3.take ((ji2) : Int).toNat) t281 from by repeat (first | (with_reducible first | exact HI279.out | apply IsS72.alloc | apply IsS72.drewN | apply IsS72.drew | apply IsS72.set_1 | refine IsS72.far ?_ NB279_275.out _ | refine IsS72.far ?_ NB279_276.out _ | refine IsS72.far ?_ NB279_277.out _) | exact HI279.out))) : gb282 ≠ gb279)); clear HO_278002 BK275 BK276 BK277 HI279 HB; revert n0_ n1_ n2_ n3_ n4_ n5_ n6_ n7_ n8_ n9_ n10_ n11_ n12_ n13_ n14_ n15_ n16_; intro HO_278002 BK275 BK276 BK277 HI279 HB BK282 GW282 GE282 NB275_282 NB282_275 NB276_282 NB282_276 NB277_282 NB282_277 NB279_282 NB282_279; clear hb hbox hg; have hnb31 := NB282_275.out; have hnc31 := NB275_282.out; have hnb32 := NB282_276.out; have hnc32 := NB276_282.out; have hnb33 := NB282_277.out; have hnc33 := NB277_282.out; have hnb34 := NB282_279.out; have hnc34 := NB279_282.out; have hcz35_0 := BK282.cl 0 (.int .i64 0); have hcz35_1 := BK282.cl 1 (.int .i64 0); have hcz35_2 := BK282.cl 2 (.int .i64 0); have hfz35_0 := BK282.fz 0; have hfz35_1 := BK282.fz 1; have hfz35_2 := BK282.fz 2))
         have n0_ : Aside0 (Kd.R k75 75 (((w30.setCell ⟨gb282, 0, none⟩ (.int .i64 (Int.tmod t280 (wrap64 (2 + (Int.tmod (wrap64 (a0_0)) 5)))))).setCell ⟨gb282, 1, none⟩ (.int .i64 0)).setCell ⟨gb282, 2, none⟩ (.int .i64 (wrap64 ((Int.tmod (wrap64 (Int.tdiv t280 16)) 7) - 4)))) w.heap.size (fun k_ => k_ ≠ gb282) u278002 x278002_1) := ⟨by (with_reducible repeat (first | apply Kd.R_alloc | apply Kd.R_drewN | apply Kd.R_drew)); exact Kd.R_mono (Kd.R_far (p := ⟨gb282, 2, none⟩) (Kd.R_far (p := ⟨gb282, 1, none⟩) (Kd.R_far (p := ⟨gb282, 0, none⟩) (Kd.R_mono HO_278002.out (fun k_ hk => (⟨hk, hk.2⟩ : _ ∧ k_ ≠ gb282))) (fun _ hk => hk.2) (.int .i64 (Int.tmod t280 (wrap64 (2 + (Int.tmod (wrap64 (a0_0)) 5)))))) (fun _ hk => hk.2) (.int .i64 0)) (fun _ hk => hk.2) (.int .i64 (wrap64 ((Int.tmod (wrap64 (Int.tdiv t280 16)) 7) - 4)))) (fun _ hk => hk.1.2)⟩
         have n1_ : Aside0 ((((w30.setCell ⟨gb282, 0, none⟩ (.int .i64 (Int.tmod t280 (wrap64 (2 + (Int.tmod (wrap64 (a0_0)) 5)))))).setCell ⟨gb282, 1, none⟩ (.int .i64 0)).setCell ⟨gb282, 2, none⟩ (.int .i64 (wrap64 ((Int.tmod (wrap64 (Int.tdiv t280 16)) 7) - 4)))).heap[gb275]? = some (.cells #[.int .u8 a0_0, .int .u8 a0_1, .int .u8 a0_2, .slice A0_3 l0_3.length c0_3] 25 (0, 0))) := ⟨by (with_reducible repeat (first | refine blk_drewN ?_ _ | refine blk_drew ?_ | refine blk_alloc ?_ _)); refine blk_far ?_ NB275_282.out _; (with_reducible repeat (first | refine blk_drewN ?_ _ | refine blk_drew ?_ | refine blk_alloc ?_ _)); refine blk_far ?_ NB275_282.out _; (with_reducible repeat (first | refine blk_drewN ?_ _ | refine blk_drew ?_ | refine blk_alloc ?_ _)); refine blk_far ?_ NB275_282.out _; (with_reducible repeat (first | refine blk_drewN ?_ _ | refine blk_drew ?_ | refine blk_alloc ?_ _)); exact BK275.out⟩
         have n2_ : Aside0 ((((w30.setCell ⟨gb282, 0, none⟩ (.int .i64 (Int.tmod t280 (wrap64 (2 + (Int.tmod (wrap64 (a0_0)) 5)))))).setCell ⟨gb282, 1, none⟩ (.int .i64 0)).setCell ⟨gb282, 2, none⟩ (.int .i64 (wrap64 ((Int.tmod (wrap64 (Int.tdiv t280 16)) 7) - 4)))).heap[gb276]? = some (.cells #[.int .i64 0, .int .i64 0, .slice none 0 0, .slice none 0 0] 32 (0, 0))) := ⟨by (with_reducible repeat (first | refine blk_drewN ?_ _ | refine blk_drew ?_ | refine blk_alloc ?_ _)); refine blk_far ?_ NB276_282.out _; (with_reducible repeat (first | refine blk_drewN ?_ _ | refine blk_drew ?_ | refine blk_alloc ?_ _)); refine blk_far ?_ NB276_282.out _; (with_reducible repeat (first | refine blk_drewN ?_ _ | refine blk_drew ?_ | refine blk_alloc ?_ _)); refine blk_far ?_ NB276_282.out _; (with_reducible repeat (first | refine blk_drewN ?_ _ | refine blk_drew ?_ | refine blk_alloc ?_ _)); exact BK276.out⟩
         have n3_ : Aside0 ((((w30.setCell ⟨gb282, 0, none⟩ (.int .i64 (Int.tmod t280 (wrap64 (2 + (Int.tmod (wrap64 (a0_0)) 5)))))).setCell ⟨gb282, 1, none⟩ (.int .i64 0)).setCell ⟨gb282, 2, none⟩ (.int .i64 (wrap64 ((Int.tmod (wrap64 (Int.tdiv t280 16)) 7) - 4)))).heap[gb277]? = some (.cells #[.int .i64 (wrap64 (2 + (Int.tmod (wrap64 (a0_0)) 5))), .int .i64 0, u278002, .slice none 0 0] 32 (0, 0))) := ⟨by (with_reducible repeat (first | refine blk_drewN ?_ _ | refine blk_drew ?_ | refine blk_alloc ?_ _)); refine blk_far ?_ NB277_282.out _; (with_reducible repeat (first | refine blk_drewN ?_ _ | refine blk_drew ?_ | refine blk_alloc ?_ _)); refine blk_far ?_ NB277_282.out _; (with_reducible repeat (first | refine blk_drewN ?_ _ | refine blk_drew ?_ | refine blk_alloc ?_ _)); refine blk_far ?_ NB277_282.out _; (with_reducible repeat (first | refine blk_drewN ?_ _ | refine blk_drew ?_ | refine blk_alloc ?_ _)); exact BK277.out⟩
         have n4_ : Aside0 ((((w30.setCell ⟨gb282, 0, none⟩ (.int .i64 (Int.tmod t280 (wrap64 (2 + (Int.tmod (wrap64 (a0_0)) 5)))))).setCell ⟨gb282, 1, none⟩ (.int .i64 0)).setCell ⟨gb282, 2, none⟩ (.int .i64 (wrap64 ((Int.tmod (wrap64 (Int.tdiv t280 16)) 7) - 4)))).heap[gb282]? = some (.cells #[.int .i64 (Int.tmod t280 (wrap64 (2 + (Int.tmod (wrap64 (a0_0)) 5)))), .int .i64 0, .int .i64 (wrap64 ((Int.tmod (wrap64 (Int.tdiv t280 16)) 7) - 4))] 75 (0, 0))) := ⟨by (with_reducible repeat (first | refine blk_drewN ?_ _ | refine blk_drew ?_ | refine blk_alloc ?_ _)); refine blk_put (cs := #[.int .i64 (Int.tmod t280 (wrap64 (2 + (Int.tmod (wrap64 (a0_0)) 5)))), .int .i64 0, .int .i64 0]) ?_ 2 _ rfl; (with_reducible repeat (first | refine blk_drewN ?_ _ | refine blk_drew ?_ | refine blk_alloc ?_ _)); refine blk_put (cs := #[.int .i64 (Int.tmod t280 (wrap64 (2 + (Int.tmod (wrap64 (a0_0)) 5)))), .int .i64 0, .int .i64 0]) ?_ 1 _ rfl; (with_reducible repeat (first | refine blk_drewN ?_ _ | refine blk_drew ?_ | refine blk_alloc ?_ _)); refine blk_put (cs := #[.int .i64 0, .int .i64 0, .int .i64 0]) ?_ 0 _ rfl; (with_reducible repeat (first | refine blk_drewN ?_ _ | refine blk_drew ?_ | refine blk_alloc ?_ _)); exact BK282.out⟩
         have n5_ : Aside0 (IsS72 w (((w30.setCell ⟨gb282, 0, none⟩ (.int .i64 (Int.tmod t280 (wrap64 (2 + (Int.tmod (wrap64 (a0_0)) 5)))))).setCell ⟨gb282, 1, none⟩ (.int .i64 0)).setCell ⟨gb282, 2, none⟩ (.int .i64 (wrap64 ((Int.tmod (wrap64 (Int.tdiv t280 16)) 7) - 4)))) gb279 (l0_3.take ((ji2) : Int).toNat) t281) := ⟨by repeat (first | (with_reducible first | exact HI279.out | apply IsS72.alloc | apply IsS72.drewN | apply IsS72.drew | apply IsS72.set_1 | refine IsS72.far ?_ NB279_275.out _ | refine IsS72.far ?_ NB279_276.out _ | refine IsS72.far ?_ NB279_277.out _ | refine IsS72.far ?_ NB279_282.out _) | exact HI279.out)⟩
         have n6_ : Aside0 (Below w.heap.size w (((w30.setCell ⟨gb282, 0, none⟩ (.int .i64 (Int.tmod t280 (wrap64 (2 + (Int.tmod (wrap64 (a0_0)) 5)))))).setCell ⟨gb282, 1, none⟩ (.int .i64 0)).setCell ⟨gb282, 2, none⟩ (.int .i64 (wrap64 ((Int.tmod (wrap64 (Int.tdiv t280 16)) 7) - 4))))) := ⟨by repeat (first | (with_reducible first | exact HB.out | apply below_alloc | apply pw_below_drewN | apply below_drew1 | refine below_set ?_ (IsS72.ge HI279.out) | refine below_set ?_ GE275.out | refine below_set ?_ GE276.out | refine below_set ?_ GE277.out | refine below_set ?_ GE282.out) | exact HB.out)⟩
         (try clear HO_278002)
         (try clear BK275)
         (try clear BK276)
         (try clear BK277)
         (try clear BK282)
         (try clear HI279)
         (try clear HB)
         generalize (((w30.setCell ⟨gb282, 0, none⟩ (.int .i64 (Int.tmod t280 (wrap64 (2 + (Int.tmod (wrap64 (a0_0)) 5)))))).setCell ⟨gb282, 1, none⟩ (.int .i64 0)).setCell ⟨gb282, 2, none⟩ (.int .i64 (wrap64 ((Int.tmod (wrap64 (Int.tdiv t280 16)) 7) - 4)))) = w36 at n0_ n1_ n2_ n3_ n4_ n5_ n6_ ⊢
         have HO_278002 := n0_
         have BK275 := n1_
         have BK276 := n2_
         have BK277 := n3_
         have BK282 := n4_
         have HI279 := n5_
         have HB := n6_
         clear n0_ n1_ n2_ n3_ n4_ n5_ n6_
         have n0_ := Aside0.mk (Kd.R_drew HO_278002.out)
         have n1_ := Aside0.mk (blk_drew BK275.out)
         have n2_ := Aside0.mk (blk_drew BK276.out)
         have n3_ := Aside0.mk (blk_drew BK277.out)
         have n4_ := Aside0.mk (blk_drew BK282.out)
         have n5_ := Aside0.mk (IsS72.drew HI279.out)
         have n6_ := Aside0.mk (below_drew1 HB.out)
         clear HO_278002 BK275 BK276 BK277 BK282 HI279 HB; revert n0_ n1_ n2_ n3_ n4_ n5_ n6_; intro HO_278002 BK275 BK276 BK277 BK282 HI279 HB
         refine start_ (n := 15) (S := fun w' => w'.cell? ⟨gb282, 0, none⟩ = some (.int .i64 (Int.tmod t280 (wrap64 (2 + (Int.tmod (wrap64 (a0_0)) 5))))) ∧ w'.cell? ⟨gb282, 1, none⟩ = some (.int .i64 0) ∧ w'.cell? ⟨gb282, 2, none⟩ = some (.int .i64 (wrap64 ((Int.tmod (wrap64 (Int.tdiv t280 16)) 7) - 4))) ∧ w'.cell? ⟨gb277, 0, none⟩ = some (.int .i64 (wrap64 (2 + (Int.tmod (wrap64 (a0_0)) 5)))) ∧ w'.cell? ⟨gb277, 1, none⟩ = some (.int .i64 0) ∧ w'.cell? ⟨gb277, 2, none⟩ = some (u278002) ∧ w'.cell? ⟨gb277, 3, none⟩ = some (.slice none 0 0)) (ds := [14]) #[false, false, false, false, false, false, false, false, false, false, false, false, false, false, false] (by kernel_rfl) rfl rfl ⟨(blk_cell BK282.out 0).trans rfl, (blk_cell BK282.out 1).trans rfl, (blk_cell BK282.out 2).trans rfl, (blk_cell BK277.out 0).trans rfl, (blk_cell BK277.out 1).trans rfl, (blk_cell BK277.out 2).trans rfl, (blk_cell BK277.out 3).trans rfl⟩ (fun hHeld => ?_); refine with_tabW interleavescene_Problem_Formula.tab8 interleavescene_Problem_Formula.bits8 (fun HT_ HW_ => ?_)
         generalize w36.drew = w37 at HO_278002 BK275 BK276 BK277 BK282 HI279 HB hHeld ⊢
         refine pure_ (i := 0) (N := some 49) (v := ?_) (a' := ?_) #[true, false, false, false, false, false, false, false, false, false, false, false, false, false, false] rfl rfl (any_of HT_.out (by kernel_rfl)) (fun _ _ _ h => h) (Or.inl ⟨by rfl, ?_⟩) ?_ ?_
         rotate_left
         ·intro w'
          go_simp
          with_reducible rfl
         rotate_left
         ·simp only [Act.put, List.setIfInBounds_toArray, List.set_cons_zero, List.set_cons_succ, i64_w, i32_w]
          rfl
         refine pure_ (i := 3) (N := some 52) (v := ?_) (a' := ?_) #[true, false, false, true, false, false, false, false, false, false, false, false, false, false, false] rfl rfl (any_of HT_.out (by kernel_rfl)) (fun _ _ _ h => h) (Or.inl ⟨by rfl, ?_⟩) ?_ ?_
         rotate_left
         ·intro w'
          go_simp
          with_reducible rfl
         rotate_left
         ·simp only [Act.put, List.setIfInBounds_toArray, List.set_cons_zero, List.set_cons_succ, i64_w, i32_w]
          rfl
         refine pure_ (i := 5) (N := some 54) (v := ?_) (a' := ?_) #[true, false, false, true, false, true, false, false, false, false, false, false, false, false, false] rfl rfl (any_of HT_.out (by kernel_rfl)) (fun _ _ _ h => h) (Or.inl ⟨by rfl, ?_⟩) ?_ ?_
         rotate_left
         ·intro w'
          go_simp
          with_reducible rfl
         rotate_left
         ·simp only [Act.put, List.setIfInBounds_toArray, List.set_cons_zero, List.set_cons_succ, i64_w, i32_w]
          rfl
         refine pure_ (i := 10) (N := some 59) (v := ?_) (a' := ?_) #[true, false, false, true, false, true, false, false, false, false, true, false, false, false, false] rfl rfl (any_of HT_.out (by kernel_rfl)) (fun _ _ _ h => h) (Or.inl ⟨by rfl, ?_⟩) ?_ ?_
         rotate_left
         ·intro w'
          go_simp
          with_reducible rfl
         rotate_left
         ·simp only [Act.put, List.setIfInBounds_toArray, List.set_cons_zero, List.set_cons_succ, i64_w, i32_w]
          rfl
         refine take_ (i := 1) (N := some 50) (v := ?_) (a' := ?_) #[true, true, false, true, false, true, false, false, false, false, true, false, false, false, false] rfl rfl (take_ofW HT_.out HW_.out (by kernel_rfl)) (fun _ _ _ h => h) (Or.inl ⟨by rfl, ?_⟩) hHeld ?_ ?_
         rotate_left
         ·rintro w' ⟨s0, s1, s2, s3, s4, s5, s6⟩
          go_simp
          with_reducible rfl
         rotate_left
         ·simp only [Act.put, List.setIfInBounds_toArray, List.set_cons_zero, List.set_cons_succ, i64_w, i32_w]
          rfl
         refine pure_ (i := 2) (N := some 51) (v := ?_) (a' := ?_) #[true, true, true, true, false, true, false, false, false, false, true, false, false, false, false] rfl rfl (any_of HT_.out (by kernel_rfl)) (fun _ _ _ h => h) (Or.inl ⟨by rfl, ?_⟩) ?_ ?_
         rotate_left
         ·intro w'
          go_simp
          with_reducible rfl
         rotate_left
         ·simp only [Act.put, List.setIfInBounds_toArray, List.set_cons_zero, List.set_cons_succ, i64_w, i32_w]
          rfl
         refine take_ (i := 6) (N := some 55) (v := ?_) (a' := ?_) #[true, true, true, true, false, true, true, false, false, false, true, false, false, false, false] rfl rfl (take_ofW HT_.out HW_.out (by kernel_rfl)) (fun _ _ _ h => h) (Or.inl ⟨by rfl, ?_⟩) hHeld ?_ ?_
         rotate_left
         ·rintro w' ⟨s0, s1, s2, s3, s4, s5, s6⟩
          go_simp
          with_reducible rfl
         rotate_left
         ·simp only [Act.put, List.setIfInBounds_toArray, List.set_cons_zero, List.set_cons_succ, i64_w, i32_w]
          rfl
         refine pure_ (i := 7) (N := some 56) (v := ?_) (a' := ?_) #[true, true, true, true, false, true, true, true, false, false, true, false, false, false, false] rfl rfl (any_of HT_.out (by kernel_rfl)) (fun _ _ _ h => h) (Or.inl ⟨by rfl, ?_⟩) ?_ ?_
         rotate_left
         ·intro w'
          go_simp
          with_reducible rfl
         rotate_left
         ·simp only [Act.put, List.setIfInBounds_toArray, List.set_cons_zero, List.set_cons_succ, i64_w, i32_w]
          rfl
         refine take_ (i := 11) (N := some 60) (v := ?_) (a' := ?_) #[true, true, true, true, false, true, true, true, false, false, true, true, false, false, false] rfl rfl (take_ofW HT_.out HW_.out (by kernel_rfl)) (fun _ _ _ h => h) (Or.inl ⟨by rfl, ?_⟩) hHeld ?_ ?_
         rotate_left
         ·rintro w' ⟨s0, s1, s2, s3, s4, s5, s6⟩
          go_simp
          with_reducible rfl
         rotate_left
         ·simp only [Act.put, List.setIfInBounds_toArray, List.set_cons_zero, List.set_cons_succ, i64_w, i32_w]
          rfl
         refine one_ (i := 4) (N := some 53) #[true, true, true, true, true, true, true, true, false, false, true, true, false, false, false] rfl rfl (one_of HT_.out (by kernel_rfl)) (by decide) (fun K hK => ?_)
         refine goes_ Try.func32 (by kernel_rfl) rfl #[.pointer (some ⟨gb279, 0, none⟩), .int .i64 256] (by rfl) rfl rfl (by (try simp only [List.map_toArray, List.map_cons, List.map_nil]); first | done | rfl | (simp only [List.length_drop, List.length_take]; rfl)) ?_
         with_reducible refine (interleavemade_Tape_Next.calls gb279 (l0_3.take ((ji2) : Int).toNat) t281 256 t283 t284 w _ ?side1 ?side2 A19.out).mono ?_
         (case side1 => repeat (first | (with_reducible first | exact HI279.out | apply IsS72.alloc | apply IsS72.drewN | apply IsS72.drew | apply IsS72.set_1 | refine IsS72.far ?_ NB279_275.out _ | refine IsS72.far ?_ NB279_276.out _ | refine IsS72.far ?_ NB279_277.out _ | refine IsS72.far ?_ NB279_282.out _) | exact HI279.out))
         (case side2 => repeat (first | (with_reducible first | exact HB.out | apply below_alloc | apply pw_below_drewN | apply below_drew1 | refine below_set ?_ (IsS72.ge HI279.out) | refine below_set ?_ GE275.out | refine below_set ?_ GE276.out | refine below_set ?_ GE277.out | refine below_set ?_ GE282.out) | exact HB.out))
         rintro e w38 ⟨rfl, hi, hb, hk⟩
         refine ⟨_, rfl, ?_⟩
         have n0_ := Aside0.mk (Kd.R_mono (Kd.R_keep (IsS72.apart (show IsS72 w _ gb279 (l0_3.take ((ji2) : Int).toNat) t281 from by repeat (first | (with_reducible first | exact HI279.out | apply IsS72.alloc | apply IsS72.drewN | apply IsS72.drew | apply IsS72.set_1 | refine IsS72.far ?_ NB279_275.out _ | refine IsS72.far ?_ NB279_276.out _ | refine IsS72.far ?_ NB279_277.out _ | refine IsS72.far ?_ NB279_282.out _) | exact HI279.out)) HO_278002.r (by decide)) hk (fun _ h => h.2)) (fun _ h => h.1))
         have n1_ := Aside0.mk (KeepBut.blk hk (g' := gb275) (o := .cells #[.int .u8 a0_0, .int .u8 a0_1, .int .u8 a0_2, .slice A0_3 l0_3.length c0_3] 25 (0, 0)) BK275.b NB275_279.out (by simp))
         have n2_ := Aside0.mk (KeepBut.blk hk (g' := gb276) (o := .cells #[.int .i64 0, .int .i64 0, .slice none 0 0, .slice none 0 0] 32 (0, 0)) BK276.b NB276_279.out (by simp))
         have n3_ := Aside0.mk (KeepBut.blk hk (g' := gb277) (o := .cells #[.int .i64 (wrap64 (2 + (Int.tmod (wrap64 (a0_0)) 5))), .int .i64 0, u278002, .slice none 0 0] 32 (0, 0)) BK277.b NB277_279.out (by simp))
         have n4_ := Aside0.mk (KeepBut.blk hk (g' := gb282) (o := .cells #[.int .i64 (Int.tmod t280 (wrap64 (2 + (Int.tmod (wrap64 (a0_0)) 5)))), .int .i64 0, .int .i64 (wrap64 ((Int.tmod (wrap64 (Int.tdiv t280 16)) 7) - 4))] 75 (0, 0)) BK282.b NB282_279.out (by simp))
         have n5_ := Aside0.mk (hb)
         have n6_ := Aside0.mk (hi)
         clear HO_278002 BK275 BK276 BK277 BK282 HB HI279; revert n0_ n1_ n2_ n3_ n4_ n5_ n6_; intro HO_278002 BK275 BK276 BK277 BK282 HB HI279
         (try clear hb)
         (try clear hb2)
         (try clear hk)
         (try clear hi)
         refine hK.out _ _ ⟨(blk_cell BK282.out 0).trans rfl, (blk_cell BK282.out 1).trans rfl, (blk_cell BK282.out 2).trans rfl, (blk_cell BK277.out 0).trans rfl, (blk_cell BK277.out 1).trans rfl, (blk_cell BK277.out 2).trans rfl, (blk_cell BK277.out 3).trans rfl⟩ (fun hHeld => ?_)
         clear hK K
         refine norm_ (a' := ?_) ?_ ?_
         rotate_left
         ·show Act.put _ (some 53) _ = _
          simp only [Act.put, List.setIfInBounds_toArray, List.set_cons_zero, List.set_cons_succ, i64_w, i32_w]
          rfl
         refine pure_ (i := 8) (N := some 57) (v := ?_) (a' := ?_) #[true, true, true, true, true, true, true, true, true, false, true, true, false, false, false] rfl rfl (any_of HT_.out (by kernel_rfl)) (fun _ _ _ h => h) (Or.inl ⟨by rfl, ?_⟩) ?_ ?_
         rotate_left
         ·intro w'
          go_simp
          with_reducible rfl
         rotate_left
         ·simp only [Act.put, List.setIfInBounds_toArray, List.set_cons_zero, List.set_cons_succ, i64_w, i32_w]
          rfl
         refine pure_ (i := 9) (N := some 58) (v := ?_) (a' := ?_) #[true, true, true, true, true, true, true, true, true, true, true, true, false, false, false] rfl rfl (any_of HT_.out (by kernel_rfl)) (fun _ _ _ h => h) (Or.inl ⟨by rfl, ?_⟩) ?_ ?_
         rotate_left
         ·intro w'
          go_simp
          with_reducible rfl
         rotate_left
         ·simp only [Act.put, List.setIfInBounds_toArray, List.set_cons_zero, List.set_cons_succ, i64_w, i32_w]
          rfl
         refine pure_ (i := 12) (N := some 61) (v := ?_) (a' := ?_) #[true, true, true, true, true, true, true, true, true, true, true, true, true, false, false] rfl rfl (any_of HT_.out (by kernel_rfl)) (fun _ _ _ h => h) (Or.inl ⟨by rfl, ?_⟩) ?_ ?_
         rotate_left
         ·intro w'
          go_simp
          with_reducible rfl
         rotate_left
         ·simp only [Act.put, List.setIfInBounds_toArray, List.set_cons_zero, List.set_cons_succ, i64_w, i32_w]
          rfl
         refine pure_ (i := 13) (N := some 62) (v := ?_) (a' := ?_) #[true, true, true, true, true, true, true, true, true, true, true, true, true, true, false] rfl rfl (any_of HT_.out (by kernel_rfl)) (fun _ _ _ h => h) (Or.inl ⟨by rfl, ?_⟩) ?_ ?_
         rotate_left
         ·intro w'
          go_simp
          with_reducible rfl
         rotate_left
         ·simp only [Act.put, List.setIfInBounds_toArray, List.set_cons_zero, List.set_cons_succ, i64_w, i32_w]
          rfl
         refine last_ (i := 14) (N := none) #[true, true, true, true, true, true, true, true, true, true, true, true, true, true, true] rfl rfl (one_of HT_.out (by kernel_rfl)) (by decide) (fun K hK => ?_)
         have hs39 : w38.cell? ⟨gb282, 1, none⟩ = some (.int .i64 0) := (blk_cell BK282.out 1).trans rfl
         have hfs39 := BK282.fz 1
         have hns39_0 := NB275_282.out
         have hns39_1 := NB276_282.out
         have hns39_2 := NB277_282.out
         have hms39_0 := NB282_275.out
         have hms39_1 := NB282_276.out
         have hms39_2 := NB282_277.out
         refine skip_ (w1 := ?_) (by rfl) rfl ?_ ?_
         rotate_left
         ·go_simp
          rfl
         refine hK.out _ _ ?_
         clear hK K
         refine done_ (done_of HT_.out (by kernel_rfl)) ?_
         have hcz40_0 := BK277.cl 0 (.int .i64 (wrap64 (2 + (Int.tmod (wrap64 (a0_0)) 5))))
         have hcz40_1 := BK277.cl 1 (.int .i64 0)
         have hcz40_2 := BK277.cl 2 (u278002)
         have hcz40_3 := BK277.cl 3 (.slice none 0 0)
         have hfz40_0 := BK277.fz 0
         have hfz40_1 := BK277.fz 1
         have hfz40_2 := BK277.fz 2
         have hfz40_3 := BK277.fz 3
         have hcz41_0 := BK282.cl 0 (.int .i64 (Int.tmod t280 (wrap64 (2 + (Int.tmod (wrap64 (a0_0)) 5)))))
         have hcz41_1 := BK282.cl 1 (.int .i64 0)
         have hcz41_2 := BK282.cl 2 (.int .i64 (wrap64 ((Int.tmod (wrap64 (Int.tdiv t280 16)) 7) - 4)))
         have hfz41_0 := BK282.fz 0
         have hfz41_1 := BK282.fz 1
         have hfz41_2 := BK282.fz 2
         try go_wp2_with (first | ((with_reducible refine gate_builtin (b := .append) (xs := #[.tmp 64, .tmp 66]) rfl ?_); (try (refine gate_guard (by rfl) ?_; dsimp only)); at_builtin; refine Kd.R_append k75 (w0 := w) w.heap.size rfl (.tmp 64) (.tmp 66) 29 75 (.agg #[(.int .i64 0), (.int .i64 0), (.int .i64 0)]) 24 rfl Try.underlying29 info75 rfl (by decide) (by omega) u278002 x278002_1 (⟨Int.tmod t280 (wrap64 (2 + (Int.tmod (wrap64 (a0_0)) 5))), Int.tmod (wrap64 ((wrap64 ((Int.tmod t280 (wrap64 (2 + (Int.tmod (wrap64 (a0_0)) 5)))) + 1)) + (Int.tmod t283 (wrap64 ((wrap64 (2 + (Int.tmod (wrap64 (a0_0)) 5))) - 1))))) (wrap64 (2 + (Int.tmod (wrap64 (a0_0)) 5))), wrap64 ((Int.tmod (wrap64 (Int.tdiv t280 16)) 7) - 4)⟩ : S75) [.int .i64 (Int.tmod t280 (wrap64 (2 + (Int.tmod (wrap64 (a0_0)) 5)))), .int .i64 (Int.tmod (wrap64 ((wrap64 ((Int.tmod t280 (wrap64 (2 + (Int.tmod (wrap64 (a0_0)) 5)))) + 1)) + (Int.tmod t283 (wrap64 ((wrap64 (2 + (Int.tmod (wrap64 (a0_0)) 5))) - 1))))) (wrap64 (2 + (Int.tmod (wrap64 (a0_0)) 5)))), .int .i64 (wrap64 ((Int.tmod (wrap64 (Int.tdiv t280 16)) 7) - 4))] (fun k_ => k_ ≠ gb282) (fun _ => False) rfl (by first | (go_simp; done) | (go_simp; rfl)) ?aP (fun _ hk => hk.elim) ?aF ?aO ?aB ?aS ?aL ?_; (case aP => exact k75_mkM _ _ _ (⟨Int.tmod t280 (wrap64 (2 + (Int.tmod (wrap64 (a0_0)) 5))), Int.tmod (wrap64 ((wrap64 ((Int.tmod t280 (wrap64 (2 + (Int.tmod (wrap64 (a0_0)) 5)))) + 1)) + (Int.tmod t283 (wrap64 ((wrap64 (2 + (Int.tmod (wrap64 (a0_0)) 5))) - 1))))) (wrap64 (2 + (Int.tmod (wrap64 (a0_0)) 5))), wrap64 ((Int.tmod (wrap64 (Int.tdiv t280 16)) 7) - 4)⟩ : S75)); (case aB => exact (by repeat (first | (with_reducible first | exact HB.out | apply below_alloc | apply pw_below_drewN | apply below_drew1 | refine below_set ?_ (IsS72.ge HI279.out) | refine below_set ?_ GE275.out | refine below_set ?_ GE276.out | refine below_set ?_ GE277.out | refine below_set ?_ GE282.out) | exact HB.out))); (case aF => exact (fun k_ hk => Kd.freshB (g := gb282) (o := .cells #[.int .i64 (Int.tmod t280 (wrap64 (2 + (Int.tmod (wrap64 (a0_0)) 5)))), .int .i64 (Int.tmod (wrap64 ((wrap64 ((Int.tmod t280 (wrap64 (2 + (Int.tmod (wrap64 (a0_0)) 5)))) + 1)) + (Int.tmod t283 (wrap64 ((wrap64 (2 + (Int.tmod (wrap64 (a0_0)) 5))) - 1))))) (wrap64 (2 + (Int.tmod (wrap64 (a0_0)) 5)))), .int .i64 (wrap64 ((Int.tmod (wrap64 (Int.tdiv t280 16)) 7) - 4))] 75 (0, 0)) (by (with_reducible repeat (first | refine blk_drewN ?_ _ | refine blk_drew ?_ | refine blk_alloc ?_ _)); refine blk_put (cs := #[.int .i64 (Int.tmod t280 (wrap64 (2 + (Int.tmod (wrap64 (a0_0)) 5)))), .int .i64 0, .int .i64 (wrap64 ((Int.tmod (wrap64 (Int.tdiv t280 16)) 7) - 4))]) ?_ 1 _ rfl; (with_reducible repeat (first | refine blk_drewN ?_ _ | refine blk_drew ?_ | refine blk_alloc ?_ _)); exact BK282.out) k_ hk)); (case aO => exact (by (with_reducible repeat (first | apply Kd.R_alloc | apply Kd.R_drewN | apply Kd.R_drew)); exact Kd.R_mono (Kd.R_far (p := ⟨gb282, 1, none⟩) (Kd.R_mono HO_278002.out (fun k_ hk => (⟨hk, hk⟩ : _ ∧ k_ ≠ gb282))) (fun _ hk => hk.2) (.int .i64 (Int.tmod (wrap64 ((wrap64 ((Int.tmod t280 (wrap64 (2 + (Int.tmod (wrap64 (a0_0)) 5)))) + 1)) + (Int.tmod t283 (wrap64 ((wrap64 (2 + (Int.tmod (wrap64 (a0_0)) 5))) - 1))))) (wrap64 (2 + (Int.tmod (wrap64 (a0_0)) 5)))))) (fun _ hk => hk.1))); (case aS => exact (below_size (by repeat (first | (with_reducible first | exact HB.out | apply below_alloc | apply pw_below_drewN | apply below_drew1 | refine below_set ?_ (IsS72.ge HI279.out) | refine below_set ?_ GE275.out | refine below_set ?_ GE276.out | refine below_set ?_ GE277.out | refine below_set ?_ GE282.out) | exact HB.out)))); (case aL => have := LMc21.out; omega); intro v286 w42 ho hb hg hat; rw [← Ny285.out] at ho; have n0_ := Aside0.mk (blk_grown (g := gb275) (o := .cells #[.int .u8 a0_0, .int .u8 a0_1, .int .u8 a0_2, .slice A0_3 l0_3.length c0_3] 25 (0, 0)) (by (with_reducible repeat (first | refine blk_drewN ?_ _ | refine blk_drew ?_ | refine blk_alloc ?_ _)); refine blk_far ?_ NB275_282.out _; (with_reducible repeat (first | refine blk_drewN ?_ _ | refine blk_drew ?_ | refine blk_alloc ?_ _)); exact BK275.out) hg (Kd.R_ne HO_278002.out BK275.out (by decide))); have n1_ := Aside0.mk (blk_grown (g := gb276) (o := .cells #[.int .i64 0, .int .i64 0, .slice none 0 0, .slice none 0 0] 32 (0, 0)) (by (with_reducible repeat (first | refine blk_drewN ?_ _ | refine blk_drew ?_ | refine blk_alloc ?_ _)); refine blk_far ?_ NB276_282.out _; (with_reducible repeat (first | refine blk_drewN ?_ _ | refine blk_drew ?_ | refine blk_alloc ?_ _)); exact BK276.out) hg (Kd.R_ne HO_278002.out BK276.out (by decide))); have n2_ := Aside0.mk (blk_grown (g := gb277) (o := .cells #[.int .i64 (wrap64 (2 + (Int.tmod (wrap64 (a0_0)) 5))), .int .i64 0, u278002, .slice none 0 0] 32 (0, 0)) (by (with_reducible repeat (first | refine blk_drewN ?_ _ | refine blk_drew ?_ | refine blk_alloc ?_ _)); refine blk_far ?_ NB277_282.out _; (with_reducible repeat (first | refine blk_drewN ?_ _ | refine blk_drew ?_ | refine blk_alloc ?_ _)); exact BK277.out) hg (Kd.R_ne HO_278002.out BK277.out (by decide))); have n3_ := Aside0.mk (IsS72.grown (show IsS72 w _ gb279 (l0_3.take ((ji2) : Int).toNat) t284 from by repeat (first | (with_reducible first | exact HI279.out | apply IsS72.alloc | apply IsS72.drewN | apply IsS72.drew | apply IsS72.set_1 | refine IsS72.far ?_ NB279_275.out _ | refine IsS72.far ?_ NB279_276.out _ | refine IsS72.far ?_ NB279_277.out _ | refine IsS72.far ?_ NB279_282.out _) | exact HI279.out)) hg (IsS72.own_ne HI279.out HO_278002.out (by decide))); have n4_ := Aside0.mk (blk_grown (g := gb282) (o := .cells #[.int .i64 (Int.tmod t280 (wrap64 (2 + (Int.tmod (wrap64 (a0_0)) 5)))), .int .i64 (Int.tmod (wrap64 ((wrap64 ((Int.tmod t280 (wrap64 (2 + (Int.tmod (wrap64 (a0_0)) 5)))) + 1)) + (Int.tmod t283 (wrap64 ((wrap64 (2 + (Int.tmod (wrap64 (a0_0)) 5))) - 1))))) (wrap64 (2 + (Int.tmod (wrap64 (a0_0)) 5)))), .int .i64 (wrap64 ((Int.tmod (wrap64 (Int.tdiv t280 16)) 7) - 4))] 75 (0, 0)) (by (with_reducible repeat (first | refine blk_drewN ?_ _ | refine blk_drew ?_ | refine blk_alloc ?_ _)); refine blk_put (cs := #[.int .i64 (Int.tmod t280 (wrap64 (2 + (Int.tmod (wrap64 (a0_0)) 5)))), .int .i64 0, .int .i64 (wrap64 ((Int.tmod (wrap64 (Int.tdiv t280 16)) 7) - 4))]) ?_ 1 _ rfl; (with_reducible repeat (first | refine blk_drewN ?_ _ | refine blk_drew ?_ | refine blk_alloc ?_ _)); exact BK282.out) hg (Kd.R_away HO_278002.out (fun _ hk => hk))); have n5_ := Aside0.mk (hb); have n6_ := Aside0.mk (ho); clear BK275 BK276 BK277 HI279 BK282 HB HO_278002; revert n0_ n1_ n2_ n3_ n4_ n5_ n6_; intro BK275 BK276 BK277 HI279 BK282 HB HO287; clear ho hb hg hat; obtain ⟨Ao43, co43, eo43⟩ := Kd.R_slice HO287.out; subst eo43; have hcz44_0 := BK277.cl 0 (.int .i64 (wrap64 (2 + (Int.tmod (wrap64 (a0_0)) 5)))); have hcz44_1 := BK277.cl 1 (.int .i64 0); have hcz44_2 := BK277.cl 2 (u278002); have hcz44_3 := BK277.cl 3 (.slice none 0 0); have hfz44_0 := BK277.fz 0; have hfz44_1 := BK277.fz 1; have hfz44_2 := BK277.fz 2; have hfz44_3 := BK277.fz 3))
         go_roundg k1
         case measure => have := HK1.out; omega
         case rel => exact ⟨(wrap64 (x5_1 + 1)), (y285), (t284), (.slice Ao43 y285.length co43), (by first | rfl | (simp; done) | (simp [*]; done)), H', ⟨by have := HK1.out; omega⟩, ⟨by (with_reducible repeat (first | apply Kd.R_alloc | apply Kd.R_drewN | apply Kd.R_drew)); exact Kd.R_mono (Kd.R_far (p := ⟨gb277, 2, none⟩) (Kd.R_types HO287.out BK277.out (by decide)) (fun _ hk => hk.2) (.slice Ao43 y285.length co43)) (fun _ hk => trivial)⟩, ⟨by (with_reducible repeat (first | refine blk_drewN ?_ _ | refine blk_drew ?_ | refine blk_alloc ?_ _)); refine blk_far ?_ NB275_277.out _; (with_reducible repeat (first | refine blk_drewN ?_ _ | refine blk_drew ?_ | refine blk_alloc ?_ _)); exact BK275.out⟩, ⟨by (with_reducible repeat (first | refine blk_drewN ?_ _ | refine blk_drew ?_ | refine blk_alloc ?_ _)); refine blk_far ?_ NB276_277.out _; (with_reducible repeat (first | refine blk_drewN ?_ _ | refine blk_drew ?_ | refine blk_alloc ?_ _)); exact BK276.out⟩, ⟨by (with_reducible repeat (first | refine blk_drewN ?_ _ | refine blk_drew ?_ | refine blk_alloc ?_ _)); refine blk_put (cs := #[.int .i64 (wrap64 (2 + (Int.tmod (wrap64 (a0_0)) 5))), .int .i64 0, u278002, .slice none 0 0]) ?_ 2 _ rfl; (with_reducible repeat (first | refine blk_drewN ?_ _ | refine blk_drew ?_ | refine blk_alloc ?_ _)); exact BK277.out⟩, ⟨by repeat (first | (with_reducible first | exact HI279.out | apply IsS72.alloc | apply IsS72.drewN | apply IsS72.drew | apply IsS72.set_1 | refine IsS72.far ?_ NB279_275.out _ | refine IsS72.far ?_ NB279_276.out _ | refine IsS72.far ?_ NB279_277.out _ | refine IsS72.far ?_ NB279_282.out _) | exact HI279.out)⟩, ⟨by repeat (first | (with_reducible first | exact HB.out | apply below_alloc | apply pw_below_drewN | apply below_drew1 | refine below_set ?_ (IsS72.ge HI279.out) | refine below_set ?_ GE275.out | refine below_set ?_ GE276.out | refine below_set ?_ GE277.out | refine below_set ?_ GE282.out) | exact HB.out)⟩⟩
        ·rw [if_neg c21] at H
         exact absurd H (by simp)
     ·rw [if_neg c16] at H
      have c16b0 : decide (x5_1 < (wrap64 (1 + (Int.tmod (wrap64 (a0_1)) 12)))) = false := decide_eq_false c16
      clear c16
      have H' := Aside0.mk H
      clear H
      have hnb45 := NB275_276.out
      have hnc45 := NB276_275.out
      have hnb46 := NB275_277.out
      have hnc46 := NB277_275.out
      have hnb47 := NB275_279.out
      have hnc47 := NB279_275.out
      have hcz48_0 := BK275.cl 0 (.int .u8 a0_0)
      have hcz48_1 := BK275.cl 1 (.int .u8 a0_1)
      have hcz48_2 := BK275.cl 2 (.int .u8 a0_2)
      have hcz48_3 := BK275.cl 3 (.slice A0_3 l0_3.length c0_3)
      have hfz48_0 := BK275.fz 0
      have hfz48_1 := BK275.fz 1
      have hfz48_2 := BK275.fz 2
      have hfz48_3 := BK275.fz 3
      have hnb49 := NB277_276.out
      have hnc49 := NB276_277.out
      have hnb50 := NB277_279.out
      have hnc50 := NB279_277.out
      have hcz51_0 := BK277.cl 0 (.int .i64 (wrap64 (2 + (Int.tmod (wrap64 (a0_0)) 5))))
      have hcz51_1 := BK277.cl 1 (.int .i64 0)
      have hcz51_2 := BK277.cl 2 (u278002)
      have hcz51_3 := BK277.cl 3 (.slice none 0 0)
      have hfz51_0 := BK277.fz 0
      have hfz51_1 := BK277.fz 1
      have hfz51_2 := BK277.fz 2
      have hfz51_3 := BK277.fz 3
      obtain ⟨Ao52, co52, eo52⟩ := Kd.R_slice HO_278002.out
      subst eo52
      go_wp2
      go_loopg [] k1 (fun kq w' => ∃ (x278003_2 : List (List Int)) (x280001_2 : Int) (u278003 : Value), Aside0 (interleavescene_Problem_Formula.l1 kq (wrap64 (2 + (Int.tmod (wrap64 (a0_0)) 5))) (wrap64 ((x278002_1.length : Int) + (Int.tmod (wrap64 (a0_2)) 7))) x278002_1 x278003_2 (l0_3.take ((ji2) : Int).toNat) x280001_2 = some (r1, r2, r3, r4)) ∧ Aside0 (kq ≤ k1) ∧ Aside0 (Kd.R k75 75 w' w.heap.size (fun _ => True) (.slice Ao52 x278002_1.length co52) x278002_1) ∧ Aside0 (Kd.S (Kd.slice 3 (Kd.int .i64)) 43 w' w.heap.size (fun _ => True) u278003 x278003_2) ∧ Aside0 (w'.heap[gb275]? = some (.cells #[.int .u8 a0_0, .int .u8 a0_1, .int .u8 a0_2, (.slice A0_3 l0_3.length c0_3)] 25 (0, 0))) ∧ Aside0 (w'.heap[gb276]? = some (.cells #[.int .i64 0, .int .i64 0, (.slice none 0 0), (.slice none 0 0)] 32 (0, 0))) ∧ Aside0 (w'.heap[gb277]? = some (.cells #[.int .i64 (wrap64 (2 + (Int.tmod (wrap64 (a0_0)) 5))), .int .i64 (wrap64 ((x278002_1.length : Int) + (Int.tmod (wrap64 (a0_2)) 7))), (.slice Ao52 x278002_1.length co52), u278003] 32 (0, 0))) ∧ Aside0 (IsS72 w w' gb279 (l0_3.take ((ji2) : Int).toNat) x280001_2) ∧ Aside0 (Below w.heap.size w w'))
      case atStart => exact ⟨(([] : List (List Int))), (x280001_1), (.slice none 0 0), H', ⟨Nat.le_refl _⟩, ⟨by (with_reducible repeat (first | apply Kd.R_alloc | apply Kd.R_drewN | apply Kd.R_drew)); exact Kd.R_mono (Kd.R_far (p := ⟨gb277, 1, none⟩) (Kd.R_types HO_278002.out BK277.out (by decide)) (fun _ hk => hk.2) (.int .i64 (wrap64 ((x278002_1.length : Int) + (Int.tmod (wrap64 (a0_2)) 7))))) (fun _ hk => trivial)⟩, ⟨by first | exact Kd.S_nil _ _ _ _ _ | exact Kd.N_nil _ _ _ _ _ | exact Kd.V_nil _ _ _ _ _ | exact Kd.Q_nil _ _ _ _ _ | exact Kd.R_nil _ _ _ _ _⟩, ⟨by (with_reducible repeat (first | refine blk_drewN ?_ _ | refine blk_drew ?_ | refine blk_alloc ?_ _)); refine blk_far ?_ NB275_277.out _; (with_reducible repeat (first | refine blk_drewN ?_ _ | refine blk_drew ?_ | refine blk_alloc ?_ _)); exact BK275.out⟩, ⟨by (with_reducible repeat (first | refine blk_drewN ?_ _ | refine blk_drew ?_ | refine blk_alloc ?_ _)); refine blk_far ?_ NB276_277.out _; (with_reducible repeat (first | refine blk_drewN ?_ _ | refine blk_drew ?_ | refine blk_alloc ?_ _)); exact BK276.out⟩, ⟨by (with_reducible repeat (first | refine blk_drewN ?_ _ | refine blk_drew ?_ | refine blk_alloc ?_ _)); refine blk_put (cs := #[.int .i64 (wrap64 (2 + (Int.tmod (wrap64 (a0_0)) 5))), .int .i64 0, .slice Ao52 x278002_1.length co52, .slice none 0 0]) ?_ 1 _ rfl; (with_reducible repeat (first | refine blk_drewN ?_ _ | refine blk_drew ?_ | refine blk_alloc ?_ _)); exact BK277.out⟩, ⟨by repeat (first | (with_reducible first | exact HI279.out | apply IsS72.alloc | apply IsS72.drewN | apply IsS72.drew | apply IsS72.set_1 | refine IsS72.far ?_ NB279_275.out _ | refine IsS72.far ?_ NB279_276.out _ | refine IsS72.far ?_ NB279_277.out _) | exact HI279.out)⟩, ⟨by repeat (first | (with_reducible first | exact HB.out | apply below_alloc | apply pw_below_drewN | apply below_drew1 | refine below_set ?_ (IsS72.ge HI279.out) | refine below_set ?_ GE275.out | refine below_set ?_ GE276.out | refine below_set ?_ GE277.out) | exact HB.out)⟩⟩
      case round => as_aux_lemma =>
       clear H'
       try clear c1
       try clear c2
       try clear p2
       try clear c3
       try clear c3b0
       try clear c3b1
       try clear c4
       try clear c4b0
       try clear c4b1
       try clear c5
       try clear p6
       try clear c7
       try clear c10
       try clear c11
       try clear c14
       try clear c16
       try clear c16b0
       try clear c18
       try clear c18b0
       try clear c18b1
       try clear c20
       try clear c20b0
       try clear c20b1
       try clear c21
       try clear c22
       try clear c23
       try clear c24
       try clear c27
       try clear c28
       try clear c31
       try clear c32
       try clear c33
       try clear c34
       try clear c45
       try clear c46
       try clear c47
       try clear c49
       try clear c50
       try clear hcz12_0
       try clear hcz12_1
       try clear hcz12_2
       try clear hcz12_3
       try clear hcz13_0
       try clear hcz13_1
       try clear hcz13_2
       try clear hcz13_3
       try clear hcz25_0
       try clear hcz25_1
       try clear hcz25_2
       try clear hcz25_3
       try clear hcz29_0
       try clear hcz29_1
       try clear hcz29_2
       try clear hcz29_3
       try clear hcz35_0
       try clear hcz35_1
       try clear hcz35_2
       try clear hcz40_0
       try clear hcz40_1
       try clear hcz40_2
       try clear hcz40_3
       try clear hcz41_0
       try clear hcz41_1
       try clear hcz41_2
       try clear hcz44_0
       try clear hcz44_1
       try clear hcz44_2
       try clear hcz44_3
       try clear hcz48_0
       try clear hcz48_1
       try clear hcz48_2
       try clear hcz48_3
       try clear hcz51_0
       try clear hcz51_1
       try clear hcz51_2
       try clear hcz51_3
       try clear hcz8_0
       try clear hcz8_1
       try clear hcz8_2
       try clear hcz8_3
       try clear hfz12_0
       try clear hfz12_1
       try clear hfz12_2
       try clear hfz12_3
       try clear hfz13_0
       try clear hfz13_1
       try clear hfz13_2
       try clear hfz13_3
       try clear hfz25_0
       try clear hfz25_1
       try clear hfz25_2
       try clear hfz25_3
       try clear hfz29_0
       try clear hfz29_1
       try clear hfz29_2
       try clear hfz29_3
       try clear hfz35_0
       try clear hfz35_1
       try clear hfz35_2
       try clear hfz40_0
       try clear hfz40_1
       try clear hfz40_2
       try clear hfz40_3
       try clear hfz41_0
       try clear hfz41_1
       try clear hfz41_2
       try clear hfz44_0
       try clear hfz44_1
       try clear hfz44_2
       try clear hfz44_3
       try clear hfz48_0
       try clear hfz48_1
       try clear hfz48_2
       try clear hfz48_3
       try clear hfz51_0
       try clear hfz51_1
       try clear hfz51_2
       try clear hfz51_3
       try clear hfz8_0
       try clear hfz8_1
       try clear hfz8_2
       try clear hfz8_3
       try clear p2
       try clear p6
       obtain ⟨x278003_2, x280001_2, u278003, HA, HK2, HO_278002, HO_278003, BK275, BK276, BK277, HI279, HB⟩ := hrel
       cases gk with
       | zero => exact absurd HA.out (by simp [interleavescene_Problem_Formula.l1])
       | succ k2 =>
        have H := HA.out
        clear HA
        simp only [interleavescene_Problem_Formula.l1] at H
        have HC53 := Aside0.mk H
        clear H
        go_upto_region 11 with (fail)
        go_cut [94] (fun v94 wc => ∃ (kq : Nat) (x94_52 : Bool), v94 = .bool x94_52 ∧ Aside0 (interleavescene_Problem_Formula.j2 kq x94_52 (wrap64 (2 + (Int.tmod (wrap64 (a0_0)) 5))) (wrap64 ((x278002_1.length : Int) + (Int.tmod (wrap64 (a0_2)) 7))) x278002_1 x278003_2 (l0_3.take ((ji2) : Int).toNat) x280001_2 = some (r1, r2, r3, r4)) ∧ Aside0 (kq ≤ k2) ∧ Aside0 (Kd.R k75 75 wc w.heap.size (fun _ => True) (.slice Ao52 x278002_1.length co52) x278002_1) ∧ Aside0 (Kd.S (Kd.slice 3 (Kd.int .i64)) 43 wc w.heap.size (fun _ => True) u278003 x278003_2) ∧ Aside0 (wc.heap[gb275]? = some (.cells #[.int .u8 a0_0, .int .u8 a0_1, .int .u8 a0_2, (.slice A0_3 l0_3.length c0_3)] 25 (0, 0))) ∧ Aside0 (wc.heap[gb276]? = some (.cells #[.int .i64 0, .int .i64 0, (.slice none 0 0), (.slice none 0 0)] 32 (0, 0))) ∧ Aside0 (wc.heap[gb277]? = some (.cells #[.int .i64 (wrap64 (2 + (Int.tmod (wrap64 (a0_0)) 5))), .int .i64 (wrap64 ((x278002_1.length : Int) + (Int.tmod (wrap64 (a0_2)) 7))), (.slice Ao52 x278002_1.length co52), u278003] 32 (0, 0))) ∧ Aside0 (IsS72 w wc gb279 (l0_3.take ((ji2) : Int).toNat) x280001_2) ∧ Aside0 (Below w.heap.size w wc))
        case first => as_aux_lemma =>
         have H := HC53.out
         clear HC53
         by_cases c54 : x280001_2 < ((l0_3.take ((ji2) : Int).toNat).length : Int)
         ·rw [if_pos c54] at H
          have c54b0 : decide (x280001_2 < ((l0_3.take ((ji2) : Int).toNat).length : Int)) = true := decide_eq_true c54
          clear c54
          (first | rw [c54b0] | (simp only [i64_w, i32_w]; rw [c54b0]) | skip)
          have H' := Aside0.mk H
          clear H
          try go_wp2
          have n0_ := Aside0.mk (Kd.R_drew HO_278002.out)
          have n1_ := Aside0.mk (Kd.S_drew HO_278003.out)
          have n2_ := Aside0.mk (blk_drew BK275.out)
          have n3_ := Aside0.mk (blk_drew BK276.out)
          have n4_ := Aside0.mk (blk_drew BK277.out)
          have n5_ := Aside0.mk (IsS72.drew HI279.out)
          have n6_ := Aside0.mk (below_drew1 HB.out)
          clear HO_278002 HO_278003 BK275 BK276 BK277 HI279 HB; revert n0_ n1_ n2_ n3_ n4_ n5_ n6_; intro HO_278002 HO_278003 BK275 BK276 BK277 HI279 HB
          obtain ⟨Ao56, co56, eo56⟩ := Kd.S_slice HO_278003.out
          (first | subst eo56 | (injection eo56 with f1_ f2_ f3_; have f4_ := f1_.symm; have f5_ := f3_.symm; clear f1_ f2_ f3_; subst f4_; subst f5_))
          obtain ⟨N9, hN9⟩ : ∃ n_ : Nat, n_ = (l0_3.take ((ji2) : Int).toNat).length := ⟨_, rfl⟩
          have c54z := c54b0
          rw [← hN9] at c54z
          obtain ⟨A9z, c9z, HZb, HZg, HZc⟩ := HI279.out
          rw [← hN9] at HZb
          refine start_ (n := 16) (S := fun w' => w'.cell? ⟨gb279, 0, none⟩ = some (.slice A9z N9 c9z) ∧ w'.cell? ⟨gb279, 1, none⟩ = some (.int .i64 x280001_2) ∧ w'.cell? ⟨gb277, 0, none⟩ = some (.int .i64 (wrap64 (2 + (Int.tmod (wrap64 (a0_0)) 5)))) ∧ w'.cell? ⟨gb277, 1, none⟩ = some (.int .i64 (wrap64 ((x278002_1.length : Int) + (Int.tmod (wrap64 (a0_2)) 7)))) ∧ w'.cell? ⟨gb277, 2, none⟩ = some (.slice Ao52 x278002_1.length co52) ∧ w'.cell? ⟨gb277, 3, none⟩ = some (.slice Ao56 x278003_2.length co56)) (ds := []) #[false, false, false, false, false, false, false, false, false, false, false, false, false, false, false, false] (by kernel_rfl) rfl rfl ⟨(blk_cell HZb 0).trans rfl, (blk_cell HZb 1).trans rfl, (blk_cell BK277.out 0).trans rfl, (blk_cell BK277.out 1).trans rfl, (blk_cell BK277.out 2).trans rfl, (blk_cell BK277.out 3).trans rfl⟩ (fun hHeld => ?_); refine with_tabW interleavescene_Problem_Formula.tab11 interleavescene_Problem_Formula.bits11 (fun HT_ HW_ => ?_)
          clear HZb HZg HZc hN9
          generalize wr.drew = w55 at HO_278002 HO_278003 BK275 BK276 BK277 HI279 HB hHeld ⊢
          refine pure_ (i := 0) (N := some 79) (v := ?_) (a' := ?_) #[true, false, false, false, false, false, false, false, false, false, false, false, false, false, false, false] rfl rfl (any_of HT_.out (by kernel_rfl)) (fun _ _ _ h => h) (Or.inl ⟨by rfl, ?_⟩) ?_ ?_
          rotate_left
          ·intro w'
           go_simp
           with_reducible rfl
          rotate_left
          ·simp only [Act.put, List.setIfInBounds_toArray, List.set_cons_zero, List.set_cons_succ, i64_w, i32_w]
           rfl
          refine pure_ (i := 1) (N := some 80) (v := ?_) (a' := ?_) #[true, true, false, false, false, false, false, false, false, false, false, false, false, false, false, false] rfl rfl (any_of HT_.out (by kernel_rfl)) (fun _ _ _ h => h) (Or.inl ⟨by rfl, ?_⟩) ?_ ?_
          rotate_left
          ·intro w'
           go_simp
           with_reducible rfl
          rotate_left
          ·simp only [Act.put, List.setIfInBounds_toArray, List.set_cons_zero, List.set_cons_succ, i64_w, i32_w]
           rfl
          refine pure_ (i := 2) (N := some 81) (v := ?_) (a' := ?_) #[true, true, true, false, false, false, false, false, false, false, false, false, false, false, false, false] rfl rfl (any_of HT_.out (by kernel_rfl)) (fun _ _ _ h => h) (Or.inl ⟨by rfl, ?_⟩) ?_ ?_
          rotate_left
          ·intro w'
           go_simp
           with_reducible rfl
          rotate_left
          ·simp only [Act.put, List.setIfInBounds_toArray, List.set_cons_zero, List.set_cons_succ, i64_w, i32_w]
           rfl
          refine pure_ (i := 4) (N := some 83) (v := ?_) (a' := ?_) #[true, true, true, false, true, false, false, false, false, false, false, false, false, false, false, false] rfl rfl (any_of HT_.out (by kernel_rfl)) (fun _ _ _ h => h) (Or.inl ⟨by rfl, ?_⟩) ?_ ?_
          rotate_left
          ·intro w'
           go_simp
           with_reducible rfl
          rotate_left
          ·simp only [Act.put, List.setIfInBounds_toArray, List.set_cons_zero, List.set_cons_succ, i64_w, i32_w]
           rfl
          refine pure_ (i := 5) (N := some 84) (v := ?_) (a' := ?_) #[true, true, true, false, true, true, false, false, false, false, false, false, false, false, false, false] rfl rfl (any_of HT_.out (by kernel_rfl)) (fun _ _ _ h => h) (Or.inl ⟨by rfl, ?_⟩) ?_ ?_
          rotate_left
          ·intro w'
           go_simp
           with_reducible rfl
          rotate_left
          ·simp only [Act.put, List.setIfInBounds_toArray, List.set_cons_zero, List.set_cons_succ, i64_w, i32_w]
           rfl
          refine pure_ (i := 6) (N := some 85) (v := ?_) (a' := ?_) #[true, true, true, false, true, true, true, false, false, false, false, false, false, false, false, false] rfl rfl (any_of HT_.out (by kernel_rfl)) (fun _ _ _ h => h) (Or.inl ⟨by rfl, ?_⟩) ?_ ?_
          rotate_left
          ·intro w'
           go_simp
           with_reducible rfl
          rotate_left
          ·simp only [Act.put, List.setIfInBounds_toArray, List.set_cons_zero, List.set_cons_succ, i64_w, i32_w]
           rfl
          refine take_ (i := 3) (N := some 82) (v := ?_) (a' := ?_) #[true, true, true, true, true, true, true, false, false, false, false, false, false, false, false, false] rfl rfl (take_ofW HT_.out HW_.out (by kernel_rfl)) (fun _ _ _ h => h) (Or.inl ⟨by rfl, ?_⟩) hHeld ?_ ?_
          rotate_left
          ·rintro w' ⟨s0, s1, s2, s3, s4, s5⟩
           go_simp
           with_reducible rfl
          rotate_left
          ·simp only [Act.put, List.setIfInBounds_toArray, List.set_cons_zero, List.set_cons_succ, i64_w, i32_w]
           rfl
          refine take_ (i := 7) (N := some 86) (v := ?_) (a' := ?_) #[true, true, true, true, true, true, true, true, false, false, false, false, false, false, false, false] rfl rfl (take_ofW HT_.out HW_.out (by kernel_rfl)) (fun _ _ _ h => h) (Or.inl ⟨by rfl, ?_⟩) hHeld ?_ ?_
          rotate_left
          ·rintro w' ⟨s0, s1, s2, s3, s4, s5⟩
           go_simp
           with_reducible rfl
          rotate_left
          ·simp only [Act.put, List.setIfInBounds_toArray, List.set_cons_zero, List.set_cons_succ, i64_w, i32_w]
           rfl
          refine pure_ (i := 8) (N := some 87) (v := ?_) (a' := ?_) #[true, true, true, true, true, true, true, true, true, false, false, false, false, false, false, false] rfl rfl (any_of HT_.out (by kernel_rfl)) (fun _ _ _ h => h) (Or.inl ⟨by rfl, ?_⟩) ?_ ?_
          rotate_left
          ·intro w'
           go_simp
           with_reducible rfl
          rotate_left
          ·simp only [Act.put, List.setIfInBounds_toArray, List.set_cons_zero, List.set_cons_succ, i64_w, i32_w]
           rfl
          refine pure_ (i := 9) (N := some 88) (v := ?_) (a' := ?_) #[true, true, true, true, true, true, true, true, true, true, false, false, false, false, false, false] rfl rfl (any_of HT_.out (by kernel_rfl)) (fun _ _ _ h => h) (Or.inl ⟨by rfl, ?_⟩) ?_ ?_
          rotate_left
          ·intro w'
           go_simp
           with_reducible rfl
          rotate_left
          ·simp only [Act.put, List.setIfInBounds_toArray, List.set_cons_zero, List.set_cons_succ, i64_w, i32_w]
           rfl
          refine pure_ (i := 10) (N := some 89) (v := ?_) (a' := ?_) #[true, true, true, true, true, true, true, true, true, true, true, false, false, false, false, false] rfl rfl (any_of HT_.out (by kernel_rfl)) (fun _ _ _ h => h) (Or.inl ⟨by rfl, ?_⟩) ?_ ?_
          rotate_left
          ·intro w'
           go_simp
           with_reducible rfl
          rotate_left
          ·simp only [Act.put, List.setIfInBounds_toArray, List.set_cons_zero, List.set_cons_succ, i64_w, i32_w]
           rfl
          refine pure_ (i := 11) (N := some 90) (v := ?_) (a' := ?_) #[true, true, true, true, true, true, true, true, true, true, true, true, false, false, false, false] rfl rfl (any_of HT_.out (by kernel_rfl)) (fun _ _ _ h => h) (Or.inl ⟨by rfl, ?_⟩) ?_ ?_
          rotate_left
          ·intro w'
           go_simp
           with_reducible rfl
          rotate_left
          ·simp only [Act.put, List.setIfInBounds_toArray, List.set_cons_zero, List.set_cons_succ, i64_w, i32_w]
           rfl
          refine take_ (i := 12) (N := some 91) (v := ?_) (a' := ?_) #[true, true, true, true, true, true, true, true, true, true, true, true, true, false, false, false] rfl rfl (take_ofW HT_.out HW_.out (by kernel_rfl)) (fun _ _ _ h => h) (Or.inl ⟨by rfl, ?_⟩) hHeld ?_ ?_
          rotate_left
          ·rintro w' ⟨s0, s1, s2, s3, s4, s5⟩
           go_simp
           with_reducible rfl
          rotate_left
          ·simp only [Act.put, List.setIfInBounds_toArray, List.set_cons_zero, List.set_cons_succ, i64_w, i32_w]
           rfl
          refine pure_ (i := 13) (N := some 92) (v := ?_) (a' := ?_) #[true, true, true, true, true, true, true, true, true, true, true, true, true, true, false, false] rfl rfl (any_of HT_.out (by kernel_rfl)) (fun _ _ _ h => h) (Or.inl ⟨by rfl, ?_⟩) ?_ ?_
          rotate_left
          ·intro w'
           go_simp
           with_reducible rfl
          rotate_left
          ·simp only [Act.put, List.setIfInBounds_toArray, List.set_cons_zero, List.set_cons_succ, i64_w, i32_w]
           rfl
          refine pure_ (i := 14) (N := some 93) (v := ?_) (a' := ?_) #[true, true, true, true, true, true, true, true, true, true, true, true, true, true, true, false] rfl rfl (any_of HT_.out (by kernel_rfl)) (fun _ _ _ h => h) (Or.inl ⟨by rfl, ?_⟩) ?_ ?_
          rotate_left
          ·intro w'
           go_simp
           with_reducible rfl
          rotate_left
          ·simp only [Act.put, List.setIfInBounds_toArray, List.set_cons_zero, List.set_cons_succ, i64_w, i32_w]
           rfl
          refine pure_ (i := 15) (N := some 94) (v := ?_) (a' := ?_) #[true, true, true, true, true, true, true, true, true, true, true, true, true, true, true, true] rfl rfl (any_of HT_.out (by kernel_rfl)) (fun _ _ _ h => h) (Or.inl ⟨by rfl, ?_⟩) ?_ ?_
          rotate_left
          ·intro w'
           go_simp
           with_reducible rfl
          rotate_left
          ·simp only [Act.put, List.setIfInBounds_toArray, List.set_cons_zero, List.set_cons_succ, i64_w, i32_w]
           rfl
          refine done_ (done_of HT_.out (by kernel_rfl)) ?_
          try go_wp2
          go_meet
          case rel => exact ⟨_, (decide ((x278003_2.length : Int) < 40)), (by first | rfl | (simp; done) | (simp [*]; done)), H', ⟨by have := HK1.out; have := HK2.out; first | omega | exact Nat.le_refl _⟩, ⟨HO_278002.r⟩, ⟨HO_278003.s⟩, ⟨BK275.b⟩, ⟨BK276.b⟩, ⟨BK277.b⟩, ⟨by repeat (first | (with_reducible first | exact HI279.out | apply IsS72.alloc | apply IsS72.drewN | apply IsS72.drew | apply IsS72.set_1 | refine IsS72.far ?_ NB279_275.out _ | refine IsS72.far ?_ NB279_276.out _ | refine IsS72.far ?_ NB279_277.out _) | exact HI279.out)⟩, ⟨by repeat (first | (with_reducible first | exact HB.out | apply below_alloc | apply pw_below_drewN | apply below_drew1 | refine below_set ?_ (IsS72.ge HI279.out) | refine below_set ?_ GE275.out | refine below_set ?_ GE276.out | refine below_set ?_ GE277.out) | exact HB.out)⟩⟩
         ·rw [if_neg c54] at H
          have c54b0 : decide (x280001_2 < ((l0_3.take ((ji2) : Int).toNat).length : Int)) = false := decide_eq_false c54
          clear c54
          (first | rw [c54b0] | (simp only [i64_w, i32_w]; rw [c54b0]) | skip)
          have H' := Aside0.mk H
          clear H
          try go_wp2
          have n0_ := Aside0.mk (Kd.R_drew HO_278002.out)
          have n1_ := Aside0.mk (Kd.S_drew HO_278003.out)
          have n2_ := Aside0.mk (blk_drew BK275.out)
          have n3_ := Aside0.mk (blk_drew BK276.out)
          have n4_ := Aside0.mk (blk_drew BK277.out)
          have n5_ := Aside0.mk (IsS72.drew HI279.out)
          have n6_ := Aside0.mk (below_drew1 HB.out)
          clear HO_278002 HO_278003 BK275 BK276 BK277 HI279 HB; revert n0_ n1_ n2_ n3_ n4_ n5_ n6_; intro HO_278002 HO_278003 BK275 BK276 BK277 HI279 HB
          obtain ⟨N9, hN9⟩ : ∃ n_ : Nat, n_ = (l0_3.take ((ji2) : Int).toNat).length := ⟨_, rfl⟩
          have c54z := c54b0
          rw [← hN9] at c54z
          obtain ⟨A9z, c9z, HZb, HZg, HZc⟩ := HI279.out
          rw [← hN9] at HZb
          refine start_ (n := 16) (S := fun w' => w'.cell? ⟨gb279, 0, none⟩ = some (.slice A9z N9 c9z) ∧ w'.cell? ⟨gb279, 1, none⟩ = some (.int .i64 x280001_2)) (ds := []) #[false, false, false, false, false, false, false, false, false, false, false, false, false, false, false, false] (by kernel_rfl) rfl rfl ⟨(blk_cell HZb 0).trans rfl, (blk_cell HZb 1).trans rfl⟩ (fun hHeld => ?_); refine with_tabW interleavescene_Problem_Formula.tab11 interleavescene_Problem_Formula.bits11 (fun HT_ HW_ => ?_)
          clear HZb HZg HZc hN9
          generalize wr.drew = w57 at HO_278002 HO_278003 BK275 BK276 BK277 HI279 HB hHeld ⊢
          refine pure_ (i := 0) (N := some 79) (v := ?_) (a' := ?_) #[true, false, false, false, false, false, false, false, false, false, false, false, false, false, false, false] rfl rfl (any_of HT_.out (by kernel_rfl)) (fun _ _ _ h => h) (Or.inl ⟨by rfl, ?_⟩) ?_ ?_
          rotate_left
          ·intro w'
           go_simp
           with_reducible rfl
          rotate_left
          ·simp only [Act.put, List.setIfInBounds_toArray, List.set_cons_zero, List.set_cons_succ, i64_w, i32_w]
           rfl
          refine pure_ (i := 1) (N := some 80) (v := ?_) (a' := ?_) #[true, true, false, false, false, false, false, false, false, false, false, false, false, false, false, false] rfl rfl (any_of HT_.out (by kernel_rfl)) (fun _ _ _ h => h) (Or.inl ⟨by rfl, ?_⟩) ?_ ?_
          rotate_left
          ·intro w'
           go_simp
           with_reducible rfl
          rotate_left
          ·simp only [Act.put, List.setIfInBounds_toArray, List.set_cons_zero, List.set_cons_succ, i64_w, i32_w]
           rfl
          refine pure_ (i := 2) (N := some 81) (v := ?_) (a' := ?_) #[true, true, true, false, false, false, false, false, false, false, false, false, false, false, false, false] rfl rfl (any_of HT_.out (by kernel_rfl)) (fun _ _ _ h => h) (Or.inl ⟨by rfl, ?_⟩) ?_ ?_
          rotate_left
          ·intro w'
           go_simp
           with_reducible rfl
          rotate_left
          ·simp only [Act.put, List.setIfInBounds_toArray, List.set_cons_zero, List.set_cons_succ, i64_w, i32_w]
           rfl
          refine pure_ (i := 4) (N := some 83) (v := ?_) (a' := ?_) #[true, true, true, false, true, false, false, false, false, false, false, false, false, false, false, false] rfl rfl (any_of HT_.out (by kernel_rfl)) (fun _ _ _ h => h) (Or.inl ⟨by rfl, ?_⟩) ?_ ?_
          rotate_left
          ·intro w'
           go_simp
           with_reducible rfl
          rotate_left
          ·simp only [Act.put, List.setIfInBounds_toArray, List.set_cons_zero, List.set_cons_succ, i64_w, i32_w]
           rfl
          refine pure_ (i := 5) (N := some 84) (v := ?_) (a' := ?_) #[true, true, true, false, true, true, false, false, false, false, false, false, false, false, false, false] rfl rfl (any_of HT_.out (by kernel_rfl)) (fun _ _ _ h => h) (Or.inl ⟨by rfl, ?_⟩) ?_ ?_
          rotate_left
          ·intro w'
           go_simp
           with_reducible rfl
          rotate_left
          ·simp only [Act.put, List.setIfInBounds_toArray, List.set_cons_zero, List.set_cons_succ, i64_w, i32_w]
           rfl
          refine pure_ (i := 6) (N := some 85) (v := ?_) (a' := ?_) #[true, true, true, false, true, true, true, false, false, false, false, false, false, false, false, false] rfl rfl (any_of HT_.out (by kernel_rfl)) (fun _ _ _ h => h) (Or.inl ⟨by rfl, ?_⟩) ?_ ?_
          rotate_left
          ·intro w'
           go_simp
           with_reducible rfl
          rotate_left
          ·simp only [Act.put, List.setIfInBounds_toArray, List.set_cons_zero, List.set_cons_succ, i64_w, i32_w]
           rfl
          refine take_ (i := 3) (N := some 82) (v := ?_) (a' := ?_) #[true, true, true, true, true, true, true, false, false, false, false, false, false, false, false, false] rfl rfl (take_ofW HT_.out HW_.out (by kernel_rfl)) (fun _ _ _ h => h) (Or.inl ⟨by rfl, ?_⟩) hHeld ?_ ?_
          rotate_left
          ·rintro w' ⟨s0, s1⟩
           go_simp
           with_reducible rfl
          rotate_left
          ·simp only [Act.put, List.setIfInBounds_toArray, List.set_cons_zero, List.set_cons_succ, i64_w, i32_w]
           rfl
          refine take_ (i := 7) (N := some 86) (v := ?_) (a' := ?_) #[true, true, true, true, true, true, true, true, false, false, false, false, false, false, false, false] rfl rfl (take_ofW HT_.out HW_.out (by kernel_rfl)) (fun _ _ _ h => h) (Or.inl ⟨by rfl, ?_⟩) hHeld ?_ ?_
          rotate_left
          ·rintro w' ⟨s0, s1⟩
           go_simp
           with_reducible rfl
          rotate_left
          ·simp only [Act.put, List.setIfInBounds_toArray, List.set_cons_zero, List.set_cons_succ, i64_w, i32_w]
           rfl
          refine pure_ (i := 8) (N := some 87) (v := ?_) (a' := ?_) #[true, true, true, true, true, true, true, true, true, false, false, false, false, false, false, false] rfl rfl (any_of HT_.out (by kernel_rfl)) (fun _ _ _ h => h) (Or.inl ⟨by rfl, ?_⟩) ?_ ?_
          rotate_left
          ·intro w'
           go_simp
           with_reducible rfl
          rotate_left
          ·simp only [Act.put, List.setIfInBounds_toArray, List.set_cons_zero, List.set_cons_succ, i64_w, i32_w]
           rfl
          refine pure_ (i := 9) (N := some 88) (v := ?_) (a' := ?_) #[true, true, true, true, true, true, true, true, true, true, false, false, false, false, false, false] rfl rfl (any_of HT_.out (by kernel_rfl)) (fun _ _ _ h => h) (Or.inl ⟨by rfl, ?_⟩) ?_ ?_
          rotate_left
          ·intro w'
           go_simp
           with_reducible rfl
          rotate_left
          ·simp only [Act.put, List.setIfInBounds_toArray, List.set_cons_zero, List.set_cons_succ, i64_w, i32_w]
           rfl
          refine pure_ (i := 10) (N := some 89) (v := ?_) (a' := ?_) #[true, true, true, true, true, true, true, true, true, true, true, false, false, false, false, false] rfl rfl (any_of HT_.out (by kernel_rfl)) (fun _ _ _ h => h) (Or.inl ⟨by rfl, ?_⟩) ?_ ?_
          rotate_left
          ·intro w'
           go_simp
           with_reducible rfl
          rotate_left
          ·simp only [Act.put, List.setIfInBounds_toArray, List.set_cons_zero, List.set_cons_succ, i64_w, i32_w]
           rfl
          refine pure_ (i := 11) (N := some 90) (v := undef) (a' := ?_) #[true, true, true, true, true, true, true, true, true, true, true, true, false, false, false, false] rfl rfl (any_of HT_.out (by kernel_rfl)) (fun _ _ _ h => h) (Or.inr ⟨by rfl, rfl⟩) ?_ ?_
          rotate_left
          ·simp only [Act.put, List.setIfInBounds_toArray, List.set_cons_zero, List.set_cons_succ, i64_w, i32_w]
           rfl
          refine pure_ (i := 12) (N := some 91) (v := undef) (a' := ?_) #[true, true, true, true, true, true, true, true, true, true, true, true, true, false, false, false] rfl rfl (any_of HT_.out (by kernel_rfl)) (fun _ _ _ h => h) (Or.inr ⟨by rfl, rfl⟩) ?_ ?_
          rotate_left
          ·simp only [Act.put, List.setIfInBounds_toArray, List.set_cons_zero, List.set_cons_succ, i64_w, i32_w]
           rfl
          refine pure_ (i := 13) (N := some 92) (v := undef) (a' := ?_) #[true, true, true, true, true, true, true, true, true, true, true, true, true, true, false, false] rfl rfl (any_of HT_.out (by kernel_rfl)) (fun _ _ _ h => h) (Or.inr ⟨by rfl, rfl⟩) ?_ ?_
          rotate_left
          ·simp only [Act.put, List.setIfInBounds_toArray, List.set_cons_zero, List.set_cons_succ, i64_w, i32_w]
           rfl
          refine pure_ (i := 14) (N := some 93) (v := undef) (a' := ?_) #[true, true, true, true, true, true, true, true, true, true, true, true, true, true, true, false] rfl rfl (any_of HT_.out (by kernel_rfl)) (fun _ _ _ h => h) (Or.inr ⟨by rfl, rfl⟩) ?_ ?_
          rotate_left
          ·simp only [Act.put, List.setIfInBounds_toArray, List.set_cons_zero, List.set_cons_succ, i64_w, i32_w]
           rfl
          refine pure_ (i := 15) (N := some 94) (v := ?_) (a' := ?_) #[true, true, true, true, true, true, true, true, true, true, true, true, true, true, true, true] rfl rfl (any_of HT_.out (by kernel_rfl)) (fun _ _ _ h => h) (Or.inl ⟨by rfl, ?_⟩) ?_ ?_
          rotate_left
          ·intro w'
           go_simp
           with_reducible rfl
          rotate_left
          ·simp only [Act.put, List.setIfInBounds_toArray, List.set_cons_zero, List.set_cons_succ, i64_w, i32_w]
           rfl
          refine done_ (done_of HT_.out (by kernel_rfl)) ?_
          try go_wp2
          go_meet
          case rel => exact ⟨_, (false), (by first | rfl | (simp; done) | (simp [*]; done)), H', ⟨by have := HK1.out; have := HK2.out; first | omega | exact Nat.le_refl _⟩, ⟨HO_278002.r⟩, ⟨HO_278003.s⟩, ⟨BK275.b⟩, ⟨BK276.b⟩, ⟨BK277.b⟩, ⟨by repeat (first | (with_reducible first | exact HI279.out | apply IsS72.alloc | apply IsS72.drewN | apply IsS72.drew | apply IsS72.set_1 | refine IsS72.far ?_ NB279_275.out _ | refine IsS72.far ?_ NB279_276.out _ | refine IsS72.far ?_ NB279_277.out _) | exact HI279.out)⟩, ⟨by repeat (first | (with_reducible first | exact HB.out | apply below_alloc | apply pw_below_drewN | apply below_drew1 | refine below_set ?_ (IsS72.ge HI279.out) | refine below_set ?_ GE275.out | refine below_set ?_ GE276.out | refine below_set ?_ GE277.out) | exact HB.out)⟩⟩
        case rest => as_aux_lemma =>
         clear HC53
         try clear c1
         try clear c2
         try clear p2
         try clear c3
         try clear c3b0
         try clear c3b1
         try clear c4
         try clear c4b0
         try clear c4b1
         try clear c5
         try clear p6
         try clear c7
         try clear c10
         try clear c11
         try clear c14
         try clear c16
         try clear c16b0
         try clear c18
         try clear c18b0
         try clear c18b1
         try clear c20
         try clear c20b0
         try clear c20b1
         try clear c21
         try clear c22
         try clear c23
         try clear c24
         try clear c27
         try clear c28
         try clear c31
         try clear c32
         try clear c33
         try clear c34
         try clear c45
         try clear c46
         try clear c47
         try clear c49
         try clear c50
         try clear c54
         try clear c54b0
         try clear hcz12_0
         try clear hcz12_1
         try clear hcz12_2
         try clear hcz12_3
         try clear hcz13_0
         try clear hcz13_1
         try clear hcz13_2
         try clear hcz13_3
         try clear hcz25_0
         try clear hcz25_1
         try clear hcz25_2
         try clear hcz25_3
         try clear hcz29_0
         try clear hcz29_1
         try clear hcz29_2
         try clear hcz29_3
         try clear hcz35_0
         try clear hcz35_1
         try clear hcz35_2
         try clear hcz40_0
         try clear hcz40_1
         try clear hcz40_2
         try clear hcz40_3
         try clear hcz41_0
         try clear hcz41_1
         try clear hcz41_2
         try clear hcz44_0
         try clear hcz44_1
         try clear hcz44_2
         try clear hcz44_3
         try clear hcz48_0
         try clear hcz48_1
         try clear hcz48_2
         try clear hcz48_3
         try clear hcz51_0
         try clear hcz51_1
         try clear hcz51_2
         try clear hcz51_3
         try clear hcz8_0
         try clear hcz8_1
         try clear hcz8_2
         try clear hcz8_3
         try clear hfz12_0
         try clear hfz12_1
         try clear hfz12_2
         try clear hfz12_3
         try clear hfz13_0
         try clear hfz13_1
         try clear hfz13_2
         try clear hfz13_3
         try clear hfz25_0
         try clear hfz25_1
         try clear hfz25_2
         try clear hfz25_3
         try clear hfz29_0
         try clear hfz29_1
         try clear hfz29_2
         try clear hfz29_3
         try clear hfz35_0
         try clear hfz35_1
         try clear hfz35_2
         try clear hfz40_0
         try clear hfz40_1
         try clear hfz40_2
         try clear hfz40_3
         try clear hfz41_0
         try clear hfz41_1
         try clear hfz41_2
         try clear hfz44_0
         try clear hfz44_1
         try clear hfz44_2
         try clear hfz44_3
         try clear hfz48_0
         try clear hfz48_1
         try clear hfz48_2
         try clear hfz48_3
         try clear hfz51_0
         try clear hfz51_1
         try clear hfz51_2
         try clear hfz51_3
         try clear hfz8_0
         try clear hfz8_1
         try clear hfz8_2
         try clear hfz8_3
         try clear p2
         try clear p6
         obtain ⟨kq, x94_52, rfl, HA, HJ52, HO_278002, HO_278003, BK275, BK276, BK277, HI279, HB⟩ := hcut
         cases kq with
         | zero => exact absurd HA.out (by simp [interleavescene_Problem_Formula.j2])
         | succ kj52 =>
          have H := HA.out
          clear HA
          simp only [interleavescene_Problem_Formula.j2] at H
          by_cases c58 : x94_52 = true
          ·subst c58
           have H1 : ((interleavemade_Tape_Next.f (l0_3.take ((ji2) : Int).toNat) x280001_2 256).bind fun bt288 => (interleavescene_Problem_Formula.l2 kj52 ([] : List Int) (Int.tmod bt288.1 4) (wrap64 (2 + (Int.tmod (wrap64 (a0_0)) 5))) (wrap64 ((x278002_1.length : Int) + (Int.tmod (wrap64 (a0_2)) 7))) x278002_1 x278003_2 (l0_3.take ((ji2) : Int).toNat) bt288.2)) = some (r1, r2, r3, r4) := by rw [if_pos rfl] at H; exact H
           clear H
           have H := H1
           clear H1
           replace H := Option.bind_eq_some_iff.mp H
           obtain ⟨⟨t288, t289⟩, A590, H⟩ := H
           replace H : (interleavescene_Problem_Formula.l2 kj52 ([] : List Int) (Int.tmod t288 4) (wrap64 (2 + (Int.tmod (wrap64 (a0_0)) 5))) (wrap64 ((x278002_1.length : Int) + (Int.tmod (wrap64 (a0_2)) 7))) x278002_1 x278003_2 (l0_3.take ((ji2) : Int).toNat) t289) = some (r1, r2, r3, r4) := H
           have A59 := Aside0.mk A590
           clear A590
           have H' := Aside0.mk H
           clear H
           go_wp2_with (first | ((with_reducible refine gate_callee (f := 32) rfl ?_); refine goesM_ Try.func32 #[.pointer (some ⟨gb279, 0, none⟩), .int .i64 256] ?_; (with_reducible refine (interleavemade_Tape_Next.calls gb279 (l0_3.take ((ji2) : Int).toNat) x280001_2 256 t288 t289 w _ ?side1 ?side2 A59.out).mono ?_); (case side1 => repeat (first | (with_reducible first | exact HI279.out | apply IsS72.alloc | apply IsS72.drewN | apply IsS72.drew | apply IsS72.set_1 | refine IsS72.far ?_ NB279_275.out _ | refine IsS72.far ?_ NB279_276.out _ | refine IsS72.far ?_ NB279_277.out _) | exact HI279.out)); (case side2 => repeat (first | (with_reducible first | exact HB.out | apply below_alloc | apply pw_below_drewN | apply below_drew1 | refine below_set ?_ (IsS72.ge HI279.out) | refine below_set ?_ GE275.out | refine below_set ?_ GE276.out | refine below_set ?_ GE277.out) | exact HB.out)); rintro e w60 ⟨rfl, hi, hb, hk⟩; refine ⟨_, rfl, ?_⟩; have n0_ := Aside0.mk (Kd.R_mono (Kd.R_keep (IsS72.apart (show IsS72 w _ gb279 (l0_3.take ((ji2) : Int).toNat) x280001_2 from by repeat (first | (with_reducible first | exact HI279.out | apply IsS72.alloc | apply IsS72.drewN | apply IsS72.drew | apply IsS72.set_1 | refine IsS72.far ?_ NB279_275.out _ | refine IsS72.far ?_ NB279_276.out _ | refine IsS72.far ?_ NB279_277.out _) | exact HI279.out)) HO_278002.r (by decide)) hk (fun _ h => h.2)) (fun _ h => h.1)); have n1_ := Aside0.mk (Kd.S_mono (Kd.S_keep (IsS72.apartS (show IsS72 w _ gb279 (l0_3.take ((ji2) : Int).toNat) x280001_2 from by repeat (first | (with_reducible first | exact HI279.out | apply IsS72.alloc | apply IsS72.drewN | apply IsS72.drew | apply IsS72.set_1 | refine IsS72.far ?_ NB279_275.out _ | refine IsS72.far ?_ NB279_276.out _ | refine IsS72.far ?_ NB279_277.out _) | exact HI279.out)) HO_278003.s (by decide)) hk (fun _ h => h.2)) (fun _ h => h.1)); have n2_ := Aside0.mk (KeepBut.blk hk (g' := gb275) (o := .cells #[.int .u8 a0_0, .int .u8 a0_1, .int .u8 a0_2, .slice A0_3 l0_3.length c0_3] 25 (0, 0)) BK275.b NB275_279.out (by simp)); have n3_ := Aside0.mk (KeepBut.blk hk (g' := gb276) (o := .cells #[.int .i64 0, .int .i64 0, .slice none 0 0, .slice none 0 0] 32 (0, 0)) BK276.b NB276_279.out (by simp)); have n4_ := Aside0.mk (KeepBut.blk hk (g' := gb277) (o := .cells #[.int .i64 (wrap64 (2 + (Int.tmod (wrap64 (a0_0)) 5))), .int .i64 (wrap64 ((x278002_1.length : Int) + (Int.tmod (wrap64 (a0_2)) 7))), .slice Ao52 x278002_1.length co52, u278003] 32 (0, 0)) BK277.b NB277_279.out (by simp)); have n5_ := Aside0.mk (hb); have n6_ := Aside0.mk (hi); clear HO_278002 HO_278003 BK275 BK276 BK277 HB HI279; revert n0_ n1_ n2_ n3_ n4_ n5_ n6_; intro HO_278002 HO_278003 BK275 BK276 BK277 HB HI279; (try clear hb); (try clear hb2); (try clear hk); (try clear hi)))
           go_loopg [8, 9] kj52 (fun kq v8 v9 w' => ∃ (x8_4 : List Int) (x9_4 : Int) (x280001_4 : Int), v9 = .int .i64 x9_4 ∧ Aside0 (interleavescene_Problem_Formula.l2 kq x8_4 x9_4 (wrap64 (2 + (Int.tmod (wrap64 (a0_0)) 5))) (wrap64 ((x278002_1.length : Int) + (Int.tmod (wrap64 (a0_2)) 7))) x278002_1 x278003_2 (l0_3.take ((ji2) : Int).toNat) x280001_4 = some (r1, r2, r3, r4)) ∧ Aside0 (kq ≤ kj52) ∧ Aside0 (Kd.R (Kd.int .i64) 3 w' w.heap.size (fun _ => True) v8 x8_4) ∧ Aside0 (Kd.R k75 75 w' w.heap.size (fun _ => True) (.slice Ao52 x278002_1.length co52) x278002_1) ∧ Aside0 (Kd.S (Kd.slice 3 (Kd.int .i64)) 43 w' w.heap.size (fun k_ => some k_ ≠ (v8 : Value).ownBlock) u278003 x278003_2) ∧ Aside0 (w'.heap[gb275]? = some (.cells #[.int .u8 a0_0, .int .u8 a0_1, .int .u8 a0_2, (.slice A0_3 l0_3.length c0_3)] 25 (0, 0))) ∧ Aside0 (w'.heap[gb276]? = some (.cells #[.int .i64 0, .int .i64 0, (.slice none 0 0), (.slice none 0 0)] 32 (0, 0))) ∧ Aside0 (w'.heap[gb277]? = some (.cells #[.int .i64 (wrap64 (2 + (Int.tmod (wrap64 (a0_0)) 5))), .int .i64 (wrap64 ((x278002_1.length : Int) + (Int.tmod (wrap64 (a0_2)) 7))), (.slice Ao52 x278002_1.length co52), u278003] 32 (0, 0))) ∧ Aside0 (IsS72 w w' gb279 (l0_3.take ((ji2) : Int).toNat) x280001_4) ∧ Aside0 (Below w.heap.size w w'))
           case atStart => exact ⟨(([] : List Int)), (Int.tmod t288 4), (t289), (by first | rfl | (simp; done) | (simp [*]; done)), H', ⟨Nat.le_refl _⟩, ⟨by first | exact Kd.R_nil _ _ _ _ _ | exact Kd.N_nil _ _ _ _ _ | exact Kd.V_nil _ _ _ _ _ | exact Kd.Q_nil _ _ _ _ _ | exact Kd.S_nil _ _ _ _ _⟩, ⟨HO_278002.r⟩, ⟨by (with_reducible repeat (first | apply Kd.S_alloc | apply Kd.S_drewN | apply Kd.S_drew)); exact Kd.S_mono HO_278003.out (fun _ hk => (by simp [Value.ownBlock]))⟩, ⟨BK275.b⟩, ⟨BK276.b⟩, ⟨BK277.b⟩, ⟨by repeat (first | (with_reducible first | exact HI279.out | apply IsS72.alloc | apply IsS72.drewN | apply IsS72.drew | apply IsS72.set_1 | refine IsS72.far ?_ NB279_275.out _ | refine IsS72.far ?_ NB279_276.out _ | refine IsS72.far ?_ NB279_277.out _) | exact HI279.out)⟩, ⟨by repeat (first | (with_reducible first | exact HB.out | apply below_alloc | apply pw_below_drewN | apply below_drew1 | refine below_set ?_ (IsS72.ge HI279.out) | refine below_set ?_ GE275.out | refine below_set ?_ GE276.out | refine below_set ?_ GE277.out) | exact HB.out)⟩⟩
           case round => as_aux_lemma =>
            clear H'
            try clear c1
            try clear c2
            try clear p2
            try clear c3
            try clear c3b0
            try clear c3b1
            try clear c4
            try clear c4b0
            try clear c4b1
            try clear c5
            try clear p6
            try clear c7
            try clear c10
            try clear c11
            try clear c14
            try clear c16
            try clear c16b0
            try clear c18
            try clear c18b0
            try clear c18b1
            try clear c20
            try clear c20b0
            try clear c20b1
            try clear c21
            try clear c22
            try clear c23
            try clear c24
            try clear c27
            try clear c28
            try clear c31
            try clear c32
            try clear c33
            try clear c34
            try clear c45
            try clear c46
            try clear c47
            try clear c49
            try clear c50
            try clear c54
            try clear c54b0
            try clear c58
            try clear hcz12_0
            try clear hcz12_1
            try clear hcz12_2
            try clear hcz12_3
            try clear hcz13_0
            try clear hcz13_1
            try clear hcz13_2
            try clear hcz13_3
            try clear hcz25_0
            try clear hcz25_1
            try clear hcz25_2
            try clear hcz25_3
            try clear hcz29_0
            try clear hcz29_1
            try clear hcz29_2
            try clear hcz29_3
            try clear hcz35_0
            try clear hcz35_1
            try clear hcz35_2
            try clear hcz40_0
            try clear hcz40_1
            try clear hcz40_2
            try clear hcz40_3
            try clear hcz41_0
            try clear hcz41_1
            try clear hcz41_2
            try clear hcz44_0
            try clear hcz44_1
            try clear hcz44_2
            try clear hcz44_3
            try clear hcz48_0
            try clear hcz48_1
            try clear hcz48_2
            try clear hcz48_3
            try clear hcz51_0
            try clear hcz51_1
            try clear hcz51_2
            try clear hcz51_3
            try clear hcz8_0
            try clear hcz8_1
            try clear hcz8_2
            try clear hcz8_3
            try clear hfz12_0
            try clear hfz12_1
            try clear hfz12_2
            try clear hfz12_3
            try clear hfz13_0
            try clear hfz13_1
            try clear hfz13_2
            try clear hfz13_3
            try clear hfz25_0
            try clear hfz25_1
            try clear hfz25_2
            try clear hfz25_3
            try clear hfz29_0
            try clear hfz29_1
            try clear hfz29_2
            try clear hfz29_3
            try clear hfz35_0
            try clear hfz35_1
            try clear hfz35_2
            try clear hfz40_0
            try clear hfz40_1
            try clear hfz40_2
            try clear hfz40_3
            try clear hfz41_0
            try clear hfz41_1
            try clear hfz41_2
            try clear hfz44_0
            try clear hfz44_1
            try clear hfz44_2
            try clear hfz44_3
            try clear hfz48_0
            try clear hfz48_1
            try clear hfz48_2
            try clear hfz48_3
            try clear hfz51_0
            try clear hfz51_1
            try clear hfz51_2
            try clear hfz51_3
            try clear hfz8_0
            try clear hfz8_1
            try clear hfz8_2
            try clear hfz8_3
            try clear p2
            try clear p6
            obtain ⟨x8_4, x9_4, x280001_4, rfl, HA, HK4, HO_8, HO_278002, HO_278003, BK275, BK276, BK277, HI279, HB⟩ := hrel
            cases gk with
            | zero => exact absurd HA.out (by simp [interleavescene_Problem_Formula.l2])
            | succ k4 =>
             have H := HA.out
             clear HA
             simp only [interleavescene_Problem_Formula.l2] at H
             by_cases c61 : x9_4 ≥ 0
             ·rw [if_pos c61] at H
              have c61b0 : decide (0 ≤ x9_4) = true := decide_eq_true c61
              clear c61
              replace H := Option.bind_eq_some_iff.mp H
              obtain ⟨⟨t290, t291⟩, A620, H⟩ := H
              replace H : (if (wrap64 ((x278002_1.length : Int) + (Int.tmod (wrap64 (a0_2)) 7))) = 0 then (none) else (if (Int.tmod t290 2) = 1 then (if x8_4.length < 17592186044416 then (interleavescene_Problem_Formula.l2 k4 (x8_4 ++ [wrap64 (-(wrap64 (1 + (Int.tmod (wrap64 (Int.tdiv t290 2)) (wrap64 ((x278002_1.length : Int) + (Int.tmod (wrap64 (a0_2)) 7)))))))]) (wrap64 (x9_4 - 1)) (wrap64 (2 + (Int.tmod (wrap64 (a0_0)) 5))) (wrap64 ((x278002_1.length : Int) + (Int.tmod (wrap64 (a0_2)) 7))) x278002_1 x278003_2 (l0_3.take ((ji2) : Int).toNat) t291) else (none)) else (if x8_4.length < 17592186044416 then (interleavescene_Problem_Formula.l2 k4 (x8_4 ++ [wrap64 (1 + (Int.tmod (wrap64 (Int.tdiv t290 2)) (wrap64 ((x278002_1.length : Int) + (Int.tmod (wrap64 (a0_2)) 7)))))]) (wrap64 (x9_4 - 1)) (wrap64 (2 + (Int.tmod (wrap64 (a0_0)) 5))) (wrap64 ((x278002_1.length : Int) + (Int.tmod (wrap64 (a0_2)) 7))) x278002_1 x278003_2 (l0_3.take ((ji2) : Int).toNat) t291) else (none)))) = some (r1, r2, r3, r4) := H
              have A62 := Aside0.mk A620
              clear A620
              by_cases c63 : (wrap64 ((x278002_1.length : Int) + (Int.tmod (wrap64 (a0_2)) 7))) = 0
              ·rw [if_pos c63] at H
               exact absurd H (by simp)
              ·rw [if_neg c63] at H
               have c63b0 : ((wrap64 ((x278002_1.length : Int) + (Int.tmod (wrap64 (a0_2)) 7))) == 0) = false := beq_eq_false_iff_ne.mpr c63
               have c63b1 : ((wrap64 ((x278002_1.length : Int) + (Int.tmod (wrap64 (a0_2)) 7))) != 0) = true := bne_iff_ne.mpr c63
               by_cases c64 : (Int.tmod t290 2) = 1
               ·rw [if_pos c64] at H
                have c64b0 : ((Int.tmod t290 2) == 1) = true := beq_iff_eq.mpr c64
                have c64b1 : ((Int.tmod t290 2) != 1) = false := bne_eq_false_iff_eq.mpr c64
                clear c64
                by_cases c65 : x8_4.length < 17592186044416
                ·rw [if_pos c65] at H
                 have LMc65 := Aside0.mk c65
                 clear c65
                 obtain ⟨y292, hy292⟩ : ∃ y_ : List Int, y_ = (x8_4 ++ [wrap64 (-(wrap64 (1 + (Int.tmod (wrap64 (Int.tdiv t290 2)) (wrap64 ((x278002_1.length : Int) + (Int.tmod (wrap64 (a0_2)) 7)))))))]) := ⟨_, rfl⟩
                 replace H : (interleavescene_Problem_Formula.l2 k4 y292 (wrap64 (x9_4 - 1)) (wrap64 (2 + (Int.tmod (wrap64 (a0_0)) 5))) (wrap64 ((x278002_1.length : Int) + (Int.tmod (wrap64 (a0_2)) 7))) x278002_1 x278003_2 (l0_3.take ((ji2) : Int).toNat) t291) = some (r1, r2, r3, r4) := by first | (rw [hy292]; with_reducible exact H) | (have H2_ := (Option.bind_some _ _).symm.trans H; rw [hy292]; with_reducible exact H2_) | (have H2_ := (Option.bind_some _ _).symm.trans H; with_reducible exact H2_) | with_reducible exact H | (rw [hy292]; exact H) | exact H
                 have Ny292 := Aside0.mk hy292
                 clear hy292
                 have H' := Aside0.mk H
                 clear H
                 go_wp2_with (first | ((with_reducible refine gate_callee (f := 32) rfl ?_); refine goesM_ Try.func32 #[.pointer (some ⟨gb279, 0, none⟩), .int .i64 256] ?_; (with_reducible refine (interleavemade_Tape_Next.calls gb279 (l0_3.take ((ji2) : Int).toNat) x280001_4 256 t290 t291 w _ ?side1 ?side2 A62.out).mono ?_); (case side1 => repeat (first | (with_reducible first | exact HI279.out | apply IsS72.alloc | apply IsS72.drewN | apply IsS72.drew | apply IsS72.set_1 | refine IsS72.far ?_ NB279_275.out _ | refine IsS72.far ?_ NB279_276.out _ | refine IsS72.far ?_ NB279_277.out _) | exact HI279.out)); (case side2 => repeat (first | (with_reducible first | exact HB.out | apply below_alloc | apply pw_below_drewN | apply below_drew1 | refine below_set ?_ (IsS72.ge HI279.out) | refine below_set ?_ GE275.out | refine below_set ?_ GE276.out | refine below_set ?_ GE277.out) | exact HB.out)); rintro e w66 ⟨rfl, hi, hb, hk⟩; refine ⟨_, rfl, ?_⟩; have n0_ := Aside0.mk (Kd.R_mono (Kd.R_keep (IsS72.apart (show IsS72 w _ gb279 (l0_3.take ((ji2) : Int).toNat) x280001_4 from by repeat (first | (with_reducible first | exact HI279.out | apply IsS72.alloc | apply IsS72.drewN | apply IsS72.drew | apply IsS72.set_1 | refine IsS72.far ?_ NB279_275.out _ | refine IsS72.far ?_ NB279_276.out _ | refine IsS72.far ?_ NB279_277.out _) | exact HI279.out)) HO_8.r (by decide)) hk (fun _ h => h.2)) (fun _ h => h.1)); have n1_ := Aside0.mk (Kd.R_mono (Kd.R_keep (IsS72.apart (show IsS72 w _ gb279 (l0_3.take ((ji2) : Int).toNat) x280001_4 from by repeat (first | (with_reducible first | exact HI279.out | apply IsS72.alloc | apply IsS72.drewN | apply IsS72.drew | apply IsS72.set_1 | refine IsS72.far ?_ NB279_275.out _ | refine IsS72.far ?_ NB279_276.out _ | refine IsS72.far ?_ NB279_277.out _) | exact HI279.out)) HO_278002.r (by decide)) hk (fun _ h => h.2)) (fun _ h => h.1)); have n2_ := Aside0.mk (Kd.S_mono (Kd.S_keep (IsS72.apartS (show IsS72 w _ gb279 (l0_3.take ((ji2) : Int).toNat) x280001_4 from by repeat (first | (with_reducible first | exact HI279.out | apply IsS72.alloc | apply IsS72.drewN | apply IsS72.drew | apply IsS72.set_1 | refine IsS72.far ?_ NB279_275.out _ | refine IsS72.far ?_ NB279_276.out _ | refine IsS72.far ?_ NB279_277.out _) | exact HI279.out)) HO_278003.s (by decide)) hk (fun _ h => h.2)) (fun _ h => h.1)); have n3_ := Aside0.mk (KeepBut.blk hk (g' := gb275) (o := .cells #[.int .u8 a0_0, .int .u8 a0_1, .int .u8 a0_2, .slice A0_3 l0_3.length c0_3] 25 (0, 0)) BK275.b NB275_279.out (by simp)); have n4_ := Aside0.mk (KeepBut.blk hk (g' := gb276) (o := .cells #[.int .i64 0, .int .i64 0, .slice none 0 0, .slice none 0 0] 32 (0, 0)) BK276.b NB276_279.out (by simp)); have n5_ := Aside0.mk (KeepBut.blk hk (g' := gb277) (o := .cells #[.int .i64 (wrap64 (2 + (Int.tmod (wrap64 (a0_0)) 5))), .int .i64 (wrap64 ((x278002_1.length : Int) + (Int.tmod (wrap64 (a0_2)) 7))), .slice Ao52 x278002_1.length co52, u278003] 32 (0, 0)) BK277.b NB277_279.out (by simp)); have n6_ := Aside0.mk (hb); have n7_ := Aside0.mk (hi); clear HO_8 HO_278002 HO_278003 BK275 BK276 BK277 HB HI279; revert n0_ n1_ n2_ n3_ n4_ n5_ n6_ n7_; intro HO_8 HO_278002 HO_278003 BK275 BK276 BK277 HB HI279; (try clear hb); (try clear hb2); (try clear hk); (try clear hi); have hnb67 := NB277_275.out; have hnc67 := NB275_277.out; have hnb68 := NB277_276.out; have hnc68 := NB276_277.out; have hnb69 := NB277_279.out; have hnc69 := NB279_277.out; have hcz70_0 := BK277.cl 0 (.int .i64 (wrap64 (2 + (Int.tmod (wrap64 (a0_0)) 5)))); have hcz70_1 := BK277.cl 1 (.int .i64 (wrap64 ((x278002_1.length : Int) + (Int.tmod (wrap64 (a0_2)) 7)))); have hcz70_2 := BK277.cl 2 (.slice Ao52 x278002_1.length co52); have hcz70_3 := BK277.cl 3 (u278003); have hfz70_0 := BK277.fz 0; have hfz70_1 := BK277.fz 1; have hfz70_2 := BK277.fz 2; have hfz70_3 := BK277.fz 3) | ((with_reducible refine gate_builtin (b := .append) (xs := #[.tmp 115, .tmp 117]) rfl ?_); (try (refine gate_guard (by rfl) ?_; dsimp only)); at_builtin; refine Kd.R_append (Kd.int .i64) (w0 := w) w.heap.size rfl (.tmp 115) (.tmp 117) 43 3 (.int .i64 0) 8 rfl Try.underlying43 info3 rfl (by decide) (by omega) u8 x8_4 (wrap64 (-(wrap64 (1 + (Int.tmod (wrap64 (Int.tdiv t290 2)) (wrap64 ((x278002_1.length : Int) + (Int.tmod (wrap64 (a0_2)) 7)))))))) [.int .i64 (wrap64 (-(wrap64 (1 + (Int.tmod (wrap64 (Int.tdiv t290 2)) (wrap64 ((x278002_1.length : Int) + (Int.tmod (wrap64 (a0_2)) 7))))))))] (fun _ => True) (fun _ => False) rfl rfl ?aP (fun _ hk => hk.elim) ?aF ?aO ?aB ?aS ?aL ?_; (case aP => exact rfl); (case aB => exact (by repeat (first | (with_reducible first | exact HB.out | apply below_alloc | apply pw_below_drewN | apply below_drew1 | refine below_set ?_ (IsS72.ge HI279.out) | refine below_set ?_ GE275.out | refine below_set ?_ GE276.out | refine below_set ?_ GE277.out) | exact HB.out))); (case aF => exact (fun _ _ => trivial)); (case aO => exact HO_8.r); (case aS => exact (below_size (by repeat (first | (with_reducible first | exact HB.out | apply below_alloc | apply pw_below_drewN | apply below_drew1 | refine below_set ?_ (IsS72.ge HI279.out) | refine below_set ?_ GE275.out | refine below_set ?_ GE276.out | refine below_set ?_ GE277.out) | exact HB.out)))); (case aL => have := LMc65.out; omega); intro v293 w71 ho hb hg hat; rw [← Ny292.out] at ho; have n0_ := Aside0.mk (Kd.R_over' HO_278002.r (Kd.R_typed HO_8.r) (by decide) hg); have n1_ := Aside0.mk (Kd.S_after (ok := (fun _ => True)) (by (with_reducible repeat (first | apply Kd.S_alloc | apply Kd.S_drewN | apply Kd.S_drew)); exact Kd.S_mono HO_278003.out (fun _ hk => ⟨trivial, hk⟩)) hg hat); have n2_ := Aside0.mk (blk_grown BK275.b hg (Kd.R_ne HO_8.out BK275.out (by decide))); have n3_ := Aside0.mk (blk_grown BK276.b hg (Kd.R_ne HO_8.out BK276.out (by decide))); have n4_ := Aside0.mk (blk_grown BK277.b hg (Kd.R_ne HO_8.out BK277.out (by decide))); have n5_ := Aside0.mk (IsS72.grown (show IsS72 w _ gb279 (l0_3.take ((ji2) : Int).toNat) t291 from by repeat (first | (with_reducible first | exact HI279.out | apply IsS72.alloc | apply IsS72.drewN | apply IsS72.drew | apply IsS72.set_1 | refine IsS72.far ?_ NB279_275.out _ | refine IsS72.far ?_ NB279_276.out _ | refine IsS72.far ?_ NB279_277.out _) | exact HI279.out)) hg (IsS72.own_ne HI279.out HO_8.out (by decide))); have n6_ := Aside0.mk (hb); have n7_ := Aside0.mk (ho); clear HO_278002 HO_278003 BK275 BK276 BK277 HI279 HB HO_8; revert n0_ n1_ n2_ n3_ n4_ n5_ n6_ n7_; intro HO_278002 HO_278003 BK275 BK276 BK277 HI279 HB HO294; clear ho hb hg hat))
                 go_roundg k4
                 case measure => have := HK1.out; have := HK2.out; have := HJ52.out; have := HK4.out; omega
                 case rel => exact ⟨(y292), (wrap64 (x9_4 - 1)), (t291), (by first | rfl | (simp; done) | (simp [*]; done)), H', ⟨by have := HK1.out; have := HK2.out; have := HJ52.out; have := HK4.out; omega⟩, ⟨HO294.r⟩, ⟨HO_278002.r⟩, ⟨by (with_reducible repeat (first | apply Kd.S_alloc | apply Kd.S_drewN | apply Kd.S_drew)); exact Kd.S_mono HO_278003.out (fun _ hk => hk.2)⟩, ⟨BK275.b⟩, ⟨BK276.b⟩, ⟨BK277.b⟩, ⟨by repeat (first | (with_reducible first | exact HI279.out | apply IsS72.alloc | apply IsS72.drewN | apply IsS72.drew | apply IsS72.set_1 | refine IsS72.far ?_ NB279_275.out _ | refine IsS72.far ?_ NB279_276.out _ | refine IsS72.far ?_ NB279_277.out _) | exact HI279.out)⟩, ⟨by repeat (first | (with_reducible first | exact HB.out | apply below_alloc | apply pw_below_drewN | apply below_drew1 | refine below_set ?_ (IsS72.ge HI279.out) | refine below_set ?_ GE275.out | refine below_set ?_ GE276.out | refine below_set ?_ GE277.out) | exact HB.out)⟩⟩
                ·rw [if_neg c65] at H
                 exact absurd H (by simp)
               ·rw [if_neg c64] at H
                have c64b0 : ((Int.tmod t290 2) == 1) = false := beq_eq_false_iff_ne.mpr c64
                have c64b1 : ((Int.tmod t290 2) != 1) = true := bne_iff_ne.mpr c64
                by_cases c72 : x8_4.length < 17592186044416
                ·rw [if_pos c72] at H
                 have LMc72 := Aside0.mk c72
                 clear c72
                 obtain ⟨y295, hy295⟩ : ∃ y_ : List Int, y_ = (x8_4 ++ [wrap64 (1 + (Int.tmod (wrap64 (Int.tdiv t290 2)) (wrap64 ((x278002_1.length : Int) + (Int.tmod (wrap64 (a0_2)) 7)))))]) := ⟨_, rfl⟩
                 replace H : (interleavescene_Problem_Formula.l2 k4 y295 (wrap64 (x9_4 - 1)) (wrap64 (2 + (Int.tmod (wrap64 (a0_0)) 5))) (wrap64 ((x278002_1.length : Int) + (Int.tmod (wrap64 (a0_2)) 7))) x278002_1 x278003_2 (l0_3.take ((ji2) : Int).toNat) t291) = some (r1, r2, r3, r4) := by first | (rw [hy295]; with_reducible exact H) | (have H2_ := (Option.bind_some _ _).symm.trans H; rw [hy295]; with_reducible exact H2_) | (have H2_ := (Option.bind_some _ _).symm.trans H; with_reducible exact H2_) | with_reducible exact H | (rw [hy295]; exact H) | exact H
                 have Ny295 := Aside0.mk hy295
                 clear hy295
                 have H' := Aside0.mk H
                 clear H
                 go_wp2_with (first | ((with_reducible refine gate_callee (f := 32) rfl ?_); refine goesM_ Try.func32 #[.pointer (some ⟨gb279, 0, none⟩), .int .i64 256] ?_; (with_reducible refine (interleavemade_Tape_Next.calls gb279 (l0_3.take ((ji2) : Int).toNat) x280001_4 256 t290 t291 w _ ?side1 ?side2 A62.out).mono ?_); (case side1 => repeat (first | (with_reducible first | exact HI279.out | apply IsS72.alloc | apply IsS72.drewN | apply IsS72.drew | apply IsS72.set_1 | refine IsS72.far ?_ NB279_275.out _ | refine IsS72.far ?_ NB279_276.out _ | refine IsS72.far ?_ NB279_277.out _) | exact HI279.out)); (case side2 => repeat (first | (with_reducible first | exact HB.out | apply below_alloc | apply pw_below_drewN | apply below_drew1 | refine below_set ?_ (IsS72.ge HI279.out) | refine below_set ?_ GE275.out | refine below_set ?_ GE276.out | refine below_set ?_ GE277.out) | exact HB.out)); rintro e w73 ⟨rfl, hi, hb, hk⟩; refine ⟨_, rfl, ?_⟩; have n0_ := Aside0.mk (Kd.R_mono (Kd.R_keep (IsS72.apart (show IsS72 w _ gb279 (l0_3.take ((ji2) : Int).toNat) x280001_4 from by repeat (first | (with_reducible first | exact HI279.out | apply IsS72.alloc | apply IsS72.drewN | apply IsS72.drew | apply IsS72.set_1 | refine IsS72.far ?_ NB279_275.out _ | refine IsS72.far ?_ NB279_276.out _ | refine IsS72.far ?_ NB279_277.out _) | exact HI279.out)) HO_8.r (by decide)) hk (fun _ h => h.2)) (fun _ h => h.1)); have n1_ := Aside0.mk (Kd.R_mono (Kd.R_keep (IsS72.apart (show IsS72 w _ gb279 (l0_3.take ((ji2) : Int).toNat) x280001_4 from by repeat (first | (with_reducible first | exact HI279.out | apply IsS72.alloc | apply IsS72.drewN | apply IsS72.drew | apply IsS72.set_1 | refine IsS72.far ?_ NB279_275.out _ | refine IsS72.far ?_ NB279_276.out _ | refine IsS72.far ?_ NB279_277.out _) | exact HI279.out)) HO_278002.r (by decide)) hk (fun _ h => h.2)) (fun _ h => h.1)); have n2_ := Aside0.mk (Kd.S_mono (Kd.S_keep (IsS72.apartS (show IsS72 w _ gb279 (l0_3.take ((ji2) : Int).toNat) x280001_4 from by repeat (first | (with_reducible first | exact HI279.out | apply IsS72.alloc | apply IsS72.drewN | apply IsS72.drew | apply IsS72.set_1 | refine IsS72.far ?_ NB279_275.out _ | refine IsS72.far ?_ NB279_276.out _ | refine IsS72.far ?_ NB279_277.out _) | exact HI279.out)) HO_278003.s (by decide)) hk (fun _ h => h.2)) (fun _ h => h.1)); have n3_ := Aside0.mk (KeepBut.blk hk (g' := gb275) (o := .cells #[.int .u8 a0_0, .int .u8 a0_1, .int .u8 a0_2, .slice A0_3 l0_3.length c0_3] 25 (0, 0)) BK275.b NB275_279.out (by simp)); have n4_ := Aside0.mk (KeepBut.blk hk (g' := gb276) (o := .cells #[.int .i64 0, .int .i64 0, .slice none 0 0, .slice none 0 0] 32 (0, 0)) BK276.b NB276_279.out (by simp)); have n5_ := Aside0.mk (KeepBut.blk hk (g' := gb277) (o := .cells #[.int .i64 (wrap64 (2 + (Int.tmod (wrap64 (a0_0)) 5))), .int .i64 (wrap64 ((x278002_1.length : Int) + (Int.tmod (wrap64 (a0_2)) 7))), .slice Ao52 x278002_1.length co52, u278003] 32 (0, 0)) BK277.b NB277_279.out (by simp)); have n6_ := Aside0.mk (hb); have n7_ := Aside0.mk (hi); clear HO_8 HO_278002 HO_278003 BK275 BK276 BK277 HB HI279; revert n0_ n1_ n2_ n3_ n4_ n5_ n6_ n7_; intro HO_8 HO_278002 HO_278003 BK275 BK276 BK277 HB HI279; (try clear hb); (try clear hb2); (try clear hk); (try clear hi); have hnb74 := NB277_275.out; have hnc74 := NB275_277.out; have hnb75 := NB277_276.out; have hnc75 := NB276_277.out; have hnb76 := NB277_279.out; have hnc76 := NB279_277.out; have hcz77_0 := BK277.cl 0 (.int .i64 (wrap64 (2 + (Int.tmod (wrap64 (a0_0)) 5)))); have hcz77_1 := BK277.cl 1 (.int .i64 (wrap64 ((x278002_1.length : Int) + (Int.tmod (wrap64 (a0_2)) 7)))); have hcz77_2 := BK277.cl 2 (.slice Ao52 x278002_1.length co52); have hcz77_3 := BK277.cl 3 (u278003); have hfz77_0 := BK277.fz 0; have hfz77_1 := BK277.fz 1; have hfz77_2 := BK277.fz 2; have hfz77_3 := BK277.fz 3) | ((with_reducible refine gate_builtin (b := .append) (xs := #[.tmp 115, .tmp 117]) rfl ?_); (try (refine gate_guard (by rfl) ?_; dsimp only)); at_builtin; refine Kd.R_append (Kd.int .i64) (w0 := w) w.heap.size rfl (.tmp 115) (.tmp 117) 43 3 (.int .i64 0) 8 rfl Try.underlying43 info3 rfl (by decide) (by omega) u8 x8_4 (wrap64 (1 + (Int.tmod (wrap64 (Int.tdiv t290 2)) (wrap64 ((x278002_1.length : Int) + (Int.tmod (wrap64 (a0_2)) 7)))))) [.int .i64 (wrap64 (1 + (Int.tmod (wrap64 (Int.tdiv t290 2)) (wrap64 ((x278002_1.length : Int) + (Int.tmod (wrap64 (a0_2)) 7))))))] (fun _ => True) (fun _ => False) rfl rfl ?aP (fun _ hk => hk.elim) ?aF ?aO ?aB ?aS ?aL ?_; (case aP => exact rfl); (case aB => exact (by repeat (first | (with_reducible first | exact HB.out | apply below_alloc | apply pw_below_drewN | apply below_drew1 | refine below_set ?_ (IsS72.ge HI279.out) | refine below_set ?_ GE275.out | refine below_set ?_ GE276.out | refine below_set ?_ GE277.out) | exact HB.out))); (case aF => exact (fun _ _ => trivial)); (case aO => exact HO_8.r); (case aS => exact (below_size (by repeat (first | (with_reducible first | exact HB.out | apply below_alloc | apply pw_below_drewN | apply below_drew1 | refine below_set ?_ (IsS72.ge HI279.out) | refine below_set ?_ GE275.out | refine below_set ?_ GE276.out | refine below_set ?_ GE277.out) | exact HB.out)))); (case aL => have := LMc72.out; omega); intro v296 w78 ho hb hg hat; rw [← Ny295.out] at ho; have n0_ := Aside0.mk (Kd.R_over' HO_278002.r (Kd.R_typed HO_8.r) (by decide) hg); have n1_ := Aside0.mk (Kd.S_after (ok := (fun _ => True)) (by (with_reducible repeat (first | apply Kd.S_alloc | apply Kd.S_drewN | apply Kd.S_drew)); exact Kd.S_mono HO_278003.out (fun _ hk => ⟨trivial, hk⟩)) hg hat); have n2_ := Aside0.mk (blk_grown BK275.b hg (Kd.R_ne HO_8.out BK275.out (by decide))); have n3_ := Aside0.mk (blk_grown BK276.b hg (Kd.R_ne HO_8.out BK276.out (by decide))); have n4_ := Aside0.mk (blk_grown BK277.b hg (Kd.R_ne HO_8.out BK277.out (by decide))); have n5_ := Aside0.mk (IsS72.grown (show IsS72 w _ gb279 (l0_3.take ((ji2) : Int).toNat) t291 from by repeat (first | (with_reducible first | exact HI279.out | apply IsS72.alloc | apply IsS72.drewN | apply IsS72.drew | apply IsS72.set_1 | refine IsS72.far ?_ NB279_275.out _ | refine IsS72.far ?_ NB279_276.out _ | refine IsS72.far ?_ NB279_277.out _) | exact HI279.out)) hg (IsS72.own_ne HI279.out HO_8.out (by decide))); have n6_ := Aside0.mk (hb); have n7_ := Aside0.mk (ho); clear HO_278002 HO_278003 BK275 BK276 BK277 HI279 HB HO_8; revert n0_ n1_ n2_ n3_ n4_ n5_ n6_ n7_; intro HO_278002 HO_278003 BK275 BK276 BK277 HI279 HB HO297; clear ho hb hg hat))
                 go_roundg k4
                 case measure => have := HK1.out; have := HK2.out; have := HJ52.out; have := HK4.out; omega
                 case rel => exact ⟨(y295), (wrap64 (x9_4 - 1)), (t291), (by first | rfl | (simp; done) | (simp [*]; done)), H', ⟨by have := HK1.out; have := HK2.out; have := HJ52.out; have := HK4.out; omega⟩, ⟨HO297.r⟩, ⟨HO_278002.r⟩, ⟨by (with_reducible repeat (first | apply Kd.S_alloc | apply Kd.S_drewN | apply Kd.S_drew)); exact Kd.S_mono HO_278003.out (fun _ hk => hk.2)⟩, ⟨BK275.b⟩, ⟨BK276.b⟩, ⟨BK277.b⟩, ⟨by repeat (first | (with_reducible first | exact HI279.out | apply IsS72.alloc | apply IsS72.drewN | apply IsS72.drew | apply IsS72.set_1 | refine IsS72.far ?_ NB279_275.out _ | refine IsS72.far ?_ NB279_276.out _ | refine IsS72.far ?_ NB279_277.out _) | exact HI279.out)⟩, ⟨by repeat (first | (with_reducible first | exact HB.out | apply below_alloc | apply pw_below_drewN | apply below_drew1 | refine below_set ?_ (IsS72.ge HI279.out) | refine below_set ?_ GE275.out | refine below_set ?_ GE276.out | refine below_set ?_ GE277.out) | exact HB.out)⟩⟩
                ·rw [if_neg c72] at H
                 exact absurd H (by simp)
             ·rw [if_neg c61] at H
              have c61b0 : decide (0 ≤ x9_4) = false := decide_eq_false c61
              clear c61
              by_cases c79 : x278003_2.length < 5864062014805
              ·rw [if_pos c79] at H
               have LMc79 := Aside0.mk c79
               clear c79
               obtain ⟨y298, hy298⟩ : ∃ y_ : List (List Int), y_ = (x278003_2 ++ [x8_4]) := ⟨_, rfl⟩
               replace H : (interleavescene_Problem_Formula.l1 k4 (wrap64 (2 + (Int.tmod (wrap64 (a0_0)) 5))) (wrap64 ((x278002_1.length : Int) + (Int.tmod (wrap64 (a0_2)) 7))) x278002_1 y298 (l0_3.take ((ji2) : Int).toNat) x280001_4) = some (r1, r2, r3, r4) := by first | (rw [hy298]; with_reducible exact H) | (have H2_ := (Option.bind_some _ _).symm.trans H; rw [hy298]; with_reducible exact H2_) | (have H2_ := (Option.bind_some _ _).symm.trans H; with_reducible exact H2_) | with_reducible exact H | (rw [hy298]; exact H) | exact H
               have Ny298 := Aside0.mk hy298
               clear hy298
               have H' := Aside0.mk H
               clear H
               have hnb80 := NB277_275.out
               have hnc80 := NB275_277.out
               have hnb81 := NB277_276.out
               have hnc81 := NB276_277.out
               have hnb82 := NB277_279.out
               have hnc82 := NB279_277.out
               have hcz83_0 := BK277.cl 0 (.int .i64 (wrap64 (2 + (Int.tmod (wrap64 (a0_0)) 5))))
               have hcz83_1 := BK277.cl 1 (.int .i64 (wrap64 ((x278002_1.length : Int) + (Int.tmod (wrap64 (a0_2)) 7))))
               have hcz83_2 := BK277.cl 2 (.slice Ao52 x278002_1.length co52)
               have hcz83_3 := BK277.cl 3 (u278003)
               have hfz83_0 := BK277.fz 0
               have hfz83_1 := BK277.fz 1
               have hfz83_2 := BK277.fz 2
               have hfz83_3 := BK277.fz 3
               obtain ⟨Ao85, co85, eo85⟩ := Kd.R_slice HO_8.out
               subst eo85
               go_wp2_with (first | ((with_reducible refine gate_builtin (b := .append) (xs := #[.tmp 120, .tmp 122]) rfl ?_); (try (refine gate_guard (by rfl) ?_; dsimp only)); at_builtin; refine Kd.S_append (Kd.slice 3 (Kd.int .i64)) (w0 := w) w.heap.size rfl (.tmp 120) (.tmp 122) 30 43 (.slice none 0 0) 24 rfl Try.underlying30 info43 rfl (by decide) (by omega) u278003 x278003_2 x8_4 [.slice Ao85 x8_4.length co85] (fun _ => True) (fun k_ => some k_ = (.slice Ao85 x8_4.length co85 : Value).ownBlock) rfl rfl ?aP (fun k_ hk_ => ((Kd.R_mono (ok' := fun k_ => ((fun _ => True)) k_ ∧ some k_ ≠ (u278003 : Value).ownBlock) (Kd.R_apart' (HO_8.out) (Kd.S_typed HO_278003.out) (by decide)) (fun k_ hk => ⟨trivial, hk.2⟩))).1 k_ hk_.symm) ?aF ?aO ?aB ?aS ?aL ?_; (case aP => exact Kd.M_row (Kd.R_mono (Kd.R_tight rfl (Kd.R_mono (ok' := fun k_ => ((fun _ => True)) k_ ∧ some k_ ≠ (u278003 : Value).ownBlock) (Kd.R_apart' (HO_8.out) (Kd.S_typed HO_278003.out) (by decide)) (fun k_ hk => ⟨trivial, hk.2⟩))) (fun _ h_ => h_))); (case aB => exact (by repeat (first | (with_reducible first | exact HB.out | apply below_alloc | apply pw_below_drewN | apply below_drew1 | refine below_set ?_ (IsS72.ge HI279.out) | refine below_set ?_ GE275.out | refine below_set ?_ GE276.out | refine below_set ?_ GE277.out) | exact HB.out))); (case aF => exact (fun _ _ => trivial)); (case aO => exact (by (with_reducible repeat (first | apply Kd.S_alloc | apply Kd.S_drewN | apply Kd.S_drew)); exact Kd.S_mono HO_278003.out (fun k_ hk => ⟨trivial, fun e_ => hk e_⟩))); (case aS => exact (below_size (by repeat (first | (with_reducible first | exact HB.out | apply below_alloc | apply pw_below_drewN | apply below_drew1 | refine below_set ?_ (IsS72.ge HI279.out) | refine below_set ?_ GE275.out | refine below_set ?_ GE276.out | refine below_set ?_ GE277.out) | exact HB.out)))); (case aL => have := LMc79.out; omega); intro v299 w84 ho hb hg hat; rw [← Ny298.out] at ho; have n0_ := Aside0.mk (Kd.R_over' HO_278002.r (Kd.S_typed HO_278003.s) (by decide) hg); have n1_ := Aside0.mk (blk_grown BK275.b hg (Kd.S_ne HO_278003.out BK275.out (by decide))); have n2_ := Aside0.mk (blk_grown BK276.b hg (Kd.S_ne HO_278003.out BK276.out (by decide))); have n3_ := Aside0.mk (blk_grown BK277.b hg (Kd.S_ne HO_278003.out BK277.out (by decide))); have n4_ := Aside0.mk (IsS72.grown (show IsS72 w _ gb279 (l0_3.take ((ji2) : Int).toNat) x280001_4 from by repeat (first | (with_reducible first | exact HI279.out | apply IsS72.alloc | apply IsS72.drewN | apply IsS72.drew | apply IsS72.set_1 | refine IsS72.far ?_ NB279_275.out _ | refine IsS72.far ?_ NB279_276.out _ | refine IsS72.far ?_ NB279_277.out _) | exact HI279.out)) hg (IsS72.own_neS HI279.out HO_278003.out (by decide))); have n5_ := Aside0.mk (hb); have n6_ := Aside0.mk (ho); clear HO_278002 BK275 BK276 BK277 HI279 HB HO_278003 HO_8; revert n0_ n1_ n2_ n3_ n4_ n5_ n6_; intro HO_278002 BK275 BK276 BK277 HI279 HB HO300; clear ho hb hg hat; obtain ⟨Ao86, co86, eo86⟩ := Kd.S_slice HO300.out; subst eo86; have hcz87_0 := BK277.cl 0 (.int .i64 (wrap64 (2 + (Int.tmod (wrap64 (a0_0)) 5)))); have hcz87_1 := BK277.cl 1 (.int .i64 (wrap64 ((x278002_1.length : Int) + (Int.tmod (wrap64 (a0_2)) 7)))); have hcz87_2 := BK277.cl 2 (.slice Ao52 x278002_1.length co52); have hcz87_3 := BK277.cl 3 (u278003); have hfz87_0 := BK277.fz 0; have hfz87_1 := BK277.fz 1; have hfz87_2 := BK277.fz 2; have hfz87_3 := BK277.fz 3))
               go_roundg k4
               case measure => have := HK1.out; have := HK2.out; have := HJ52.out; have := HK4.out; omega
               case rel => exact ⟨(y298), (x280001_4), (.slice Ao86 y298.length co86), H', ⟨by have := HK1.out; have := HK2.out; have := HJ52.out; have := HK4.out; omega⟩, ⟨by (with_reducible repeat (first | apply Kd.R_alloc | apply Kd.R_drewN | apply Kd.R_drew)); exact Kd.R_mono (Kd.R_far (p := ⟨gb277, 3, none⟩) (Kd.R_types HO_278002.out BK277.out (by decide)) (fun _ hk => hk.2) (.slice Ao86 y298.length co86)) (fun _ hk => trivial)⟩, ⟨by (with_reducible repeat (first | apply Kd.S_alloc | apply Kd.S_drewN | apply Kd.S_drew)); exact Kd.S_mono (Kd.S_far (p := ⟨gb277, 3, none⟩) (Kd.S_types HO300.out BK277.out (by decide)) (fun _ hk => hk.2) (.slice Ao86 y298.length co86)) (fun _ hk => trivial)⟩, ⟨by (with_reducible repeat (first | refine blk_drewN ?_ _ | refine blk_drew ?_ | refine blk_alloc ?_ _)); refine blk_far ?_ NB275_277.out _; (with_reducible repeat (first | refine blk_drewN ?_ _ | refine blk_drew ?_ | refine blk_alloc ?_ _)); exact BK275.out⟩, ⟨by (with_reducible repeat (first | refine blk_drewN ?_ _ | refine blk_drew ?_ | refine blk_alloc ?_ _)); refine blk_far ?_ NB276_277.out _; (with_reducible repeat (first | refine blk_drewN ?_ _ | refine blk_drew ?_ | refine blk_alloc ?_ _)); exact BK276.out⟩, ⟨by (with_reducible repeat (first | refine blk_drewN ?_ _ | refine blk_drew ?_ | refine blk_alloc ?_ _)); refine blk_put (cs := #[.int .i64 (wrap64 (2 + (Int.tmod (wrap64 (a0_0)) 5))), .int .i64 (wrap64 ((x278002_1.length : Int) + (Int.tmod (wrap64 (a0_2)) 7))), .slice Ao52 x278002_1.length co52, u278003]) ?_ 3 _ rfl; (with_reducible repeat (first | refine blk_drewN ?_ _ | refine blk_drew ?_ | refine blk_alloc ?_ _)); exact BK277.out⟩, ⟨by repeat (first | (with_reducible first | exact HI279.out | apply IsS72.alloc | apply IsS72.drewN | apply IsS72.drew | apply IsS72.set_1 | refine IsS72.far ?_ NB279_275.out _ | refine IsS72.far ?_ NB279_276.out _ | refine IsS72.far ?_ NB279_277.out _) | exact HI279.out)⟩, ⟨by repeat (first | (with_reducible first | exact HB.out | apply below_alloc | apply pw_below_drewN | apply below_drew1 | refine below_set ?_ (IsS72.ge HI279.out) | refine below_set ?_ GE275.out | refine below_set ?_ GE276.out | refine below_set ?_ GE277.out) | exact HB.out)⟩⟩
              ·rw [if_neg c79] at H
               exact absurd H (by simp)
          ·replace c58 := Bool.eq_false_iff.mpr c58
           subst c58
           have H1 : (some ((wrap64 (2 + (Int.tmod (wrap64 (a0_0)) 5))), (wrap64 ((x278002_1.length : Int) + (Int.tmod (wrap64 (a0_2)) 7))), x278002_1, x278003_2)) = some (r1, r2, r3, r4) := by rw [if_neg (show ¬ (false = true) by decide)] at H; exact H
           clear H
           have H := H1
           clear H1
           simp only [Option.some.injEq, Prod.mk.injEq] at H
           obtain ⟨rfl, rfl, rfl, rfl⟩ := H
           have hnb88 := NB277_275.out
           have hnc88 := NB275_277.out
           have hnb89 := NB277_276.out
           have hnc89 := NB276_277.out
           have hnb90 := NB277_279.out
           have hnc90 := NB279_277.out
           have hcz91_0 := BK277.cl 0 (.int .i64 (wrap64 (2 + (Int.tmod (wrap64 (a0_0)) 5))))
           have hcz91_1 := BK277.cl 1 (.int .i64 (wrap64 ((x278002_1.length : Int) + (Int.tmod (wrap64 (a0_2)) 7))))
           have hcz91_2 := BK277.cl 2 (.slice Ao52 x278002_1.length co52)
           have hcz91_3 := BK277.cl 3 (u278003)
           have hfz91_0 := BK277.fz 0
           have hfz91_1 := BK277.fz 1
           have hfz91_2 := BK277.fz 2
           have hfz91_3 := BK277.fz 3
           have hnb92 := NB276_275.out
           have hnc92 := NB275_276.out
           have hnb93 := NB276_279.out
           have hnc93 := NB279_276.out
           have hcz94_0 := BK276.cl 0 (.int .i64 0)
           have hcz94_1 := BK276.cl 1 (.int .i64 0)
           have hcz94_2 := BK276.cl 2 (.slice none 0 0)
           have hcz94_3 := BK276.cl 3 (.slice none 0 0)
           have hfz94_0 := BK276.fz 0
           have hfz94_1 := BK276.fz 1
           have hfz94_2 := BK276.fz 2
           have hfz94_3 := BK276.fz 3
           obtain ⟨Ao95, co95, eo95⟩ := Kd.S_slice HO_278003.out
           subst eo95
           go_wp2
           refine bodyPost_ret (results_cell_row rfl _ _ gb276 32 #[.int .i64 (wrap64 (2 + (Int.tmod (wrap64 (a0_0)) 5))), .int .i64 (wrap64 ((x278002_1.length : Int) + (Int.tmod (wrap64 (a0_2)) 7))), .slice Ao52 x278002_1.length co52, .slice Ao95 x278003_2.length co95] (0, 0) _ rfl (by (with_reducible repeat (first | refine blk_drewN ?_ _ | refine blk_drew ?_ | refine blk_alloc ?_ _)); refine blk_put (cs := #[.int .i64 (wrap64 (2 + (Int.tmod (wrap64 (a0_0)) 5))), .int .i64 (wrap64 ((x278002_1.length : Int) + (Int.tmod (wrap64 (a0_2)) 7))), .slice Ao52 x278002_1.length co52, .slice none 0 0]) ?_ 3 _ rfl; (with_reducible repeat (first | refine blk_drewN ?_ _ | refine blk_drew ?_ | refine blk_alloc ?_ _)); refine blk_put (cs := #[.int .i64 (wrap64 (2 + (Int.tmod (wrap64 (a0_0)) 5))), .int .i64 (wrap64 ((x278002_1.length : Int) + (Int.tmod (wrap64 (a0_2)) 7))), .slice none 0 0, .slice none 0 0]) ?_ 2 _ rfl; (with_reducible repeat (first | refine blk_drewN ?_ _ | refine blk_drew ?_ | refine blk_alloc ?_ _)); refine blk_put (cs := #[.int .i64 (wrap64 (2 + (Int.tmod (wrap64 (a0_0)) 5))), .int .i64 0, .slice none 0 0, .slice none 0 0]) ?_ 1 _ rfl; (with_reducible repeat (first | refine blk_drewN ?_ _ | refine blk_drew ?_ | refine blk_alloc ?_ _)); refine blk_put (cs := #[.int .i64 0, .int .i64 0, .slice none 0 0, .slice none 0 0]) ?_ 0 _ rfl; (with_reducible repeat (first | refine blk_drewN ?_ _ | refine blk_drew ?_ | refine blk_alloc ?_ _)); exact BK276.out) Try.underlying32 rfl (by kernel_rfl)) rfl ?_
           exact ⟨_, _, by first | rfl | (simp [errW_none, errW_some] <;> rfl) | (simp only [← hji2]; first | rfl | (simp [errW_none, errW_some] <;> rfl)) | (simp [*, errW_none, errW_some] <;> rfl), by (with_reducible repeat (first | apply Kd.R_alloc | apply Kd.R_drewN | apply Kd.R_drew)); exact Kd.R_mono (Kd.R_far (p := ⟨gb276, 3, none⟩) (Kd.R_far (p := ⟨gb276, 2, none⟩) (Kd.R_far (p := ⟨gb276, 1, none⟩) (Kd.R_far (p := ⟨gb276, 0, none⟩) (Kd.R_types HO_278002.out BK276.out (by decide)) (fun _ hk => hk.2) (.int .i64 (wrap64 (2 + (Int.tmod (wrap64 (a0_0)) 5))))) (fun _ hk => hk.2) (.int .i64 (wrap64 ((x278002_1.length : Int) + (Int.tmod (wrap64 (a0_2)) 7))))) (fun _ hk => hk.2) (.slice Ao52 x278002_1.length co52)) (fun _ hk => hk.2) (.slice Ao95 x278003_2.length co95)) (fun _ hk => trivial), by (with_reducible repeat (first | apply Kd.S_alloc | apply Kd.S_drewN | apply Kd.S_drew)); exact Kd.S_mono (Kd.S_far (p := ⟨gb276, 3, none⟩) (Kd.S_far (p := ⟨gb276, 2, none⟩) (Kd.S_far (p := ⟨gb276, 1, none⟩) (Kd.S_far (p := ⟨gb276, 0, none⟩) (Kd.S_types HO_278003.out BK276.out (by decide)) (fun _ hk => hk.2) (.int .i64 (wrap64 (2 + (Int.tmod (wrap64 (a0_0)) 5))))) (fun _ hk => hk.2) (.int .i64 (wrap64 ((x278002_1.length : Int) + (Int.tmod (wrap64 (a0_2)) 7))))) (fun _ hk => hk.2) (.slice Ao52 x278002_1.length co52)) (fun _ hk => hk.2) (.slice Ao95 x278003_2.length co95)) (fun _ hk => trivial), by repeat (first | (with_reducible first | exact HB.out | apply below_alloc | apply pw_below_drewN | apply below_drew1 | refine below_set ?_ (IsS72.ge HI279.out) | refine below_set ?_ GE275.out | refine below_set ?_ GE276.out | refine below_set ?_ GE277.out) | exact HB.out)⟩
  ·rw [if_neg c4] at H
   exact absurd H (by simp)
 ·rw [if_neg c3] at H
  exact absurd H (by simp)

end Go.Proofs.Ytppbnjmhkifdaaa.X
