-- Written by this session's own program (wip/tools/xprint.py).
import Derived.Test.YtpaoepcebcjfhaaDoorX0
import Derived.Test.YtpaoepcebcjfhaaDoorXA
namespace Go.Proofs.YtpaoepcebcjfhaaDoor.X
open Go.RowKit Go.Proofs.YtpaoepcebcjfhaaDoorW.PrintWords Go.Proofs.YtpaoepcebcjfhaaDoorW.PrintLast Go.Proofs.YtpaoepcebcjfhaaDoorW.PrintMore
attribute [local go_sem] max2_int min2_int max_two min_two max_three min_three max_four min_four   -- for this text's walks alone
set_option linter.unusedVariables false
set_option linter.unusedSimpArgs false

/-! ### interleaveref31_Satisfies: function 29 -/
mutual
def interleaveref31_Satisfies.j0 : Nat → Bool → Int → Int → List (S36) → List (List Int) → List Bool → List Int → Option (Bool)
  | 0, _, _, _, _, _, _, _ => none
  | k + 1, x22, x181000, x181001, x181002, x181003, x182000, x182001 => if x22 = true then (some false) else (interleaveref31_Satisfies.l0 k x181002 (x181002.length : Int) 0 x181000 x181001 x181002 x181003 x182000 x182001)
def interleaveref31_Satisfies.l0 : Nat → List (S36) → Int → Int → Int → Int → List (S36) → List (List Int) → List Bool → List Int → Option (Bool)
  | 0, _, _, _, _, _, _, _, _, _ => none
  | k + 1, x24, x25, x26, x181000, x181001, x181002, x181003, x182000, x182001 => if x26 < x25 then (if 0 ≤ x26 then (if x26 < (x24.length : Int) then (if x26 < (x182000.length : Int) then (if 0 ≤ ((rd_T36 x24 x26).f0) then (if ((rd_T36 x24 x26).f0) < (x182001.length : Int) then (if 0 ≤ ((rd_T36 x24 x26).f1) then (if ((rd_T36 x24 x26).f1) < (x182001.length : Int) then (if ((rdOf false x182000 x26) != (decide ((wrap64 ((rd x182001 ((rd_T36 x24 x26).f0)) - (rd x182001 ((rd_T36 x24 x26).f1)))) ≤ ((rd_T36 x24 x26).f2)))) = true then (some false) else (interleaveref31_Satisfies.l0 k x24 x25 (wrap64 (x26 + 1)) x181000 x181001 x181002 x181003 x182000 x182001)) else (none)) else (none)) else (none)) else (none)) else (none)) else (none)) else (none)) else (interleaveref31_Satisfies.l1 k x181003 (x181003.length : Int) 0 x182000 x182001)
def interleaveref31_Satisfies.l1 : Nat → List (List Int) → Int → Int → List Bool → List Int → Option (Bool)
  | 0, _, _, _, _, _ => none
  | k + 1, x55, x56, x57, x182000, x182001 => if x57 < x56 then (if 0 ≤ x57 then (if x57 < (x55.length : Int) then ((interleaveref31_Any.f k (rd_L2 x55 x57) x182000 x182001).bind fun t188 => (if t188 = true then (interleaveref31_Satisfies.l1 k x55 x56 (wrap64 (x57 + 1)) x182000 x182001) else (some false))) else (none)) else (none)) else (some true)
end
def interleaveref31_Satisfies.f (k : Nat) (a0_0 : Int) (a0_1 : Int) (l0_2 : List (S36)) (l0_3 : List (List Int)) (l1_0 : List Bool) (l1_1 : List Int) : Option (Bool) := if (l1_0.length : Int) = a0_1 then (interleaveref31_Satisfies.j0 k ((l1_1.length : Int) != a0_0) a0_0 a0_1 l0_2 l0_3 l1_0 l1_1) else (interleaveref31_Satisfies.j0 k true a0_0 a0_1 l0_2 l0_3 l1_0 l1_1)
theorem interleaveref31_Satisfies.mono_l : ∀ k, (∀ y0 y1 y2 y3 y4 y5 y6, LeO (interleaveref31_Satisfies.j0 k y0 y1 y2 y3 y4 y5 y6) (interleaveref31_Satisfies.j0 (k + 1) y0 y1 y2 y3 y4 y5 y6)) ∧ (∀ y0 y1 y2 y3 y4 y5 y6 y7 y8, LeO (interleaveref31_Satisfies.l0 k y0 y1 y2 y3 y4 y5 y6 y7 y8) (interleaveref31_Satisfies.l0 (k + 1) y0 y1 y2 y3 y4 y5 y6 y7 y8)) ∧ (∀ y0 y1 y2 y3 y4, LeO (interleaveref31_Satisfies.l1 k y0 y1 y2 y3 y4) (interleaveref31_Satisfies.l1 (k + 1) y0 y1 y2 y3 y4))
  | 0 => ⟨fun _ _ _ _ _ _ _ r h => by simp [interleaveref31_Satisfies.j0] at h, fun _ _ _ _ _ _ _ _ _ r h => by simp [interleaveref31_Satisfies.l0] at h, fun _ _ _ _ _ r h => by simp [interleaveref31_Satisfies.l1] at h⟩
  | k + 1 => by
    obtain ⟨ih0, ih1, ih2⟩ := interleaveref31_Satisfies.mono_l k
    refine ⟨?_, ?_, ?_⟩
    · intro y0 y1 y2 y3 y4 y5 y6
      unfold interleaveref31_Satisfies.j0
      repeat' first
      | (with_reducible exact ih0 _ _ _ _ _ _ _)
      | (with_reducible exact ih1 _ _ _ _ _ _ _ _ _)
      | (with_reducible exact ih2 _ _ _ _ _)
      | (with_reducible exact interleaveref31_Any.mono _ _ _ _)
      | (with_reducible exact LeO.refl _)
      | (with_reducible exact LeO.none _)
      | (with_reducible refine LeO.ite ?_ ?_)
      | (with_reducible refine LeO.bind ?_ (fun _ => ?_))
      | exact ih0 _ _ _ _ _ _ _
      | exact ih1 _ _ _ _ _ _ _ _ _
      | exact ih2 _ _ _ _ _
      | exact interleaveref31_Any.mono _ _ _ _
      | exact LeO.none _
      | refine LeO.ite ?_ ?_
      | refine LeO.bind ?_ (fun _ => ?_)
    · intro y0 y1 y2 y3 y4 y5 y6 y7 y8
      unfold interleaveref31_Satisfies.l0
      repeat' first
      | (with_reducible exact ih0 _ _ _ _ _ _ _)
      | (with_reducible exact ih1 _ _ _ _ _ _ _ _ _)
      | (with_reducible exact ih2 _ _ _ _ _)
      | (with_reducible exact interleaveref31_Any.mono _ _ _ _)
      | (with_reducible exact LeO.refl _)
      | (with_reducible exact LeO.none _)
      | (with_reducible refine LeO.ite ?_ ?_)
      | (with_reducible refine LeO.bind ?_ (fun _ => ?_))
      | exact ih0 _ _ _ _ _ _ _
      | exact ih1 _ _ _ _ _ _ _ _ _
      | exact ih2 _ _ _ _ _
      | exact interleaveref31_Any.mono _ _ _ _
      | exact LeO.none _
      | refine LeO.ite ?_ ?_
      | refine LeO.bind ?_ (fun _ => ?_)
    · intro y0 y1 y2 y3 y4
      unfold interleaveref31_Satisfies.l1
      repeat' first
      | (with_reducible exact ih0 _ _ _ _ _ _ _)
      | (with_reducible exact ih1 _ _ _ _ _ _ _ _ _)
      | (with_reducible exact ih2 _ _ _ _ _)
      | (with_reducible exact interleaveref31_Any.mono _ _ _ _)
      | (with_reducible exact LeO.refl _)
      | (with_reducible exact LeO.none _)
      | (with_reducible refine LeO.ite ?_ ?_)
      | (with_reducible refine LeO.bind ?_ (fun _ => ?_))
      | exact ih0 _ _ _ _ _ _ _
      | exact ih1 _ _ _ _ _ _ _ _ _
      | exact ih2 _ _ _ _ _
      | exact interleaveref31_Any.mono _ _ _ _
      | exact LeO.none _
      | refine LeO.ite ?_ ?_
      | refine LeO.bind ?_ (fun _ => ?_)
theorem interleaveref31_Satisfies.mono : ∀ a0 a1 a2 a3 a4 a5 k, LeO (interleaveref31_Satisfies.f k a0 a1 a2 a3 a4 a5) (interleaveref31_Satisfies.f (k + 1) a0 a1 a2 a3 a4 a5) := by
  intro a0 a1 a2 a3 a4 a5 k
  obtain ⟨ih0, ih1, ih2⟩ := interleaveref31_Satisfies.mono_l k
  unfold interleaveref31_Satisfies.f
  repeat' first
      | (with_reducible exact ih0 _ _ _ _ _ _ _)
      | (with_reducible exact ih1 _ _ _ _ _ _ _ _ _)
      | (with_reducible exact ih2 _ _ _ _ _)
      | (with_reducible exact interleaveref31_Any.mono _ _ _ _)
      | (with_reducible exact LeO.refl _)
      | (with_reducible exact LeO.none _)
      | (with_reducible refine LeO.ite ?_ ?_)
      | (with_reducible refine LeO.bind ?_ (fun _ => ?_))
      | exact ih0 _ _ _ _ _ _ _
      | exact ih1 _ _ _ _ _ _ _ _ _
      | exact ih2 _ _ _ _ _
      | exact interleaveref31_Any.mono _ _ _ _
      | exact LeO.none _
      | refine LeO.ite ?_ ?_
      | refine LeO.bind ?_ (fun _ => ?_)
set_option maxHeartbeats 8000000 in
set_option maxRecDepth 100000 in
theorem interleaveref31_Satisfies.calls (k : Nat) (a0_0 : Int) (a0_1 : Int) (A0_2 : Option Addr) (c0_2 : Nat) (l0_2 : List (S36)) (A0_3 : Option Addr) (c0_3 : Nat) (l0_3 : List (List Int)) (A1_0 : Option Addr) (c1_0 : Nat) (l1_0 : List Bool) (A1_1 : Option Addr) (c1_1 : Nat) (l1_1 : List Int) (r : Bool) (w : World) (hr0_2 : Kd.C k36 w A0_2 l0_2.length l0_2) (hc0_2 : l0_2.length ≤ c0_2) (hr0_3 : Kd.C (Kd.slice 3 (Kd.int .i64)) w A0_3 l0_3.length l0_3) (hc0_3 : l0_3.length ≤ c0_3) (hr1_0 : Kd.C Kd.bool w A1_0 l1_0.length l1_0) (hc1_0 : l1_0.length ≤ c1_0) (hr1_1 : Kd.C (Kd.int .i64) w A1_1 l1_1.length l1_1) (hc1_1 : l1_1.length ≤ c1_1) (h : interleaveref31_Satisfies.f k a0_0 a0_1 l0_2 l0_3 l1_0 l1_1 = some r) :
    Calls Tryd.prog 29 #[.agg #[.int .i64 a0_0, .int .i64 a0_1, .slice A0_2 l0_2.length c0_2, .slice A0_3 l0_3.length c0_3], .agg #[.slice A1_0 l1_0.length c1_0, .slice A1_1 l1_1.length c1_1]] w fun e w' => e = .returned (.bool r) ∧ Below w.heap.size w w' := by
  have hu31 := Tryd.underlying31
  have hu44 := Tryd.underlying44
  have hu36 := Tryd.underlying36
  have HR0_2 := Aside0.mk hr0_2
  have HC0_2 := Aside0.mk hc0_2
  clear hr0_2 hc0_2
  have HR0_3 := Aside0.mk hr0_3
  have HC0_3 := Aside0.mk hc0_3
  clear hr0_3 hc0_3
  have HR1_0 := Aside0.mk hr1_0
  have HC1_0 := Aside0.mk hc1_0
  clear hr1_0 hc1_0
  have HR1_1 := Aside0.mk hr1_1
  have HC1_1 := Aside0.mk hc1_1
  clear hr1_1 hc1_1
  have HB := Aside0.mk (Below.refl w.heap.size w)
  have H : (if (l1_0.length : Int) = a0_1 then (interleaveref31_Satisfies.j0 k ((l1_1.length : Int) != a0_0) a0_0 a0_1 l0_2 l0_3 l1_0 l1_1) else (interleaveref31_Satisfies.j0 k true a0_0 a0_1 l0_2 l0_3 l1_0 l1_1)) = some r := h
  clear h
  have HC3 := Aside0.mk H
  clear H
  go_enter Tryd.func29, Tryd.ntmps29
  go_upto_region 1 with (first | ((with_reducible refine gate_dst (N := 2) rfl ?_); (try (refine gate_guard (by rfl) ?_; dsimp only)); refine box_event ?hg (N := 2) ?hd (cs := #[.int .i64 a0_0, .int .i64 a0_1, .slice A0_2 l0_2.length c0_2, .slice A0_3 l0_3.length c0_3]) (t := 31) ?hr ?_; (case hd => rfl); (case hg => rfl); (case hr => first | (go_simp; done) | (go_simp; rfl)); intro gb180 hg w4 hbox hb; have n0_ := Aside0.mk (below_step (by repeat (first | (with_reducible first | exact HB.out | apply below_alloc | apply pw_below_drewN | apply below_drew1) | exact HB.out)) hb); have n1_ := Aside0.mk (hbox); have n2_ := Aside0.mk ((by rw [hg]; exact (below_size (by repeat (first | (with_reducible first | exact HB.out | apply below_alloc | apply pw_below_drewN | apply below_drew1) | exact HB.out))) : w.heap.size ≤ gb180)); have n3_ := Aside0.mk ((by rw [hg]; exact (below_size (by repeat (first | (with_reducible first | exact HB.out | apply below_alloc | apply pw_below_drewN | apply below_drew1) | exact HB.out))) : w.heap.size ≤ gb180)); clear HB; have HB := n0_; have BK180 := n1_; have GW180 := n2_; have GE180 := n3_; clear n0_ n1_ n2_ n3_; clear hb hbox hg) | ((with_reducible refine gate_dst (N := 3) rfl ?_); (try (refine gate_guard (by rfl) ?_; dsimp only)); refine box_event ?hg (N := 3) ?hd (cs := #[.slice A1_0 l1_0.length c1_0, .slice A1_1 l1_1.length c1_1]) (t := 44) ?hr ?_; (case hd => rfl); (case hg => rfl); (case hr => first | (go_simp; done) | (go_simp; rfl)); intro gb181 hg w5 hbox hb; have n0_ := Aside0.mk (blk_below (g := gb180) (o := .cells #[.int .i64 a0_0, .int .i64 a0_1, .slice A0_2 l0_2.length c0_2, .slice A0_3 l0_3.length c0_3] 31 (0, 0)) (by (with_reducible repeat (first | refine blk_drewN ?_ _ | refine blk_drew ?_ | refine blk_alloc ?_ _)); exact BK180.out) hb); have n1_ := Aside0.mk (below_step (by repeat (first | (with_reducible first | exact HB.out | apply below_alloc | apply pw_below_drewN | apply below_drew1 | refine below_set ?_ GE180.out) | exact HB.out)) hb); have n2_ := Aside0.mk (hbox); have n3_ := Aside0.mk ((by rw [hg]; exact (below_size (by repeat (first | (with_reducible first | exact HB.out | apply below_alloc | apply pw_below_drewN | apply below_drew1 | refine below_set ?_ GE180.out) | exact HB.out))) : w.heap.size ≤ gb181)); have n4_ := Aside0.mk ((by rw [hg]; exact (below_size (by repeat (first | (with_reducible first | exact HB.out | apply below_alloc | apply pw_below_drewN | apply below_drew1 | refine below_set ?_ GE180.out) | exact HB.out))) : w.heap.size ≤ gb181)); have n5_ := Aside0.mk ((by rw [hg]; exact Nat.ne_of_lt (blk_lt (g := gb180) (o := .cells #[.int .i64 a0_0, .int .i64 a0_1, .slice A0_2 l0_2.length c0_2, .slice A0_3 l0_3.length c0_3] 31 (0, 0)) (by (with_reducible repeat (first | refine blk_drewN ?_ _ | refine blk_drew ?_ | refine blk_alloc ?_ _)); exact BK180.out)) : gb180 ≠ gb181)); have n6_ := Aside0.mk ((by rw [hg]; exact Nat.ne_of_gt (blk_lt (g := gb180) (o := .cells #[.int .i64 a0_0, .int .i64 a0_1, .slice A0_2 l0_2.length c0_2, .slice A0_3 l0_3.length c0_3] 31 (0, 0)) (by (with_reducible repeat (first | refine blk_drewN ?_ _ | refine blk_drew ?_ | refine blk_alloc ?_ _)); exact BK180.out)) : gb181 ≠ gb180)); clear BK180; clear HB; have BK180 := n0_; have HB := n1_; have BK181 := n2_; have GW181 := n3_; have GE181 := n4_; have NB180_181 := n5_; have NB181_180 := n6_; clear n0_ n1_ n2_ n3_ n4_ n5_ n6_; clear hb hbox hg))
  repeat (go_quiet (first | ((with_reducible refine gate_dst (N := 2) rfl ?_); (try (refine gate_guard (by rfl) ?_; dsimp only)); refine box_event ?hg (N := 2) ?hd (cs := #[.int .i64 a0_0, .int .i64 a0_1, .slice A0_2 l0_2.length c0_2, .slice A0_3 l0_3.length c0_3]) (t := 31) ?hr ?_; (case hd => rfl); (case hg => rfl); (case hr => first | (go_simp; done) | (go_simp; rfl)); intro gb180 hg w4 hbox hb; have n0_ := Aside0.mk (below_step (by repeat (first | (with_reducible first | exact HB.out | apply below_alloc | apply pw_below_drewN | apply below_drew1) | exact HB.out)) hb); have n1_ := Aside0.mk (hbox); have n2_ := Aside0.mk ((by rw [hg]; exact (below_size (by repeat (first | (with_reducible first | exact HB.out | apply below_alloc | apply pw_below_drewN | apply below_drew1) | exact HB.out))) : w.heap.size ≤ gb180)); have n3_ := Aside0.mk ((by rw [hg]; exact (below_size (by repeat (first | (with_reducible first | exact HB.out | apply below_alloc | apply pw_below_drewN | apply below_drew1) | exact HB.out))) : w.heap.size ≤ gb180)); clear HB; have HB := n0_; have BK180 := n1_; have GW180 := n2_; have GE180 := n3_; clear n0_ n1_ n2_ n3_; clear hb hbox hg) | ((with_reducible refine gate_dst (N := 3) rfl ?_); (try (refine gate_guard (by rfl) ?_; dsimp only)); refine box_event ?hg (N := 3) ?hd (cs := #[.slice A1_0 l1_0.length c1_0, .slice A1_1 l1_1.length c1_1]) (t := 44) ?hr ?_; (case hd => rfl); (case hg => rfl); (case hr => first | (go_simp; done) | (go_simp; rfl)); intro gb181 hg w5 hbox hb; have n0_ := Aside0.mk (blk_below (g := gb180) (o := .cells #[.int .i64 a0_0, .int .i64 a0_1, .slice A0_2 l0_2.length c0_2, .slice A0_3 l0_3.length c0_3] 31 (0, 0)) (by (with_reducible repeat (first | refine blk_drewN ?_ _ | refine blk_drew ?_ | refine blk_alloc ?_ _)); exact BK180.out) hb); have n1_ := Aside0.mk (below_step (by repeat (first | (with_reducible first | exact HB.out | apply below_alloc | apply pw_below_drewN | apply below_drew1 | refine below_set ?_ GE180.out) | exact HB.out)) hb); have n2_ := Aside0.mk (hbox); have n3_ := Aside0.mk ((by rw [hg]; exact (below_size (by repeat (first | (with_reducible first | exact HB.out | apply below_alloc | apply pw_below_drewN | apply below_drew1 | refine below_set ?_ GE180.out) | exact HB.out))) : w.heap.size ≤ gb181)); have n4_ := Aside0.mk ((by rw [hg]; exact (below_size (by repeat (first | (with_reducible first | exact HB.out | apply below_alloc | apply pw_below_drewN | apply below_drew1 | refine below_set ?_ GE180.out) | exact HB.out))) : w.heap.size ≤ gb181)); have n5_ := Aside0.mk ((by rw [hg]; exact Nat.ne_of_lt (blk_lt (g := gb180) (o := .cells #[.int .i64 a0_0, .int .i64 a0_1, .slice A0_2 l0_2.length c0_2, .slice A0_3 l0_3.length c0_3] 31 (0, 0)) (by (with_reducible repeat (first | refine blk_drewN ?_ _ | refine blk_drew ?_ | refine blk_alloc ?_ _)); exact BK180.out)) : gb180 ≠ gb181)); have n6_ := Aside0.mk ((by rw [hg]; exact Nat.ne_of_gt (blk_lt (g := gb180) (o := .cells #[.int .i64 a0_0, .int .i64 a0_1, .slice A0_2 l0_2.length c0_2, .slice A0_3 l0_3.length c0_3] 31 (0, 0)) (by (with_reducible repeat (first | refine blk_drewN ?_ _ | refine blk_drew ?_ | refine blk_alloc ?_ _)); exact BK180.out)) : gb181 ≠ gb180)); clear BK180; clear HB; have BK180 := n0_; have HB := n1_; have BK181 := n2_; have GW181 := n3_; have GE181 := n4_; have NB180_181 := n5_; have NB181_180 := n6_; clear n0_ n1_ n2_ n3_ n4_ n5_ n6_; clear hb hbox hg)); go_upto_region 1 with (first | ((with_reducible refine gate_dst (N := 2) rfl ?_); (try (refine gate_guard (by rfl) ?_; dsimp only)); refine box_event ?hg (N := 2) ?hd (cs := #[.int .i64 a0_0, .int .i64 a0_1, .slice A0_2 l0_2.length c0_2, .slice A0_3 l0_3.length c0_3]) (t := 31) ?hr ?_; (case hd => rfl); (case hg => rfl); (case hr => first | (go_simp; done) | (go_simp; rfl)); intro gb180 hg w4 hbox hb; have n0_ := Aside0.mk (below_step (by repeat (first | (with_reducible first | exact HB.out | apply below_alloc | apply pw_below_drewN | apply below_drew1) | exact HB.out)) hb); have n1_ := Aside0.mk (hbox); have n2_ := Aside0.mk ((by rw [hg]; exact (below_size (by repeat (first | (with_reducible first | exact HB.out | apply below_alloc | apply pw_below_drewN | apply below_drew1) | exact HB.out))) : w.heap.size ≤ gb180)); have n3_ := Aside0.mk ((by rw [hg]; exact (below_size (by repeat (first | (with_reducible first | exact HB.out | apply below_alloc | apply pw_below_drewN | apply below_drew1) | exact HB.out))) : w.heap.size ≤ gb180)); clear HB; have HB := n0_; have BK180 := n1_; have GW180 := n2_; have GE180 := n3_; clear n0_ n1_ n2_ n3_; clear hb hbox hg) | ((with_reducible refine gate_dst (N := 3) rfl ?_); (try (refine gate_guard (by rfl) ?_; dsimp only)); refine box_event ?hg (N := 3) ?hd (cs := #[.slice A1_0 l1_0.length c1_0, .slice A1_1 l1_1.length c1_1]) (t := 44) ?hr ?_; (case hd => rfl); (case hg => rfl); (case hr => first | (go_simp; done) | (go_simp; rfl)); intro gb181 hg w5 hbox hb; have n0_ := Aside0.mk (blk_below (g := gb180) (o := .cells #[.int .i64 a0_0, .int .i64 a0_1, .slice A0_2 l0_2.length c0_2, .slice A0_3 l0_3.length c0_3] 31 (0, 0)) (by (with_reducible repeat (first | refine blk_drewN ?_ _ | refine blk_drew ?_ | refine blk_alloc ?_ _)); exact BK180.out) hb); have n1_ := Aside0.mk (below_step (by repeat (first | (with_reducible first | exact HB.out | apply below_alloc | apply pw_below_drewN | apply below_drew1 | refine below_set ?_ GE180.out) | exact HB.out)) hb); have n2_ := Aside0.mk (hbox); have n3_ := Aside0.mk ((by rw [hg]; exact (below_size (by repeat (first | (with_reducible first | exact HB.out | apply below_alloc | apply pw_below_drewN | apply below_drew1 | refine below_set ?_ GE180.out) | exact HB.out))) : w.heap.size ≤ gb181)); have n4_ := Aside0.mk ((by rw [hg]; exact (below_size (by repeat (first | (with_reducible first | exact HB.out | apply below_alloc | apply pw_below_drewN | apply below_drew1 | refine below_set ?_ GE180.out) | exact HB.out))) : w.heap.size ≤ gb181)); have n5_ := Aside0.mk ((by rw [hg]; exact Nat.ne_of_lt (blk_lt (g := gb180) (o := .cells #[.int .i64 a0_0, .int .i64 a0_1, .slice A0_2 l0_2.length c0_2, .slice A0_3 l0_3.length c0_3] 31 (0, 0)) (by (with_reducible repeat (first | refine blk_drewN ?_ _ | refine blk_drew ?_ | refine blk_alloc ?_ _)); exact BK180.out)) : gb180 ≠ gb181)); have n6_ := Aside0.mk ((by rw [hg]; exact Nat.ne_of_gt (blk_lt (g := gb180) (o := .cells #[.int .i64 a0_0, .int .i64 a0_1, .slice A0_2 l0_2.length c0_2, .slice A0_3 l0_3.length c0_3] 31 (0, 0)) (by (with_reducible repeat (first | refine blk_drewN ?_ _ | refine blk_drew ?_ | refine blk_alloc ?_ _)); exact BK180.out)) : gb181 ≠ gb180)); clear BK180; clear HB; have BK180 := n0_; have HB := n1_; have BK181 := n2_; have GW181 := n3_; have GE181 := n4_; have NB180_181 := n5_; have NB181_180 := n6_; clear n0_ n1_ n2_ n3_ n4_ n5_ n6_; clear hb hbox hg)))
  (try simp only [Act.put, List.setIfInBounds_toArray, List.set_cons_zero, List.set_cons_succ])
  go_cut [22] (fun v22 wc => ∃ (kq : Nat) (x22_2 : Bool), v22 = .bool x22_2 ∧ Aside0 (interleaveref31_Satisfies.j0 kq x22_2 a0_0 a0_1 l0_2 l0_3 l1_0 l1_1 = some r) ∧ Aside0 (kq ≤ k) ∧ Aside0 (wc.heap[gb180]? = some (.cells #[.int .i64 a0_0, .int .i64 a0_1, (.slice A0_2 l0_2.length c0_2), (.slice A0_3 l0_3.length c0_3)] 31 (0, 0))) ∧ Aside0 (wc.heap[gb181]? = some (.cells #[(.slice A1_0 l1_0.length c1_0), (.slice A1_1 l1_1.length c1_1)] 44 (0, 0))) ∧ Aside0 (Below w.heap.size w wc))
  case first => as_aux_lemma =>
    have H := HC3.out
    clear HC3
    by_cases c6 : (l1_0.length : Int) = a0_1
    · rw [if_pos c6] at H
      have c6b0 : ((l1_0.length : Int) == a0_1) = true := beq_iff_eq.mpr c6
      have c6b1 : ((l1_0.length : Int) != a0_1) = false := bne_eq_false_iff_eq.mpr c6
      clear c6
      (first | rw [c6b0] | (simp only [i64_w, i32_w]; rw [c6b0]) | skip)
      have H' := Aside0.mk H
      clear H
      have hnb7 := NB181_180.out
      have hnc7 := NB180_181.out
      have hcz8_0 : w5.cell? ⟨gb181, 0, none⟩ = some (.slice A1_0 l1_0.length c1_0) := (blk_cell BK181.out 0).trans rfl
      have hcz8_1 : w5.cell? ⟨gb181, 1, none⟩ = some (.slice A1_1 l1_1.length c1_1) := (blk_cell BK181.out 1).trans rfl
      have hfz8_0 := blk_frozen BK181.out 0
      have hfz8_1 := blk_frozen BK181.out 1
      have hcz9_0 : w5.cell? ⟨gb180, 0, none⟩ = some (.int .i64 a0_0) := (blk_cell BK180.out 0).trans rfl
      have hcz9_1 : w5.cell? ⟨gb180, 1, none⟩ = some (.int .i64 a0_1) := (blk_cell BK180.out 1).trans rfl
      have hcz9_2 : w5.cell? ⟨gb180, 2, none⟩ = some (.slice A0_2 l0_2.length c0_2) := (blk_cell BK180.out 2).trans rfl
      have hcz9_3 : w5.cell? ⟨gb180, 3, none⟩ = some (.slice A0_3 l0_3.length c0_3) := (blk_cell BK180.out 3).trans rfl
      have hfz9_0 := blk_frozen BK180.out 0
      have hfz9_1 := blk_frozen BK180.out 1
      have hfz9_2 := blk_frozen BK180.out 2
      have hfz9_3 := blk_frozen BK180.out 3
      go_wp2
      repeat (go_quiet (fail); try go_wp2)
      go_meet
      case rel => exact ⟨_, (((l1_1.length : Int) != a0_0)), (by first | rfl | (simp; done) | (simp [*]; done)), H', ⟨by first | omega | exact Nat.le_refl _⟩, ⟨by (with_reducible repeat (first | refine blk_drewN ?_ _ | refine blk_drew ?_ | refine blk_alloc ?_ _)); exact BK180.out⟩, ⟨by (with_reducible repeat (first | refine blk_drewN ?_ _ | refine blk_drew ?_ | refine blk_alloc ?_ _)); exact BK181.out⟩, ⟨by repeat (first | (with_reducible first | exact HB.out | apply below_alloc | apply pw_below_drewN | apply below_drew1 | refine below_set ?_ GE180.out | refine below_set ?_ GE181.out) | exact HB.out)⟩⟩
    · rw [if_neg c6] at H
      have c6b0 : ((l1_0.length : Int) == a0_1) = false := beq_eq_false_iff_ne.mpr c6
      have c6b1 : ((l1_0.length : Int) != a0_1) = true := bne_iff_ne.mpr c6
      (first | rw [c6b0] | (simp only [i64_w, i32_w]; rw [c6b0]) | skip)
      have H' := Aside0.mk H
      clear H
      have hnb10 := NB181_180.out
      have hnc10 := NB180_181.out
      have hcz11_0 : w5.cell? ⟨gb181, 0, none⟩ = some (.slice A1_0 l1_0.length c1_0) := (blk_cell BK181.out 0).trans rfl
      have hcz11_1 : w5.cell? ⟨gb181, 1, none⟩ = some (.slice A1_1 l1_1.length c1_1) := (blk_cell BK181.out 1).trans rfl
      have hfz11_0 := blk_frozen BK181.out 0
      have hfz11_1 := blk_frozen BK181.out 1
      have hcz12_0 : w5.cell? ⟨gb180, 0, none⟩ = some (.int .i64 a0_0) := (blk_cell BK180.out 0).trans rfl
      have hcz12_1 : w5.cell? ⟨gb180, 1, none⟩ = some (.int .i64 a0_1) := (blk_cell BK180.out 1).trans rfl
      have hcz12_2 : w5.cell? ⟨gb180, 2, none⟩ = some (.slice A0_2 l0_2.length c0_2) := (blk_cell BK180.out 2).trans rfl
      have hcz12_3 : w5.cell? ⟨gb180, 3, none⟩ = some (.slice A0_3 l0_3.length c0_3) := (blk_cell BK180.out 3).trans rfl
      have hfz12_0 := blk_frozen BK180.out 0
      have hfz12_1 := blk_frozen BK180.out 1
      have hfz12_2 := blk_frozen BK180.out 2
      have hfz12_3 := blk_frozen BK180.out 3
      go_wp2
      repeat (go_quiet (fail); try go_wp2)
      go_meet
      case rel => exact ⟨_, (true), (by first | rfl | (simp; done) | (simp [*]; done)), H', ⟨by first | omega | exact Nat.le_refl _⟩, ⟨by (with_reducible repeat (first | refine blk_drewN ?_ _ | refine blk_drew ?_ | refine blk_alloc ?_ _)); exact BK180.out⟩, ⟨by (with_reducible repeat (first | refine blk_drewN ?_ _ | refine blk_drew ?_ | refine blk_alloc ?_ _)); exact BK181.out⟩, ⟨by repeat (first | (with_reducible first | exact HB.out | apply below_alloc | apply pw_below_drewN | apply below_drew1 | refine below_set ?_ GE180.out | refine below_set ?_ GE181.out) | exact HB.out)⟩⟩
  case rest => as_aux_lemma =>
    clear HC3
    try clear c1
    try clear c2
    try clear p2
    try clear c6
    try clear c6b0
    try clear c6b1
    try clear c7
    try clear c10
    try clear hcz11_0
    try clear hcz11_1
    try clear hcz12_0
    try clear hcz12_1
    try clear hcz12_2
    try clear hcz12_3
    try clear hcz8_0
    try clear hcz8_1
    try clear hcz9_0
    try clear hcz9_1
    try clear hcz9_2
    try clear hcz9_3
    try clear hfz11_0
    try clear hfz11_1
    try clear hfz12_0
    try clear hfz12_1
    try clear hfz12_2
    try clear hfz12_3
    try clear hfz8_0
    try clear hfz8_1
    try clear hfz9_0
    try clear hfz9_1
    try clear hfz9_2
    try clear hfz9_3
    obtain ⟨kq, x22_2, rfl, HA, HJ2, BK180, BK181, HB⟩ := hcut
    cases kq with
    | zero => exact absurd HA.out (by simp [interleaveref31_Satisfies.j0])
    | succ kj2 =>
      have H := HA.out
      clear HA
      simp only [interleaveref31_Satisfies.j0] at H
      by_cases c13 : x22_2 = true
      · subst c13
        have H1 : (some false) = some r := by rw [if_pos rfl] at H; exact H
        clear H
        have H := H1
        clear H1
        obtain rfl := Option.some.inj H
        go_wp2
        repeat (go_quiet (fail); try go_wp2)
        go_ret
        exact ⟨by first | rfl | (simp [errW_none, errW_some] <;> rfl) | (simp [*, errW_none, errW_some] <;> rfl), by repeat (first | (with_reducible first | exact HB.out | apply below_alloc | apply pw_below_drewN | apply below_drew1 | refine below_set ?_ GE180.out | refine below_set ?_ GE181.out) | exact HB.out)⟩
      · replace c13 := Bool.eq_false_iff.mpr c13
        subst c13
        have H1 : (interleaveref31_Satisfies.l0 kj2 l0_2 (l0_2.length : Int) 0 a0_0 a0_1 l0_2 l0_3 l1_0 l1_1) = some r := by rw [if_neg (show ¬ (false = true) by decide)] at H; exact H
        clear H
        have H := H1
        clear H1
        have H' := Aside0.mk H
        clear H
        have hnb14 := NB180_181.out
        have hnc14 := NB181_180.out
        have hcz15_0 : wc.cell? ⟨gb180, 0, none⟩ = some (.int .i64 a0_0) := (blk_cell BK180.out 0).trans rfl
        have hcz15_1 : wc.cell? ⟨gb180, 1, none⟩ = some (.int .i64 a0_1) := (blk_cell BK180.out 1).trans rfl
        have hcz15_2 : wc.cell? ⟨gb180, 2, none⟩ = some (.slice A0_2 l0_2.length c0_2) := (blk_cell BK180.out 2).trans rfl
        have hcz15_3 : wc.cell? ⟨gb180, 3, none⟩ = some (.slice A0_3 l0_3.length c0_3) := (blk_cell BK180.out 3).trans rfl
        have hfz15_0 := blk_frozen BK180.out 0
        have hfz15_1 := blk_frozen BK180.out 1
        have hfz15_2 := blk_frozen BK180.out 2
        have hfz15_3 := blk_frozen BK180.out 3
        go_wp2
        repeat (go_quiet (fail); try go_wp2)
        go_loopg [26] kj2 (fun kq v26 w' => ∃ (x26_2 : Int), v26 = .int .i64 x26_2 ∧ Aside0 (interleaveref31_Satisfies.l0 kq l0_2 (l0_2.length : Int) x26_2 a0_0 a0_1 l0_2 l0_3 l1_0 l1_1 = some r) ∧ Aside0 (kq ≤ kj2) ∧ Aside0 (w'.heap[gb180]? = some (.cells #[.int .i64 a0_0, .int .i64 a0_1, (.slice A0_2 l0_2.length c0_2), (.slice A0_3 l0_3.length c0_3)] 31 (0, 0))) ∧ Aside0 (w'.heap[gb181]? = some (.cells #[(.slice A1_0 l1_0.length c1_0), (.slice A1_1 l1_1.length c1_1)] 44 (0, 0))) ∧ Aside0 (Below w.heap.size w w'))
        case atStart => exact ⟨(0), (by first | rfl | (simp; done) | (simp [*]; done)), H', ⟨Nat.le_refl _⟩, ⟨by (with_reducible repeat (first | refine blk_drewN ?_ _ | refine blk_drew ?_ | refine blk_alloc ?_ _)); exact BK180.out⟩, ⟨by (with_reducible repeat (first | refine blk_drewN ?_ _ | refine blk_drew ?_ | refine blk_alloc ?_ _)); exact BK181.out⟩, ⟨by repeat (first | (with_reducible first | exact HB.out | apply below_alloc | apply pw_below_drewN | apply below_drew1 | refine below_set ?_ GE180.out | refine below_set ?_ GE181.out) | exact HB.out)⟩⟩
        case round => as_aux_lemma =>
          clear H'
          try clear c1
          try clear c2
          try clear p2
          try clear c6
          try clear c6b0
          try clear c6b1
          try clear c7
          try clear c10
          try clear c13
          try clear c14
          try clear hcz11_0
          try clear hcz11_1
          try clear hcz12_0
          try clear hcz12_1
          try clear hcz12_2
          try clear hcz12_3
          try clear hcz15_0
          try clear hcz15_1
          try clear hcz15_2
          try clear hcz15_3
          try clear hcz8_0
          try clear hcz8_1
          try clear hcz9_0
          try clear hcz9_1
          try clear hcz9_2
          try clear hcz9_3
          try clear hfz11_0
          try clear hfz11_1
          try clear hfz12_0
          try clear hfz12_1
          try clear hfz12_2
          try clear hfz12_3
          try clear hfz15_0
          try clear hfz15_1
          try clear hfz15_2
          try clear hfz15_3
          try clear hfz8_0
          try clear hfz8_1
          try clear hfz9_0
          try clear hfz9_1
          try clear hfz9_2
          try clear hfz9_3
          try clear p2
          obtain ⟨x26_2, rfl, HA, HK2, BK180, BK181, HB⟩ := hrel
          cases gk with
          | zero => exact absurd HA.out (by simp [interleaveref31_Satisfies.l0])
          | succ k2 =>
            have H := HA.out
            clear HA
            simp only [interleaveref31_Satisfies.l0] at H
            by_cases c16 : x26_2 < (l0_2.length : Int)
            · rw [if_pos c16] at H
              have c16b0 : decide (x26_2 < (l0_2.length : Int)) = true := decide_eq_true c16
              clear c16
              by_cases c17 : 0 ≤ x26_2
              · rw [if_pos c17] at H
                have c17b0 : decide (0 ≤ x26_2) = true := decide_eq_true c17
                clear c17
                by_cases c18 : x26_2 < (l0_2.length : Int)
                · rw [if_pos c18] at H
                  have c18b0 : decide (x26_2 < (l0_2.length : Int)) = true := decide_eq_true c18
                  clear c18
                  by_cases c19 : x26_2 < (l1_0.length : Int)
                  · rw [if_pos c19] at H
                    have c19b0 : decide (x26_2 < (l1_0.length : Int)) = true := decide_eq_true c19
                    clear c19
                    by_cases c20 : 0 ≤ ((rd_T36 l0_2 x26_2).f0)
                    · rw [if_pos c20] at H
                      have c20b0 : decide (0 ≤ ((rd_T36 l0_2 x26_2).f0)) = true := decide_eq_true c20
                      clear c20
                      by_cases c21 : ((rd_T36 l0_2 x26_2).f0) < (l1_1.length : Int)
                      · rw [if_pos c21] at H
                        have c21b0 : decide (((rd_T36 l0_2 x26_2).f0) < (l1_1.length : Int)) = true := decide_eq_true c21
                        clear c21
                        by_cases c22 : 0 ≤ ((rd_T36 l0_2 x26_2).f1)
                        · rw [if_pos c22] at H
                          have c22b0 : decide (0 ≤ ((rd_T36 l0_2 x26_2).f1)) = true := decide_eq_true c22
                          clear c22
                          by_cases c23 : ((rd_T36 l0_2 x26_2).f1) < (l1_1.length : Int)
                          · rw [if_pos c23] at H
                            have c23b0 : decide (((rd_T36 l0_2 x26_2).f1) < (l1_1.length : Int)) = true := decide_eq_true c23
                            clear c23
                            by_cases c24 : ((rdOf false l1_0 x26_2) != (decide ((wrap64 ((rd l1_1 ((rd_T36 l0_2 x26_2).f0)) - (rd l1_1 ((rd_T36 l0_2 x26_2).f1)))) ≤ ((rd_T36 l0_2 x26_2).f2)))) = true
                            · rw [if_pos c24] at H
                              have c24b0 : ((rdOf false l1_0 x26_2) != (decide ((wrap64 ((rd l1_1 ((rd_T36 l0_2 x26_2).f0)) - (rd l1_1 ((rd_T36 l0_2 x26_2).f1)))) ≤ ((rd_T36 l0_2 x26_2).f2)))) = true := c24
                              (try (have c24b1 : decide ((rdOf false l1_0 x26_2) = (decide ((wrap64 ((rd l1_1 ((rd_T36 l0_2 x26_2).f0)) - (rd l1_1 ((rd_T36 l0_2 x26_2).f1)))) ≤ ((rd_T36 l0_2 x26_2).f2)))) = false := by simpa using c24))
                              (try (have c24b2 : ((rdOf false l1_0 x26_2) == (decide ((wrap64 ((rd l1_1 ((rd_T36 l0_2 x26_2).f0)) - (rd l1_1 ((rd_T36 l0_2 x26_2).f1)))) ≤ ((rd_T36 l0_2 x26_2).f2)))) = false := by simpa using c24))
                              (try (have c24b3 : ¬ ((rdOf false l1_0 x26_2) = (decide ((wrap64 ((rd l1_1 ((rd_T36 l0_2 x26_2).f0)) - (rd l1_1 ((rd_T36 l0_2 x26_2).f1)))) ≤ ((rd_T36 l0_2 x26_2).f2)))) := by simpa using c24))
                              clear c24
                              obtain rfl := Option.some.inj H
                              have p182 : 0 ≤ (x26_2 : Int) := of_decide_eq_true (by first | (with_reducible assumption) | assumption)
                              have q182 : x26_2 < (l0_2.length : Int) := of_decide_eq_true (by first | (with_reducible assumption) | assumption)
                              obtain ⟨ad182, e182, hx182_0, hx182_1, hx182_2⟩ := at_T36 HR0_2.out x26_2 p182 q182
                              cases e182
                              replace hx182_0 := (HB.out.cell (World.block_lt_of_cell? w _ hx182_0)).trans hx182_0
                              replace hx182_1 := (HB.out.cell (World.block_lt_of_cell? w _ hx182_1)).trans hx182_1
                              replace hx182_2 := (HB.out.cell (World.block_lt_of_cell? w _ hx182_2)).trans hx182_2
                              replace p182 := eq_true p182
                              replace q182 := eq_true q182
                              go_wp2_with (first | ((with_reducible refine gate_dst (N := 6) rfl ?_); (try (refine gate_guard (by rfl) ?_; dsimp only)); refine box_event ?hg (N := 6) ?hd (cs := #[.int .i64 0, .int .i64 0, .int .i64 0]) (t := 36) ?hr ?_; (case hd => rfl); (case hg => rfl); (case hr => first | (go_simp; done) | (go_simp; rfl)); intro gb183 hg w25 hbox hb; have n0_ := Aside0.mk (blk_below (g := gb180) (o := .cells #[.int .i64 a0_0, .int .i64 a0_1, .slice (some ad182) l0_2.length c0_2, .slice A0_3 l0_3.length c0_3] 31 (0, 0)) (by (with_reducible repeat (first | refine blk_drewN ?_ _ | refine blk_drew ?_ | refine blk_alloc ?_ _)); exact BK180.out) hb); have n1_ := Aside0.mk (blk_below (g := gb181) (o := .cells #[.slice A1_0 l1_0.length c1_0, .slice A1_1 l1_1.length c1_1] 44 (0, 0)) (by (with_reducible repeat (first | refine blk_drewN ?_ _ | refine blk_drew ?_ | refine blk_alloc ?_ _)); exact BK181.out) hb); have n2_ := Aside0.mk (below_step (by repeat (first | (with_reducible first | exact HB.out | apply below_alloc | apply pw_below_drewN | apply below_drew1 | refine below_set ?_ GE180.out | refine below_set ?_ GE181.out) | exact HB.out)) hb); have n3_ := Aside0.mk (hbox); have n4_ := Aside0.mk ((by rw [hg]; exact (below_size (by repeat (first | (with_reducible first | exact HB.out | apply below_alloc | apply pw_below_drewN | apply below_drew1 | refine below_set ?_ GE180.out | refine below_set ?_ GE181.out) | exact HB.out))) : w.heap.size ≤ gb183)); have n5_ := Aside0.mk ((by rw [hg]; exact (below_size (by repeat (first | (with_reducible first | exact HB.out | apply below_alloc | apply pw_below_drewN | apply below_drew1 | refine below_set ?_ GE180.out | refine below_set ?_ GE181.out) | exact HB.out))) : w.heap.size ≤ gb183)); have n6_ := Aside0.mk ((by rw [hg]; exact Nat.ne_of_lt (blk_lt (g := gb180) (o := .cells #[.int .i64 a0_0, .int .i64 a0_1, .slice (some ad182) l0_2.length c0_2, .slice A0_3 l0_3.length c0_3] 31 (0, 0)) (by (with_reducible repeat (first | refine blk_drewN ?_ _ | refine blk_drew ?_ | refine blk_alloc ?_ _)); exact BK180.out)) : gb180 ≠ gb183)); have n7_ := Aside0.mk ((by rw [hg]; exact Nat.ne_of_gt (blk_lt (g := gb180) (o := .cells #[.int .i64 a0_0, .int .i64 a0_1, .slice (some ad182) l0_2.length c0_2, .slice A0_3 l0_3.length c0_3] 31 (0, 0)) (by (with_reducible repeat (first | refine blk_drewN ?_ _ | refine blk_drew ?_ | refine blk_alloc ?_ _)); exact BK180.out)) : gb183 ≠ gb180)); have n8_ := Aside0.mk ((by rw [hg]; exact Nat.ne_of_lt (blk_lt (g := gb181) (o := .cells #[.slice A1_0 l1_0.length c1_0, .slice A1_1 l1_1.length c1_1] 44 (0, 0)) (by (with_reducible repeat (first | refine blk_drewN ?_ _ | refine blk_drew ?_ | refine blk_alloc ?_ _)); exact BK181.out)) : gb181 ≠ gb183)); have n9_ := Aside0.mk ((by rw [hg]; exact Nat.ne_of_gt (blk_lt (g := gb181) (o := .cells #[.slice A1_0 l1_0.length c1_0, .slice A1_1 l1_1.length c1_1] 44 (0, 0)) (by (with_reducible repeat (first | refine blk_drewN ?_ _ | refine blk_drew ?_ | refine blk_alloc ?_ _)); exact BK181.out)) : gb183 ≠ gb181)); clear BK180; clear BK181; clear HB; have BK180 := n0_; have BK181 := n1_; have HB := n2_; have BK183 := n3_; have GW183 := n4_; have GE183 := n5_; have NB180_183 := n6_; have NB183_180 := n7_; have NB181_183 := n8_; have NB183_181 := n9_; clear n0_ n1_ n2_ n3_ n4_ n5_ n6_ n7_ n8_ n9_; clear hb hbox hg; have hnb26 := NB183_180.out; have hnc26 := NB180_183.out; have hnb27 := NB183_181.out; have hnc27 := NB181_183.out; have hcz28_0 : w25.cell? ⟨gb183, 0, none⟩ = some (.int .i64 0) := (blk_cell BK183.out 0).trans rfl; have hcz28_1 : w25.cell? ⟨gb183, 1, none⟩ = some (.int .i64 0) := (blk_cell BK183.out 1).trans rfl; have hcz28_2 : w25.cell? ⟨gb183, 2, none⟩ = some (.int .i64 0) := (blk_cell BK183.out 2).trans rfl; have hfz28_0 := blk_frozen BK183.out 0; have hfz28_1 := blk_frozen BK183.out 1; have hfz28_2 := blk_frozen BK183.out 2; have hnb29 := NB181_180.out; have hnc29 := NB180_181.out; have hcz30_0 : w25.cell? ⟨gb181, 0, none⟩ = some (.slice A1_0 l1_0.length c1_0) := (blk_cell BK181.out 0).trans rfl; have hcz30_1 : w25.cell? ⟨gb181, 1, none⟩ = some (.slice A1_1 l1_1.length c1_1) := (blk_cell BK181.out 1).trans rfl; have hfz30_0 := blk_frozen BK181.out 0; have hfz30_1 := blk_frozen BK181.out 1; have p184 : 0 ≤ (x26_2 : Int) := of_decide_eq_true (by first | (with_reducible assumption) | assumption); have q184 : x26_2 < (l1_0.length : Int) := of_decide_eq_true (by first | (with_reducible assumption) | assumption); obtain ⟨ad184, e184, hx184_0⟩ := Kd.at_bool HR1_0.out x26_2 p184 q184; cases e184; have hn184_0 : ad184.block ≠ gb183 := Nat.ne_of_lt (Nat.lt_of_lt_of_le (by have := World.block_lt_of_cell? _ _ hx184_0; first | rwa [add_block] at this | exact this) GW183.out); have hn184_1 : ad184.block ≠ gb183 := Nat.ne_of_lt (Nat.lt_of_lt_of_le (by have := World.block_lt_of_cell? _ _ hx184_0; first | rwa [add_block] at this | exact this) GW183.out); have hn184_2 : ad184.block ≠ gb183 := Nat.ne_of_lt (Nat.lt_of_lt_of_le (by have := World.block_lt_of_cell? _ _ hx184_0; first | rwa [add_block] at this | exact this) GW183.out); replace hx184_0 := (HB.out.cell (World.block_lt_of_cell? w _ hx184_0)).trans hx184_0; replace hx184_0 := (cell_far (p := ⟨gb183, 0, none⟩) (by first | (rw [add_block]; exact hn184_0) | (show (Addr.add _ _).block ≠ _; rw [add_block]; exact hn184_0) | exact hn184_0) (.int .i64 ((rd_T36 l0_2 x26_2).f0))).trans hx184_0; replace hx184_0 := (cell_far (p := ⟨gb183, 1, none⟩) (by first | (rw [add_block]; exact hn184_1) | (show (Addr.add _ _).block ≠ _; rw [add_block]; exact hn184_1) | exact hn184_1) (.int .i64 ((rd_T36 l0_2 x26_2).f1))).trans hx184_0; replace hx184_0 := (cell_far (p := ⟨gb183, 2, none⟩) (by first | (rw [add_block]; exact hn184_2) | (show (Addr.add _ _).block ≠ _; rw [add_block]; exact hn184_2) | exact hn184_2) (.int .i64 ((rd_T36 l0_2 x26_2).f2))).trans hx184_0; (try have hy184_0 := fun (n_ : Nat) => (show (((((w25.drewN n_).setCell ⟨gb183, 0, none⟩ (.int .i64 ((rd_T36 l0_2 x26_2).f0))).setCell ⟨gb183, 1, none⟩ (.int .i64 ((rd_T36 l0_2 x26_2).f1))).setCell ⟨gb183, 2, none⟩ (.int .i64 ((rd_T36 l0_2 x26_2).f2)))).cell? _ = some _ from hx184_0)); clear hn184_0; clear hn184_1; clear hn184_2; replace p184 := eq_true p184; replace q184 := eq_true q184; have p185 : 0 ≤ (((rd_T36 l0_2 x26_2).f0) : Int) := of_decide_eq_true (by first | (with_reducible assumption) | assumption); have q185 : ((rd_T36 l0_2 x26_2).f0) < (l1_1.length : Int) := of_decide_eq_true (by first | (with_reducible assumption) | assumption); obtain ⟨ad185, e185, hx185_0⟩ := Kd.at_int HR1_1.out ((rd_T36 l0_2 x26_2).f0) p185 q185; cases e185; have hn185_0 : ad185.block ≠ gb183 := Nat.ne_of_lt (Nat.lt_of_lt_of_le (by have := World.block_lt_of_cell? _ _ hx185_0; first | rwa [add_block] at this | exact this) GW183.out); have hn185_1 : ad185.block ≠ gb183 := Nat.ne_of_lt (Nat.lt_of_lt_of_le (by have := World.block_lt_of_cell? _ _ hx185_0; first | rwa [add_block] at this | exact this) GW183.out); have hn185_2 : ad185.block ≠ gb183 := Nat.ne_of_lt (Nat.lt_of_lt_of_le (by have := World.block_lt_of_cell? _ _ hx185_0; first | rwa [add_block] at this | exact this) GW183.out); replace hx185_0 := (HB.out.cell (World.block_lt_of_cell? w _ hx185_0)).trans hx185_0; replace hx185_0 := (cell_far (p := ⟨gb183, 0, none⟩) (by first | (rw [add_block]; exact hn185_0) | (show (Addr.add _ _).block ≠ _; rw [add_block]; exact hn185_0) | exact hn185_0) (.int .i64 ((rd_T36 l0_2 x26_2).f0))).trans hx185_0; replace hx185_0 := (cell_far (p := ⟨gb183, 1, none⟩) (by first | (rw [add_block]; exact hn185_1) | (show (Addr.add _ _).block ≠ _; rw [add_block]; exact hn185_1) | exact hn185_1) (.int .i64 ((rd_T36 l0_2 x26_2).f1))).trans hx185_0; replace hx185_0 := (cell_far (p := ⟨gb183, 2, none⟩) (by first | (rw [add_block]; exact hn185_2) | (show (Addr.add _ _).block ≠ _; rw [add_block]; exact hn185_2) | exact hn185_2) (.int .i64 ((rd_T36 l0_2 x26_2).f2))).trans hx185_0; (try have hy185_0 := fun (n_ : Nat) => (show (((((w25.drewN n_).setCell ⟨gb183, 0, none⟩ (.int .i64 ((rd_T36 l0_2 x26_2).f0))).setCell ⟨gb183, 1, none⟩ (.int .i64 ((rd_T36 l0_2 x26_2).f1))).setCell ⟨gb183, 2, none⟩ (.int .i64 ((rd_T36 l0_2 x26_2).f2)))).cell? _ = some _ from hx185_0)); clear hn185_0; clear hn185_1; clear hn185_2; replace p185 := eq_true p185; replace q185 := eq_true q185; have p186 : 0 ≤ (((rd_T36 l0_2 x26_2).f1) : Int) := of_decide_eq_true (by first | (with_reducible assumption) | assumption); have q186 : ((rd_T36 l0_2 x26_2).f1) < (l1_1.length : Int) := of_decide_eq_true (by first | (with_reducible assumption) | assumption); obtain ⟨ad186, e186, hx186_0⟩ := Kd.at_int HR1_1.out ((rd_T36 l0_2 x26_2).f1) p186 q186; obtain rfl : ad185 = ad186 := (by injection e186); have hn186_0 : ad185.block ≠ gb183 := Nat.ne_of_lt (Nat.lt_of_lt_of_le (by have := World.block_lt_of_cell? _ _ hx186_0; first | rwa [add_block] at this | exact this) GW183.out); have hn186_1 : ad185.block ≠ gb183 := Nat.ne_of_lt (Nat.lt_of_lt_of_le (by have := World.block_lt_of_cell? _ _ hx186_0; first | rwa [add_block] at this | exact this) GW183.out); have hn186_2 : ad185.block ≠ gb183 := Nat.ne_of_lt (Nat.lt_of_lt_of_le (by have := World.block_lt_of_cell? _ _ hx186_0; first | rwa [add_block] at this | exact this) GW183.out); replace hx186_0 := (HB.out.cell (World.block_lt_of_cell? w _ hx186_0)).trans hx186_0; replace hx186_0 := (cell_far (p := ⟨gb183, 0, none⟩) (by first | (rw [add_block]; exact hn186_0) | (show (Addr.add _ _).block ≠ _; rw [add_block]; exact hn186_0) | exact hn186_0) (.int .i64 ((rd_T36 l0_2 x26_2).f0))).trans hx186_0; replace hx186_0 := (cell_far (p := ⟨gb183, 1, none⟩) (by first | (rw [add_block]; exact hn186_1) | (show (Addr.add _ _).block ≠ _; rw [add_block]; exact hn186_1) | exact hn186_1) (.int .i64 ((rd_T36 l0_2 x26_2).f1))).trans hx186_0; replace hx186_0 := (cell_far (p := ⟨gb183, 2, none⟩) (by first | (rw [add_block]; exact hn186_2) | (show (Addr.add _ _).block ≠ _; rw [add_block]; exact hn186_2) | exact hn186_2) (.int .i64 ((rd_T36 l0_2 x26_2).f2))).trans hx186_0; (try have hy186_0 := fun (n_ : Nat) => (show (((((w25.drewN n_).setCell ⟨gb183, 0, none⟩ (.int .i64 ((rd_T36 l0_2 x26_2).f0))).setCell ⟨gb183, 1, none⟩ (.int .i64 ((rd_T36 l0_2 x26_2).f1))).setCell ⟨gb183, 2, none⟩ (.int .i64 ((rd_T36 l0_2 x26_2).f2)))).cell? _ = some _ from hx186_0)); clear hn186_0; clear hn186_1; clear hn186_2; replace p186 := eq_true p186; replace q186 := eq_true q186))
                              repeat (go_quiet (first | ((with_reducible refine gate_dst (N := 6) rfl ?_); (try (refine gate_guard (by rfl) ?_; dsimp only)); refine box_event ?hg (N := 6) ?hd (cs := #[.int .i64 0, .int .i64 0, .int .i64 0]) (t := 36) ?hr ?_; (case hd => rfl); (case hg => rfl); (case hr => first | (go_simp; done) | (go_simp; rfl)); intro gb183 hg w25 hbox hb; have n0_ := Aside0.mk (blk_below (g := gb180) (o := .cells #[.int .i64 a0_0, .int .i64 a0_1, .slice (some ad182) l0_2.length c0_2, .slice A0_3 l0_3.length c0_3] 31 (0, 0)) (by (with_reducible repeat (first | refine blk_drewN ?_ _ | refine blk_drew ?_ | refine blk_alloc ?_ _)); exact BK180.out) hb); have n1_ := Aside0.mk (blk_below (g := gb181) (o := .cells #[.slice A1_0 l1_0.length c1_0, .slice A1_1 l1_1.length c1_1] 44 (0, 0)) (by (with_reducible repeat (first | refine blk_drewN ?_ _ | refine blk_drew ?_ | refine blk_alloc ?_ _)); exact BK181.out) hb); have n2_ := Aside0.mk (below_step (by repeat (first | (with_reducible first | exact HB.out | apply below_alloc | apply pw_below_drewN | apply below_drew1 | refine below_set ?_ GE180.out | refine below_set ?_ GE181.out) | exact HB.out)) hb); have n3_ := Aside0.mk (hbox); have n4_ := Aside0.mk ((by rw [hg]; exact (below_size (by repeat (first | (with_reducible first | exact HB.out | apply below_alloc | apply pw_below_drewN | apply below_drew1 | refine below_set ?_ GE180.out | refine below_set ?_ GE181.out) | exact HB.out))) : w.heap.size ≤ gb183)); have n5_ := Aside0.mk ((by rw [hg]; exact (below_size (by repeat (first | (with_reducible first | exact HB.out | apply below_alloc | apply pw_below_drewN | apply below_drew1 | refine below_set ?_ GE180.out | refine below_set ?_ GE181.out) | exact HB.out))) : w.heap.size ≤ gb183)); have n6_ := Aside0.mk ((by rw [hg]; exact Nat.ne_of_lt (blk_lt (g := gb180) (o := .cells #[.int .i64 a0_0, .int .i64 a0_1, .slice (some ad182) l0_2.length c0_2, .slice A0_3 l0_3.length c0_3] 31 (0, 0)) (by (with_reducible repeat (first | refine blk_drewN ?_ _ | refine blk_drew ?_ | refine blk_alloc ?_ _)); exact BK180.out)) : gb180 ≠ gb183)); have n7_ := Aside0.mk ((by rw [hg]; exact Nat.ne_of_gt (blk_lt (g := gb180) (o := .cells #[.int .i64 a0_0, .int .i64 a0_1, .slice (some ad182) l0_2.length c0_2, .slice A0_3 l0_3.length c0_3] 31 (0, 0)) (by (with_reducible repeat (first | refine blk_drewN ?_ _ | refine blk_drew ?_ | refine blk_alloc ?_ _)); exact BK180.out)) : gb183 ≠ gb180)); have n8_ := Aside0.mk ((by rw [hg]; exact Nat.ne_of_lt (blk_lt (g := gb181) (o := .cells #[.slice A1_0 l1_0.length c1_0, .slice A1_1 l1_1.length c1_1] 44 (0, 0)) (by (with_reducible repeat (first | refine blk_drewN ?_ _ | refine blk_drew ?_ | refine blk_alloc ?_ _)); exact BK181.out)) : gb181 ≠ gb183)); have n9_ := Aside0.mk ((by rw [hg]; exact Nat.ne_of_gt (blk_lt (g := gb181) (o := .cells #[.slice A1_0 l1_0.length c1_0, .slice A1_1 l1_1.length c1_1] 44 (0, 0)) (by (with_reducible repeat (first | refine blk_drewN ?_ _ | refine blk_drew ?_ | refine blk_alloc ?_ _)); exact BK181.out)) : gb183 ≠ gb181)); clear BK180; clear BK181; clear HB; have BK180 := n0_; have BK181 := n1_; have HB := n2_; have BK183 := n3_; have GW183 := n4_; have GE183 := n5_; have NB180_183 := n6_; have NB183_180 := n7_; have NB181_183 := n8_; have NB183_181 := n9_; clear n0_ n1_ n2_ n3_ n4_ n5_ n6_ n7_ n8_ n9_; clear hb hbox hg; have hnb26 := NB183_180.out; have hnc26 := NB180_183.out; have hnb27 := NB183_181.out; have hnc27 := NB181_183.out; have hcz28_0 : w25.cell? ⟨gb183, 0, none⟩ = some (.int .i64 0) := (blk_cell BK183.out 0).trans rfl; have hcz28_1 : w25.cell? ⟨gb183, 1, none⟩ = some (.int .i64 0) := (blk_cell BK183.out 1).trans rfl; have hcz28_2 : w25.cell? ⟨gb183, 2, none⟩ = some (.int .i64 0) := (blk_cell BK183.out 2).trans rfl; have hfz28_0 := blk_frozen BK183.out 0; have hfz28_1 := blk_frozen BK183.out 1; have hfz28_2 := blk_frozen BK183.out 2; have hnb29 := NB181_180.out; have hnc29 := NB180_181.out; have hcz30_0 : w25.cell? ⟨gb181, 0, none⟩ = some (.slice A1_0 l1_0.length c1_0) := (blk_cell BK181.out 0).trans rfl; have hcz30_1 : w25.cell? ⟨gb181, 1, none⟩ = some (.slice A1_1 l1_1.length c1_1) := (blk_cell BK181.out 1).trans rfl; have hfz30_0 := blk_frozen BK181.out 0; have hfz30_1 := blk_frozen BK181.out 1; have p184 : 0 ≤ (x26_2 : Int) := of_decide_eq_true (by first | (with_reducible assumption) | assumption); have q184 : x26_2 < (l1_0.length : Int) := of_decide_eq_true (by first | (with_reducible assumption) | assumption); obtain ⟨ad184, e184, hx184_0⟩ := Kd.at_bool HR1_0.out x26_2 p184 q184; cases e184; have hn184_0 : ad184.block ≠ gb183 := Nat.ne_of_lt (Nat.lt_of_lt_of_le (by have := World.block_lt_of_cell? _ _ hx184_0; first | rwa [add_block] at this | exact this) GW183.out); have hn184_1 : ad184.block ≠ gb183 := Nat.ne_of_lt (Nat.lt_of_lt_of_le (by have := World.block_lt_of_cell? _ _ hx184_0; first | rwa [add_block] at this | exact this) GW183.out); have hn184_2 : ad184.block ≠ gb183 := Nat.ne_of_lt (Nat.lt_of_lt_of_le (by have := World.block_lt_of_cell? _ _ hx184_0; first | rwa [add_block] at this | exact this) GW183.out); replace hx184_0 := (HB.out.cell (World.block_lt_of_cell? w _ hx184_0)).trans hx184_0; replace hx184_0 := (cell_far (p := ⟨gb183, 0, none⟩) (by first | (rw [add_block]; exact hn184_0) | (show (Addr.add _ _).block ≠ _; rw [add_block]; exact hn184_0) | exact hn184_0) (.int .i64 ((rd_T36 l0_2 x26_2).f0))).trans hx184_0; replace hx184_0 := (cell_far (p := ⟨gb183, 1, none⟩) (by first | (rw [add_block]; exact hn184_1) | (show (Addr.add _ _).block ≠ _; rw [add_block]; exact hn184_1) | exact hn184_1) (.int .i64 ((rd_T36 l0_2 x26_2).f1))).trans hx184_0; replace hx184_0 := (cell_far (p := ⟨gb183, 2, none⟩) (by first | (rw [add_block]; exact hn184_2) | (show (Addr.add _ _).block ≠ _; rw [add_block]; exact hn184_2) | exact hn184_2) (.int .i64 ((rd_T36 l0_2 x26_2).f2))).trans hx184_0; (try have hy184_0 := fun (n_ : Nat) => (show (((((w25.drewN n_).setCell ⟨gb183, 0, none⟩ (.int .i64 ((rd_T36 l0_2 x26_2).f0))).setCell ⟨gb183, 1, none⟩ (.int .i64 ((rd_T36 l0_2 x26_2).f1))).setCell ⟨gb183, 2, none⟩ (.int .i64 ((rd_T36 l0_2 x26_2).f2)))).cell? _ = some _ from hx184_0)); clear hn184_0; clear hn184_1; clear hn184_2; replace p184 := eq_true p184; replace q184 := eq_true q184; have p185 : 0 ≤ (((rd_T36 l0_2 x26_2).f0) : Int) := of_decide_eq_true (by first | (with_reducible assumption) | assumption); have q185 : ((rd_T36 l0_2 x26_2).f0) < (l1_1.length : Int) := of_decide_eq_true (by first | (with_reducible assumption) | assumption); obtain ⟨ad185, e185, hx185_0⟩ := Kd.at_int HR1_1.out ((rd_T36 l0_2 x26_2).f0) p185 q185; cases e185; have hn185_0 : ad185.block ≠ gb183 := Nat.ne_of_lt (Nat.lt_of_lt_of_le (by have := World.block_lt_of_cell? _ _ hx185_0; first | rwa [add_block] at this | exact this) GW183.out); have hn185_1 : ad185.block ≠ gb183 := Nat.ne_of_lt (Nat.lt_of_lt_of_le (by have := World.block_lt_of_cell? _ _ hx185_0; first | rwa [add_block] at this | exact this) GW183.out); have hn185_2 : ad185.block ≠ gb183 := Nat.ne_of_lt (Nat.lt_of_lt_of_le (by have := World.block_lt_of_cell? _ _ hx185_0; first | rwa [add_block] at this | exact this) GW183.out); replace hx185_0 := (HB.out.cell (World.block_lt_of_cell? w _ hx185_0)).trans hx185_0; replace hx185_0 := (cell_far (p := ⟨gb183, 0, none⟩) (by first | (rw [add_block]; exact hn185_0) | (show (Addr.add _ _).block ≠ _; rw [add_block]; exact hn185_0) | exact hn185_0) (.int .i64 ((rd_T36 l0_2 x26_2).f0))).trans hx185_0; replace hx185_0 := (cell_far (p := ⟨gb183, 1, none⟩) (by first | (rw [add_block]; exact hn185_1) | (show (Addr.add _ _).block ≠ _; rw [add_block]; exact hn185_1) | exact hn185_1) (.int .i64 ((rd_T36 l0_2 x26_2).f1))).trans hx185_0; replace hx185_0 := (cell_far (p := ⟨gb183, 2, none⟩) (by first | (rw [add_block]; exact hn185_2) | (show (Addr.add _ _).block ≠ _; rw [add_block]; exact hn185_2) | exact hn185_2) (.int .i64 ((rd_T36 l0_2 x26_2).f2))).trans hx185_0; (try have hy185_0 := fun (n_ : Nat) => (show (((((w25.drewN n_).setCell ⟨gb183, 0, none⟩ (.int .i64 ((rd_T36 l0_2 x26_2).f0))).setCell ⟨gb183, 1, none⟩ (.int .i64 ((rd_T36 l0_2 x26_2).f1))).setCell ⟨gb183, 2, none⟩ (.int .i64 ((rd_T36 l0_2 x26_2).f2)))).cell? _ = some _ from hx185_0)); clear hn185_0; clear hn185_1; clear hn185_2; replace p185 := eq_true p185; replace q185 := eq_true q185; have p186 : 0 ≤ (((rd_T36 l0_2 x26_2).f1) : Int) := of_decide_eq_true (by first | (with_reducible assumption) | assumption); have q186 : ((rd_T36 l0_2 x26_2).f1) < (l1_1.length : Int) := of_decide_eq_true (by first | (with_reducible assumption) | assumption); obtain ⟨ad186, e186, hx186_0⟩ := Kd.at_int HR1_1.out ((rd_T36 l0_2 x26_2).f1) p186 q186; obtain rfl : ad185 = ad186 := (by injection e186); have hn186_0 : ad185.block ≠ gb183 := Nat.ne_of_lt (Nat.lt_of_lt_of_le (by have := World.block_lt_of_cell? _ _ hx186_0; first | rwa [add_block] at this | exact this) GW183.out); have hn186_1 : ad185.block ≠ gb183 := Nat.ne_of_lt (Nat.lt_of_lt_of_le (by have := World.block_lt_of_cell? _ _ hx186_0; first | rwa [add_block] at this | exact this) GW183.out); have hn186_2 : ad185.block ≠ gb183 := Nat.ne_of_lt (Nat.lt_of_lt_of_le (by have := World.block_lt_of_cell? _ _ hx186_0; first | rwa [add_block] at this | exact this) GW183.out); replace hx186_0 := (HB.out.cell (World.block_lt_of_cell? w _ hx186_0)).trans hx186_0; replace hx186_0 := (cell_far (p := ⟨gb183, 0, none⟩) (by first | (rw [add_block]; exact hn186_0) | (show (Addr.add _ _).block ≠ _; rw [add_block]; exact hn186_0) | exact hn186_0) (.int .i64 ((rd_T36 l0_2 x26_2).f0))).trans hx186_0; replace hx186_0 := (cell_far (p := ⟨gb183, 1, none⟩) (by first | (rw [add_block]; exact hn186_1) | (show (Addr.add _ _).block ≠ _; rw [add_block]; exact hn186_1) | exact hn186_1) (.int .i64 ((rd_T36 l0_2 x26_2).f1))).trans hx186_0; replace hx186_0 := (cell_far (p := ⟨gb183, 2, none⟩) (by first | (rw [add_block]; exact hn186_2) | (show (Addr.add _ _).block ≠ _; rw [add_block]; exact hn186_2) | exact hn186_2) (.int .i64 ((rd_T36 l0_2 x26_2).f2))).trans hx186_0; (try have hy186_0 := fun (n_ : Nat) => (show (((((w25.drewN n_).setCell ⟨gb183, 0, none⟩ (.int .i64 ((rd_T36 l0_2 x26_2).f0))).setCell ⟨gb183, 1, none⟩ (.int .i64 ((rd_T36 l0_2 x26_2).f1))).setCell ⟨gb183, 2, none⟩ (.int .i64 ((rd_T36 l0_2 x26_2).f2)))).cell? _ = some _ from hx186_0)); clear hn186_0; clear hn186_1; clear hn186_2; replace p186 := eq_true p186; replace q186 := eq_true q186)); try go_wp2_with (first | ((with_reducible refine gate_dst (N := 6) rfl ?_); (try (refine gate_guard (by rfl) ?_; dsimp only)); refine box_event ?hg (N := 6) ?hd (cs := #[.int .i64 0, .int .i64 0, .int .i64 0]) (t := 36) ?hr ?_; (case hd => rfl); (case hg => rfl); (case hr => first | (go_simp; done) | (go_simp; rfl)); intro gb183 hg w25 hbox hb; have n0_ := Aside0.mk (blk_below (g := gb180) (o := .cells #[.int .i64 a0_0, .int .i64 a0_1, .slice (some ad182) l0_2.length c0_2, .slice A0_3 l0_3.length c0_3] 31 (0, 0)) (by (with_reducible repeat (first | refine blk_drewN ?_ _ | refine blk_drew ?_ | refine blk_alloc ?_ _)); exact BK180.out) hb); have n1_ := Aside0.mk (blk_below (g := gb181) (o := .cells #[.slice A1_0 l1_0.length c1_0, .slice A1_1 l1_1.length c1_1] 44 (0, 0)) (by (with_reducible repeat (first | refine blk_drewN ?_ _ | refine blk_drew ?_ | refine blk_alloc ?_ _)); exact BK181.out) hb); have n2_ := Aside0.mk (below_step (by repeat (first | (with_reducible first | exact HB.out | apply below_alloc | apply pw_below_drewN | apply below_drew1 | refine below_set ?_ GE180.out | refine below_set ?_ GE181.out) | exact HB.out)) hb); have n3_ := Aside0.mk (hbox); have n4_ := Aside0.mk ((by rw [hg]; exact (below_size (by repeat (first | (with_reducible first | exact HB.out | apply below_alloc | apply pw_below_drewN | apply below_drew1 | refine below_set ?_ GE180.out | refine below_set ?_ GE181.out) | exact HB.out))) : w.heap.size ≤ gb183)); have n5_ := Aside0.mk ((by rw [hg]; exact (below_size (by repeat (first | (with_reducible first | exact HB.out | apply below_alloc | apply pw_below_drewN | apply below_drew1 | refine below_set ?_ GE180.out | refine below_set ?_ GE181.out) | exact HB.out))) : w.heap.size ≤ gb183)); have n6_ := Aside0.mk ((by rw [hg]; exact Nat.ne_of_lt (blk_lt (g := gb180) (o := .cells #[.int .i64 a0_0, .int .i64 a0_1, .slice (some ad182) l0_2.length c0_2, .slice A0_3 l0_3.length c0_3] 31 (0, 0)) (by (with_reducible repeat (first | refine blk_drewN ?_ _ | refine blk_drew ?_ | refine blk_alloc ?_ _)); exact BK180.out)) : gb180 ≠ gb183)); have n7_ := Aside0.mk ((by rw [hg]; exact Nat.ne_of_gt (blk_lt (g := gb180) (o := .cells #[.int .i64 a0_0, .int .i64 a0_1, .slice (some ad182) l0_2.length c0_2, .slice A0_3 l0_3.length c0_3] 31 (0, 0)) (by (with_reducible repeat (first | refine blk_drewN ?_ _ | refine blk_drew ?_ | refine blk_alloc ?_ _)); exact BK180.out)) : gb183 ≠ gb180)); have n8_ := Aside0.mk ((by rw [hg]; exact Nat.ne_of_lt (blk_lt (g := gb181) (o := .cells #[.slice A1_0 l1_0.length c1_0, .slice A1_1 l1_1.length c1_1] 44 (0, 0)) (by (with_reducible repeat (first | refine blk_drewN ?_ _ | refine blk_drew ?_ | refine blk_alloc ?_ _)); exact BK181.out)) : gb181 ≠ gb183)); have n9_ := Aside0.mk ((by rw [hg]; exact Nat.ne_of_gt (blk_lt (g := gb181) (o := .cells #[.slice A1_0 l1_0.length c1_0, .slice A1_1 l1_1.length c1_1] 44 (0, 0)) (by (with_reducible repeat (first | refine blk_drewN ?_ _ | refine blk_drew ?_ | refine blk_alloc ?_ _)); exact BK181.out)) : gb183 ≠ gb181)); clear BK180; clear BK181; clear HB; have BK180 := n0_; have BK181 := n1_; have HB := n2_; have BK183 := n3_; have GW183 := n4_; have GE183 := n5_; have NB180_183 := n6_; have NB183_180 := n7_; have NB181_183 := n8_; have NB183_181 := n9_; clear n0_ n1_ n2_ n3_ n4_ n5_ n6_ n7_ n8_ n9_; clear hb hbox hg; have hnb26 := NB183_180.out; have hnc26 := NB180_183.out; have hnb27 := NB183_181.out; have hnc27 := NB181_183.out; have hcz28_0 : w25.cell? ⟨gb183, 0, none⟩ = some (.int .i64 0) := (blk_cell BK183.out 0).trans rfl; have hcz28_1 : w25.cell? ⟨gb183, 1, none⟩ = some (.int .i64 0) := (blk_cell BK183.out 1).trans rfl; have hcz28_2 : w25.cell? ⟨gb183, 2, none⟩ = some (.int .i64 0) := (blk_cell BK183.out 2).trans rfl; have hfz28_0 := blk_frozen BK183.out 0; have hfz28_1 := blk_frozen BK183.out 1; have hfz28_2 := blk_frozen BK183.out 2; have hnb29 := NB181_180.out; have hnc29 := NB180_181.out; have hcz30_0 : w25.cell? ⟨gb181, 0, none⟩ = some (.slice A1_0 l1_0.length c1_0) := (blk_cell BK181.out 0).trans rfl; have hcz30_1 : w25.cell? ⟨gb181, 1, none⟩ = some (.slice A1_1 l1_1.length c1_1) := (blk_cell BK181.out 1).trans rfl; have hfz30_0 := blk_frozen BK181.out 0; have hfz30_1 := blk_frozen BK181.out 1; have p184 : 0 ≤ (x26_2 : Int) := of_decide_eq_true (by first | (with_reducible assumption) | assumption); have q184 : x26_2 < (l1_0.length : Int) := of_decide_eq_true (by first | (with_reducible assumption) | assumption); obtain ⟨ad184, e184, hx184_0⟩ := Kd.at_bool HR1_0.out x26_2 p184 q184; cases e184; have hn184_0 : ad184.block ≠ gb183 := Nat.ne_of_lt (Nat.lt_of_lt_of_le (by have := World.block_lt_of_cell? _ _ hx184_0; first | rwa [add_block] at this | exact this) GW183.out); have hn184_1 : ad184.block ≠ gb183 := Nat.ne_of_lt (Nat.lt_of_lt_of_le (by have := World.block_lt_of_cell? _ _ hx184_0; first | rwa [add_block] at this | exact this) GW183.out); have hn184_2 : ad184.block ≠ gb183 := Nat.ne_of_lt (Nat.lt_of_lt_of_le (by have := World.block_lt_of_cell? _ _ hx184_0; first | rwa [add_block] at this | exact this) GW183.out); replace hx184_0 := (HB.out.cell (World.block_lt_of_cell? w _ hx184_0)).trans hx184_0; replace hx184_0 := (cell_far (p := ⟨gb183, 0, none⟩) (by first | (rw [add_block]; exact hn184_0) | (show (Addr.add _ _).block ≠ _; rw [add_block]; exact hn184_0) | exact hn184_0) (.int .i64 ((rd_T36 l0_2 x26_2).f0))).trans hx184_0; replace hx184_0 := (cell_far (p := ⟨gb183, 1, none⟩) (by first | (rw [add_block]; exact hn184_1) | (show (Addr.add _ _).block ≠ _; rw [add_block]; exact hn184_1) | exact hn184_1) (.int .i64 ((rd_T36 l0_2 x26_2).f1))).trans hx184_0; replace hx184_0 := (cell_far (p := ⟨gb183, 2, none⟩) (by first | (rw [add_block]; exact hn184_2) | (show (Addr.add _ _).block ≠ _; rw [add_block]; exact hn184_2) | exact hn184_2) (.int .i64 ((rd_T36 l0_2 x26_2).f2))).trans hx184_0; (try have hy184_0 := fun (n_ : Nat) => (show (((((w25.drewN n_).setCell ⟨gb183, 0, none⟩ (.int .i64 ((rd_T36 l0_2 x26_2).f0))).setCell ⟨gb183, 1, none⟩ (.int .i64 ((rd_T36 l0_2 x26_2).f1))).setCell ⟨gb183, 2, none⟩ (.int .i64 ((rd_T36 l0_2 x26_2).f2)))).cell? _ = some _ from hx184_0)); clear hn184_0; clear hn184_1; clear hn184_2; replace p184 := eq_true p184; replace q184 := eq_true q184; have p185 : 0 ≤ (((rd_T36 l0_2 x26_2).f0) : Int) := of_decide_eq_true (by first | (with_reducible assumption) | assumption); have q185 : ((rd_T36 l0_2 x26_2).f0) < (l1_1.length : Int) := of_decide_eq_true (by first | (with_reducible assumption) | assumption); obtain ⟨ad185, e185, hx185_0⟩ := Kd.at_int HR1_1.out ((rd_T36 l0_2 x26_2).f0) p185 q185; cases e185; have hn185_0 : ad185.block ≠ gb183 := Nat.ne_of_lt (Nat.lt_of_lt_of_le (by have := World.block_lt_of_cell? _ _ hx185_0; first | rwa [add_block] at this | exact this) GW183.out); have hn185_1 : ad185.block ≠ gb183 := Nat.ne_of_lt (Nat.lt_of_lt_of_le (by have := World.block_lt_of_cell? _ _ hx185_0; first | rwa [add_block] at this | exact this) GW183.out); have hn185_2 : ad185.block ≠ gb183 := Nat.ne_of_lt (Nat.lt_of_lt_of_le (by have := World.block_lt_of_cell? _ _ hx185_0; first | rwa [add_block] at this | exact this) GW183.out); replace hx185_0 := (HB.out.cell (World.block_lt_of_cell? w _ hx185_0)).trans hx185_0; replace hx185_0 := (cell_far (p := ⟨gb183, 0, none⟩) (by first | (rw [add_block]; exact hn185_0) | (show (Addr.add _ _).block ≠ _; rw [add_block]; exact hn185_0) | exact hn185_0) (.int .i64 ((rd_T36 l0_2 x26_2).f0))).trans hx185_0; replace hx185_0 := (cell_far (p := ⟨gb183, 1, none⟩) (by first | (rw [add_block]; exact hn185_1) | (show (Addr.add _ _).block ≠ _; rw [add_block]; exact hn185_1) | exact hn185_1) (.int .i64 ((rd_T36 l0_2 x26_2).f1))).trans hx185_0; replace hx185_0 := (cell_far (p := ⟨gb183, 2, none⟩) (by first | (rw [add_block]; exact hn185_2) | (show (Addr.add _ _).block ≠ _; rw [add_block]; exact hn185_2) | exact hn185_2) (.int .i64 ((rd_T36 l0_2 x26_2).f2))).trans hx185_0; (try have hy185_0 := fun (n_ : Nat) => (show (((((w25.drewN n_).setCell ⟨gb183, 0, none⟩ (.int .i64 ((rd_T36 l0_2 x26_2).f0))).setCell ⟨gb183, 1, none⟩ (.int .i64 ((rd_T36 l0_2 x26_2).f1))).setCell ⟨gb183, 2, none⟩ (.int .i64 ((rd_T36 l0_2 x26_2).f2)))).cell? _ = some _ from hx185_0)); clear hn185_0; clear hn185_1; clear hn185_2; replace p185 := eq_true p185; replace q185 := eq_true q185; have p186 : 0 ≤ (((rd_T36 l0_2 x26_2).f1) : Int) := of_decide_eq_true (by first | (with_reducible assumption) | assumption); have q186 : ((rd_T36 l0_2 x26_2).f1) < (l1_1.length : Int) := of_decide_eq_true (by first | (with_reducible assumption) | assumption); obtain ⟨ad186, e186, hx186_0⟩ := Kd.at_int HR1_1.out ((rd_T36 l0_2 x26_2).f1) p186 q186; obtain rfl : ad185 = ad186 := (by injection e186); have hn186_0 : ad185.block ≠ gb183 := Nat.ne_of_lt (Nat.lt_of_lt_of_le (by have := World.block_lt_of_cell? _ _ hx186_0; first | rwa [add_block] at this | exact this) GW183.out); have hn186_1 : ad185.block ≠ gb183 := Nat.ne_of_lt (Nat.lt_of_lt_of_le (by have := World.block_lt_of_cell? _ _ hx186_0; first | rwa [add_block] at this | exact this) GW183.out); have hn186_2 : ad185.block ≠ gb183 := Nat.ne_of_lt (Nat.lt_of_lt_of_le (by have := World.block_lt_of_cell? _ _ hx186_0; first | rwa [add_block] at this | exact this) GW183.out); replace hx186_0 := (HB.out.cell (World.block_lt_of_cell? w _ hx186_0)).trans hx186_0; replace hx186_0 := (cell_far (p := ⟨gb183, 0, none⟩) (by first | (rw [add_block]; exact hn186_0) | (show (Addr.add _ _).block ≠ _; rw [add_block]; exact hn186_0) | exact hn186_0) (.int .i64 ((rd_T36 l0_2 x26_2).f0))).trans hx186_0; replace hx186_0 := (cell_far (p := ⟨gb183, 1, none⟩) (by first | (rw [add_block]; exact hn186_1) | (show (Addr.add _ _).block ≠ _; rw [add_block]; exact hn186_1) | exact hn186_1) (.int .i64 ((rd_T36 l0_2 x26_2).f1))).trans hx186_0; replace hx186_0 := (cell_far (p := ⟨gb183, 2, none⟩) (by first | (rw [add_block]; exact hn186_2) | (show (Addr.add _ _).block ≠ _; rw [add_block]; exact hn186_2) | exact hn186_2) (.int .i64 ((rd_T36 l0_2 x26_2).f2))).trans hx186_0; (try have hy186_0 := fun (n_ : Nat) => (show (((((w25.drewN n_).setCell ⟨gb183, 0, none⟩ (.int .i64 ((rd_T36 l0_2 x26_2).f0))).setCell ⟨gb183, 1, none⟩ (.int .i64 ((rd_T36 l0_2 x26_2).f1))).setCell ⟨gb183, 2, none⟩ (.int .i64 ((rd_T36 l0_2 x26_2).f2)))).cell? _ = some _ from hx186_0)); clear hn186_0; clear hn186_1; clear hn186_2; replace p186 := eq_true p186; replace q186 := eq_true q186)))
                              go_ret
                              exact ⟨by first | rfl | (simp [errW_none, errW_some] <;> rfl) | (simp [*, errW_none, errW_some] <;> rfl), by repeat (first | (with_reducible first | exact HB.out | apply below_alloc | apply pw_below_drewN | apply below_drew1 | refine below_set ?_ GE180.out | refine below_set ?_ GE181.out | refine below_set ?_ GE183.out) | exact HB.out)⟩
                            · rw [if_neg c24] at H
                              have c24b0 : ((rdOf false l1_0 x26_2) != (decide ((wrap64 ((rd l1_1 ((rd_T36 l0_2 x26_2).f0)) - (rd l1_1 ((rd_T36 l0_2 x26_2).f1)))) ≤ ((rd_T36 l0_2 x26_2).f2)))) = false := by simpa using c24
                              (try (have c24b1 : decide ((rdOf false l1_0 x26_2) = (decide ((wrap64 ((rd l1_1 ((rd_T36 l0_2 x26_2).f0)) - (rd l1_1 ((rd_T36 l0_2 x26_2).f1)))) ≤ ((rd_T36 l0_2 x26_2).f2)))) = true := by simpa using c24))
                              (try (have c24b2 : ((rdOf false l1_0 x26_2) == (decide ((wrap64 ((rd l1_1 ((rd_T36 l0_2 x26_2).f0)) - (rd l1_1 ((rd_T36 l0_2 x26_2).f1)))) ≤ ((rd_T36 l0_2 x26_2).f2)))) = true := by simpa using c24))
                              clear c24
                              have H' := Aside0.mk H
                              clear H
                              have p182 : 0 ≤ (x26_2 : Int) := of_decide_eq_true (by first | (with_reducible assumption) | assumption)
                              have q182 : x26_2 < (l0_2.length : Int) := of_decide_eq_true (by first | (with_reducible assumption) | assumption)
                              obtain ⟨ad182, e182, hx182_0, hx182_1, hx182_2⟩ := at_T36 HR0_2.out x26_2 p182 q182
                              cases e182
                              replace hx182_0 := (HB.out.cell (World.block_lt_of_cell? w _ hx182_0)).trans hx182_0
                              replace hx182_1 := (HB.out.cell (World.block_lt_of_cell? w _ hx182_1)).trans hx182_1
                              replace hx182_2 := (HB.out.cell (World.block_lt_of_cell? w _ hx182_2)).trans hx182_2
                              replace p182 := eq_true p182
                              replace q182 := eq_true q182
                              go_wp2_with (first | ((with_reducible refine gate_dst (N := 6) rfl ?_); (try (refine gate_guard (by rfl) ?_; dsimp only)); refine box_event ?hg (N := 6) ?hd (cs := #[.int .i64 0, .int .i64 0, .int .i64 0]) (t := 36) ?hr ?_; (case hd => rfl); (case hg => rfl); (case hr => first | (go_simp; done) | (go_simp; rfl)); intro gb183 hg w31 hbox hb; have n0_ := Aside0.mk (blk_below (g := gb180) (o := .cells #[.int .i64 a0_0, .int .i64 a0_1, .slice (some ad182) l0_2.length c0_2, .slice A0_3 l0_3.length c0_3] 31 (0, 0)) (by (with_reducible repeat (first | refine blk_drewN ?_ _ | refine blk_drew ?_ | refine blk_alloc ?_ _)); exact BK180.out) hb); have n1_ := Aside0.mk (blk_below (g := gb181) (o := .cells #[.slice A1_0 l1_0.length c1_0, .slice A1_1 l1_1.length c1_1] 44 (0, 0)) (by (with_reducible repeat (first | refine blk_drewN ?_ _ | refine blk_drew ?_ | refine blk_alloc ?_ _)); exact BK181.out) hb); have n2_ := Aside0.mk (below_step (by repeat (first | (with_reducible first | exact HB.out | apply below_alloc | apply pw_below_drewN | apply below_drew1 | refine below_set ?_ GE180.out | refine below_set ?_ GE181.out) | exact HB.out)) hb); have n3_ := Aside0.mk (hbox); have n4_ := Aside0.mk ((by rw [hg]; exact (below_size (by repeat (first | (with_reducible first | exact HB.out | apply below_alloc | apply pw_below_drewN | apply below_drew1 | refine below_set ?_ GE180.out | refine below_set ?_ GE181.out) | exact HB.out))) : w.heap.size ≤ gb183)); have n5_ := Aside0.mk ((by rw [hg]; exact (below_size (by repeat (first | (with_reducible first | exact HB.out | apply below_alloc | apply pw_below_drewN | apply below_drew1 | refine below_set ?_ GE180.out | refine below_set ?_ GE181.out) | exact HB.out))) : w.heap.size ≤ gb183)); have n6_ := Aside0.mk ((by rw [hg]; exact Nat.ne_of_lt (blk_lt (g := gb180) (o := .cells #[.int .i64 a0_0, .int .i64 a0_1, .slice (some ad182) l0_2.length c0_2, .slice A0_3 l0_3.length c0_3] 31 (0, 0)) (by (with_reducible repeat (first | refine blk_drewN ?_ _ | refine blk_drew ?_ | refine blk_alloc ?_ _)); exact BK180.out)) : gb180 ≠ gb183)); have n7_ := Aside0.mk ((by rw [hg]; exact Nat.ne_of_gt (blk_lt (g := gb180) (o := .cells #[.int .i64 a0_0, .int .i64 a0_1, .slice (some ad182) l0_2.length c0_2, .slice A0_3 l0_3.length c0_3] 31 (0, 0)) (by (with_reducible repeat (first | refine blk_drewN ?_ _ | refine blk_drew ?_ | refine blk_alloc ?_ _)); exact BK180.out)) : gb183 ≠ gb180)); have n8_ := Aside0.mk ((by rw [hg]; exact Nat.ne_of_lt (blk_lt (g := gb181) (o := .cells #[.slice A1_0 l1_0.length c1_0, .slice A1_1 l1_1.length c1_1] 44 (0, 0)) (by (with_reducible repeat (first | refine blk_drewN ?_ _ | refine blk_drew ?_ | refine blk_alloc ?_ _)); exact BK181.out)) : gb181 ≠ gb183)); have n9_ := Aside0.mk ((by rw [hg]; exact Nat.ne_of_gt (blk_lt (g := gb181) (o := .cells #[.slice A1_0 l1_0.length c1_0, .slice A1_1 l1_1.length c1_1] 44 (0, 0)) (by (with_reducible repeat (first | refine blk_drewN ?_ _ | refine blk_drew ?_ | refine blk_alloc ?_ _)); exact BK181.out)) : gb183 ≠ gb181)); clear BK180; clear BK181; clear HB; have BK180 := n0_; have BK181 := n1_; have HB := n2_; have BK183 := n3_; have GW183 := n4_; have GE183 := n5_; have NB180_183 := n6_; have NB183_180 := n7_; have NB181_183 := n8_; have NB183_181 := n9_; clear n0_ n1_ n2_ n3_ n4_ n5_ n6_ n7_ n8_ n9_; clear hb hbox hg; have hnb32 := NB183_180.out; have hnc32 := NB180_183.out; have hnb33 := NB183_181.out; have hnc33 := NB181_183.out; have hcz34_0 : w31.cell? ⟨gb183, 0, none⟩ = some (.int .i64 0) := (blk_cell BK183.out 0).trans rfl; have hcz34_1 : w31.cell? ⟨gb183, 1, none⟩ = some (.int .i64 0) := (blk_cell BK183.out 1).trans rfl; have hcz34_2 : w31.cell? ⟨gb183, 2, none⟩ = some (.int .i64 0) := (blk_cell BK183.out 2).trans rfl; have hfz34_0 := blk_frozen BK183.out 0; have hfz34_1 := blk_frozen BK183.out 1; have hfz34_2 := blk_frozen BK183.out 2; have hnb35 := NB181_180.out; have hnc35 := NB180_181.out; have hcz36_0 : w31.cell? ⟨gb181, 0, none⟩ = some (.slice A1_0 l1_0.length c1_0) := (blk_cell BK181.out 0).trans rfl; have hcz36_1 : w31.cell? ⟨gb181, 1, none⟩ = some (.slice A1_1 l1_1.length c1_1) := (blk_cell BK181.out 1).trans rfl; have hfz36_0 := blk_frozen BK181.out 0; have hfz36_1 := blk_frozen BK181.out 1; have p184 : 0 ≤ (x26_2 : Int) := of_decide_eq_true (by first | (with_reducible assumption) | assumption); have q184 : x26_2 < (l1_0.length : Int) := of_decide_eq_true (by first | (with_reducible assumption) | assumption); obtain ⟨ad184, e184, hx184_0⟩ := Kd.at_bool HR1_0.out x26_2 p184 q184; cases e184; have hn184_0 : ad184.block ≠ gb183 := Nat.ne_of_lt (Nat.lt_of_lt_of_le (by have := World.block_lt_of_cell? _ _ hx184_0; first | rwa [add_block] at this | exact this) GW183.out); have hn184_1 : ad184.block ≠ gb183 := Nat.ne_of_lt (Nat.lt_of_lt_of_le (by have := World.block_lt_of_cell? _ _ hx184_0; first | rwa [add_block] at this | exact this) GW183.out); have hn184_2 : ad184.block ≠ gb183 := Nat.ne_of_lt (Nat.lt_of_lt_of_le (by have := World.block_lt_of_cell? _ _ hx184_0; first | rwa [add_block] at this | exact this) GW183.out); replace hx184_0 := (HB.out.cell (World.block_lt_of_cell? w _ hx184_0)).trans hx184_0; replace hx184_0 := (cell_far (p := ⟨gb183, 0, none⟩) (by first | (rw [add_block]; exact hn184_0) | (show (Addr.add _ _).block ≠ _; rw [add_block]; exact hn184_0) | exact hn184_0) (.int .i64 ((rd_T36 l0_2 x26_2).f0))).trans hx184_0; replace hx184_0 := (cell_far (p := ⟨gb183, 1, none⟩) (by first | (rw [add_block]; exact hn184_1) | (show (Addr.add _ _).block ≠ _; rw [add_block]; exact hn184_1) | exact hn184_1) (.int .i64 ((rd_T36 l0_2 x26_2).f1))).trans hx184_0; replace hx184_0 := (cell_far (p := ⟨gb183, 2, none⟩) (by first | (rw [add_block]; exact hn184_2) | (show (Addr.add _ _).block ≠ _; rw [add_block]; exact hn184_2) | exact hn184_2) (.int .i64 ((rd_T36 l0_2 x26_2).f2))).trans hx184_0; (try have hy184_0 := fun (n_ : Nat) => (show (((((w31.drewN n_).setCell ⟨gb183, 0, none⟩ (.int .i64 ((rd_T36 l0_2 x26_2).f0))).setCell ⟨gb183, 1, none⟩ (.int .i64 ((rd_T36 l0_2 x26_2).f1))).setCell ⟨gb183, 2, none⟩ (.int .i64 ((rd_T36 l0_2 x26_2).f2)))).cell? _ = some _ from hx184_0)); clear hn184_0; clear hn184_1; clear hn184_2; replace p184 := eq_true p184; replace q184 := eq_true q184; have p185 : 0 ≤ (((rd_T36 l0_2 x26_2).f0) : Int) := of_decide_eq_true (by first | (with_reducible assumption) | assumption); have q185 : ((rd_T36 l0_2 x26_2).f0) < (l1_1.length : Int) := of_decide_eq_true (by first | (with_reducible assumption) | assumption); obtain ⟨ad185, e185, hx185_0⟩ := Kd.at_int HR1_1.out ((rd_T36 l0_2 x26_2).f0) p185 q185; cases e185; have hn185_0 : ad185.block ≠ gb183 := Nat.ne_of_lt (Nat.lt_of_lt_of_le (by have := World.block_lt_of_cell? _ _ hx185_0; first | rwa [add_block] at this | exact this) GW183.out); have hn185_1 : ad185.block ≠ gb183 := Nat.ne_of_lt (Nat.lt_of_lt_of_le (by have := World.block_lt_of_cell? _ _ hx185_0; first | rwa [add_block] at this | exact this) GW183.out); have hn185_2 : ad185.block ≠ gb183 := Nat.ne_of_lt (Nat.lt_of_lt_of_le (by have := World.block_lt_of_cell? _ _ hx185_0; first | rwa [add_block] at this | exact this) GW183.out); replace hx185_0 := (HB.out.cell (World.block_lt_of_cell? w _ hx185_0)).trans hx185_0; replace hx185_0 := (cell_far (p := ⟨gb183, 0, none⟩) (by first | (rw [add_block]; exact hn185_0) | (show (Addr.add _ _).block ≠ _; rw [add_block]; exact hn185_0) | exact hn185_0) (.int .i64 ((rd_T36 l0_2 x26_2).f0))).trans hx185_0; replace hx185_0 := (cell_far (p := ⟨gb183, 1, none⟩) (by first | (rw [add_block]; exact hn185_1) | (show (Addr.add _ _).block ≠ _; rw [add_block]; exact hn185_1) | exact hn185_1) (.int .i64 ((rd_T36 l0_2 x26_2).f1))).trans hx185_0; replace hx185_0 := (cell_far (p := ⟨gb183, 2, none⟩) (by first | (rw [add_block]; exact hn185_2) | (show (Addr.add _ _).block ≠ _; rw [add_block]; exact hn185_2) | exact hn185_2) (.int .i64 ((rd_T36 l0_2 x26_2).f2))).trans hx185_0; (try have hy185_0 := fun (n_ : Nat) => (show (((((w31.drewN n_).setCell ⟨gb183, 0, none⟩ (.int .i64 ((rd_T36 l0_2 x26_2).f0))).setCell ⟨gb183, 1, none⟩ (.int .i64 ((rd_T36 l0_2 x26_2).f1))).setCell ⟨gb183, 2, none⟩ (.int .i64 ((rd_T36 l0_2 x26_2).f2)))).cell? _ = some _ from hx185_0)); clear hn185_0; clear hn185_1; clear hn185_2; replace p185 := eq_true p185; replace q185 := eq_true q185; have p186 : 0 ≤ (((rd_T36 l0_2 x26_2).f1) : Int) := of_decide_eq_true (by first | (with_reducible assumption) | assumption); have q186 : ((rd_T36 l0_2 x26_2).f1) < (l1_1.length : Int) := of_decide_eq_true (by first | (with_reducible assumption) | assumption); obtain ⟨ad186, e186, hx186_0⟩ := Kd.at_int HR1_1.out ((rd_T36 l0_2 x26_2).f1) p186 q186; obtain rfl : ad185 = ad186 := (by injection e186); have hn186_0 : ad185.block ≠ gb183 := Nat.ne_of_lt (Nat.lt_of_lt_of_le (by have := World.block_lt_of_cell? _ _ hx186_0; first | rwa [add_block] at this | exact this) GW183.out); have hn186_1 : ad185.block ≠ gb183 := Nat.ne_of_lt (Nat.lt_of_lt_of_le (by have := World.block_lt_of_cell? _ _ hx186_0; first | rwa [add_block] at this | exact this) GW183.out); have hn186_2 : ad185.block ≠ gb183 := Nat.ne_of_lt (Nat.lt_of_lt_of_le (by have := World.block_lt_of_cell? _ _ hx186_0; first | rwa [add_block] at this | exact this) GW183.out); replace hx186_0 := (HB.out.cell (World.block_lt_of_cell? w _ hx186_0)).trans hx186_0; replace hx186_0 := (cell_far (p := ⟨gb183, 0, none⟩) (by first | (rw [add_block]; exact hn186_0) | (show (Addr.add _ _).block ≠ _; rw [add_block]; exact hn186_0) | exact hn186_0) (.int .i64 ((rd_T36 l0_2 x26_2).f0))).trans hx186_0; replace hx186_0 := (cell_far (p := ⟨gb183, 1, none⟩) (by first | (rw [add_block]; exact hn186_1) | (show (Addr.add _ _).block ≠ _; rw [add_block]; exact hn186_1) | exact hn186_1) (.int .i64 ((rd_T36 l0_2 x26_2).f1))).trans hx186_0; replace hx186_0 := (cell_far (p := ⟨gb183, 2, none⟩) (by first | (rw [add_block]; exact hn186_2) | (show (Addr.add _ _).block ≠ _; rw [add_block]; exact hn186_2) | exact hn186_2) (.int .i64 ((rd_T36 l0_2 x26_2).f2))).trans hx186_0; (try have hy186_0 := fun (n_ : Nat) => (show (((((w31.drewN n_).setCell ⟨gb183, 0, none⟩ (.int .i64 ((rd_T36 l0_2 x26_2).f0))).setCell ⟨gb183, 1, none⟩ (.int .i64 ((rd_T36 l0_2 x26_2).f1))).setCell ⟨gb183, 2, none⟩ (.int .i64 ((rd_T36 l0_2 x26_2).f2)))).cell? _ = some _ from hx186_0)); clear hn186_0; clear hn186_1; clear hn186_2; replace p186 := eq_true p186; replace q186 := eq_true q186))
                              repeat (go_quiet (first | ((with_reducible refine gate_dst (N := 6) rfl ?_); (try (refine gate_guard (by rfl) ?_; dsimp only)); refine box_event ?hg (N := 6) ?hd (cs := #[.int .i64 0, .int .i64 0, .int .i64 0]) (t := 36) ?hr ?_; (case hd => rfl); (case hg => rfl); (case hr => first | (go_simp; done) | (go_simp; rfl)); intro gb183 hg w31 hbox hb; have n0_ := Aside0.mk (blk_below (g := gb180) (o := .cells #[.int .i64 a0_0, .int .i64 a0_1, .slice (some ad182) l0_2.length c0_2, .slice A0_3 l0_3.length c0_3] 31 (0, 0)) (by (with_reducible repeat (first | refine blk_drewN ?_ _ | refine blk_drew ?_ | refine blk_alloc ?_ _)); exact BK180.out) hb); have n1_ := Aside0.mk (blk_below (g := gb181) (o := .cells #[.slice A1_0 l1_0.length c1_0, .slice A1_1 l1_1.length c1_1] 44 (0, 0)) (by (with_reducible repeat (first | refine blk_drewN ?_ _ | refine blk_drew ?_ | refine blk_alloc ?_ _)); exact BK181.out) hb); have n2_ := Aside0.mk (below_step (by repeat (first | (with_reducible first | exact HB.out | apply below_alloc | apply pw_below_drewN | apply below_drew1 | refine below_set ?_ GE180.out | refine below_set ?_ GE181.out) | exact HB.out)) hb); have n3_ := Aside0.mk (hbox); have n4_ := Aside0.mk ((by rw [hg]; exact (below_size (by repeat (first | (with_reducible first | exact HB.out | apply below_alloc | apply pw_below_drewN | apply below_drew1 | refine below_set ?_ GE180.out | refine below_set ?_ GE181.out) | exact HB.out))) : w.heap.size ≤ gb183)); have n5_ := Aside0.mk ((by rw [hg]; exact (below_size (by repeat (first | (with_reducible first | exact HB.out | apply below_alloc | apply pw_below_drewN | apply below_drew1 | refine below_set ?_ GE180.out | refine below_set ?_ GE181.out) | exact HB.out))) : w.heap.size ≤ gb183)); have n6_ := Aside0.mk ((by rw [hg]; exact Nat.ne_of_lt (blk_lt (g := gb180) (o := .cells #[.int .i64 a0_0, .int .i64 a0_1, .slice (some ad182) l0_2.length c0_2, .slice A0_3 l0_3.length c0_3] 31 (0, 0)) (by (with_reducible repeat (first | refine blk_drewN ?_ _ | refine blk_drew ?_ | refine blk_alloc ?_ _)); exact BK180.out)) : gb180 ≠ gb183)); have n7_ := Aside0.mk ((by rw [hg]; exact Nat.ne_of_gt (blk_lt (g := gb180) (o := .cells #[.int .i64 a0_0, .int .i64 a0_1, .slice (some ad182) l0_2.length c0_2, .slice A0_3 l0_3.length c0_3] 31 (0, 0)) (by (with_reducible repeat (first | refine blk_drewN ?_ _ | refine blk_drew ?_ | refine blk_alloc ?_ _)); exact BK180.out)) : gb183 ≠ gb180)); have n8_ := Aside0.mk ((by rw [hg]; exact Nat.ne_of_lt (blk_lt (g := gb181) (o := .cells #[.slice A1_0 l1_0.length c1_0, .slice A1_1 l1_1.length c1_1] 44 (0, 0)) (by (with_reducible repeat (first | refine blk_drewN ?_ _ | refine blk_drew ?_ | refine blk_alloc ?_ _)); exact BK181.out)) : gb181 ≠ gb183)); have n9_ := Aside0.mk ((by rw [hg]; exact Nat.ne_of_gt (blk_lt (g := gb181) (o := .cells #[.slice A1_0 l1_0.length c1_0, .slice A1_1 l1_1.length c1_1] 44 (0, 0)) (by (with_reducible repeat (first | refine blk_drewN ?_ _ | refine blk_drew ?_ | refine blk_alloc ?_ _)); exact BK181.out)) : gb183 ≠ gb181)); clear BK180; clear BK181; clear HB; have BK180 := n0_; have BK181 := n1_; have HB := n2_; have BK183 := n3_; have GW183 := n4_; have GE183 := n5_; have NB180_183 := n6_; have NB183_180 := n7_; have NB181_183 := n8_; have NB183_181 := n9_; clear n0_ n1_ n2_ n3_ n4_ n5_ n6_ n7_ n8_ n9_; clear hb hbox hg; have hnb32 := NB183_180.out; have hnc32 := NB180_183.out; have hnb33 := NB183_181.out; have hnc33 := NB181_183.out; have hcz34_0 : w31.cell? ⟨gb183, 0, none⟩ = some (.int .i64 0) := (blk_cell BK183.out 0).trans rfl; have hcz34_1 : w31.cell? ⟨gb183, 1, none⟩ = some (.int .i64 0) := (blk_cell BK183.out 1).trans rfl; have hcz34_2 : w31.cell? ⟨gb183, 2, none⟩ = some (.int .i64 0) := (blk_cell BK183.out 2).trans rfl; have hfz34_0 := blk_frozen BK183.out 0; have hfz34_1 := blk_frozen BK183.out 1; have hfz34_2 := blk_frozen BK183.out 2; have hnb35 := NB181_180.out; have hnc35 := NB180_181.out; have hcz36_0 : w31.cell? ⟨gb181, 0, none⟩ = some (.slice A1_0 l1_0.length c1_0) := (blk_cell BK181.out 0).trans rfl; have hcz36_1 : w31.cell? ⟨gb181, 1, none⟩ = some (.slice A1_1 l1_1.length c1_1) := (blk_cell BK181.out 1).trans rfl; have hfz36_0 := blk_frozen BK181.out 0; have hfz36_1 := blk_frozen BK181.out 1; have p184 : 0 ≤ (x26_2 : Int) := of_decide_eq_true (by first | (with_reducible assumption) | assumption); have q184 : x26_2 < (l1_0.length : Int) := of_decide_eq_true (by first | (with_reducible assumption) | assumption); obtain ⟨ad184, e184, hx184_0⟩ := Kd.at_bool HR1_0.out x26_2 p184 q184; cases e184; have hn184_0 : ad184.block ≠ gb183 := Nat.ne_of_lt (Nat.lt_of_lt_of_le (by have := World.block_lt_of_cell? _ _ hx184_0; first | rwa [add_block] at this | exact this) GW183.out); have hn184_1 : ad184.block ≠ gb183 := Nat.ne_of_lt (Nat.lt_of_lt_of_le (by have := World.block_lt_of_cell? _ _ hx184_0; first | rwa [add_block] at this | exact this) GW183.out); have hn184_2 : ad184.block ≠ gb183 := Nat.ne_of_lt (Nat.lt_of_lt_of_le (by have := World.block_lt_of_cell? _ _ hx184_0; first | rwa [add_block] at this | exact this) GW183.out); replace hx184_0 := (HB.out.cell (World.block_lt_of_cell? w _ hx184_0)).trans hx184_0; replace hx184_0 := (cell_far (p := ⟨gb183, 0, none⟩) (by first | (rw [add_block]; exact hn184_0) | (show (Addr.add _ _).block ≠ _; rw [add_block]; exact hn184_0) | exact hn184_0) (.int .i64 ((rd_T36 l0_2 x26_2).f0))).trans hx184_0; replace hx184_0 := (cell_far (p := ⟨gb183, 1, none⟩) (by first | (rw [add_block]; exact hn184_1) | (show (Addr.add _ _).block ≠ _; rw [add_block]; exact hn184_1) | exact hn184_1) (.int .i64 ((rd_T36 l0_2 x26_2).f1))).trans hx184_0; replace hx184_0 := (cell_far (p := ⟨gb183, 2, none⟩) (by first | (rw [add_block]; exact hn184_2) | (show (Addr.add _ _).block ≠ _; rw [add_block]; exact hn184_2) | exact hn184_2) (.int .i64 ((rd_T36 l0_2 x26_2).f2))).trans hx184_0; (try have hy184_0 := fun (n_ : Nat) => (show (((((w31.drewN n_).setCell ⟨gb183, 0, none⟩ (.int .i64 ((rd_T36 l0_2 x26_2).f0))).setCell ⟨gb183, 1, none⟩ (.int .i64 ((rd_T36 l0_2 x26_2).f1))).setCell ⟨gb183, 2, none⟩ (.int .i64 ((rd_T36 l0_2 x26_2).f2)))).cell? _ = some _ from hx184_0)); clear hn184_0; clear hn184_1; clear hn184_2; replace p184 := eq_true p184; replace q184 := eq_true q184; have p185 : 0 ≤ (((rd_T36 l0_2 x26_2).f0) : Int) := of_decide_eq_true (by first | (with_reducible assumption) | assumption); have q185 : ((rd_T36 l0_2 x26_2).f0) < (l1_1.length : Int) := of_decide_eq_true (by first | (with_reducible assumption) | assumption); obtain ⟨ad185, e185, hx185_0⟩ := Kd.at_int HR1_1.out ((rd_T36 l0_2 x26_2).f0) p185 q185; cases e185; have hn185_0 : ad185.block ≠ gb183 := Nat.ne_of_lt (Nat.lt_of_lt_of_le (by have := World.block_lt_of_cell? _ _ hx185_0; first | rwa [add_block] at this | exact this) GW183.out); have hn185_1 : ad185.block ≠ gb183 := Nat.ne_of_lt (Nat.lt_of_lt_of_le (by have := World.block_lt_of_cell? _ _ hx185_0; first | rwa [add_block] at this | exact this) GW183.out); have hn185_2 : ad185.block ≠ gb183 := Nat.ne_of_lt (Nat.lt_of_lt_of_le (by have := World.block_lt_of_cell? _ _ hx185_0; first | rwa [add_block] at this | exact this) GW183.out); replace hx185_0 := (HB.out.cell (World.block_lt_of_cell? w _ hx185_0)).trans hx185_0; replace hx185_0 := (cell_far (p := ⟨gb183, 0, none⟩) (by first | (rw [add_block]; exact hn185_0) | (show (Addr.add _ _).block ≠ _; rw [add_block]; exact hn185_0) | exact hn185_0) (.int .i64 ((rd_T36 l0_2 x26_2).f0))).trans hx185_0; replace hx185_0 := (cell_far (p := ⟨gb183, 1, none⟩) (by first | (rw [add_block]; exact hn185_1) | (show (Addr.add _ _).block ≠ _; rw [add_block]; exact hn185_1) | exact hn185_1) (.int .i64 ((rd_T36 l0_2 x26_2).f1))).trans hx185_0; replace hx185_0 := (cell_far (p := ⟨gb183, 2, none⟩) (by first | (rw [add_block]; exact hn185_2) | (show (Addr.add _ _).block ≠ _; rw [add_block]; exact hn185_2) | exact hn185_2) (.int .i64 ((rd_T36 l0_2 x26_2).f2))).trans hx185_0; (try have hy185_0 := fun (n_ : Nat) => (show (((((w31.drewN n_).setCell ⟨gb183, 0, none⟩ (.int .i64 ((rd_T36 l0_2 x26_2).f0))).setCell ⟨gb183, 1, none⟩ (.int .i64 ((rd_T36 l0_2 x26_2).f1))).setCell ⟨gb183, 2, none⟩ (.int .i64 ((rd_T36 l0_2 x26_2).f2)))).cell? _ = some _ from hx185_0)); clear hn185_0; clear hn185_1; clear hn185_2; replace p185 := eq_true p185; replace q185 := eq_true q185; have p186 : 0 ≤ (((rd_T36 l0_2 x26_2).f1) : Int) := of_decide_eq_true (by first | (with_reducible assumption) | assumption); have q186 : ((rd_T36 l0_2 x26_2).f1) < (l1_1.length : Int) := of_decide_eq_true (by first | (with_reducible assumption) | assumption); obtain ⟨ad186, e186, hx186_0⟩ := Kd.at_int HR1_1.out ((rd_T36 l0_2 x26_2).f1) p186 q186; obtain rfl : ad185 = ad186 := (by injection e186); have hn186_0 : ad185.block ≠ gb183 := Nat.ne_of_lt (Nat.lt_of_lt_of_le (by have := World.block_lt_of_cell? _ _ hx186_0; first | rwa [add_block] at this | exact this) GW183.out); have hn186_1 : ad185.block ≠ gb183 := Nat.ne_of_lt (Nat.lt_of_lt_of_le (by have := World.block_lt_of_cell? _ _ hx186_0; first | rwa [add_block] at this | exact this) GW183.out); have hn186_2 : ad185.block ≠ gb183 := Nat.ne_of_lt (Nat.lt_of_lt_of_le (by have := World.block_lt_of_cell? _ _ hx186_0; first | rwa [add_block] at this | exact this) GW183.out); replace hx186_0 := (HB.out.cell (World.block_lt_of_cell? w _ hx186_0)).trans hx186_0; replace hx186_0 := (cell_far (p := ⟨gb183, 0, none⟩) (by first | (rw [add_block]; exact hn186_0) | (show (Addr.add _ _).block ≠ _; rw [add_block]; exact hn186_0) | exact hn186_0) (.int .i64 ((rd_T36 l0_2 x26_2).f0))).trans hx186_0; replace hx186_0 := (cell_far (p := ⟨gb183, 1, none⟩) (by first | (rw [add_block]; exact hn186_1) | (show (Addr.add _ _).block ≠ _; rw [add_block]; exact hn186_1) | exact hn186_1) (.int .i64 ((rd_T36 l0_2 x26_2).f1))).trans hx186_0; replace hx186_0 := (cell_far (p := ⟨gb183, 2, none⟩) (by first | (rw [add_block]; exact hn186_2) | (show (Addr.add _ _).block ≠ _; rw [add_block]; exact hn186_2) | exact hn186_2) (.int .i64 ((rd_T36 l0_2 x26_2).f2))).trans hx186_0; (try have hy186_0 := fun (n_ : Nat) => (show (((((w31.drewN n_).setCell ⟨gb183, 0, none⟩ (.int .i64 ((rd_T36 l0_2 x26_2).f0))).setCell ⟨gb183, 1, none⟩ (.int .i64 ((rd_T36 l0_2 x26_2).f1))).setCell ⟨gb183, 2, none⟩ (.int .i64 ((rd_T36 l0_2 x26_2).f2)))).cell? _ = some _ from hx186_0)); clear hn186_0; clear hn186_1; clear hn186_2; replace p186 := eq_true p186; replace q186 := eq_true q186)); try go_wp2_with (first | ((with_reducible refine gate_dst (N := 6) rfl ?_); (try (refine gate_guard (by rfl) ?_; dsimp only)); refine box_event ?hg (N := 6) ?hd (cs := #[.int .i64 0, .int .i64 0, .int .i64 0]) (t := 36) ?hr ?_; (case hd => rfl); (case hg => rfl); (case hr => first | (go_simp; done) | (go_simp; rfl)); intro gb183 hg w31 hbox hb; have n0_ := Aside0.mk (blk_below (g := gb180) (o := .cells #[.int .i64 a0_0, .int .i64 a0_1, .slice (some ad182) l0_2.length c0_2, .slice A0_3 l0_3.length c0_3] 31 (0, 0)) (by (with_reducible repeat (first | refine blk_drewN ?_ _ | refine blk_drew ?_ | refine blk_alloc ?_ _)); exact BK180.out) hb); have n1_ := Aside0.mk (blk_below (g := gb181) (o := .cells #[.slice A1_0 l1_0.length c1_0, .slice A1_1 l1_1.length c1_1] 44 (0, 0)) (by (with_reducible repeat (first | refine blk_drewN ?_ _ | refine blk_drew ?_ | refine blk_alloc ?_ _)); exact BK181.out) hb); have n2_ := Aside0.mk (below_step (by repeat (first | (with_reducible first | exact HB.out | apply below_alloc | apply pw_below_drewN | apply below_drew1 | refine below_set ?_ GE180.out | refine below_set ?_ GE181.out) | exact HB.out)) hb); have n3_ := Aside0.mk (hbox); have n4_ := Aside0.mk ((by rw [hg]; exact (below_size (by repeat (first | (with_reducible first | exact HB.out | apply below_alloc | apply pw_below_drewN | apply below_drew1 | refine below_set ?_ GE180.out | refine below_set ?_ GE181.out) | exact HB.out))) : w.heap.size ≤ gb183)); have n5_ := Aside0.mk ((by rw [hg]; exact (below_size (by repeat (first | (with_reducible first | exact HB.out | apply below_alloc | apply pw_below_drewN | apply below_drew1 | refine below_set ?_ GE180.out | refine below_set ?_ GE181.out) | exact HB.out))) : w.heap.size ≤ gb183)); have n6_ := Aside0.mk ((by rw [hg]; exact Nat.ne_of_lt (blk_lt (g := gb180) (o := .cells #[.int .i64 a0_0, .int .i64 a0_1, .slice (some ad182) l0_2.length c0_2, .slice A0_3 l0_3.length c0_3] 31 (0, 0)) (by (with_reducible repeat (first | refine blk_drewN ?_ _ | refine blk_drew ?_ | refine blk_alloc ?_ _)); exact BK180.out)) : gb180 ≠ gb183)); have n7_ := Aside0.mk ((by rw [hg]; exact Nat.ne_of_gt (blk_lt (g := gb180) (o := .cells #[.int .i64 a0_0, .int .i64 a0_1, .slice (some ad182) l0_2.length c0_2, .slice A0_3 l0_3.length c0_3] 31 (0, 0)) (by (with_reducible repeat (first | refine blk_drewN ?_ _ | refine blk_drew ?_ | refine blk_alloc ?_ _)); exact BK180.out)) : gb183 ≠ gb180)); have n8_ := Aside0.mk ((by rw [hg]; exact Nat.ne_of_lt (blk_lt (g := gb181) (o := .cells #[.slice A1_0 l1_0.length c1_0, .slice A1_1 l1_1.length c1_1] 44 (0, 0)) (by (with_reducible repeat (first | refine blk_drewN ?_ _ | refine blk_drew ?_ | refine blk_alloc ?_ _)); exact BK181.out)) : gb181 ≠ gb183)); have n9_ := Aside0.mk ((by rw [hg]; exact Nat.ne_of_gt (blk_lt (g := gb181) (o := .cells #[.slice A1_0 l1_0.length c1_0, .slice A1_1 l1_1.length c1_1] 44 (0, 0)) (by (with_reducible repeat (first | refine blk_drewN ?_ _ | refine blk_drew ?_ | refine blk_alloc ?_ _)); exact BK181.out)) : gb183 ≠ gb181)); clear BK180; clear BK181; clear HB; have BK180 := n0_; have BK181 := n1_; have HB := n2_; have BK183 := n3_; have GW183 := n4_; have GE183 := n5_; have NB180_183 := n6_; have NB183_180 := n7_; have NB181_183 := n8_; have NB183_181 := n9_; clear n0_ n1_ n2_ n3_ n4_ n5_ n6_ n7_ n8_ n9_; clear hb hbox hg; have hnb32 := NB183_180.out; have hnc32 := NB180_183.out; have hnb33 := NB183_181.out; have hnc33 := NB181_183.out; have hcz34_0 : w31.cell? ⟨gb183, 0, none⟩ = some (.int .i64 0) := (blk_cell BK183.out 0).trans rfl; have hcz34_1 : w31.cell? ⟨gb183, 1, none⟩ = some (.int .i64 0) := (blk_cell BK183.out 1).trans rfl; have hcz34_2 : w31.cell? ⟨gb183, 2, none⟩ = some (.int .i64 0) := (blk_cell BK183.out 2).trans rfl; have hfz34_0 := blk_frozen BK183.out 0; have hfz34_1 := blk_frozen BK183.out 1; have hfz34_2 := blk_frozen BK183.out 2; have hnb35 := NB181_180.out; have hnc35 := NB180_181.out; have hcz36_0 : w31.cell? ⟨gb181, 0, none⟩ = some (.slice A1_0 l1_0.length c1_0) := (blk_cell BK181.out 0).trans rfl; have hcz36_1 : w31.cell? ⟨gb181, 1, none⟩ = some (.slice A1_1 l1_1.length c1_1) := (blk_cell BK181.out 1).trans rfl; have hfz36_0 := blk_frozen BK181.out 0; have hfz36_1 := blk_frozen BK181.out 1; have p184 : 0 ≤ (x26_2 : Int) := of_decide_eq_true (by first | (with_reducible assumption) | assumption); have q184 : x26_2 < (l1_0.length : Int) := of_decide_eq_true (by first | (with_reducible assumption) | assumption); obtain ⟨ad184, e184, hx184_0⟩ := Kd.at_bool HR1_0.out x26_2 p184 q184; cases e184; have hn184_0 : ad184.block ≠ gb183 := Nat.ne_of_lt (Nat.lt_of_lt_of_le (by have := World.block_lt_of_cell? _ _ hx184_0; first | rwa [add_block] at this | exact this) GW183.out); have hn184_1 : ad184.block ≠ gb183 := Nat.ne_of_lt (Nat.lt_of_lt_of_le (by have := World.block_lt_of_cell? _ _ hx184_0; first | rwa [add_block] at this | exact this) GW183.out); have hn184_2 : ad184.block ≠ gb183 := Nat.ne_of_lt (Nat.lt_of_lt_of_le (by have := World.block_lt_of_cell? _ _ hx184_0; first | rwa [add_block] at this | exact this) GW183.out); replace hx184_0 := (HB.out.cell (World.block_lt_of_cell? w _ hx184_0)).trans hx184_0; replace hx184_0 := (cell_far (p := ⟨gb183, 0, none⟩) (by first | (rw [add_block]; exact hn184_0) | (show (Addr.add _ _).block ≠ _; rw [add_block]; exact hn184_0) | exact hn184_0) (.int .i64 ((rd_T36 l0_2 x26_2).f0))).trans hx184_0; replace hx184_0 := (cell_far (p := ⟨gb183, 1, none⟩) (by first | (rw [add_block]; exact hn184_1) | (show (Addr.add _ _).block ≠ _; rw [add_block]; exact hn184_1) | exact hn184_1) (.int .i64 ((rd_T36 l0_2 x26_2).f1))).trans hx184_0; replace hx184_0 := (cell_far (p := ⟨gb183, 2, none⟩) (by first | (rw [add_block]; exact hn184_2) | (show (Addr.add _ _).block ≠ _; rw [add_block]; exact hn184_2) | exact hn184_2) (.int .i64 ((rd_T36 l0_2 x26_2).f2))).trans hx184_0; (try have hy184_0 := fun (n_ : Nat) => (show (((((w31.drewN n_).setCell ⟨gb183, 0, none⟩ (.int .i64 ((rd_T36 l0_2 x26_2).f0))).setCell ⟨gb183, 1, none⟩ (.int .i64 ((rd_T36 l0_2 x26_2).f1))).setCell ⟨gb183, 2, none⟩ (.int .i64 ((rd_T36 l0_2 x26_2).f2)))).cell? _ = some _ from hx184_0)); clear hn184_0; clear hn184_1; clear hn184_2; replace p184 := eq_true p184; replace q184 := eq_true q184; have p185 : 0 ≤ (((rd_T36 l0_2 x26_2).f0) : Int) := of_decide_eq_true (by first | (with_reducible assumption) | assumption); have q185 : ((rd_T36 l0_2 x26_2).f0) < (l1_1.length : Int) := of_decide_eq_true (by first | (with_reducible assumption) | assumption); obtain ⟨ad185, e185, hx185_0⟩ := Kd.at_int HR1_1.out ((rd_T36 l0_2 x26_2).f0) p185 q185; cases e185; have hn185_0 : ad185.block ≠ gb183 := Nat.ne_of_lt (Nat.lt_of_lt_of_le (by have := World.block_lt_of_cell? _ _ hx185_0; first | rwa [add_block] at this | exact this) GW183.out); have hn185_1 : ad185.block ≠ gb183 := Nat.ne_of_lt (Nat.lt_of_lt_of_le (by have := World.block_lt_of_cell? _ _ hx185_0; first | rwa [add_block] at this | exact this) GW183.out); have hn185_2 : ad185.block ≠ gb183 := Nat.ne_of_lt (Nat.lt_of_lt_of_le (by have := World.block_lt_of_cell? _ _ hx185_0; first | rwa [add_block] at this | exact this) GW183.out); replace hx185_0 := (HB.out.cell (World.block_lt_of_cell? w _ hx185_0)).trans hx185_0; replace hx185_0 := (cell_far (p := ⟨gb183, 0, none⟩) (by first | (rw [add_block]; exact hn185_0) | (show (Addr.add _ _).block ≠ _; rw [add_block]; exact hn185_0) | exact hn185_0) (.int .i64 ((rd_T36 l0_2 x26_2).f0))).trans hx185_0; replace hx185_0 := (cell_far (p := ⟨gb183, 1, none⟩) (by first | (rw [add_block]; exact hn185_1) | (show (Addr.add _ _).block ≠ _; rw [add_block]; exact hn185_1) | exact hn185_1) (.int .i64 ((rd_T36 l0_2 x26_2).f1))).trans hx185_0; replace hx185_0 := (cell_far (p := ⟨gb183, 2, none⟩) (by first | (rw [add_block]; exact hn185_2) | (show (Addr.add _ _).block ≠ _; rw [add_block]; exact hn185_2) | exact hn185_2) (.int .i64 ((rd_T36 l0_2 x26_2).f2))).trans hx185_0; (try have hy185_0 := fun (n_ : Nat) => (show (((((w31.drewN n_).setCell ⟨gb183, 0, none⟩ (.int .i64 ((rd_T36 l0_2 x26_2).f0))).setCell ⟨gb183, 1, none⟩ (.int .i64 ((rd_T36 l0_2 x26_2).f1))).setCell ⟨gb183, 2, none⟩ (.int .i64 ((rd_T36 l0_2 x26_2).f2)))).cell? _ = some _ from hx185_0)); clear hn185_0; clear hn185_1; clear hn185_2; replace p185 := eq_true p185; replace q185 := eq_true q185; have p186 : 0 ≤ (((rd_T36 l0_2 x26_2).f1) : Int) := of_decide_eq_true (by first | (with_reducible assumption) | assumption); have q186 : ((rd_T36 l0_2 x26_2).f1) < (l1_1.length : Int) := of_decide_eq_true (by first | (with_reducible assumption) | assumption); obtain ⟨ad186, e186, hx186_0⟩ := Kd.at_int HR1_1.out ((rd_T36 l0_2 x26_2).f1) p186 q186; obtain rfl : ad185 = ad186 := (by injection e186); have hn186_0 : ad185.block ≠ gb183 := Nat.ne_of_lt (Nat.lt_of_lt_of_le (by have := World.block_lt_of_cell? _ _ hx186_0; first | rwa [add_block] at this | exact this) GW183.out); have hn186_1 : ad185.block ≠ gb183 := Nat.ne_of_lt (Nat.lt_of_lt_of_le (by have := World.block_lt_of_cell? _ _ hx186_0; first | rwa [add_block] at this | exact this) GW183.out); have hn186_2 : ad185.block ≠ gb183 := Nat.ne_of_lt (Nat.lt_of_lt_of_le (by have := World.block_lt_of_cell? _ _ hx186_0; first | rwa [add_block] at this | exact this) GW183.out); replace hx186_0 := (HB.out.cell (World.block_lt_of_cell? w _ hx186_0)).trans hx186_0; replace hx186_0 := (cell_far (p := ⟨gb183, 0, none⟩) (by first | (rw [add_block]; exact hn186_0) | (show (Addr.add _ _).block ≠ _; rw [add_block]; exact hn186_0) | exact hn186_0) (.int .i64 ((rd_T36 l0_2 x26_2).f0))).trans hx186_0; replace hx186_0 := (cell_far (p := ⟨gb183, 1, none⟩) (by first | (rw [add_block]; exact hn186_1) | (show (Addr.add _ _).block ≠ _; rw [add_block]; exact hn186_1) | exact hn186_1) (.int .i64 ((rd_T36 l0_2 x26_2).f1))).trans hx186_0; replace hx186_0 := (cell_far (p := ⟨gb183, 2, none⟩) (by first | (rw [add_block]; exact hn186_2) | (show (Addr.add _ _).block ≠ _; rw [add_block]; exact hn186_2) | exact hn186_2) (.int .i64 ((rd_T36 l0_2 x26_2).f2))).trans hx186_0; (try have hy186_0 := fun (n_ : Nat) => (show (((((w31.drewN n_).setCell ⟨gb183, 0, none⟩ (.int .i64 ((rd_T36 l0_2 x26_2).f0))).setCell ⟨gb183, 1, none⟩ (.int .i64 ((rd_T36 l0_2 x26_2).f1))).setCell ⟨gb183, 2, none⟩ (.int .i64 ((rd_T36 l0_2 x26_2).f2)))).cell? _ = some _ from hx186_0)); clear hn186_0; clear hn186_1; clear hn186_2; replace p186 := eq_true p186; replace q186 := eq_true q186)))
                              go_roundg k2
                              case measure => have := HJ2.out; have := HK2.out; omega
                              case rel => exact ⟨(wrap64 (x26_2 + 1)), (by first | rfl | (simp; done) | (simp [*]; done)), H', ⟨by have := HJ2.out; have := HK2.out; omega⟩, ⟨by (with_reducible repeat (first | refine blk_drewN ?_ _ | refine blk_drew ?_ | refine blk_alloc ?_ _)); refine blk_far ?_ NB180_183.out _; (with_reducible repeat (first | refine blk_drewN ?_ _ | refine blk_drew ?_ | refine blk_alloc ?_ _)); refine blk_far ?_ NB180_183.out _; (with_reducible repeat (first | refine blk_drewN ?_ _ | refine blk_drew ?_ | refine blk_alloc ?_ _)); refine blk_far ?_ NB180_183.out _; (with_reducible repeat (first | refine blk_drewN ?_ _ | refine blk_drew ?_ | refine blk_alloc ?_ _)); exact BK180.out⟩, ⟨by (with_reducible repeat (first | refine blk_drewN ?_ _ | refine blk_drew ?_ | refine blk_alloc ?_ _)); refine blk_far ?_ NB181_183.out _; (with_reducible repeat (first | refine blk_drewN ?_ _ | refine blk_drew ?_ | refine blk_alloc ?_ _)); refine blk_far ?_ NB181_183.out _; (with_reducible repeat (first | refine blk_drewN ?_ _ | refine blk_drew ?_ | refine blk_alloc ?_ _)); refine blk_far ?_ NB181_183.out _; (with_reducible repeat (first | refine blk_drewN ?_ _ | refine blk_drew ?_ | refine blk_alloc ?_ _)); exact BK181.out⟩, ⟨by repeat (first | (with_reducible first | exact HB.out | apply below_alloc | apply pw_below_drewN | apply below_drew1 | refine below_set ?_ GE180.out | refine below_set ?_ GE181.out | refine below_set ?_ GE183.out) | exact HB.out)⟩⟩
                          · rw [if_neg c23] at H
                            exact absurd H (by simp)
                        · rw [if_neg c22] at H
                          exact absurd H (by simp)
                      · rw [if_neg c21] at H
                        exact absurd H (by simp)
                    · rw [if_neg c20] at H
                      exact absurd H (by simp)
                  · rw [if_neg c19] at H
                    exact absurd H (by simp)
                · rw [if_neg c18] at H
                  exact absurd H (by simp)
              · rw [if_neg c17] at H
                exact absurd H (by simp)
            · rw [if_neg c16] at H
              have c16b0 : decide (x26_2 < (l0_2.length : Int)) = false := decide_eq_false c16
              clear c16
              have H' := Aside0.mk H
              clear H
              have hnb37 := NB180_181.out
              have hnc37 := NB181_180.out
              have hcz38_0 : wr.cell? ⟨gb180, 0, none⟩ = some (.int .i64 a0_0) := (blk_cell BK180.out 0).trans rfl
              have hcz38_1 : wr.cell? ⟨gb180, 1, none⟩ = some (.int .i64 a0_1) := (blk_cell BK180.out 1).trans rfl
              have hcz38_2 : wr.cell? ⟨gb180, 2, none⟩ = some (.slice A0_2 l0_2.length c0_2) := (blk_cell BK180.out 2).trans rfl
              have hcz38_3 : wr.cell? ⟨gb180, 3, none⟩ = some (.slice A0_3 l0_3.length c0_3) := (blk_cell BK180.out 3).trans rfl
              have hfz38_0 := blk_frozen BK180.out 0
              have hfz38_1 := blk_frozen BK180.out 1
              have hfz38_2 := blk_frozen BK180.out 2
              have hfz38_3 := blk_frozen BK180.out 3
              go_wp2
              repeat (go_quiet (fail); try go_wp2)
              go_loopg [57] k2 (fun kq v57 w' => ∃ (x57_3 : Int), v57 = .int .i64 x57_3 ∧ Aside0 (interleaveref31_Satisfies.l1 kq l0_3 (l0_3.length : Int) x57_3 l1_0 l1_1 = some r) ∧ Aside0 (kq ≤ k2) ∧ Aside0 (w'.heap[gb180]? = some (.cells #[.int .i64 a0_0, .int .i64 a0_1, (.slice A0_2 l0_2.length c0_2), (.slice A0_3 l0_3.length c0_3)] 31 (0, 0))) ∧ Aside0 (w'.heap[gb181]? = some (.cells #[(.slice A1_0 l1_0.length c1_0), (.slice A1_1 l1_1.length c1_1)] 44 (0, 0))) ∧ Aside0 (Below w.heap.size w w'))
              case atStart => exact ⟨(0), (by first | rfl | (simp; done) | (simp [*]; done)), H', ⟨Nat.le_refl _⟩, ⟨by (with_reducible repeat (first | refine blk_drewN ?_ _ | refine blk_drew ?_ | refine blk_alloc ?_ _)); exact BK180.out⟩, ⟨by (with_reducible repeat (first | refine blk_drewN ?_ _ | refine blk_drew ?_ | refine blk_alloc ?_ _)); exact BK181.out⟩, ⟨by repeat (first | (with_reducible first | exact HB.out | apply below_alloc | apply pw_below_drewN | apply below_drew1 | refine below_set ?_ GE180.out | refine below_set ?_ GE181.out) | exact HB.out)⟩⟩
              case round => as_aux_lemma =>
                clear H'
                try clear c1
                try clear p1
                try clear q1
                try clear hx1
                try clear c2
                try clear p2
                try clear c3
                try clear c6
                try clear c6b0
                try clear c6b1
                try clear p6
                try clear c7
                try clear c10
                try clear c13
                try clear c14
                try clear c16
                try clear c16b0
                try clear c17
                try clear c17b0
                try clear c18
                try clear c18b0
                try clear p18
                try clear q18
                try clear hx18
                try clear c19
                try clear c19b0
                try clear c20
                try clear c20b0
                try clear c21
                try clear c21b0
                try clear c22
                try clear c22b0
                try clear c23
                try clear c23b0
                try clear c24
                try clear c24b0
                try clear c24b1
                try clear c24b2
                try clear c26
                try clear c27
                try clear c29
                try clear c32
                try clear c33
                try clear c35
                try clear c37
                try clear hcz11_0
                try clear hcz11_1
                try clear hcz12_0
                try clear hcz12_1
                try clear hcz12_2
                try clear hcz12_3
                try clear hcz15_0
                try clear hcz15_1
                try clear hcz15_2
                try clear hcz15_3
                try clear hcz28_0
                try clear hcz28_1
                try clear hcz28_2
                try clear hcz30_0
                try clear hcz30_1
                try clear hcz34_0
                try clear hcz34_1
                try clear hcz34_2
                try clear hcz36_0
                try clear hcz36_1
                try clear hcz38_0
                try clear hcz38_1
                try clear hcz38_2
                try clear hcz38_3
                try clear hcz8_0
                try clear hcz8_1
                try clear hcz9_0
                try clear hcz9_1
                try clear hcz9_2
                try clear hcz9_3
                try clear hfz11_0
                try clear hfz11_1
                try clear hfz12_0
                try clear hfz12_1
                try clear hfz12_2
                try clear hfz12_3
                try clear hfz15_0
                try clear hfz15_1
                try clear hfz15_2
                try clear hfz15_3
                try clear hfz28_0
                try clear hfz28_1
                try clear hfz28_2
                try clear hfz30_0
                try clear hfz30_1
                try clear hfz34_0
                try clear hfz34_1
                try clear hfz34_2
                try clear hfz36_0
                try clear hfz36_1
                try clear hfz38_0
                try clear hfz38_1
                try clear hfz38_2
                try clear hfz38_3
                try clear hfz8_0
                try clear hfz8_1
                try clear hfz9_0
                try clear hfz9_1
                try clear hfz9_2
                try clear hfz9_3
                try clear hx182_0
                try clear hx182_1
                try clear hx182_2
                try clear hx184_0
                try clear hx185_0
                try clear hx186_0
                try clear p182
                try clear p184
                try clear p185
                try clear p186
                try clear p2
                try clear q182
                try clear q184
                try clear q185
                try clear q186
                obtain ⟨x57_3, rfl, HA, HK3, BK180, BK181, HB⟩ := hrel
                cases gk with
                | zero => exact absurd HA.out (by simp [interleaveref31_Satisfies.l1])
                | succ k3 =>
                  have H := HA.out
                  clear HA
                  simp only [interleaveref31_Satisfies.l1] at H
                  by_cases c39 : x57_3 < (l0_3.length : Int)
                  · rw [if_pos c39] at H
                    have c39b0 : decide (x57_3 < (l0_3.length : Int)) = true := decide_eq_true c39
                    clear c39
                    by_cases c40 : 0 ≤ x57_3
                    · rw [if_pos c40] at H
                      have c40b0 : decide (0 ≤ x57_3) = true := decide_eq_true c40
                      clear c40
                      by_cases c41 : x57_3 < (l0_3.length : Int)
                      · rw [if_pos c41] at H
                        have c41b0 : decide (x57_3 < (l0_3.length : Int)) = true := decide_eq_true c41
                        clear c41
                        replace H := Option.bind_eq_some_iff.mp H
                        obtain ⟨t188, A420, H⟩ := H
                        replace H : (if t188 = true then (interleaveref31_Satisfies.l1 k3 l0_3 (l0_3.length : Int) (wrap64 (x57_3 + 1)) l1_0 l1_1) else (some false)) = some r := H
                        have A42 := Aside0.mk A420
                        clear A420
                        by_cases c43 : t188 = true
                        · subst c43
                          have H1 : (interleaveref31_Satisfies.l1 k3 l0_3 (l0_3.length : Int) (wrap64 (x57_3 + 1)) l1_0 l1_1) = some r := by rw [if_pos rfl] at H; exact H
                          clear H
                          have H := H1
                          clear H1
                          have H' := Aside0.mk H
                          clear H
                          have p187 : 0 ≤ (x57_3 : Int) := of_decide_eq_true (by first | (with_reducible assumption) | assumption)
                          have q187 : x57_3 < (l0_3.length : Int) := of_decide_eq_true (by first | (with_reducible assumption) | assumption)
                          obtain ⟨ad187, A187_0, c187_0, e187, hx187_0, hl187_0, hi187_0⟩ := at_L2 HR0_3.out x57_3 p187 q187
                          cases e187
                          replace hx187_0 := (HB.out.cell (World.block_lt_of_cell? w _ hx187_0)).trans hx187_0
                          have HR187_0 := Aside0.mk hi187_0
                          have HC187_0 := Aside0.mk hl187_0
                          clear hi187_0 hl187_0
                          replace p187 := eq_true p187
                          replace q187 := eq_true q187
                          have hnb44 := NB181_180.out
                          have hnc44 := NB180_181.out
                          have hcz45_0 : wr.cell? ⟨gb181, 0, none⟩ = some (.slice A1_0 l1_0.length c1_0) := (blk_cell BK181.out 0).trans rfl
                          have hcz45_1 : wr.cell? ⟨gb181, 1, none⟩ = some (.slice A1_1 l1_1.length c1_1) := (blk_cell BK181.out 1).trans rfl
                          have hfz45_0 := blk_frozen BK181.out 0
                          have hfz45_1 := blk_frozen BK181.out 1
                          go_wp2_with (first | (go_at_call 42; (with_reducible refine (interleaveref31_Any.calls k3 _ _ (rd_L2 l0_3 x57_3) _ _ l1_0 _ _ l1_1 true _ ?side1 ?side2 ?side3 ?side4 ?side5 ?side6 A42.out).mono ?_); (case side1 => repeat (first | exact (Kd.C_below HR187_0.out HB.out) | (with_reducible refine Kd.C_alloc ?_ _) | (with_reducible refine Kd.C_drewN ?_ _) | (with_reducible refine Kd.C_drew ?_))); (case side2 => exact HC187_0.out); (case side3 => repeat (first | exact (Kd.C_below HR1_0.out HB.out) | (with_reducible refine Kd.C_alloc ?_ _) | (with_reducible refine Kd.C_drewN ?_ _) | (with_reducible refine Kd.C_drew ?_))); (case side4 => exact HC1_0.out); (case side5 => repeat (first | exact (Kd.C_below HR1_1.out HB.out) | (with_reducible refine Kd.C_alloc ?_ _) | (with_reducible refine Kd.C_drewN ?_ _) | (with_reducible refine Kd.C_drew ?_))); (case side6 => exact HC1_1.out); rintro e w46 ⟨rfl, hb⟩; have n0_ := Aside0.mk (blk_below (g := gb180) (o := .cells #[.int .i64 a0_0, .int .i64 a0_1, .slice A0_2 l0_2.length c0_2, .slice (some ad187) l0_3.length c0_3] 31 (0, 0)) (by (with_reducible repeat (first | refine blk_drewN ?_ _ | refine blk_drew ?_ | refine blk_alloc ?_ _)); exact BK180.out) hb); have n1_ := Aside0.mk (blk_below (g := gb181) (o := .cells #[.slice A1_0 l1_0.length c1_0, .slice A1_1 l1_1.length c1_1] 44 (0, 0)) (by (with_reducible repeat (first | refine blk_drewN ?_ _ | refine blk_drew ?_ | refine blk_alloc ?_ _)); exact BK181.out) hb); have n2_ := Aside0.mk (below_step (by repeat (first | (with_reducible first | exact HB.out | apply below_alloc | apply pw_below_drewN | apply below_drew1 | refine below_set ?_ GE180.out | refine below_set ?_ GE181.out) | exact HB.out)) hb); clear BK180; clear BK181; clear HB; have BK180 := n0_; have BK181 := n1_; have HB := n2_; clear n0_ n1_ n2_; (try clear hb); (try clear hb2); (try clear hk); (try clear hi)))
                          repeat (go_quiet (first | (go_at_call 42; (with_reducible refine (interleaveref31_Any.calls k3 _ _ (rd_L2 l0_3 x57_3) _ _ l1_0 _ _ l1_1 true _ ?side1 ?side2 ?side3 ?side4 ?side5 ?side6 A42.out).mono ?_); (case side1 => repeat (first | exact (Kd.C_below HR187_0.out HB.out) | (with_reducible refine Kd.C_alloc ?_ _) | (with_reducible refine Kd.C_drewN ?_ _) | (with_reducible refine Kd.C_drew ?_))); (case side2 => exact HC187_0.out); (case side3 => repeat (first | exact (Kd.C_below HR1_0.out HB.out) | (with_reducible refine Kd.C_alloc ?_ _) | (with_reducible refine Kd.C_drewN ?_ _) | (with_reducible refine Kd.C_drew ?_))); (case side4 => exact HC1_0.out); (case side5 => repeat (first | exact (Kd.C_below HR1_1.out HB.out) | (with_reducible refine Kd.C_alloc ?_ _) | (with_reducible refine Kd.C_drewN ?_ _) | (with_reducible refine Kd.C_drew ?_))); (case side6 => exact HC1_1.out); rintro e w46 ⟨rfl, hb⟩; have n0_ := Aside0.mk (blk_below (g := gb180) (o := .cells #[.int .i64 a0_0, .int .i64 a0_1, .slice A0_2 l0_2.length c0_2, .slice (some ad187) l0_3.length c0_3] 31 (0, 0)) (by (with_reducible repeat (first | refine blk_drewN ?_ _ | refine blk_drew ?_ | refine blk_alloc ?_ _)); exact BK180.out) hb); have n1_ := Aside0.mk (blk_below (g := gb181) (o := .cells #[.slice A1_0 l1_0.length c1_0, .slice A1_1 l1_1.length c1_1] 44 (0, 0)) (by (with_reducible repeat (first | refine blk_drewN ?_ _ | refine blk_drew ?_ | refine blk_alloc ?_ _)); exact BK181.out) hb); have n2_ := Aside0.mk (below_step (by repeat (first | (with_reducible first | exact HB.out | apply below_alloc | apply pw_below_drewN | apply below_drew1 | refine below_set ?_ GE180.out | refine below_set ?_ GE181.out) | exact HB.out)) hb); clear BK180; clear BK181; clear HB; have BK180 := n0_; have BK181 := n1_; have HB := n2_; clear n0_ n1_ n2_; (try clear hb); (try clear hb2); (try clear hk); (try clear hi))); try go_wp2_with (first | (go_at_call 42; (with_reducible refine (interleaveref31_Any.calls k3 _ _ (rd_L2 l0_3 x57_3) _ _ l1_0 _ _ l1_1 true _ ?side1 ?side2 ?side3 ?side4 ?side5 ?side6 A42.out).mono ?_); (case side1 => repeat (first | exact (Kd.C_below HR187_0.out HB.out) | (with_reducible refine Kd.C_alloc ?_ _) | (with_reducible refine Kd.C_drewN ?_ _) | (with_reducible refine Kd.C_drew ?_))); (case side2 => exact HC187_0.out); (case side3 => repeat (first | exact (Kd.C_below HR1_0.out HB.out) | (with_reducible refine Kd.C_alloc ?_ _) | (with_reducible refine Kd.C_drewN ?_ _) | (with_reducible refine Kd.C_drew ?_))); (case side4 => exact HC1_0.out); (case side5 => repeat (first | exact (Kd.C_below HR1_1.out HB.out) | (with_reducible refine Kd.C_alloc ?_ _) | (with_reducible refine Kd.C_drewN ?_ _) | (with_reducible refine Kd.C_drew ?_))); (case side6 => exact HC1_1.out); rintro e w46 ⟨rfl, hb⟩; have n0_ := Aside0.mk (blk_below (g := gb180) (o := .cells #[.int .i64 a0_0, .int .i64 a0_1, .slice A0_2 l0_2.length c0_2, .slice (some ad187) l0_3.length c0_3] 31 (0, 0)) (by (with_reducible repeat (first | refine blk_drewN ?_ _ | refine blk_drew ?_ | refine blk_alloc ?_ _)); exact BK180.out) hb); have n1_ := Aside0.mk (blk_below (g := gb181) (o := .cells #[.slice A1_0 l1_0.length c1_0, .slice A1_1 l1_1.length c1_1] 44 (0, 0)) (by (with_reducible repeat (first | refine blk_drewN ?_ _ | refine blk_drew ?_ | refine blk_alloc ?_ _)); exact BK181.out) hb); have n2_ := Aside0.mk (below_step (by repeat (first | (with_reducible first | exact HB.out | apply below_alloc | apply pw_below_drewN | apply below_drew1 | refine below_set ?_ GE180.out | refine below_set ?_ GE181.out) | exact HB.out)) hb); clear BK180; clear BK181; clear HB; have BK180 := n0_; have BK181 := n1_; have HB := n2_; clear n0_ n1_ n2_; (try clear hb); (try clear hb2); (try clear hk); (try clear hi))))
                          go_roundg k3
                          case measure => have := HJ2.out; have := HK2.out; have := HK3.out; omega
                          case rel => exact ⟨(wrap64 (x57_3 + 1)), (by first | rfl | (simp; done) | (simp [*]; done)), H', ⟨by have := HJ2.out; have := HK2.out; have := HK3.out; omega⟩, ⟨by (with_reducible repeat (first | refine blk_drewN ?_ _ | refine blk_drew ?_ | refine blk_alloc ?_ _)); exact BK180.out⟩, ⟨by (with_reducible repeat (first | refine blk_drewN ?_ _ | refine blk_drew ?_ | refine blk_alloc ?_ _)); exact BK181.out⟩, ⟨by repeat (first | (with_reducible first | exact HB.out | apply below_alloc | apply pw_below_drewN | apply below_drew1 | refine below_set ?_ GE180.out | refine below_set ?_ GE181.out) | exact HB.out)⟩⟩
                        · replace c43 := Bool.eq_false_iff.mpr c43
                          subst c43
                          have H1 : (some false) = some r := by rw [if_neg (show ¬ (false = true) by decide)] at H; exact H
                          clear H
                          have H := H1
                          clear H1
                          obtain rfl := Option.some.inj H
                          have p187 : 0 ≤ (x57_3 : Int) := of_decide_eq_true (by first | (with_reducible assumption) | assumption)
                          have q187 : x57_3 < (l0_3.length : Int) := of_decide_eq_true (by first | (with_reducible assumption) | assumption)
                          obtain ⟨ad187, A187_0, c187_0, e187, hx187_0, hl187_0, hi187_0⟩ := at_L2 HR0_3.out x57_3 p187 q187
                          cases e187
                          replace hx187_0 := (HB.out.cell (World.block_lt_of_cell? w _ hx187_0)).trans hx187_0
                          have HR187_0 := Aside0.mk hi187_0
                          have HC187_0 := Aside0.mk hl187_0
                          clear hi187_0 hl187_0
                          replace p187 := eq_true p187
                          replace q187 := eq_true q187
                          have hnb47 := NB181_180.out
                          have hnc47 := NB180_181.out
                          have hcz48_0 : wr.cell? ⟨gb181, 0, none⟩ = some (.slice A1_0 l1_0.length c1_0) := (blk_cell BK181.out 0).trans rfl
                          have hcz48_1 : wr.cell? ⟨gb181, 1, none⟩ = some (.slice A1_1 l1_1.length c1_1) := (blk_cell BK181.out 1).trans rfl
                          have hfz48_0 := blk_frozen BK181.out 0
                          have hfz48_1 := blk_frozen BK181.out 1
                          go_wp2_with (first | (go_at_call 42; (with_reducible refine (interleaveref31_Any.calls k3 _ _ (rd_L2 l0_3 x57_3) _ _ l1_0 _ _ l1_1 false _ ?side1 ?side2 ?side3 ?side4 ?side5 ?side6 A42.out).mono ?_); (case side1 => repeat (first | exact (Kd.C_below HR187_0.out HB.out) | (with_reducible refine Kd.C_alloc ?_ _) | (with_reducible refine Kd.C_drewN ?_ _) | (with_reducible refine Kd.C_drew ?_))); (case side2 => exact HC187_0.out); (case side3 => repeat (first | exact (Kd.C_below HR1_0.out HB.out) | (with_reducible refine Kd.C_alloc ?_ _) | (with_reducible refine Kd.C_drewN ?_ _) | (with_reducible refine Kd.C_drew ?_))); (case side4 => exact HC1_0.out); (case side5 => repeat (first | exact (Kd.C_below HR1_1.out HB.out) | (with_reducible refine Kd.C_alloc ?_ _) | (with_reducible refine Kd.C_drewN ?_ _) | (with_reducible refine Kd.C_drew ?_))); (case side6 => exact HC1_1.out); rintro e w49 ⟨rfl, hb⟩; have n0_ := Aside0.mk (blk_below (g := gb180) (o := .cells #[.int .i64 a0_0, .int .i64 a0_1, .slice A0_2 l0_2.length c0_2, .slice (some ad187) l0_3.length c0_3] 31 (0, 0)) (by (with_reducible repeat (first | refine blk_drewN ?_ _ | refine blk_drew ?_ | refine blk_alloc ?_ _)); exact BK180.out) hb); have n1_ := Aside0.mk (blk_below (g := gb181) (o := .cells #[.slice A1_0 l1_0.length c1_0, .slice A1_1 l1_1.length c1_1] 44 (0, 0)) (by (with_reducible repeat (first | refine blk_drewN ?_ _ | refine blk_drew ?_ | refine blk_alloc ?_ _)); exact BK181.out) hb); have n2_ := Aside0.mk (below_step (by repeat (first | (with_reducible first | exact HB.out | apply below_alloc | apply pw_below_drewN | apply below_drew1 | refine below_set ?_ GE180.out | refine below_set ?_ GE181.out) | exact HB.out)) hb); clear BK180; clear BK181; clear HB; have BK180 := n0_; have BK181 := n1_; have HB := n2_; clear n0_ n1_ n2_; (try clear hb); (try clear hb2); (try clear hk); (try clear hi)))
                          repeat (go_quiet (first | (go_at_call 42; (with_reducible refine (interleaveref31_Any.calls k3 _ _ (rd_L2 l0_3 x57_3) _ _ l1_0 _ _ l1_1 false _ ?side1 ?side2 ?side3 ?side4 ?side5 ?side6 A42.out).mono ?_); (case side1 => repeat (first | exact (Kd.C_below HR187_0.out HB.out) | (with_reducible refine Kd.C_alloc ?_ _) | (with_reducible refine Kd.C_drewN ?_ _) | (with_reducible refine Kd.C_drew ?_))); (case side2 => exact HC187_0.out); (case side3 => repeat (first | exact (Kd.C_below HR1_0.out HB.out) | (with_reducible refine Kd.C_alloc ?_ _) | (with_reducible refine Kd.C_drewN ?_ _) | (with_reducible refine Kd.C_drew ?_))); (case side4 => exact HC1_0.out); (case side5 => repeat (first | exact (Kd.C_below HR1_1.out HB.out) | (with_reducible refine Kd.C_alloc ?_ _) | (with_reducible refine Kd.C_drewN ?_ _) | (with_reducible refine Kd.C_drew ?_))); (case side6 => exact HC1_1.out); rintro e w49 ⟨rfl, hb⟩; have n0_ := Aside0.mk (blk_below (g := gb180) (o := .cells #[.int .i64 a0_0, .int .i64 a0_1, .slice A0_2 l0_2.length c0_2, .slice (some ad187) l0_3.length c0_3] 31 (0, 0)) (by (with_reducible repeat (first | refine blk_drewN ?_ _ | refine blk_drew ?_ | refine blk_alloc ?_ _)); exact BK180.out) hb); have n1_ := Aside0.mk (blk_below (g := gb181) (o := .cells #[.slice A1_0 l1_0.length c1_0, .slice A1_1 l1_1.length c1_1] 44 (0, 0)) (by (with_reducible repeat (first | refine blk_drewN ?_ _ | refine blk_drew ?_ | refine blk_alloc ?_ _)); exact BK181.out) hb); have n2_ := Aside0.mk (below_step (by repeat (first | (with_reducible first | exact HB.out | apply below_alloc | apply pw_below_drewN | apply below_drew1 | refine below_set ?_ GE180.out | refine below_set ?_ GE181.out) | exact HB.out)) hb); clear BK180; clear BK181; clear HB; have BK180 := n0_; have BK181 := n1_; have HB := n2_; clear n0_ n1_ n2_; (try clear hb); (try clear hb2); (try clear hk); (try clear hi))); try go_wp2_with (first | (go_at_call 42; (with_reducible refine (interleaveref31_Any.calls k3 _ _ (rd_L2 l0_3 x57_3) _ _ l1_0 _ _ l1_1 false _ ?side1 ?side2 ?side3 ?side4 ?side5 ?side6 A42.out).mono ?_); (case side1 => repeat (first | exact (Kd.C_below HR187_0.out HB.out) | (with_reducible refine Kd.C_alloc ?_ _) | (with_reducible refine Kd.C_drewN ?_ _) | (with_reducible refine Kd.C_drew ?_))); (case side2 => exact HC187_0.out); (case side3 => repeat (first | exact (Kd.C_below HR1_0.out HB.out) | (with_reducible refine Kd.C_alloc ?_ _) | (with_reducible refine Kd.C_drewN ?_ _) | (with_reducible refine Kd.C_drew ?_))); (case side4 => exact HC1_0.out); (case side5 => repeat (first | exact (Kd.C_below HR1_1.out HB.out) | (with_reducible refine Kd.C_alloc ?_ _) | (with_reducible refine Kd.C_drewN ?_ _) | (with_reducible refine Kd.C_drew ?_))); (case side6 => exact HC1_1.out); rintro e w49 ⟨rfl, hb⟩; have n0_ := Aside0.mk (blk_below (g := gb180) (o := .cells #[.int .i64 a0_0, .int .i64 a0_1, .slice A0_2 l0_2.length c0_2, .slice (some ad187) l0_3.length c0_3] 31 (0, 0)) (by (with_reducible repeat (first | refine blk_drewN ?_ _ | refine blk_drew ?_ | refine blk_alloc ?_ _)); exact BK180.out) hb); have n1_ := Aside0.mk (blk_below (g := gb181) (o := .cells #[.slice A1_0 l1_0.length c1_0, .slice A1_1 l1_1.length c1_1] 44 (0, 0)) (by (with_reducible repeat (first | refine blk_drewN ?_ _ | refine blk_drew ?_ | refine blk_alloc ?_ _)); exact BK181.out) hb); have n2_ := Aside0.mk (below_step (by repeat (first | (with_reducible first | exact HB.out | apply below_alloc | apply pw_below_drewN | apply below_drew1 | refine below_set ?_ GE180.out | refine below_set ?_ GE181.out) | exact HB.out)) hb); clear BK180; clear BK181; clear HB; have BK180 := n0_; have BK181 := n1_; have HB := n2_; clear n0_ n1_ n2_; (try clear hb); (try clear hb2); (try clear hk); (try clear hi))))
                          go_ret
                          exact ⟨by first | rfl | (simp [errW_none, errW_some] <;> rfl) | (simp [*, errW_none, errW_some] <;> rfl), by repeat (first | (with_reducible first | exact HB.out | apply below_alloc | apply pw_below_drewN | apply below_drew1 | refine below_set ?_ GE180.out | refine below_set ?_ GE181.out) | exact HB.out)⟩
                      · rw [if_neg c41] at H
                        exact absurd H (by simp)
                    · rw [if_neg c40] at H
                      exact absurd H (by simp)
                  · rw [if_neg c39] at H
                    have c39b0 : decide (x57_3 < (l0_3.length : Int)) = false := decide_eq_false c39
                    clear c39
                    obtain rfl := Option.some.inj H
                    go_wp2
                    repeat (go_quiet (fail); try go_wp2)
                    go_ret
                    exact ⟨by first | rfl | (simp [errW_none, errW_some] <;> rfl) | (simp [*, errW_none, errW_some] <;> rfl), by repeat (first | (with_reducible first | exact HB.out | apply below_alloc | apply pw_below_drewN | apply below_drew1 | refine below_set ?_ GE180.out | refine below_set ?_ GE181.out) | exact HB.out)⟩

end Go.Proofs.YtpaoepcebcjfhaaDoor.X
