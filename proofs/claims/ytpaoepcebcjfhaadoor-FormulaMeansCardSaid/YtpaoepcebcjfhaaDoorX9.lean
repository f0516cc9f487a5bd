-- Written by this session's own program (wip/tools/xprint.py).
import Derived.Test.YtpaoepcebcjfhaaDoorX0
import Derived.Test.YtpaoepcebcjfhaaDoorX2
import Derived.Test.YtpaoepcebcjfhaaDoorX4
import Derived.Test.YtpaoepcebcjfhaaDoorX8h
namespace Go.Proofs.YtpaoepcebcjfhaaDoor.X
open Go.RowKit Go.Proofs.YtpaoepcebcjfhaaDoorW.PrintWords Go.Proofs.YtpaoepcebcjfhaaDoorW.PrintLast Go.Proofs.YtpaoepcebcjfhaaDoorW.PrintMore
attribute [local go_sem] max2_int min2_int max_two min_two max_three min_three max_four min_four   -- for this text's walks alone
set_option linter.unusedVariables false
set_option linter.unusedSimpArgs false

/-! ### interleavelaw31_FormulaMeans: function 7 -/
mutual
def interleavelaw31_FormulaMeans.j0 : Nat → List Int → Bool → List Bool → List Int → Option (Bool)
  | 0, _, _, _, _ => none
  | k + 1, x0, x25, x280000, x280001 => if x25 = true then ((interleavelaw31_awake.f k).bind fun t280 => (some t280)) else (interleavelaw31_FormulaMeans.l0 k ([] : List Int) x0 (x0.length : Int) 0 x280000 x280001)
def interleavelaw31_FormulaMeans.l0 : Nat → List Int → List Int → Int → Int → List Bool → List Int → Option (Bool)
  | 0, _, _, _, _, _, _ => none
  | k + 1, x5, x27, x28, x29, x280000, x280001 => if x29 < x28 then (if 0 ≤ x29 then (if x29 < (x27.length : Int) then (if (rd x27 x29) < 0 then (if x5.length < 17592186044416 then (interleavelaw31_FormulaMeans.l0 k (x5 ++ [wrap64 (-(wrap64 (1 + (wrap64 (Int.tmod (IntKind.u64.wrap (rd x27 x29)) 20)))))]) x27 x28 (wrap64 (x29 + 1)) x280000 x280001) else (none)) else (if x5.length < 17592186044416 then (interleavelaw31_FormulaMeans.l0 k (x5 ++ [wrap64 (1 + (wrap64 (Int.tmod (IntKind.u64.wrap (rd x27 x29)) 20)))]) x27 x28 (wrap64 (x29 + 1)) x280000 x280001) else (none))) else (none)) else (none)) else ((formula_Normal.f k x5).bind fun bt288 => (interleavelaw31_FormulaMeans.l1 k bt288.1 bt288.2 false false x5 (x5.length : Int) 0 x280000 x280001))
def interleavelaw31_FormulaMeans.l1 : Nat → List Int → Bool → Bool → Bool → List Int → Int → Int → List Bool → List Int → Option (Bool)
  | 0, _, _, _, _, _, _, _, _, _ => none
  | k + 1, x9, x10, x11, x12, x52, x53, x54, x280000, x280001 => if x54 < x53 then (if 0 ≤ x54 then (if x54 < (x52.length : Int) then (if x11 = true then (interleavelaw31_FormulaMeans.l1 k x9 x10 true x12 x52 x53 (wrap64 (x54 + 1)) x280000 x280001) else ((formula_Holds.f (rd x52 x54) x280000 x280001).bind fun t293 => (interleavelaw31_FormulaMeans.l1 k x9 x10 t293 x12 x52 x53 (wrap64 (x54 + 1)) x280000 x280001))) else (none)) else (none)) else (interleavelaw31_FormulaMeans.l2 k x9 x10 x11 x12 x9 (x9.length : Int) 0 x280000 x280001)
def interleavelaw31_FormulaMeans.l2 : Nat → List Int → Bool → Bool → Bool → List Int → Int → Int → List Bool → List Int → Option (Bool)
  | 0, _, _, _, _, _, _, _, _, _ => none
  | k + 1, x9, x10, x11, x12, x65, x66, x67, x280000, x280001 => if x67 < x66 then (if 0 ≤ x67 then (if x67 < (x65.length : Int) then (if x12 = true then (interleavelaw31_FormulaMeans.j4 k x9 x10 x11 true x67 (rd x65 x67) x65 x66 x67 x280000 x280001) else ((formula_Holds.f (rd x65 x67) x280000 x280001).bind fun t295 => (interleavelaw31_FormulaMeans.j4 k x9 x10 x11 t295 x67 (rd x65 x67) x65 x66 x67 x280000 x280001))) else (none)) else (none)) else (if x10 = true then (if (x11 == x12) = true then ((interleavelaw31_awake.f k).bind fun t299 => (some t299)) else (some false)) else (if (x9.length : Int) = 0 then (if x11 = true then ((interleavelaw31_awake.f k).bind fun t300 => (some t300)) else (if (x280000.length : Int) < 20 then ((interleavelaw31_awake.f k).bind fun t301 => (some t301)) else (some false))) else (some false)))
def interleavelaw31_FormulaMeans.j4 : Nat → List Int → Bool → Bool → Bool → Int → Int → List Int → Int → Int → List Bool → List Int → Option (Bool)
  | 0, _, _, _, _, _, _, _, _, _, _, _ => none
  | k + 1, x9, x10, x11, x12, x15, x16, x65, x66, x67, x280000, x280001 => if x15 > 0 then (if 0 ≤ (wrap64 (x15 - 1)) then (if (wrap64 (x15 - 1)) < (x9.length : Int) then ((interleaveref31_Abs.f (rd x9 (wrap64 (x15 - 1)))).bind fun t297 => ((interleaveref31_Abs.f x16).bind fun t298 => (if t297 ≥ t298 then (some false) else (interleavelaw31_FormulaMeans.l2 k x9 x10 x11 x12 x65 x66 (wrap64 (x67 + 1)) x280000 x280001)))) else (none)) else (none)) else (interleavelaw31_FormulaMeans.l2 k x9 x10 x11 x12 x65 x66 (wrap64 (x67 + 1)) x280000 x280001)
end
def interleavelaw31_FormulaMeans.f (k : Nat) (l0 : List Int) (l1_0 : List Bool) (l1_1 : List Int) : Option (Bool) := if (l0.length : Int) > 60 then (interleavelaw31_FormulaMeans.j0 k l0 true l1_0 l1_1) else (interleavelaw31_FormulaMeans.j0 k l0 (decide ((l1_0.length : Int) > 60)) l1_0 l1_1)
theorem interleavelaw31_FormulaMeans.mono_l : ∀ k, (∀ y0 y1 y2 y3, LeO (interleavelaw31_FormulaMeans.j0 k y0 y1 y2 y3) (interleavelaw31_FormulaMeans.j0 (k + 1) y0 y1 y2 y3)) ∧ (∀ y0 y1 y2 y3 y4 y5, LeO (interleavelaw31_FormulaMeans.l0 k y0 y1 y2 y3 y4 y5) (interleavelaw31_FormulaMeans.l0 (k + 1) y0 y1 y2 y3 y4 y5)) ∧ (∀ y0 y1 y2 y3 y4 y5 y6 y7 y8, LeO (interleavelaw31_FormulaMeans.l1 k y0 y1 y2 y3 y4 y5 y6 y7 y8) (interleavelaw31_FormulaMeans.l1 (k + 1) y0 y1 y2 y3 y4 y5 y6 y7 y8)) ∧ (∀ y0 y1 y2 y3 y4 y5 y6 y7 y8, LeO (interleavelaw31_FormulaMeans.l2 k y0 y1 y2 y3 y4 y5 y6 y7 y8) (interleavelaw31_FormulaMeans.l2 (k + 1) y0 y1 y2 y3 y4 y5 y6 y7 y8)) ∧ (∀ y0 y1 y2 y3 y4 y5 y6 y7 y8 y9 y10, LeO (interleavelaw31_FormulaMeans.j4 k y0 y1 y2 y3 y4 y5 y6 y7 y8 y9 y10) (interleavelaw31_FormulaMeans.j4 (k + 1) y0 y1 y2 y3 y4 y5 y6 y7 y8 y9 y10))
  | 0 => ⟨fun _ _ _ _ r h => by simp [interleavelaw31_FormulaMeans.j0] at h, fun _ _ _ _ _ _ r h => by simp [interleavelaw31_FormulaMeans.l0] at h, fun _ _ _ _ _ _ _ _ _ r h => by simp [interleavelaw31_FormulaMeans.l1] at h, fun _ _ _ _ _ _ _ _ _ r h => by simp [interleavelaw31_FormulaMeans.l2] at h, fun _ _ _ _ _ _ _ _ _ _ _ r h => by simp [interleavelaw31_FormulaMeans.j4] at h⟩
  | k + 1 => by
    obtain ⟨ih0, ih1, ih2, ih3, ih4⟩ := interleavelaw31_FormulaMeans.mono_l k
    refine ⟨?_, ?_, ?_, ?_, ?_⟩
    · intro y0 y1 y2 y3
      unfold interleavelaw31_FormulaMeans.j0
      repeat' first
      | (with_reducible exact ih0 _ _ _ _)
      | (with_reducible exact ih1 _ _ _ _ _ _)
      | (with_reducible exact ih2 _ _ _ _ _ _ _ _ _)
      | (with_reducible exact ih3 _ _ _ _ _ _ _ _ _)
      | (with_reducible exact ih4 _ _ _ _ _ _ _ _ _ _ _)
      | (with_reducible exact formula_Normal.mono _ _)
      | (with_reducible exact interleavelaw31_awake.mono _)
      | (with_reducible exact LeO.refl _)
      | (with_reducible exact LeO.none _)
      | (with_reducible refine LeO.ite ?_ ?_)
      | (with_reducible refine LeO.bind ?_ (fun _ => ?_))
      | exact ih0 _ _ _ _
      | exact ih1 _ _ _ _ _ _
      | exact ih2 _ _ _ _ _ _ _ _ _
      | exact ih3 _ _ _ _ _ _ _ _ _
      | exact ih4 _ _ _ _ _ _ _ _ _ _ _
      | exact formula_Normal.mono _ _
      | exact interleavelaw31_awake.mono _
      | exact LeO.none _
      | refine LeO.ite ?_ ?_
      | refine LeO.bind ?_ (fun _ => ?_)
    · intro y0 y1 y2 y3 y4 y5
      unfold interleavelaw31_FormulaMeans.l0
      repeat' first
      | (with_reducible exact ih0 _ _ _ _)
      | (with_reducible exact ih1 _ _ _ _ _ _)
      | (with_reducible exact ih2 _ _ _ _ _ _ _ _ _)
      | (with_reducible exact ih3 _ _ _ _ _ _ _ _ _)
      | (with_reducible exact ih4 _ _ _ _ _ _ _ _ _ _ _)
      | (with_reducible exact formula_Normal.mono _ _)
      | (with_reducible exact interleavelaw31_awake.mono _)
      | (with_reducible exact LeO.refl _)
      | (with_reducible exact LeO.none _)
      | (with_reducible refine LeO.ite ?_ ?_)
      | (with_reducible refine LeO.bind ?_ (fun _ => ?_))
      | exact ih0 _ _ _ _
      | exact ih1 _ _ _ _ _ _
      | exact ih2 _ _ _ _ _ _ _ _ _
      | exact ih3 _ _ _ _ _ _ _ _ _
      | exact ih4 _ _ _ _ _ _ _ _ _ _ _
      | exact formula_Normal.mono _ _
      | exact interleavelaw31_awake.mono _
      | exact LeO.none _
      | refine LeO.ite ?_ ?_
      | refine LeO.bind ?_ (fun _ => ?_)
    · intro y0 y1 y2 y3 y4 y5 y6 y7 y8
      unfold interleavelaw31_FormulaMeans.l1
      repeat' first
      | (with_reducible exact ih0 _ _ _ _)
      | (with_reducible exact ih1 _ _ _ _ _ _)
      | (with_reducible exact ih2 _ _ _ _ _ _ _ _ _)
      | (with_reducible exact ih3 _ _ _ _ _ _ _ _ _)
      | (with_reducible exact ih4 _ _ _ _ _ _ _ _ _ _ _)
      | (with_reducible exact formula_Normal.mono _ _)
      | (with_reducible exact interleavelaw31_awake.mono _)
      | (with_reducible exact LeO.refl _)
      | (with_reducible exact LeO.none _)
      | (with_reducible refine LeO.ite ?_ ?_)
      | (with_reducible refine LeO.bind ?_ (fun _ => ?_))
      | exact ih0 _ _ _ _
      | exact ih1 _ _ _ _ _ _
      | exact ih2 _ _ _ _ _ _ _ _ _
      | exact ih3 _ _ _ _ _ _ _ _ _
      | exact ih4 _ _ _ _ _ _ _ _ _ _ _
      | exact formula_Normal.mono _ _
      | exact interleavelaw31_awake.mono _
      | exact LeO.none _
      | refine LeO.ite ?_ ?_
      | refine LeO.bind ?_ (fun _ => ?_)
    · intro y0 y1 y2 y3 y4 y5 y6 y7 y8
      unfold interleavelaw31_FormulaMeans.l2
      repeat' first
      | (with_reducible exact ih0 _ _ _ _)
      | (with_reducible exact ih1 _ _ _ _ _ _)
      | (with_reducible exact ih2 _ _ _ _ _ _ _ _ _)
      | (with_reducible exact ih3 _ _ _ _ _ _ _ _ _)
      | (with_reducible exact ih4 _ _ _ _ _ _ _ _ _ _ _)
      | (with_reducible exact formula_Normal.mono _ _)
      | (with_reducible exact interleavelaw31_awake.mono _)
      | (with_reducible exact LeO.refl _)
      | (with_reducible exact LeO.none _)
      | (with_reducible refine LeO.ite ?_ ?_)
      | (with_reducible refine LeO.bind ?_ (fun _ => ?_))
      | exact ih0 _ _ _ _
      | exact ih1 _ _ _ _ _ _
      | exact ih2 _ _ _ _ _ _ _ _ _
      | exact ih3 _ _ _ _ _ _ _ _ _
      | exact ih4 _ _ _ _ _ _ _ _ _ _ _
      | exact formula_Normal.mono _ _
      | exact interleavelaw31_awake.mono _
      | exact LeO.none _
      | refine LeO.ite ?_ ?_
      | refine LeO.bind ?_ (fun _ => ?_)
    · intro y0 y1 y2 y3 y4 y5 y6 y7 y8 y9 y10
      unfold interleavelaw31_FormulaMeans.j4
      repeat' first
      | (with_reducible exact ih0 _ _ _ _)
      | (with_reducible exact ih1 _ _ _ _ _ _)
      | (with_reducible exact ih2 _ _ _ _ _ _ _ _ _)
      | (with_reducible exact ih3 _ _ _ _ _ _ _ _ _)
      | (with_reducible exact ih4 _ _ _ _ _ _ _ _ _ _ _)
      | (with_reducible exact formula_Normal.mono _ _)
      | (with_reducible exact interleavelaw31_awake.mono _)
      | (with_reducible exact LeO.refl _)
      | (with_reducible exact LeO.none _)
      | (with_reducible refine LeO.ite ?_ ?_)
      | (with_reducible refine LeO.bind ?_ (fun _ => ?_))
      | exact ih0 _ _ _ _
      | exact ih1 _ _ _ _ _ _
      | exact ih2 _ _ _ _ _ _ _ _ _
      | exact ih3 _ _ _ _ _ _ _ _ _
      | exact ih4 _ _ _ _ _ _ _ _ _ _ _
      | exact formula_Normal.mono _ _
      | exact interleavelaw31_awake.mono _
      | exact LeO.none _
      | refine LeO.ite ?_ ?_
      | refine LeO.bind ?_ (fun _ => ?_)
theorem interleavelaw31_FormulaMeans.mono : ∀ a0 a1 a2 k, LeO (interleavelaw31_FormulaMeans.f k a0 a1 a2) (interleavelaw31_FormulaMeans.f (k + 1) a0 a1 a2) := by
  intro a0 a1 a2 k
  obtain ⟨ih0, ih1, ih2, ih3, ih4⟩ := interleavelaw31_FormulaMeans.mono_l k
  unfold interleavelaw31_FormulaMeans.f
  repeat' first
      | (with_reducible exact ih0 _ _ _ _)
      | (with_reducible exact ih1 _ _ _ _ _ _)
      | (with_reducible exact ih2 _ _ _ _ _ _ _ _ _)
      | (with_reducible exact ih3 _ _ _ _ _ _ _ _ _)
      | (with_reducible exact ih4 _ _ _ _ _ _ _ _ _ _ _)
      | (with_reducible exact formula_Normal.mono _ _)
      | (with_reducible exact interleavelaw31_awake.mono _)
      | (with_reducible exact LeO.refl _)
      | (with_reducible exact LeO.none _)
      | (with_reducible refine LeO.ite ?_ ?_)
      | (with_reducible refine LeO.bind ?_ (fun _ => ?_))
      | exact ih0 _ _ _ _
      | exact ih1 _ _ _ _ _ _
      | exact ih2 _ _ _ _ _ _ _ _ _
      | exact ih3 _ _ _ _ _ _ _ _ _
      | exact ih4 _ _ _ _ _ _ _ _ _ _ _
      | exact formula_Normal.mono _ _
      | exact interleavelaw31_awake.mono _
      | exact LeO.none _
      | refine LeO.ite ?_ ?_
      | refine LeO.bind ?_ (fun _ => ?_)
set_option maxHeartbeats 8000000 in
set_option maxRecDepth 100000 in
theorem interleavelaw31_FormulaMeans.calls (k : Nat) (A0 : Option Addr) (c0 : Nat) (l0 : List Int) (A1_0 : Option Addr) (c1_0 : Nat) (l1_0 : List Bool) (A1_1 : Option Addr) (c1_1 : Nat) (l1_1 : List Int) (r : Bool) (w : World) (hG : GW w) (hr0 : Kd.C (Kd.int .i64) w A0 l0.length l0) (hc0 : l0.length ≤ c0) (hr1_0 : Kd.C Kd.bool w A1_0 l1_0.length l1_0) (hc1_0 : l1_0.length ≤ c1_0) (hr1_1 : Kd.C (Kd.int .i64) w A1_1 l1_1.length l1_1) (hc1_1 : l1_1.length ≤ c1_1) (h : interleavelaw31_FormulaMeans.f k l0 l1_0 l1_1 = some r) :
    Calls Tryd.prog 7 #[.slice A0 l0.length c0, .agg #[.slice A1_0 l1_0.length c1_0, .slice A1_1 l1_1.length c1_1]] w fun e w' => e = .returned (.bool r) ∧ Below w.heap.size w w' := by
  have hu44 := Tryd.underlying44
  have HR0 := Aside0.mk hr0
  have HC0 := Aside0.mk hc0
  clear hr0 hc0
  have HR1_0 := Aside0.mk hr1_0
  have HC1_0 := Aside0.mk hc1_0
  clear hr1_0 hc1_0
  have HR1_1 := Aside0.mk hr1_1
  have HC1_1 := Aside0.mk hc1_1
  clear hr1_1 hc1_1
  have HG := Aside0.mk hG
  clear hG
  have HB := Aside0.mk (Below.refl w.heap.size w)
  have H : (if (l0.length : Int) > 60 then (interleavelaw31_FormulaMeans.j0 k l0 true l1_0 l1_1) else (interleavelaw31_FormulaMeans.j0 k l0 (decide ((l1_0.length : Int) > 60)) l1_0 l1_1)) = some r := h
  clear h
  have HC3 := Aside0.mk H
  clear H
  go_enter Tryd.func7, Tryd.ntmps7
  go_upto_region 1 with (first | ((with_reducible refine gate_dst (N := 3) rfl ?_); (try (refine gate_guard (by rfl) ?_; dsimp only)); refine box_event ?hg (N := 3) ?hd (cs := #[.slice A1_0 l1_0.length c1_0, .slice A1_1 l1_1.length c1_1]) (t := 44) ?hr ?_; (case hd => rfl); (case hg => rfl); (case hr => first | (go_simp; done) | (go_simp; rfl)); intro gb279 hg w4 hbox hb; have n0_ := Aside0.mk (below_step (by repeat (first | (with_reducible first | exact HB.out | apply below_alloc | apply pw_below_drewN | apply below_drew1) | exact HB.out)) hb); have n1_ := Aside0.mk (hbox); have n2_ := Aside0.mk ((by rw [hg]; exact (below_size (by repeat (first | (with_reducible first | exact HB.out | apply below_alloc | apply pw_below_drewN | apply below_drew1) | exact HB.out))) : w.heap.size ≤ gb279)); have n3_ := Aside0.mk ((by rw [hg]; exact (below_size (by repeat (first | (with_reducible first | exact HB.out | apply below_alloc | apply pw_below_drewN | apply below_drew1) | exact HB.out))) : w.heap.size ≤ gb279)); clear HB; have HB := n0_; have BK279 := n1_; have GW279 := n2_; have GE279 := n3_; clear n0_ n1_ n2_ n3_; clear hb hbox hg))
  (try simp only [Act.put, List.setIfInBounds_toArray, List.set_cons_zero, List.set_cons_succ])
  go_cut [25] (fun v25 wc => ∃ (kq : Nat) (x25_2 : Bool), v25 = .bool x25_2 ∧ Aside0 (interleavelaw31_FormulaMeans.j0 kq l0 x25_2 l1_0 l1_1 = some r) ∧ Aside0 (kq ≤ k) ∧ Aside0 (wc.heap[gb279]? = some (.cells #[(.slice A1_0 l1_0.length c1_0), (.slice A1_1 l1_1.length c1_1)] 44 (0, 0))) ∧ Aside0 (Below w.heap.size w wc))
  case first => as_aux_lemma =>
    have H := HC3.out
    clear HC3
    by_cases c5 : (l0.length : Int) > 60
    · rw [if_pos c5] at H
      have c5b0 : decide (60 < (l0.length : Int)) = true := decide_eq_true c5
      have c5b1 : decide (60 < l0.length) = true := decide_eq_true (by omega)
      clear c5
      (first | rw [c5b0] | (simp only [i64_w, i32_w]; rw [c5b0]) | skip)
      have H' := Aside0.mk H
      clear H
      go_wp2
      go_meet
      case rel => exact ⟨_, (true), (by first | rfl | (simp; done) | (simp [*]; done)), H', ⟨by first | omega | exact Nat.le_refl _⟩, ⟨by (with_reducible repeat (first | refine blk_drewN ?_ _ | refine blk_drew ?_ | refine blk_alloc ?_ _)); exact BK279.out⟩, ⟨by repeat (first | (with_reducible first | exact HB.out | apply below_alloc | apply pw_below_drewN | apply below_drew1 | refine below_set ?_ GE279.out) | exact HB.out)⟩⟩
    · rw [if_neg c5] at H
      have c5b0 : decide (60 < (l0.length : Int)) = false := decide_eq_false c5
      have c5b1 : decide (60 < l0.length) = false := decide_eq_false (by omega)
      clear c5
      (first | rw [c5b0] | (simp only [i64_w, i32_w]; rw [c5b0]) | skip)
      have H' := Aside0.mk H
      clear H
      have hcz6_0 : w4.cell? ⟨gb279, 0, none⟩ = some (.slice A1_0 l1_0.length c1_0) := (blk_cell BK279.out 0).trans rfl
      have hcz6_1 : w4.cell? ⟨gb279, 1, none⟩ = some (.slice A1_1 l1_1.length c1_1) := (blk_cell BK279.out 1).trans rfl
      have hfz6_0 := blk_frozen BK279.out 0
      have hfz6_1 := blk_frozen BK279.out 1
      go_wp2
      go_meet
      case rel => exact ⟨_, (decide ((l1_0.length : Int) > 60)), (by first | rfl | (simp; done) | (simp [*]; done)), H', ⟨by first | omega | exact Nat.le_refl _⟩, ⟨by (with_reducible repeat (first | refine blk_drewN ?_ _ | refine blk_drew ?_ | refine blk_alloc ?_ _)); exact BK279.out⟩, ⟨by repeat (first | (with_reducible first | exact HB.out | apply below_alloc | apply pw_below_drewN | apply below_drew1 | refine below_set ?_ GE279.out) | exact HB.out)⟩⟩
  case rest => as_aux_lemma =>
    clear HC3
    try clear c1
    try clear p2
    try clear c5
    try clear c5b0
    try clear c5b1
    try clear hcz6_0
    try clear hcz6_1
    try clear hfz6_0
    try clear hfz6_1
    obtain ⟨kq, x25_2, rfl, HA, HJ2, BK279, HB⟩ := hcut
    cases kq with
    | zero => exact absurd HA.out (by simp [interleavelaw31_FormulaMeans.j0])
    | succ kj2 =>
      have H := HA.out
      clear HA
      simp only [interleavelaw31_FormulaMeans.j0] at H
      by_cases c7 : x25_2 = true
      · subst c7
        have H1 : ((interleavelaw31_awake.f kj2).bind fun t280 => (some t280)) = some r := by rw [if_pos rfl] at H; exact H
        clear H
        have H := H1
        clear H1
        replace H := Option.bind_eq_some_iff.mp H
        obtain ⟨t280, A80, H⟩ := H
        replace H : (some t280) = some r := H
        have A8 := Aside0.mk A80
        clear A80
        obtain rfl := Option.some.inj H
        go_wp2_with (first | ((with_reducible refine gate_callee (f := 14) rfl ?_); refine goesL_ (some 26) rfl rfl Tryd.func14 (by kernel_rfl) rfl #[] rfl (by (try simp only [List.map_toArray, List.map_cons, List.map_nil]); first | done | rfl | (simp only [List.length_drop, List.length_take]; rfl)) ?_; (with_reducible refine (interleavelaw31_awake.calls kj2  t280 _ ?side1 A8.out).mono ?_); (case side1 => exact GW.below HG.out (by repeat (first | (with_reducible first | exact HB.out | apply below_alloc | apply pw_below_drewN | apply below_drew1 | refine below_set ?_ GE279.out) | exact HB.out))); rintro e w9 ⟨rfl, hb⟩; refine ⟨_, rfl, ?_⟩; have n0_ := Aside0.mk (blk_below (g := gb279) (o := .cells #[.slice A1_0 l1_0.length c1_0, .slice A1_1 l1_1.length c1_1] 44 (0, 0)) (by (with_reducible repeat (first | refine blk_drewN ?_ _ | refine blk_drew ?_ | refine blk_alloc ?_ _)); exact BK279.out) hb); have n1_ := Aside0.mk (below_step (by repeat (first | (with_reducible first | exact HB.out | apply below_alloc | apply pw_below_drewN | apply below_drew1 | refine below_set ?_ GE279.out) | exact HB.out)) hb); clear BK279; clear HB; have BK279 := n0_; have HB := n1_; clear n0_ n1_; (try clear hb); (try clear hb2); (try clear hk); (try clear hi)))
        go_ret
        exact ⟨by first | rfl | (simp [errW_none, errW_some] <;> rfl) | (simp [*, errW_none, errW_some] <;> rfl), by repeat (first | (with_reducible first | exact HB.out | apply below_alloc | apply pw_below_drewN | apply below_drew1 | refine below_set ?_ GE279.out) | exact HB.out)⟩
      · replace c7 := Bool.eq_false_iff.mpr c7
        subst c7
        have H1 : (interleavelaw31_FormulaMeans.l0 kj2 ([] : List Int) l0 (l0.length : Int) 0 l1_0 l1_1) = some r := by rw [if_neg (show ¬ (false = true) by decide)] at H; exact H
        clear H
        have H := H1
        clear H1
        have H' := Aside0.mk H
        clear H
        go_wp2
        go_loopg [5, 29] kj2 (fun kq v5 v29 w' => ∃ (x5_2 : List Int) (x29_2 : Int), v29 = .int .i64 x29_2 ∧ Aside0 (interleavelaw31_FormulaMeans.l0 kq x5_2 l0 (l0.length : Int) x29_2 l1_0 l1_1 = some r) ∧ Aside0 (kq ≤ kj2) ∧ Aside0 (Kd.R (Kd.int .i64) 3 w' w.heap.size (fun _ => True) v5 x5_2) ∧ Aside0 (w'.heap[gb279]? = some (.cells #[(.slice A1_0 l1_0.length c1_0), (.slice A1_1 l1_1.length c1_1)] 44 (0, 0))) ∧ Aside0 (Below w.heap.size w w'))
        case atStart => exact ⟨(([] : List Int)), (0), (by first | rfl | (simp; done) | (simp [*]; done)), H', ⟨Nat.le_refl _⟩, ⟨by first | exact Kd.R_nil _ _ _ _ _ | exact Kd.N_nil _ _ _ _ _ | exact Kd.V_nil _ _ _ _ _ | exact Kd.Q_nil _ _ _ _ _ | exact Kd.S_nil _ _ _ _ _⟩, ⟨by (with_reducible repeat (first | refine blk_drewN ?_ _ | refine blk_drew ?_ | refine blk_alloc ?_ _)); exact BK279.out⟩, ⟨by repeat (first | (with_reducible first | exact HB.out | apply below_alloc | apply pw_below_drewN | apply below_drew1 | refine below_set ?_ GE279.out) | exact HB.out)⟩⟩
        case round => as_aux_lemma =>
          clear H'
          try clear c1
          try clear p2
          try clear c5
          try clear c5b0
          try clear c5b1
          try clear c7
          try clear hcz6_0
          try clear hcz6_1
          try clear hfz6_0
          try clear hfz6_1
          try clear p2
          obtain ⟨x5_2, x29_2, rfl, HA, HK2, HO_5, BK279, HB⟩ := hrel
          cases gk with
          | zero => exact absurd HA.out (by simp [interleavelaw31_FormulaMeans.l0])
          | succ k2 =>
            have H := HA.out
            clear HA
            simp only [interleavelaw31_FormulaMeans.l0] at H
            by_cases c10 : x29_2 < (l0.length : Int)
            · rw [if_pos c10] at H
              have c10b0 : decide (x29_2 < (l0.length : Int)) = true := decide_eq_true c10
              clear c10
              by_cases c11 : 0 ≤ x29_2
              · rw [if_pos c11] at H
                have c11b0 : decide (0 ≤ x29_2) = true := decide_eq_true c11
                clear c11
                by_cases c12 : x29_2 < (l0.length : Int)
                · rw [if_pos c12] at H
                  have c12b0 : decide (x29_2 < (l0.length : Int)) = true := decide_eq_true c12
                  clear c12
                  by_cases c13 : (rd l0 x29_2) < 0
                  · rw [if_pos c13] at H
                    have c13b0 : decide ((rd l0 x29_2) < 0) = true := decide_eq_true c13
                    clear c13
                    by_cases c14 : x5_2.length < 17592186044416
                    · rw [if_pos c14] at H
                      have LMc14 := Aside0.mk c14
                      clear c14
                      obtain ⟨y282, hy282⟩ : ∃ y_ : List Int, y_ = (x5_2 ++ [wrap64 (-(wrap64 (1 + (wrap64 (Int.tmod (IntKind.u64.wrap (rd l0 x29_2)) 20)))))]) := ⟨_, rfl⟩
                      replace H : (interleavelaw31_FormulaMeans.l0 k2 y282 l0 (l0.length : Int) (wrap64 (x29_2 + 1)) l1_0 l1_1) = some r := by first | (rw [hy282]; with_reducible exact H) | (have H2_ := (Option.bind_some _ _).symm.trans H; rw [hy282]; with_reducible exact H2_) | (have H2_ := (Option.bind_some _ _).symm.trans H; with_reducible exact H2_) | with_reducible exact H | (rw [hy282]; exact H) | exact H
                      have Ny282 := Aside0.mk hy282
                      clear hy282
                      have H' := Aside0.mk H
                      clear H
                      have p281 : 0 ≤ (x29_2 : Int) := of_decide_eq_true (by first | (with_reducible assumption) | assumption)
                      have q281 : x29_2 < (l0.length : Int) := of_decide_eq_true (by first | (with_reducible assumption) | assumption)
                      obtain ⟨ad281, e281, hx281_0⟩ := Kd.at_int HR0.out x29_2 p281 q281
                      cases e281
                      replace hx281_0 := (HB.out.cell (World.block_lt_of_cell? w _ hx281_0)).trans hx281_0
                      replace p281 := eq_true p281
                      replace q281 := eq_true q281
                      go_wp2_with (first | ((with_reducible refine gate_builtin (b := .append) (xs := #[.tmp 42, .tmp 44]) rfl ?_); (try (refine gate_guard (by rfl) ?_; dsimp only)); at_builtin; refine Kd.R_append (Kd.int .i64) (w0 := w) w.heap.size rfl (.tmp 42) (.tmp 44) 22 3 (.int .i64 0) 8 rfl Tryd.underlying22 info3 rfl (by decide) (by omega) u5 x5_2 (wrap64 (-(wrap64 (1 + (wrap64 (Int.tmod (IntKind.u64.wrap (rd l0 x29_2)) 20)))))) [.int .i64 (wrap64 (-(wrap64 (1 + (wrap64 (Int.tmod (IntKind.u64.wrap (rd l0 x29_2)) 20))))))] (fun _ => True) (fun _ => False) rfl rfl ?aP (fun _ hk => hk.elim) ?aF ?aO ?aB ?aS ?aL ?_; (case aP => exact rfl); (case aB => exact (by repeat (first | (with_reducible first | exact HB.out | apply below_alloc | apply pw_below_drewN | apply below_drew1 | refine below_set ?_ GE279.out) | exact HB.out))); (case aF => exact (fun _ _ => trivial)); (case aO => exact (by (with_reducible repeat (first | apply Kd.R_alloc | apply Kd.R_drewN | apply Kd.R_drew)); exact HO_5.out)); (case aS => exact (below_size (by repeat (first | (with_reducible first | exact HB.out | apply below_alloc | apply pw_below_drewN | apply below_drew1 | refine below_set ?_ GE279.out) | exact HB.out)))); (case aL => have := LMc14.out; omega); intro v283 w15 ho hb hg hat; rw [← Ny282.out] at ho; have n0_ := Aside0.mk (blk_grown (g := gb279) (o := .cells #[.slice A1_0 l1_0.length c1_0, .slice A1_1 l1_1.length c1_1] 44 (0, 0)) (by (with_reducible repeat (first | refine blk_drewN ?_ _ | refine blk_drew ?_ | refine blk_alloc ?_ _)); exact BK279.out) hg (Kd.R_ne HO_5.out BK279.out (by decide))); have n1_ := Aside0.mk (hb); have n2_ := Aside0.mk (ho); clear BK279; clear HB; clear HO_5; have BK279 := n0_; have HB := n1_; have HO284 := n2_; clear n0_ n1_ n2_; clear ho hb hg hat))
                      go_roundg k2
                      case measure => have := HJ2.out; have := HK2.out; omega
                      case rel => exact ⟨(y282), (wrap64 (x29_2 + 1)), (by first | rfl | (simp; done) | (simp [*]; done)), H', ⟨by have := HJ2.out; have := HK2.out; omega⟩, ⟨by (with_reducible repeat (first | apply Kd.R_alloc | apply Kd.R_drewN | apply Kd.R_drew)); exact HO284.out⟩, ⟨by (with_reducible repeat (first | refine blk_drewN ?_ _ | refine blk_drew ?_ | refine blk_alloc ?_ _)); exact BK279.out⟩, ⟨by repeat (first | (with_reducible first | exact HB.out | apply below_alloc | apply pw_below_drewN | apply below_drew1 | refine below_set ?_ GE279.out) | exact HB.out)⟩⟩
                    · rw [if_neg c14] at H
                      exact absurd H (by simp)
                  · rw [if_neg c13] at H
                    have c13b0 : decide ((rd l0 x29_2) < 0) = false := decide_eq_false c13
                    clear c13
                    by_cases c16 : x5_2.length < 17592186044416
                    · rw [if_pos c16] at H
                      have LMc16 := Aside0.mk c16
                      clear c16
                      obtain ⟨y285, hy285⟩ : ∃ y_ : List Int, y_ = (x5_2 ++ [wrap64 (1 + (wrap64 (Int.tmod (IntKind.u64.wrap (rd l0 x29_2)) 20)))]) := ⟨_, rfl⟩
                      replace H : (interleavelaw31_FormulaMeans.l0 k2 y285 l0 (l0.length : Int) (wrap64 (x29_2 + 1)) l1_0 l1_1) = some r := by first | (rw [hy285]; with_reducible exact H) | (have H2_ := (Option.bind_some _ _).symm.trans H; rw [hy285]; with_reducible exact H2_) | (have H2_ := (Option.bind_some _ _).symm.trans H; with_reducible exact H2_) | with_reducible exact H | (rw [hy285]; exact H) | exact H
                      have Ny285 := Aside0.mk hy285
                      clear hy285
                      have H' := Aside0.mk H
                      clear H
                      have p281 : 0 ≤ (x29_2 : Int) := of_decide_eq_true (by first | (with_reducible assumption) | assumption)
                      have q281 : x29_2 < (l0.length : Int) := of_decide_eq_true (by first | (with_reducible assumption) | assumption)
                      obtain ⟨ad281, e281, hx281_0⟩ := Kd.at_int HR0.out x29_2 p281 q281
                      cases e281
                      replace hx281_0 := (HB.out.cell (World.block_lt_of_cell? w _ hx281_0)).trans hx281_0
                      replace p281 := eq_true p281
                      replace q281 := eq_true q281
                      go_wp2_with (first | ((with_reducible refine gate_builtin (b := .append) (xs := #[.tmp 42, .tmp 44]) rfl ?_); (try (refine gate_guard (by rfl) ?_; dsimp only)); at_builtin; refine Kd.R_append (Kd.int .i64) (w0 := w) w.heap.size rfl (.tmp 42) (.tmp 44) 22 3 (.int .i64 0) 8 rfl Tryd.underlying22 info3 rfl (by decide) (by omega) u5 x5_2 (wrap64 (1 + (wrap64 (Int.tmod (IntKind.u64.wrap (rd l0 x29_2)) 20)))) [.int .i64 (wrap64 (1 + (wrap64 (Int.tmod (IntKind.u64.wrap (rd l0 x29_2)) 20))))] (fun _ => True) (fun _ => False) rfl rfl ?aP (fun _ hk => hk.elim) ?aF ?aO ?aB ?aS ?aL ?_; (case aP => exact rfl); (case aB => exact (by repeat (first | (with_reducible first | exact HB.out | apply below_alloc | apply pw_below_drewN | apply below_drew1 | refine below_set ?_ GE279.out) | exact HB.out))); (case aF => exact (fun _ _ => trivial)); (case aO => exact (by (with_reducible repeat (first | apply Kd.R_alloc | apply Kd.R_drewN | apply Kd.R_drew)); exact HO_5.out)); (case aS => exact (below_size (by repeat (first | (with_reducible first | exact HB.out | apply below_alloc | apply pw_below_drewN | apply below_drew1 | refine below_set ?_ GE279.out) | exact HB.out)))); (case aL => have := LMc16.out; omega); intro v286 w17 ho hb hg hat; rw [← Ny285.out] at ho; have n0_ := Aside0.mk (blk_grown (g := gb279) (o := .cells #[.slice A1_0 l1_0.length c1_0, .slice A1_1 l1_1.length c1_1] 44 (0, 0)) (by (with_reducible repeat (first | refine blk_drewN ?_ _ | refine blk_drew ?_ | refine blk_alloc ?_ _)); exact BK279.out) hg (Kd.R_ne HO_5.out BK279.out (by decide))); have n1_ := Aside0.mk (hb); have n2_ := Aside0.mk (ho); clear BK279; clear HB; clear HO_5; have BK279 := n0_; have HB := n1_; have HO287 := n2_; clear n0_ n1_ n2_; clear ho hb hg hat))
                      go_roundg k2
                      case measure => have := HJ2.out; have := HK2.out; omega
                      case rel => exact ⟨(y285), (wrap64 (x29_2 + 1)), (by first | rfl | (simp; done) | (simp [*]; done)), H', ⟨by have := HJ2.out; have := HK2.out; omega⟩, ⟨by (with_reducible repeat (first | apply Kd.R_alloc | apply Kd.R_drewN | apply Kd.R_drew)); exact HO287.out⟩, ⟨by (with_reducible repeat (first | refine blk_drewN ?_ _ | refine blk_drew ?_ | refine blk_alloc ?_ _)); exact BK279.out⟩, ⟨by repeat (first | (with_reducible first | exact HB.out | apply below_alloc | apply pw_below_drewN | apply below_drew1 | refine below_set ?_ GE279.out) | exact HB.out)⟩⟩
                    · rw [if_neg c16] at H
                      exact absurd H (by simp)
                · rw [if_neg c12] at H
                  exact absurd H (by simp)
              · rw [if_neg c11] at H
                exact absurd H (by simp)
            · rw [if_neg c10] at H
              have c10b0 : decide (x29_2 < (l0.length : Int)) = false := decide_eq_false c10
              clear c10
              replace H := Option.bind_eq_some_iff.mp H
              obtain ⟨⟨t288, t289⟩, A180, H⟩ := H
              replace H : (interleavelaw31_FormulaMeans.l1 k2 t288 t289 false false x5_2 (x5_2.length : Int) 0 l1_0 l1_1) = some r := H
              have A18 := Aside0.mk A180
              clear A180
              have H' := Aside0.mk H
              clear H
              obtain ⟨Ao19, co19, eo19⟩ := Kd.R_slice HO_5.out
              subst eo19
              go_wp2_with (first | ((with_reducible refine gate_callee (f := 15) rfl ?_); refine goesL_ (some 49) rfl rfl Tryd.func15 (by kernel_rfl) rfl #[.slice Ao19 x5_2.length co19] rfl (by (try simp only [List.map_toArray, List.map_cons, List.map_nil]); first | done | rfl | (simp only [List.length_drop, List.length_take]; rfl)) ?_; (with_reducible refine (formula_Normal.calls k2 _ _ x5_2 t288 t289 _ ?side1 ?side2 A18.out).mono ?_); (case side1 => repeat (first | exact (Kd.R_reads' HO_5.out).2.2 | (with_reducible refine Kd.C_alloc ?_ _) | (with_reducible refine Kd.C_drewN ?_ _) | (with_reducible refine Kd.C_drew ?_))); (case side2 => exact (Kd.R_reads' HO_5.out).2.1); rintro e w20 ⟨v290, rfl, ho0, hb⟩; refine ⟨_, rfl, ?_⟩; have n0_ := Aside0.mk (Kd.R_elder' (by (with_reducible repeat (first | apply Kd.R_alloc | apply Kd.R_drewN | apply Kd.R_drew)); exact HO_5.out) (Kd.R_base ho0) hb); have n1_ := Aside0.mk (Kd.R_lower (Kd.R_new' ho0 (Kd.R_lt (by (with_reducible repeat (first | apply Kd.R_alloc | apply Kd.R_drewN | apply Kd.R_drew)); exact HO_5.out))) (below_size (by repeat (first | (with_reducible first | exact HB.out | apply below_alloc | apply pw_below_drewN | apply below_drew1 | refine below_set ?_ GE279.out) | exact HB.out)))); have n2_ := Aside0.mk (blk_below (g := gb279) (o := .cells #[.slice A1_0 l1_0.length c1_0, .slice A1_1 l1_1.length c1_1] 44 (0, 0)) (by (with_reducible repeat (first | refine blk_drewN ?_ _ | refine blk_drew ?_ | refine blk_alloc ?_ _)); exact BK279.out) hb); have n3_ := Aside0.mk (below_step (by repeat (first | (with_reducible first | exact HB.out | apply below_alloc | apply pw_below_drewN | apply below_drew1 | refine below_set ?_ GE279.out) | exact HB.out)) hb); clear HO_5; clear BK279; clear HB; have HO_5 := n0_; have HO291 := n1_; have BK279 := n2_; have HB := n3_; clear n0_ n1_ n2_ n3_; (try clear hb); (try clear hb2); (try clear hk); (try clear hi); (try clear ho0)))
              go_loopg [11, 54] k2 (fun kq v11 v54 w' => ∃ (x11_3 : Bool) (x54_3 : Int), v11 = .bool x11_3 ∧ v54 = .int .i64 x54_3 ∧ Aside0 (interleavelaw31_FormulaMeans.l1 kq t288 t289 x11_3 false x5_2 (x5_2.length : Int) x54_3 l1_0 l1_1 = some r) ∧ Aside0 (kq ≤ k2) ∧ Aside0 (Kd.R (Kd.int .i64) 3 w' w.heap.size (fun k_ => some k_ ≠ ((.slice Ao19 x5_2.length co19) : Value).ownBlock) v290 t288) ∧ Aside0 (Kd.R (Kd.int .i64) 3 w' w.heap.size (fun k_ => some k_ ≠ (v290 : Value).ownBlock) (.slice Ao19 x5_2.length co19) x5_2) ∧ Aside0 (w'.heap[gb279]? = some (.cells #[(.slice A1_0 l1_0.length c1_0), (.slice A1_1 l1_1.length c1_1)] 44 (0, 0))) ∧ Aside0 (Below w.heap.size w w'))
              case atStart => exact ⟨(false), (0), (by first | rfl | (simp; done) | (simp [*]; done)), (by first | rfl | (simp; done) | (simp [*]; done)), H', ⟨Nat.le_refl _⟩, ⟨by (with_reducible repeat (first | apply Kd.R_alloc | apply Kd.R_drewN | apply Kd.R_drew)); exact Kd.R_mono HO291.out (fun _ hk => hk.2)⟩, ⟨by (with_reducible repeat (first | apply Kd.R_alloc | apply Kd.R_drewN | apply Kd.R_drew)); exact Kd.R_mono HO_5.out (fun _ hk => hk.2)⟩, ⟨by (with_reducible repeat (first | refine blk_drewN ?_ _ | refine blk_drew ?_ | refine blk_alloc ?_ _)); exact BK279.out⟩, ⟨by repeat (first | (with_reducible first | exact HB.out | apply below_alloc | apply pw_below_drewN | apply below_drew1 | refine below_set ?_ GE279.out) | exact HB.out)⟩⟩
              case round => as_aux_lemma =>
                clear H'
                try clear c1
                try clear p2
                try clear q2
                try clear hx2
                try clear c5
                try clear c5b0
                try clear c5b1
                try clear p6
                try clear c7
                try clear c10
                try clear c10b0
                try clear c11
                try clear c11b0
                try clear c12
                try clear c12b0
                try clear c13
                try clear c13b0
                try clear c14
                try clear c15
                try clear c16
                try clear hcz6_0
                try clear hcz6_1
                try clear hfz6_0
                try clear hfz6_1
                try clear hx281_0
                try clear p2
                try clear p281
                try clear q281
                obtain ⟨x11_3, x54_3, rfl, rfl, HA, HK3, HO_9, HO_52, BK279, HB⟩ := hrel
                cases gk with
                | zero => exact absurd HA.out (by simp [interleavelaw31_FormulaMeans.l1])
                | succ k3 =>
                  have H := HA.out
                  clear HA
                  simp only [interleavelaw31_FormulaMeans.l1] at H
                  by_cases c21 : x54_3 < (x5_2.length : Int)
                  · rw [if_pos c21] at H
                    have c21b0 : decide (x54_3 < (x5_2.length : Int)) = true := decide_eq_true c21
                    clear c21
                    by_cases c22 : 0 ≤ x54_3
                    · rw [if_pos c22] at H
                      have c22b0 : decide (0 ≤ x54_3) = true := decide_eq_true c22
                      clear c22
                      by_cases c23 : x54_3 < (x5_2.length : Int)
                      · rw [if_pos c23] at H
                        have c23b0 : decide (x54_3 < (x5_2.length : Int)) = true := decide_eq_true c23
                        clear c23
                        by_cases c24 : x11_3 = true
                        · subst c24
                          have H1 : (interleavelaw31_FormulaMeans.l1 k3 t288 t289 true false x5_2 (x5_2.length : Int) (wrap64 (x54_3 + 1)) l1_0 l1_1) = some r := by rw [if_pos rfl] at H; exact H
                          clear H
                          have H := H1
                          clear H1
                          have H' := Aside0.mk H
                          clear H
                          have p292 : 0 ≤ (x54_3 : Int) := of_decide_eq_true (by first | (with_reducible assumption) | assumption)
                          have q292 : x54_3 < (x5_2.length : Int) := of_decide_eq_true (by first | (with_reducible assumption) | assumption)
                          obtain ⟨ad292, e292, hx292_0⟩ := Kd.at_int (Kd.R_reads' HO_52.out).2.2 x54_3 p292 q292
                          cases e292
                          replace p292 := eq_true p292
                          replace q292 := eq_true q292
                          go_wp2
                          go_roundg k3
                          case measure => have := HJ2.out; have := HK2.out; have := HK3.out; omega
                          case rel => exact ⟨(true), (wrap64 (x54_3 + 1)), (by first | rfl | (simp; done) | (simp [*]; done)), (by first | rfl | (simp; done) | (simp [*]; done)), H', ⟨by have := HJ2.out; have := HK2.out; have := HK3.out; omega⟩, ⟨by (with_reducible repeat (first | apply Kd.R_alloc | apply Kd.R_drewN | apply Kd.R_drew)); exact HO_9.out⟩, ⟨by (with_reducible repeat (first | apply Kd.R_alloc | apply Kd.R_drewN | apply Kd.R_drew)); exact HO_52.out⟩, ⟨by (with_reducible repeat (first | refine blk_drewN ?_ _ | refine blk_drew ?_ | refine blk_alloc ?_ _)); exact BK279.out⟩, ⟨by repeat (first | (with_reducible first | exact HB.out | apply below_alloc | apply pw_below_drewN | apply below_drew1 | refine below_set ?_ GE279.out) | exact HB.out)⟩⟩
                        · replace c24 := Bool.eq_false_iff.mpr c24
                          subst c24
                          have H1 : ((formula_Holds.f (rd x5_2 x54_3) l1_0 l1_1).bind fun t293 => (interleavelaw31_FormulaMeans.l1 k3 t288 t289 t293 false x5_2 (x5_2.length : Int) (wrap64 (x54_3 + 1)) l1_0 l1_1)) = some r := by rw [if_neg (show ¬ (false = true) by decide)] at H; exact H
                          clear H
                          have H := H1
                          clear H1
                          replace H := Option.bind_eq_some_iff.mp H
                          obtain ⟨t293, A250, H⟩ := H
                          replace H : (interleavelaw31_FormulaMeans.l1 k3 t288 t289 t293 false x5_2 (x5_2.length : Int) (wrap64 (x54_3 + 1)) l1_0 l1_1) = some r := H
                          have A25 := Aside0.mk A250
                          clear A250
                          have H' := Aside0.mk H
                          clear H
                          have p292 : 0 ≤ (x54_3 : Int) := of_decide_eq_true (by first | (with_reducible assumption) | assumption)
                          have q292 : x54_3 < (x5_2.length : Int) := of_decide_eq_true (by first | (with_reducible assumption) | assumption)
                          obtain ⟨ad292, e292, hx292_0⟩ := Kd.at_int (Kd.R_reads' HO_52.out).2.2 x54_3 p292 q292
                          cases e292
                          replace p292 := eq_true p292
                          replace q292 := eq_true q292
                          have hcz26_0 : wr.cell? ⟨gb279, 0, none⟩ = some (.slice A1_0 l1_0.length c1_0) := (blk_cell BK279.out 0).trans rfl
                          have hcz26_1 : wr.cell? ⟨gb279, 1, none⟩ = some (.slice A1_1 l1_1.length c1_1) := (blk_cell BK279.out 1).trans rfl
                          have hfz26_0 := blk_frozen BK279.out 0
                          have hfz26_1 := blk_frozen BK279.out 1
                          go_wp2_with (first | (go_at_call 24; (with_reducible refine (formula_Holds.calls (rd x5_2 x54_3) _ _ l1_0 _ _ l1_1 t293 _ ?side1 ?side2 ?side3 ?side4 A25.out).mono ?_); (case side1 => repeat (first | exact (Kd.C_below HR1_0.out HB.out) | (with_reducible refine Kd.C_alloc ?_ _) | (with_reducible refine Kd.C_drewN ?_ _) | (with_reducible refine Kd.C_drew ?_))); (case side2 => exact HC1_0.out); (case side3 => repeat (first | exact (Kd.C_below HR1_1.out HB.out) | (with_reducible refine Kd.C_alloc ?_ _) | (with_reducible refine Kd.C_drewN ?_ _) | (with_reducible refine Kd.C_drew ?_))); (case side4 => exact HC1_1.out); rintro e w27 ⟨rfl, hb⟩; have n0_ := Aside0.mk (Kd.R_below (by (with_reducible repeat (first | apply Kd.R_alloc | apply Kd.R_drewN | apply Kd.R_drew)); exact HO_9.out) hb); have n1_ := Aside0.mk (Kd.R_below (by (with_reducible repeat (first | apply Kd.R_alloc | apply Kd.R_drewN | apply Kd.R_drew)); exact HO_52.out) hb); have n2_ := Aside0.mk (blk_below (g := gb279) (o := .cells #[.slice A1_0 l1_0.length c1_0, .slice A1_1 l1_1.length c1_1] 44 (0, 0)) (by (with_reducible repeat (first | refine blk_drewN ?_ _ | refine blk_drew ?_ | refine blk_alloc ?_ _)); exact BK279.out) hb); have n3_ := Aside0.mk (below_step (by repeat (first | (with_reducible first | exact HB.out | apply below_alloc | apply pw_below_drewN | apply below_drew1 | refine below_set ?_ GE279.out) | exact HB.out)) hb); clear HO_9; clear HO_52; clear BK279; clear HB; have HO_9 := n0_; have HO_52 := n1_; have BK279 := n2_; have HB := n3_; clear n0_ n1_ n2_ n3_; (try clear hb); (try clear hb2); (try clear hk); (try clear hi)))
                          go_roundg k3
                          case measure => have := HJ2.out; have := HK2.out; have := HK3.out; omega
                          case rel => exact ⟨(t293), (wrap64 (x54_3 + 1)), (by first | rfl | (simp; done) | (simp [*]; done)), (by first | rfl | (simp; done) | (simp [*]; done)), H', ⟨by have := HJ2.out; have := HK2.out; have := HK3.out; omega⟩, ⟨by (with_reducible repeat (first | apply Kd.R_alloc | apply Kd.R_drewN | apply Kd.R_drew)); exact HO_9.out⟩, ⟨by (with_reducible repeat (first | apply Kd.R_alloc | apply Kd.R_drewN | apply Kd.R_drew)); exact HO_52.out⟩, ⟨by (with_reducible repeat (first | refine blk_drewN ?_ _ | refine blk_drew ?_ | refine blk_alloc ?_ _)); exact BK279.out⟩, ⟨by repeat (first | (with_reducible first | exact HB.out | apply below_alloc | apply pw_below_drewN | apply below_drew1 | refine below_set ?_ GE279.out) | exact HB.out)⟩⟩
                      · rw [if_neg c23] at H
                        exact absurd H (by simp)
                    · rw [if_neg c22] at H
                      exact absurd H (by simp)
                  · rw [if_neg c21] at H
                    have c21b0 : decide (x54_3 < (x5_2.length : Int)) = false := decide_eq_false c21
                    clear c21
                    have H' := Aside0.mk H
                    clear H
                    obtain ⟨Ao28, co28, eo28⟩ := Kd.R_slice HO_9.out
                    subst eo28
                    go_wp2
                    go_loopg [12, 67] k3 (fun kq v12 v67 w' => ∃ (x12_4 : Bool) (x67_4 : Int), v12 = .bool x12_4 ∧ v67 = .int .i64 x67_4 ∧ Aside0 (interleavelaw31_FormulaMeans.l2 kq t288 t289 x11_3 x12_4 t288 (t288.length : Int) x67_4 l1_0 l1_1 = some r) ∧ Aside0 (kq ≤ k3) ∧ Aside0 (Kd.R (Kd.int .i64) 3 w' w.heap.size (fun _ => True) (.slice Ao28 t288.length co28) t288) ∧ Aside0 (Kd.R (Kd.int .i64) 3 w' w.heap.size (fun _ => True) (.slice Ao28 t288.length co28) t288) ∧ Aside0 (w'.heap[gb279]? = some (.cells #[(.slice A1_0 l1_0.length c1_0), (.slice A1_1 l1_1.length c1_1)] 44 (0, 0))) ∧ Aside0 (Below w.heap.size w w'))
                    case atStart => exact ⟨(false), (0), (by first | rfl | (simp; done) | (simp [*]; done)), (by first | rfl | (simp; done) | (simp [*]; done)), H', ⟨Nat.le_refl _⟩, ⟨by (with_reducible repeat (first | apply Kd.R_alloc | apply Kd.R_drewN | apply Kd.R_drew)); exact Kd.R_mono HO_9.out (fun _ hk => trivial)⟩, ⟨by (with_reducible repeat (first | apply Kd.R_alloc | apply Kd.R_drewN | apply Kd.R_drew)); exact Kd.R_mono HO_9.out (fun _ hk => trivial)⟩, ⟨by (with_reducible repeat (first | refine blk_drewN ?_ _ | refine blk_drew ?_ | refine blk_alloc ?_ _)); exact BK279.out⟩, ⟨by repeat (first | (with_reducible first | exact HB.out | apply below_alloc | apply pw_below_drewN | apply below_drew1 | refine below_set ?_ GE279.out) | exact HB.out)⟩⟩
                    case round => as_aux_lemma =>
                      clear H'
                      try clear c1
                      try clear c2
                      try clear p2
                      try clear q2
                      try clear hx2
                      try clear c5
                      try clear c5b0
                      try clear c5b1
                      try clear p6
                      try clear c7
                      try clear c10
                      try clear c10b0
                      try clear c11
                      try clear c11b0
                      try clear c12
                      try clear c12b0
                      try clear c13
                      try clear c13b0
                      try clear c14
                      try clear c15
                      try clear c16
                      try clear c21
                      try clear c21b0
                      try clear c22
                      try clear c22b0
                      try clear c23
                      try clear c23b0
                      try clear c24
                      try clear p28
                      try clear q28
                      try clear hx28
                      try clear hcz26_0
                      try clear hcz26_1
                      try clear hcz6_0
                      try clear hcz6_1
                      try clear hfz26_0
                      try clear hfz26_1
                      try clear hfz6_0
                      try clear hfz6_1
                      try clear hx281_0
                      try clear hx292_0
                      try clear p2
                      try clear p281
                      try clear p292
                      try clear p6
                      try clear q2
                      try clear q281
                      try clear q292
                      obtain ⟨x12_4, x67_4, rfl, rfl, HA, HK4, HO_9, HO_65, BK279, HB⟩ := hrel
                      cases gk with
                      | zero => exact absurd HA.out (by simp [interleavelaw31_FormulaMeans.l2])
                      | succ k4 =>
                        have H := HA.out
                        clear HA
                        simp only [interleavelaw31_FormulaMeans.l2] at H
                        by_cases c29 : x67_4 < (t288.length : Int)
                        · rw [if_pos c29] at H
                          have c29b0 : decide (x67_4 < (t288.length : Int)) = true := decide_eq_true c29
                          clear c29
                          by_cases c30 : 0 ≤ x67_4
                          · rw [if_pos c30] at H
                            have c30b0 : decide (0 ≤ x67_4) = true := decide_eq_true c30
                            clear c30
                            by_cases c31 : x67_4 < (t288.length : Int)
                            · rw [if_pos c31] at H
                              have c31b0 : decide (x67_4 < (t288.length : Int)) = true := decide_eq_true c31
                              clear c31
                              have HC32 := Aside0.mk H
                              clear H
                              have p294 : 0 ≤ (x67_4 : Int) := of_decide_eq_true (by first | (with_reducible assumption) | assumption)
                              have q294 : x67_4 < (t288.length : Int) := of_decide_eq_true (by first | (with_reducible assumption) | assumption)
                              obtain ⟨ad294, e294, hx294_0⟩ := Kd.at_int (Kd.R_reads' HO_65.out).2.2 x67_4 p294 q294
                              cases e294
                              replace p294 := eq_true p294
                              replace q294 := eq_true q294
                              go_upto_region 22 with (fail)
                              go_cut [12] (fun v12 wc => ∃ (kq : Nat) (x12_31 : Bool), v12 = .bool x12_31 ∧ Aside0 (interleavelaw31_FormulaMeans.j4 kq t288 t289 x11_3 x12_31 x67_4 (rd t288 x67_4) t288 (t288.length : Int) x67_4 l1_0 l1_1 = some r) ∧ Aside0 (kq ≤ k4) ∧ Aside0 (Kd.R (Kd.int .i64) 3 wc w.heap.size (fun _ => True) (.slice (some ad294) t288.length co28) t288) ∧ Aside0 (Kd.R (Kd.int .i64) 3 wc w.heap.size (fun _ => True) (.slice (some ad294) t288.length co28) t288) ∧ Aside0 (wc.heap[gb279]? = some (.cells #[(.slice A1_0 l1_0.length c1_0), (.slice A1_1 l1_1.length c1_1)] 44 (0, 0))) ∧ Aside0 (Below w.heap.size w wc))
                              case first => as_aux_lemma =>
                                have H := HC32.out
                                clear HC32
                                by_cases c33 : x12_4 = true
                                · subst c33
                                  have H1 : (interleavelaw31_FormulaMeans.j4 k4 t288 t289 x11_3 true x67_4 (rd t288 x67_4) t288 (t288.length : Int) x67_4 l1_0 l1_1) = some r := by rw [if_pos rfl] at H; exact H
                                  clear H
                                  have H := H1
                                  clear H1
                                  have H' := Aside0.mk H
                                  clear H
                                  go_wp2
                                  go_meet
                                  case rel => exact ⟨_, (true), (by first | rfl | (simp; done) | (simp [*]; done)), H', ⟨by have := HJ2.out; have := HK2.out; have := HK3.out; have := HK4.out; first | omega | exact Nat.le_refl _⟩, ⟨by (with_reducible repeat (first | apply Kd.R_alloc | apply Kd.R_drewN | apply Kd.R_drew)); exact HO_9.out⟩, ⟨by (with_reducible repeat (first | apply Kd.R_alloc | apply Kd.R_drewN | apply Kd.R_drew)); exact HO_65.out⟩, ⟨by (with_reducible repeat (first | refine blk_drewN ?_ _ | refine blk_drew ?_ | refine blk_alloc ?_ _)); exact BK279.out⟩, ⟨by repeat (first | (with_reducible first | exact HB.out | apply below_alloc | apply pw_below_drewN | apply below_drew1 | refine below_set ?_ GE279.out) | exact HB.out)⟩⟩
                                · replace c33 := Bool.eq_false_iff.mpr c33
                                  subst c33
                                  have H1 : ((formula_Holds.f (rd t288 x67_4) l1_0 l1_1).bind fun t295 => (interleavelaw31_FormulaMeans.j4 k4 t288 t289 x11_3 t295 x67_4 (rd t288 x67_4) t288 (t288.length : Int) x67_4 l1_0 l1_1)) = some r := by rw [if_neg (show ¬ (false = true) by decide)] at H; exact H
                                  clear H
                                  have H := H1
                                  clear H1
                                  replace H := Option.bind_eq_some_iff.mp H
                                  obtain ⟨t295, A340, H⟩ := H
                                  replace H : (interleavelaw31_FormulaMeans.j4 k4 t288 t289 x11_3 t295 x67_4 (rd t288 x67_4) t288 (t288.length : Int) x67_4 l1_0 l1_1) = some r := H
                                  have A34 := Aside0.mk A340
                                  clear A340
                                  have H' := Aside0.mk H
                                  clear H
                                  have hcz35_0 : wr.cell? ⟨gb279, 0, none⟩ = some (.slice A1_0 l1_0.length c1_0) := (blk_cell BK279.out 0).trans rfl
                                  have hcz35_1 : wr.cell? ⟨gb279, 1, none⟩ = some (.slice A1_1 l1_1.length c1_1) := (blk_cell BK279.out 1).trans rfl
                                  have hfz35_0 := blk_frozen BK279.out 0
                                  have hfz35_1 := blk_frozen BK279.out 1
                                  go_wp2_with (first | (go_at_call 24; (with_reducible refine (formula_Holds.calls (rd t288 x67_4) _ _ l1_0 _ _ l1_1 t295 _ ?side1 ?side2 ?side3 ?side4 A34.out).mono ?_); (case side1 => repeat (first | exact (Kd.C_below HR1_0.out HB.out) | (with_reducible refine Kd.C_alloc ?_ _) | (with_reducible refine Kd.C_drewN ?_ _) | (with_reducible refine Kd.C_drew ?_))); (case side2 => exact HC1_0.out); (case side3 => repeat (first | exact (Kd.C_below HR1_1.out HB.out) | (with_reducible refine Kd.C_alloc ?_ _) | (with_reducible refine Kd.C_drewN ?_ _) | (with_reducible refine Kd.C_drew ?_))); (case side4 => exact HC1_1.out); rintro e w36 ⟨rfl, hb⟩; have n0_ := Aside0.mk (Kd.R_below (by (with_reducible repeat (first | apply Kd.R_alloc | apply Kd.R_drewN | apply Kd.R_drew)); exact HO_9.out) hb); have n1_ := Aside0.mk (Kd.R_below (by (with_reducible repeat (first | apply Kd.R_alloc | apply Kd.R_drewN | apply Kd.R_drew)); exact HO_65.out) hb); have n2_ := Aside0.mk (blk_below (g := gb279) (o := .cells #[.slice A1_0 l1_0.length c1_0, .slice A1_1 l1_1.length c1_1] 44 (0, 0)) (by (with_reducible repeat (first | refine blk_drewN ?_ _ | refine blk_drew ?_ | refine blk_alloc ?_ _)); exact BK279.out) hb); have n3_ := Aside0.mk (below_step (by repeat (first | (with_reducible first | exact HB.out | apply below_alloc | apply pw_below_drewN | apply below_drew1 | refine below_set ?_ GE279.out) | exact HB.out)) hb); clear HO_9; clear HO_65; clear BK279; clear HB; have HO_9 := n0_; have HO_65 := n1_; have BK279 := n2_; have HB := n3_; clear n0_ n1_ n2_ n3_; (try clear hb); (try clear hb2); (try clear hk); (try clear hi)))
                                  go_meet
                                  case rel => exact ⟨_, (t295), (by first | rfl | (simp; done) | (simp [*]; done)), H', ⟨by have := HJ2.out; have := HK2.out; have := HK3.out; have := HK4.out; first | omega | exact Nat.le_refl _⟩, ⟨by (with_reducible repeat (first | apply Kd.R_alloc | apply Kd.R_drewN | apply Kd.R_drew)); exact HO_9.out⟩, ⟨by (with_reducible repeat (first | apply Kd.R_alloc | apply Kd.R_drewN | apply Kd.R_drew)); exact HO_65.out⟩, ⟨by (with_reducible repeat (first | refine blk_drewN ?_ _ | refine blk_drew ?_ | refine blk_alloc ?_ _)); exact BK279.out⟩, ⟨by repeat (first | (with_reducible first | exact HB.out | apply below_alloc | apply pw_below_drewN | apply below_drew1 | refine below_set ?_ GE279.out) | exact HB.out)⟩⟩
                              case rest => as_aux_lemma =>
                                clear HC32
                                try clear c1
                                try clear c2
                                try clear p2
                                try clear q2
                                try clear hx2
                                try clear c3
                                try clear c5
                                try clear c5b0
                                try clear c5b1
                                try clear p6
                                try clear c7
                                try clear c10
                                try clear c10b0
                                try clear c11
                                try clear c11b0
                                try clear c12
                                try clear c12b0
                                try clear c13
                                try clear c13b0
                                try clear c14
                                try clear c15
                                try clear c16
                                try clear c21
                                try clear c21b0
                                try clear c22
                                try clear c22b0
                                try clear c23
                                try clear c23b0
                                try clear c24
                                try clear p28
                                try clear q28
                                try clear hx28
                                try clear c29
                                try clear c29b0
                                try clear p29
                                try clear q29
                                try clear hx29
                                try clear c30
                                try clear c30b0
                                try clear c31
                                try clear c31b0
                                try clear c33
                                try clear hcz26_0
                                try clear hcz26_1
                                try clear hcz35_0
                                try clear hcz35_1
                                try clear hcz6_0
                                try clear hcz6_1
                                try clear hfz26_0
                                try clear hfz26_1
                                try clear hfz35_0
                                try clear hfz35_1
                                try clear hfz6_0
                                try clear hfz6_1
                                try clear hx281_0
                                try clear hx292_0
                                try clear hx294_0
                                try clear p2
                                try clear p28
                                try clear p281
                                try clear p292
                                try clear p294
                                try clear p6
                                try clear q2
                                try clear q28
                                try clear q281
                                try clear q292
                                try clear q294
                                obtain ⟨kq, x12_31, rfl, HA, HJ31, HO_9, HO_65, BK279, HB⟩ := hcut
                                cases kq with
                                | zero => exact absurd HA.out (by simp [interleavelaw31_FormulaMeans.j4])
                                | succ kj31 =>
                                  have H := HA.out
                                  clear HA
                                  simp only [interleavelaw31_FormulaMeans.j4] at H
                                  by_cases c37 : x67_4 > 0
                                  · rw [if_pos c37] at H
                                    have c37b0 : decide (0 < x67_4) = true := decide_eq_true c37
                                    clear c37
                                    obtain ⟨ji38, hji38⟩ : ∃ j_ : Int, (wrap64 (x67_4 - 1)) = j_ := ⟨_, rfl⟩
                                    replace H : (if 0 ≤ (ji38) then (if (ji38) < (t288.length : Int) then ((interleaveref31_Abs.f (rd t288 (ji38))).bind fun t297 => ((interleaveref31_Abs.f (rd t288 x67_4)).bind fun t298 => (if t297 ≥ t298 then (some false) else (interleavelaw31_FormulaMeans.l2 kj31 t288 t289 x11_3 x12_31 t288 (t288.length : Int) (wrap64 (x67_4 + 1)) l1_0 l1_1)))) else (none)) else (none)) = some r := by first | (rw [hji38] at H; exact H) | (simp only [hji38] at H ⊢; exact H)
                                    have hji38w : (IntKind.i64.wrap (x67_4 - 1)) = ji38 := (i64_w _).trans hji38
                                    by_cases c39 : 0 ≤ (ji38)
                                    · rw [if_pos c39] at H
                                      have c39b0 : decide (0 ≤ (ji38)) = true := decide_eq_true c39
                                      clear c39
                                      by_cases c40 : (ji38) < (t288.length : Int)
                                      · rw [if_pos c40] at H
                                        have c40b0 : decide ((ji38) < (t288.length : Int)) = true := decide_eq_true c40
                                        clear c40
                                        replace H := Option.bind_eq_some_iff.mp H
                                        obtain ⟨t297, A410, H⟩ := H
                                        replace H : ((interleaveref31_Abs.f (rd t288 x67_4)).bind fun t298 => (if t297 ≥ t298 then (some false) else (interleavelaw31_FormulaMeans.l2 kj31 t288 t289 x11_3 x12_31 t288 (t288.length : Int) (wrap64 (x67_4 + 1)) l1_0 l1_1))) = some r := H
                                        have A41 := Aside0.mk A410
                                        clear A410
                                        replace H := Option.bind_eq_some_iff.mp H
                                        obtain ⟨t298, A420, H⟩ := H
                                        replace H : (if t297 ≥ t298 then (some false) else (interleavelaw31_FormulaMeans.l2 kj31 t288 t289 x11_3 x12_31 t288 (t288.length : Int) (wrap64 (x67_4 + 1)) l1_0 l1_1)) = some r := H
                                        have A42 := Aside0.mk A420
                                        clear A420
                                        by_cases c43 : t297 ≥ t298
                                        · rw [if_pos c43] at H
                                          have c43b0 : decide (t298 ≤ t297) = true := decide_eq_true c43
                                          clear c43
                                          obtain rfl := Option.some.inj H
                                          have p296 : 0 ≤ ((ji38) : Int) := of_decide_eq_true (by first | (with_reducible assumption) | assumption)
                                          have q296 : (ji38) < (t288.length : Int) := of_decide_eq_true (by first | (with_reducible assumption) | assumption)
                                          obtain ⟨ad296, e296, hx296_0⟩ := Kd.at_int (Kd.R_reads' HO_9.out).2.2 (ji38) p296 q296
                                          obtain rfl : ad294 = ad296 := (by injection e296)
                                          replace p296 := eq_true p296
                                          replace q296 := eq_true q296
                                          go_wp2_with (first | (go_at_call 25; (with_reducible refine (interleaveref31_Abs.calls (rd t288 (ji38)) t297 _ A41.out).mono ?_); rintro e w' ⟨rfl, ⟨nd, rfl⟩⟩) | (go_at_call 25; (with_reducible refine (interleaveref31_Abs.calls (rd t288 x67_4) t298 _ A42.out).mono ?_); rintro e w' ⟨rfl, ⟨nd, rfl⟩⟩))
                                          go_ret
                                          exact ⟨by first | rfl | (simp [errW_none, errW_some] <;> rfl) | (simp only [← hji38]; first | rfl | (simp [errW_none, errW_some] <;> rfl)) | (simp [*, errW_none, errW_some] <;> rfl), by repeat (first | (with_reducible first | exact HB.out | apply below_alloc | apply pw_below_drewN | apply below_drew1 | refine below_set ?_ GE279.out) | exact HB.out)⟩
                                        · rw [if_neg c43] at H
                                          have c43b0 : decide (t298 ≤ t297) = false := decide_eq_false c43
                                          clear c43
                                          have H' := Aside0.mk H
                                          clear H
                                          have p296 : 0 ≤ ((ji38) : Int) := of_decide_eq_true (by first | (with_reducible assumption) | assumption)
                                          have q296 : (ji38) < (t288.length : Int) := of_decide_eq_true (by first | (with_reducible assumption) | assumption)
                                          obtain ⟨ad296, e296, hx296_0⟩ := Kd.at_int (Kd.R_reads' HO_9.out).2.2 (ji38) p296 q296
                                          obtain rfl : ad294 = ad296 := (by injection e296)
                                          replace p296 := eq_true p296
                                          replace q296 := eq_true q296
                                          go_wp2_with (first | (go_at_call 25; (with_reducible refine (interleaveref31_Abs.calls (rd t288 (ji38)) t297 _ A41.out).mono ?_); rintro e w' ⟨rfl, ⟨nd, rfl⟩⟩) | (go_at_call 25; (with_reducible refine (interleaveref31_Abs.calls (rd t288 x67_4) t298 _ A42.out).mono ?_); rintro e w' ⟨rfl, ⟨nd, rfl⟩⟩))
                                          go_roundg kj31
                                          case measure => have := HJ2.out; have := HK2.out; have := HK3.out; have := HK4.out; have := HJ31.out; omega
                                          case rel => exact ⟨(x12_31), (wrap64 (x67_4 + 1)), (by first | rfl | (simp; done) | (simp [*]; done)), (by first | rfl | (simp; done) | (simp [*]; done)), H', ⟨by have := HJ2.out; have := HK2.out; have := HK3.out; have := HK4.out; have := HJ31.out; omega⟩, ⟨by (with_reducible repeat (first | apply Kd.R_alloc | apply Kd.R_drewN | apply Kd.R_drew)); exact HO_9.out⟩, ⟨by (with_reducible repeat (first | apply Kd.R_alloc | apply Kd.R_drewN | apply Kd.R_drew)); exact HO_65.out⟩, ⟨by (with_reducible repeat (first | refine blk_drewN ?_ _ | refine blk_drew ?_ | refine blk_alloc ?_ _)); exact BK279.out⟩, ⟨by repeat (first | (with_reducible first | exact HB.out | apply below_alloc | apply pw_below_drewN | apply below_drew1 | refine below_set ?_ GE279.out) | exact HB.out)⟩⟩
                                      · rw [if_neg c40] at H
                                        exact absurd H (by simp)
                                    · rw [if_neg c39] at H
                                      exact absurd H (by simp)
                                  · rw [if_neg c37] at H
                                    have c37b0 : decide (0 < x67_4) = false := decide_eq_false c37
                                    clear c37
                                    have H' := Aside0.mk H
                                    clear H
                                    go_wp2
                                    go_roundg kj31
                                    case measure => have := HJ2.out; have := HK2.out; have := HK3.out; have := HK4.out; have := HJ31.out; omega
                                    case rel => exact ⟨(x12_31), (wrap64 (x67_4 + 1)), (by first | rfl | (simp; done) | (simp [*]; done)), (by first | rfl | (simp; done) | (simp [*]; done)), H', ⟨by have := HJ2.out; have := HK2.out; have := HK3.out; have := HK4.out; have := HJ31.out; omega⟩, ⟨by (with_reducible repeat (first | apply Kd.R_alloc | apply Kd.R_drewN | apply Kd.R_drew)); exact HO_9.out⟩, ⟨by (with_reducible repeat (first | apply Kd.R_alloc | apply Kd.R_drewN | apply Kd.R_drew)); exact HO_65.out⟩, ⟨by (with_reducible repeat (first | refine blk_drewN ?_ _ | refine blk_drew ?_ | refine blk_alloc ?_ _)); exact BK279.out⟩, ⟨by repeat (first | (with_reducible first | exact HB.out | apply below_alloc | apply pw_below_drewN | apply below_drew1 | refine below_set ?_ GE279.out) | exact HB.out)⟩⟩
                            · rw [if_neg c31] at H
                              exact absurd H (by simp)
                          · rw [if_neg c30] at H
                            exact absurd H (by simp)
                        · rw [if_neg c29] at H
                          have c29b0 : decide (x67_4 < (t288.length : Int)) = false := decide_eq_false c29
                          clear c29
                          by_cases c44 : t289 = true
                          · subst c44
                            have H1 : (if (x11_3 == x12_4) = true then ((interleavelaw31_awake.f k4).bind fun t299 => (some t299)) else (some false)) = some r := by rw [if_pos rfl] at H; exact H
                            clear H
                            have H := H1
                            clear H1
                            by_cases c45 : (x11_3 == x12_4) = true
                            · rw [if_pos c45] at H
                              have c45b0 : (x11_3 == x12_4) = true := c45
                              (try (have c45b1 : decide (x11_3 = x12_4) = true := by simpa using c45))
                              (try (have c45b2 : (x11_3 == x12_4) = true := by simpa using c45))
                              clear c45
                              replace H := Option.bind_eq_some_iff.mp H
                              obtain ⟨t299, A460, H⟩ := H
                              replace H : (some t299) = some r := H
                              have A46 := Aside0.mk A460
                              clear A460
                              obtain rfl := Option.some.inj H
                              go_wp2_with (first | (go_at_call 14; (with_reducible refine (interleavelaw31_awake.calls k4  t299 _ ?side1 A46.out).mono ?_); (case side1 => exact GW.below HG.out (by repeat (first | (with_reducible first | exact HB.out | apply below_alloc | apply pw_below_drewN | apply below_drew1 | refine below_set ?_ GE279.out) | exact HB.out))); rintro e w47 ⟨rfl, hb⟩; have n0_ := Aside0.mk (Kd.R_below (by (with_reducible repeat (first | apply Kd.R_alloc | apply Kd.R_drewN | apply Kd.R_drew)); exact HO_9.out) hb); have n1_ := Aside0.mk (Kd.R_below (by (with_reducible repeat (first | apply Kd.R_alloc | apply Kd.R_drewN | apply Kd.R_drew)); exact HO_65.out) hb); have n2_ := Aside0.mk (blk_below (g := gb279) (o := .cells #[.slice A1_0 l1_0.length c1_0, .slice A1_1 l1_1.length c1_1] 44 (0, 0)) (by (with_reducible repeat (first | refine blk_drewN ?_ _ | refine blk_drew ?_ | refine blk_alloc ?_ _)); exact BK279.out) hb); have n3_ := Aside0.mk (below_step (by repeat (first | (with_reducible first | exact HB.out | apply below_alloc | apply pw_below_drewN | apply below_drew1 | refine below_set ?_ GE279.out) | exact HB.out)) hb); clear HO_9; clear HO_65; clear BK279; clear HB; have HO_9 := n0_; have HO_65 := n1_; have BK279 := n2_; have HB := n3_; clear n0_ n1_ n2_ n3_; (try clear hb); (try clear hb2); (try clear hk); (try clear hi)))
                              go_ret
                              exact ⟨by first | rfl | (simp [errW_none, errW_some] <;> rfl) | (simp [*, errW_none, errW_some] <;> rfl), by repeat (first | (with_reducible first | exact HB.out | apply below_alloc | apply pw_below_drewN | apply below_drew1 | refine below_set ?_ GE279.out) | exact HB.out)⟩
                            · rw [if_neg c45] at H
                              have c45b0 : (x11_3 == x12_4) = false := by simpa using c45
                              (try (have c45b1 : decide (x11_3 = x12_4) = false := by simpa using c45))
                              (try (have c45b2 : (x11_3 == x12_4) = false := by simpa using c45))
                              (try (have c45b3 : ¬ (x11_3 = x12_4) := by simpa using c45))
                              clear c45
                              obtain rfl := Option.some.inj H
                              go_wp2
                              go_ret
                              exact ⟨by first | rfl | (simp [errW_none, errW_some] <;> rfl) | (simp [*, errW_none, errW_some] <;> rfl), by repeat (first | (with_reducible first | exact HB.out | apply below_alloc | apply pw_below_drewN | apply below_drew1 | refine below_set ?_ GE279.out) | exact HB.out)⟩
                          · replace c44 := Bool.eq_false_iff.mpr c44
                            subst c44
                            have H1 : (if (t288.length : Int) = 0 then (if x11_3 = true then ((interleavelaw31_awake.f k4).bind fun t300 => (some t300)) else (if (l1_0.length : Int) < 20 then ((interleavelaw31_awake.f k4).bind fun t301 => (some t301)) else (some false))) else (some false)) = some r := by rw [if_neg (show ¬ (false = true) by decide)] at H; exact H
                            clear H
                            have H := H1
                            clear H1
                            by_cases c48 : (t288.length : Int) = 0
                            · rw [if_pos c48] at H
                              have c48b0 : ((t288.length : Int) == 0) = true := beq_iff_eq.mpr c48
                              have c48b1 : ((t288.length : Int) != 0) = false := bne_eq_false_iff_eq.mpr c48
                              clear c48
                              by_cases c49 : x11_3 = true
                              · subst c49
                                have H1 : ((interleavelaw31_awake.f k4).bind fun t300 => (some t300)) = some r := by rw [if_pos rfl] at H; exact H
                                clear H
                                have H := H1
                                clear H1
                                replace H := Option.bind_eq_some_iff.mp H
                                obtain ⟨t300, A500, H⟩ := H
                                replace H : (some t300) = some r := H
                                have A50 := Aside0.mk A500
                                clear A500
                                obtain rfl := Option.some.inj H
                                go_wp2_with (first | (go_at_call 14; (with_reducible refine (interleavelaw31_awake.calls k4  t300 _ ?side1 A50.out).mono ?_); (case side1 => exact GW.below HG.out (by repeat (first | (with_reducible first | exact HB.out | apply below_alloc | apply pw_below_drewN | apply below_drew1 | refine below_set ?_ GE279.out) | exact HB.out))); rintro e w51 ⟨rfl, hb⟩; have n0_ := Aside0.mk (Kd.R_below (by (with_reducible repeat (first | apply Kd.R_alloc | apply Kd.R_drewN | apply Kd.R_drew)); exact HO_9.out) hb); have n1_ := Aside0.mk (Kd.R_below (by (with_reducible repeat (first | apply Kd.R_alloc | apply Kd.R_drewN | apply Kd.R_drew)); exact HO_65.out) hb); have n2_ := Aside0.mk (blk_below (g := gb279) (o := .cells #[.slice A1_0 l1_0.length c1_0, .slice A1_1 l1_1.length c1_1] 44 (0, 0)) (by (with_reducible repeat (first | refine blk_drewN ?_ _ | refine blk_drew ?_ | refine blk_alloc ?_ _)); exact BK279.out) hb); have n3_ := Aside0.mk (below_step (by repeat (first | (with_reducible first | exact HB.out | apply below_alloc | apply pw_below_drewN | apply below_drew1 | refine below_set ?_ GE279.out) | exact HB.out)) hb); clear HO_9; clear HO_65; clear BK279; clear HB; have HO_9 := n0_; have HO_65 := n1_; have BK279 := n2_; have HB := n3_; clear n0_ n1_ n2_ n3_; (try clear hb); (try clear hb2); (try clear hk); (try clear hi)))
                                go_ret
                                exact ⟨by first | rfl | (simp [errW_none, errW_some] <;> rfl) | (simp [*, errW_none, errW_some] <;> rfl), by repeat (first | (with_reducible first | exact HB.out | apply below_alloc | apply pw_below_drewN | apply below_drew1 | refine below_set ?_ GE279.out) | exact HB.out)⟩
                              · replace c49 := Bool.eq_false_iff.mpr c49
                                subst c49
                                have H1 : (if (l1_0.length : Int) < 20 then ((interleavelaw31_awake.f k4).bind fun t301 => (some t301)) else (some false)) = some r := by rw [if_neg (show ¬ (false = true) by decide)] at H; exact H
                                clear H
                                have H := H1
                                clear H1
                                by_cases c52 : (l1_0.length : Int) < 20
                                · rw [if_pos c52] at H
                                  have c52b0 : decide ((l1_0.length : Int) < 20) = true := decide_eq_true c52
                                  have c52b1 : decide (l1_0.length < 20) = true := decide_eq_true (by omega)
                                  clear c52
                                  replace H := Option.bind_eq_some_iff.mp H
                                  obtain ⟨t301, A530, H⟩ := H
                                  replace H : (some t301) = some r := H
                                  have A53 := Aside0.mk A530
                                  clear A530
                                  obtain rfl := Option.some.inj H
                                  have hcz54_0 : wr.cell? ⟨gb279, 0, none⟩ = some (.slice A1_0 l1_0.length c1_0) := (blk_cell BK279.out 0).trans rfl
                                  have hcz54_1 : wr.cell? ⟨gb279, 1, none⟩ = some (.slice A1_1 l1_1.length c1_1) := (blk_cell BK279.out 1).trans rfl
                                  have hfz54_0 := blk_frozen BK279.out 0
                                  have hfz54_1 := blk_frozen BK279.out 1
                                  go_wp2_with (first | (go_at_call 14; (with_reducible refine (interleavelaw31_awake.calls k4  t301 _ ?side1 A53.out).mono ?_); (case side1 => exact GW.below HG.out (by repeat (first | (with_reducible first | exact HB.out | apply below_alloc | apply pw_below_drewN | apply below_drew1 | refine below_set ?_ GE279.out) | exact HB.out))); rintro e w55 ⟨rfl, hb⟩; have n0_ := Aside0.mk (Kd.R_below (by (with_reducible repeat (first | apply Kd.R_alloc | apply Kd.R_drewN | apply Kd.R_drew)); exact HO_9.out) hb); have n1_ := Aside0.mk (Kd.R_below (by (with_reducible repeat (first | apply Kd.R_alloc | apply Kd.R_drewN | apply Kd.R_drew)); exact HO_65.out) hb); have n2_ := Aside0.mk (blk_below (g := gb279) (o := .cells #[.slice A1_0 l1_0.length c1_0, .slice A1_1 l1_1.length c1_1] 44 (0, 0)) (by (with_reducible repeat (first | refine blk_drewN ?_ _ | refine blk_drew ?_ | refine blk_alloc ?_ _)); exact BK279.out) hb); have n3_ := Aside0.mk (below_step (by repeat (first | (with_reducible first | exact HB.out | apply below_alloc | apply pw_below_drewN | apply below_drew1 | refine below_set ?_ GE279.out) | exact HB.out)) hb); clear HO_9; clear HO_65; clear BK279; clear HB; have HO_9 := n0_; have HO_65 := n1_; have BK279 := n2_; have HB := n3_; clear n0_ n1_ n2_ n3_; (try clear hb); (try clear hb2); (try clear hk); (try clear hi)))
                                  go_ret
                                  exact ⟨by first | rfl | (simp [errW_none, errW_some] <;> rfl) | (simp [*, errW_none, errW_some] <;> rfl), by repeat (first | (with_reducible first | exact HB.out | apply below_alloc | apply pw_below_drewN | apply below_drew1 | refine below_set ?_ GE279.out) | exact HB.out)⟩
                                · rw [if_neg c52] at H
                                  have c52b0 : decide ((l1_0.length : Int) < 20) = false := decide_eq_false c52
                                  have c52b1 : decide (l1_0.length < 20) = false := decide_eq_false (by omega)
                                  clear c52
                                  obtain rfl := Option.some.inj H
                                  have hcz56_0 : wr.cell? ⟨gb279, 0, none⟩ = some (.slice A1_0 l1_0.length c1_0) := (blk_cell BK279.out 0).trans rfl
                                  have hcz56_1 : wr.cell? ⟨gb279, 1, none⟩ = some (.slice A1_1 l1_1.length c1_1) := (blk_cell BK279.out 1).trans rfl
                                  have hfz56_0 := blk_frozen BK279.out 0
                                  have hfz56_1 := blk_frozen BK279.out 1
                                  go_wp2
                                  go_ret
                                  exact ⟨by first | rfl | (simp [errW_none, errW_some] <;> rfl) | (simp [*, errW_none, errW_some] <;> rfl), by repeat (first | (with_reducible first | exact HB.out | apply below_alloc | apply pw_below_drewN | apply below_drew1 | refine below_set ?_ GE279.out) | exact HB.out)⟩
                            · rw [if_neg c48] at H
                              have c48b0 : ((t288.length : Int) == 0) = false := beq_eq_false_iff_ne.mpr c48
                              have c48b1 : ((t288.length : Int) != 0) = true := bne_iff_ne.mpr c48
                              have c48b2 : ¬ (t288 = []) := fun h_ => c48 (by rw [h_]; rfl)
                              obtain rfl := Option.some.inj H
                              go_wp2
                              go_ret
                              exact ⟨by first | rfl | (simp [errW_none, errW_some] <;> rfl) | (simp [*, errW_none, errW_some] <;> rfl), by repeat (first | (with_reducible first | exact HB.out | apply below_alloc | apply pw_below_drewN | apply below_drew1 | refine below_set ?_ GE279.out) | exact HB.out)⟩

end Go.Proofs.YtpaoepcebcjfhaaDoor.X
