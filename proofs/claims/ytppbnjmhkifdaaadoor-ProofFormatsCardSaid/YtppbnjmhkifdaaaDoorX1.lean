-- Written by this session's own program (wip/tools/xprint.py).
import Derived.Test.YtppbnjmhkifdaaaDoorX0
import Derived.Test.YtppbnjmhkifdaaaDoorSort
import Derived.Test.YtppbnjmhkifdaaaDoorSx
namespace Go.Proofs.YtppbnjmhkifdaaaDoor.X
open Go.RowKit Go.Proofs.YtppbnjmhkifdaaaDoorW.PrintWords Go.Proofs.YtppbnjmhkifdaaaDoorW.PrintLast Go.Proofs.YtppbnjmhkifdaaaDoorW.PrintMore
attribute [local go_sem] max2_int min2_int max_two min_two max_three min_three max_four min_four   -- for this text's walks alone
set_option linter.unusedVariables false
set_option linter.unusedSimpArgs false

/-! ### interleavelaw33_large: function 4 -/
def interleavelaw33_large.l0 : Nat → List (S28) → Int → Int → Option (Bool)
 | 0, _, _, _ => none
 | k + 1, x0, x3, x4 => if x4 < (x0.length : Int) then (if x3 < 1000 then (if 0 ≤ x4 then (interleavelaw33_large.l0 k x0 (wrap64 (x3 + (((rd_T28 x0 x4).f2).length : Int))) (wrap64 (x4 + 1))) else (none)) else (some (decide (x3 > 200)))) else (some (decide (x3 > 200)))
def interleavelaw33_large.f (k : Nat) (l0 : List (S28)) : Option (Bool) := interleavelaw33_large.l0 k l0 (l0.length : Int) 0
theorem interleavelaw33_large.mono_l : ∀ k, (∀ y0 y1 y2, LeO (interleavelaw33_large.l0 k y0 y1 y2) (interleavelaw33_large.l0 (k + 1) y0 y1 y2))
 | 0 => fun _ _ _ r h => by simp [interleavelaw33_large.l0] at h
 | k + 1 => by
  have ih0 := interleavelaw33_large.mono_l k
  ·intro y0 y1 y2
   unfold interleavelaw33_large.l0
   repeat' first
   | (with_reducible exact ih0 _ _ _)
   | (with_reducible exact LeO.refl _)
   | (with_reducible exact LeO.none _)
   | (with_reducible refine LeO.ite ?_ ?_)
   | (with_reducible refine LeO.bind ?_ (fun _ => ?_))
   | exact ih0 _ _ _
   | exact LeO.none _
   | refine LeO.ite ?_ ?_
   | refine LeO.bind ?_ (fun _ => ?_)
theorem interleavelaw33_large.mono : ∀ a0 k, LeO (interleavelaw33_large.f k a0) (interleavelaw33_large.f (k + 1) a0) := by
 intro a0 k
 have ih0 := interleavelaw33_large.mono_l k
 unfold interleavelaw33_large.f
 repeat' first
   | (with_reducible exact ih0 _ _ _)
   | (with_reducible exact LeO.refl _)
   | (with_reducible exact LeO.none _)
   | (with_reducible refine LeO.ite ?_ ?_)
   | (with_reducible refine LeO.bind ?_ (fun _ => ?_))
   | exact ih0 _ _ _
   | exact LeO.none _
   | refine LeO.ite ?_ ?_
   | refine LeO.bind ?_ (fun _ => ?_)
set_option maxHeartbeats 8000000 in
set_option maxRecDepth 100000 in
theorem interleavelaw33_large.calls (k : Nat) (A0 : Option Addr) (c0 : Nat) (l0 : List (S28)) (r : Bool) (w : World) (hr0 : Kd.C k28 w A0 l0.length l0) (hc0 : l0.length ≤ c0) (h : interleavelaw33_large.f k l0 = some r) :
  Calls Tryd.prog 4 #[.slice A0 l0.length c0] w fun e w' => e = .returned (.bool r) ∧ Drawn0 w w' := by
 have HR0 := Aside0.mk hr0
 have HC0 := Aside0.mk hc0
 clear hr0 hc0
 have H : (interleavelaw33_large.l0 k l0 (l0.length : Int) 0) = some r := h
 clear h
 have H' := Aside0.mk H
 clear H
 go_enter Tryd.func4, Tryd.ntmps4
 go_wp2
 go_loopg [3, 4] k (fun kq v3 v4 w' => ∃ (x3_1 : Int) (x4_1 : Int), v3 = .int .i64 x3_1 ∧ v4 = .int .i64 x4_1 ∧ Aside0 (interleavelaw33_large.l0 kq l0 x3_1 x4_1 = some r) ∧ Aside0 (kq ≤ k) ∧ Drawn0 w w')
 case atStart => exact ⟨((l0.length : Int)), (0), (by first | rfl | (simp; done) | (simp [*]; done)), (by first | rfl | (simp; done) | (simp [*]; done)), H', ⟨Nat.le_refl _⟩, by repeat (first | exact Drawn0.refl _ | apply Drawn0.step)⟩
 case round => as_aux_lemma =>
  clear H'
  obtain ⟨x3_1, x4_1, rfl, rfl, HA, HK1, ⟨m1, rfl⟩⟩ := hrel
  cases gk with
  | zero => exact absurd HA.out (by simp [interleavelaw33_large.l0])
  | succ k1 =>
   have H := HA.out
   clear HA
   simp only [interleavelaw33_large.l0] at H
   by_cases c2 : x4_1 < (l0.length : Int)
   ·rw [if_pos c2] at H
    have c2b0 : decide (x4_1 < (l0.length : Int)) = true := decide_eq_true c2
    clear c2
    by_cases c3 : x3_1 < 1000
    ·rw [if_pos c3] at H
     have c3b0 : decide (x3_1 < 1000) = true := decide_eq_true c3
     clear c3
     by_cases c4 : 0 ≤ x4_1
     ·rw [if_pos c4] at H
      have c4b0 : decide (0 ≤ x4_1) = true := decide_eq_true c4
      clear c4
      have H' := Aside0.mk H
      clear H
      have p101 : 0 ≤ (x4_1 : Int) := of_decide_eq_true (by first | (with_reducible assumption) | assumption)
      have q101 : x4_1 < (l0.length : Int) := of_decide_eq_true (by first | (with_reducible assumption) | assumption)
      obtain ⟨ad101, A101_2, c101_2, e101, hx101_0, hx101_1, hx101_2, hx101_3, hx101_4, hx101_5, hl101_2, hi101_2⟩ := at_T28 HR0.out x4_1 p101 q101
      cases e101
      have HR101_2 := Aside0.mk hi101_2
      have HC101_2 := Aside0.mk hl101_2
      clear hi101_2 hl101_2
      replace p101 := eq_true p101
      replace q101 := eq_true q101
      go_wp2
      go_roundg k1
      case measure => have := HK1.out; omega
      case rel => exact ⟨(wrap64 (x3_1 + (((rd_T28 l0 x4_1).f2).length : Int))), (wrap64 (x4_1 + 1)), (by first | rfl | (simp; done) | (simp [*]; done)), (by first | rfl | (simp; done) | (simp [*]; done)), H', ⟨by have := HK1.out; omega⟩, by repeat (first | exact Drawn0.refl _ | apply Drawn0.step)⟩
     ·rw [if_neg c4] at H
      exact absurd H (by simp)
    ·rw [if_neg c3] at H
     have c3b0 : decide (x3_1 < 1000) = false := decide_eq_false c3
     clear c3
     obtain rfl := Option.some.inj H
     go_wp2
     go_ret
     exact ⟨by first | rfl | (simp; done) | (simp [*]; done), by repeat (first | exact Drawn0.refl _ | apply Drawn0.step)⟩
   ·rw [if_neg c2] at H
    have c2b0 : decide (x4_1 < (l0.length : Int)) = false := decide_eq_false c2
    clear c2
    obtain rfl := Option.some.inj H
    go_wp2
    go_ret
    exact ⟨by first | rfl | (simp; done) | (simp [*]; done), by repeat (first | exact Drawn0.refl _ | apply Drawn0.step)⟩

/-! ### interleavelaw33_example: function 8 -/
def interleavelaw33_example.f  : Option (Int × Int × (List (S53)) × (List (List Int)) × (List (S28))) := some (2, 2, (([(⟨0, 1, (-1)⟩ : S53), (⟨1, 0, (-1)⟩ : S53)] : List (S53))), (([(([1] : List Int)), (([2] : List Int))] : List (List Int))), (([(⟨1, 0, ([] : List Int), 0, 0, 0⟩ : S28), (⟨1, 1, ([] : List Int), 0, 0, 0⟩ : S28), (⟨2, 0, (([1, 2] : List Int)), 0, 0, 0⟩ : S28), (⟨3, 0, ([] : List Int), 0, 2, 0⟩ : S28), (⟨3, 0, ([] : List Int), 1, 3, 1⟩ : S28)] : List (S28))))
set_option maxHeartbeats 8000000 in
set_option maxRecDepth 100000 in
theorem interleavelaw33_example.calls  (r1 : Int) (r2 : Int) (r3 : List (S53)) (r4 : List (List Int)) (r5 : List (S28)) (w : World) (h : interleavelaw33_example.f  = some (r1, r2, r3, r4, r5)) :
  Calls Tryd.prog 8 #[] w fun e w' => ∃ v2_ v3_ v4_ : Value, e = .returned (.tuple #[.agg #[.int .i64 r1, .int .i64 r2, v2_, v3_], v4_]) ∧ Kd.R k53 53 w' w.heap.size (fun k_ => (w.heap.size ≤ k_)) v2_ r3 ∧ Kd.N (Kd.slice 3 (Kd.int .i64)) 26 w' w.heap.size (fun k_ => (w.heap.size ≤ k_) ∧ some k_ ≠ (v2_ : Value).ownBlock ∧ some k_ ≠ (v4_ : Value).ownBlock) v3_ r4 ∧ Kd.N k28 28 w' w.heap.size (fun k_ => (w.heap.size ≤ k_) ∧ some k_ ≠ (v2_ : Value).ownBlock ∧ some k_ ≠ (v3_ : Value).ownBlock) v4_ r5 ∧ Below w.heap.size w w' := by
 have hu32 := Tryd.underlying32
 have hu53 := Tryd.underlying53
 have hu28 := Tryd.underlying28
 have HB := Aside0.mk (Below.refl w.heap.size w)
 have H : (some (2, 2, (([(⟨0, 1, (-1)⟩ : S53), (⟨1, 0, (-1)⟩ : S53)] : List (S53))), (([(([1] : List Int)), (([2] : List Int))] : List (List Int))), (([(⟨1, 0, ([] : List Int), 0, 0, 0⟩ : S28), (⟨1, 1, ([] : List Int), 0, 0, 0⟩ : S28), (⟨2, 0, (([1, 2] : List Int)), 0, 0, 0⟩ : S28), (⟨3, 0, ([] : List Int), 0, 2, 0⟩ : S28), (⟨3, 0, ([] : List Int), 1, 3, 1⟩ : S28)] : List (S28))))) = some (r1, r2, r3, r4, r5) := h
 clear h
 obtain ⟨y103, hy103⟩ : ∃ y_ : List (S53), y_ = (([(⟨0, 1, (-1)⟩ : S53), (⟨1, 0, (-1)⟩ : S53)] : List (S53))) := ⟨_, rfl⟩
 replace H : (some (2, 2, y103, (([(([1] : List Int)), (([2] : List Int))] : List (List Int))), (([(⟨1, 0, ([] : List Int), 0, 0, 0⟩ : S28), (⟨1, 1, ([] : List Int), 0, 0, 0⟩ : S28), (⟨2, 0, (([1, 2] : List Int)), 0, 0, 0⟩ : S28), (⟨3, 0, ([] : List Int), 0, 2, 0⟩ : S28), (⟨3, 0, ([] : List Int), 1, 3, 1⟩ : S28)] : List (S28))))) = some (r1, r2, r3, r4, r5) := by first | (rw [hy103]; with_reducible exact H) | (have H2_ := (Option.bind_some _ _).symm.trans H; rw [hy103]; with_reducible exact H2_) | (have H2_ := (Option.bind_some _ _).symm.trans H; with_reducible exact H2_) | with_reducible exact H | (rw [hy103]; exact H) | exact H
 have Ny103 := Aside0.mk hy103
 clear hy103
 obtain ⟨y106, hy106⟩ : ∃ y_ : List Int, y_ = (([1] : List Int)) := ⟨_, rfl⟩
 replace H : (some (2, 2, y103, (([y106, (([2] : List Int))] : List (List Int))), (([(⟨1, 0, ([] : List Int), 0, 0, 0⟩ : S28), (⟨1, 1, ([] : List Int), 0, 0, 0⟩ : S28), (⟨2, 0, (([1, 2] : List Int)), 0, 0, 0⟩ : S28), (⟨3, 0, ([] : List Int), 0, 2, 0⟩ : S28), (⟨3, 0, ([] : List Int), 1, 3, 1⟩ : S28)] : List (S28))))) = some (r1, r2, r3, r4, r5) := by first | (rw [hy106]; with_reducible exact H) | (have H2_ := (Option.bind_some _ _).symm.trans H; rw [hy106]; with_reducible exact H2_) | (have H2_ := (Option.bind_some _ _).symm.trans H; with_reducible exact H2_) | with_reducible exact H | (rw [hy106]; exact H) | exact H
 have Ny106 := Aside0.mk hy106
 clear hy106
 obtain ⟨y109, hy109⟩ : ∃ y_ : List Int, y_ = (([2] : List Int)) := ⟨_, rfl⟩
 replace H : (some (2, 2, y103, (([y106, y109] : List (List Int))), (([(⟨1, 0, ([] : List Int), 0, 0, 0⟩ : S28), (⟨1, 1, ([] : List Int), 0, 0, 0⟩ : S28), (⟨2, 0, (([1, 2] : List Int)), 0, 0, 0⟩ : S28), (⟨3, 0, ([] : List Int), 0, 2, 0⟩ : S28), (⟨3, 0, ([] : List Int), 1, 3, 1⟩ : S28)] : List (S28))))) = some (r1, r2, r3, r4, r5) := by first | (rw [hy109]; with_reducible exact H) | (have H2_ := (Option.bind_some _ _).symm.trans H; rw [hy109]; with_reducible exact H2_) | (have H2_ := (Option.bind_some _ _).symm.trans H; with_reducible exact H2_) | with_reducible exact H | (rw [hy109]; exact H) | exact H
 have Ny109 := Aside0.mk hy109
 clear hy109
 obtain ⟨y112, hy112⟩ : ∃ y_ : List (List Int), y_ = (([y106, y109] : List (List Int))) := ⟨_, rfl⟩
 replace H : (some (2, 2, y103, y112, (([(⟨1, 0, ([] : List Int), 0, 0, 0⟩ : S28), (⟨1, 1, ([] : List Int), 0, 0, 0⟩ : S28), (⟨2, 0, (([1, 2] : List Int)), 0, 0, 0⟩ : S28), (⟨3, 0, ([] : List Int), 0, 2, 0⟩ : S28), (⟨3, 0, ([] : List Int), 1, 3, 1⟩ : S28)] : List (S28))))) = some (r1, r2, r3, r4, r5) := by first | (rw [hy112]; with_reducible exact H) | (have H2_ := (Option.bind_some _ _).symm.trans H; rw [hy112]; with_reducible exact H2_) | (have H2_ := (Option.bind_some _ _).symm.trans H; with_reducible exact H2_) | with_reducible exact H | (rw [hy112]; exact H) | exact H
 have Ny112 := Aside0.mk hy112
 clear hy112
 obtain ⟨y116, hy116⟩ : ∃ y_ : List Int, y_ = (([1, 2] : List Int)) := ⟨_, rfl⟩
 replace H : (some (2, 2, y103, y112, (([(⟨1, 0, ([] : List Int), 0, 0, 0⟩ : S28), (⟨1, 1, ([] : List Int), 0, 0, 0⟩ : S28), (⟨2, 0, y116, 0, 0, 0⟩ : S28), (⟨3, 0, ([] : List Int), 0, 2, 0⟩ : S28), (⟨3, 0, ([] : List Int), 1, 3, 1⟩ : S28)] : List (S28))))) = some (r1, r2, r3, r4, r5) := by first | (rw [hy116]; with_reducible exact H) | (have H2_ := (Option.bind_some _ _).symm.trans H; rw [hy116]; with_reducible exact H2_) | (have H2_ := (Option.bind_some _ _).symm.trans H; with_reducible exact H2_) | with_reducible exact H | (rw [hy116]; exact H) | exact H
 have Ny116 := Aside0.mk hy116
 clear hy116
 obtain ⟨y119, hy119⟩ : ∃ y_ : List (S28), y_ = (([(⟨1, 0, ([] : List Int), 0, 0, 0⟩ : S28), (⟨1, 1, ([] : List Int), 0, 0, 0⟩ : S28), (⟨2, 0, y116, 0, 0, 0⟩ : S28), (⟨3, 0, ([] : List Int), 0, 2, 0⟩ : S28), (⟨3, 0, ([] : List Int), 1, 3, 1⟩ : S28)] : List (S28))) := ⟨_, rfl⟩
 replace H : (some (2, 2, y103, y112, y119)) = some (r1, r2, r3, r4, r5) := by first | (rw [hy119]; with_reducible exact H) | (have H2_ := (Option.bind_some _ _).symm.trans H; rw [hy119]; with_reducible exact H2_) | (have H2_ := (Option.bind_some _ _).symm.trans H; with_reducible exact H2_) | with_reducible exact H | (rw [hy119]; exact H) | exact H
 have Ny119 := Aside0.mk hy119
 clear hy119
 simp only [Option.some.injEq, Prod.mk.injEq] at H
 obtain ⟨rfl, rfl, rfl, rfl, rfl⟩ := H
 go_enter Tryd.func8, Tryd.ntmps8
 go_wp2_with (first | ((with_reducible refine gate_dst (N := 0) rfl ?_); refine box_ev (N := 0) rfl (cs := #[.int .i64 0, .int .i64 0, .slice none 0 0, .slice none 0 0]) (t := 32) ?_; intro gb102 hg w1 hbox hb; have n0_ := Aside0.mk (below_step HB.l hb); have n1_ := Aside0.mk (hbox); have n2_ := Aside0.mk ((by rw [hg]; exact (below_size HB.l) : w.heap.size ≤ gb102)); have n3_ := Aside0.mk ((by rw [hg]; exact (below_size HB.l) : w.heap.size ≤ gb102)); clear HB; revert n0_ n1_ n2_ n3_; intro HB BK102 GW102 GE102; clear hb hbox hg) | ((with_reducible refine gate_dst (N := 5) rfl ?_); refine Kd.R_lit k53 _ 53 ?hg (N := 5) ?hd (xs := ([(⟨0, 1, (-1)⟩ : S53), (⟨1, 0, (-1)⟩ : S53)] : List (S53))) (inner := [.int .i64 0, .int .i64 1, .int .i64 (-1), .int .i64 1, .int .i64 0, .int .i64 (-1)]) (ok := fun _ => True) (okp := fun _ => True) ?hr ?hp (fun _ hk => hk) trivial (Below.refl _ _) (Nat.le_refl _) (by simp) ?_; (case hd => rfl); (case hg => rfl); (case hr => first | (go_simp; done) | (go_simp; rfl)); (case hp => exact (Reps.c3 (show Kd.M k53 _ _ _ (⟨0, 1, (-1)⟩ : S53) [.int .i64 0, .int .i64 1, .int .i64 (-1)] from (k53_mkM _ _ _ (⟨0, 1, (-1)⟩ : S53) )) (Reps.c3 (show Kd.M k53 _ _ _ (⟨1, 0, (-1)⟩ : S53) [.int .i64 1, .int .i64 0, .int .i64 (-1)] from (k53_mkM _ _ _ (⟨1, 0, (-1)⟩ : S53) )) (Reps.none _ _)))); intro v104 w2 ho3 hb hg_ hnew_; clear hg_ hnew_; (first | rw [← Ny103.out] at ho3 | (simp only [Int.reduceToNat] at ho3; rw [← Ny103.out] at ho3)); have n0_ := Aside0.mk (Kd.R_lower (Kd.R_newM (M := fun k_ => (w.heap.size ≤ k_)) ho3 (below_size HB.l) (fun k_ h_ => h_)) (below_size HB.l)); have n1_ := Aside0.mk (blk_below BK102.b hb); have n2_ := Aside0.mk (below_step HB.l hb); clear BK102 HB; revert n0_ n1_ n2_; intro HO105 BK102 HB; clear hb ho3) | ((with_reducible refine gate_dst (N := 6) rfl ?_); refine Kd.R_lit (Kd.int .i64) _ 3 ?hg (N := 6) ?hd (xs := ([1] : List Int)) (inner := [.int .i64 1]) (ok := fun _ => True) (okp := fun _ => True) ?hr ?hp (fun _ hk => hk) trivial (Below.refl _ _) (Nat.le_refl _) (by simp) ?_; (case hd => rfl); (case hg => rfl); (case hr => first | (go_simp; done) | (go_simp; rfl)); (case hp => exact (Reps.one (show Kd.M (Kd.int .i64) _ _ _ 1 [.int .i64 1] from rfl) (Reps.none _ _))); intro v107 w4 ho5 hb hg_ hnew_; clear hg_ hnew_; (first | rw [← Ny106.out] at ho5 | (simp only [Int.reduceToNat] at ho5; rw [← Ny106.out] at ho5)); have n0_ := Aside0.mk (Kd.R_below HO105.r hb); have n1_ := Aside0.mk (Kd.R_lower (Kd.R_newM (M := fun k_ => (w.heap.size ≤ k_)) ho5 (below_size HB.l) (fun k_ h_ => h_)) (below_size HB.l)); have n2_ := Aside0.mk (blk_below BK102.b hb); have n3_ := Aside0.mk (below_step HB.l hb); clear HO105 BK102 HB; revert n0_ n1_ n2_ n3_; intro HO105 HO108 BK102 HB; clear hb ho5) | ((with_reducible refine gate_dst (N := 7) rfl ?_); refine Kd.R_lit (Kd.int .i64) _ 3 ?hg (N := 7) ?hd (xs := ([2] : List Int)) (inner := [.int .i64 2]) (ok := fun _ => True) (okp := fun _ => True) ?hr ?hp (fun _ hk => hk) trivial (Below.refl _ _) (Nat.le_refl _) (by simp) ?_; (case hd => rfl); (case hg => rfl); (case hr => first | (go_simp; done) | (go_simp; rfl)); (case hp => exact (Reps.one (show Kd.M (Kd.int .i64) _ _ _ 2 [.int .i64 2] from rfl) (Reps.none _ _))); intro v110 w6 ho7 hb hg_ hnew_; clear hg_ hnew_; (first | rw [← Ny109.out] at ho7 | (simp only [Int.reduceToNat] at ho7; rw [← Ny109.out] at ho7)); have n0_ := Aside0.mk (Kd.R_below HO105.r hb); have n1_ := Aside0.mk (Kd.R_elder' HO108.r (Kd.R_base ho7) hb); have n2_ := Aside0.mk (Kd.R_lower (Kd.R_new' (Kd.R_newM (M := fun k_ => (w.heap.size ≤ k_)) ho7 (below_size HB.l) (fun k_ h_ => h_)) (Kd.R_lt HO108.r)) (below_size HB.l)); have n3_ := Aside0.mk (blk_below BK102.b hb); have n4_ := Aside0.mk (below_step HB.l hb); clear HO105 HO108 BK102 HB; revert n0_ n1_ n2_ n3_ n4_; intro HO105 HO108 HO111 BK102 HB; clear hb ho7; obtain ⟨Ao8, co8, eo8⟩ := Kd.R_slice HO108.out; subst eo8; obtain ⟨Ao9, co9, eo9⟩ := Kd.R_slice HO111.out; subst eo9) | ((with_reducible refine gate_dst (N := 8) rfl ?_); refine Kd.N_lit (Kd.slice 3 (Kd.int .i64)) _ 26 ?hg (N' := 8) ?hd (xs := ([y106, y109] : List (List Int))) (inner := [.slice Ao8 y106.length co8, .slice Ao9 y109.length co9]) (ok := (fun k_ => (w.heap.size ≤ k_) ∧ some k_ ≠ (v104 : Value).ownBlock ∧ k_ ≠ gb102)) (okp := (fun k_ => (w.heap.size ≤ k_) ∧ some k_ ≠ (v104 : Value).ownBlock ∧ k_ ≠ gb102)) ?hr ?hp (fun _ hk => hk) ((show ∀ k_, w6.heap.size ≤ k_ → (fun k_ => (w.heap.size ≤ k_) ∧ some k_ ≠ (v104 : Value).ownBlock ∧ k_ ≠ gb102) k_ from fun k_ hk => ⟨(Nat.le_trans (below_size HB.l) hk), Kd.fresh' (Kd.R_lt HO105.r) k_ hk, Kd.freshB (g := gb102) (o := .cells #[.int .i64 0, .int .i64 0, .slice none 0 0, .slice none 0 0] 32 (0, 0)) BK102.b k_ hk⟩) _ (Nat.le_refl _)) (Below.refl _ _) (Nat.le_refl _) (by simp) ?_; (case hd => rfl); (case hg => rfl); (case hr => first | (go_simp; done) | (go_simp; rfl)); (case hp => exact (Reps.one (show Kd.FK (Kd.slice 3 (Kd.int .i64)) _ _ y106 [.slice Ao8 y106.length co8] from (Kd.FK_slice_mk (Kd.R_reads' (Kd.R_mono (ok' := (fun k_ => (w.heap.size ≤ k_) ∧ some k_ ≠ (v104 : Value).ownBlock ∧ k_ ≠ gb102)) (Kd.R_types (Kd.R_apart' (HO108.out) (Kd.R_typed HO105.out) (by decide)) BK102.out (by decide)) (fun k_ hk => ⟨hk.1.1.1.1, ⟨hk.1.2, hk.2⟩⟩))).2.1 (Kd.R_F (Kd.R_mono (ok' := (fun k_ => (w.heap.size ≤ k_) ∧ some k_ ≠ (v104 : Value).ownBlock ∧ k_ ≠ gb102)) (Kd.R_types (Kd.R_apart' (HO108.out) (Kd.R_typed HO105.out) (by decide)) BK102.out (by decide)) (fun k_ hk => ⟨hk.1.1.1.1, ⟨hk.1.2, hk.2⟩⟩))))) (Reps.one (show Kd.FK (Kd.slice 3 (Kd.int .i64)) _ _ y109 [.slice Ao9 y109.length co9] from (Kd.FK_slice_mk (Kd.R_reads' (Kd.R_mono (ok' := (fun k_ => (w.heap.size ≤ k_) ∧ some k_ ≠ (v104 : Value).ownBlock ∧ k_ ≠ gb102)) (Kd.R_types (Kd.R_apart' (HO111.out) (Kd.R_typed HO105.out) (by decide)) BK102.out (by decide)) (fun k_ hk => ⟨hk.1.1.1.1, ⟨hk.1.2, hk.2⟩⟩))).2.1 (Kd.R_F (Kd.R_mono (ok' := (fun k_ => (w.heap.size ≤ k_) ∧ some k_ ≠ (v104 : Value).ownBlock ∧ k_ ≠ gb102)) (Kd.R_types (Kd.R_apart' (HO111.out) (Kd.R_typed HO105.out) (by decide)) BK102.out (by decide)) (fun k_ hk => ⟨hk.1.1.1.1, ⟨hk.1.2, hk.2⟩⟩))))) (Reps.none _ _)))); intro v113 w10 ho11 hb hg_ hnew_; clear hg_ hnew_; (first | rw [← Ny112.out] at ho11 | (simp only [Int.reduceToNat] at ho11; rw [← Ny112.out] at ho11)); have n0_ := Aside0.mk (Kd.R_below HO105.r hb); have n1_ := Aside0.mk (Kd.N_lower ho11 (below_size HB.l)); have n2_ := Aside0.mk (blk_below BK102.b hb); have n3_ := Aside0.mk (below_step HB.l hb); clear HO105 BK102 HB HO108 HO111; revert n0_ n1_ n2_ n3_; intro HO105 HO114 BK102 HB; clear hb ho11; obtain ⟨Ao12, co12, eo12⟩ := Kd.N_slice HO114.out; subst eo12; obtain ⟨Ao13, co13, eo13⟩ := Kd.R_slice HO105.out; subst eo13) | ((with_reducible refine gate_dst (N := 2) rfl ?_); refine box_ev (N := 2) rfl (cs := #[.int .i64 0, .int .i64 0, .slice none 0 0, .slice none 0 0]) (t := 32) ?_; intro gb115 hg w14z hboxz hbz; have HGz := Aside0.mk (And.intro hg (And.intro hboxz hbz)); clear hg hboxz hbz) | ((with_reducible refine gate_store (t := 32) (p := 2) (v := _) rfl ?_); have hg := HGz.out.1; refine store_box rfl rfl rfl hg HGz.out.2.1 HGz.out.2.2 rfl (cs := #[.int .i64 2, .int .i64 2, .slice Ao13 y103.length co13, .slice Ao12 y112.length co12]) ?hx (by kernel_rfl) rfl rfl ?_; (case hx => first | rfl | (go_simp; rfl)); intro w14 hbox hb; clear HGz; have n0_ := Aside0.mk (Kd.R_below HO105.r hb); have n1_ := Aside0.mk (Kd.N_below (Kd.N_elderB HO114.n gb115 (Nat.le_of_eq hg.symm)) hb); have n2_ := Aside0.mk (blk_below BK102.b hb); have n3_ := Aside0.mk (below_step HB.l hb); have n4_ := Aside0.mk (hbox); have n5_ := Aside0.mk ((by rw [hg]; exact (below_size HB.l) : w.heap.size ≤ gb115)); have n6_ := Aside0.mk ((by rw [hg]; exact (below_size HB.l) : w.heap.size ≤ gb115)); have n7_ := Aside0.mk ((by rw [hg]; exact Nat.ne_of_lt (blk_lt BK102.b) : gb102 ≠ gb115)); have n8_ := Aside0.mk ((by rw [hg]; exact Nat.ne_of_gt (blk_lt BK102.b) : gb115 ≠ gb102)); clear HO105 HO114 BK102 HB; revert n0_ n1_ n2_ n3_ n4_ n5_ n6_ n7_ n8_; intro HO105 HO114 BK102 HB BK115 GW115 GE115 NB102_115 NB115_102; clear hb hbox hg; have hnb15 := NB115_102.out; have hnc15 := NB102_115.out; have hcz16_0 := BK115.cl 0 (.int .i64 2); have hcz16_1 := BK115.cl 1 (.int .i64 2); have hcz16_2 := BK115.cl 2 (.slice Ao13 y103.length co13); have hcz16_3 := BK115.cl 3 (.slice Ao12 y112.length co12); have hfz16_0 := BK115.fz 0; have hfz16_1 := BK115.fz 1; have hfz16_2 := BK115.fz 2; have hfz16_3 := BK115.fz 3) | ((with_reducible refine gate_dst (N := 13) rfl ?_); refine Kd.R_lit (Kd.int .i64) _ 3 ?hg (N := 13) ?hd (xs := ([1, 2] : List Int)) (inner := [.int .i64 1, .int .i64 2]) (ok := fun _ => True) (okp := fun _ => True) ?hr ?hp (fun _ hk => hk) trivial (Below.refl _ _) (Nat.le_refl _) (by simp) ?_; (case hd => rfl); (case hg => rfl); (case hr => first | (go_simp; done) | (go_simp; rfl)); (case hp => exact (Reps.one (show Kd.M (Kd.int .i64) _ _ _ 1 [.int .i64 1] from rfl) (Reps.one (show Kd.M (Kd.int .i64) _ _ _ 2 [.int .i64 2] from rfl) (Reps.none _ _)))); intro v117 w17 ho18 hb hg_ hnew_; clear hg_ hnew_; (first | rw [← Ny116.out] at ho18 | (simp only [Int.reduceToNat] at ho18; rw [← Ny116.out] at ho18)); have n0_ := Aside0.mk (Kd.R_below (by (with_reducible repeat (first | apply Kd.R_alloc | apply Kd.R_drewN | apply Kd.R_drew)); exact (HO105.out)) hb); have n1_ := Aside0.mk (Kd.N_elder' (by (with_reducible repeat (first | apply Kd.N_alloc | apply Kd.N_drewN | apply Kd.N_drew)); exact (HO114.out)) (Kd.R_base ho18) hb); have n2_ := Aside0.mk (Kd.R_lower (Kd.R_newM (M := fun k_ => (w.heap.size ≤ k_)) ho18 (below_size HB.l) (fun k_ h_ => h_)) (below_size HB.l)); have n3_ := Aside0.mk (blk_below BK102.b hb); have n4_ := Aside0.mk (blk_below BK115.b hb); have n5_ := Aside0.mk (below_step HB.l hb); clear HO105 HO114 BK102 BK115 HB; revert n0_ n1_ n2_ n3_ n4_ n5_; intro HO105 HO114 HO118 BK102 BK115 HB; clear hb ho18; obtain ⟨Ao19, co19, eo19⟩ := Kd.R_slice HO118.out; subst eo19) | ((with_reducible refine gate_dst (N := 17) rfl ?_); refine Kd.N_lit k28 _ 28 ?hg (N' := 17) ?hd (xs := ([(⟨1, 0, ([] : List Int), 0, 0, 0⟩ : S28), (⟨1, 1, ([] : List Int), 0, 0, 0⟩ : S28), (⟨2, 0, y116, 0, 0, 0⟩ : S28), (⟨3, 0, ([] : List Int), 0, 2, 0⟩ : S28), (⟨3, 0, ([] : List Int), 1, 3, 1⟩ : S28)] : List (S28))) (inner := [.int .i64 1, .int .i64 0, .slice none 0 0, .int .i64 0, .int .i64 0, .int .i64 0, .int .i64 1, .int .i64 1, .slice none 0 0, .int .i64 0, .int .i64 0, .int .i64 0, .int .i64 2, .int .i64 0, .slice Ao19 y116.length co19, .int .i64 0, .int .i64 0, .int .i64 0, .int .i64 3, .int .i64 0, .slice none 0 0, .int .i64 0, .int .i64 2, .int .i64 0, .int .i64 3, .int .i64 0, .slice none 0 0, .int .i64 1, .int .i64 3, .int .i64 1]) (ok := (fun k_ => (w.heap.size ≤ k_) ∧ some k_ ≠ (.slice Ao13 y103.length co13 : Value).ownBlock ∧ some k_ ≠ (.slice Ao12 y112.length co12 : Value).ownBlock ∧ k_ ≠ gb102 ∧ k_ ≠ gb115)) (okp := (fun k_ => (w.heap.size ≤ k_) ∧ some k_ ≠ (.slice Ao13 y103.length co13 : Value).ownBlock ∧ some k_ ≠ (.slice Ao12 y112.length co12 : Value).ownBlock ∧ k_ ≠ gb102 ∧ k_ ≠ gb115)) ?hr ?hp (fun _ hk => hk) ((show ∀ k_, w17.heap.size ≤ k_ → (fun k_ => (w.heap.size ≤ k_) ∧ some k_ ≠ (.slice Ao13 y103.length co13 : Value).ownBlock ∧ some k_ ≠ (.slice Ao12 y112.length co12 : Value).ownBlock ∧ k_ ≠ gb102 ∧ k_ ≠ gb115) k_ from fun k_ hk => ⟨(Nat.le_trans (below_size HB.l) hk), Kd.fresh' (Kd.R_lt HO105.r) k_ hk, Kd.fresh' (Kd.N_lt HO114.n) k_ hk, Kd.freshB (g := gb102) (o := .cells #[.int .i64 0, .int .i64 0, .slice none 0 0, .slice none 0 0] 32 (0, 0)) BK102.b k_ hk, Kd.freshB (g := gb115) (o := .cells #[.int .i64 2, .int .i64 2, .slice Ao13 y103.length co13, .slice Ao12 y112.length co12] 32 (0, 0)) BK115.b k_ hk⟩) _ (Nat.le_refl _)) (Below.refl _ _) (Nat.le_refl _) (by simp) ?_; (case hd => rfl); (case hg => rfl); (case hr => first | (go_simp; done) | (go_simp; rfl)); (case hp => exact (Reps.c6 (show Kd.FK k28 _ _ (⟨1, 0, ([] : List Int), 0, 0, 0⟩ : S28) [.int .i64 1, .int .i64 0, .slice none 0 0, .int .i64 0, .int .i64 0, .int .i64 0] from (k28_mkF _ _ (⟨1, 0, ([] : List Int), 0, 0, 0⟩ : S28) (Nat.le_refl _) (Kd.F_nil _ _ _))) (Reps.c6 (show Kd.FK k28 _ _ (⟨1, 1, ([] : List Int), 0, 0, 0⟩ : S28) [.int .i64 1, .int .i64 1, .slice none 0 0, .int .i64 0, .int .i64 0, .int .i64 0] from (k28_mkF _ _ (⟨1, 1, ([] : List Int), 0, 0, 0⟩ : S28) (Nat.le_refl _) (Kd.F_nil _ _ _))) (Reps.c6 (show Kd.FK k28 _ _ (⟨2, 0, y116, 0, 0, 0⟩ : S28) [.int .i64 2, .int .i64 0, .slice Ao19 y116.length co19, .int .i64 0, .int .i64 0, .int .i64 0] from (k28_mkF _ _ (⟨2, 0, y116, 0, 0, 0⟩ : S28) (Kd.R_reads' (Kd.R_mono (ok' := (fun k_ => (w.heap.size ≤ k_) ∧ some k_ ≠ (.slice Ao13 y103.length co13 : Value).ownBlock ∧ some k_ ≠ (.slice Ao12 y112.length co12 : Value).ownBlock ∧ k_ ≠ gb102 ∧ k_ ≠ gb115)) (Kd.R_types (Kd.R_types (Kd.R_apart' (Kd.R_apart' (HO118.out) (Kd.R_typed HO105.out) (by decide)) (Kd.N_typed HO114.out) (by decide)) BK102.out (by decide)) BK115.out (by decide)) (fun k_ hk => ⟨hk.1.1.1.1.1, ⟨hk.1.1.1.2, ⟨hk.1.1.2, ⟨hk.1.2, hk.2⟩⟩⟩⟩))).2.1 (Kd.R_F (Kd.R_mono (ok' := (fun k_ => (w.heap.size ≤ k_) ∧ some k_ ≠ (.slice Ao13 y103.length co13 : Value).ownBlock ∧ some k_ ≠ (.slice Ao12 y112.length co12 : Value).ownBlock ∧ k_ ≠ gb102 ∧ k_ ≠ gb115)) (Kd.R_types (Kd.R_types (Kd.R_apart' (Kd.R_apart' (HO118.out) (Kd.R_typed HO105.out) (by decide)) (Kd.N_typed HO114.out) (by decide)) BK102.out (by decide)) BK115.out (by decide)) (fun k_ hk => ⟨hk.1.1.1.1.1, ⟨hk.1.1.1.2, ⟨hk.1.1.2, ⟨hk.1.2, hk.2⟩⟩⟩⟩))))) (Reps.c6 (show Kd.FK k28 _ _ (⟨3, 0, ([] : List Int), 0, 2, 0⟩ : S28) [.int .i64 3, .int .i64 0, .slice none 0 0, .int .i64 0, .int .i64 2, .int .i64 0] from (k28_mkF _ _ (⟨3, 0, ([] : List Int), 0, 2, 0⟩ : S28) (Nat.le_refl _) (Kd.F_nil _ _ _))) (Reps.c6 (show Kd.FK k28 _ _ (⟨3, 0, ([] : List Int), 1, 3, 1⟩ : S28) [.int .i64 3, .int .i64 0, .slice none 0 0, .int .i64 1, .int .i64 3, .int .i64 1] from (k28_mkF _ _ (⟨3, 0, ([] : List Int), 1, 3, 1⟩ : S28) (Nat.le_refl _) (Kd.F_nil _ _ _))) (Reps.none _ _))))))); intro v120 w20 ho21 hb hg_ hnew_; clear hg_ hnew_; (first | rw [← Ny119.out] at ho21 | (simp only [Int.reduceToNat] at ho21; rw [← Ny119.out] at ho21)); have n0_ := Aside0.mk (Kd.R_below HO105.r hb); have n1_ := Aside0.mk (Kd.N_elder' HO114.n (Kd.N_base ho21) hb); have n2_ := Aside0.mk (Kd.N_lower ho21 (below_size HB.l)); have n3_ := Aside0.mk (blk_below BK102.b hb); have n4_ := Aside0.mk (blk_below BK115.b hb); have n5_ := Aside0.mk (below_step HB.l hb); clear HO105 HO114 BK102 BK115 HB HO118; revert n0_ n1_ n2_ n3_ n4_ n5_; intro HO105 HO114 HO121 BK102 BK115 HB; clear hb ho21; have hcz22_0 := BK102.cl 0 (.int .i64 0); have hcz22_1 := BK102.cl 1 (.int .i64 0); have hcz22_2 := BK102.cl 2 (.slice none 0 0); have hcz22_3 := BK102.cl 3 (.slice none 0 0); have hfz22_0 := BK102.fz 0; have hfz22_1 := BK102.fz 1; have hfz22_2 := BK102.fz 2; have hfz22_3 := BK102.fz 3))
 refine bodyPost_ret (results_ct rfl _ _ gb102 32 #[.int .i64 2, .int .i64 2, .slice Ao13 y103.length co13, .slice Ao12 y112.length co12] (0, 0) _ rfl (by (with_reducible repeat (first | refine blk_drewN ?_ _ | refine blk_drew ?_ | refine blk_alloc ?_ _)); refine blk_put (cs := #[.int .i64 2, .int .i64 2, .slice Ao13 y103.length co13, .slice none 0 0]) ?_ 3 _ rfl; (with_reducible repeat (first | refine blk_drewN ?_ _ | refine blk_drew ?_ | refine blk_alloc ?_ _)); refine blk_put (cs := #[.int .i64 2, .int .i64 2, .slice none 0 0, .slice none 0 0]) ?_ 2 _ rfl; (with_reducible repeat (first | refine blk_drewN ?_ _ | refine blk_drew ?_ | refine blk_alloc ?_ _)); refine blk_put (cs := #[.int .i64 2, .int .i64 0, .slice none 0 0, .slice none 0 0]) ?_ 1 _ rfl; (with_reducible repeat (first | refine blk_drewN ?_ _ | refine blk_drew ?_ | refine blk_alloc ?_ _)); refine blk_put (cs := #[.int .i64 0, .int .i64 0, .slice none 0 0, .slice none 0 0]) ?_ 0 _ rfl; (with_reducible repeat (first | refine blk_drewN ?_ _ | refine blk_drew ?_ | refine blk_alloc ?_ _)); exact BK102.out) Tryd.underlying32 rfl (by kernel_rfl)) rfl ?_
 exact ⟨_, _, _, by first | rfl | (simp [errW_none, errW_some] <;> rfl) | (simp [*, errW_none, errW_some] <;> rfl), by (with_reducible repeat (first | apply Kd.R_alloc | apply Kd.R_drewN | apply Kd.R_drew)); exact Kd.R_mono (Kd.R_far (p := ⟨gb102, 3, none⟩) (Kd.R_far (p := ⟨gb102, 2, none⟩) (Kd.R_far (p := ⟨gb102, 1, none⟩) (Kd.R_far (p := ⟨gb102, 0, none⟩) (Kd.R_types HO105.out BK102.out (by decide)) (fun _ hk => hk.2) (.int .i64 2)) (fun _ hk => hk.2) (.int .i64 2)) (fun _ hk => hk.2) (.slice Ao13 y103.length co13)) (fun _ hk => hk.2) (.slice Ao12 y112.length co12)) (fun _ hk => hk.1.1), by (with_reducible repeat (first | apply Kd.N_alloc | apply Kd.N_drewN | apply Kd.N_drew)); exact Kd.N_mono (Kd.N_far (p := ⟨gb102, 3, none⟩) (Kd.N_far (p := ⟨gb102, 2, none⟩) (Kd.N_far (p := ⟨gb102, 1, none⟩) (Kd.N_far (p := ⟨gb102, 0, none⟩) (Kd.N_mono HO114.out (fun k_ hk => (⟨hk, hk.1.1.1.2.2⟩ : _ ∧ k_ ≠ gb102))) (fun _ hk => hk.2) (.int .i64 2)) (fun _ hk => hk.2) (.int .i64 2)) (fun _ hk => hk.2) (.slice Ao13 y103.length co13)) (fun _ hk => hk.2) (.slice Ao12 y112.length co12)) (fun _ hk => ⟨hk.1.1.1.1.1, ⟨hk.1.1.1.1.2.1, hk.1.2⟩⟩), by (with_reducible repeat (first | apply Kd.N_alloc | apply Kd.N_drewN | apply Kd.N_drew)); exact Kd.N_mono (Kd.N_far (p := ⟨gb102, 3, none⟩) (Kd.N_far (p := ⟨gb102, 2, none⟩) (Kd.N_far (p := ⟨gb102, 1, none⟩) (Kd.N_far (p := ⟨gb102, 0, none⟩) (Kd.N_mono HO121.out (fun k_ hk => (⟨hk, hk.2.2.2.1⟩ : _ ∧ k_ ≠ gb102))) (fun _ hk => hk.2) (.int .i64 2)) (fun _ hk => hk.2) (.int .i64 2)) (fun _ hk => hk.2) (.slice Ao13 y103.length co13)) (fun _ hk => hk.2) (.slice Ao12 y112.length co12)) (fun _ hk => ⟨hk.1.1, ⟨hk.1.2.1, hk.1.2.2.1⟩⟩), HB.l⟩

/-! ### slices_Index_int_int: function 36 -/
def slices_Index_int_int.l0 : Nat → List Int → Int → Int → Int → Option (Int)
 | 0, _, _, _, _ => none
 | k + 1, x0, x1, x7, x8 => if x8 < x7 then (if 0 ≤ x8 then (if x8 < (x0.length : Int) then (if x1 = (rd x0 x8) then (some x8) else (slices_Index_int_int.l0 k x0 x1 x7 (wrap64 (x8 + 1)))) else (none)) else (none)) else (some (-1))
def slices_Index_int_int.f (k : Nat) (l0 : List Int) (a1 : Int) : Option (Int) := slices_Index_int_int.l0 k l0 a1 (l0.length : Int) 0
theorem slices_Index_int_int.mono_l : ∀ k, (∀ y0 y1 y2 y3, LeO (slices_Index_int_int.l0 k y0 y1 y2 y3) (slices_Index_int_int.l0 (k + 1) y0 y1 y2 y3))
 | 0 => fun _ _ _ _ r h => by simp [slices_Index_int_int.l0] at h
 | k + 1 => by
  have ih0 := slices_Index_int_int.mono_l k
  ·intro y0 y1 y2 y3
   unfold slices_Index_int_int.l0
   repeat' first
   | (with_reducible exact ih0 _ _ _ _)
   | (with_reducible exact LeO.refl _)
   | (with_reducible exact LeO.none _)
   | (with_reducible refine LeO.ite ?_ ?_)
   | (with_reducible refine LeO.bind ?_ (fun _ => ?_))
   | exact ih0 _ _ _ _
   | exact LeO.none _
   | refine LeO.ite ?_ ?_
   | refine LeO.bind ?_ (fun _ => ?_)
theorem slices_Index_int_int.mono : ∀ a0 a1 k, LeO (slices_Index_int_int.f k a0 a1) (slices_Index_int_int.f (k + 1) a0 a1) := by
 intro a0 a1 k
 have ih0 := slices_Index_int_int.mono_l k
 unfold slices_Index_int_int.f
 repeat' first
   | (with_reducible exact ih0 _ _ _ _)
   | (with_reducible exact LeO.refl _)
   | (with_reducible exact LeO.none _)
   | (with_reducible refine LeO.ite ?_ ?_)
   | (with_reducible refine LeO.bind ?_ (fun _ => ?_))
   | exact ih0 _ _ _ _
   | exact LeO.none _
   | refine LeO.ite ?_ ?_
   | refine LeO.bind ?_ (fun _ => ?_)
set_option maxHeartbeats 8000000 in
set_option maxRecDepth 100000 in
theorem slices_Index_int_int.calls (k : Nat) (A0 : Option Addr) (c0 : Nat) (l0 : List Int) (a1 : Int) (r : Int) (w : World) (hr0 : Kd.C (Kd.int .i64) w A0 l0.length l0) (hc0 : l0.length ≤ c0) (h : slices_Index_int_int.f k l0 a1 = some r) :
  Calls Tryd.prog 36 #[.slice A0 l0.length c0, .int .i64 a1] w fun e w' => e = .returned (.int .i64 r) ∧ Drawn0 w w' := by
 have HR0 := Aside0.mk hr0
 have HC0 := Aside0.mk hc0
 clear hr0 hc0
 have H : (slices_Index_int_int.l0 k l0 a1 (l0.length : Int) 0) = some r := h
 clear h
 have H' := Aside0.mk H
 clear H
 go_enter Tryd.func36, Tryd.ntmps36
 go_wp2
 go_loopg [8] k (fun kq v8 w' => ∃ (x8_1 : Int), v8 = .int .i64 x8_1 ∧ Aside0 (slices_Index_int_int.l0 kq l0 a1 (l0.length : Int) x8_1 = some r) ∧ Aside0 (kq ≤ k) ∧ Drawn0 w w')
 case atStart => exact ⟨(0), (by first | rfl | (simp; done) | (simp [*]; done)), H', ⟨Nat.le_refl _⟩, by repeat (first | exact Drawn0.refl _ | apply Drawn0.step)⟩
 case round => as_aux_lemma =>
  clear H'
  try clear p2
  obtain ⟨x8_1, rfl, HA, HK1, ⟨m1, rfl⟩⟩ := hrel
  cases gk with
  | zero => exact absurd HA.out (by simp [slices_Index_int_int.l0])
  | succ k1 =>
   have H := HA.out
   clear HA
   simp only [slices_Index_int_int.l0] at H
   by_cases c3 : x8_1 < (l0.length : Int)
   ·rw [if_pos c3] at H
    have c3b0 : decide (x8_1 < (l0.length : Int)) = true := decide_eq_true c3
    clear c3
    by_cases c4 : 0 ≤ x8_1
    ·rw [if_pos c4] at H
     have c4b0 : decide (0 ≤ x8_1) = true := decide_eq_true c4
     clear c4
     by_cases c5 : x8_1 < (l0.length : Int)
     ·rw [if_pos c5] at H
      have c5b0 : decide (x8_1 < (l0.length : Int)) = true := decide_eq_true c5
      clear c5
      by_cases c6 : a1 = (rd l0 x8_1)
      ·rw [if_pos c6] at H
       have c6b0 : (a1 == (rd l0 x8_1)) = true := beq_iff_eq.mpr c6
       have c6b1 : (a1 != (rd l0 x8_1)) = false := bne_eq_false_iff_eq.mpr c6
       clear c6
       obtain rfl := Option.some.inj H
       have p122 : 0 ≤ (x8_1 : Int) := of_decide_eq_true (by first | (with_reducible assumption) | assumption)
       have q122 : x8_1 < (l0.length : Int) := of_decide_eq_true (by first | (with_reducible assumption) | assumption)
       obtain ⟨ad122, e122, hx122_0⟩ := Kd.at_int HR0.out x8_1 p122 q122
       cases e122
       replace p122 := eq_true p122
       replace q122 := eq_true q122
       go_wp2
       go_ret
       exact ⟨by first | rfl | (simp; done) | (simp [*]; done), by repeat (first | exact Drawn0.refl _ | apply Drawn0.step)⟩
      ·rw [if_neg c6] at H
       have c6b0 : (a1 == (rd l0 x8_1)) = false := beq_eq_false_iff_ne.mpr c6
       have c6b1 : (a1 != (rd l0 x8_1)) = true := bne_iff_ne.mpr c6
       have H' := Aside0.mk H
       clear H
       have p122 : 0 ≤ (x8_1 : Int) := of_decide_eq_true (by first | (with_reducible assumption) | assumption)
       have q122 : x8_1 < (l0.length : Int) := of_decide_eq_true (by first | (with_reducible assumption) | assumption)
       obtain ⟨ad122, e122, hx122_0⟩ := Kd.at_int HR0.out x8_1 p122 q122
       cases e122
       replace p122 := eq_true p122
       replace q122 := eq_true q122
       go_wp2
       go_roundg k1
       case measure => have := HK1.out; omega
       case rel => exact ⟨(wrap64 (x8_1 + 1)), (by first | rfl | (simp; done) | (simp [*]; done)), H', ⟨by have := HK1.out; omega⟩, by repeat (first | exact Drawn0.refl _ | apply Drawn0.step)⟩
     ·rw [if_neg c5] at H
      exact absurd H (by simp)
    ·rw [if_neg c4] at H
     exact absurd H (by simp)
   ·rw [if_neg c3] at H
    have c3b0 : decide (x8_1 < (l0.length : Int)) = false := decide_eq_false c3
    clear c3
    obtain rfl := Option.some.inj H
    go_wp2
    go_ret
    exact ⟨by first | rfl | (simp; done) | (simp [*]; done), by repeat (first | exact Drawn0.refl _ | apply Drawn0.step)⟩

/-! ### slices_Contains_int_int: function 27 -/
def slices_Contains_int_int.f (k : Nat) (l0 : List Int) (a1 : Int) : Option (Bool) := (slices_Index_int_int.f k l0 a1).bind fun t123 => (some (decide (t123 ≥ 0)))
theorem slices_Contains_int_int.mono : ∀ a0 a1 k, LeO (slices_Contains_int_int.f k a0 a1) (slices_Contains_int_int.f (k + 1) a0 a1) := by
 intro a0 a1 k
 unfold slices_Contains_int_int.f
 repeat' first
   | (with_reducible exact slices_Index_int_int.mono _ _ _)
   | (with_reducible exact LeO.refl _)
   | (with_reducible exact LeO.none _)
   | (with_reducible refine LeO.ite ?_ ?_)
   | (with_reducible refine LeO.bind ?_ (fun _ => ?_))
   | exact slices_Index_int_int.mono _ _ _
   | exact LeO.none _
   | refine LeO.ite ?_ ?_
   | refine LeO.bind ?_ (fun _ => ?_)
set_option maxHeartbeats 8000000 in
set_option maxRecDepth 100000 in
theorem slices_Contains_int_int.calls (k : Nat) (A0 : Option Addr) (c0 : Nat) (l0 : List Int) (a1 : Int) (r : Bool) (w : World) (hr0 : Kd.C (Kd.int .i64) w A0 l0.length l0) (hc0 : l0.length ≤ c0) (h : slices_Contains_int_int.f k l0 a1 = some r) :
  Calls Tryd.prog 27 #[.slice A0 l0.length c0, .int .i64 a1] w fun e w' => e = .returned (.bool r) ∧ Drawn0 w w' := by
 have HR0 := Aside0.mk hr0
 have HC0 := Aside0.mk hc0
 clear hr0 hc0
 have H : ((slices_Index_int_int.f k l0 a1).bind fun t123 => (some (decide (t123 ≥ 0)))) = some r := h
 clear h
 replace H := Option.bind_eq_some_iff.mp H
 obtain ⟨t123, A30, H⟩ := H
 replace H : (some (decide (t123 ≥ 0))) = some r := H
 have A3 := Aside0.mk A30
 clear A30
 obtain rfl := Option.some.inj H
 go_enter Tryd.func27, Tryd.ntmps27
 go_wp2_with (first | ((with_reducible refine gate_callee (f := 36) rfl ?_); refine goesM_ Tryd.func36 #[.slice A0 l0.length c0, .int .i64 a1] ?_; (with_reducible refine (slices_Index_int_int.calls k _ _ l0 a1 t123 _ ?side1 ?side2 A3.out).mono ?_); (case side1 => repeat (first | exact HR0.out | (with_reducible refine Kd.C_alloc ?_ _) | (with_reducible refine Kd.C_drewN ?_ _) | (with_reducible refine Kd.C_drew ?_))); (case side2 => exact HC0.out); rintro e w' ⟨rfl, ⟨nd, rfl⟩⟩; refine ⟨_, rfl, ?_⟩))
 go_ret
 exact ⟨by first | rfl | (simp; done) | (simp [*]; done), by repeat (first | exact Drawn0.refl _ | apply Drawn0.step)⟩

-- NOT PRINTED: function 32 (slices_SortFunc_int_int)

/-! ### formula_boolean: function 34 -/
def formula_boolean.f (a0 : Int) : Option (Int) := if a0 < 0 then (some (wrap64 ((wrap64 (-a0)) - 1))) else (some (wrap64 (a0 - 1)))
set_option maxHeartbeats 8000000 in
set_option maxRecDepth 100000 in
theorem formula_boolean.calls (a0 : Int) (r : Int) (w : World) (h : formula_boolean.f a0 = some r) :
  Calls Tryd.prog 34 #[.int .i64 a0] w fun e w' => e = .returned (.int .i64 r) ∧ Drawn0 w w' := by
 have H : (if a0 < 0 then (some (wrap64 ((wrap64 (-a0)) - 1))) else (some (wrap64 (a0 - 1)))) = some r := h
 clear h
 by_cases c2 : a0 < 0
 ·rw [if_pos c2] at H
  have c2b0 : decide (a0 < 0) = true := decide_eq_true c2
  clear c2
  obtain rfl := Option.some.inj H
  go_enter Tryd.func34, Tryd.ntmps34
  go_wp2
  go_ret
  exact ⟨by first | rfl | (simp; done) | (simp [*]; done), by repeat (first | exact Drawn0.refl _ | apply Drawn0.step)⟩
 ·rw [if_neg c2] at H
  have c2b0 : decide (a0 < 0) = false := decide_eq_false c2
  clear c2
  obtain rfl := Option.some.inj H
  go_enter Tryd.func34, Tryd.ntmps34
  go_wp2
  go_ret
  exact ⟨by first | rfl | (simp; done) | (simp [*]; done), by repeat (first | exact Drawn0.refl _ | apply Drawn0.step)⟩

-- NOT PRINTED: function 35 (slices_Compact_int_int)

/-! ### formula_Normal: function 24 -/
mutual
def formula_Normal.j0 : Nat → List Int → Bool → Option (List Int × Bool)
 | 0, _, _ => none
 | k + 1, x4, x13 => if x13 = true then (some (([] : List Int), false)) else (if okN x4 = true then (if x4.length + x4.length < 17592186044416 then ((some (sortN x4 : List Int)).bind fun y143 => (if y143.length + y143.length < 17592186044416 then (formula_Normal.l0 k (compN y143) 1) else (none))) else (none)) else (none))
def formula_Normal.l0 : Nat → List Int → Int → Option (List Int × Bool)
 | 0, _, _ => none
 | k + 1, x4, x5 => if x5 < (x4.length : Int) then (if 0 ≤ x5 then ((formula_boolean.f (rd x4 x5)).bind fun t150 => (if 0 ≤ (wrap64 (x5 - 1)) then (if (wrap64 (x5 - 1)) < (x4.length : Int) then ((formula_boolean.f (rd x4 (wrap64 (x5 - 1)))).bind fun t152 => (if t150 = t152 then (some (([] : List Int), false)) else (formula_Normal.l0 k x4 (wrap64 (x5 + 1))))) else (none)) else (none))) else (none)) else (some (x4, true))
end
def formula_Normal.f (k : Nat) (l0 : List Int) : Option (List Int × Bool) := if ([] : List Int).length + l0.length < 17592186044416 then ((some (([] : List Int) ++ l0 : List Int)).bind fun y138 => ((slices_Contains_int_int.f k y138 0).bind fun t141 => (if t141 = true then (formula_Normal.j0 k y138 true) else ((slices_Contains_int_int.f k y138 (-9223372036854775808)).bind fun t142 => (formula_Normal.j0 k y138 t142))))) else (none)
theorem formula_Normal.mono_l : ∀ k, (∀ y0 y1, LeO (formula_Normal.j0 k y0 y1) (formula_Normal.j0 (k + 1) y0 y1)) ∧ (∀ y0 y1, LeO (formula_Normal.l0 k y0 y1) (formula_Normal.l0 (k + 1) y0 y1))
 | 0 => ⟨fun _ _ r h => by simp [formula_Normal.j0] at h, fun _ _ r h => by simp [formula_Normal.l0] at h⟩
 | k + 1 => by
  obtain ⟨ih0, ih1⟩ := formula_Normal.mono_l k
  refine ⟨?_, ?_⟩
  ·intro y0 y1
   unfold formula_Normal.j0
   repeat' first
   | (with_reducible exact ih0 _ _)
   | (with_reducible exact ih1 _ _)
   | (with_reducible exact slices_Contains_int_int.mono _ _ _)
   | (with_reducible exact LeO.refl _)
   | (with_reducible exact LeO.none _)
   | (with_reducible refine LeO.ite ?_ ?_)
   | (with_reducible refine LeO.bind ?_ (fun _ => ?_))
   | exact ih0 _ _
   | exact ih1 _ _
   | exact slices_Contains_int_int.mono _ _ _
   | exact LeO.none _
   | refine LeO.ite ?_ ?_
   | refine LeO.bind ?_ (fun _ => ?_)
  ·intro y0 y1
   unfold formula_Normal.l0
   repeat' first
   | (with_reducible exact ih0 _ _)
   | (with_reducible exact ih1 _ _)
   | (with_reducible exact slices_Contains_int_int.mono _ _ _)
   | (with_reducible exact LeO.refl _)
   | (with_reducible exact LeO.none _)
   | (with_reducible refine LeO.ite ?_ ?_)
   | (with_reducible refine LeO.bind ?_ (fun _ => ?_))
   | exact ih0 _ _
   | exact ih1 _ _
   | exact slices_Contains_int_int.mono _ _ _
   | exact LeO.none _
   | refine LeO.ite ?_ ?_
   | refine LeO.bind ?_ (fun _ => ?_)
theorem formula_Normal.mono : ∀ a0 k, LeO (formula_Normal.f k a0) (formula_Normal.f (k + 1) a0) := by
 intro a0 k
 obtain ⟨ih0, ih1⟩ := formula_Normal.mono_l k
 unfold formula_Normal.f
 repeat' first
   | (with_reducible exact ih0 _ _)
   | (with_reducible exact ih1 _ _)
   | (with_reducible exact slices_Contains_int_int.mono _ _ _)
   | (with_reducible exact LeO.refl _)
   | (with_reducible exact LeO.none _)
   | (with_reducible refine LeO.ite ?_ ?_)
   | (with_reducible refine LeO.bind ?_ (fun _ => ?_))
   | exact ih0 _ _
   | exact ih1 _ _
   | exact slices_Contains_int_int.mono _ _ _
   | exact LeO.none _
   | refine LeO.ite ?_ ?_
   | refine LeO.bind ?_ (fun _ => ?_)
set_option maxHeartbeats 8000000 in
set_option maxRecDepth 100000 in
theorem formula_Normal.calls (k : Nat) (A0 : Option Addr) (c0 : Nat) (l0 : List Int) (r1 : List Int) (r2 : Bool) (w : World) (hr0 : Kd.C (Kd.int .i64) w A0 l0.length l0) (hc0 : l0.length ≤ c0) (h : formula_Normal.f k l0 = some (r1, r2)) :
  Calls Tryd.prog 24 #[.slice A0 l0.length c0] w fun e w' => ∃ v0_ : Value, e = .returned (.tuple #[v0_, .bool r2]) ∧ Kd.R (Kd.int .i64) 3 w' w.heap.size (fun _ => True) v0_ r1 ∧ Below w.heap.size w w' := by
 have HR0 := Aside0.mk hr0
 have HC0 := Aside0.mk hc0
 clear hr0 hc0
 have HB := Aside0.mk (Below.refl w.heap.size w)
 have H : (if ([] : List Int).length + l0.length < 17592186044416 then ((some (([] : List Int) ++ l0 : List Int)).bind fun y138 => ((slices_Contains_int_int.f k y138 0).bind fun t141 => (if t141 = true then (formula_Normal.j0 k y138 true) else ((slices_Contains_int_int.f k y138 (-9223372036854775808)).bind fun t142 => (formula_Normal.j0 k y138 t142))))) else (none)) = some (r1, r2) := h
 clear h
 by_cases c2 : ([] : List Int).length + l0.length < 17592186044416
 ·rw [if_pos c2] at H
  have LMc2 := Aside0.mk c2
  clear c2
  obtain ⟨y138, hy138⟩ : ∃ y_ : List Int, y_ = (([] : List Int) ++ l0) := ⟨_, rfl⟩
  replace H : ((slices_Contains_int_int.f k y138 0).bind fun t141 => (if t141 = true then (formula_Normal.j0 k y138 true) else ((slices_Contains_int_int.f k y138 (-9223372036854775808)).bind fun t142 => (formula_Normal.j0 k y138 t142)))) = some (r1, r2) := by first | (rw [hy138]; with_reducible exact H) | (have H2_ := (Option.bind_some _ _).symm.trans H; rw [hy138]; with_reducible exact H2_) | (have H2_ := (Option.bind_some _ _).symm.trans H; with_reducible exact H2_) | with_reducible exact H | (rw [hy138]; exact H) | exact H
  have Ny138 := Aside0.mk hy138
  clear hy138
  have HC3 := Aside0.mk H
  clear H
  go_enter Tryd.func24, Tryd.ntmps24
  go_upto_region 2 with (first | ((with_reducible refine gate_builtin (b := .append) (xs := #[.const (.slice none 0 0), .tmp 6]) rfl ?_); at_builtin; refine Kd.R_append_rows (Kd.int .i64) (w0 := w) w.heap.size rfl (.const (.slice none 0 0)) (.tmp 6) 26 3 (.int .i64 0) 8 rfl Tryd.underlying26 info3 rfl (by decide) (by omega) (.slice none 0 0) ([] : List Int) l0 _ _ _ (fun _ => True) (fun _ => False) rfl rfl ?aO ?aR (fun _ _ h => h) (fun _ h => h.elim) ?aF ?aB ?aS ?aL ?_; (case aR => repeat (first | exact HR0.out | (with_reducible refine Kd.C_alloc ?_ _) | (with_reducible refine Kd.C_drewN ?_ _) | (with_reducible refine Kd.C_drew ?_))); (case aB => exact HB.l); (case aF => exact (fun _ _ => trivial)); (case aO => exact ((Kd.R_nil _ _ _ _ (fun _ => True)))); (case aS => exact (below_size HB.l)); (case aL => have := LMc2.out; omega); intro v139 w4 ho hb hg hat; rw [← Ny138.out] at ho; have n0_ := Aside0.mk (hb); have n1_ := Aside0.mk (ho); clear HB; revert n0_ n1_; intro HB HO140; clear ho hb hg hat))
  repeat (go_quiet (first | ((with_reducible refine gate_builtin (b := .append) (xs := #[.const (.slice none 0 0), .tmp 6]) rfl ?_); at_builtin; refine Kd.R_append_rows (Kd.int .i64) (w0 := w) w.heap.size rfl (.const (.slice none 0 0)) (.tmp 6) 26 3 (.int .i64 0) 8 rfl Tryd.underlying26 info3 rfl (by decide) (by omega) (.slice none 0 0) ([] : List Int) l0 _ _ _ (fun _ => True) (fun _ => False) rfl rfl ?aO ?aR (fun _ _ h => h) (fun _ h => h.elim) ?aF ?aB ?aS ?aL ?_; (case aR => repeat (first | exact HR0.out | (with_reducible refine Kd.C_alloc ?_ _) | (with_reducible refine Kd.C_drewN ?_ _) | (with_reducible refine Kd.C_drew ?_))); (case aB => exact HB.l); (case aF => exact (fun _ _ => trivial)); (case aO => exact ((Kd.R_nil _ _ _ _ (fun _ => True)))); (case aS => exact (below_size HB.l)); (case aL => have := LMc2.out; omega); intro v139 w4 ho hb hg hat; rw [← Ny138.out] at ho; have n0_ := Aside0.mk (hb); have n1_ := Aside0.mk (ho); clear HB; revert n0_ n1_; intro HB HO140; clear ho hb hg hat)); go_upto_region 2 with (first | ((with_reducible refine gate_builtin (b := .append) (xs := #[.const (.slice none 0 0), .tmp 6]) rfl ?_); at_builtin; refine Kd.R_append_rows (Kd.int .i64) (w0 := w) w.heap.size rfl (.const (.slice none 0 0)) (.tmp 6) 26 3 (.int .i64 0) 8 rfl Tryd.underlying26 info3 rfl (by decide) (by omega) (.slice none 0 0) ([] : List Int) l0 _ _ _ (fun _ => True) (fun _ => False) rfl rfl ?aO ?aR (fun _ _ h => h) (fun _ h => h.elim) ?aF ?aB ?aS ?aL ?_; (case aR => repeat (first | exact HR0.out | (with_reducible refine Kd.C_alloc ?_ _) | (with_reducible refine Kd.C_drewN ?_ _) | (with_reducible refine Kd.C_drew ?_))); (case aB => exact HB.l); (case aF => exact (fun _ _ => trivial)); (case aO => exact ((Kd.R_nil _ _ _ _ (fun _ => True)))); (case aS => exact (below_size HB.l)); (case aL => have := LMc2.out; omega); intro v139 w4 ho hb hg hat; rw [← Ny138.out] at ho; have n0_ := Aside0.mk (hb); have n1_ := Aside0.mk (ho); clear HB; revert n0_ n1_; intro HB HO140; clear ho hb hg hat)))
  (try simp only [Act.put, List.setIfInBounds_toArray, List.set_cons_zero, List.set_cons_succ])
  go_cut [13] (fun v13 wc => ∃ (kq : Nat) (x13_2 : Bool), v13 = .bool x13_2 ∧ Aside0 (formula_Normal.j0 kq y138 x13_2 = some (r1, r2)) ∧ Aside0 (kq ≤ k) ∧ Aside0 (Kd.R (Kd.int .i64) 3 wc w.heap.size (fun _ => True) v139 y138) ∧ Aside0 (Below w.heap.size w wc))
  case first => as_aux_lemma =>
   have H := HC3.out
   clear HC3
   replace H := Option.bind_eq_some_iff.mp H
   obtain ⟨t141, A50, H⟩ := H
   replace H : (if t141 = true then (formula_Normal.j0 k y138 true) else ((slices_Contains_int_int.f k y138 (-9223372036854775808)).bind fun t142 => (formula_Normal.j0 k y138 t142))) = some (r1, r2) := H
   have A5 := Aside0.mk A50
   clear A50
   by_cases c6 : t141 = true
   ·subst c6
    have H1 : (formula_Normal.j0 k y138 true) = some (r1, r2) := by rw [if_pos rfl] at H; exact H
    clear H
    have H := H1
    clear H1
    have H' := Aside0.mk H
    clear H
    obtain ⟨Ao7, co7, eo7⟩ := Kd.R_slice HO140.out
    subst eo7
    go_wp2_with (first | (go_at_call 27; (with_reducible refine (slices_Contains_int_int.calls k _ _ y138 0 true _ ?side1 ?side2 A5.out).mono ?_); (case side1 => repeat (first | exact (Kd.R_reads' HO140.out).2.2 | (with_reducible refine Kd.C_alloc ?_ _) | (with_reducible refine Kd.C_drewN ?_ _) | (with_reducible refine Kd.C_drew ?_))); (case side2 => exact (Kd.R_reads' HO140.out).2.1); rintro e w' ⟨rfl, ⟨nd, rfl⟩⟩; (try first | exact ⟨rfl, _, World.drewN_drewN _ _ _⟩ | exact ⟨rfl, _, Eq.trans (World.drewN_drewN _ _ _) (congrArg (World.drewN _) (Nat.add_assoc _ _ _))⟩)))
    repeat (go_quiet (first | (go_at_call 27; (with_reducible refine (slices_Contains_int_int.calls k _ _ y138 0 true _ ?side1 ?side2 A5.out).mono ?_); (case side1 => repeat (first | exact (Kd.R_reads' HO140.out).2.2 | (with_reducible refine Kd.C_alloc ?_ _) | (with_reducible refine Kd.C_drewN ?_ _) | (with_reducible refine Kd.C_drew ?_))); (case side2 => exact (Kd.R_reads' HO140.out).2.1); rintro e w' ⟨rfl, ⟨nd, rfl⟩⟩; (try first | exact ⟨rfl, _, World.drewN_drewN _ _ _⟩ | exact ⟨rfl, _, Eq.trans (World.drewN_drewN _ _ _) (congrArg (World.drewN _) (Nat.add_assoc _ _ _))⟩))); try go_wp2_with (first | (go_at_call 27; (with_reducible refine (slices_Contains_int_int.calls k _ _ y138 0 true _ ?side1 ?side2 A5.out).mono ?_); (case side1 => repeat (first | exact (Kd.R_reads' HO140.out).2.2 | (with_reducible refine Kd.C_alloc ?_ _) | (with_reducible refine Kd.C_drewN ?_ _) | (with_reducible refine Kd.C_drew ?_))); (case side2 => exact (Kd.R_reads' HO140.out).2.1); rintro e w' ⟨rfl, ⟨nd, rfl⟩⟩; (try first | exact ⟨rfl, _, World.drewN_drewN _ _ _⟩ | exact ⟨rfl, _, Eq.trans (World.drewN_drewN _ _ _) (congrArg (World.drewN _) (Nat.add_assoc _ _ _))⟩))))
    go_meet
    case rel => exact ⟨_, (true), (by first | rfl | (simp; done) | (simp [*]; done)), H', ⟨by first | omega | exact Nat.le_refl _⟩, ⟨HO140.r⟩, ⟨HB.l⟩⟩
   ·replace c6 := Bool.eq_false_iff.mpr c6
    subst c6
    have H1 : ((slices_Contains_int_int.f k y138 (-9223372036854775808)).bind fun t142 => (formula_Normal.j0 k y138 t142)) = some (r1, r2) := by rw [if_neg (show ¬ (false = true) by decide)] at H; exact H
    clear H
    have H := H1
    clear H1
    replace H := Option.bind_eq_some_iff.mp H
    obtain ⟨t142, A80, H⟩ := H
    replace H : (formula_Normal.j0 k y138 t142) = some (r1, r2) := H
    have A8 := Aside0.mk A80
    clear A80
    have H' := Aside0.mk H
    clear H
    obtain ⟨Ao9, co9, eo9⟩ := Kd.R_slice HO140.out
    subst eo9
    go_wp2_with (first | (go_at_call 27; (with_reducible refine (slices_Contains_int_int.calls k _ _ y138 0 false _ ?side1 ?side2 A5.out).mono ?_); (case side1 => repeat (first | exact (Kd.R_reads' HO140.out).2.2 | (with_reducible refine Kd.C_alloc ?_ _) | (with_reducible refine Kd.C_drewN ?_ _) | (with_reducible refine Kd.C_drew ?_))); (case side2 => exact (Kd.R_reads' HO140.out).2.1); rintro e w' ⟨rfl, ⟨nd, rfl⟩⟩; (try first | exact ⟨rfl, _, World.drewN_drewN _ _ _⟩ | exact ⟨rfl, _, Eq.trans (World.drewN_drewN _ _ _) (congrArg (World.drewN _) (Nat.add_assoc _ _ _))⟩)) | (go_at_call 27; (with_reducible refine (slices_Contains_int_int.calls k _ _ y138 (-9223372036854775808) t142 _ ?side1 ?side2 A8.out).mono ?_); (case side1 => repeat (first | exact (Kd.R_reads' HO140.out).2.2 | (with_reducible refine Kd.C_alloc ?_ _) | (with_reducible refine Kd.C_drewN ?_ _) | (with_reducible refine Kd.C_drew ?_))); (case side2 => exact (Kd.R_reads' HO140.out).2.1); rintro e w' ⟨rfl, ⟨nd, rfl⟩⟩; (try first | exact ⟨rfl, _, World.drewN_drewN _ _ _⟩ | exact ⟨rfl, _, Eq.trans (World.drewN_drewN _ _ _) (congrArg (World.drewN _) (Nat.add_assoc _ _ _))⟩)))
    repeat (go_quiet (first | (go_at_call 27; (with_reducible refine (slices_Contains_int_int.calls k _ _ y138 0 false _ ?side1 ?side2 A5.out).mono ?_); (case side1 => repeat (first | exact (Kd.R_reads' HO140.out).2.2 | (with_reducible refine Kd.C_alloc ?_ _) | (with_reducible refine Kd.C_drewN ?_ _) | (with_reducible refine Kd.C_drew ?_))); (case side2 => exact (Kd.R_reads' HO140.out).2.1); rintro e w' ⟨rfl, ⟨nd, rfl⟩⟩; (try first | exact ⟨rfl, _, World.drewN_drewN _ _ _⟩ | exact ⟨rfl, _, Eq.trans (World.drewN_drewN _ _ _) (congrArg (World.drewN _) (Nat.add_assoc _ _ _))⟩)) | (go_at_call 27; (with_reducible refine (slices_Contains_int_int.calls k _ _ y138 (-9223372036854775808) t142 _ ?side1 ?side2 A8.out).mono ?_); (case side1 => repeat (first | exact (Kd.R_reads' HO140.out).2.2 | (with_reducible refine Kd.C_alloc ?_ _) | (with_reducible refine Kd.C_drewN ?_ _) | (with_reducible refine Kd.C_drew ?_))); (case side2 => exact (Kd.R_reads' HO140.out).2.1); rintro e w' ⟨rfl, ⟨nd, rfl⟩⟩; (try first | exact ⟨rfl, _, World.drewN_drewN _ _ _⟩ | exact ⟨rfl, _, Eq.trans (World.drewN_drewN _ _ _) (congrArg (World.drewN _) (Nat.add_assoc _ _ _))⟩))); try go_wp2_with (first | (go_at_call 27; (with_reducible refine (slices_Contains_int_int.calls k _ _ y138 0 false _ ?side1 ?side2 A5.out).mono ?_); (case side1 => repeat (first | exact (Kd.R_reads' HO140.out).2.2 | (with_reducible refine Kd.C_alloc ?_ _) | (with_reducible refine Kd.C_drewN ?_ _) | (with_reducible refine Kd.C_drew ?_))); (case side2 => exact (Kd.R_reads' HO140.out).2.1); rintro e w' ⟨rfl, ⟨nd, rfl⟩⟩; (try first | exact ⟨rfl, _, World.drewN_drewN _ _ _⟩ | exact ⟨rfl, _, Eq.trans (World.drewN_drewN _ _ _) (congrArg (World.drewN _) (Nat.add_assoc _ _ _))⟩)) | (go_at_call 27; (with_reducible refine (slices_Contains_int_int.calls k _ _ y138 (-9223372036854775808) t142 _ ?side1 ?side2 A8.out).mono ?_); (case side1 => repeat (first | exact (Kd.R_reads' HO140.out).2.2 | (with_reducible refine Kd.C_alloc ?_ _) | (with_reducible refine Kd.C_drewN ?_ _) | (with_reducible refine Kd.C_drew ?_))); (case side2 => exact (Kd.R_reads' HO140.out).2.1); rintro e w' ⟨rfl, ⟨nd, rfl⟩⟩; (try first | exact ⟨rfl, _, World.drewN_drewN _ _ _⟩ | exact ⟨rfl, _, Eq.trans (World.drewN_drewN _ _ _) (congrArg (World.drewN _) (Nat.add_assoc _ _ _))⟩))))
    go_meet
    case rel => exact ⟨_, (t142), (by first | rfl | (simp; done) | (simp [*]; done)), H', ⟨by first | omega | exact Nat.le_refl _⟩, ⟨HO140.r⟩, ⟨HB.l⟩⟩
  case rest => as_aux_lemma =>
   clear HC3
   try clear c2
   try clear p2
   try clear c6
   obtain ⟨kq, x13_2, rfl, HA, HJ2, HO_4, HB⟩ := hcut
   cases kq with
   | zero => exact absurd HA.out (by simp [formula_Normal.j0])
   | succ kj2 =>
    have H := HA.out
    clear HA
    simp only [formula_Normal.j0] at H
    by_cases c10 : x13_2 = true
    ·subst c10
     have H1 : (some (([] : List Int), false)) = some (r1, r2) := by rw [if_pos rfl] at H; exact H
     clear H
     have H := H1
     clear H1
     simp only [Option.some.injEq, Prod.mk.injEq] at H
     obtain ⟨rfl, rfl⟩ := H
     go_wp2
     repeat (go_quiet (fail); try go_wp2)
     go_ret2
     exact ⟨_, by first | rfl | (simp [errW_none, errW_some] <;> rfl) | (simp [*, errW_none, errW_some] <;> rfl), by first | exact Kd.R_nil _ _ _ _ _ | exact Kd.N_nil _ _ _ _ _ | exact Kd.V_nil _ _ _ _ _ | exact Kd.Q_nil _ _ _ _ _ | exact Kd.S_nil _ _ _ _ _, HB.l⟩
    ·replace c10 := Bool.eq_false_iff.mpr c10
     subst c10
     have H1 : (if okN y138 = true then (if y138.length + y138.length < 17592186044416 then ((some (sortN y138 : List Int)).bind fun y143 => (if y143.length + y143.length < 17592186044416 then (formula_Normal.l0 kj2 (compN y143) 1) else (none))) else (none)) else (none)) = some (r1, r2) := by rw [if_neg (show ¬ (false = true) by decide)] at H; exact H
     clear H
     have H := H1
     clear H1
     by_cases c11 : okN y138 = true
     ·rw [if_pos c11] at H
      have c11b0 := eq_true c11
      have c11b1 : decide (okN y138 = true) = true := decide_eq_true c11
      clear c11
      by_cases c12 : y138.length + y138.length < 17592186044416
      ·rw [if_pos c12] at H
       have LMc12 := Aside0.mk c12
       clear c12
       obtain ⟨y143, hy143⟩ : ∃ y_ : List Int, y_ = (sortN y138) := ⟨_, rfl⟩
       replace H : (if y143.length + y143.length < 17592186044416 then (formula_Normal.l0 kj2 (compN y143) 1) else (none)) = some (r1, r2) := by first | (rw [hy143]; with_reducible exact H) | (have H2_ := (Option.bind_some _ _).symm.trans H; rw [hy143]; with_reducible exact H2_) | (have H2_ := (Option.bind_some _ _).symm.trans H; with_reducible exact H2_) | with_reducible exact H | (rw [hy143]; exact H) | exact H
       have Ny143 := Aside0.mk hy143
       clear hy143
       by_cases c13 : y143.length + y143.length < 17592186044416
       ·rw [if_pos c13] at H
        have LMc13 := Aside0.mk c13
        clear c13
        obtain ⟨y146, hy146⟩ : ∃ y_ : List Int, y_ = (compN y143) := ⟨_, rfl⟩
        replace H : (formula_Normal.l0 kj2 y146 1) = some (r1, r2) := by first | (rw [hy146]; with_reducible exact H) | (have H2_ := (Option.bind_some _ _).symm.trans H; rw [hy146]; with_reducible exact H2_) | (have H2_ := (Option.bind_some _ _).symm.trans H; with_reducible exact H2_) | with_reducible exact H | (rw [hy146]; exact H) | exact H
        have Ny146 := Aside0.mk hy146
        clear hy146
        have H' := Aside0.mk H
        clear H
        obtain ⟨Ao15, co15, eo15⟩ := Kd.R_slice HO_4.out
        subst eo15
        go_wp2_with (first | ((with_reducible refine gate_callee (f := 32) rfl ?_); refine sort_step (w0 := w) (some 15) rfl rfl rfl (v := (.slice Ao15 y138.length co15)) rfl (base := w.heap.size) (ok := (fun _ => True)) (xs := y138) ?aO ?aT ?aL ?aB ?aS ?_; (case aB => exact HB.l); (case aO => exact HO_4.r); (case aS => exact (below_size HB.l)); (case aL => have := LMc12.out; omega); (case aT => exact of_eq_true (by first | (with_reducible assumption) | assumption)); intro w14 ho hb hg hat; rw [← Ny143.out] at ho; have n0_ := Aside0.mk (hb); have n1_ := Aside0.mk (ho); clear HB HO_4; revert n0_ n1_; intro HB HO145; clear ho hb hg hat) | ((with_reducible refine gate_callee (f := 35) rfl ?_); refine compact_step (w0 := w) (some 17) rfl rfl rfl (v := (.slice Ao15 y138.length co15)) rfl (base := w.heap.size) (ok := (fun _ => True)) (xs := y143) ?aO ?aL ?aB ?aS ?_; (case aB => exact HB.l); (case aO => exact HO145.r); (case aS => exact (below_size HB.l)); (case aL => have := LMc13.out; have hlx_ := (Kd.R_reads' HO145.out).1; omega); intro v147 w16 ho hb hg hat; rw [← Ny146.out] at ho; have n0_ := Aside0.mk (hb); have n1_ := Aside0.mk (ho); clear HB HO145; revert n0_ n1_; intro HB HO148; clear ho hb hg hat))
        repeat (go_quiet (first | ((with_reducible refine gate_callee (f := 32) rfl ?_); refine sort_step (w0 := w) (some 15) rfl rfl rfl (v := (.slice Ao15 y138.length co15)) rfl (base := w.heap.size) (ok := (fun _ => True)) (xs := y138) ?aO ?aT ?aL ?aB ?aS ?_; (case aB => exact HB.l); (case aO => exact HO_4.r); (case aS => exact (below_size HB.l)); (case aL => have := LMc12.out; omega); (case aT => exact of_eq_true (by first | (with_reducible assumption) | assumption)); intro w14 ho hb hg hat; rw [← Ny143.out] at ho; have n0_ := Aside0.mk (hb); have n1_ := Aside0.mk (ho); clear HB HO_4; revert n0_ n1_; intro HB HO145; clear ho hb hg hat) | ((with_reducible refine gate_callee (f := 35) rfl ?_); refine compact_step (w0 := w) (some 17) rfl rfl rfl (v := (.slice Ao15 y138.length co15)) rfl (base := w.heap.size) (ok := (fun _ => True)) (xs := y143) ?aO ?aL ?aB ?aS ?_; (case aB => exact HB.l); (case aO => exact HO145.r); (case aS => exact (below_size HB.l)); (case aL => have := LMc13.out; have hlx_ := (Kd.R_reads' HO145.out).1; omega); intro v147 w16 ho hb hg hat; rw [← Ny146.out] at ho; have n0_ := Aside0.mk (hb); have n1_ := Aside0.mk (ho); clear HB HO145; revert n0_ n1_; intro HB HO148; clear ho hb hg hat)); try go_wp2_with (first | ((with_reducible refine gate_callee (f := 32) rfl ?_); refine sort_step (w0 := w) (some 15) rfl rfl rfl (v := (.slice Ao15 y138.length co15)) rfl (base := w.heap.size) (ok := (fun _ => True)) (xs := y138) ?aO ?aT ?aL ?aB ?aS ?_; (case aB => exact HB.l); (case aO => exact HO_4.r); (case aS => exact (below_size HB.l)); (case aL => have := LMc12.out; omega); (case aT => exact of_eq_true (by first | (with_reducible assumption) | assumption)); intro w14 ho hb hg hat; rw [← Ny143.out] at ho; have n0_ := Aside0.mk (hb); have n1_ := Aside0.mk (ho); clear HB HO_4; revert n0_ n1_; intro HB HO145; clear ho hb hg hat) | ((with_reducible refine gate_callee (f := 35) rfl ?_); refine compact_step (w0 := w) (some 17) rfl rfl rfl (v := (.slice Ao15 y138.length co15)) rfl (base := w.heap.size) (ok := (fun _ => True)) (xs := y143) ?aO ?aL ?aB ?aS ?_; (case aB => exact HB.l); (case aO => exact HO145.r); (case aS => exact (below_size HB.l)); (case aL => have := LMc13.out; have hlx_ := (Kd.R_reads' HO145.out).1; omega); intro v147 w16 ho hb hg hat; rw [← Ny146.out] at ho; have n0_ := Aside0.mk (hb); have n1_ := Aside0.mk (ho); clear HB HO145; revert n0_ n1_; intro HB HO148; clear ho hb hg hat)))
        go_loopg [5] kj2 (fun kq v5 w' => ∃ (x5_2 : Int), v5 = .int .i64 x5_2 ∧ Aside0 (formula_Normal.l0 kq y146 x5_2 = some (r1, r2)) ∧ Aside0 (kq ≤ kj2) ∧ Aside0 (Kd.R (Kd.int .i64) 3 w' w.heap.size (fun _ => True) v147 y146) ∧ Aside0 (Below w.heap.size w w'))
        case atStart => exact ⟨(1), (by first | rfl | (simp; done) | (simp [*]; done)), H', ⟨Nat.le_refl _⟩, ⟨HO148.r⟩, ⟨HB.l⟩⟩
        case round => as_aux_lemma =>
         clear H'
         try clear c1
         try clear c2
         try clear p2
         try clear c6
         try clear c10
         try clear c11
         try clear c11b0
         try clear c11b1
         try clear c12
         try clear c13
         try clear p2
         obtain ⟨x5_2, rfl, HA, HK2, HO_4, HB⟩ := hrel
         cases gk with
         | zero => exact absurd HA.out (by simp [formula_Normal.l0])
         | succ k2 =>
          have H := HA.out
          clear HA
          simp only [formula_Normal.l0] at H
          by_cases c17 : x5_2 < (y146.length : Int)
          ·rw [if_pos c17] at H
           have c17b0 : decide (x5_2 < (y146.length : Int)) = true := decide_eq_true c17
           clear c17
           by_cases c18 : 0 ≤ x5_2
           ·rw [if_pos c18] at H
            have c18b0 : decide (0 ≤ x5_2) = true := decide_eq_true c18
            clear c18
            replace H := Option.bind_eq_some_iff.mp H
            obtain ⟨t150, A190, H⟩ := H
            replace H : (if 0 ≤ (wrap64 (x5_2 - 1)) then (if (wrap64 (x5_2 - 1)) < (y146.length : Int) then ((formula_boolean.f (rd y146 (wrap64 (x5_2 - 1)))).bind fun t152 => (if t150 = t152 then (some (([] : List Int), false)) else (formula_Normal.l0 k2 y146 (wrap64 (x5_2 + 1))))) else (none)) else (none)) = some (r1, r2) := H
            have A19 := Aside0.mk A190
            clear A190
            obtain ⟨ji20, hji20⟩ : ∃ j_ : Int, (wrap64 (x5_2 - 1)) = j_ := ⟨_, rfl⟩
            replace H : (if 0 ≤ (ji20) then (if (ji20) < (y146.length : Int) then ((formula_boolean.f (rd y146 (ji20))).bind fun t152 => (if t150 = t152 then (some (([] : List Int), false)) else (formula_Normal.l0 k2 y146 (wrap64 (x5_2 + 1))))) else (none)) else (none)) = some (r1, r2) := by first | (rw [hji20] at H; exact H) | (simp only [hji20] at H ⊢; exact H)
            (try rw [hji20] at A19)
            have hji20w : (IntKind.i64.wrap (x5_2 - 1)) = ji20 := (i64_w _).trans hji20
            by_cases c21 : 0 ≤ (ji20)
            ·rw [if_pos c21] at H
             have c21b0 : decide (0 ≤ (ji20)) = true := decide_eq_true c21
             clear c21
             by_cases c22 : (ji20) < (y146.length : Int)
             ·rw [if_pos c22] at H
              have c22b0 : decide ((ji20) < (y146.length : Int)) = true := decide_eq_true c22
              clear c22
              replace H := Option.bind_eq_some_iff.mp H
              obtain ⟨t152, A230, H⟩ := H
              replace H : (if t150 = t152 then (some (([] : List Int), false)) else (formula_Normal.l0 k2 y146 (wrap64 (x5_2 + 1)))) = some (r1, r2) := H
              have A23 := Aside0.mk A230
              clear A230
              by_cases c24 : t150 = t152
              ·rw [if_pos c24] at H
               have c24b0 : (t150 == t152) = true := beq_iff_eq.mpr c24
               have c24b1 : (t150 != t152) = false := bne_eq_false_iff_eq.mpr c24
               clear c24
               simp only [Option.some.injEq, Prod.mk.injEq] at H
               obtain ⟨rfl, rfl⟩ := H
               obtain ⟨Ao25, co25, eo25⟩ := Kd.R_slice HO_4.out
               subst eo25
               have p149 : 0 ≤ (x5_2 : Int) := of_decide_eq_true (by first | (with_reducible assumption) | assumption)
               have q149 : x5_2 < (y146.length : Int) := of_decide_eq_true (by first | (with_reducible assumption) | assumption)
               obtain ⟨ad149, e149, hx149_0⟩ := Kd.at_int (Kd.R_reads' HO_4.out).2.2 x5_2 p149 q149
               cases e149
               replace p149 := eq_true p149
               replace q149 := eq_true q149
               go_wp2_with (first | (go_at_call 34; (with_reducible refine (formula_boolean.calls (rd y146 x5_2) t150 _ A19.out).mono ?_); rintro e w' ⟨rfl, ⟨nd, rfl⟩⟩; (try first | exact ⟨rfl, _, World.drewN_drewN _ _ _⟩ | exact ⟨rfl, _, Eq.trans (World.drewN_drewN _ _ _) (congrArg (World.drewN _) (Nat.add_assoc _ _ _))⟩); have p151 : 0 ≤ ((ji20) : Int) := of_decide_eq_true (by first | (with_reducible assumption) | assumption); have q151 : (ji20) < (y146.length : Int) := of_decide_eq_true (by first | (with_reducible assumption) | assumption); obtain ⟨ad151, e151, hx151_0⟩ := Kd.at_int (Kd.R_reads' HO_4.out).2.2 (ji20) p151 q151; obtain rfl : ad149 = ad151 := (by injection e151); replace p151 := eq_true p151; replace q151 := eq_true q151) | (go_at_call 34; (with_reducible refine (formula_boolean.calls (rd y146 (ji20)) t152 _ A23.out).mono ?_); rintro e w' ⟨rfl, ⟨nd, rfl⟩⟩; (try first | exact ⟨rfl, _, World.drewN_drewN _ _ _⟩ | exact ⟨rfl, _, Eq.trans (World.drewN_drewN _ _ _) (congrArg (World.drewN _) (Nat.add_assoc _ _ _))⟩)))
               repeat (go_quiet (first | (go_at_call 34; (with_reducible refine (formula_boolean.calls (rd y146 x5_2) t150 _ A19.out).mono ?_); rintro e w' ⟨rfl, ⟨nd, rfl⟩⟩; (try first | exact ⟨rfl, _, World.drewN_drewN _ _ _⟩ | exact ⟨rfl, _, Eq.trans (World.drewN_drewN _ _ _) (congrArg (World.drewN _) (Nat.add_assoc _ _ _))⟩); have p151 : 0 ≤ ((ji20) : Int) := of_decide_eq_true (by first | (with_reducible assumption) | assumption); have q151 : (ji20) < (y146.length : Int) := of_decide_eq_true (by first | (with_reducible assumption) | assumption); obtain ⟨ad151, e151, hx151_0⟩ := Kd.at_int (Kd.R_reads' HO_4.out).2.2 (ji20) p151 q151; obtain rfl : ad149 = ad151 := (by injection e151); replace p151 := eq_true p151; replace q151 := eq_true q151) | (go_at_call 34; (with_reducible refine (formula_boolean.calls (rd y146 (ji20)) t152 _ A23.out).mono ?_); rintro e w' ⟨rfl, ⟨nd, rfl⟩⟩; (try first | exact ⟨rfl, _, World.drewN_drewN _ _ _⟩ | exact ⟨rfl, _, Eq.trans (World.drewN_drewN _ _ _) (congrArg (World.drewN _) (Nat.add_assoc _ _ _))⟩))); try go_wp2_with (first | (go_at_call 34; (with_reducible refine (formula_boolean.calls (rd y146 x5_2) t150 _ A19.out).mono ?_); rintro e w' ⟨rfl, ⟨nd, rfl⟩⟩; (try first | exact ⟨rfl, _, World.drewN_drewN _ _ _⟩ | exact ⟨rfl, _, Eq.trans (World.drewN_drewN _ _ _) (congrArg (World.drewN _) (Nat.add_assoc _ _ _))⟩); have p151 : 0 ≤ ((ji20) : Int) := of_decide_eq_true (by first | (with_reducible assumption) | assumption); have q151 : (ji20) < (y146.length : Int) := of_decide_eq_true (by first | (with_reducible assumption) | assumption); obtain ⟨ad151, e151, hx151_0⟩ := Kd.at_int (Kd.R_reads' HO_4.out).2.2 (ji20) p151 q151; obtain rfl : ad149 = ad151 := (by injection e151); replace p151 := eq_true p151; replace q151 := eq_true q151) | (go_at_call 34; (with_reducible refine (formula_boolean.calls (rd y146 (ji20)) t152 _ A23.out).mono ?_); rintro e w' ⟨rfl, ⟨nd, rfl⟩⟩; (try first | exact ⟨rfl, _, World.drewN_drewN _ _ _⟩ | exact ⟨rfl, _, Eq.trans (World.drewN_drewN _ _ _) (congrArg (World.drewN _) (Nat.add_assoc _ _ _))⟩))))
               go_ret2
               exact ⟨_, by first | rfl | (simp [errW_none, errW_some] <;> rfl) | (simp only [← hji20]; first | rfl | (simp [errW_none, errW_some] <;> rfl)) | (simp [*, errW_none, errW_some] <;> rfl), by first | exact Kd.R_nil _ _ _ _ _ | exact Kd.N_nil _ _ _ _ _ | exact Kd.V_nil _ _ _ _ _ | exact Kd.Q_nil _ _ _ _ _ | exact Kd.S_nil _ _ _ _ _, HB.l⟩
              ·rw [if_neg c24] at H
               have c24b0 : (t150 == t152) = false := beq_eq_false_iff_ne.mpr c24
               have c24b1 : (t150 != t152) = true := bne_iff_ne.mpr c24
               have H' := Aside0.mk H
               clear H
               obtain ⟨Ao26, co26, eo26⟩ := Kd.R_slice HO_4.out
               subst eo26
               have p149 : 0 ≤ (x5_2 : Int) := of_decide_eq_true (by first | (with_reducible assumption) | assumption)
               have q149 : x5_2 < (y146.length : Int) := of_decide_eq_true (by first | (with_reducible assumption) | assumption)
               obtain ⟨ad149, e149, hx149_0⟩ := Kd.at_int (Kd.R_reads' HO_4.out).2.2 x5_2 p149 q149
               cases e149
               replace p149 := eq_true p149
               replace q149 := eq_true q149
               go_wp2_with (first | (go_at_call 34; (with_reducible refine (formula_boolean.calls (rd y146 x5_2) t150 _ A19.out).mono ?_); rintro e w' ⟨rfl, ⟨nd, rfl⟩⟩; (try first | exact ⟨rfl, _, World.drewN_drewN _ _ _⟩ | exact ⟨rfl, _, Eq.trans (World.drewN_drewN _ _ _) (congrArg (World.drewN _) (Nat.add_assoc _ _ _))⟩); have p151 : 0 ≤ ((ji20) : Int) := of_decide_eq_true (by first | (with_reducible assumption) | assumption); have q151 : (ji20) < (y146.length : Int) := of_decide_eq_true (by first | (with_reducible assumption) | assumption); obtain ⟨ad151, e151, hx151_0⟩ := Kd.at_int (Kd.R_reads' HO_4.out).2.2 (ji20) p151 q151; obtain rfl : ad149 = ad151 := (by injection e151); replace p151 := eq_true p151; replace q151 := eq_true q151) | (go_at_call 34; (with_reducible refine (formula_boolean.calls (rd y146 (ji20)) t152 _ A23.out).mono ?_); rintro e w' ⟨rfl, ⟨nd, rfl⟩⟩; (try first | exact ⟨rfl, _, World.drewN_drewN _ _ _⟩ | exact ⟨rfl, _, Eq.trans (World.drewN_drewN _ _ _) (congrArg (World.drewN _) (Nat.add_assoc _ _ _))⟩)))
               repeat (go_quiet (first | (go_at_call 34; (with_reducible refine (formula_boolean.calls (rd y146 x5_2) t150 _ A19.out).mono ?_); rintro e w' ⟨rfl, ⟨nd, rfl⟩⟩; (try first | exact ⟨rfl, _, World.drewN_drewN _ _ _⟩ | exact ⟨rfl, _, Eq.trans (World.drewN_drewN _ _ _) (congrArg (World.drewN _) (Nat.add_assoc _ _ _))⟩); have p151 : 0 ≤ ((ji20) : Int) := of_decide_eq_true (by first | (with_reducible assumption) | assumption); have q151 : (ji20) < (y146.length : Int) := of_decide_eq_true (by first | (with_reducible assumption) | assumption); obtain ⟨ad151, e151, hx151_0⟩ := Kd.at_int (Kd.R_reads' HO_4.out).2.2 (ji20) p151 q151; obtain rfl : ad149 = ad151 := (by injection e151); replace p151 := eq_true p151; replace q151 := eq_true q151) | (go_at_call 34; (with_reducible refine (formula_boolean.calls (rd y146 (ji20)) t152 _ A23.out).mono ?_); rintro e w' ⟨rfl, ⟨nd, rfl⟩⟩; (try first | exact ⟨rfl, _, World.drewN_drewN _ _ _⟩ | exact ⟨rfl, _, Eq.trans (World.drewN_drewN _ _ _) (congrArg (World.drewN _) (Nat.add_assoc _ _ _))⟩))); try go_wp2_with (first | (go_at_call 34; (with_reducible refine (formula_boolean.calls (rd y146 x5_2) t150 _ A19.out).mono ?_); rintro e w' ⟨rfl, ⟨nd, rfl⟩⟩; (try first | exact ⟨rfl, _, World.drewN_drewN _ _ _⟩ | exact ⟨rfl, _, Eq.trans (World.drewN_drewN _ _ _) (congrArg (World.drewN _) (Nat.add_assoc _ _ _))⟩); have p151 : 0 ≤ ((ji20) : Int) := of_decide_eq_true (by first | (with_reducible assumption) | assumption); have q151 : (ji20) < (y146.length : Int) := of_decide_eq_true (by first | (with_reducible assumption) | assumption); obtain ⟨ad151, e151, hx151_0⟩ := Kd.at_int (Kd.R_reads' HO_4.out).2.2 (ji20) p151 q151; obtain rfl : ad149 = ad151 := (by injection e151); replace p151 := eq_true p151; replace q151 := eq_true q151) | (go_at_call 34; (with_reducible refine (formula_boolean.calls (rd y146 (ji20)) t152 _ A23.out).mono ?_); rintro e w' ⟨rfl, ⟨nd, rfl⟩⟩; (try first | exact ⟨rfl, _, World.drewN_drewN _ _ _⟩ | exact ⟨rfl, _, Eq.trans (World.drewN_drewN _ _ _) (congrArg (World.drewN _) (Nat.add_assoc _ _ _))⟩))))
               go_roundg k2
               case measure => have := HJ2.out; have := HK2.out; omega
               case rel => exact ⟨(wrap64 (x5_2 + 1)), (by first | rfl | (simp; done) | (simp [*]; done)), H', ⟨by have := HJ2.out; have := HK2.out; omega⟩, ⟨HO_4.r⟩, ⟨HB.l⟩⟩
             ·rw [if_neg c22] at H
              exact absurd H (by simp)
            ·rw [if_neg c21] at H
             exact absurd H (by simp)
           ·rw [if_neg c18] at H
            exact absurd H (by simp)
          ·rw [if_neg c17] at H
           have c17b0 : decide (x5_2 < (y146.length : Int)) = false := decide_eq_false c17
           clear c17
           simp only [Option.some.injEq, Prod.mk.injEq] at H
           obtain ⟨rfl, rfl⟩ := H
           obtain ⟨Ao27, co27, eo27⟩ := Kd.R_slice HO_4.out
           subst eo27
           go_wp2
           repeat (go_quiet (fail); try go_wp2)
           go_ret2
           exact ⟨_, by first | rfl | (simp [errW_none, errW_some] <;> rfl) | (simp [*, errW_none, errW_some] <;> rfl), HO_4.r, HB.l⟩
       ·rw [if_neg c13] at H
        exact absurd H (by simp)
      ·rw [if_neg c12] at H
       exact absurd H (by simp)
     ·rw [if_neg c11] at H
      exact absurd H (by simp)
 ·rw [if_neg c2] at H
  exact absurd H (by simp)

/-! ### proof_input: function 19 -/
def proof_input.f (k : Nat) (a0_0 : Int) (a0_1 : Int) (l0_2 : List (S53)) (l0_3 : List (List Int)) (a1_0 : Int) (a1_1 : Int) (l1_2 : List Int) (a1_3 : Int) (a1_4 : Int) (a1_5 : Int) : Option (List Int × Bool) := if a1_1 < 0 then (some (([] : List Int), false)) else (if a1_1 ≥ (l0_3.length : Int) then (some (([] : List Int), false)) else (if 0 ≤ a1_1 then (if a1_1 < (l0_3.length : Int) then ((formula_Normal.f k (rd_L1 l0_3 a1_1)).bind fun bt156 => (some (bt156.1, bt156.2))) else (none)) else (none)))
theorem proof_input.mono : ∀ a0 a1 a2 a3 a4 a5 a6 a7 a8 a9 k, LeO (proof_input.f k a0 a1 a2 a3 a4 a5 a6 a7 a8 a9) (proof_input.f (k + 1) a0 a1 a2 a3 a4 a5 a6 a7 a8 a9) := by
 intro a0 a1 a2 a3 a4 a5 a6 a7 a8 a9 k
 unfold proof_input.f
 repeat' first
   | (with_reducible exact formula_Normal.mono _ _)
   | (with_reducible exact LeO.refl _)
   | (with_reducible exact LeO.none _)
   | (with_reducible refine LeO.ite ?_ ?_)
   | (with_reducible refine LeO.bind ?_ (fun _ => ?_))
   | exact formula_Normal.mono _ _
   | exact LeO.none _
   | refine LeO.ite ?_ ?_
   | refine LeO.bind ?_ (fun _ => ?_)
set_option maxHeartbeats 8000000 in
set_option maxRecDepth 100000 in
theorem proof_input.calls (k : Nat) (a0_0 : Int) (a0_1 : Int) (A0_2 : Option Addr) (c0_2 : Nat) (l0_2 : List (S53)) (A0_3 : Option Addr) (c0_3 : Nat) (l0_3 : List (List Int)) (a1_0 : Int) (a1_1 : Int) (A1_2 : Option Addr) (c1_2 : Nat) (l1_2 : List Int) (a1_3 : Int) (a1_4 : Int) (a1_5 : Int) (r1 : List Int) (r2 : Bool) (w : World) (hr0_2 : Kd.C k53 w A0_2 l0_2.length l0_2) (hc0_2 : l0_2.length ≤ c0_2) (hr0_3 : Kd.C (Kd.slice 3 (Kd.int .i64)) w A0_3 l0_3.length l0_3) (hc0_3 : l0_3.length ≤ c0_3) (hr1_2 : Kd.C (Kd.int .i64) w A1_2 l1_2.length l1_2) (hc1_2 : l1_2.length ≤ c1_2) (h : proof_input.f k a0_0 a0_1 l0_2 l0_3 a1_0 a1_1 l1_2 a1_3 a1_4 a1_5 = some (r1, r2)) :
  Calls Tryd.prog 19 #[.agg #[.int .i64 a0_0, .int .i64 a0_1, .slice A0_2 l0_2.length c0_2, .slice A0_3 l0_3.length c0_3], .agg #[.int .i64 a1_0, .int .i64 a1_1, .slice A1_2 l1_2.length c1_2, .int .i64 a1_3, .int .i64 a1_4, .int .i64 a1_5]] w fun e w' => ∃ v0_ : Value, e = .returned (.tuple #[v0_, .bool r2]) ∧ Kd.R (Kd.int .i64) 3 w' w.heap.size (fun _ => True) v0_ r1 ∧ Below w.heap.size w w' := by
 have hu32 := Tryd.underlying32
 have hu28 := Tryd.underlying28
 have HR0_2 := Aside0.mk hr0_2
 have HC0_2 := Aside0.mk hc0_2
 clear hr0_2 hc0_2
 have HR0_3 := Aside0.mk hr0_3
 have HC0_3 := Aside0.mk hc0_3
 clear hr0_3 hc0_3
 have HR1_2 := Aside0.mk hr1_2
 have HC1_2 := Aside0.mk hc1_2
 clear hr1_2 hc1_2
 have HB := Aside0.mk (Below.refl w.heap.size w)
 have H : (if a1_1 < 0 then (some (([] : List Int), false)) else (if a1_1 ≥ (l0_3.length : Int) then (some (([] : List Int), false)) else (if 0 ≤ a1_1 then (if a1_1 < (l0_3.length : Int) then ((formula_Normal.f k (rd_L1 l0_3 a1_1)).bind fun bt156 => (some (bt156.1, bt156.2))) else (none)) else (none)))) = some (r1, r2) := h
 clear h
 by_cases c3 : a1_1 < 0
 ·rw [if_pos c3] at H
  have c3b0 : decide (a1_1 < 0) = true := decide_eq_true c3
  clear c3
  simp only [Option.some.injEq, Prod.mk.injEq] at H
  obtain ⟨rfl, rfl⟩ := H
  go_enter Tryd.func19, Tryd.ntmps19
  go_wp2_with (first | ((with_reducible refine gate_dst (N := 2) rfl ?_); (try (refine gate_guard (by rfl) ?_; dsimp only)); refine box_ev (N := 2) rfl (cs := #[.int .i64 a0_0, .int .i64 a0_1, .slice A0_2 l0_2.length c0_2, .slice A0_3 l0_3.length c0_3]) (t := 32) ?_; intro gb153 hg w4 hbox hb; have n0_ := Aside0.mk (below_step HB.l hb); have n1_ := Aside0.mk (hbox); have n2_ := Aside0.mk ((by rw [hg]; exact (below_size HB.l) : w.heap.size ≤ gb153)); have n3_ := Aside0.mk ((by rw [hg]; exact (below_size HB.l) : w.heap.size ≤ gb153)); clear HB; revert n0_ n1_ n2_ n3_; intro HB BK153 GW153 GE153; clear hb hbox hg) | ((with_reducible refine gate_dst (N := 3) rfl ?_); (try (refine gate_guard (by rfl) ?_; dsimp only)); refine box_ev (N := 3) rfl (cs := #[.int .i64 a1_0, .int .i64 a1_1, .slice A1_2 l1_2.length c1_2, .int .i64 a1_3, .int .i64 a1_4, .int .i64 a1_5]) (t := 28) ?_; intro gb154 hg w5 hbox hb; have n0_ := Aside0.mk (blk_below BK153.b hb); have n1_ := Aside0.mk (below_step HB.l hb); have n2_ := Aside0.mk (hbox); have n3_ := Aside0.mk ((by rw [hg]; exact (below_size HB.l) : w.heap.size ≤ gb154)); have n4_ := Aside0.mk ((by rw [hg]; exact (below_size HB.l) : w.heap.size ≤ gb154)); have n5_ := Aside0.mk ((by rw [hg]; exact Nat.ne_of_lt (blk_lt BK153.b) : gb153 ≠ gb154)); have n6_ := Aside0.mk ((by rw [hg]; exact Nat.ne_of_gt (blk_lt BK153.b) : gb154 ≠ gb153)); clear BK153 HB; revert n0_ n1_ n2_ n3_ n4_ n5_ n6_; intro BK153 HB BK154 GW154 GE154 NB153_154 NB154_153; clear hb hbox hg; have hnb6 := NB154_153.out; have hnc6 := NB153_154.out; have hcz7_0 := BK154.cl 0 (.int .i64 a1_0); have hcz7_1 := BK154.cl 1 (.int .i64 a1_1); have hcz7_2 := BK154.cl 2 (.slice A1_2 l1_2.length c1_2); have hcz7_3 := BK154.cl 3 (.int .i64 a1_3); have hcz7_4 := BK154.cl 4 (.int .i64 a1_4); have hcz7_5 := BK154.cl 5 (.int .i64 a1_5); have hfz7_0 := BK154.fz 0; have hfz7_1 := BK154.fz 1; have hfz7_2 := BK154.fz 2; have hfz7_3 := BK154.fz 3; have hfz7_4 := BK154.fz 4; have hfz7_5 := BK154.fz 5))
  go_ret2
  exact ⟨_, by first | rfl | (simp [errW_none, errW_some] <;> rfl) | (simp [*, errW_none, errW_some] <;> rfl), by first | exact Kd.R_nil _ _ _ _ _ | exact Kd.N_nil _ _ _ _ _ | exact Kd.V_nil _ _ _ _ _ | exact Kd.Q_nil _ _ _ _ _ | exact Kd.S_nil _ _ _ _ _, HB.l⟩
 ·rw [if_neg c3] at H
  have c3b0 : decide (a1_1 < 0) = false := decide_eq_false c3
  clear c3
  by_cases c8 : a1_1 ≥ (l0_3.length : Int)
  ·rw [if_pos c8] at H
   have c8b0 : decide ((l0_3.length : Int) ≤ a1_1) = true := decide_eq_true c8
   clear c8
   simp only [Option.some.injEq, Prod.mk.injEq] at H
   obtain ⟨rfl, rfl⟩ := H
   go_enter Tryd.func19, Tryd.ntmps19
   go_wp2_with (first | ((with_reducible refine gate_dst (N := 2) rfl ?_); (try (refine gate_guard (by rfl) ?_; dsimp only)); refine box_ev (N := 2) rfl (cs := #[.int .i64 a0_0, .int .i64 a0_1, .slice A0_2 l0_2.length c0_2, .slice A0_3 l0_3.length c0_3]) (t := 32) ?_; intro gb153 hg w9 hbox hb; have n0_ := Aside0.mk (below_step HB.l hb); have n1_ := Aside0.mk (hbox); have n2_ := Aside0.mk ((by rw [hg]; exact (below_size HB.l) : w.heap.size ≤ gb153)); have n3_ := Aside0.mk ((by rw [hg]; exact (below_size HB.l) : w.heap.size ≤ gb153)); clear HB; revert n0_ n1_ n2_ n3_; intro HB BK153 GW153 GE153; clear hb hbox hg) | ((with_reducible refine gate_dst (N := 3) rfl ?_); (try (refine gate_guard (by rfl) ?_; dsimp only)); refine box_ev (N := 3) rfl (cs := #[.int .i64 a1_0, .int .i64 a1_1, .slice A1_2 l1_2.length c1_2, .int .i64 a1_3, .int .i64 a1_4, .int .i64 a1_5]) (t := 28) ?_; intro gb154 hg w10 hbox hb; have n0_ := Aside0.mk (blk_below BK153.b hb); have n1_ := Aside0.mk (below_step HB.l hb); have n2_ := Aside0.mk (hbox); have n3_ := Aside0.mk ((by rw [hg]; exact (below_size HB.l) : w.heap.size ≤ gb154)); have n4_ := Aside0.mk ((by rw [hg]; exact (below_size HB.l) : w.heap.size ≤ gb154)); have n5_ := Aside0.mk ((by rw [hg]; exact Nat.ne_of_lt (blk_lt BK153.b) : gb153 ≠ gb154)); have n6_ := Aside0.mk ((by rw [hg]; exact Nat.ne_of_gt (blk_lt BK153.b) : gb154 ≠ gb153)); clear BK153 HB; revert n0_ n1_ n2_ n3_ n4_ n5_ n6_; intro BK153 HB BK154 GW154 GE154 NB153_154 NB154_153; clear hb hbox hg; have hnb11 := NB154_153.out; have hnc11 := NB153_154.out; have hcz12_0 := BK154.cl 0 (.int .i64 a1_0); have hcz12_1 := BK154.cl 1 (.int .i64 a1_1); have hcz12_2 := BK154.cl 2 (.slice A1_2 l1_2.length c1_2); have hcz12_3 := BK154.cl 3 (.int .i64 a1_3); have hcz12_4 := BK154.cl 4 (.int .i64 a1_4); have hcz12_5 := BK154.cl 5 (.int .i64 a1_5); have hfz12_0 := BK154.fz 0; have hfz12_1 := BK154.fz 1; have hfz12_2 := BK154.fz 2; have hfz12_3 := BK154.fz 3; have hfz12_4 := BK154.fz 4; have hfz12_5 := BK154.fz 5; have hcz13_0 := BK153.cl 0 (.int .i64 a0_0); have hcz13_1 := BK153.cl 1 (.int .i64 a0_1); have hcz13_2 := BK153.cl 2 (.slice A0_2 l0_2.length c0_2); have hcz13_3 := BK153.cl 3 (.slice A0_3 l0_3.length c0_3); have hfz13_0 := BK153.fz 0; have hfz13_1 := BK153.fz 1; have hfz13_2 := BK153.fz 2; have hfz13_3 := BK153.fz 3))
   go_ret2
   exact ⟨_, by first | rfl | (simp [errW_none, errW_some] <;> rfl) | (simp [*, errW_none, errW_some] <;> rfl), by first | exact Kd.R_nil _ _ _ _ _ | exact Kd.N_nil _ _ _ _ _ | exact Kd.V_nil _ _ _ _ _ | exact Kd.Q_nil _ _ _ _ _ | exact Kd.S_nil _ _ _ _ _, HB.l⟩
  ·rw [if_neg c8] at H
   have c8b0 : decide ((l0_3.length : Int) ≤ a1_1) = false := decide_eq_false c8
   clear c8
   by_cases c14 : 0 ≤ a1_1
   ·rw [if_pos c14] at H
    have c14b0 : decide (0 ≤ a1_1) = true := decide_eq_true c14
    clear c14
    by_cases c15 : a1_1 < (l0_3.length : Int)
    ·rw [if_pos c15] at H
     have c15b0 : decide (a1_1 < (l0_3.length : Int)) = true := decide_eq_true c15
     clear c15
     replace H := Option.bind_eq_some_iff.mp H
     obtain ⟨⟨t156, t157⟩, A160, H⟩ := H
     replace H : (some (t156, t157)) = some (r1, r2) := H
     have A16 := Aside0.mk A160
     clear A160
     simp only [Option.some.injEq, Prod.mk.injEq] at H
     obtain ⟨rfl, rfl⟩ := H
     go_enter Tryd.func19, Tryd.ntmps19
     go_wp2_with (first | ((with_reducible refine gate_dst (N := 2) rfl ?_); (try (refine gate_guard (by rfl) ?_; dsimp only)); refine box_ev (N := 2) rfl (cs := #[.int .i64 a0_0, .int .i64 a0_1, .slice A0_2 l0_2.length c0_2, .slice A0_3 l0_3.length c0_3]) (t := 32) ?_; intro gb153 hg w17 hbox hb; have n0_ := Aside0.mk (below_step HB.l hb); have n1_ := Aside0.mk (hbox); have n2_ := Aside0.mk ((by rw [hg]; exact (below_size HB.l) : w.heap.size ≤ gb153)); have n3_ := Aside0.mk ((by rw [hg]; exact (below_size HB.l) : w.heap.size ≤ gb153)); clear HB; revert n0_ n1_ n2_ n3_; intro HB BK153 GW153 GE153; clear hb hbox hg) | ((with_reducible refine gate_dst (N := 3) rfl ?_); (try (refine gate_guard (by rfl) ?_; dsimp only)); refine box_ev (N := 3) rfl (cs := #[.int .i64 a1_0, .int .i64 a1_1, .slice A1_2 l1_2.length c1_2, .int .i64 a1_3, .int .i64 a1_4, .int .i64 a1_5]) (t := 28) ?_; intro gb154 hg w18 hbox hb; have n0_ := Aside0.mk (blk_below BK153.b hb); have n1_ := Aside0.mk (below_step HB.l hb); have n2_ := Aside0.mk (hbox); have n3_ := Aside0.mk ((by rw [hg]; exact (below_size HB.l) : w.heap.size ≤ gb154)); have n4_ := Aside0.mk ((by rw [hg]; exact (below_size HB.l) : w.heap.size ≤ gb154)); have n5_ := Aside0.mk ((by rw [hg]; exact Nat.ne_of_lt (blk_lt BK153.b) : gb153 ≠ gb154)); have n6_ := Aside0.mk ((by rw [hg]; exact Nat.ne_of_gt (blk_lt BK153.b) : gb154 ≠ gb153)); clear BK153 HB; revert n0_ n1_ n2_ n3_ n4_ n5_ n6_; intro BK153 HB BK154 GW154 GE154 NB153_154 NB154_153; clear hb hbox hg; have hnb19 := NB154_153.out; have hnc19 := NB153_154.out; have hcz20_0 := BK154.cl 0 (.int .i64 a1_0); have hcz20_1 := BK154.cl 1 (.int .i64 a1_1); have hcz20_2 := BK154.cl 2 (.slice A1_2 l1_2.length c1_2); have hcz20_3 := BK154.cl 3 (.int .i64 a1_3); have hcz20_4 := BK154.cl 4 (.int .i64 a1_4); have hcz20_5 := BK154.cl 5 (.int .i64 a1_5); have hfz20_0 := BK154.fz 0; have hfz20_1 := BK154.fz 1; have hfz20_2 := BK154.fz 2; have hfz20_3 := BK154.fz 3; have hfz20_4 := BK154.fz 4; have hfz20_5 := BK154.fz 5; have hcz21_0 := BK153.cl 0 (.int .i64 a0_0); have hcz21_1 := BK153.cl 1 (.int .i64 a0_1); have hcz21_2 := BK153.cl 2 (.slice A0_2 l0_2.length c0_2); have hcz21_3 := BK153.cl 3 (.slice A0_3 l0_3.length c0_3); have hfz21_0 := BK153.fz 0; have hfz21_1 := BK153.fz 1; have hfz21_2 := BK153.fz 2; have hfz21_3 := BK153.fz 3; have p155 : 0 ≤ (a1_1 : Int) := of_decide_eq_true (by first | (with_reducible assumption) | assumption); have q155 : a1_1 < (l0_3.length : Int) := of_decide_eq_true (by first | (with_reducible assumption) | assumption); obtain ⟨ad155, A155_0, c155_0, e155, hx155_0, hl155_0, hi155_0⟩ := at_L1 HR0_3.out a1_1 p155 q155; cases e155; replace hx155_0 := (HB.out.cell (World.block_lt_of_cell? w _ hx155_0)).trans hx155_0; have HR155_0 := Aside0.mk hi155_0; have HC155_0 := Aside0.mk hl155_0; clear hi155_0 hl155_0; replace p155 := eq_true p155; replace q155 := eq_true q155) | ((with_reducible refine gate_callee (f := 24) rfl ?_); refine goesM_ Tryd.func24 #[.slice A155_0 (rd_L1 l0_3 a1_1).length c155_0] ?_; (with_reducible refine (formula_Normal.calls k _ _ (rd_L1 l0_3 a1_1) t156 t157 _ ?side1 ?side2 A16.out).mono ?_); (case side1 => exact HR155_0.c HB.l); (case side2 => exact HC155_0.out); rintro e w22 ⟨v158, rfl, ho0, hb⟩; refine ⟨_, rfl, ?_⟩; have n0_ := Aside0.mk (Kd.R_lower ho0 (below_size HB.l)); have n1_ := Aside0.mk (blk_below BK153.b hb); have n2_ := Aside0.mk (blk_below BK154.b hb); have n3_ := Aside0.mk (below_step HB.l hb); clear BK153 BK154 HB; revert n0_ n1_ n2_ n3_; intro HO159 BK153 BK154 HB; (try clear hb); (try clear hb2); (try clear hk); (try clear hi); (try clear ho0)))
     go_ret2
     exact ⟨_, by first | rfl | (simp [errW_none, errW_some] <;> rfl) | (simp [*, errW_none, errW_some] <;> rfl), HO159.r, HB.l⟩
    ·rw [if_neg c15] at H
     exact absurd H (by simp)
   ·rw [if_neg c14] at H
    exact absurd H (by simp)

end Go.Proofs.YtppbnjmhkifdaaaDoor.X
