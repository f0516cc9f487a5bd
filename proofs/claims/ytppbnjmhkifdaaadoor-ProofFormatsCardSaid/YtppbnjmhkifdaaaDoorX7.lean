-- Written by this session's own program (wip/tools/xprint.py).
import Derived.Test.YtppbnjmhkifdaaaDoorX0
import Derived.Test.YtppbnjmhkifdaaaDoorSx
import Derived.Test.YtppbnjmhkifdaaaDoorX1
import Derived.Test.YtppbnjmhkifdaaaDoorX5
import Derived.Test.YtppbnjmhkifdaaaDoorForm
import Derived.Test.YtppbnjmhkifdaaaDoorGivI
namespace Go.Proofs.YtppbnjmhkifdaaaDoor.X
open Go.RowKit Go.Proofs.YtppbnjmhkifdaaaDoorW.PrintWords Go.Proofs.YtppbnjmhkifdaaaDoorW.PrintLast Go.Proofs.YtppbnjmhkifdaaaDoorW.PrintMore
attribute [local go_sem] max2_int min2_int max_two min_two max_three min_three max_four min_four   -- for this text's walks alone
set_option linter.unusedVariables false
set_option linter.unusedSimpArgs false

/-! ### interleaveref31_words: function 15 -/
def interleaveref31_words.l0 : Nat → ByteArray → List Int → Int → Int → Option (ByteArray)
 | 0, _, _, _, _ => none
 | k + 1, x0, x7, x8, x9 => if x9 < x8 then (if 0 ≤ x9 then (if x9 < (x7.length : Int) then ((strconv_Itoa.f (rd x7 x9)).bind fun t275 => (if 1 + t275.size ≤ 9223372036854775807 then (if x0.size + ((⟨#[32]⟩ : ByteArray) ++ t275).size ≤ 9223372036854775807 then (interleaveref31_words.l0 k (x0 ++ ((⟨#[32]⟩ : ByteArray) ++ t275)) x7 x8 (wrap64 (x9 + 1))) else (none)) else (none))) else (none)) else (none)) else (if x0.size + 1 ≤ 9223372036854775807 then (some (x0 ++ (⟨#[10]⟩ : ByteArray))) else (none))
def interleaveref31_words.f (k : Nat) (a0 : ByteArray) (l1 : List Int) : Option (ByteArray) := interleaveref31_words.l0 k a0 l1 (l1.length : Int) 0
theorem interleaveref31_words.mono_l : ∀ k, (∀ y0 y1 y2 y3, LeO (interleaveref31_words.l0 k y0 y1 y2 y3) (interleaveref31_words.l0 (k + 1) y0 y1 y2 y3))
 | 0 => fun _ _ _ _ r h => by simp [interleaveref31_words.l0] at h
 | k + 1 => by
  have ih0 := interleaveref31_words.mono_l k
  ·intro y0 y1 y2 y3
   unfold interleaveref31_words.l0
   repeat' first
   | (with_reducible exact ih0 _ _ _ _)
   | (with_reducible exact LeO.refl _)
   | (with_reducible exact LeO.none _)
   | (with_reducible refine LeO.ite ?_ ?_)
   | (with_reducible refine LeO.bind ?_ (fun _ => ?_))
   | exact ih0 _ _ _ _
   | exact LeO.none _
   | refine LeO.ite ?_ ?_
   | refine LeO.bind ?_ (fun _ => ?_)
theorem interleaveref31_words.mono : ∀ a0 a1 k, LeO (interleaveref31_words.f k a0 a1) (interleaveref31_words.f (k + 1) a0 a1) := by
 intro a0 a1 k
 have ih0 := interleaveref31_words.mono_l k
 unfold interleaveref31_words.f
 repeat' first
   | (with_reducible exact ih0 _ _ _ _)
   | (with_reducible exact LeO.refl _)
   | (with_reducible exact LeO.none _)
   | (with_reducible refine LeO.ite ?_ ?_)
   | (with_reducible refine LeO.bind ?_ (fun _ => ?_))
   | exact ih0 _ _ _ _
   | exact LeO.none _
   | refine LeO.ite ?_ ?_
   | refine LeO.bind ?_ (fun _ => ?_)
set_option maxHeartbeats 8000000 in
set_option maxRecDepth 100000 in
theorem interleaveref31_words.calls (k : Nat) (a0 : ByteArray) (A1 : Option Addr) (c1 : Nat) (l1 : List Int) (r : ByteArray) (w : World) (hG : GW w) (hr1 : Kd.C (Kd.int .i64) w A1 l1.length l1) (hc1 : l1.length ≤ c1) (h : interleaveref31_words.f k a0 l1 = some r) :
  Calls Tryd.prog 15 #[.string a0, .slice A1 l1.length c1] w fun e w' => e = .returned (.string r) ∧ Below w.heap.size w w' := by
 have HR1 := Aside0.mk hr1
 have HC1 := Aside0.mk hc1
 clear hr1 hc1
 have HG := Aside0.mk hG
 clear hG
 have HB := Aside0.mk (Below.refl w.heap.size w)
 have H : (interleaveref31_words.l0 k a0 l1 (l1.length : Int) 0) = some r := h
 clear h
 have H' := Aside0.mk H
 clear H
 go_enter Tryd.func15, Tryd.ntmps15
 go_wp2
 go_loopg [0, 9] k (fun kq v0 v9 w' => ∃ (x0_1 : ByteArray) (x9_1 : Int), v0 = .string x0_1 ∧ v9 = .int .i64 x9_1 ∧ Aside0 (interleaveref31_words.l0 kq x0_1 l1 (l1.length : Int) x9_1 = some r) ∧ Aside0 (kq ≤ k) ∧ Aside0 (Below w.heap.size w w'))
 case atStart => exact ⟨(a0), (0), (by first | rfl | (simp; done) | (simp [*]; done)), (by first | rfl | (simp; done) | (simp [*]; done)), H', ⟨Nat.le_refl _⟩, ⟨HB.l⟩⟩
 case round => as_aux_lemma =>
  clear H'
  try clear c1
  try clear p2
  obtain ⟨x0_1, x9_1, rfl, rfl, HA, HK1, HB⟩ := hrel
  cases gk with
  | zero => exact absurd HA.out (by simp [interleaveref31_words.l0])
  | succ k1 =>
   have H := HA.out
   clear HA
   simp only [interleaveref31_words.l0] at H
   by_cases c3 : x9_1 < (l1.length : Int)
   ·rw [if_pos c3] at H
    have c3b0 : decide (x9_1 < (l1.length : Int)) = true := decide_eq_true c3
    clear c3
    by_cases c4 : 0 ≤ x9_1
    ·rw [if_pos c4] at H
     have c4b0 : decide (0 ≤ x9_1) = true := decide_eq_true c4
     clear c4
     by_cases c5 : x9_1 < (l1.length : Int)
     ·rw [if_pos c5] at H
      have c5b0 : decide (x9_1 < (l1.length : Int)) = true := decide_eq_true c5
      clear c5
      replace H := Option.bind_eq_some_iff.mp H
      obtain ⟨t275, A60, H⟩ := H
      replace H : (if 1 + t275.size ≤ 9223372036854775807 then (if x0_1.size + ((⟨#[32]⟩ : ByteArray) ++ t275).size ≤ 9223372036854775807 then (interleaveref31_words.l0 k1 (x0_1 ++ ((⟨#[32]⟩ : ByteArray) ++ t275)) l1 (l1.length : Int) (wrap64 (x9_1 + 1))) else (none)) else (none)) = some r := H
      have A6 := Aside0.mk A60
      clear A60
      by_cases c7 : 1 + t275.size ≤ 9223372036854775807
      ·rw [if_pos c7] at H
       have c7b0 := eq_true c7
       have c7b1 : decide (1 + t275.size ≤ 9223372036854775807) = true := decide_eq_true c7
       try have c7b2 : (9223372036854775807 < 1 + t275.size) = False := eq_false (Nat.not_lt.2 c7)
       by_cases c8 : x0_1.size + ((⟨#[32]⟩ : ByteArray) ++ t275).size ≤ 9223372036854775807
       ·rw [if_pos c8] at H
        have c8b0 := eq_true c8
        have c8b1 : decide (x0_1.size + ((⟨#[32]⟩ : ByteArray) ++ t275).size ≤ 9223372036854775807) = true := decide_eq_true c8
        try have c8b2 : (9223372036854775807 < x0_1.size + ((⟨#[32]⟩ : ByteArray) ++ t275).size) = False := eq_false (Nat.not_lt.2 c8)
        have H' := Aside0.mk H
        clear H
        have p274 : 0 ≤ (x9_1 : Int) := of_decide_eq_true (by first | (with_reducible assumption) | assumption)
        have q274 : x9_1 < (l1.length : Int) := of_decide_eq_true (by first | (with_reducible assumption) | assumption)
        obtain ⟨ad274, e274, hx274_0⟩ := Kd.at_int HR1.out x9_1 p274 q274
        cases e274
        replace hx274_0 := (HB.out.cell (World.block_lt_of_cell? w _ hx274_0)).trans hx274_0
        replace p274 := eq_true p274
        replace q274 := eq_true q274
        go_wp2_with (first | ((with_reducible refine gate_callee (f := 13) rfl ?_); refine goesM_ Tryd.func13 #[.int .i64 (rd l1 x9_1)] ?_; (with_reducible refine (strconv_Itoa.calls (rd l1 x9_1) t275 _ ?side1 A6.out).mono ?_); (case side1 => exact GW.below HG.out HB.l); rintro e w9 ⟨rfl, hb⟩; refine ⟨_, rfl, ?_⟩; have n0_ := Aside0.mk (below_step HB.l hb); clear HB; revert n0_; intro HB; (try clear hb); (try clear hb2); (try clear hk); (try clear hi)))
        go_roundg k1
        case measure => have := HK1.out; omega
        case rel => exact ⟨(x0_1 ++ ((⟨#[32]⟩ : ByteArray) ++ t275)), (wrap64 (x9_1 + 1)), (by first | rfl | (simp; done) | (simp [*]; done)), (by first | rfl | (simp; done) | (simp [*]; done)), H', ⟨by have := HK1.out; omega⟩, ⟨HB.l⟩⟩
       ·rw [if_neg c8] at H
        exact absurd H (by simp)
      ·rw [if_neg c7] at H
       exact absurd H (by simp)
     ·rw [if_neg c5] at H
      exact absurd H (by simp)
    ·rw [if_neg c4] at H
     exact absurd H (by simp)
   ·rw [if_neg c3] at H
    have c3b0 : decide (x9_1 < (l1.length : Int)) = false := decide_eq_false c3
    clear c3
    by_cases c10 : x0_1.size + 1 ≤ 9223372036854775807
    ·rw [if_pos c10] at H
     have c10b0 := eq_true c10
     have c10b1 : decide (x0_1.size + 1 ≤ 9223372036854775807) = true := decide_eq_true c10
     try have c10b2 : (9223372036854775807 < x0_1.size + 1) = False := eq_false (Nat.not_lt.2 c10)
     obtain rfl := Option.some.inj H
     go_wp2
     go_ret
     exact ⟨by first | rfl | (simp [errW_none, errW_some] <;> rfl) | (simp [*, errW_none, errW_some] <;> rfl), HB.l⟩
    ·rw [if_neg c10] at H
     exact absurd H (by simp)

/-! ### interleaveref31_FormatSteps: function 7 -/
def interleaveref31_FormatSteps.l0 : Nat → ByteArray → List (S28) → Int → Int → Option (ByteArray)
 | 0, _, _, _, _ => none
 | k + 1, x3, x6, x7, x8 => if x8 < x7 then (if 0 ≤ x8 then (if x8 < (x6.length : Int) then (if ((rd_T28 x6 x8).f0) = 1 then ((interleaveref31_words.f k (⟨#[105, 110, 112, 117, 116]⟩ : ByteArray) (([(rd_T28 x6 x8).f1] : List Int))).bind fun t281 => (if x3.size + t281.size ≤ 9223372036854775807 then (interleaveref31_FormatSteps.l0 k (x3 ++ t281) x6 x7 (wrap64 (x8 + 1))) else (none))) else (if ((rd_T28 x6 x8).f0) = 2 then ((interleaveref31_words.f k (⟨#[99, 121, 99, 108, 101]⟩ : ByteArray) ((rd_T28 x6 x8).f2)).bind fun t282 => (if x3.size + t282.size ≤ 9223372036854775807 then (interleaveref31_FormatSteps.l0 k (x3 ++ t282) x6 x7 (wrap64 (x8 + 1))) else (none))) else (if ((rd_T28 x6 x8).f0) = 3 then ((interleaveref31_words.f k (⟨#[114, 101, 115, 111, 108, 118, 101]⟩ : ByteArray) (([(rd_T28 x6 x8).f3, (rd_T28 x6 x8).f4, (rd_T28 x6 x8).f5] : List Int))).bind fun t286 => (if x3.size + t286.size ≤ 9223372036854775807 then (interleaveref31_FormatSteps.l0 k (x3 ++ t286) x6 x7 (wrap64 (x8 + 1))) else (none))) else ((interleaveref31_words.f k (⟨#[115, 116, 101, 112]⟩ : ByteArray) (([(rd_T28 x6 x8).f0] : List Int))).bind fun t290 => (if x3.size + t290.size ≤ 9223372036854775807 then (interleaveref31_FormatSteps.l0 k (x3 ++ t290) x6 x7 (wrap64 (x8 + 1))) else (none)))))) else (none)) else (none)) else (some x3)
def interleaveref31_FormatSteps.f (k : Nat) (l0 : List (S28)) : Option (ByteArray) := interleaveref31_FormatSteps.l0 k (⟨#[]⟩ : ByteArray) l0 (l0.length : Int) 0
theorem interleaveref31_FormatSteps.mono_l : ∀ k, (∀ y0 y1 y2 y3, LeO (interleaveref31_FormatSteps.l0 k y0 y1 y2 y3) (interleaveref31_FormatSteps.l0 (k + 1) y0 y1 y2 y3))
 | 0 => fun _ _ _ _ r h => by simp [interleaveref31_FormatSteps.l0] at h
 | k + 1 => by
  have ih0 := interleaveref31_FormatSteps.mono_l k
  ·intro y0 y1 y2 y3
   unfold interleaveref31_FormatSteps.l0
   repeat' first
   | (with_reducible exact ih0 _ _ _ _)
   | (with_reducible exact interleaveref31_words.mono _ _ _)
   | (with_reducible exact LeO.refl _)
   | (with_reducible exact LeO.none _)
   | (with_reducible refine LeO.ite ?_ ?_)
   | (with_reducible refine LeO.bind ?_ (fun _ => ?_))
   | exact ih0 _ _ _ _
   | exact interleaveref31_words.mono _ _ _
   | exact LeO.none _
   | refine LeO.ite ?_ ?_
   | refine LeO.bind ?_ (fun _ => ?_)
theorem interleaveref31_FormatSteps.mono : ∀ a0 k, LeO (interleaveref31_FormatSteps.f k a0) (interleaveref31_FormatSteps.f (k + 1) a0) := by
 intro a0 k
 have ih0 := interleaveref31_FormatSteps.mono_l k
 unfold interleaveref31_FormatSteps.f
 repeat' first
   | (with_reducible exact ih0 _ _ _ _)
   | (with_reducible exact interleaveref31_words.mono _ _ _)
   | (with_reducible exact LeO.refl _)
   | (with_reducible exact LeO.none _)
   | (with_reducible refine LeO.ite ?_ ?_)
   | (with_reducible refine LeO.bind ?_ (fun _ => ?_))
   | exact ih0 _ _ _ _
   | exact interleaveref31_words.mono _ _ _
   | exact LeO.none _
   | refine LeO.ite ?_ ?_
   | refine LeO.bind ?_ (fun _ => ?_)
set_option maxHeartbeats 8000000 in
set_option maxRecDepth 100000 in
theorem interleaveref31_FormatSteps.calls (k : Nat) (A0 : Option Addr) (c0 : Nat) (l0 : List (S28)) (r : ByteArray) (w : World) (hG : GW w) (hr0 : Kd.C k28 w A0 l0.length l0) (hc0 : l0.length ≤ c0) (h : interleaveref31_FormatSteps.f k l0 = some r) :
  Calls Tryd.prog 7 #[.slice A0 l0.length c0] w fun e w' => e = .returned (.string r) ∧ Below w.heap.size w w' := by
 have hu28 := Tryd.underlying28
 have HR0 := Aside0.mk hr0
 have HC0 := Aside0.mk hc0
 clear hr0 hc0
 have HG := Aside0.mk hG
 clear hG
 have HB := Aside0.mk (Below.refl w.heap.size w)
 have H : (interleaveref31_FormatSteps.l0 k (⟨#[]⟩ : ByteArray) l0 (l0.length : Int) 0) = some r := h
 clear h
 have H' := Aside0.mk H
 clear H
 go_enter Tryd.func7, Tryd.ntmps7
 go_wp2
 go_loopg [3, 8] k (fun kq v3 v8 w' => ∃ (x3_1 : ByteArray) (x8_1 : Int), v3 = .string x3_1 ∧ v8 = .int .i64 x8_1 ∧ Aside0 (interleaveref31_FormatSteps.l0 kq x3_1 l0 (l0.length : Int) x8_1 = some r) ∧ Aside0 (kq ≤ k) ∧ Aside0 (Below w.heap.size w w'))
 case atStart => exact ⟨((⟨#[]⟩ : ByteArray)), (0), (by first | rfl | (simp; done) | (simp [*]; done)), (by first | rfl | (simp; done) | (simp [*]; done)), H', ⟨Nat.le_refl _⟩, ⟨HB.l⟩⟩
 case round => as_aux_lemma =>
  clear H'
  obtain ⟨x3_1, x8_1, rfl, rfl, HA, HK1, HB⟩ := hrel
  cases gk with
  | zero => exact absurd HA.out (by simp [interleaveref31_FormatSteps.l0])
  | succ k1 =>
   have H := HA.out
   clear HA
   simp only [interleaveref31_FormatSteps.l0] at H
   by_cases c2 : x8_1 < (l0.length : Int)
   ·rw [if_pos c2] at H
    have c2b0 : decide (x8_1 < (l0.length : Int)) = true := decide_eq_true c2
    clear c2
    by_cases c3 : 0 ≤ x8_1
    ·rw [if_pos c3] at H
     have c3b0 : decide (0 ≤ x8_1) = true := decide_eq_true c3
     clear c3
     by_cases c4 : x8_1 < (l0.length : Int)
     ·rw [if_pos c4] at H
      have c4b0 : decide (x8_1 < (l0.length : Int)) = true := decide_eq_true c4
      clear c4
      by_cases c5 : ((rd_T28 l0 x8_1).f0) = 1
      ·rw [if_pos c5] at H
       have c5b0 : (((rd_T28 l0 x8_1).f0) == 1) = true := beq_iff_eq.mpr c5
       have c5b1 : (((rd_T28 l0 x8_1).f0) != 1) = false := bne_eq_false_iff_eq.mpr c5
       clear c5
       obtain ⟨y278, hy278⟩ : ∃ y_ : List Int, y_ = (([(rd_T28 l0 x8_1).f1] : List Int)) := ⟨_, rfl⟩
       replace H : ((interleaveref31_words.f k1 (⟨#[105, 110, 112, 117, 116]⟩ : ByteArray) y278).bind fun t281 => (if x3_1.size + t281.size ≤ 9223372036854775807 then (interleaveref31_FormatSteps.l0 k1 (x3_1 ++ t281) l0 (l0.length : Int) (wrap64 (x8_1 + 1))) else (none))) = some r := by first | (rw [hy278]; with_reducible exact H) | (have H2_ := (Option.bind_some _ _).symm.trans H; rw [hy278]; with_reducible exact H2_) | (have H2_ := (Option.bind_some _ _).symm.trans H; with_reducible exact H2_) | with_reducible exact H | (rw [hy278]; exact H) | exact H
       have Ny278 := Aside0.mk hy278
       clear hy278
       replace H := Option.bind_eq_some_iff.mp H
       obtain ⟨t281, A60, H⟩ := H
       replace H : (if x3_1.size + t281.size ≤ 9223372036854775807 then (interleaveref31_FormatSteps.l0 k1 (x3_1 ++ t281) l0 (l0.length : Int) (wrap64 (x8_1 + 1))) else (none)) = some r := H
       have A6 := Aside0.mk A60
       clear A60
       by_cases c7 : x3_1.size + t281.size ≤ 9223372036854775807
       ·rw [if_pos c7] at H
        have c7b0 := eq_true c7
        have c7b1 : decide (x3_1.size + t281.size ≤ 9223372036854775807) = true := decide_eq_true c7
        try have c7b2 : (9223372036854775807 < x3_1.size + t281.size) = False := eq_false (Nat.not_lt.2 c7)
        have H' := Aside0.mk H
        clear H
        have p276 : 0 ≤ (x8_1 : Int) := of_decide_eq_true (by first | (with_reducible assumption) | assumption)
        have q276 : x8_1 < (l0.length : Int) := of_decide_eq_true (by first | (with_reducible assumption) | assumption)
        obtain ⟨ad276, A276_2, c276_2, e276, hx276_0, hx276_1, hx276_2, hx276_3, hx276_4, hx276_5, hl276_2, hi276_2⟩ := at_T28 HR0.out x8_1 p276 q276
        cases e276
        replace hx276_0 := (HB.out.cell (World.block_lt_of_cell? w _ hx276_0)).trans hx276_0
        replace hx276_1 := (HB.out.cell (World.block_lt_of_cell? w _ hx276_1)).trans hx276_1
        replace hx276_2 := (HB.out.cell (World.block_lt_of_cell? w _ hx276_2)).trans hx276_2
        replace hx276_3 := (HB.out.cell (World.block_lt_of_cell? w _ hx276_3)).trans hx276_3
        replace hx276_4 := (HB.out.cell (World.block_lt_of_cell? w _ hx276_4)).trans hx276_4
        replace hx276_5 := (HB.out.cell (World.block_lt_of_cell? w _ hx276_5)).trans hx276_5
        have HR276_2 := Aside0.mk hi276_2
        have HC276_2 := Aside0.mk hl276_2
        clear hi276_2 hl276_2
        replace p276 := eq_true p276
        replace q276 := eq_true q276
        go_wp2_with (first | ((with_reducible refine gate_dst (N := 5) rfl ?_); refine box_ev (N := 5) rfl (cs := #[.int .i64 0, .int .i64 0, .slice none 0 0, .int .i64 0, .int .i64 0, .int .i64 0]) (t := 28) ?_; intro gb277 hg w8z hboxz hbz; have HGz := Aside0.mk (And.intro hg (And.intro hboxz hbz)); clear hg hboxz hbz) | ((with_reducible refine gate_store (t := 28) (p := 5) (v := _) rfl ?_); have hg := HGz.out.1; refine store_box rfl rfl rfl hg HGz.out.2.1 HGz.out.2.2 rfl (cs := #[.int .i64 ((rd_T28 l0 x8_1).f0), .int .i64 ((rd_T28 l0 x8_1).f1), .slice A276_2 ((rd_T28 l0 x8_1).f2).length c276_2, .int .i64 ((rd_T28 l0 x8_1).f3), .int .i64 ((rd_T28 l0 x8_1).f4), .int .i64 ((rd_T28 l0 x8_1).f5)]) ?hx (by kernel_rfl) rfl rfl ?_; (case hx => first | rfl | (go_simp; rfl)); intro w8 hbox hb; clear HGz; have n0_ := Aside0.mk (below_step HB.l hb); have n1_ := Aside0.mk (hbox); have n2_ := Aside0.mk ((by rw [hg]; exact (below_size HB.l) : w.heap.size ≤ gb277)); have n3_ := Aside0.mk ((by rw [hg]; exact (below_size HB.l) : w.heap.size ≤ gb277)); clear HB; revert n0_ n1_ n2_ n3_; intro HB BK277 GW277 GE277; clear hb hbox hg; have hcz9_0 := BK277.cl 0 (.int .i64 ((rd_T28 l0 x8_1).f0)); have hcz9_1 := BK277.cl 1 (.int .i64 ((rd_T28 l0 x8_1).f1)); have hcz9_2 := BK277.cl 2 (.slice A276_2 ((rd_T28 l0 x8_1).f2).length c276_2); have hcz9_3 := BK277.cl 3 (.int .i64 ((rd_T28 l0 x8_1).f3)); have hcz9_4 := BK277.cl 4 (.int .i64 ((rd_T28 l0 x8_1).f4)); have hcz9_5 := BK277.cl 5 (.int .i64 ((rd_T28 l0 x8_1).f5)); have hfz9_0 := BK277.fz 0; have hfz9_1 := BK277.fz 1; have hfz9_2 := BK277.fz 2; have hfz9_3 := BK277.fz 3; have hfz9_4 := BK277.fz 4; have hfz9_5 := BK277.fz 5) | ((with_reducible refine gate_dst (N := 25) rfl ?_); refine Kd.R_lit (Kd.int .i64) _ 3 ?hg (N := 25) ?hd (xs := ([(rd_T28 l0 x8_1).f1] : List Int)) (inner := [.int .i64 ((rd_T28 l0 x8_1).f1)]) (ok := fun _ => True) (okp := fun _ => True) ?hr ?hp (fun _ hk => hk) trivial (Below.refl _ _) (Nat.le_refl _) (by simp) ?_; (case hd => rfl); (case hg => rfl); (case hr => first | (go_simp; done) | (go_simp; rfl)); (case hp => exact (Reps.one (show Kd.M (Kd.int .i64) _ _ _ ((rd_T28 l0 x8_1).f1) [.int .i64 ((rd_T28 l0 x8_1).f1)] from rfl) (Reps.none _ _))); intro v279 w10 ho11 hb hg_ hnew_; clear hg_ hnew_; (first | rw [← Ny278.out] at ho11 | (simp only [Int.reduceToNat] at ho11; rw [← Ny278.out] at ho11)); have n0_ := Aside0.mk (Kd.R_lower ho11 (below_size HB.l)); have n1_ := Aside0.mk (blk_below BK277.b hb); have n2_ := Aside0.mk (below_step HB.l hb); clear BK277 HB; revert n0_ n1_ n2_; intro HO280 BK277 HB; clear hb ho11; obtain ⟨Ao12, co12, eo12⟩ := Kd.R_slice HO280.out; subst eo12) | ((with_reducible refine gate_callee (f := 15) rfl ?_); refine goesM_ Tryd.func15 #[.string (⟨#[105, 110, 112, 117, 116]⟩ : ByteArray), .slice Ao12 y278.length co12] ?_; (with_reducible refine (interleaveref31_words.calls k1 (⟨#[105, 110, 112, 117, 116]⟩ : ByteArray) _ _ y278 t281 _ ?side1 ?side2 ?side3 A6.out).mono ?_); (case side1 => exact GW.below HG.out HB.l); (case side2 => repeat (first | exact (Kd.R_reads' HO280.out).2.2 | (with_reducible refine Kd.C_alloc ?_ _) | (with_reducible refine Kd.C_drewN ?_ _) | (with_reducible refine Kd.C_drew ?_))); (case side3 => exact (Kd.R_reads' HO280.out).2.1); rintro e w13 ⟨rfl, hb⟩; refine ⟨_, rfl, ?_⟩; have n0_ := Aside0.mk (Kd.R_below HO280.r hb); have n1_ := Aside0.mk (blk_below BK277.b hb); have n2_ := Aside0.mk (below_step HB.l hb); clear HO280 BK277 HB; revert n0_ n1_ n2_; intro HO280 BK277 HB; (try clear hb); (try clear hb2); (try clear hk); (try clear hi)))
        go_roundg k1
        case measure => have := HK1.out; omega
        case rel => exact ⟨(x3_1 ++ t281), (wrap64 (x8_1 + 1)), (by first | rfl | (simp; done) | (simp [*]; done)), (by first | rfl | (simp; done) | (simp [*]; done)), H', ⟨by have := HK1.out; omega⟩, ⟨HB.l⟩⟩
       ·rw [if_neg c7] at H
        exact absurd H (by simp)
      ·rw [if_neg c5] at H
       have c5b0 : (((rd_T28 l0 x8_1).f0) == 1) = false := beq_eq_false_iff_ne.mpr c5
       have c5b1 : (((rd_T28 l0 x8_1).f0) != 1) = true := bne_iff_ne.mpr c5
       by_cases c14 : ((rd_T28 l0 x8_1).f0) = 2
       ·rw [if_pos c14] at H
        have c14b0 : (((rd_T28 l0 x8_1).f0) == 2) = true := beq_iff_eq.mpr c14
        have c14b1 : (((rd_T28 l0 x8_1).f0) != 2) = false := bne_eq_false_iff_eq.mpr c14
        clear c14
        replace H := Option.bind_eq_some_iff.mp H
        obtain ⟨t282, A150, H⟩ := H
        replace H : (if x3_1.size + t282.size ≤ 9223372036854775807 then (interleaveref31_FormatSteps.l0 k1 (x3_1 ++ t282) l0 (l0.length : Int) (wrap64 (x8_1 + 1))) else (none)) = some r := H
        have A15 := Aside0.mk A150
        clear A150
        by_cases c16 : x3_1.size + t282.size ≤ 9223372036854775807
        ·rw [if_pos c16] at H
         have c16b0 := eq_true c16
         have c16b1 : decide (x3_1.size + t282.size ≤ 9223372036854775807) = true := decide_eq_true c16
         try have c16b2 : (9223372036854775807 < x3_1.size + t282.size) = False := eq_false (Nat.not_lt.2 c16)
         have H' := Aside0.mk H
         clear H
         have p276 : 0 ≤ (x8_1 : Int) := of_decide_eq_true (by first | (with_reducible assumption) | assumption)
         have q276 : x8_1 < (l0.length : Int) := of_decide_eq_true (by first | (with_reducible assumption) | assumption)
         obtain ⟨ad276, A276_2, c276_2, e276, hx276_0, hx276_1, hx276_2, hx276_3, hx276_4, hx276_5, hl276_2, hi276_2⟩ := at_T28 HR0.out x8_1 p276 q276
         cases e276
         replace hx276_0 := (HB.out.cell (World.block_lt_of_cell? w _ hx276_0)).trans hx276_0
         replace hx276_1 := (HB.out.cell (World.block_lt_of_cell? w _ hx276_1)).trans hx276_1
         replace hx276_2 := (HB.out.cell (World.block_lt_of_cell? w _ hx276_2)).trans hx276_2
         replace hx276_3 := (HB.out.cell (World.block_lt_of_cell? w _ hx276_3)).trans hx276_3
         replace hx276_4 := (HB.out.cell (World.block_lt_of_cell? w _ hx276_4)).trans hx276_4
         replace hx276_5 := (HB.out.cell (World.block_lt_of_cell? w _ hx276_5)).trans hx276_5
         have HR276_2 := Aside0.mk hi276_2
         have HC276_2 := Aside0.mk hl276_2
         clear hi276_2 hl276_2
         replace p276 := eq_true p276
         replace q276 := eq_true q276
         go_wp2_with (first | ((with_reducible refine gate_dst (N := 5) rfl ?_); refine box_ev (N := 5) rfl (cs := #[.int .i64 0, .int .i64 0, .slice none 0 0, .int .i64 0, .int .i64 0, .int .i64 0]) (t := 28) ?_; intro gb277 hg w17z hboxz hbz; have HGz := Aside0.mk (And.intro hg (And.intro hboxz hbz)); clear hg hboxz hbz) | ((with_reducible refine gate_store (t := 28) (p := 5) (v := _) rfl ?_); have hg := HGz.out.1; refine store_box rfl rfl rfl hg HGz.out.2.1 HGz.out.2.2 rfl (cs := #[.int .i64 ((rd_T28 l0 x8_1).f0), .int .i64 ((rd_T28 l0 x8_1).f1), .slice A276_2 ((rd_T28 l0 x8_1).f2).length c276_2, .int .i64 ((rd_T28 l0 x8_1).f3), .int .i64 ((rd_T28 l0 x8_1).f4), .int .i64 ((rd_T28 l0 x8_1).f5)]) ?hx (by kernel_rfl) rfl rfl ?_; (case hx => first | rfl | (go_simp; rfl)); intro w17 hbox hb; clear HGz; have n0_ := Aside0.mk (below_step HB.l hb); have n1_ := Aside0.mk (hbox); have n2_ := Aside0.mk ((by rw [hg]; exact (below_size HB.l) : w.heap.size ≤ gb277)); have n3_ := Aside0.mk ((by rw [hg]; exact (below_size HB.l) : w.heap.size ≤ gb277)); clear HB; revert n0_ n1_ n2_ n3_; intro HB BK277 GW277 GE277; clear hb hbox hg; have hcz18_0 := BK277.cl 0 (.int .i64 ((rd_T28 l0 x8_1).f0)); have hcz18_1 := BK277.cl 1 (.int .i64 ((rd_T28 l0 x8_1).f1)); have hcz18_2 := BK277.cl 2 (.slice A276_2 ((rd_T28 l0 x8_1).f2).length c276_2); have hcz18_3 := BK277.cl 3 (.int .i64 ((rd_T28 l0 x8_1).f3)); have hcz18_4 := BK277.cl 4 (.int .i64 ((rd_T28 l0 x8_1).f4)); have hcz18_5 := BK277.cl 5 (.int .i64 ((rd_T28 l0 x8_1).f5)); have hfz18_0 := BK277.fz 0; have hfz18_1 := BK277.fz 1; have hfz18_2 := BK277.fz 2; have hfz18_3 := BK277.fz 3; have hfz18_4 := BK277.fz 4; have hfz18_5 := BK277.fz 5) | ((with_reducible refine gate_callee (f := 15) rfl ?_); refine goesM_ Tryd.func15 #[.string (⟨#[99, 121, 99, 108, 101]⟩ : ByteArray), .slice A276_2 ((rd_T28 l0 x8_1).f2).length c276_2] ?_; (with_reducible refine (interleaveref31_words.calls k1 (⟨#[99, 121, 99, 108, 101]⟩ : ByteArray) _ _ ((rd_T28 l0 x8_1).f2) t282 _ ?side1 ?side2 ?side3 A15.out).mono ?_); (case side1 => exact GW.below HG.out HB.l); (case side2 => exact Kd.C_below HR276_2.out HB.l); (case side3 => exact HC276_2.out); rintro e w19 ⟨rfl, hb⟩; refine ⟨_, rfl, ?_⟩; have n0_ := Aside0.mk (blk_below BK277.b hb); have n1_ := Aside0.mk (below_step HB.l hb); clear BK277 HB; revert n0_ n1_; intro BK277 HB; (try clear hb); (try clear hb2); (try clear hk); (try clear hi)))
         go_roundg k1
         case measure => have := HK1.out; omega
         case rel => exact ⟨(x3_1 ++ t282), (wrap64 (x8_1 + 1)), (by first | rfl | (simp; done) | (simp [*]; done)), (by first | rfl | (simp; done) | (simp [*]; done)), H', ⟨by have := HK1.out; omega⟩, ⟨HB.l⟩⟩
        ·rw [if_neg c16] at H
         exact absurd H (by simp)
       ·rw [if_neg c14] at H
        have c14b0 : (((rd_T28 l0 x8_1).f0) == 2) = false := beq_eq_false_iff_ne.mpr c14
        have c14b1 : (((rd_T28 l0 x8_1).f0) != 2) = true := bne_iff_ne.mpr c14
        by_cases c20 : ((rd_T28 l0 x8_1).f0) = 3
        ·rw [if_pos c20] at H
         have c20b0 : (((rd_T28 l0 x8_1).f0) == 3) = true := beq_iff_eq.mpr c20
         have c20b1 : (((rd_T28 l0 x8_1).f0) != 3) = false := bne_eq_false_iff_eq.mpr c20
         clear c20
         obtain ⟨y283, hy283⟩ : ∃ y_ : List Int, y_ = (([(rd_T28 l0 x8_1).f3, (rd_T28 l0 x8_1).f4, (rd_T28 l0 x8_1).f5] : List Int)) := ⟨_, rfl⟩
         replace H : ((interleaveref31_words.f k1 (⟨#[114, 101, 115, 111, 108, 118, 101]⟩ : ByteArray) y283).bind fun t286 => (if x3_1.size + t286.size ≤ 9223372036854775807 then (interleaveref31_FormatSteps.l0 k1 (x3_1 ++ t286) l0 (l0.length : Int) (wrap64 (x8_1 + 1))) else (none))) = some r := by first | (rw [hy283]; with_reducible exact H) | (have H2_ := (Option.bind_some _ _).symm.trans H; rw [hy283]; with_reducible exact H2_) | (have H2_ := (Option.bind_some _ _).symm.trans H; with_reducible exact H2_) | with_reducible exact H | (rw [hy283]; exact H) | exact H
         have Ny283 := Aside0.mk hy283
         clear hy283
         replace H := Option.bind_eq_some_iff.mp H
         obtain ⟨t286, A210, H⟩ := H
         replace H : (if x3_1.size + t286.size ≤ 9223372036854775807 then (interleaveref31_FormatSteps.l0 k1 (x3_1 ++ t286) l0 (l0.length : Int) (wrap64 (x8_1 + 1))) else (none)) = some r := H
         have A21 := Aside0.mk A210
         clear A210
         by_cases c22 : x3_1.size + t286.size ≤ 9223372036854775807
         ·rw [if_pos c22] at H
          have c22b0 := eq_true c22
          have c22b1 : decide (x3_1.size + t286.size ≤ 9223372036854775807) = true := decide_eq_true c22
          try have c22b2 : (9223372036854775807 < x3_1.size + t286.size) = False := eq_false (Nat.not_lt.2 c22)
          have H' := Aside0.mk H
          clear H
          have p276 : 0 ≤ (x8_1 : Int) := of_decide_eq_true (by first | (with_reducible assumption) | assumption)
          have q276 : x8_1 < (l0.length : Int) := of_decide_eq_true (by first | (with_reducible assumption) | assumption)
          obtain ⟨ad276, A276_2, c276_2, e276, hx276_0, hx276_1, hx276_2, hx276_3, hx276_4, hx276_5, hl276_2, hi276_2⟩ := at_T28 HR0.out x8_1 p276 q276
          cases e276
          replace hx276_0 := (HB.out.cell (World.block_lt_of_cell? w _ hx276_0)).trans hx276_0
          replace hx276_1 := (HB.out.cell (World.block_lt_of_cell? w _ hx276_1)).trans hx276_1
          replace hx276_2 := (HB.out.cell (World.block_lt_of_cell? w _ hx276_2)).trans hx276_2
          replace hx276_3 := (HB.out.cell (World.block_lt_of_cell? w _ hx276_3)).trans hx276_3
          replace hx276_4 := (HB.out.cell (World.block_lt_of_cell? w _ hx276_4)).trans hx276_4
          replace hx276_5 := (HB.out.cell (World.block_lt_of_cell? w _ hx276_5)).trans hx276_5
          have HR276_2 := Aside0.mk hi276_2
          have HC276_2 := Aside0.mk hl276_2
          clear hi276_2 hl276_2
          replace p276 := eq_true p276
          replace q276 := eq_true q276
          go_wp2_with (first | ((with_reducible refine gate_dst (N := 5) rfl ?_); refine box_ev (N := 5) rfl (cs := #[.int .i64 0, .int .i64 0, .slice none 0 0, .int .i64 0, .int .i64 0, .int .i64 0]) (t := 28) ?_; intro gb277 hg w23z hboxz hbz; have HGz := Aside0.mk (And.intro hg (And.intro hboxz hbz)); clear hg hboxz hbz) | ((with_reducible refine gate_store (t := 28) (p := 5) (v := _) rfl ?_); have hg := HGz.out.1; refine store_box rfl rfl rfl hg HGz.out.2.1 HGz.out.2.2 rfl (cs := #[.int .i64 ((rd_T28 l0 x8_1).f0), .int .i64 ((rd_T28 l0 x8_1).f1), .slice A276_2 ((rd_T28 l0 x8_1).f2).length c276_2, .int .i64 ((rd_T28 l0 x8_1).f3), .int .i64 ((rd_T28 l0 x8_1).f4), .int .i64 ((rd_T28 l0 x8_1).f5)]) ?hx (by kernel_rfl) rfl rfl ?_; (case hx => first | rfl | (go_simp; rfl)); intro w23 hbox hb; clear HGz; have n0_ := Aside0.mk (below_step HB.l hb); have n1_ := Aside0.mk (hbox); have n2_ := Aside0.mk ((by rw [hg]; exact (below_size HB.l) : w.heap.size ≤ gb277)); have n3_ := Aside0.mk ((by rw [hg]; exact (below_size HB.l) : w.heap.size ≤ gb277)); clear HB; revert n0_ n1_ n2_ n3_; intro HB BK277 GW277 GE277; clear hb hbox hg; have hcz24_0 := BK277.cl 0 (.int .i64 ((rd_T28 l0 x8_1).f0)); have hcz24_1 := BK277.cl 1 (.int .i64 ((rd_T28 l0 x8_1).f1)); have hcz24_2 := BK277.cl 2 (.slice A276_2 ((rd_T28 l0 x8_1).f2).length c276_2); have hcz24_3 := BK277.cl 3 (.int .i64 ((rd_T28 l0 x8_1).f3)); have hcz24_4 := BK277.cl 4 (.int .i64 ((rd_T28 l0 x8_1).f4)); have hcz24_5 := BK277.cl 5 (.int .i64 ((rd_T28 l0 x8_1).f5)); have hfz24_0 := BK277.fz 0; have hfz24_1 := BK277.fz 1; have hfz24_2 := BK277.fz 2; have hfz24_3 := BK277.fz 3; have hfz24_4 := BK277.fz 4; have hfz24_5 := BK277.fz 5) | ((with_reducible refine gate_dst (N := 44) rfl ?_); refine Kd.R_lit (Kd.int .i64) _ 3 ?hg (N := 44) ?hd (xs := ([(rd_T28 l0 x8_1).f3, (rd_T28 l0 x8_1).f4, (rd_T28 l0 x8_1).f5] : List Int)) (inner := [.int .i64 ((rd_T28 l0 x8_1).f3), .int .i64 ((rd_T28 l0 x8_1).f4), .int .i64 ((rd_T28 l0 x8_1).f5)]) (ok := fun _ => True) (okp := fun _ => True) ?hr ?hp (fun _ hk => hk) trivial (Below.refl _ _) (Nat.le_refl _) (by simp) ?_; (case hd => rfl); (case hg => rfl); (case hr => first | (go_simp; done) | (go_simp; rfl)); (case hp => exact (Reps.one (show Kd.M (Kd.int .i64) _ _ _ ((rd_T28 l0 x8_1).f3) [.int .i64 ((rd_T28 l0 x8_1).f3)] from rfl) (Reps.one (show Kd.M (Kd.int .i64) _ _ _ ((rd_T28 l0 x8_1).f4) [.int .i64 ((rd_T28 l0 x8_1).f4)] from rfl) (Reps.one (show Kd.M (Kd.int .i64) _ _ _ ((rd_T28 l0 x8_1).f5) [.int .i64 ((rd_T28 l0 x8_1).f5)] from rfl) (Reps.none _ _))))); intro v284 w25 ho26 hb hg_ hnew_; clear hg_ hnew_; (first | rw [← Ny283.out] at ho26 | (simp only [Int.reduceToNat] at ho26; rw [← Ny283.out] at ho26)); have n0_ := Aside0.mk (Kd.R_lower ho26 (below_size HB.l)); have n1_ := Aside0.mk (blk_below BK277.b hb); have n2_ := Aside0.mk (below_step HB.l hb); clear BK277 HB; revert n0_ n1_ n2_; intro HO285 BK277 HB; clear hb ho26; obtain ⟨Ao27, co27, eo27⟩ := Kd.R_slice HO285.out; subst eo27) | ((with_reducible refine gate_callee (f := 15) rfl ?_); refine goesM_ Tryd.func15 #[.string (⟨#[114, 101, 115, 111, 108, 118, 101]⟩ : ByteArray), .slice Ao27 y283.length co27] ?_; (with_reducible refine (interleaveref31_words.calls k1 (⟨#[114, 101, 115, 111, 108, 118, 101]⟩ : ByteArray) _ _ y283 t286 _ ?side1 ?side2 ?side3 A21.out).mono ?_); (case side1 => exact GW.below HG.out HB.l); (case side2 => repeat (first | exact (Kd.R_reads' HO285.out).2.2 | (with_reducible refine Kd.C_alloc ?_ _) | (with_reducible refine Kd.C_drewN ?_ _) | (with_reducible refine Kd.C_drew ?_))); (case side3 => exact (Kd.R_reads' HO285.out).2.1); rintro e w28 ⟨rfl, hb⟩; refine ⟨_, rfl, ?_⟩; have n0_ := Aside0.mk (Kd.R_below HO285.r hb); have n1_ := Aside0.mk (blk_below BK277.b hb); have n2_ := Aside0.mk (below_step HB.l hb); clear HO285 BK277 HB; revert n0_ n1_ n2_; intro HO285 BK277 HB; (try clear hb); (try clear hb2); (try clear hk); (try clear hi)))
          go_roundg k1
          case measure => have := HK1.out; omega
          case rel => exact ⟨(x3_1 ++ t286), (wrap64 (x8_1 + 1)), (by first | rfl | (simp; done) | (simp [*]; done)), (by first | rfl | (simp; done) | (simp [*]; done)), H', ⟨by have := HK1.out; omega⟩, ⟨HB.l⟩⟩
         ·rw [if_neg c22] at H
          exact absurd H (by simp)
        ·rw [if_neg c20] at H
         have c20b0 : (((rd_T28 l0 x8_1).f0) == 3) = false := beq_eq_false_iff_ne.mpr c20
         have c20b1 : (((rd_T28 l0 x8_1).f0) != 3) = true := bne_iff_ne.mpr c20
         obtain ⟨y287, hy287⟩ : ∃ y_ : List Int, y_ = (([(rd_T28 l0 x8_1).f0] : List Int)) := ⟨_, rfl⟩
         replace H : ((interleaveref31_words.f k1 (⟨#[115, 116, 101, 112]⟩ : ByteArray) y287).bind fun t290 => (if x3_1.size + t290.size ≤ 9223372036854775807 then (interleaveref31_FormatSteps.l0 k1 (x3_1 ++ t290) l0 (l0.length : Int) (wrap64 (x8_1 + 1))) else (none))) = some r := by first | (rw [hy287]; with_reducible exact H) | (have H2_ := (Option.bind_some _ _).symm.trans H; rw [hy287]; with_reducible exact H2_) | (have H2_ := (Option.bind_some _ _).symm.trans H; with_reducible exact H2_) | with_reducible exact H | (rw [hy287]; exact H) | exact H
         have Ny287 := Aside0.mk hy287
         clear hy287
         replace H := Option.bind_eq_some_iff.mp H
         obtain ⟨t290, A290, H⟩ := H
         replace H : (if x3_1.size + t290.size ≤ 9223372036854775807 then (interleaveref31_FormatSteps.l0 k1 (x3_1 ++ t290) l0 (l0.length : Int) (wrap64 (x8_1 + 1))) else (none)) = some r := H
         have A29 := Aside0.mk A290
         clear A290
         by_cases c30 : x3_1.size + t290.size ≤ 9223372036854775807
         ·rw [if_pos c30] at H
          have c30b0 := eq_true c30
          have c30b1 : decide (x3_1.size + t290.size ≤ 9223372036854775807) = true := decide_eq_true c30
          try have c30b2 : (9223372036854775807 < x3_1.size + t290.size) = False := eq_false (Nat.not_lt.2 c30)
          have H' := Aside0.mk H
          clear H
          have p276 : 0 ≤ (x8_1 : Int) := of_decide_eq_true (by first | (with_reducible assumption) | assumption)
          have q276 : x8_1 < (l0.length : Int) := of_decide_eq_true (by first | (with_reducible assumption) | assumption)
          obtain ⟨ad276, A276_2, c276_2, e276, hx276_0, hx276_1, hx276_2, hx276_3, hx276_4, hx276_5, hl276_2, hi276_2⟩ := at_T28 HR0.out x8_1 p276 q276
          cases e276
          replace hx276_0 := (HB.out.cell (World.block_lt_of_cell? w _ hx276_0)).trans hx276_0
          replace hx276_1 := (HB.out.cell (World.block_lt_of_cell? w _ hx276_1)).trans hx276_1
          replace hx276_2 := (HB.out.cell (World.block_lt_of_cell? w _ hx276_2)).trans hx276_2
          replace hx276_3 := (HB.out.cell (World.block_lt_of_cell? w _ hx276_3)).trans hx276_3
          replace hx276_4 := (HB.out.cell (World.block_lt_of_cell? w _ hx276_4)).trans hx276_4
          replace hx276_5 := (HB.out.cell (World.block_lt_of_cell? w _ hx276_5)).trans hx276_5
          have HR276_2 := Aside0.mk hi276_2
          have HC276_2 := Aside0.mk hl276_2
          clear hi276_2 hl276_2
          replace p276 := eq_true p276
          replace q276 := eq_true q276
          go_wp2_with (first | ((with_reducible refine gate_dst (N := 5) rfl ?_); refine box_ev (N := 5) rfl (cs := #[.int .i64 0, .int .i64 0, .slice none 0 0, .int .i64 0, .int .i64 0, .int .i64 0]) (t := 28) ?_; intro gb277 hg w31z hboxz hbz; have HGz := Aside0.mk (And.intro hg (And.intro hboxz hbz)); clear hg hboxz hbz) | ((with_reducible refine gate_store (t := 28) (p := 5) (v := _) rfl ?_); have hg := HGz.out.1; refine store_box rfl rfl rfl hg HGz.out.2.1 HGz.out.2.2 rfl (cs := #[.int .i64 ((rd_T28 l0 x8_1).f0), .int .i64 ((rd_T28 l0 x8_1).f1), .slice A276_2 ((rd_T28 l0 x8_1).f2).length c276_2, .int .i64 ((rd_T28 l0 x8_1).f3), .int .i64 ((rd_T28 l0 x8_1).f4), .int .i64 ((rd_T28 l0 x8_1).f5)]) ?hx (by kernel_rfl) rfl rfl ?_; (case hx => first | rfl | (go_simp; rfl)); intro w31 hbox hb; clear HGz; have n0_ := Aside0.mk (below_step HB.l hb); have n1_ := Aside0.mk (hbox); have n2_ := Aside0.mk ((by rw [hg]; exact (below_size HB.l) : w.heap.size ≤ gb277)); have n3_ := Aside0.mk ((by rw [hg]; exact (below_size HB.l) : w.heap.size ≤ gb277)); clear HB; revert n0_ n1_ n2_ n3_; intro HB BK277 GW277 GE277; clear hb hbox hg; have hcz32_0 := BK277.cl 0 (.int .i64 ((rd_T28 l0 x8_1).f0)); have hcz32_1 := BK277.cl 1 (.int .i64 ((rd_T28 l0 x8_1).f1)); have hcz32_2 := BK277.cl 2 (.slice A276_2 ((rd_T28 l0 x8_1).f2).length c276_2); have hcz32_3 := BK277.cl 3 (.int .i64 ((rd_T28 l0 x8_1).f3)); have hcz32_4 := BK277.cl 4 (.int .i64 ((rd_T28 l0 x8_1).f4)); have hcz32_5 := BK277.cl 5 (.int .i64 ((rd_T28 l0 x8_1).f5)); have hfz32_0 := BK277.fz 0; have hfz32_1 := BK277.fz 1; have hfz32_2 := BK277.fz 2; have hfz32_3 := BK277.fz 3; have hfz32_4 := BK277.fz 4; have hfz32_5 := BK277.fz 5) | ((with_reducible refine gate_dst (N := 17) rfl ?_); refine Kd.R_lit (Kd.int .i64) _ 3 ?hg (N := 17) ?hd (xs := ([(rd_T28 l0 x8_1).f0] : List Int)) (inner := [.int .i64 ((rd_T28 l0 x8_1).f0)]) (ok := fun _ => True) (okp := fun _ => True) ?hr ?hp (fun _ hk => hk) trivial (Below.refl _ _) (Nat.le_refl _) (by simp) ?_; (case hd => rfl); (case hg => rfl); (case hr => first | (go_simp; done) | (go_simp; rfl)); (case hp => exact (Reps.one (show Kd.M (Kd.int .i64) _ _ _ ((rd_T28 l0 x8_1).f0) [.int .i64 ((rd_T28 l0 x8_1).f0)] from rfl) (Reps.none _ _))); intro v288 w33 ho34 hb hg_ hnew_; clear hg_ hnew_; (first | rw [← Ny287.out] at ho34 | (simp only [Int.reduceToNat] at ho34; rw [← Ny287.out] at ho34)); have n0_ := Aside0.mk (Kd.R_lower ho34 (below_size HB.l)); have n1_ := Aside0.mk (blk_below BK277.b hb); have n2_ := Aside0.mk (below_step HB.l hb); clear BK277 HB; revert n0_ n1_ n2_; intro HO289 BK277 HB; clear hb ho34; obtain ⟨Ao35, co35, eo35⟩ := Kd.R_slice HO289.out; subst eo35) | ((with_reducible refine gate_callee (f := 15) rfl ?_); refine goesM_ Tryd.func15 #[.string (⟨#[115, 116, 101, 112]⟩ : ByteArray), .slice Ao35 y287.length co35] ?_; (with_reducible refine (interleaveref31_words.calls k1 (⟨#[115, 116, 101, 112]⟩ : ByteArray) _ _ y287 t290 _ ?side1 ?side2 ?side3 A29.out).mono ?_); (case side1 => exact GW.below HG.out HB.l); (case side2 => repeat (first | exact (Kd.R_reads' HO289.out).2.2 | (with_reducible refine Kd.C_alloc ?_ _) | (with_reducible refine Kd.C_drewN ?_ _) | (with_reducible refine Kd.C_drew ?_))); (case side3 => exact (Kd.R_reads' HO289.out).2.1); rintro e w36 ⟨rfl, hb⟩; refine ⟨_, rfl, ?_⟩; have n0_ := Aside0.mk (Kd.R_below HO289.r hb); have n1_ := Aside0.mk (blk_below BK277.b hb); have n2_ := Aside0.mk (below_step HB.l hb); clear HO289 BK277 HB; revert n0_ n1_ n2_; intro HO289 BK277 HB; (try clear hb); (try clear hb2); (try clear hk); (try clear hi)))
          go_roundg k1
          case measure => have := HK1.out; omega
          case rel => exact ⟨(x3_1 ++ t290), (wrap64 (x8_1 + 1)), (by first | rfl | (simp; done) | (simp [*]; done)), (by first | rfl | (simp; done) | (simp [*]; done)), H', ⟨by have := HK1.out; omega⟩, ⟨HB.l⟩⟩
         ·rw [if_neg c30] at H
          exact absurd H (by simp)
     ·rw [if_neg c4] at H
      exact absurd H (by simp)
    ·rw [if_neg c3] at H
     exact absurd H (by simp)
   ·rw [if_neg c2] at H
    have c2b0 : decide (x8_1 < (l0.length : Int)) = false := decide_eq_false c2
    clear c2
    obtain rfl := Option.some.inj H
    go_wp2
    go_ret
    exact ⟨by first | rfl | (simp [errW_none, errW_some] <;> rfl) | (simp [*, errW_none, errW_some] <;> rfl), HB.l⟩

/-! ### interleavelaw33_ProofFormats: function 3 -/
def interleavelaw33_ProofFormats.f (k : Nat) (l0 : List (S28)) : Option (Bool) := (interleavelaw33_large.f k l0).bind fun t291 => (if t291 = true then ((interleavelaw33_awake.f k).bind fun t292 => (some t292)) else ((proof_Format.f l0).bind fun t293 => ((interleaveref31_FormatSteps.f k l0).bind fun t294 => (if t293.toList = t294.toList then ((interleavelaw33_awake.f k).bind fun t295 => (some t295)) else (none)))))
theorem interleavelaw33_ProofFormats.mono : ∀ a0 k, LeO (interleavelaw33_ProofFormats.f k a0) (interleavelaw33_ProofFormats.f (k + 1) a0) := by
 intro a0 k
 unfold interleavelaw33_ProofFormats.f
 repeat' first
   | (with_reducible exact interleavelaw33_awake.mono _)
   | (with_reducible exact interleavelaw33_large.mono _ _)
   | (with_reducible exact interleaveref31_FormatSteps.mono _ _)
   | (with_reducible exact LeO.refl _)
   | (with_reducible exact LeO.none _)
   | (with_reducible refine LeO.ite ?_ ?_)
   | (with_reducible refine LeO.bind ?_ (fun _ => ?_))
   | exact interleavelaw33_awake.mono _
   | exact interleavelaw33_large.mono _ _
   | exact interleaveref31_FormatSteps.mono _ _
   | exact LeO.none _
   | refine LeO.ite ?_ ?_
   | refine LeO.bind ?_ (fun _ => ?_)
set_option maxHeartbeats 8000000 in
set_option maxRecDepth 100000 in
theorem interleavelaw33_ProofFormats.calls (k : Nat) (A0 : Option Addr) (c0 : Nat) (l0 : List (S28)) (r : Bool) (w : World) (hG : GW w) (hr0 : Kd.C k28 w A0 l0.length l0) (hc0 : l0.length ≤ c0) (h : interleavelaw33_ProofFormats.f k l0 = some r) :
  Calls Tryd.prog 3 #[.slice A0 l0.length c0] w fun e w' => e = .returned (.bool r) ∧ Below w.heap.size w w' := by
 have HR0 := Aside0.mk hr0
 have HC0 := Aside0.mk hc0
 clear hr0 hc0
 have HG := Aside0.mk hG
 clear hG
 have HB := Aside0.mk (Below.refl w.heap.size w)
 have H : ((interleavelaw33_large.f k l0).bind fun t291 => (if t291 = true then ((interleavelaw33_awake.f k).bind fun t292 => (some t292)) else ((proof_Format.f l0).bind fun t293 => ((interleaveref31_FormatSteps.f k l0).bind fun t294 => (if t293.toList = t294.toList then ((interleavelaw33_awake.f k).bind fun t295 => (some t295)) else (none)))))) = some r := h
 clear h
 replace H := Option.bind_eq_some_iff.mp H
 obtain ⟨t291, A20, H⟩ := H
 replace H : (if t291 = true then ((interleavelaw33_awake.f k).bind fun t292 => (some t292)) else ((proof_Format.f l0).bind fun t293 => ((interleaveref31_FormatSteps.f k l0).bind fun t294 => (if t293.toList = t294.toList then ((interleavelaw33_awake.f k).bind fun t295 => (some t295)) else (none))))) = some r := H
 have A2 := Aside0.mk A20
 clear A20
 by_cases c3 : t291 = true
 ·subst c3
  have H1 : ((interleavelaw33_awake.f k).bind fun t292 => (some t292)) = some r := by rw [if_pos rfl] at H; exact H
  clear H
  have H := H1
  clear H1
  replace H := Option.bind_eq_some_iff.mp H
  obtain ⟨t292, A40, H⟩ := H
  replace H : (some t292) = some r := H
  have A4 := Aside0.mk A40
  clear A40
  obtain rfl := Option.some.inj H
  go_enter Tryd.func3, Tryd.ntmps3
  go_wp2_with (first | ((with_reducible refine gate_callee (f := 4) rfl ?_); refine goesM_ Tryd.func4 #[.slice A0 l0.length c0] ?_; (with_reducible refine (interleavelaw33_large.calls k _ _ l0 true _ ?side1 ?side2 A2.out).mono ?_); (case side1 => repeat (first | exact HR0.out | (with_reducible refine Kd.C_alloc ?_ _) | (with_reducible refine Kd.C_drewN ?_ _) | (with_reducible refine Kd.C_drew ?_))); (case side2 => exact HC0.out); rintro e w' ⟨rfl, ⟨nd, rfl⟩⟩; refine ⟨_, rfl, ?_⟩) | ((with_reducible refine gate_callee (f := 5) rfl ?_); refine goesM_ Tryd.func5 #[] ?_; (with_reducible refine (interleavelaw33_awake.calls k  t292 _ A4.out).mono ?_); rintro e w5 ⟨rfl, hb⟩; refine ⟨_, rfl, ?_⟩; have n0_ := Aside0.mk (below_step HB.l hb); clear HB; revert n0_; intro HB; (try clear hb); (try clear hb2); (try clear hk); (try clear hi)))
  go_ret
  exact ⟨by first | rfl | (simp [errW_none, errW_some] <;> rfl) | (simp [*, errW_none, errW_some] <;> rfl), HB.l⟩
 ·replace c3 := Bool.eq_false_iff.mpr c3
  subst c3
  have H1 : ((proof_Format.f l0).bind fun t293 => ((interleaveref31_FormatSteps.f k l0).bind fun t294 => (if t293.toList = t294.toList then ((interleavelaw33_awake.f k).bind fun t295 => (some t295)) else (none)))) = some r := by rw [if_neg (show ¬ (false = true) by decide)] at H; exact H
  clear H
  have H := H1
  clear H1
  replace H := Option.bind_eq_some_iff.mp H
  obtain ⟨t293, A60, H⟩ := H
  replace H : ((interleaveref31_FormatSteps.f k l0).bind fun t294 => (if t293.toList = t294.toList then ((interleavelaw33_awake.f k).bind fun t295 => (some t295)) else (none))) = some r := H
  have A6 := Aside0.mk A60
  clear A60
  replace H := Option.bind_eq_some_iff.mp H
  obtain ⟨t294, A70, H⟩ := H
  replace H : (if t293.toList = t294.toList then ((interleavelaw33_awake.f k).bind fun t295 => (some t295)) else (none)) = some r := H
  have A7 := Aside0.mk A70
  clear A70
  by_cases c8 : t293.toList = t294.toList
  ·rw [if_pos c8] at H
   have c8b0 : (t293.toList == t294.toList) = true := beq_iff_eq.mpr c8
   have c8b1 : (t293.toList != t294.toList) = false := bne_eq_false_iff_eq.mpr c8
   clear c8
   replace H := Option.bind_eq_some_iff.mp H
   obtain ⟨t295, A90, H⟩ := H
   replace H : (some t295) = some r := H
   have A9 := Aside0.mk A90
   clear A90
   obtain rfl := Option.some.inj H
   go_enter Tryd.func3, Tryd.ntmps3
   go_wp2_with (first | ((with_reducible refine gate_callee (f := 4) rfl ?_); refine goesM_ Tryd.func4 #[.slice A0 l0.length c0] ?_; (with_reducible refine (interleavelaw33_large.calls k _ _ l0 false _ ?side1 ?side2 A2.out).mono ?_); (case side1 => repeat (first | exact HR0.out | (with_reducible refine Kd.C_alloc ?_ _) | (with_reducible refine Kd.C_drewN ?_ _) | (with_reducible refine Kd.C_drew ?_))); (case side2 => exact HC0.out); rintro e w' ⟨rfl, ⟨nd, rfl⟩⟩; refine ⟨_, rfl, ?_⟩) | ((with_reducible refine gate_callee (f := 6) rfl ?_); refine goesM_ Tryd.func6 #[.slice A0 l0.length c0] ?_; (with_reducible refine (proof_Format.calls _ _ l0 t293 _ ?side1 ?side2 ?side3 A6.out).mono ?_); (case side1 => exact GW.below HG.out HB.l); (case side2 => repeat (first | exact HR0.out | (with_reducible refine Kd.C_alloc ?_ _) | (with_reducible refine Kd.C_drewN ?_ _) | (with_reducible refine Kd.C_drew ?_))); (case side3 => exact HC0.out); rintro e w10 ⟨rfl, hb⟩; refine ⟨_, rfl, ?_⟩; have n0_ := Aside0.mk (below_step HB.l hb); clear HB; revert n0_; intro HB; (try clear hb); (try clear hb2); (try clear hk); (try clear hi)) | ((with_reducible refine gate_callee (f := 7) rfl ?_); refine goesM_ Tryd.func7 #[.slice A0 l0.length c0] ?_; (with_reducible refine (interleaveref31_FormatSteps.calls k _ _ l0 t294 _ ?side1 ?side2 ?side3 A7.out).mono ?_); (case side1 => exact GW.below HG.out HB.l); (case side2 => exact HR0.c HB.l); (case side3 => exact HC0.out); rintro e w11 ⟨rfl, hb⟩; refine ⟨_, rfl, ?_⟩; have n0_ := Aside0.mk (below_step HB.l hb); clear HB; revert n0_; intro HB; (try clear hb); (try clear hb2); (try clear hk); (try clear hi)) | (go_at_call 5; (with_reducible refine (interleavelaw33_awake.calls k  t295 _ A9.out).mono ?_); rintro e w12 ⟨rfl, hb⟩; have n0_ := Aside0.mk (below_step HB.l hb); clear HB; revert n0_; intro HB; (try clear hb); (try clear hb2); (try clear hk); (try clear hi)))
   go_ret
   exact ⟨by first | rfl | (simp [errW_none, errW_some] <;> rfl) | (simp [*, errW_none, errW_some] <;> rfl), HB.l⟩
  ·rw [if_neg c8] at H
   exact absurd H (by simp)

end Go.Proofs.YtppbnjmhkifdaaaDoor.X
