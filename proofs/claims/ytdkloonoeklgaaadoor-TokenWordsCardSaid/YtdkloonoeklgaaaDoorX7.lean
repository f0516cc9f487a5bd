-- Written by this session's own program (wip/tools/xprint.py).
import Derived.Test.YtdkloonoeklgaaaDoorX0
import Derived.Test.YtdkloonoeklgaaaDoorX5
import Derived.Test.YtdkloonoeklgaaaDoorX6
namespace Go.Proofs.YtdkloonoeklgaaaDoor.X
open Go.RowKit Go.Proofs.YtdkloonoeklgaaaDoorW.PrintWords Go.Proofs.YtdkloonoeklgaaaDoorW.PrintLast Go.Proofs.YtdkloonoeklgaaaDoorW.PrintMore
attribute [local go_sem] max2_int min2_int max_two min_two max_three min_three max_four min_four   -- for this text's walks alone
set_option linter.unusedVariables false
set_option linter.unusedSimpArgs false

/-! ### interleaveref01_Scan: function 12 -/
mutual
def interleaveref01_Scan.l0 : Nat → ByteArray → List (S27) → Int → Int → Option ((List (S27)) × Int × Int)
  | 0, _, _, _, _ => none
  | k + 1, x0, x5, x6, x7 => if x7 < (x0.size : Int) then (if 0 ≤ x7 then (if (bt x0 x7) = 32 then (interleaveref01_Scan.j1 k x0 x5 x6 x7 (bt x0 x7) x7 true) else (if (bt x0 x7) = 9 then (interleaveref01_Scan.j1 k x0 x5 x6 x7 (bt x0 x7) x7 true) else (if (bt x0 x7) = 13 then (interleaveref01_Scan.j1 k x0 x5 x6 x7 (bt x0 x7) x7 true) else (interleaveref01_Scan.j1 k x0 x5 x6 x7 (bt x0 x7) x7 ((bt x0 x7) == 10))))) else (none)) else (some (x5, 0, 0))
def interleaveref01_Scan.j1 : Nat → ByteArray → List (S27) → Int → Int → Int → Int → Bool → Option ((List (S27)) × Int × Int)
  | 0, _, _, _, _, _, _, _ => none
  | k + 1, x0, x5, x6, x7, x8, x9, x41 => if x41 = true then (if x8 = 10 then (interleaveref01_Scan.l0 k x0 x5 (wrap64 (x6 + 1)) (wrap64 (x7 + 1))) else (interleaveref01_Scan.l0 k x0 x5 x6 (wrap64 (x7 + 1)))) else (if x8 = 47 then (if (wrap64 (x7 + 1)) < (x0.size : Int) then (if 0 ≤ (wrap64 (x7 + 1)) then (interleaveref01_Scan.j2 k x0 x5 x6 x7 x8 x9 ((bt x0 (wrap64 (x7 + 1))) == 47)) else (none)) else (interleaveref01_Scan.j2 k x0 x5 x6 x7 x8 x9 false)) else (interleaveref01_Scan.j2 k x0 x5 x6 x7 x8 x9 false))
def interleaveref01_Scan.j2 : Nat → ByteArray → List (S27) → Int → Int → Int → Int → Bool → Option ((List (S27)) × Int × Int)
  | 0, _, _, _, _, _, _, _ => none
  | k + 1, x0, x5, x6, x7, x8, x9, x62 => if x62 = true then (interleaveref01_Scan.l1 k x0 x5 x6 x7) else ((interleaveref01_Letter.f x8).bind fun t184 => (if t184 = true then (interleaveref01_Scan.l2 k x0 x5 x6 x7 x9) else ((interleaveref01_Digit.f x8).bind fun t194 => (if t194 = true then (interleaveref01_Scan.l3 k x0 x5 x6 x7 x9) else ((interleaveref01_signAt.f k x0 x7).bind fun t205 => (if t205.toList = ([] : List UInt8) then (some (([] : List (S27)), 3, x6)) else (if x5.length < 4398046511104 then (interleaveref01_Scan.l0 k x0 (x5 ++ [(⟨4, t205, x6⟩ : S27)]) x6 (wrap64 (x7 + (t205.size : Int)))) else (none))))))))
def interleaveref01_Scan.l1 : Nat → ByteArray → List (S27) → Int → Int → Option ((List (S27)) × Int × Int)
  | 0, _, _, _, _ => none
  | k + 1, x0, x5, x6, x7 => if x7 < (x0.size : Int) then (if 0 ≤ x7 then (if (bt x0 x7) = 10 then (interleaveref01_Scan.l0 k x0 x5 x6 x7) else (interleaveref01_Scan.l1 k x0 x5 x6 (wrap64 (x7 + 1)))) else (none)) else (interleaveref01_Scan.l0 k x0 x5 x6 x7)
def interleaveref01_Scan.j5 : Nat → ByteArray → List (S27) → Int → Int → Int → Option ((List (S27)) × Int × Int)
  | 0, _, _, _, _, _ => none
  | k + 1, x0, x5, x6, x7, x9 => if (wrap64 (x9 - x7)) > 12 then (some (([] : List (S27)), 2, x6)) else (if 0 ≤ x7 then (if x7 ≤ x9 then (if x9 ≤ (x0.size : Int) then ((interleaveref01_IsKeyword.f k (x0.extract (x7 : Int).toNat (x9 : Int).toNat)).bind fun t187 => (if t187 = true then (if x5.length < 4398046511104 then (interleaveref01_Scan.l0 k x0 (x5 ++ [(⟨3, x0.extract (x7 : Int).toNat (x9 : Int).toNat, x6⟩ : S27)]) x6 x9) else (none)) else (if x5.length < 4398046511104 then (interleaveref01_Scan.l0 k x0 (x5 ++ [(⟨1, x0.extract (x7 : Int).toNat (x9 : Int).toNat, x6⟩ : S27)]) x6 x9) else (none)))) else (none)) else (none)) else (none))
def interleaveref01_Scan.l2 : Nat → ByteArray → List (S27) → Int → Int → Int → Option ((List (S27)) × Int × Int)
  | 0, _, _, _, _, _ => none
  | k + 1, x0, x5, x6, x7, x9 => if x9 < (x0.size : Int) then (if 0 ≤ x9 then ((interleaveref01_inner.f (bt x0 x9)).bind fun t185 => (if t185 = true then (interleaveref01_Scan.l2 k x0 x5 x6 x7 (wrap64 (x9 + 1))) else (interleaveref01_Scan.j5 k x0 x5 x6 x7 x9))) else (none)) else (interleaveref01_Scan.j5 k x0 x5 x6 x7 x9)
def interleaveref01_Scan.j7 : Nat → ByteArray → List (S27) → Int → Int → Int → Option ((List (S27)) × Int × Int)
  | 0, _, _, _, _, _ => none
  | k + 1, x0, x5, x6, x7, x9 => if 0 ≤ x7 then (if x7 ≤ x9 then (if x9 ≤ (x0.size : Int) then ((interleaveref01_Number.f k (x0.extract (x7 : Int).toNat (x9 : Int).toNat)).bind fun bt196 => (if bt196.2 = true then (if x9 < (x0.size : Int) then (if 0 ≤ x9 then ((interleaveref01_inner.f (bt x0 x9)).bind fun t198 => (if t198 = true then (some (([] : List (S27)), 3, x6)) else (if x5.length < 4398046511104 then (interleaveref01_Scan.l0 k x0 (x5 ++ [(⟨2, x0.extract (x7 : Int).toNat (x9 : Int).toNat, x6⟩ : S27)]) x6 x9) else (none)))) else (none)) else (if x5.length < 4398046511104 then (interleaveref01_Scan.l0 k x0 (x5 ++ [(⟨2, x0.extract (x7 : Int).toNat (x9 : Int).toNat, x6⟩ : S27)]) x6 x9) else (none))) else (some (([] : List (S27)), 3, x6)))) else (none)) else (none)) else (none)
def interleaveref01_Scan.l3 : Nat → ByteArray → List (S27) → Int → Int → Int → Option ((List (S27)) × Int × Int)
  | 0, _, _, _, _, _ => none
  | k + 1, x0, x5, x6, x7, x9 => if x9 < (x0.size : Int) then (if 0 ≤ x9 then ((interleaveref01_Digit.f (bt x0 x9)).bind fun t195 => (if t195 = true then (interleaveref01_Scan.l3 k x0 x5 x6 x7 (wrap64 (x9 + 1))) else (interleaveref01_Scan.j7 k x0 x5 x6 x7 x9))) else (none)) else (interleaveref01_Scan.j7 k x0 x5 x6 x7 x9)
end
def interleaveref01_Scan.f (k : Nat) (a0 : ByteArray) : Option ((List (S27)) × Int × Int) := if (a0.size : Int) > 4096 then (some (([] : List (S27)), 2, 0)) else (interleaveref01_Scan.l0 k a0 ([] : List (S27)) 1 0)
theorem interleaveref01_Scan.mono_l : ∀ k, (∀ y0 y1 y2 y3, LeO (interleaveref01_Scan.l0 k y0 y1 y2 y3) (interleaveref01_Scan.l0 (k + 1) y0 y1 y2 y3)) ∧ (∀ y0 y1 y2 y3 y4 y5 y6, LeO (interleaveref01_Scan.j1 k y0 y1 y2 y3 y4 y5 y6) (interleaveref01_Scan.j1 (k + 1) y0 y1 y2 y3 y4 y5 y6)) ∧ (∀ y0 y1 y2 y3 y4 y5 y6, LeO (interleaveref01_Scan.j2 k y0 y1 y2 y3 y4 y5 y6) (interleaveref01_Scan.j2 (k + 1) y0 y1 y2 y3 y4 y5 y6)) ∧ (∀ y0 y1 y2 y3, LeO (interleaveref01_Scan.l1 k y0 y1 y2 y3) (interleaveref01_Scan.l1 (k + 1) y0 y1 y2 y3)) ∧ (∀ y0 y1 y2 y3 y4, LeO (interleaveref01_Scan.j5 k y0 y1 y2 y3 y4) (interleaveref01_Scan.j5 (k + 1) y0 y1 y2 y3 y4)) ∧ (∀ y0 y1 y2 y3 y4, LeO (interleaveref01_Scan.l2 k y0 y1 y2 y3 y4) (interleaveref01_Scan.l2 (k + 1) y0 y1 y2 y3 y4)) ∧ (∀ y0 y1 y2 y3 y4, LeO (interleaveref01_Scan.j7 k y0 y1 y2 y3 y4) (interleaveref01_Scan.j7 (k + 1) y0 y1 y2 y3 y4)) ∧ (∀ y0 y1 y2 y3 y4, LeO (interleaveref01_Scan.l3 k y0 y1 y2 y3 y4) (interleaveref01_Scan.l3 (k + 1) y0 y1 y2 y3 y4))
  | 0 => ⟨fun _ _ _ _ r h => by simp [interleaveref01_Scan.l0] at h, fun _ _ _ _ _ _ _ r h => by simp [interleaveref01_Scan.j1] at h, fun _ _ _ _ _ _ _ r h => by simp [interleaveref01_Scan.j2] at h, fun _ _ _ _ r h => by simp [interleaveref01_Scan.l1] at h, fun _ _ _ _ _ r h => by simp [interleaveref01_Scan.j5] at h, fun _ _ _ _ _ r h => by simp [interleaveref01_Scan.l2] at h, fun _ _ _ _ _ r h => by simp [interleaveref01_Scan.j7] at h, fun _ _ _ _ _ r h => by simp [interleaveref01_Scan.l3] at h⟩
  | k + 1 => by
    obtain ⟨ih0, ih1, ih2, ih3, ih4, ih5, ih6, ih7⟩ := interleaveref01_Scan.mono_l k
    refine ⟨?_, ?_, ?_, ?_, ?_, ?_, ?_, ?_⟩
    · intro y0 y1 y2 y3
      unfold interleaveref01_Scan.l0
      repeat' first
      | (with_reducible exact ih0 _ _ _ _)
      | (with_reducible exact ih1 _ _ _ _ _ _ _)
      | (with_reducible exact ih2 _ _ _ _ _ _ _)
      | (with_reducible exact ih3 _ _ _ _)
      | (with_reducible exact ih4 _ _ _ _ _)
      | (with_reducible exact ih5 _ _ _ _ _)
      | (with_reducible exact ih6 _ _ _ _ _)
      | (with_reducible exact ih7 _ _ _ _ _)
      | (with_reducible exact interleaveref01_IsKeyword.mono _ _)
      | (with_reducible exact interleaveref01_Number.mono _ _)
      | (with_reducible exact interleaveref01_signAt.mono _ _ _)
      | (with_reducible exact LeO.refl _)
      | (with_reducible exact LeO.none _)
      | (with_reducible refine LeO.ite ?_ ?_)
      | (with_reducible refine LeO.bind ?_ (fun _ => ?_))
      | exact ih0 _ _ _ _
      | exact ih1 _ _ _ _ _ _ _
      | exact ih2 _ _ _ _ _ _ _
      | exact ih3 _ _ _ _
      | exact ih4 _ _ _ _ _
      | exact ih5 _ _ _ _ _
      | exact ih6 _ _ _ _ _
      | exact ih7 _ _ _ _ _
      | exact interleaveref01_IsKeyword.mono _ _
      | exact interleaveref01_Number.mono _ _
      | exact interleaveref01_signAt.mono _ _ _
      | exact LeO.none _
      | refine LeO.ite ?_ ?_
      | refine LeO.bind ?_ (fun _ => ?_)
    · intro y0 y1 y2 y3 y4 y5 y6
      unfold interleaveref01_Scan.j1
      repeat' first
      | (with_reducible exact ih0 _ _ _ _)
      | (with_reducible exact ih1 _ _ _ _ _ _ _)
      | (with_reducible exact ih2 _ _ _ _ _ _ _)
      | (with_reducible exact ih3 _ _ _ _)
      | (with_reducible exact ih4 _ _ _ _ _)
      | (with_reducible exact ih5 _ _ _ _ _)
      | (with_reducible exact ih6 _ _ _ _ _)
      | (with_reducible exact ih7 _ _ _ _ _)
      | (with_reducible exact interleaveref01_IsKeyword.mono _ _)
      | (with_reducible exact interleaveref01_Number.mono _ _)
      | (with_reducible exact interleaveref01_signAt.mono _ _ _)
      | (with_reducible exact LeO.refl _)
      | (with_reducible exact LeO.none _)
      | (with_reducible refine LeO.ite ?_ ?_)
      | (with_reducible refine LeO.bind ?_ (fun _ => ?_))
      | exact ih0 _ _ _ _
      | exact ih1 _ _ _ _ _ _ _
      | exact ih2 _ _ _ _ _ _ _
      | exact ih3 _ _ _ _
      | exact ih4 _ _ _ _ _
      | exact ih5 _ _ _ _ _
      | exact ih6 _ _ _ _ _
      | exact ih7 _ _ _ _ _
      | exact interleaveref01_IsKeyword.mono _ _
      | exact interleaveref01_Number.mono _ _
      | exact interleaveref01_signAt.mono _ _ _
      | exact LeO.none _
      | refine LeO.ite ?_ ?_
      | refine LeO.bind ?_ (fun _ => ?_)
    · intro y0 y1 y2 y3 y4 y5 y6
      unfold interleaveref01_Scan.j2
      repeat' first
      | (with_reducible exact ih0 _ _ _ _)
      | (with_reducible exact ih1 _ _ _ _ _ _ _)
      | (with_reducible exact ih2 _ _ _ _ _ _ _)
      | (with_reducible exact ih3 _ _ _ _)
      | (with_reducible exact ih4 _ _ _ _ _)
      | (with_reducible exact ih5 _ _ _ _ _)
      | (with_reducible exact ih6 _ _ _ _ _)
      | (with_reducible exact ih7 _ _ _ _ _)
      | (with_reducible exact interleaveref01_IsKeyword.mono _ _)
      | (with_reducible exact interleaveref01_Number.mono _ _)
      | (with_reducible exact interleaveref01_signAt.mono _ _ _)
      | (with_reducible exact LeO.refl _)
      | (with_reducible exact LeO.none _)
      | (with_reducible refine LeO.ite ?_ ?_)
      | (with_reducible refine LeO.bind ?_ (fun _ => ?_))
      | exact ih0 _ _ _ _
      | exact ih1 _ _ _ _ _ _ _
      | exact ih2 _ _ _ _ _ _ _
      | exact ih3 _ _ _ _
      | exact ih4 _ _ _ _ _
      | exact ih5 _ _ _ _ _
      | exact ih6 _ _ _ _ _
      | exact ih7 _ _ _ _ _
      | exact interleaveref01_IsKeyword.mono _ _
      | exact interleaveref01_Number.mono _ _
      | exact interleaveref01_signAt.mono _ _ _
      | exact LeO.none _
      | refine LeO.ite ?_ ?_
      | refine LeO.bind ?_ (fun _ => ?_)
    · intro y0 y1 y2 y3
      unfold interleaveref01_Scan.l1
      repeat' first
      | (with_reducible exact ih0 _ _ _ _)
      | (with_reducible exact ih1 _ _ _ _ _ _ _)
      | (with_reducible exact ih2 _ _ _ _ _ _ _)
      | (with_reducible exact ih3 _ _ _ _)
      | (with_reducible exact ih4 _ _ _ _ _)
      | (with_reducible exact ih5 _ _ _ _ _)
      | (with_reducible exact ih6 _ _ _ _ _)
      | (with_reducible exact ih7 _ _ _ _ _)
      | (with_reducible exact interleaveref01_IsKeyword.mono _ _)
      | (with_reducible exact interleaveref01_Number.mono _ _)
      | (with_reducible exact interleaveref01_signAt.mono _ _ _)
      | (with_reducible exact LeO.refl _)
      | (with_reducible exact LeO.none _)
      | (with_reducible refine LeO.ite ?_ ?_)
      | (with_reducible refine LeO.bind ?_ (fun _ => ?_))
      | exact ih0 _ _ _ _
      | exact ih1 _ _ _ _ _ _ _
      | exact ih2 _ _ _ _ _ _ _
      | exact ih3 _ _ _ _
      | exact ih4 _ _ _ _ _
      | exact ih5 _ _ _ _ _
      | exact ih6 _ _ _ _ _
      | exact ih7 _ _ _ _ _
      | exact interleaveref01_IsKeyword.mono _ _
      | exact interleaveref01_Number.mono _ _
      | exact interleaveref01_signAt.mono _ _ _
      | exact LeO.none _
      | refine LeO.ite ?_ ?_
      | refine LeO.bind ?_ (fun _ => ?_)
    · intro y0 y1 y2 y3 y4
      unfold interleaveref01_Scan.j5
      repeat' first
      | (with_reducible exact ih0 _ _ _ _)
      | (with_reducible exact ih1 _ _ _ _ _ _ _)
      | (with_reducible exact ih2 _ _ _ _ _ _ _)
      | (with_reducible exact ih3 _ _ _ _)
      | (with_reducible exact ih4 _ _ _ _ _)
      | (with_reducible exact ih5 _ _ _ _ _)
      | (with_reducible exact ih6 _ _ _ _ _)
      | (with_reducible exact ih7 _ _ _ _ _)
      | (with_reducible exact interleaveref01_IsKeyword.mono _ _)
      | (with_reducible exact interleaveref01_Number.mono _ _)
      | (with_reducible exact interleaveref01_signAt.mono _ _ _)
      | (with_reducible exact LeO.refl _)
      | (with_reducible exact LeO.none _)
      | (with_reducible refine LeO.ite ?_ ?_)
      | (with_reducible refine LeO.bind ?_ (fun _ => ?_))
      | exact ih0 _ _ _ _
      | exact ih1 _ _ _ _ _ _ _
      | exact ih2 _ _ _ _ _ _ _
      | exact ih3 _ _ _ _
      | exact ih4 _ _ _ _ _
      | exact ih5 _ _ _ _ _
      | exact ih6 _ _ _ _ _
      | exact ih7 _ _ _ _ _
      | exact interleaveref01_IsKeyword.mono _ _
      | exact interleaveref01_Number.mono _ _
      | exact interleaveref01_signAt.mono _ _ _
      | exact LeO.none _
      | refine LeO.ite ?_ ?_
      | refine LeO.bind ?_ (fun _ => ?_)
    · intro y0 y1 y2 y3 y4
      unfold interleaveref01_Scan.l2
      repeat' first
      | (with_reducible exact ih0 _ _ _ _)
      | (with_reducible exact ih1 _ _ _ _ _ _ _)
      | (with_reducible exact ih2 _ _ _ _ _ _ _)
      | (with_reducible exact ih3 _ _ _ _)
      | (with_reducible exact ih4 _ _ _ _ _)
      | (with_reducible exact ih5 _ _ _ _ _)
      | (with_reducible exact ih6 _ _ _ _ _)
      | (with_reducible exact ih7 _ _ _ _ _)
      | (with_reducible exact interleaveref01_IsKeyword.mono _ _)
      | (with_reducible exact interleaveref01_Number.mono _ _)
      | (with_reducible exact interleaveref01_signAt.mono _ _ _)
      | (with_reducible exact LeO.refl _)
      | (with_reducible exact LeO.none _)
      | (with_reducible refine LeO.ite ?_ ?_)
      | (with_reducible refine LeO.bind ?_ (fun _ => ?_))
      | exact ih0 _ _ _ _
      | exact ih1 _ _ _ _ _ _ _
      | exact ih2 _ _ _ _ _ _ _
      | exact ih3 _ _ _ _
      | exact ih4 _ _ _ _ _
      | exact ih5 _ _ _ _ _
      | exact ih6 _ _ _ _ _
      | exact ih7 _ _ _ _ _
      | exact interleaveref01_IsKeyword.mono _ _
      | exact interleaveref01_Number.mono _ _
      | exact interleaveref01_signAt.mono _ _ _
      | exact LeO.none _
      | refine LeO.ite ?_ ?_
      | refine LeO.bind ?_ (fun _ => ?_)
    · intro y0 y1 y2 y3 y4
      unfold interleaveref01_Scan.j7
      repeat' first
      | (with_reducible exact ih0 _ _ _ _)
      | (with_reducible exact ih1 _ _ _ _ _ _ _)
      | (with_reducible exact ih2 _ _ _ _ _ _ _)
      | (with_reducible exact ih3 _ _ _ _)
      | (with_reducible exact ih4 _ _ _ _ _)
      | (with_reducible exact ih5 _ _ _ _ _)
      | (with_reducible exact ih6 _ _ _ _ _)
      | (with_reducible exact ih7 _ _ _ _ _)
      | (with_reducible exact interleaveref01_IsKeyword.mono _ _)
      | (with_reducible exact interleaveref01_Number.mono _ _)
      | (with_reducible exact interleaveref01_signAt.mono _ _ _)
      | (with_reducible exact LeO.refl _)
      | (with_reducible exact LeO.none _)
      | (with_reducible refine LeO.ite ?_ ?_)
      | (with_reducible refine LeO.bind ?_ (fun _ => ?_))
      | exact ih0 _ _ _ _
      | exact ih1 _ _ _ _ _ _ _
      | exact ih2 _ _ _ _ _ _ _
      | exact ih3 _ _ _ _
      | exact ih4 _ _ _ _ _
      | exact ih5 _ _ _ _ _
      | exact ih6 _ _ _ _ _
      | exact ih7 _ _ _ _ _
      | exact interleaveref01_IsKeyword.mono _ _
      | exact interleaveref01_Number.mono _ _
      | exact interleaveref01_signAt.mono _ _ _
      | exact LeO.none _
      | refine LeO.ite ?_ ?_
      | refine LeO.bind ?_ (fun _ => ?_)
    · intro y0 y1 y2 y3 y4
      unfold interleaveref01_Scan.l3
      repeat' first
      | (with_reducible exact ih0 _ _ _ _)
      | (with_reducible exact ih1 _ _ _ _ _ _ _)
      | (with_reducible exact ih2 _ _ _ _ _ _ _)
      | (with_reducible exact ih3 _ _ _ _)
      | (with_reducible exact ih4 _ _ _ _ _)
      | (with_reducible exact ih5 _ _ _ _ _)
      | (with_reducible exact ih6 _ _ _ _ _)
      | (with_reducible exact ih7 _ _ _ _ _)
      | (with_reducible exact interleaveref01_IsKeyword.mono _ _)
      | (with_reducible exact interleaveref01_Number.mono _ _)
      | (with_reducible exact interleaveref01_signAt.mono _ _ _)
      | (with_reducible exact LeO.refl _)
      | (with_reducible exact LeO.none _)
      | (with_reducible refine LeO.ite ?_ ?_)
      | (with_reducible refine LeO.bind ?_ (fun _ => ?_))
      | exact ih0 _ _ _ _
      | exact ih1 _ _ _ _ _ _ _
      | exact ih2 _ _ _ _ _ _ _
      | exact ih3 _ _ _ _
      | exact ih4 _ _ _ _ _
      | exact ih5 _ _ _ _ _
      | exact ih6 _ _ _ _ _
      | exact ih7 _ _ _ _ _
      | exact interleaveref01_IsKeyword.mono _ _
      | exact interleaveref01_Number.mono _ _
      | exact interleaveref01_signAt.mono _ _ _
      | exact LeO.none _
      | refine LeO.ite ?_ ?_
      | refine LeO.bind ?_ (fun _ => ?_)
theorem interleaveref01_Scan.mono : ∀ a0 k, LeO (interleaveref01_Scan.f k a0) (interleaveref01_Scan.f (k + 1) a0) := by
  intro a0 k
  obtain ⟨ih0, ih1, ih2, ih3, ih4, ih5, ih6, ih7⟩ := interleaveref01_Scan.mono_l k
  unfold interleaveref01_Scan.f
  repeat' first
      | (with_reducible exact ih0 _ _ _ _)
      | (with_reducible exact ih1 _ _ _ _ _ _ _)
      | (with_reducible exact ih2 _ _ _ _ _ _ _)
      | (with_reducible exact ih3 _ _ _ _)
      | (with_reducible exact ih4 _ _ _ _ _)
      | (with_reducible exact ih5 _ _ _ _ _)
      | (with_reducible exact ih6 _ _ _ _ _)
      | (with_reducible exact ih7 _ _ _ _ _)
      | (with_reducible exact interleaveref01_IsKeyword.mono _ _)
      | (with_reducible exact interleaveref01_Number.mono _ _)
      | (with_reducible exact interleaveref01_signAt.mono _ _ _)
      | (with_reducible exact LeO.refl _)
      | (with_reducible exact LeO.none _)
      | (with_reducible refine LeO.ite ?_ ?_)
      | (with_reducible refine LeO.bind ?_ (fun _ => ?_))
      | exact ih0 _ _ _ _
      | exact ih1 _ _ _ _ _ _ _
      | exact ih2 _ _ _ _ _ _ _
      | exact ih3 _ _ _ _
      | exact ih4 _ _ _ _ _
      | exact ih5 _ _ _ _ _
      | exact ih6 _ _ _ _ _
      | exact ih7 _ _ _ _ _
      | exact interleaveref01_IsKeyword.mono _ _
      | exact interleaveref01_Number.mono _ _
      | exact interleaveref01_signAt.mono _ _ _
      | exact LeO.none _
      | refine LeO.ite ?_ ?_
      | refine LeO.bind ?_ (fun _ => ?_)
set_option maxHeartbeats 8000000 in
set_option maxRecDepth 100000 in
theorem interleaveref01_Scan.calls (k : Nat) (a0 : ByteArray) (r1 : List (S27)) (r2 : Int) (r3 : Int) (w : World) (h : interleaveref01_Scan.f k a0 = some (r1, r2, r3)) :
    Calls Tryd.prog 12 #[.string a0] w fun e w' => ∃ v0_ : Value, e = .returned (.tuple #[v0_, .int .i64 r2, .int .i64 r3]) ∧ Kd.R k27 27 w' w.heap.size (fun _ => True) v0_ r1 ∧ Below w.heap.size w w' := by
  have hu27 := Tryd.underlying27
  have HB := Aside0.mk (Below.refl w.heap.size w)
  have H : (if (a0.size : Int) > 4096 then (some (([] : List (S27)), 2, 0)) else (interleaveref01_Scan.l0 k a0 ([] : List (S27)) 1 0)) = some (r1, r2, r3) := h
  clear h
  by_cases c2 : (a0.size : Int) > 4096
  · rw [if_pos c2] at H
    have c2b0 : decide (4096 < (a0.size : Int)) = true := decide_eq_true c2
    have c2b1 : decide (4096 < a0.size) = true := decide_eq_true (by omega)
    clear c2
    simp only [Option.some.injEq, Prod.mk.injEq] at H
    obtain ⟨rfl, rfl, rfl⟩ := H
    go_enter Tryd.func12, Tryd.ntmps12
    go_wp2
    go_ret3
    exact ⟨_, by first | rfl | (simp [errW_none, errW_some] <;> rfl) | (simp [*, errW_none, errW_some] <;> rfl), by first | exact Kd.R_nil _ _ _ _ _ | exact Kd.N_nil _ _ _ _ _ | exact Kd.V_nil _ _ _ _ _ | exact Kd.Q_nil _ _ _ _ _ | exact Kd.S_nil _ _ _ _ _, by repeat (first | (with_reducible first | exact HB.out | apply below_alloc | apply pw_below_drewN | apply below_drew1) | exact HB.out)⟩
  · rw [if_neg c2] at H
    have c2b0 : decide (4096 < (a0.size : Int)) = false := decide_eq_false c2
    have c2b1 : decide (4096 < a0.size) = false := decide_eq_false (by omega)
    clear c2
    have H' := Aside0.mk H
    clear H
    go_enter Tryd.func12, Tryd.ntmps12
    go_wp2
    go_loopg [5, 6, 7] k (fun kq v5 v6 v7 w' => ∃ (x5_1 : List (S27)) (x6_1 : Int) (x7_1 : Int), v6 = .int .i64 x6_1 ∧ v7 = .int .i64 x7_1 ∧ Aside0 (interleaveref01_Scan.l0 kq a0 x5_1 x6_1 x7_1 = some (r1, r2, r3)) ∧ Aside0 (kq ≤ k) ∧ Aside0 (Kd.R k27 27 w' w.heap.size (fun _ => True) v5 x5_1) ∧ Aside0 (Below w.heap.size w w'))
    case atStart => exact ⟨(([] : List (S27))), (1), (0), (by first | rfl | (simp; done) | (simp [*]; done)), (by first | rfl | (simp; done) | (simp [*]; done)), H', ⟨Nat.le_refl _⟩, ⟨by first | exact Kd.R_nil _ _ _ _ _ | exact Kd.N_nil _ _ _ _ _ | exact Kd.V_nil _ _ _ _ _ | exact Kd.Q_nil _ _ _ _ _ | exact Kd.S_nil _ _ _ _ _⟩, ⟨by repeat (first | (with_reducible first | exact HB.out | apply below_alloc | apply pw_below_drewN | apply below_drew1) | exact HB.out)⟩⟩
    case round => as_aux_lemma =>
      clear H'
      try clear c1
      try clear c2
      try clear c2b0
      try clear c2b1
      try clear p2
      obtain ⟨x5_1, x6_1, x7_1, rfl, rfl, HA, HK1, HO_5, HB⟩ := hrel
      cases gk with
      | zero => exact absurd HA.out (by simp [interleaveref01_Scan.l0])
      | succ k1 =>
        have H := HA.out
        clear HA
        simp only [interleaveref01_Scan.l0] at H
        by_cases c3 : x7_1 < (a0.size : Int)
        · rw [if_pos c3] at H
          have c3b0 : decide (x7_1 < (a0.size : Int)) = true := decide_eq_true c3
          clear c3
          by_cases c4 : 0 ≤ x7_1
          · rw [if_pos c4] at H
            have c4b0 : decide (0 ≤ x7_1) = true := decide_eq_true c4
            clear c4
            have HC6 := Aside0.mk H
            clear H
            have p5 : 0 ≤ (x7_1 : Int) := of_decide_eq_true (by first | (with_reducible assumption) | assumption)
            have q5 : x7_1 < (a0.size : Int) := of_decide_eq_true (by first | (with_reducible assumption) | assumption)
            have hx5 := bt_at a0 x7_1
            replace p5 := eq_true p5
            replace q5 := eq_true q5
            go_upto_region 14 with (fail)
            go_cut [41] (fun v41 wc => ∃ (kq : Nat) (x41_5 : Bool), v41 = .bool x41_5 ∧ Aside0 (interleaveref01_Scan.j1 kq a0 x5_1 x6_1 x7_1 (bt a0 x7_1) x7_1 x41_5 = some (r1, r2, r3)) ∧ Aside0 (kq ≤ k1) ∧ Aside0 (Kd.R k27 27 wc w.heap.size (fun _ => True) u5 x5_1) ∧ Aside0 (Below w.heap.size w wc))
            case first => as_aux_lemma =>
              have H := HC6.out
              clear HC6
              by_cases c7 : (bt a0 x7_1) = 32
              · rw [if_pos c7] at H
                have c7b0 : ((bt a0 x7_1) == 32) = true := beq_iff_eq.mpr c7
                have c7b1 : ((bt a0 x7_1) != 32) = false := bne_eq_false_iff_eq.mpr c7
                clear c7
                (first | rw [c7b0] | (simp only [i64_w, i32_w]; rw [c7b0]) | skip)
                have H' := Aside0.mk H
                clear H
                go_wp2
                go_meet
                case rel => exact ⟨_, (true), (by first | rfl | (simp; done) | (simp [*]; done)), H', ⟨by have := HK1.out; first | omega | exact Nat.le_refl _⟩, ⟨by (with_reducible repeat (first | apply Kd.R_alloc | apply Kd.R_drewN | apply Kd.R_drew)); exact HO_5.out⟩, ⟨by repeat (first | (with_reducible first | exact HB.out | apply below_alloc | apply pw_below_drewN | apply below_drew1) | exact HB.out)⟩⟩
              · rw [if_neg c7] at H
                have c7b0 : ((bt a0 x7_1) == 32) = false := beq_eq_false_iff_ne.mpr c7
                have c7b1 : ((bt a0 x7_1) != 32) = true := bne_iff_ne.mpr c7
                (first | rw [c7b0] | (simp only [i64_w, i32_w]; rw [c7b0]) | skip)
                by_cases c8 : (bt a0 x7_1) = 9
                · rw [if_pos c8] at H
                  have c8b0 : ((bt a0 x7_1) == 9) = true := beq_iff_eq.mpr c8
                  have c8b1 : ((bt a0 x7_1) != 9) = false := bne_eq_false_iff_eq.mpr c8
                  clear c8
                  have H' := Aside0.mk H
                  clear H
                  go_wp2
                  go_meet
                  case rel => exact ⟨_, (true), (by first | rfl | (simp; done) | (simp [*]; done)), H', ⟨by have := HK1.out; first | omega | exact Nat.le_refl _⟩, ⟨by (with_reducible repeat (first | apply Kd.R_alloc | apply Kd.R_drewN | apply Kd.R_drew)); exact HO_5.out⟩, ⟨by repeat (first | (with_reducible first | exact HB.out | apply below_alloc | apply pw_below_drewN | apply below_drew1) | exact HB.out)⟩⟩
                · rw [if_neg c8] at H
                  have c8b0 : ((bt a0 x7_1) == 9) = false := beq_eq_false_iff_ne.mpr c8
                  have c8b1 : ((bt a0 x7_1) != 9) = true := bne_iff_ne.mpr c8
                  by_cases c9 : (bt a0 x7_1) = 13
                  · rw [if_pos c9] at H
                    have c9b0 : ((bt a0 x7_1) == 13) = true := beq_iff_eq.mpr c9
                    have c9b1 : ((bt a0 x7_1) != 13) = false := bne_eq_false_iff_eq.mpr c9
                    clear c9
                    have H' := Aside0.mk H
                    clear H
                    go_wp2
                    go_meet
                    case rel => exact ⟨_, (true), (by first | rfl | (simp; done) | (simp [*]; done)), H', ⟨by have := HK1.out; first | omega | exact Nat.le_refl _⟩, ⟨by (with_reducible repeat (first | apply Kd.R_alloc | apply Kd.R_drewN | apply Kd.R_drew)); exact HO_5.out⟩, ⟨by repeat (first | (with_reducible first | exact HB.out | apply below_alloc | apply pw_below_drewN | apply below_drew1) | exact HB.out)⟩⟩
                  · rw [if_neg c9] at H
                    have c9b0 : ((bt a0 x7_1) == 13) = false := beq_eq_false_iff_ne.mpr c9
                    have c9b1 : ((bt a0 x7_1) != 13) = true := bne_iff_ne.mpr c9
                    have H' := Aside0.mk H
                    clear H
                    go_wp2
                    go_meet
                    case rel => exact ⟨_, (((bt a0 x7_1) == 10)), (by first | rfl | (simp; done) | (simp [*]; done)), H', ⟨by have := HK1.out; first | omega | exact Nat.le_refl _⟩, ⟨by (with_reducible repeat (first | apply Kd.R_alloc | apply Kd.R_drewN | apply Kd.R_drew)); exact HO_5.out⟩, ⟨by repeat (first | (with_reducible first | exact HB.out | apply below_alloc | apply pw_below_drewN | apply below_drew1) | exact HB.out)⟩⟩
            case rest => as_aux_lemma =>
              clear HC6
              try clear c1
              try clear c2
              try clear c2b0
              try clear c2b1
              try clear p2
              try clear c3
              try clear c3b0
              try clear c4
              try clear c4b0
              try clear p5
              try clear q5
              try clear hx5
              try clear c7
              try clear c7b0
              try clear c7b1
              try clear c8
              try clear c8b0
              try clear c8b1
              try clear c9
              try clear c9b0
              try clear c9b1
              try clear p2
              try clear p5
              try clear q5
              obtain ⟨kq, x41_5, rfl, HA, HJ5, HO_5, HB⟩ := hcut
              cases kq with
              | zero => exact absurd HA.out (by simp [interleaveref01_Scan.j1])
              | succ kj5 =>
                have H := HA.out
                clear HA
                simp only [interleaveref01_Scan.j1] at H
                by_cases c10 : x41_5 = true
                · subst c10
                  have H1 : (if (bt a0 x7_1) = 10 then (interleaveref01_Scan.l0 kj5 a0 x5_1 (wrap64 (x6_1 + 1)) (wrap64 (x7_1 + 1))) else (interleaveref01_Scan.l0 kj5 a0 x5_1 x6_1 (wrap64 (x7_1 + 1)))) = some (r1, r2, r3) := by rw [if_pos rfl] at H; exact H
                  clear H
                  have H := H1
                  clear H1
                  by_cases c11 : (bt a0 x7_1) = 10
                  · rw [if_pos c11] at H
                    have c11b0 : ((bt a0 x7_1) == 10) = true := beq_iff_eq.mpr c11
                    have c11b1 : ((bt a0 x7_1) != 10) = false := bne_eq_false_iff_eq.mpr c11
                    clear c11
                    have H' := Aside0.mk H
                    clear H
                    go_wp2
                    go_roundg kj5
                    case measure => have := HK1.out; have := HJ5.out; omega
                    case rel => exact ⟨(x5_1), (wrap64 (x6_1 + 1)), (wrap64 (x7_1 + 1)), (by first | rfl | (simp; done) | (simp [*]; done)), (by first | rfl | (simp; done) | (simp [*]; done)), H', ⟨by have := HK1.out; have := HJ5.out; omega⟩, ⟨by (with_reducible repeat (first | apply Kd.R_alloc | apply Kd.R_drewN | apply Kd.R_drew)); exact HO_5.out⟩, ⟨by repeat (first | (with_reducible first | exact HB.out | apply below_alloc | apply pw_below_drewN | apply below_drew1) | exact HB.out)⟩⟩
                  · rw [if_neg c11] at H
                    have c11b0 : ((bt a0 x7_1) == 10) = false := beq_eq_false_iff_ne.mpr c11
                    have c11b1 : ((bt a0 x7_1) != 10) = true := bne_iff_ne.mpr c11
                    have H' := Aside0.mk H
                    clear H
                    go_wp2
                    go_roundg kj5
                    case measure => have := HK1.out; have := HJ5.out; omega
                    case rel => exact ⟨(x5_1), (x6_1), (wrap64 (x7_1 + 1)), (by first | rfl | (simp; done) | (simp [*]; done)), (by first | rfl | (simp; done) | (simp [*]; done)), H', ⟨by have := HK1.out; have := HJ5.out; omega⟩, ⟨by (with_reducible repeat (first | apply Kd.R_alloc | apply Kd.R_drewN | apply Kd.R_drew)); exact HO_5.out⟩, ⟨by repeat (first | (with_reducible first | exact HB.out | apply below_alloc | apply pw_below_drewN | apply below_drew1) | exact HB.out)⟩⟩
                · replace c10 := Bool.eq_false_iff.mpr c10
                  subst c10
                  have H1 : (if (bt a0 x7_1) = 47 then (if (wrap64 (x7_1 + 1)) < (a0.size : Int) then (if 0 ≤ (wrap64 (x7_1 + 1)) then (interleaveref01_Scan.j2 kj5 a0 x5_1 x6_1 x7_1 (bt a0 x7_1) x7_1 ((bt a0 (wrap64 (x7_1 + 1))) == 47)) else (none)) else (interleaveref01_Scan.j2 kj5 a0 x5_1 x6_1 x7_1 (bt a0 x7_1) x7_1 false)) else (interleaveref01_Scan.j2 kj5 a0 x5_1 x6_1 x7_1 (bt a0 x7_1) x7_1 false)) = some (r1, r2, r3) := by rw [if_neg (show ¬ (false = true) by decide)] at H; exact H
                  clear H
                  have H := H1
                  clear H1
                  have HC12 := Aside0.mk H
                  clear H
                  go_upto_region 18 with (fail)
                  go_cut [62] (fun v62 wc => ∃ (kq : Nat) (x62_11 : Bool), v62 = .bool x62_11 ∧ Aside0 (interleaveref01_Scan.j2 kq a0 x5_1 x6_1 x7_1 (bt a0 x7_1) x7_1 x62_11 = some (r1, r2, r3)) ∧ Aside0 (kq ≤ kj5) ∧ Aside0 (Kd.R k27 27 wc w.heap.size (fun _ => True) u5 x5_1) ∧ Aside0 (Below w.heap.size w wc))
                  case first => as_aux_lemma =>
                    have H := HC12.out
                    clear HC12
                    by_cases c13 : (bt a0 x7_1) = 47
                    · rw [if_pos c13] at H
                      have c13b0 : ((bt a0 x7_1) == 47) = true := beq_iff_eq.mpr c13
                      have c13b1 : ((bt a0 x7_1) != 47) = false := bne_eq_false_iff_eq.mpr c13
                      clear c13
                      (first | rw [c13b0] | (simp only [i64_w, i32_w]; rw [c13b0]) | skip)
                      by_cases c14 : (wrap64 (x7_1 + 1)) < (a0.size : Int)
                      · rw [if_pos c14] at H
                        have c14b0 : decide ((wrap64 (x7_1 + 1)) < (a0.size : Int)) = true := decide_eq_true c14
                        clear c14
                        obtain ⟨ji15, hji15⟩ : ∃ j_ : Int, (wrap64 (x7_1 + 1)) = j_ := ⟨_, rfl⟩
                        replace H : (if 0 ≤ (ji15) then (interleaveref01_Scan.j2 kj5 a0 x5_1 x6_1 x7_1 (bt a0 x7_1) x7_1 ((bt a0 (ji15)) == 47)) else (none)) = some (r1, r2, r3) := by first | (rw [hji15] at H; exact H) | (simp only [hji15] at H ⊢; exact H)
                        (try rw [hji15] at c14b0)
                        have hji15w : (IntKind.i64.wrap (x7_1 + 1)) = ji15 := (i64_w _).trans hji15
                        by_cases c16 : 0 ≤ (ji15)
                        · rw [if_pos c16] at H
                          have c16b0 : decide (0 ≤ (ji15)) = true := decide_eq_true c16
                          clear c16
                          have H' := Aside0.mk H
                          clear H
                          have p17 : 0 ≤ ((ji15) : Int) := of_decide_eq_true (by first | (with_reducible assumption) | assumption)
                          have q17 : (ji15) < (a0.size : Int) := of_decide_eq_true (by first | (with_reducible assumption) | assumption)
                          have hx17 := bt_at a0 (ji15)
                          replace p17 := eq_true p17
                          replace q17 := eq_true q17
                          go_wp2
                          go_meet
                          case rel => exact ⟨_, (((bt a0 (ji15)) == 47)), (by first | rfl | (simp; done) | (simp only [← hji15] <;> (first | rfl | simp)) | (simp [*]; done)), H', ⟨by have := HK1.out; have := HJ5.out; first | omega | exact Nat.le_refl _⟩, ⟨by (with_reducible repeat (first | apply Kd.R_alloc | apply Kd.R_drewN | apply Kd.R_drew)); exact HO_5.out⟩, ⟨by repeat (first | (with_reducible first | exact HB.out | apply below_alloc | apply pw_below_drewN | apply below_drew1) | exact HB.out)⟩⟩
                        · rw [if_neg c16] at H
                          exact absurd H (by simp)
                      · rw [if_neg c14] at H
                        have c14b0 : decide ((wrap64 (x7_1 + 1)) < (a0.size : Int)) = false := decide_eq_false c14
                        clear c14
                        have H' := Aside0.mk H
                        clear H
                        go_wp2
                        go_meet
                        case rel => exact ⟨_, (false), (by first | rfl | (simp; done) | (simp [*]; done)), H', ⟨by have := HK1.out; have := HJ5.out; first | omega | exact Nat.le_refl _⟩, ⟨by (with_reducible repeat (first | apply Kd.R_alloc | apply Kd.R_drewN | apply Kd.R_drew)); exact HO_5.out⟩, ⟨by repeat (first | (with_reducible first | exact HB.out | apply below_alloc | apply pw_below_drewN | apply below_drew1) | exact HB.out)⟩⟩
                    · rw [if_neg c13] at H
                      have c13b0 : ((bt a0 x7_1) == 47) = false := beq_eq_false_iff_ne.mpr c13
                      have c13b1 : ((bt a0 x7_1) != 47) = true := bne_iff_ne.mpr c13
                      (first | rw [c13b0] | (simp only [i64_w, i32_w]; rw [c13b0]) | skip)
                      have H' := Aside0.mk H
                      clear H
                      go_wp2
                      go_meet
                      case rel => exact ⟨_, (false), (by first | rfl | (simp; done) | (simp [*]; done)), H', ⟨by have := HK1.out; have := HJ5.out; first | omega | exact Nat.le_refl _⟩, ⟨by (with_reducible repeat (first | apply Kd.R_alloc | apply Kd.R_drewN | apply Kd.R_drew)); exact HO_5.out⟩, ⟨by repeat (first | (with_reducible first | exact HB.out | apply below_alloc | apply pw_below_drewN | apply below_drew1) | exact HB.out)⟩⟩
                  case rest => as_aux_lemma =>
                    clear HC12
                    try clear c1
                    try clear p1
                    try clear q1
                    try clear hx1
                    try clear c2
                    try clear c2b0
                    try clear c2b1
                    try clear p2
                    try clear c3
                    try clear c3b0
                    try clear c4
                    try clear c4b0
                    try clear p5
                    try clear q5
                    try clear hx5
                    try clear p6
                    try clear c7
                    try clear c7b0
                    try clear c7b1
                    try clear c8
                    try clear c8b0
                    try clear c8b1
                    try clear c9
                    try clear c9b0
                    try clear c9b1
                    try clear c10
                    try clear c11
                    try clear c11b0
                    try clear c11b1
                    try clear c12
                    try clear c13
                    try clear c13b0
                    try clear c13b1
                    try clear c14
                    try clear c14b0
                    try clear c16
                    try clear c16b0
                    try clear p17
                    try clear q17
                    try clear hx17
                    try clear p17
                    try clear p2
                    try clear p5
                    try clear q17
                    try clear q5
                    obtain ⟨kq, x62_11, rfl, HA, HJ11, HO_5, HB⟩ := hcut
                    cases kq with
                    | zero => exact absurd HA.out (by simp [interleaveref01_Scan.j2])
                    | succ kj11 =>
                      have H := HA.out
                      clear HA
                      simp only [interleaveref01_Scan.j2] at H
                      by_cases c18 : x62_11 = true
                      · subst c18
                        have H1 : (interleaveref01_Scan.l1 kj11 a0 x5_1 x6_1 x7_1) = some (r1, r2, r3) := by rw [if_pos rfl] at H; exact H
                        clear H
                        have H := H1
                        clear H1
                        have H' := Aside0.mk H
                        clear H
                        go_wp2
                        go_loopg [7] kj11 (fun kq v7 w' => ∃ (x7_4 : Int), v7 = .int .i64 x7_4 ∧ Aside0 (interleaveref01_Scan.l1 kq a0 x5_1 x6_1 x7_4 = some (r1, r2, r3)) ∧ Aside0 (kq ≤ kj11) ∧ Aside0 (Kd.R k27 27 w' w.heap.size (fun _ => True) u5 x5_1) ∧ Aside0 (Below w.heap.size w w'))
                        case atStart => exact ⟨(x7_1), (by first | rfl | (simp; done) | (simp [*]; done)), H', ⟨Nat.le_refl _⟩, ⟨by (with_reducible repeat (first | apply Kd.R_alloc | apply Kd.R_drewN | apply Kd.R_drew)); exact HO_5.out⟩, ⟨by repeat (first | (with_reducible first | exact HB.out | apply below_alloc | apply pw_below_drewN | apply below_drew1) | exact HB.out)⟩⟩
                        case round => as_aux_lemma =>
                          clear H'
                          try clear c1
                          try clear p1
                          try clear q1
                          try clear hx1
                          try clear c2
                          try clear c2b0
                          try clear c2b1
                          try clear p2
                          try clear c3
                          try clear c3b0
                          try clear c4
                          try clear c4b0
                          try clear p5
                          try clear q5
                          try clear hx5
                          try clear p6
                          try clear c7
                          try clear c7b0
                          try clear c7b1
                          try clear c8
                          try clear c8b0
                          try clear c8b1
                          try clear c9
                          try clear c9b0
                          try clear c9b1
                          try clear c10
                          try clear c11
                          try clear c11b0
                          try clear c11b1
                          try clear c12
                          try clear c13
                          try clear c13b0
                          try clear c13b1
                          try clear c14
                          try clear c14b0
                          try clear c16
                          try clear c16b0
                          try clear p17
                          try clear q17
                          try clear hx17
                          try clear c18
                          try clear p1
                          try clear p17
                          try clear p2
                          try clear p5
                          try clear p6
                          try clear q1
                          try clear q17
                          try clear q5
                          obtain ⟨x7_4, rfl, HA, HK4, HO_5, HB⟩ := hrel
                          cases gk with
                          | zero => exact absurd HA.out (by simp [interleaveref01_Scan.l1])
                          | succ k4 =>
                            have H := HA.out
                            clear HA
                            simp only [interleaveref01_Scan.l1] at H
                            by_cases c19 : x7_4 < (a0.size : Int)
                            · rw [if_pos c19] at H
                              have c19b0 : decide (x7_4 < (a0.size : Int)) = true := decide_eq_true c19
                              clear c19
                              by_cases c20 : 0 ≤ x7_4
                              · rw [if_pos c20] at H
                                have c20b0 : decide (0 ≤ x7_4) = true := decide_eq_true c20
                                clear c20
                                by_cases c22 : (bt a0 x7_4) = 10
                                · rw [if_pos c22] at H
                                  have c22b0 : ((bt a0 x7_4) == 10) = true := beq_iff_eq.mpr c22
                                  have c22b1 : ((bt a0 x7_4) != 10) = false := bne_eq_false_iff_eq.mpr c22
                                  clear c22
                                  have H' := Aside0.mk H
                                  clear H
                                  have p21 : 0 ≤ (x7_4 : Int) := of_decide_eq_true (by first | (with_reducible assumption) | assumption)
                                  have q21 : x7_4 < (a0.size : Int) := of_decide_eq_true (by first | (with_reducible assumption) | assumption)
                                  have hx21 := bt_at a0 x7_4
                                  replace p21 := eq_true p21
                                  replace q21 := eq_true q21
                                  go_wp2
                                  go_roundg k4
                                  case measure => have := HK1.out; have := HJ5.out; have := HJ11.out; have := HK4.out; omega
                                  case rel => exact ⟨(x5_1), (x6_1), (x7_4), (by first | rfl | (simp; done) | (simp [*]; done)), (by first | rfl | (simp; done) | (simp [*]; done)), H', ⟨by have := HK1.out; have := HJ5.out; have := HJ11.out; have := HK4.out; omega⟩, ⟨by (with_reducible repeat (first | apply Kd.R_alloc | apply Kd.R_drewN | apply Kd.R_drew)); exact HO_5.out⟩, ⟨by repeat (first | (with_reducible first | exact HB.out | apply below_alloc | apply pw_below_drewN | apply below_drew1) | exact HB.out)⟩⟩
                                · rw [if_neg c22] at H
                                  have c22b0 : ((bt a0 x7_4) == 10) = false := beq_eq_false_iff_ne.mpr c22
                                  have c22b1 : ((bt a0 x7_4) != 10) = true := bne_iff_ne.mpr c22
                                  have H' := Aside0.mk H
                                  clear H
                                  have p21 : 0 ≤ (x7_4 : Int) := of_decide_eq_true (by first | (with_reducible assumption) | assumption)
                                  have q21 : x7_4 < (a0.size : Int) := of_decide_eq_true (by first | (with_reducible assumption) | assumption)
                                  have hx21 := bt_at a0 x7_4
                                  replace p21 := eq_true p21
                                  replace q21 := eq_true q21
                                  go_wp2
                                  go_roundg k4
                                  case measure => have := HK1.out; have := HJ5.out; have := HJ11.out; have := HK4.out; omega
                                  case rel => exact ⟨(wrap64 (x7_4 + 1)), (by first | rfl | (simp; done) | (simp [*]; done)), H', ⟨by have := HK1.out; have := HJ5.out; have := HJ11.out; have := HK4.out; omega⟩, ⟨by (with_reducible repeat (first | apply Kd.R_alloc | apply Kd.R_drewN | apply Kd.R_drew)); exact HO_5.out⟩, ⟨by repeat (first | (with_reducible first | exact HB.out | apply below_alloc | apply pw_below_drewN | apply below_drew1) | exact HB.out)⟩⟩
                              · rw [if_neg c20] at H
                                exact absurd H (by simp)
                            · rw [if_neg c19] at H
                              have c19b0 : decide (x7_4 < (a0.size : Int)) = false := decide_eq_false c19
                              clear c19
                              have H' := Aside0.mk H
                              clear H
                              go_wp2
                              go_roundg k4
                              case measure => have := HK1.out; have := HJ5.out; have := HJ11.out; have := HK4.out; omega
                              case rel => exact ⟨(x5_1), (x6_1), (x7_4), (by first | rfl | (simp; done) | (simp [*]; done)), (by first | rfl | (simp; done) | (simp [*]; done)), H', ⟨by have := HK1.out; have := HJ5.out; have := HJ11.out; have := HK4.out; omega⟩, ⟨by (with_reducible repeat (first | apply Kd.R_alloc | apply Kd.R_drewN | apply Kd.R_drew)); exact HO_5.out⟩, ⟨by repeat (first | (with_reducible first | exact HB.out | apply below_alloc | apply pw_below_drewN | apply below_drew1) | exact HB.out)⟩⟩
                      · replace c18 := Bool.eq_false_iff.mpr c18
                        subst c18
                        have H1 : ((interleaveref01_Letter.f (bt a0 x7_1)).bind fun t184 => (if t184 = true then (interleaveref01_Scan.l2 kj11 a0 x5_1 x6_1 x7_1 x7_1) else ((interleaveref01_Digit.f (bt a0 x7_1)).bind fun t194 => (if t194 = true then (interleaveref01_Scan.l3 kj11 a0 x5_1 x6_1 x7_1 x7_1) else ((interleaveref01_signAt.f kj11 a0 x7_1).bind fun t205 => (if t205.toList = ([] : List UInt8) then (some (([] : List (S27)), 3, x6_1)) else (if x5_1.length < 4398046511104 then (interleaveref01_Scan.l0 kj11 a0 (x5_1 ++ [(⟨4, t205, x6_1⟩ : S27)]) x6_1 (wrap64 (x7_1 + (t205.size : Int)))) else (none)))))))) = some (r1, r2, r3) := by rw [if_neg (show ¬ (false = true) by decide)] at H; exact H
                        clear H
                        have H := H1
                        clear H1
                        replace H := Option.bind_eq_some_iff.mp H
                        obtain ⟨t184, A230, H⟩ := H
                        replace H : (if t184 = true then (interleaveref01_Scan.l2 kj11 a0 x5_1 x6_1 x7_1 x7_1) else ((interleaveref01_Digit.f (bt a0 x7_1)).bind fun t194 => (if t194 = true then (interleaveref01_Scan.l3 kj11 a0 x5_1 x6_1 x7_1 x7_1) else ((interleaveref01_signAt.f kj11 a0 x7_1).bind fun t205 => (if t205.toList = ([] : List UInt8) then (some (([] : List (S27)), 3, x6_1)) else (if x5_1.length < 4398046511104 then (interleaveref01_Scan.l0 kj11 a0 (x5_1 ++ [(⟨4, t205, x6_1⟩ : S27)]) x6_1 (wrap64 (x7_1 + (t205.size : Int)))) else (none))))))) = some (r1, r2, r3) := H
                        have A23 := Aside0.mk A230
                        clear A230
                        by_cases c24 : t184 = true
                        · subst c24
                          have H1 : (interleaveref01_Scan.l2 kj11 a0 x5_1 x6_1 x7_1 x7_1) = some (r1, r2, r3) := by rw [if_pos rfl] at H; exact H
                          clear H
                          have H := H1
                          clear H1
                          have HC25 := Aside0.mk H
                          clear H
                          go_upto_block 5 with (first | ((with_reducible refine gate_callee (f := 21) rfl ?_); refine goesL_ (some 93) rfl rfl Tryd.func21 (by kernel_rfl) rfl #[.int .u8 (bt a0 x7_1)] rfl (by (try simp only [List.map_toArray, List.map_cons, List.map_nil]); first | done | rfl | (simp only [List.length_drop, List.length_take]; rfl)) ?_; (with_reducible refine (interleaveref01_Letter.calls (bt a0 x7_1) true _ A23.out).mono ?_); rintro e w' ⟨rfl, ⟨nd, rfl⟩⟩; refine ⟨_, rfl, ?_⟩))
                          (try simp only [Act.put, List.setIfInBounds_toArray, List.set_cons_zero, List.set_cons_succ])
                          go_cut [9] (fun v9 wc => ∃ (kq : Nat) (x9_24 : Int), v9 = .int .i64 x9_24 ∧ Aside0 (interleaveref01_Scan.j5 kq a0 x5_1 x6_1 x7_1 x9_24 = some (r1, r2, r3)) ∧ Aside0 (kq ≤ kj11) ∧ Aside0 (Kd.R k27 27 wc w.heap.size (fun _ => True) u5 x5_1) ∧ Aside0 (Below w.heap.size w wc))
                          case first => as_aux_lemma =>
                            have H := HC25.out
                            clear HC25
                            have H' := Aside0.mk H
                            clear H
                            go_wp2
                            go_loopg [9] kj11 (fun kq v9 w' => ∃ (x9_4 : Int), v9 = .int .i64 x9_4 ∧ Aside0 (interleaveref01_Scan.l2 kq a0 x5_1 x6_1 x7_1 x9_4 = some (r1, r2, r3)) ∧ Aside0 (kq ≤ kj11) ∧ Aside0 (Kd.R k27 27 w' w.heap.size (fun _ => True) u5 x5_1) ∧ Aside0 (Below w.heap.size w w'))
                            case atStart => exact ⟨(x7_1), (by first | rfl | (simp; done) | (simp [*]; done)), H', ⟨Nat.le_refl _⟩, ⟨by (with_reducible repeat (first | apply Kd.R_alloc | apply Kd.R_drewN | apply Kd.R_drew)); exact HO_5.out⟩, ⟨by repeat (first | (with_reducible first | exact HB.out | apply below_alloc | apply pw_below_drewN | apply below_drew1) | exact HB.out)⟩⟩
                            case round => as_aux_lemma =>
                              clear H'
                              try clear c1
                              try clear p1
                              try clear q1
                              try clear hx1
                              try clear c2
                              try clear c2b0
                              try clear c2b1
                              try clear p2
                              try clear q2
                              try clear hx2
                              try clear c3
                              try clear c3b0
                              try clear c4
                              try clear c4b0
                              try clear p5
                              try clear q5
                              try clear hx5
                              try clear p6
                              try clear c7
                              try clear c7b0
                              try clear c7b1
                              try clear c8
                              try clear c8b0
                              try clear c8b1
                              try clear c9
                              try clear c9b0
                              try clear c9b1
                              try clear c10
                              try clear c11
                              try clear c11b0
                              try clear c11b1
                              try clear c12
                              try clear c13
                              try clear c13b0
                              try clear c13b1
                              try clear c14
                              try clear c14b0
                              try clear c16
                              try clear c16b0
                              try clear p17
                              try clear q17
                              try clear hx17
                              try clear c18
                              try clear c19
                              try clear c19b0
                              try clear c20
                              try clear c20b0
                              try clear c21
                              try clear p21
                              try clear q21
                              try clear hx21
                              try clear c22
                              try clear c22b0
                              try clear c22b1
                              try clear c24
                              try clear p1
                              try clear p17
                              try clear p2
                              try clear p21
                              try clear p5
                              try clear p6
                              try clear q1
                              try clear q17
                              try clear q21
                              try clear q5
                              obtain ⟨x9_4, rfl, HA, HK4, HO_5, HB⟩ := hrel
                              cases gk with
                              | zero => exact absurd HA.out (by simp [interleaveref01_Scan.l2])
                              | succ k4 =>
                                have H := HA.out
                                clear HA
                                simp only [interleaveref01_Scan.l2] at H
                                by_cases c26 : x9_4 < (a0.size : Int)
                                · rw [if_pos c26] at H
                                  have c26b0 : decide (x9_4 < (a0.size : Int)) = true := decide_eq_true c26
                                  clear c26
                                  (first | rw [c26b0] | (simp only [i64_w, i32_w]; rw [c26b0]) | skip)
                                  by_cases c27 : 0 ≤ x9_4
                                  · rw [if_pos c27] at H
                                    have c27b0 : decide (0 ≤ x9_4) = true := decide_eq_true c27
                                    clear c27
                                    replace H := Option.bind_eq_some_iff.mp H
                                    obtain ⟨t185, A290, H⟩ := H
                                    replace H : (if t185 = true then (interleaveref01_Scan.l2 k4 a0 x5_1 x6_1 x7_1 (wrap64 (x9_4 + 1))) else (interleaveref01_Scan.j5 k4 a0 x5_1 x6_1 x7_1 x9_4)) = some (r1, r2, r3) := H
                                    have A29 := Aside0.mk A290
                                    clear A290
                                    by_cases c30 : t185 = true
                                    · subst c30
                                      have H1 : (interleaveref01_Scan.l2 k4 a0 x5_1 x6_1 x7_1 (wrap64 (x9_4 + 1))) = some (r1, r2, r3) := by rw [if_pos rfl] at H; exact H
                                      clear H
                                      have H := H1
                                      clear H1
                                      have H' := Aside0.mk H
                                      clear H
                                      have p28 : 0 ≤ (x9_4 : Int) := of_decide_eq_true (by first | (with_reducible assumption) | assumption)
                                      have q28 : x9_4 < (a0.size : Int) := of_decide_eq_true (by first | (with_reducible assumption) | assumption)
                                      have hx28 := bt_at a0 x9_4
                                      replace p28 := eq_true p28
                                      replace q28 := eq_true q28
                                      go_wp2_with (first | (go_at_call 22; (with_reducible refine (interleaveref01_inner.calls (bt a0 x9_4) true _ A29.out).mono ?_); rintro e w' ⟨rfl, ⟨nd, rfl⟩⟩))
                                      go_roundg k4
                                      case measure => have := HK1.out; have := HJ5.out; have := HJ11.out; have := HK4.out; omega
                                      case rel => exact ⟨(wrap64 (x9_4 + 1)), (by first | rfl | (simp; done) | (simp [*]; done)), H', ⟨by have := HK1.out; have := HJ5.out; have := HJ11.out; have := HK4.out; omega⟩, ⟨by (with_reducible repeat (first | apply Kd.R_alloc | apply Kd.R_drewN | apply Kd.R_drew)); exact HO_5.out⟩, ⟨by repeat (first | (with_reducible first | exact HB.out | apply below_alloc | apply pw_below_drewN | apply below_drew1) | exact HB.out)⟩⟩
                                    · replace c30 := Bool.eq_false_iff.mpr c30
                                      subst c30
                                      have H1 : (interleaveref01_Scan.j5 k4 a0 x5_1 x6_1 x7_1 x9_4) = some (r1, r2, r3) := by rw [if_neg (show ¬ (false = true) by decide)] at H; exact H
                                      clear H
                                      have H := H1
                                      clear H1
                                      have H' := Aside0.mk H
                                      clear H
                                      have p28 : 0 ≤ (x9_4 : Int) := of_decide_eq_true (by first | (with_reducible assumption) | assumption)
                                      have q28 : x9_4 < (a0.size : Int) := of_decide_eq_true (by first | (with_reducible assumption) | assumption)
                                      have hx28 := bt_at a0 x9_4
                                      replace p28 := eq_true p28
                                      replace q28 := eq_true q28
                                      go_wp2_with (first | (go_at_call 22; (with_reducible refine (interleaveref01_inner.calls (bt a0 x9_4) false _ A29.out).mono ?_); rintro e w' ⟨rfl, ⟨nd, rfl⟩⟩))
                                      go_meet
                                      case rel => exact ⟨_, (x9_4), (by first | rfl | (simp; done) | (simp [*]; done)), H', ⟨by have := HK1.out; have := HJ5.out; have := HJ11.out; have := HK4.out; first | omega | exact Nat.le_refl _⟩, ⟨by (with_reducible repeat (first | apply Kd.R_alloc | apply Kd.R_drewN | apply Kd.R_drew)); exact HO_5.out⟩, ⟨by repeat (first | (with_reducible first | exact HB.out | apply below_alloc | apply pw_below_drewN | apply below_drew1) | exact HB.out)⟩⟩
                                  · rw [if_neg c27] at H
                                    exact absurd H (by simp)
                                · rw [if_neg c26] at H
                                  have c26b0 : decide (x9_4 < (a0.size : Int)) = false := decide_eq_false c26
                                  clear c26
                                  (first | rw [c26b0] | (simp only [i64_w, i32_w]; rw [c26b0]) | skip)
                                  have H' := Aside0.mk H
                                  clear H
                                  go_wp2
                                  go_meet
                                  case rel => exact ⟨_, (x9_4), (by first | rfl | (simp; done) | (simp [*]; done)), H', ⟨by have := HK1.out; have := HJ5.out; have := HJ11.out; have := HK4.out; first | omega | exact Nat.le_refl _⟩, ⟨by (with_reducible repeat (first | apply Kd.R_alloc | apply Kd.R_drewN | apply Kd.R_drew)); exact HO_5.out⟩, ⟨by repeat (first | (with_reducible first | exact HB.out | apply below_alloc | apply pw_below_drewN | apply below_drew1) | exact HB.out)⟩⟩
                          case rest => as_aux_lemma =>
                            clear HC25
                            try clear c1
                            try clear p1
                            try clear q1
                            try clear hx1
                            try clear c2
                            try clear c2b0
                            try clear c2b1
                            try clear p2
                            try clear q2
                            try clear hx2
                            try clear c3
                            try clear c3b0
                            try clear c4
                            try clear c4b0
                            try clear p5
                            try clear q5
                            try clear hx5
                            try clear p6
                            try clear c7
                            try clear c7b0
                            try clear c7b1
                            try clear c8
                            try clear c8b0
                            try clear c8b1
                            try clear c9
                            try clear c9b0
                            try clear c9b1
                            try clear c10
                            try clear c11
                            try clear c11b0
                            try clear c11b1
                            try clear c12
                            try clear c13
                            try clear c13b0
                            try clear c13b1
                            try clear c14
                            try clear c14b0
                            try clear c16
                            try clear c16b0
                            try clear p17
                            try clear q17
                            try clear hx17
                            try clear c18
                            try clear c19
                            try clear c19b0
                            try clear c20
                            try clear c20b0
                            try clear c21
                            try clear p21
                            try clear q21
                            try clear hx21
                            try clear c22
                            try clear c22b0
                            try clear c22b1
                            try clear c24
                            try clear c26
                            try clear c26b0
                            try clear c27
                            try clear c27b0
                            try clear p28
                            try clear q28
                            try clear hx28
                            try clear c30
                            try clear p1
                            try clear p17
                            try clear p2
                            try clear p21
                            try clear p28
                            try clear p5
                            try clear p6
                            try clear q1
                            try clear q17
                            try clear q2
                            try clear q21
                            try clear q28
                            try clear q5
                            obtain ⟨kq, x9_24, rfl, HA, HJ24, HO_5, HB⟩ := hcut
                            cases kq with
                            | zero => exact absurd HA.out (by simp [interleaveref01_Scan.j5])
                            | succ kj24 =>
                              have H := HA.out
                              clear HA
                              simp only [interleaveref01_Scan.j5] at H
                              by_cases c31 : (wrap64 (x9_24 - x7_1)) > 12
                              · rw [if_pos c31] at H
                                have c31b0 : decide (12 < (wrap64 (x9_24 - x7_1))) = true := decide_eq_true c31
                                clear c31
                                simp only [Option.some.injEq, Prod.mk.injEq] at H
                                obtain ⟨rfl, rfl, rfl⟩ := H
                                go_wp2
                                go_ret3
                                exact ⟨_, by first | rfl | (simp [errW_none, errW_some] <;> rfl) | (simp [*, errW_none, errW_some] <;> rfl), by first | exact Kd.R_nil _ _ _ _ _ | exact Kd.N_nil _ _ _ _ _ | exact Kd.V_nil _ _ _ _ _ | exact Kd.Q_nil _ _ _ _ _ | exact Kd.S_nil _ _ _ _ _, by repeat (first | (with_reducible first | exact HB.out | apply below_alloc | apply pw_below_drewN | apply below_drew1) | exact HB.out)⟩
                              · rw [if_neg c31] at H
                                have c31b0 : decide (12 < (wrap64 (x9_24 - x7_1))) = false := decide_eq_false c31
                                clear c31
                                by_cases c32 : 0 ≤ x7_1
                                · rw [if_pos c32] at H
                                  have c32b0 := eq_true c32
                                  have c32b1 : decide (0 ≤ x7_1) = true := decide_eq_true c32
                                  clear c32
                                  by_cases c33 : x7_1 ≤ x9_24
                                  · rw [if_pos c33] at H
                                    have c33b0 := eq_true c33
                                    have c33b1 : decide (x7_1 ≤ x9_24) = true := decide_eq_true c33
                                    clear c33
                                    by_cases c34 : x9_24 ≤ (a0.size : Int)
                                    · rw [if_pos c34] at H
                                      have c34b0 := eq_true c34
                                      have c34b1 : decide (x9_24 ≤ (a0.size : Int)) = true := decide_eq_true c34
                                      clear c34
                                      replace H := Option.bind_eq_some_iff.mp H
                                      obtain ⟨t187, A350, H⟩ := H
                                      replace H : (if t187 = true then (if x5_1.length < 4398046511104 then (interleaveref01_Scan.l0 kj24 a0 (x5_1 ++ [(⟨3, a0.extract (x7_1 : Int).toNat (x9_24 : Int).toNat, x6_1⟩ : S27)]) x6_1 x9_24) else (none)) else (if x5_1.length < 4398046511104 then (interleaveref01_Scan.l0 kj24 a0 (x5_1 ++ [(⟨1, a0.extract (x7_1 : Int).toNat (x9_24 : Int).toNat, x6_1⟩ : S27)]) x6_1 x9_24) else (none))) = some (r1, r2, r3) := H
                                      have A35 := Aside0.mk A350
                                      clear A350
                                      by_cases c36 : t187 = true
                                      · subst c36
                                        have H1 : (if x5_1.length < 4398046511104 then (interleaveref01_Scan.l0 kj24 a0 (x5_1 ++ [(⟨3, a0.extract (x7_1 : Int).toNat (x9_24 : Int).toNat, x6_1⟩ : S27)]) x6_1 x9_24) else (none)) = some (r1, r2, r3) := by rw [if_pos rfl] at H; exact H
                                        clear H
                                        have H := H1
                                        clear H1
                                        by_cases c37 : x5_1.length < 4398046511104
                                        · rw [if_pos c37] at H
                                          have LMc37 := Aside0.mk c37
                                          clear c37
                                          obtain ⟨y188, hy188⟩ : ∃ y_ : List (S27), y_ = (x5_1 ++ [(⟨3, a0.extract (x7_1 : Int).toNat (x9_24 : Int).toNat, x6_1⟩ : S27)]) := ⟨_, rfl⟩
                                          replace H : (interleaveref01_Scan.l0 kj24 a0 y188 x6_1 x9_24) = some (r1, r2, r3) := by first | (rw [hy188]; with_reducible exact H) | (have H2_ := (Option.bind_some _ _).symm.trans H; rw [hy188]; with_reducible exact H2_) | (have H2_ := (Option.bind_some _ _).symm.trans H; with_reducible exact H2_) | with_reducible exact H | (rw [hy188]; exact H) | exact H
                                          have Ny188 := Aside0.mk hy188
                                          clear hy188
                                          have H' := Aside0.mk H
                                          clear H
                                          go_wp2_with (first | ((with_reducible refine gate_dst (N := 10) rfl ?_); (try (refine gate_guard (by rfl) ?_; dsimp only)); refine box_event ?hg (N := 10) ?hd (cs := #[.int .i64 0, .string (⟨#[]⟩ : ByteArray), .int .i64 0]) (t := 27) ?hr ?_; (case hd => rfl); (case hg => rfl); (case hr => first | (go_simp; done) | (go_simp; rfl)); intro gb186 hg w38 hbox hb; have n0_ := Aside0.mk (Kd.R_below (Kd.R_elderB (by (with_reducible repeat (first | apply Kd.R_alloc | apply Kd.R_drewN | apply Kd.R_drew)); exact HO_5.out) gb186 (Nat.le_of_eq hg.symm)) hb); have n1_ := Aside0.mk (below_step (by repeat (first | (with_reducible first | exact HB.out | apply below_alloc | apply pw_below_drewN | apply below_drew1) | exact HB.out)) hb); have n2_ := Aside0.mk (hbox); have n3_ := Aside0.mk ((by rw [hg]; exact (below_size (by repeat (first | (with_reducible first | exact HB.out | apply below_alloc | apply pw_below_drewN | apply below_drew1) | exact HB.out))) : w.heap.size ≤ gb186)); have n4_ := Aside0.mk ((by rw [hg]; exact (below_size (by repeat (first | (with_reducible first | exact HB.out | apply below_alloc | apply pw_below_drewN | apply below_drew1) | exact HB.out))) : w.heap.size ≤ gb186)); clear HO_5; clear HB; have HO_5 := n0_; have HB := n1_; have BK186 := n2_; have GW186 := n3_; have GE186 := n4_; clear n0_ n1_ n2_ n3_ n4_; clear hb hbox hg; have hcz39_0 : w38.cell? ⟨gb186, 0, none⟩ = some (.int .i64 0) := (blk_cell BK186.out 0).trans rfl; have hcz39_1 : w38.cell? ⟨gb186, 1, none⟩ = some (.string (⟨#[]⟩ : ByteArray)) := (blk_cell BK186.out 1).trans rfl; have hcz39_2 : w38.cell? ⟨gb186, 2, none⟩ = some (.int .i64 0) := (blk_cell BK186.out 2).trans rfl; have hfz39_0 := blk_frozen BK186.out 0; have hfz39_1 := blk_frozen BK186.out 1; have hfz39_2 := blk_frozen BK186.out 2) | ((with_reducible refine gate_callee (f := 18) rfl ?_); refine goesL_ (some 119) rfl rfl Tryd.func18 (by kernel_rfl) rfl #[.string (a0.extract (x7_1 : Int).toNat (x9_24 : Int).toNat)] rfl (by (try simp only [List.map_toArray, List.map_cons, List.map_nil]); first | done | rfl | (simp only [List.length_drop, List.length_take]; rfl)) ?_; (with_reducible refine (interleaveref01_IsKeyword.calls kj24 (a0.extract (x7_1 : Int).toNat (x9_24 : Int).toNat) true _ A35.out).mono ?_); rintro e w40 ⟨rfl, hb⟩; refine ⟨_, rfl, ?_⟩; have n0_ := Aside0.mk (Kd.R_below (by (with_reducible repeat (first | apply Kd.R_alloc | apply Kd.R_drewN | apply Kd.R_drew)); exact (Kd.R_mono (Kd.R_far (p := ⟨gb186, 2, none⟩) (Kd.R_far (p := ⟨gb186, 1, none⟩) (Kd.R_far (p := ⟨gb186, 0, none⟩) (Kd.R_mono HO_5.out (fun k_ hk => (⟨hk, hk.2⟩ : _ ∧ k_ ≠ gb186))) (fun _ hk => hk.2) (.int .i64 1)) (fun _ hk => hk.2) (.string (a0.extract (x7_1 : Int).toNat (x9_24 : Int).toNat))) (fun _ hk => hk.2) (.int .i64 x6_1)) (fun _ h_ => h_.1))) hb); have n1_ := Aside0.mk (blk_below (g := gb186) (o := .cells #[.int .i64 1, .string (a0.extract (x7_1 : Int).toNat (x9_24 : Int).toNat), .int .i64 x6_1] 27 (0, 0)) (by (with_reducible repeat (first | refine blk_drewN ?_ _ | refine blk_drew ?_ | refine blk_alloc ?_ _)); refine blk_put (cs := #[.int .i64 1, .string (a0.extract (x7_1 : Int).toNat (x9_24 : Int).toNat), .int .i64 0]) ?_ 2 _ rfl; (with_reducible repeat (first | refine blk_drewN ?_ _ | refine blk_drew ?_ | refine blk_alloc ?_ _)); refine blk_put (cs := #[.int .i64 1, .string (⟨#[]⟩ : ByteArray), .int .i64 0]) ?_ 1 _ rfl; (with_reducible repeat (first | refine blk_drewN ?_ _ | refine blk_drew ?_ | refine blk_alloc ?_ _)); refine blk_put (cs := #[.int .i64 0, .string (⟨#[]⟩ : ByteArray), .int .i64 0]) ?_ 0 _ rfl; (with_reducible repeat (first | refine blk_drewN ?_ _ | refine blk_drew ?_ | refine blk_alloc ?_ _)); exact BK186.out) hb); have n2_ := Aside0.mk (below_step (by repeat (first | (with_reducible first | exact HB.out | apply below_alloc | apply pw_below_drewN | apply below_drew1 | refine below_set ?_ GE186.out) | exact HB.out)) hb); clear HO_5; clear BK186; clear HB; have HO_5 := n0_; have BK186 := n1_; have HB := n2_; clear n0_ n1_ n2_; (try clear hb); (try clear hb2); (try clear hk); (try clear hi); have hcz41_0 : w40.cell? ⟨gb186, 0, none⟩ = some (.int .i64 1) := (blk_cell BK186.out 0).trans rfl; have hcz41_1 : w40.cell? ⟨gb186, 1, none⟩ = some (.string (a0.extract (x7_1 : Int).toNat (x9_24 : Int).toNat)) := (blk_cell BK186.out 1).trans rfl; have hcz41_2 : w40.cell? ⟨gb186, 2, none⟩ = some (.int .i64 x6_1) := (blk_cell BK186.out 2).trans rfl; have hfz41_0 := blk_frozen BK186.out 0; have hfz41_1 := blk_frozen BK186.out 1; have hfz41_2 := blk_frozen BK186.out 2) | ((with_reducible refine gate_builtin (b := .append) (xs := #[.tmp 121, .tmp 123]) rfl ?_); (try (refine gate_guard (by rfl) ?_; dsimp only)); at_builtin; refine Kd.R_append k27 (w0 := w) w.heap.size rfl (.tmp 121) (.tmp 123) 22 27 (.agg #[(.int .i64 0), (.string ⟨#[]⟩), (.int .i64 0)]) 32 rfl Tryd.underlying22 info27 rfl (by decide) (by omega) u5 x5_1 (⟨3, a0.extract (x7_1 : Int).toNat (x9_24 : Int).toNat, x6_1⟩ : S27) [.int .i64 3, .string (a0.extract (x7_1 : Int).toNat (x9_24 : Int).toNat), .int .i64 x6_1] (fun k_ => k_ ≠ gb186) (fun _ => False) rfl (by first | (go_simp; done) | (go_simp; rfl)) ?aP (fun _ hk => hk.elim) ?aF ?aO ?aB ?aS ?aL ?_; (case aP => exact k27_mkM _ _ _ (⟨3, a0.extract (x7_1 : Int).toNat (x9_24 : Int).toNat, x6_1⟩ : S27)); (case aB => exact (by repeat (first | (with_reducible first | exact HB.out | apply below_alloc | apply pw_below_drewN | apply below_drew1 | refine below_set ?_ GE186.out) | exact HB.out))); (case aF => exact (fun k_ hk => Kd.freshB (g := gb186) (o := .cells #[.int .i64 3, .string (a0.extract (x7_1 : Int).toNat (x9_24 : Int).toNat), .int .i64 x6_1] 27 (0, 0)) (by (with_reducible repeat (first | refine blk_drewN ?_ _ | refine blk_drew ?_ | refine blk_alloc ?_ _)); refine blk_put (cs := #[.int .i64 1, .string (a0.extract (x7_1 : Int).toNat (x9_24 : Int).toNat), .int .i64 x6_1]) ?_ 0 _ rfl; (with_reducible repeat (first | refine blk_drewN ?_ _ | refine blk_drew ?_ | refine blk_alloc ?_ _)); exact BK186.out) k_ hk)); (case aO => exact (by (with_reducible repeat (first | apply Kd.R_alloc | apply Kd.R_drewN | apply Kd.R_drew)); exact Kd.R_mono (Kd.R_far (p := ⟨gb186, 0, none⟩) (Kd.R_mono HO_5.out (fun k_ hk => (⟨hk, hk.2⟩ : _ ∧ k_ ≠ gb186))) (fun _ hk => hk.2) (.int .i64 3)) (fun _ hk => hk.1.2))); (case aS => exact (below_size (by repeat (first | (with_reducible first | exact HB.out | apply below_alloc | apply pw_below_drewN | apply below_drew1 | refine below_set ?_ GE186.out) | exact HB.out)))); (case aL => have := LMc37.out; omega); intro v189 w42 ho hb hg hat; rw [← Ny188.out] at ho; have n0_ := Aside0.mk (blk_grown (g := gb186) (o := .cells #[.int .i64 3, .string (a0.extract (x7_1 : Int).toNat (x9_24 : Int).toNat), .int .i64 x6_1] 27 (0, 0)) (by (with_reducible repeat (first | refine blk_drewN ?_ _ | refine blk_drew ?_ | refine blk_alloc ?_ _)); refine blk_put (cs := #[.int .i64 1, .string (a0.extract (x7_1 : Int).toNat (x9_24 : Int).toNat), .int .i64 x6_1]) ?_ 0 _ rfl; (with_reducible repeat (first | refine blk_drewN ?_ _ | refine blk_drew ?_ | refine blk_alloc ?_ _)); exact BK186.out) hg (Kd.R_away HO_5.out (fun _ hk => hk.2))); have n1_ := Aside0.mk (hb); have n2_ := Aside0.mk (ho); clear BK186; clear HB; clear HO_5; have BK186 := n0_; have HB := n1_; have HO190 := n2_; clear n0_ n1_ n2_; clear ho hb hg hat))
                                          go_roundg kj24
                                          case measure => have := HK1.out; have := HJ5.out; have := HJ11.out; have := HJ24.out; omega
                                          case rel => exact ⟨(y188), (x6_1), (x9_24), (by first | rfl | (simp; done) | (simp [*]; done)), (by first | rfl | (simp; done) | (simp [*]; done)), H', ⟨by have := HK1.out; have := HJ5.out; have := HJ11.out; have := HJ24.out; omega⟩, ⟨by (with_reducible repeat (first | apply Kd.R_alloc | apply Kd.R_drewN | apply Kd.R_drew)); exact Kd.R_mono HO190.out (fun _ hk => trivial)⟩, ⟨by repeat (first | (with_reducible first | exact HB.out | apply below_alloc | apply pw_below_drewN | apply below_drew1 | refine below_set ?_ GE186.out) | exact HB.out)⟩⟩
                                        · rw [if_neg c37] at H
                                          exact absurd H (by simp)
                                      · replace c36 := Bool.eq_false_iff.mpr c36
                                        subst c36
                                        have H1 : (if x5_1.length < 4398046511104 then (interleaveref01_Scan.l0 kj24 a0 (x5_1 ++ [(⟨1, a0.extract (x7_1 : Int).toNat (x9_24 : Int).toNat, x6_1⟩ : S27)]) x6_1 x9_24) else (none)) = some (r1, r2, r3) := by rw [if_neg (show ¬ (false = true) by decide)] at H; exact H
                                        clear H
                                        have H := H1
                                        clear H1
                                        by_cases c43 : x5_1.length < 4398046511104
                                        · rw [if_pos c43] at H
                                          have LMc43 := Aside0.mk c43
                                          clear c43
                                          obtain ⟨y191, hy191⟩ : ∃ y_ : List (S27), y_ = (x5_1 ++ [(⟨1, a0.extract (x7_1 : Int).toNat (x9_24 : Int).toNat, x6_1⟩ : S27)]) := ⟨_, rfl⟩
                                          replace H : (interleaveref01_Scan.l0 kj24 a0 y191 x6_1 x9_24) = some (r1, r2, r3) := by first | (rw [hy191]; with_reducible exact H) | (have H2_ := (Option.bind_some _ _).symm.trans H; rw [hy191]; with_reducible exact H2_) | (have H2_ := (Option.bind_some _ _).symm.trans H; with_reducible exact H2_) | with_reducible exact H | (rw [hy191]; exact H) | exact H
                                          have Ny191 := Aside0.mk hy191
                                          clear hy191
                                          have H' := Aside0.mk H
                                          clear H
                                          go_wp2_with (first | ((with_reducible refine gate_dst (N := 10) rfl ?_); (try (refine gate_guard (by rfl) ?_; dsimp only)); refine box_event ?hg (N := 10) ?hd (cs := #[.int .i64 0, .string (⟨#[]⟩ : ByteArray), .int .i64 0]) (t := 27) ?hr ?_; (case hd => rfl); (case hg => rfl); (case hr => first | (go_simp; done) | (go_simp; rfl)); intro gb186 hg w44 hbox hb; have n0_ := Aside0.mk (Kd.R_below (Kd.R_elderB (by (with_reducible repeat (first | apply Kd.R_alloc | apply Kd.R_drewN | apply Kd.R_drew)); exact HO_5.out) gb186 (Nat.le_of_eq hg.symm)) hb); have n1_ := Aside0.mk (below_step (by repeat (first | (with_reducible first | exact HB.out | apply below_alloc | apply pw_below_drewN | apply below_drew1) | exact HB.out)) hb); have n2_ := Aside0.mk (hbox); have n3_ := Aside0.mk ((by rw [hg]; exact (below_size (by repeat (first | (with_reducible first | exact HB.out | apply below_alloc | apply pw_below_drewN | apply below_drew1) | exact HB.out))) : w.heap.size ≤ gb186)); have n4_ := Aside0.mk ((by rw [hg]; exact (below_size (by repeat (first | (with_reducible first | exact HB.out | apply below_alloc | apply pw_below_drewN | apply below_drew1) | exact HB.out))) : w.heap.size ≤ gb186)); clear HO_5; clear HB; have HO_5 := n0_; have HB := n1_; have BK186 := n2_; have GW186 := n3_; have GE186 := n4_; clear n0_ n1_ n2_ n3_ n4_; clear hb hbox hg; have hcz45_0 : w44.cell? ⟨gb186, 0, none⟩ = some (.int .i64 0) := (blk_cell BK186.out 0).trans rfl; have hcz45_1 : w44.cell? ⟨gb186, 1, none⟩ = some (.string (⟨#[]⟩ : ByteArray)) := (blk_cell BK186.out 1).trans rfl; have hcz45_2 : w44.cell? ⟨gb186, 2, none⟩ = some (.int .i64 0) := (blk_cell BK186.out 2).trans rfl; have hfz45_0 := blk_frozen BK186.out 0; have hfz45_1 := blk_frozen BK186.out 1; have hfz45_2 := blk_frozen BK186.out 2) | ((with_reducible refine gate_callee (f := 18) rfl ?_); refine goesL_ (some 119) rfl rfl Tryd.func18 (by kernel_rfl) rfl #[.string (a0.extract (x7_1 : Int).toNat (x9_24 : Int).toNat)] rfl (by (try simp only [List.map_toArray, List.map_cons, List.map_nil]); first | done | rfl | (simp only [List.length_drop, List.length_take]; rfl)) ?_; (with_reducible refine (interleaveref01_IsKeyword.calls kj24 (a0.extract (x7_1 : Int).toNat (x9_24 : Int).toNat) false _ A35.out).mono ?_); rintro e w46 ⟨rfl, hb⟩; refine ⟨_, rfl, ?_⟩; have n0_ := Aside0.mk (Kd.R_below (by (with_reducible repeat (first | apply Kd.R_alloc | apply Kd.R_drewN | apply Kd.R_drew)); exact (Kd.R_mono (Kd.R_far (p := ⟨gb186, 2, none⟩) (Kd.R_far (p := ⟨gb186, 1, none⟩) (Kd.R_far (p := ⟨gb186, 0, none⟩) (Kd.R_mono HO_5.out (fun k_ hk => (⟨hk, hk.2⟩ : _ ∧ k_ ≠ gb186))) (fun _ hk => hk.2) (.int .i64 1)) (fun _ hk => hk.2) (.string (a0.extract (x7_1 : Int).toNat (x9_24 : Int).toNat))) (fun _ hk => hk.2) (.int .i64 x6_1)) (fun _ h_ => h_.1))) hb); have n1_ := Aside0.mk (blk_below (g := gb186) (o := .cells #[.int .i64 1, .string (a0.extract (x7_1 : Int).toNat (x9_24 : Int).toNat), .int .i64 x6_1] 27 (0, 0)) (by (with_reducible repeat (first | refine blk_drewN ?_ _ | refine blk_drew ?_ | refine blk_alloc ?_ _)); refine blk_put (cs := #[.int .i64 1, .string (a0.extract (x7_1 : Int).toNat (x9_24 : Int).toNat), .int .i64 0]) ?_ 2 _ rfl; (with_reducible repeat (first | refine blk_drewN ?_ _ | refine blk_drew ?_ | refine blk_alloc ?_ _)); refine blk_put (cs := #[.int .i64 1, .string (⟨#[]⟩ : ByteArray), .int .i64 0]) ?_ 1 _ rfl; (with_reducible repeat (first | refine blk_drewN ?_ _ | refine blk_drew ?_ | refine blk_alloc ?_ _)); refine blk_put (cs := #[.int .i64 0, .string (⟨#[]⟩ : ByteArray), .int .i64 0]) ?_ 0 _ rfl; (with_reducible repeat (first | refine blk_drewN ?_ _ | refine blk_drew ?_ | refine blk_alloc ?_ _)); exact BK186.out) hb); have n2_ := Aside0.mk (below_step (by repeat (first | (with_reducible first | exact HB.out | apply below_alloc | apply pw_below_drewN | apply below_drew1 | refine below_set ?_ GE186.out) | exact HB.out)) hb); clear HO_5; clear BK186; clear HB; have HO_5 := n0_; have BK186 := n1_; have HB := n2_; clear n0_ n1_ n2_; (try clear hb); (try clear hb2); (try clear hk); (try clear hi); have hcz47_0 : w46.cell? ⟨gb186, 0, none⟩ = some (.int .i64 1) := (blk_cell BK186.out 0).trans rfl; have hcz47_1 : w46.cell? ⟨gb186, 1, none⟩ = some (.string (a0.extract (x7_1 : Int).toNat (x9_24 : Int).toNat)) := (blk_cell BK186.out 1).trans rfl; have hcz47_2 : w46.cell? ⟨gb186, 2, none⟩ = some (.int .i64 x6_1) := (blk_cell BK186.out 2).trans rfl; have hfz47_0 := blk_frozen BK186.out 0; have hfz47_1 := blk_frozen BK186.out 1; have hfz47_2 := blk_frozen BK186.out 2) | ((with_reducible refine gate_builtin (b := .append) (xs := #[.tmp 121, .tmp 123]) rfl ?_); (try (refine gate_guard (by rfl) ?_; dsimp only)); at_builtin; refine Kd.R_append k27 (w0 := w) w.heap.size rfl (.tmp 121) (.tmp 123) 22 27 (.agg #[(.int .i64 0), (.string ⟨#[]⟩), (.int .i64 0)]) 32 rfl Tryd.underlying22 info27 rfl (by decide) (by omega) u5 x5_1 (⟨1, a0.extract (x7_1 : Int).toNat (x9_24 : Int).toNat, x6_1⟩ : S27) [.int .i64 1, .string (a0.extract (x7_1 : Int).toNat (x9_24 : Int).toNat), .int .i64 x6_1] (fun k_ => k_ ≠ gb186) (fun _ => False) rfl rfl ?aP (fun _ hk => hk.elim) ?aF ?aO ?aB ?aS ?aL ?_; (case aP => exact k27_mkM _ _ _ (⟨1, a0.extract (x7_1 : Int).toNat (x9_24 : Int).toNat, x6_1⟩ : S27)); (case aB => exact (by repeat (first | (with_reducible first | exact HB.out | apply below_alloc | apply pw_below_drewN | apply below_drew1 | refine below_set ?_ GE186.out) | exact HB.out))); (case aF => exact (fun k_ hk => Kd.freshB (g := gb186) (o := .cells #[.int .i64 1, .string (a0.extract (x7_1 : Int).toNat (x9_24 : Int).toNat), .int .i64 x6_1] 27 (0, 0)) (by (with_reducible repeat (first | refine blk_drewN ?_ _ | refine blk_drew ?_ | refine blk_alloc ?_ _)); exact BK186.out) k_ hk)); (case aO => exact (by (with_reducible repeat (first | apply Kd.R_alloc | apply Kd.R_drewN | apply Kd.R_drew)); exact Kd.R_mono HO_5.out (fun _ hk => hk.2))); (case aS => exact (below_size (by repeat (first | (with_reducible first | exact HB.out | apply below_alloc | apply pw_below_drewN | apply below_drew1 | refine below_set ?_ GE186.out) | exact HB.out)))); (case aL => have := LMc43.out; omega); intro v192 w48 ho hb hg hat; rw [← Ny191.out] at ho; have n0_ := Aside0.mk (blk_grown (g := gb186) (o := .cells #[.int .i64 1, .string (a0.extract (x7_1 : Int).toNat (x9_24 : Int).toNat), .int .i64 x6_1] 27 (0, 0)) (by (with_reducible repeat (first | refine blk_drewN ?_ _ | refine blk_drew ?_ | refine blk_alloc ?_ _)); exact BK186.out) hg (Kd.R_away HO_5.out (fun _ hk => hk.2))); have n1_ := Aside0.mk (hb); have n2_ := Aside0.mk (ho); clear BK186; clear HB; clear HO_5; have BK186 := n0_; have HB := n1_; have HO193 := n2_; clear n0_ n1_ n2_; clear ho hb hg hat))
                                          go_roundg kj24
                                          case measure => have := HK1.out; have := HJ5.out; have := HJ11.out; have := HJ24.out; omega
                                          case rel => exact ⟨(y191), (x6_1), (x9_24), (by first | rfl | (simp; done) | (simp [*]; done)), (by first | rfl | (simp; done) | (simp [*]; done)), H', ⟨by have := HK1.out; have := HJ5.out; have := HJ11.out; have := HJ24.out; omega⟩, ⟨by (with_reducible repeat (first | apply Kd.R_alloc | apply Kd.R_drewN | apply Kd.R_drew)); exact Kd.R_mono HO193.out (fun _ hk => trivial)⟩, ⟨by repeat (first | (with_reducible first | exact HB.out | apply below_alloc | apply pw_below_drewN | apply below_drew1 | refine below_set ?_ GE186.out) | exact HB.out)⟩⟩
                                        · rw [if_neg c43] at H
                                          exact absurd H (by simp)
                                    · rw [if_neg c34] at H
                                      exact absurd H (by simp)
                                  · rw [if_neg c33] at H
                                    exact absurd H (by simp)
                                · rw [if_neg c32] at H
                                  exact absurd H (by simp)
                        · replace c24 := Bool.eq_false_iff.mpr c24
                          subst c24
                          have H1 : ((interleaveref01_Digit.f (bt a0 x7_1)).bind fun t194 => (if t194 = true then (interleaveref01_Scan.l3 kj11 a0 x5_1 x6_1 x7_1 x7_1) else ((interleaveref01_signAt.f kj11 a0 x7_1).bind fun t205 => (if t205.toList = ([] : List UInt8) then (some (([] : List (S27)), 3, x6_1)) else (if x5_1.length < 4398046511104 then (interleaveref01_Scan.l0 kj11 a0 (x5_1 ++ [(⟨4, t205, x6_1⟩ : S27)]) x6_1 (wrap64 (x7_1 + (t205.size : Int)))) else (none)))))) = some (r1, r2, r3) := by rw [if_neg (show ¬ (false = true) by decide)] at H; exact H
                          clear H
                          have H := H1
                          clear H1
                          replace H := Option.bind_eq_some_iff.mp H
                          obtain ⟨t194, A490, H⟩ := H
                          replace H : (if t194 = true then (interleaveref01_Scan.l3 kj11 a0 x5_1 x6_1 x7_1 x7_1) else ((interleaveref01_signAt.f kj11 a0 x7_1).bind fun t205 => (if t205.toList = ([] : List UInt8) then (some (([] : List (S27)), 3, x6_1)) else (if x5_1.length < 4398046511104 then (interleaveref01_Scan.l0 kj11 a0 (x5_1 ++ [(⟨4, t205, x6_1⟩ : S27)]) x6_1 (wrap64 (x7_1 + (t205.size : Int)))) else (none))))) = some (r1, r2, r3) := H
                          have A49 := Aside0.mk A490
                          clear A490
                          by_cases c50 : t194 = true
                          · subst c50
                            have H1 : (interleaveref01_Scan.l3 kj11 a0 x5_1 x6_1 x7_1 x7_1) = some (r1, r2, r3) := by rw [if_pos rfl] at H; exact H
                            clear H
                            have H := H1
                            clear H1
                            have HC51 := Aside0.mk H
                            clear H
                            go_upto_block 7 with (first | ((with_reducible refine gate_callee (f := 21) rfl ?_); refine goesL_ (some 93) rfl rfl Tryd.func21 (by kernel_rfl) rfl #[.int .u8 (bt a0 x7_1)] rfl (by (try simp only [List.map_toArray, List.map_cons, List.map_nil]); first | done | rfl | (simp only [List.length_drop, List.length_take]; rfl)) ?_; (with_reducible refine (interleaveref01_Letter.calls (bt a0 x7_1) false _ A23.out).mono ?_); rintro e w' ⟨rfl, ⟨nd, rfl⟩⟩; refine ⟨_, rfl, ?_⟩) | ((with_reducible refine gate_callee (f := 23) rfl ?_); refine goesL_ (some 128) rfl rfl Tryd.func23 (by kernel_rfl) rfl #[.int .u8 (bt a0 x7_1)] rfl (by (try simp only [List.map_toArray, List.map_cons, List.map_nil]); first | done | rfl | (simp only [List.length_drop, List.length_take]; rfl)) ?_; (with_reducible refine (interleaveref01_Digit.calls (bt a0 x7_1) true _ A49.out).mono ?_); rintro e w' ⟨rfl, ⟨nd, rfl⟩⟩; refine ⟨_, rfl, ?_⟩))
                            (try simp only [Act.put, List.setIfInBounds_toArray, List.set_cons_zero, List.set_cons_succ])
                            go_cut [9] (fun v9 wc => ∃ (kq : Nat) (x9_50 : Int), v9 = .int .i64 x9_50 ∧ Aside0 (interleaveref01_Scan.j7 kq a0 x5_1 x6_1 x7_1 x9_50 = some (r1, r2, r3)) ∧ Aside0 (kq ≤ kj11) ∧ Aside0 (Kd.R k27 27 wc w.heap.size (fun _ => True) u5 x5_1) ∧ Aside0 (Below w.heap.size w wc))
                            case first => as_aux_lemma =>
                              have H := HC51.out
                              clear HC51
                              have H' := Aside0.mk H
                              clear H
                              go_wp2
                              go_loopg [9] kj11 (fun kq v9 w' => ∃ (x9_4 : Int), v9 = .int .i64 x9_4 ∧ Aside0 (interleaveref01_Scan.l3 kq a0 x5_1 x6_1 x7_1 x9_4 = some (r1, r2, r3)) ∧ Aside0 (kq ≤ kj11) ∧ Aside0 (Kd.R k27 27 w' w.heap.size (fun _ => True) u5 x5_1) ∧ Aside0 (Below w.heap.size w w'))
                              case atStart => exact ⟨(x7_1), (by first | rfl | (simp; done) | (simp [*]; done)), H', ⟨Nat.le_refl _⟩, ⟨by (with_reducible repeat (first | apply Kd.R_alloc | apply Kd.R_drewN | apply Kd.R_drew)); exact HO_5.out⟩, ⟨by repeat (first | (with_reducible first | exact HB.out | apply below_alloc | apply pw_below_drewN | apply below_drew1) | exact HB.out)⟩⟩
                              case round => as_aux_lemma =>
                                clear H'
                                try clear c1
                                try clear p1
                                try clear q1
                                try clear hx1
                                try clear c2
                                try clear c2b0
                                try clear c2b1
                                try clear p2
                                try clear q2
                                try clear hx2
                                try clear c3
                                try clear c3b0
                                try clear c4
                                try clear c4b0
                                try clear c5
                                try clear p5
                                try clear q5
                                try clear hx5
                                try clear p6
                                try clear c7
                                try clear c7b0
                                try clear c7b1
                                try clear c8
                                try clear c8b0
                                try clear c8b1
                                try clear c9
                                try clear c9b0
                                try clear c9b1
                                try clear c10
                                try clear c11
                                try clear c11b0
                                try clear c11b1
                                try clear c12
                                try clear c13
                                try clear c13b0
                                try clear c13b1
                                try clear c14
                                try clear c14b0
                                try clear c16
                                try clear c16b0
                                try clear p17
                                try clear q17
                                try clear hx17
                                try clear c18
                                try clear c19
                                try clear c19b0
                                try clear c20
                                try clear c20b0
                                try clear c21
                                try clear p21
                                try clear q21
                                try clear hx21
                                try clear c22
                                try clear c22b0
                                try clear c22b1
                                try clear c23
                                try clear c24
                                try clear c26
                                try clear c26b0
                                try clear c27
                                try clear c27b0
                                try clear p28
                                try clear q28
                                try clear hx28
                                try clear c30
                                try clear c31
                                try clear c31b0
                                try clear c32
                                try clear c32b0
                                try clear c32b1
                                try clear c33
                                try clear c33b0
                                try clear c33b1
                                try clear c34
                                try clear c34b0
                                try clear c34b1
                                try clear c36
                                try clear c37
                                try clear c43
                                try clear c50
                                try clear hcz39_0
                                try clear hcz39_1
                                try clear hcz39_2
                                try clear hcz41_0
                                try clear hcz41_1
                                try clear hcz41_2
                                try clear hcz45_0
                                try clear hcz45_1
                                try clear hcz45_2
                                try clear hcz47_0
                                try clear hcz47_1
                                try clear hcz47_2
                                try clear hfz39_0
                                try clear hfz39_1
                                try clear hfz39_2
                                try clear hfz41_0
                                try clear hfz41_1
                                try clear hfz41_2
                                try clear hfz45_0
                                try clear hfz45_1
                                try clear hfz45_2
                                try clear hfz47_0
                                try clear hfz47_1
                                try clear hfz47_2
                                try clear p1
                                try clear p17
                                try clear p2
                                try clear p21
                                try clear p28
                                try clear p5
                                try clear p6
                                try clear q1
                                try clear q17
                                try clear q2
                                try clear q21
                                try clear q28
                                try clear q5
                                obtain ⟨x9_4, rfl, HA, HK4, HO_5, HB⟩ := hrel
                                cases gk with
                                | zero => exact absurd HA.out (by simp [interleaveref01_Scan.l3])
                                | succ k4 =>
                                  have H := HA.out
                                  clear HA
                                  simp only [interleaveref01_Scan.l3] at H
                                  by_cases c52 : x9_4 < (a0.size : Int)
                                  · rw [if_pos c52] at H
                                    have c52b0 : decide (x9_4 < (a0.size : Int)) = true := decide_eq_true c52
                                    clear c52
                                    (first | rw [c52b0] | (simp only [i64_w, i32_w]; rw [c52b0]) | skip)
                                    by_cases c53 : 0 ≤ x9_4
                                    · rw [if_pos c53] at H
                                      have c53b0 : decide (0 ≤ x9_4) = true := decide_eq_true c53
                                      clear c53
                                      replace H := Option.bind_eq_some_iff.mp H
                                      obtain ⟨t195, A550, H⟩ := H
                                      replace H : (if t195 = true then (interleaveref01_Scan.l3 k4 a0 x5_1 x6_1 x7_1 (wrap64 (x9_4 + 1))) else (interleaveref01_Scan.j7 k4 a0 x5_1 x6_1 x7_1 x9_4)) = some (r1, r2, r3) := H
                                      have A55 := Aside0.mk A550
                                      clear A550
                                      by_cases c56 : t195 = true
                                      · subst c56
                                        have H1 : (interleaveref01_Scan.l3 k4 a0 x5_1 x6_1 x7_1 (wrap64 (x9_4 + 1))) = some (r1, r2, r3) := by rw [if_pos rfl] at H; exact H
                                        clear H
                                        have H := H1
                                        clear H1
                                        have H' := Aside0.mk H
                                        clear H
                                        have p54 : 0 ≤ (x9_4 : Int) := of_decide_eq_true (by first | (with_reducible assumption) | assumption)
                                        have q54 : x9_4 < (a0.size : Int) := of_decide_eq_true (by first | (with_reducible assumption) | assumption)
                                        have hx54 := bt_at a0 x9_4
                                        replace p54 := eq_true p54
                                        replace q54 := eq_true q54
                                        go_wp2_with (first | (go_at_call 23; (with_reducible refine (interleaveref01_Digit.calls (bt a0 x9_4) true _ A55.out).mono ?_); rintro e w' ⟨rfl, ⟨nd, rfl⟩⟩))
                                        go_roundg k4
                                        case measure => have := HK1.out; have := HJ5.out; have := HJ11.out; have := HK4.out; omega
                                        case rel => exact ⟨(wrap64 (x9_4 + 1)), (by first | rfl | (simp; done) | (simp [*]; done)), H', ⟨by have := HK1.out; have := HJ5.out; have := HJ11.out; have := HK4.out; omega⟩, ⟨by (with_reducible repeat (first | apply Kd.R_alloc | apply Kd.R_drewN | apply Kd.R_drew)); exact HO_5.out⟩, ⟨by repeat (first | (with_reducible first | exact HB.out | apply below_alloc | apply pw_below_drewN | apply below_drew1) | exact HB.out)⟩⟩
                                      · replace c56 := Bool.eq_false_iff.mpr c56
                                        subst c56
                                        have H1 : (interleaveref01_Scan.j7 k4 a0 x5_1 x6_1 x7_1 x9_4) = some (r1, r2, r3) := by rw [if_neg (show ¬ (false = true) by decide)] at H; exact H
                                        clear H
                                        have H := H1
                                        clear H1
                                        have H' := Aside0.mk H
                                        clear H
                                        have p54 : 0 ≤ (x9_4 : Int) := of_decide_eq_true (by first | (with_reducible assumption) | assumption)
                                        have q54 : x9_4 < (a0.size : Int) := of_decide_eq_true (by first | (with_reducible assumption) | assumption)
                                        have hx54 := bt_at a0 x9_4
                                        replace p54 := eq_true p54
                                        replace q54 := eq_true q54
                                        go_wp2_with (first | (go_at_call 23; (with_reducible refine (interleaveref01_Digit.calls (bt a0 x9_4) false _ A55.out).mono ?_); rintro e w' ⟨rfl, ⟨nd, rfl⟩⟩))
                                        go_meet
                                        case rel => exact ⟨_, (x9_4), (by first | rfl | (simp; done) | (simp [*]; done)), H', ⟨by have := HK1.out; have := HJ5.out; have := HJ11.out; have := HK4.out; first | omega | exact Nat.le_refl _⟩, ⟨by (with_reducible repeat (first | apply Kd.R_alloc | apply Kd.R_drewN | apply Kd.R_drew)); exact HO_5.out⟩, ⟨by repeat (first | (with_reducible first | exact HB.out | apply below_alloc | apply pw_below_drewN | apply below_drew1) | exact HB.out)⟩⟩
                                    · rw [if_neg c53] at H
                                      exact absurd H (by simp)
                                  · rw [if_neg c52] at H
                                    have c52b0 : decide (x9_4 < (a0.size : Int)) = false := decide_eq_false c52
                                    clear c52
                                    (first | rw [c52b0] | (simp only [i64_w, i32_w]; rw [c52b0]) | skip)
                                    have H' := Aside0.mk H
                                    clear H
                                    go_wp2
                                    go_meet
                                    case rel => exact ⟨_, (x9_4), (by first | rfl | (simp; done) | (simp [*]; done)), H', ⟨by have := HK1.out; have := HJ5.out; have := HJ11.out; have := HK4.out; first | omega | exact Nat.le_refl _⟩, ⟨by (with_reducible repeat (first | apply Kd.R_alloc | apply Kd.R_drewN | apply Kd.R_drew)); exact HO_5.out⟩, ⟨by repeat (first | (with_reducible first | exact HB.out | apply below_alloc | apply pw_below_drewN | apply below_drew1) | exact HB.out)⟩⟩
                            case rest => as_aux_lemma =>
                              clear HC51
                              try clear c1
                              try clear p1
                              try clear q1
                              try clear hx1
                              try clear c2
                              try clear c2b0
                              try clear c2b1
                              try clear p2
                              try clear q2
                              try clear hx2
                              try clear c3
                              try clear c3b0
                              try clear c4
                              try clear c4b0
                              try clear c5
                              try clear p5
                              try clear q5
                              try clear hx5
                              try clear p6
                              try clear c7
                              try clear c7b0
                              try clear c7b1
                              try clear c8
                              try clear c8b0
                              try clear c8b1
                              try clear c9
                              try clear c9b0
                              try clear c9b1
                              try clear c10
                              try clear c11
                              try clear c11b0
                              try clear c11b1
                              try clear c12
                              try clear c13
                              try clear c13b0
                              try clear c13b1
                              try clear c14
                              try clear c14b0
                              try clear c16
                              try clear c16b0
                              try clear p17
                              try clear q17
                              try clear hx17
                              try clear c18
                              try clear c19
                              try clear c19b0
                              try clear c20
                              try clear c20b0
                              try clear c21
                              try clear p21
                              try clear q21
                              try clear hx21
                              try clear c22
                              try clear c22b0
                              try clear c22b1
                              try clear c23
                              try clear c24
                              try clear c26
                              try clear c26b0
                              try clear c27
                              try clear c27b0
                              try clear p28
                              try clear q28
                              try clear hx28
                              try clear c30
                              try clear c31
                              try clear c31b0
                              try clear c32
                              try clear c32b0
                              try clear c32b1
                              try clear c33
                              try clear c33b0
                              try clear c33b1
                              try clear c34
                              try clear c34b0
                              try clear c34b1
                              try clear c36
                              try clear c37
                              try clear c43
                              try clear c50
                              try clear c52
                              try clear c52b0
                              try clear c53
                              try clear c53b0
                              try clear p54
                              try clear q54
                              try clear hx54
                              try clear c56
                              try clear hcz39_0
                              try clear hcz39_1
                              try clear hcz39_2
                              try clear hcz41_0
                              try clear hcz41_1
                              try clear hcz41_2
                              try clear hcz45_0
                              try clear hcz45_1
                              try clear hcz45_2
                              try clear hcz47_0
                              try clear hcz47_1
                              try clear hcz47_2
                              try clear hfz39_0
                              try clear hfz39_1
                              try clear hfz39_2
                              try clear hfz41_0
                              try clear hfz41_1
                              try clear hfz41_2
                              try clear hfz45_0
                              try clear hfz45_1
                              try clear hfz45_2
                              try clear hfz47_0
                              try clear hfz47_1
                              try clear hfz47_2
                              try clear p1
                              try clear p17
                              try clear p2
                              try clear p21
                              try clear p28
                              try clear p5
                              try clear p54
                              try clear p6
                              try clear q1
                              try clear q17
                              try clear q2
                              try clear q21
                              try clear q28
                              try clear q5
                              try clear q54
                              obtain ⟨kq, x9_50, rfl, HA, HJ50, HO_5, HB⟩ := hcut
                              cases kq with
                              | zero => exact absurd HA.out (by simp [interleaveref01_Scan.j7])
                              | succ kj50 =>
                                have H := HA.out
                                clear HA
                                simp only [interleaveref01_Scan.j7] at H
                                by_cases c57 : 0 ≤ x7_1
                                · rw [if_pos c57] at H
                                  have c57b0 := eq_true c57
                                  have c57b1 : decide (0 ≤ x7_1) = true := decide_eq_true c57
                                  clear c57
                                  by_cases c58 : x7_1 ≤ x9_50
                                  · rw [if_pos c58] at H
                                    have c58b0 := eq_true c58
                                    have c58b1 : decide (x7_1 ≤ x9_50) = true := decide_eq_true c58
                                    clear c58
                                    by_cases c59 : x9_50 ≤ (a0.size : Int)
                                    · rw [if_pos c59] at H
                                      have c59b0 := eq_true c59
                                      have c59b1 : decide (x9_50 ≤ (a0.size : Int)) = true := decide_eq_true c59
                                      clear c59
                                      replace H := Option.bind_eq_some_iff.mp H
                                      obtain ⟨⟨t196, t197⟩, A600, H⟩ := H
                                      replace H : (if t197 = true then (if x9_50 < (a0.size : Int) then (if 0 ≤ x9_50 then ((interleaveref01_inner.f (bt a0 x9_50)).bind fun t198 => (if t198 = true then (some (([] : List (S27)), 3, x6_1)) else (if x5_1.length < 4398046511104 then (interleaveref01_Scan.l0 kj50 a0 (x5_1 ++ [(⟨2, a0.extract (x7_1 : Int).toNat (x9_50 : Int).toNat, x6_1⟩ : S27)]) x6_1 x9_50) else (none)))) else (none)) else (if x5_1.length < 4398046511104 then (interleaveref01_Scan.l0 kj50 a0 (x5_1 ++ [(⟨2, a0.extract (x7_1 : Int).toNat (x9_50 : Int).toNat, x6_1⟩ : S27)]) x6_1 x9_50) else (none))) else (some (([] : List (S27)), 3, x6_1))) = some (r1, r2, r3) := H
                                      have A60 := Aside0.mk A600
                                      clear A600
                                      by_cases c61 : t197 = true
                                      · subst c61
                                        have H1 : (if x9_50 < (a0.size : Int) then (if 0 ≤ x9_50 then ((interleaveref01_inner.f (bt a0 x9_50)).bind fun t198 => (if t198 = true then (some (([] : List (S27)), 3, x6_1)) else (if x5_1.length < 4398046511104 then (interleaveref01_Scan.l0 kj50 a0 (x5_1 ++ [(⟨2, a0.extract (x7_1 : Int).toNat (x9_50 : Int).toNat, x6_1⟩ : S27)]) x6_1 x9_50) else (none)))) else (none)) else (if x5_1.length < 4398046511104 then (interleaveref01_Scan.l0 kj50 a0 (x5_1 ++ [(⟨2, a0.extract (x7_1 : Int).toNat (x9_50 : Int).toNat, x6_1⟩ : S27)]) x6_1 x9_50) else (none))) = some (r1, r2, r3) := by rw [if_pos rfl] at H; exact H
                                        clear H
                                        have H := H1
                                        clear H1
                                        by_cases c62 : x9_50 < (a0.size : Int)
                                        · rw [if_pos c62] at H
                                          have c62b0 : decide (x9_50 < (a0.size : Int)) = true := decide_eq_true c62
                                          clear c62
                                          by_cases c63 : 0 ≤ x9_50
                                          · rw [if_pos c63] at H
                                            have c63b0 : decide (0 ≤ x9_50) = true := decide_eq_true c63
                                            clear c63
                                            replace H := Option.bind_eq_some_iff.mp H
                                            obtain ⟨t198, A650, H⟩ := H
                                            replace H : (if t198 = true then (some (([] : List (S27)), 3, x6_1)) else (if x5_1.length < 4398046511104 then (interleaveref01_Scan.l0 kj50 a0 (x5_1 ++ [(⟨2, a0.extract (x7_1 : Int).toNat (x9_50 : Int).toNat, x6_1⟩ : S27)]) x6_1 x9_50) else (none))) = some (r1, r2, r3) := H
                                            have A65 := Aside0.mk A650
                                            clear A650
                                            by_cases c66 : t198 = true
                                            · subst c66
                                              have H1 : (some (([] : List (S27)), 3, x6_1)) = some (r1, r2, r3) := by rw [if_pos rfl] at H; exact H
                                              clear H
                                              have H := H1
                                              clear H1
                                              simp only [Option.some.injEq, Prod.mk.injEq] at H
                                              obtain ⟨rfl, rfl, rfl⟩ := H
                                              go_wp2_with (first | ((with_reducible refine gate_callee (f := 24) rfl ?_); refine goesL_ (some 146) rfl rfl Tryd.func24 (by kernel_rfl) rfl #[.string (a0.extract (x7_1 : Int).toNat (x9_50 : Int).toNat)] rfl (by (try simp only [List.map_toArray, List.map_cons, List.map_nil]); first | done | rfl | (simp only [List.length_drop, List.length_take]; rfl)) ?_; (with_reducible refine (interleaveref01_Number.calls kj50 (a0.extract (x7_1 : Int).toNat (x9_50 : Int).toNat) t196 true _ A60.out).mono ?_); rintro e w' ⟨rfl, ⟨nd, rfl⟩⟩; refine ⟨_, rfl, ?_⟩; have p64 : 0 ≤ (x9_50 : Int) := of_decide_eq_true (by first | (with_reducible assumption) | assumption); have q64 : x9_50 < (a0.size : Int) := of_decide_eq_true (by first | (with_reducible assumption) | assumption); have hx64 := bt_at a0 x9_50; replace p64 := eq_true p64; replace q64 := eq_true q64) | (go_at_call 22; (with_reducible refine (interleaveref01_inner.calls (bt a0 x9_50) true _ A65.out).mono ?_); rintro e w' ⟨rfl, ⟨nd, rfl⟩⟩))
                                              go_ret3
                                              exact ⟨_, by first | rfl | (simp [errW_none, errW_some] <;> rfl) | (simp [*, errW_none, errW_some] <;> rfl), by first | exact Kd.R_nil _ _ _ _ _ | exact Kd.N_nil _ _ _ _ _ | exact Kd.V_nil _ _ _ _ _ | exact Kd.Q_nil _ _ _ _ _ | exact Kd.S_nil _ _ _ _ _, by repeat (first | (with_reducible first | exact HB.out | apply below_alloc | apply pw_below_drewN | apply below_drew1) | exact HB.out)⟩
                                            · replace c66 := Bool.eq_false_iff.mpr c66
                                              subst c66
                                              have H1 : (if x5_1.length < 4398046511104 then (interleaveref01_Scan.l0 kj50 a0 (x5_1 ++ [(⟨2, a0.extract (x7_1 : Int).toNat (x9_50 : Int).toNat, x6_1⟩ : S27)]) x6_1 x9_50) else (none)) = some (r1, r2, r3) := by rw [if_neg (show ¬ (false = true) by decide)] at H; exact H
                                              clear H
                                              have H := H1
                                              clear H1
                                              have c67b0 := eq_true (of_decide_eq_true (by first | (with_reducible assumption) | assumption) : 0 ≤ x7_1)
                                              have c68b0 := eq_true (of_decide_eq_true (by first | (with_reducible assumption) | assumption) : x7_1 ≤ x9_50)
                                              have c69b0 := eq_true (of_decide_eq_true (by first | (with_reducible assumption) | assumption) : x9_50 ≤ (a0.size : Int))
                                              by_cases c70 : x5_1.length < 4398046511104
                                              · rw [if_pos c70] at H
                                                have LMc70 := Aside0.mk c70
                                                clear c70
                                                obtain ⟨y199, hy199⟩ : ∃ y_ : List (S27), y_ = (x5_1 ++ [(⟨2, a0.extract (x7_1 : Int).toNat (x9_50 : Int).toNat, x6_1⟩ : S27)]) := ⟨_, rfl⟩
                                                replace H : (interleaveref01_Scan.l0 kj50 a0 y199 x6_1 x9_50) = some (r1, r2, r3) := by first | (rw [hy199]; with_reducible exact H) | (have H2_ := (Option.bind_some _ _).symm.trans H; rw [hy199]; with_reducible exact H2_) | (have H2_ := (Option.bind_some _ _).symm.trans H; with_reducible exact H2_) | with_reducible exact H | (rw [hy199]; exact H) | exact H
                                                have Ny199 := Aside0.mk hy199
                                                clear hy199
                                                have H' := Aside0.mk H
                                                clear H
                                                go_wp2_with (first | ((with_reducible refine gate_callee (f := 24) rfl ?_); refine goesL_ (some 146) rfl rfl Tryd.func24 (by kernel_rfl) rfl #[.string (a0.extract (x7_1 : Int).toNat (x9_50 : Int).toNat)] rfl (by (try simp only [List.map_toArray, List.map_cons, List.map_nil]); first | done | rfl | (simp only [List.length_drop, List.length_take]; rfl)) ?_; (with_reducible refine (interleaveref01_Number.calls kj50 (a0.extract (x7_1 : Int).toNat (x9_50 : Int).toNat) t196 true _ A60.out).mono ?_); rintro e w' ⟨rfl, ⟨nd, rfl⟩⟩; refine ⟨_, rfl, ?_⟩; have p64 : 0 ≤ (x9_50 : Int) := of_decide_eq_true (by first | (with_reducible assumption) | assumption); have q64 : x9_50 < (a0.size : Int) := of_decide_eq_true (by first | (with_reducible assumption) | assumption); have hx64 := bt_at a0 x9_50; replace p64 := eq_true p64; replace q64 := eq_true q64) | (go_at_call 22; (with_reducible refine (interleaveref01_inner.calls (bt a0 x9_50) false _ A65.out).mono ?_); rintro e w' ⟨rfl, ⟨nd, rfl⟩⟩) | ((with_reducible refine gate_builtin (b := .append) (xs := #[.tmp 164, .tmp 171]) rfl ?_); (try (refine gate_guard (by rfl) ?_; dsimp only)); at_builtin; refine Kd.R_append k27 (w0 := w) w.heap.size rfl (.tmp 164) (.tmp 171) 22 27 (.agg #[(.int .i64 0), (.string ⟨#[]⟩), (.int .i64 0)]) 32 rfl Tryd.underlying22 info27 rfl (by decide) (by omega) u5 x5_1 (⟨2, a0.extract (x7_1 : Int).toNat (x9_50 : Int).toNat, x6_1⟩ : S27) [.int .i64 2, .string (a0.extract (x7_1 : Int).toNat (x9_50 : Int).toNat), .int .i64 x6_1] (fun _ => True) (fun _ => False) rfl rfl ?aP (fun _ hk => hk.elim) ?aF ?aO ?aB ?aS ?aL ?_; (case aP => exact k27_mkM _ _ _ (⟨2, a0.extract (x7_1 : Int).toNat (x9_50 : Int).toNat, x6_1⟩ : S27)); (case aB => exact (by repeat (first | (with_reducible first | exact HB.out | apply below_alloc | apply pw_below_drewN | apply below_drew1) | exact HB.out))); (case aF => exact (fun _ _ => trivial)); (case aO => exact (by (with_reducible repeat (first | apply Kd.R_alloc | apply Kd.R_drewN | apply Kd.R_drew)); exact HO_5.out)); (case aS => exact (below_size (by repeat (first | (with_reducible first | exact HB.out | apply below_alloc | apply pw_below_drewN | apply below_drew1) | exact HB.out)))); (case aL => have := LMc70.out; omega); intro v200 w71 ho hb hg hat; rw [← Ny199.out] at ho; have n0_ := Aside0.mk (hb); have n1_ := Aside0.mk (ho); clear HB; clear HO_5; have HB := n0_; have HO201 := n1_; clear n0_ n1_; clear ho hb hg hat))
                                                go_roundg kj50
                                                case measure => have := HK1.out; have := HJ5.out; have := HJ11.out; have := HJ50.out; omega
                                                case rel => exact ⟨(y199), (x6_1), (x9_50), (by first | rfl | (simp; done) | (simp [*]; done)), (by first | rfl | (simp; done) | (simp [*]; done)), H', ⟨by have := HK1.out; have := HJ5.out; have := HJ11.out; have := HJ50.out; omega⟩, ⟨by (with_reducible repeat (first | apply Kd.R_alloc | apply Kd.R_drewN | apply Kd.R_drew)); exact HO201.out⟩, ⟨by repeat (first | (with_reducible first | exact HB.out | apply below_alloc | apply pw_below_drewN | apply below_drew1) | exact HB.out)⟩⟩
                                              · rw [if_neg c70] at H
                                                exact absurd H (by simp)
                                          · rw [if_neg c63] at H
                                            exact absurd H (by simp)
                                        · rw [if_neg c62] at H
                                          have c62b0 : decide (x9_50 < (a0.size : Int)) = false := decide_eq_false c62
                                          clear c62
                                          have c72b0 := eq_true (of_decide_eq_true (by first | (with_reducible assumption) | assumption) : 0 ≤ x7_1)
                                          have c73b0 := eq_true (of_decide_eq_true (by first | (with_reducible assumption) | assumption) : x7_1 ≤ x9_50)
                                          have c74b0 := eq_true (of_decide_eq_true (by first | (with_reducible assumption) | assumption) : x9_50 ≤ (a0.size : Int))
                                          by_cases c75 : x5_1.length < 4398046511104
                                          · rw [if_pos c75] at H
                                            have LMc75 := Aside0.mk c75
                                            clear c75
                                            obtain ⟨y202, hy202⟩ : ∃ y_ : List (S27), y_ = (x5_1 ++ [(⟨2, a0.extract (x7_1 : Int).toNat (x9_50 : Int).toNat, x6_1⟩ : S27)]) := ⟨_, rfl⟩
                                            replace H : (interleaveref01_Scan.l0 kj50 a0 y202 x6_1 x9_50) = some (r1, r2, r3) := by first | (rw [hy202]; with_reducible exact H) | (have H2_ := (Option.bind_some _ _).symm.trans H; rw [hy202]; with_reducible exact H2_) | (have H2_ := (Option.bind_some _ _).symm.trans H; with_reducible exact H2_) | with_reducible exact H | (rw [hy202]; exact H) | exact H
                                            have Ny202 := Aside0.mk hy202
                                            clear hy202
                                            have H' := Aside0.mk H
                                            clear H
                                            go_wp2_with (first | ((with_reducible refine gate_callee (f := 24) rfl ?_); refine goesL_ (some 146) rfl rfl Tryd.func24 (by kernel_rfl) rfl #[.string (a0.extract (x7_1 : Int).toNat (x9_50 : Int).toNat)] rfl (by (try simp only [List.map_toArray, List.map_cons, List.map_nil]); first | done | rfl | (simp only [List.length_drop, List.length_take]; rfl)) ?_; (with_reducible refine (interleaveref01_Number.calls kj50 (a0.extract (x7_1 : Int).toNat (x9_50 : Int).toNat) t196 true _ A60.out).mono ?_); rintro e w' ⟨rfl, ⟨nd, rfl⟩⟩; refine ⟨_, rfl, ?_⟩) | ((with_reducible refine gate_builtin (b := .append) (xs := #[.tmp 164, .tmp 171]) rfl ?_); (try (refine gate_guard (by rfl) ?_; dsimp only)); at_builtin; refine Kd.R_append k27 (w0 := w) w.heap.size rfl (.tmp 164) (.tmp 171) 22 27 (.agg #[(.int .i64 0), (.string ⟨#[]⟩), (.int .i64 0)]) 32 rfl Tryd.underlying22 info27 rfl (by decide) (by omega) u5 x5_1 (⟨2, a0.extract (x7_1 : Int).toNat (x9_50 : Int).toNat, x6_1⟩ : S27) [.int .i64 2, .string (a0.extract (x7_1 : Int).toNat (x9_50 : Int).toNat), .int .i64 x6_1] (fun _ => True) (fun _ => False) rfl rfl ?aP (fun _ hk => hk.elim) ?aF ?aO ?aB ?aS ?aL ?_; (case aP => exact k27_mkM _ _ _ (⟨2, a0.extract (x7_1 : Int).toNat (x9_50 : Int).toNat, x6_1⟩ : S27)); (case aB => exact (by repeat (first | (with_reducible first | exact HB.out | apply below_alloc | apply pw_below_drewN | apply below_drew1) | exact HB.out))); (case aF => exact (fun _ _ => trivial)); (case aO => exact (by (with_reducible repeat (first | apply Kd.R_alloc | apply Kd.R_drewN | apply Kd.R_drew)); exact HO_5.out)); (case aS => exact (below_size (by repeat (first | (with_reducible first | exact HB.out | apply below_alloc | apply pw_below_drewN | apply below_drew1) | exact HB.out)))); (case aL => have := LMc75.out; omega); intro v203 w76 ho hb hg hat; rw [← Ny202.out] at ho; have n0_ := Aside0.mk (hb); have n1_ := Aside0.mk (ho); clear HB; clear HO_5; have HB := n0_; have HO204 := n1_; clear n0_ n1_; clear ho hb hg hat))
                                            go_roundg kj50
                                            case measure => have := HK1.out; have := HJ5.out; have := HJ11.out; have := HJ50.out; omega
                                            case rel => exact ⟨(y202), (x6_1), (x9_50), (by first | rfl | (simp; done) | (simp [*]; done)), (by first | rfl | (simp; done) | (simp [*]; done)), H', ⟨by have := HK1.out; have := HJ5.out; have := HJ11.out; have := HJ50.out; omega⟩, ⟨by (with_reducible repeat (first | apply Kd.R_alloc | apply Kd.R_drewN | apply Kd.R_drew)); exact HO204.out⟩, ⟨by repeat (first | (with_reducible first | exact HB.out | apply below_alloc | apply pw_below_drewN | apply below_drew1) | exact HB.out)⟩⟩
                                          · rw [if_neg c75] at H
                                            exact absurd H (by simp)
                                      · replace c61 := Bool.eq_false_iff.mpr c61
                                        subst c61
                                        have H1 : (some (([] : List (S27)), 3, x6_1)) = some (r1, r2, r3) := by rw [if_neg (show ¬ (false = true) by decide)] at H; exact H
                                        clear H
                                        have H := H1
                                        clear H1
                                        simp only [Option.some.injEq, Prod.mk.injEq] at H
                                        obtain ⟨rfl, rfl, rfl⟩ := H
                                        go_wp2_with (first | ((with_reducible refine gate_callee (f := 24) rfl ?_); refine goesL_ (some 146) rfl rfl Tryd.func24 (by kernel_rfl) rfl #[.string (a0.extract (x7_1 : Int).toNat (x9_50 : Int).toNat)] rfl (by (try simp only [List.map_toArray, List.map_cons, List.map_nil]); first | done | rfl | (simp only [List.length_drop, List.length_take]; rfl)) ?_; (with_reducible refine (interleaveref01_Number.calls kj50 (a0.extract (x7_1 : Int).toNat (x9_50 : Int).toNat) t196 false _ A60.out).mono ?_); rintro e w' ⟨rfl, ⟨nd, rfl⟩⟩; refine ⟨_, rfl, ?_⟩))
                                        go_ret3
                                        exact ⟨_, by first | rfl | (simp [errW_none, errW_some] <;> rfl) | (simp [*, errW_none, errW_some] <;> rfl), by first | exact Kd.R_nil _ _ _ _ _ | exact Kd.N_nil _ _ _ _ _ | exact Kd.V_nil _ _ _ _ _ | exact Kd.Q_nil _ _ _ _ _ | exact Kd.S_nil _ _ _ _ _, by repeat (first | (with_reducible first | exact HB.out | apply below_alloc | apply pw_below_drewN | apply below_drew1) | exact HB.out)⟩
                                    · rw [if_neg c59] at H
                                      exact absurd H (by simp)
                                  · rw [if_neg c58] at H
                                    exact absurd H (by simp)
                                · rw [if_neg c57] at H
                                  exact absurd H (by simp)
                          · replace c50 := Bool.eq_false_iff.mpr c50
                            subst c50
                            have H1 : ((interleaveref01_signAt.f kj11 a0 x7_1).bind fun t205 => (if t205.toList = ([] : List UInt8) then (some (([] : List (S27)), 3, x6_1)) else (if x5_1.length < 4398046511104 then (interleaveref01_Scan.l0 kj11 a0 (x5_1 ++ [(⟨4, t205, x6_1⟩ : S27)]) x6_1 (wrap64 (x7_1 + (t205.size : Int)))) else (none)))) = some (r1, r2, r3) := by rw [if_neg (show ¬ (false = true) by decide)] at H; exact H
                            clear H
                            have H := H1
                            clear H1
                            replace H := Option.bind_eq_some_iff.mp H
                            obtain ⟨t205, A770, H⟩ := H
                            replace H : (if t205.toList = ([] : List UInt8) then (some (([] : List (S27)), 3, x6_1)) else (if x5_1.length < 4398046511104 then (interleaveref01_Scan.l0 kj11 a0 (x5_1 ++ [(⟨4, t205, x6_1⟩ : S27)]) x6_1 (wrap64 (x7_1 + (t205.size : Int)))) else (none))) = some (r1, r2, r3) := H
                            have A77 := Aside0.mk A770
                            clear A770
                            by_cases c78 : t205.toList = ([] : List UInt8)
                            · rw [if_pos c78] at H
                              have c78b0 : (t205.toList == ([] : List UInt8)) = true := beq_iff_eq.mpr c78
                              have c78b1 : (t205.toList != ([] : List UInt8)) = false := bne_eq_false_iff_eq.mpr c78
                              clear c78
                              simp only [Option.some.injEq, Prod.mk.injEq] at H
                              obtain ⟨rfl, rfl, rfl⟩ := H
                              go_wp2_with (first | ((with_reducible refine gate_callee (f := 21) rfl ?_); refine goesL_ (some 93) rfl rfl Tryd.func21 (by kernel_rfl) rfl #[.int .u8 (bt a0 x7_1)] rfl (by (try simp only [List.map_toArray, List.map_cons, List.map_nil]); first | done | rfl | (simp only [List.length_drop, List.length_take]; rfl)) ?_; (with_reducible refine (interleaveref01_Letter.calls (bt a0 x7_1) false _ A23.out).mono ?_); rintro e w' ⟨rfl, ⟨nd, rfl⟩⟩; refine ⟨_, rfl, ?_⟩) | ((with_reducible refine gate_callee (f := 23) rfl ?_); refine goesL_ (some 128) rfl rfl Tryd.func23 (by kernel_rfl) rfl #[.int .u8 (bt a0 x7_1)] rfl (by (try simp only [List.map_toArray, List.map_cons, List.map_nil]); first | done | rfl | (simp only [List.length_drop, List.length_take]; rfl)) ?_; (with_reducible refine (interleaveref01_Digit.calls (bt a0 x7_1) false _ A49.out).mono ?_); rintro e w' ⟨rfl, ⟨nd, rfl⟩⟩; refine ⟨_, rfl, ?_⟩) | ((with_reducible refine gate_callee (f := 25) rfl ?_); refine goesL_ (some 27) rfl rfl Tryd.func25 (by kernel_rfl) rfl #[.string a0, .int .i64 x7_1] rfl (by (try simp only [List.map_toArray, List.map_cons, List.map_nil]); first | done | rfl | (simp only [List.length_drop, List.length_take]; rfl)) ?_; (with_reducible refine (interleaveref01_signAt.calls kj11 a0 x7_1 t205 _ A77.out).mono ?_); rintro e w79 ⟨rfl, hb⟩; refine ⟨_, rfl, ?_⟩; have n0_ := Aside0.mk (Kd.R_below (by (with_reducible repeat (first | apply Kd.R_alloc | apply Kd.R_drewN | apply Kd.R_drew)); exact HO_5.out) hb); have n1_ := Aside0.mk (below_step (by repeat (first | (with_reducible first | exact HB.out | apply below_alloc | apply pw_below_drewN | apply below_drew1) | exact HB.out)) hb); clear HO_5; clear HB; have HO_5 := n0_; have HB := n1_; clear n0_ n1_; (try clear hb); (try clear hb2); (try clear hk); (try clear hi)))
                              go_ret3
                              exact ⟨_, by first | rfl | (simp [errW_none, errW_some] <;> rfl) | (simp [*, errW_none, errW_some] <;> rfl), by first | exact Kd.R_nil _ _ _ _ _ | exact Kd.N_nil _ _ _ _ _ | exact Kd.V_nil _ _ _ _ _ | exact Kd.Q_nil _ _ _ _ _ | exact Kd.S_nil _ _ _ _ _, by repeat (first | (with_reducible first | exact HB.out | apply below_alloc | apply pw_below_drewN | apply below_drew1) | exact HB.out)⟩
                            · rw [if_neg c78] at H
                              have c78b0 : (t205.toList == ([] : List UInt8)) = false := beq_eq_false_iff_ne.mpr c78
                              have c78b1 : (t205.toList != ([] : List UInt8)) = true := bne_iff_ne.mpr c78
                              by_cases c80 : x5_1.length < 4398046511104
                              · rw [if_pos c80] at H
                                have LMc80 := Aside0.mk c80
                                clear c80
                                obtain ⟨y206, hy206⟩ : ∃ y_ : List (S27), y_ = (x5_1 ++ [(⟨4, t205, x6_1⟩ : S27)]) := ⟨_, rfl⟩
                                replace H : (interleaveref01_Scan.l0 kj11 a0 y206 x6_1 (wrap64 (x7_1 + (t205.size : Int)))) = some (r1, r2, r3) := by first | (rw [hy206]; with_reducible exact H) | (have H2_ := (Option.bind_some _ _).symm.trans H; rw [hy206]; with_reducible exact H2_) | (have H2_ := (Option.bind_some _ _).symm.trans H; with_reducible exact H2_) | with_reducible exact H | (rw [hy206]; exact H) | exact H
                                have Ny206 := Aside0.mk hy206
                                clear hy206
                                have H' := Aside0.mk H
                                clear H
                                go_wp2_with (first | ((with_reducible refine gate_callee (f := 21) rfl ?_); refine goesL_ (some 93) rfl rfl Tryd.func21 (by kernel_rfl) rfl #[.int .u8 (bt a0 x7_1)] rfl (by (try simp only [List.map_toArray, List.map_cons, List.map_nil]); first | done | rfl | (simp only [List.length_drop, List.length_take]; rfl)) ?_; (with_reducible refine (interleaveref01_Letter.calls (bt a0 x7_1) false _ A23.out).mono ?_); rintro e w' ⟨rfl, ⟨nd, rfl⟩⟩; refine ⟨_, rfl, ?_⟩) | ((with_reducible refine gate_callee (f := 23) rfl ?_); refine goesL_ (some 128) rfl rfl Tryd.func23 (by kernel_rfl) rfl #[.int .u8 (bt a0 x7_1)] rfl (by (try simp only [List.map_toArray, List.map_cons, List.map_nil]); first | done | rfl | (simp only [List.length_drop, List.length_take]; rfl)) ?_; (with_reducible refine (interleaveref01_Digit.calls (bt a0 x7_1) false _ A49.out).mono ?_); rintro e w' ⟨rfl, ⟨nd, rfl⟩⟩; refine ⟨_, rfl, ?_⟩) | ((with_reducible refine gate_callee (f := 25) rfl ?_); refine goesL_ (some 27) rfl rfl Tryd.func25 (by kernel_rfl) rfl #[.string a0, .int .i64 x7_1] rfl (by (try simp only [List.map_toArray, List.map_cons, List.map_nil]); first | done | rfl | (simp only [List.length_drop, List.length_take]; rfl)) ?_; (with_reducible refine (interleaveref01_signAt.calls kj11 a0 x7_1 t205 _ A77.out).mono ?_); rintro e w81 ⟨rfl, hb⟩; refine ⟨_, rfl, ?_⟩; have n0_ := Aside0.mk (Kd.R_below (by (with_reducible repeat (first | apply Kd.R_alloc | apply Kd.R_drewN | apply Kd.R_drew)); exact HO_5.out) hb); have n1_ := Aside0.mk (below_step (by repeat (first | (with_reducible first | exact HB.out | apply below_alloc | apply pw_below_drewN | apply below_drew1) | exact HB.out)) hb); clear HO_5; clear HB; have HO_5 := n0_; have HB := n1_; clear n0_ n1_; (try clear hb); (try clear hb2); (try clear hk); (try clear hi)) | ((with_reducible refine gate_builtin (b := .append) (xs := #[.tmp 31, .tmp 35]) rfl ?_); (try (refine gate_guard (by rfl) ?_; dsimp only)); at_builtin; refine Kd.R_append k27 (w0 := w) w.heap.size rfl (.tmp 31) (.tmp 35) 22 27 (.agg #[(.int .i64 0), (.string ⟨#[]⟩), (.int .i64 0)]) 32 rfl Tryd.underlying22 info27 rfl (by decide) (by omega) u5 x5_1 (⟨4, t205, x6_1⟩ : S27) [.int .i64 4, .string t205, .int .i64 x6_1] (fun _ => True) (fun _ => False) rfl rfl ?aP (fun _ hk => hk.elim) ?aF ?aO ?aB ?aS ?aL ?_; (case aP => exact k27_mkM _ _ _ (⟨4, t205, x6_1⟩ : S27)); (case aB => exact (by repeat (first | (with_reducible first | exact HB.out | apply below_alloc | apply pw_below_drewN | apply below_drew1) | exact HB.out))); (case aF => exact (fun _ _ => trivial)); (case aO => exact (by (with_reducible repeat (first | apply Kd.R_alloc | apply Kd.R_drewN | apply Kd.R_drew)); exact HO_5.out)); (case aS => exact (below_size (by repeat (first | (with_reducible first | exact HB.out | apply below_alloc | apply pw_below_drewN | apply below_drew1) | exact HB.out)))); (case aL => have := LMc80.out; omega); intro v207 w82 ho hb hg hat; rw [← Ny206.out] at ho; have n0_ := Aside0.mk (hb); have n1_ := Aside0.mk (ho); clear HB; clear HO_5; have HB := n0_; have HO208 := n1_; clear n0_ n1_; clear ho hb hg hat))
                                go_roundg kj11
                                case measure => have := HK1.out; have := HJ5.out; have := HJ11.out; omega
                                case rel => exact ⟨(y206), (x6_1), (wrap64 (x7_1 + (t205.size : Int))), (by first | rfl | (simp; done) | (simp [*]; done)), (by first | rfl | (simp; done) | (simp [*]; done)), H', ⟨by have := HK1.out; have := HJ5.out; have := HJ11.out; omega⟩, ⟨by (with_reducible repeat (first | apply Kd.R_alloc | apply Kd.R_drewN | apply Kd.R_drew)); exact HO208.out⟩, ⟨by repeat (first | (with_reducible first | exact HB.out | apply below_alloc | apply pw_below_drewN | apply below_drew1) | exact HB.out)⟩⟩
                              · rw [if_neg c80] at H
                                exact absurd H (by simp)
          · rw [if_neg c4] at H
            exact absurd H (by simp)
        · rw [if_neg c3] at H
          have c3b0 : decide (x7_1 < (a0.size : Int)) = false := decide_eq_false c3
          clear c3
          simp only [Option.some.injEq, Prod.mk.injEq] at H
          obtain ⟨rfl, rfl, rfl⟩ := H
          go_wp2
          go_ret3
          exact ⟨_, by first | rfl | (simp [errW_none, errW_some] <;> rfl) | (simp [*, errW_none, errW_some] <;> rfl), by (with_reducible repeat (first | apply Kd.R_alloc | apply Kd.R_drewN | apply Kd.R_drew)); exact HO_5.out, by repeat (first | (with_reducible first | exact HB.out | apply below_alloc | apply pw_below_drewN | apply below_drew1) | exact HB.out)⟩

end Go.Proofs.YtdkloonoeklgaaaDoor.X
