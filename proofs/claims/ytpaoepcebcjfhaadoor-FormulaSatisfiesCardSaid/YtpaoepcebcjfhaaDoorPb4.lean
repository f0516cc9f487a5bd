/- The sanity check answers true. -/
import Derived.Test.YtpaoepcebcjfhaaDoorPa
import Derived.Test.YtpaoepcebcjfhaaDoorX4a
namespace Go.Proofs.YtpaoepcebcjfhaaDoor.X
open Go Go.RowKit Go.Proofs.YtpaoepcebcjfhaaDoorW.PrintWords Go.Proofs.YtpaoepcebcjfhaaDoorW.PrintLast Go.Proofs.YtpaoepcebcjfhaaDoorW.PrintMore
theorem sort3 : sortN [3, -1, 3] = [-1, 3, 3] := by
  have e : ∀ a b : Int, nle a b = decide (nkey a ≤ nkey b) := fun _ _ => rfl
  simp [sortN, List.mergeSort, List.MergeSort.Internal.splitInTwo, e, nkey, nb, nt]
theorem comp3 : compN [-1, 3, 3] = [-1, 3] := by decide
theorem format_f : formula_Format.f 2 2 [⟨0, 1, -1⟩] [[1, -2]] = some ⟨#[102, 111, 114, 109, 117, 108, 97, 32, 50, 32, 50, 10, 97, 116, 111, 109, 32, 48, 32, 49, 32, 45, 49, 10, 99, 108, 97, 117, 115, 101, 32, 49, 32, 45, 50, 10]⟩ := by
  have h1 : fmtB 2 2 [⟨0, 1, -1⟩] [[1, -2]] = [102, 111, 114, 109, 117, 108, 97, 32, 50, 32, 50, 10, 97, 116, 111, 109, 32, 48, 32, 49, 32, 45, 49, 10, 99, 108, 97, 117, 115, 101, 32, 49, 32, 45, 50, 10] := by
    have i2 : numB 2 = [32, 50] := by simp [numB, Lib.itoa, Lib.decDigits]
    have i0 : numB 0 = [32, 48] := by simp [numB, Lib.itoa, Lib.decDigits]
    have i1 : numB 1 = [32, 49] := by simp [numB, Lib.itoa, Lib.decDigits]
    have j1 : numB (-1) = [32, 45, 49] := by simp [numB, Lib.itoa, Lib.decDigits]
    have j2 : numB (-2) = [32, 45, 50] := by simp [numB, Lib.itoa, Lib.decDigits]
    simp only [fmtB, atomB, lineB, List.flatMap_cons, List.flatMap_nil, i2, i0, i1, j1, j2, fmtH, fmtA, fmtC]
    rfl
  have h2 : fmtOk 2 2 [⟨0, 1, -1⟩] [[1, -2]] = true := by
    unfold fmtOk
    rw [h1]
    decide
  unfold formula_Format.f
  rw [if_pos h2, h1]
theorem normal3 (k : Nat) : formula_Normal.f (k + 10) [3, -1, 3] = some ([-1, 3], true) := by
  have h1 : okN [3, -1, 3] = true := by decide
  have h0 : ∀ k, formula_Normal.l0 (k + 3) [-1, 3] 1 = some ([-1, 3], true) := by
    intro k
    simp [formula_Normal.l0, formula_boolean.f, rd, wrap64]
  have h2 : ∀ k, formula_Normal.j0 (k + 4) [3, -1, 3] false = some ([-1, 3], true) := by
    intro k
    simp only [formula_Normal.j0]
    rw [if_neg (by decide), if_pos h1, if_pos (by decide), Option.bind_some, sort3, if_pos (by decide), comp3]
    exact h0 k
  simp [formula_Normal.f, slices_Contains_int_int.f, slices_Index_int_int.f, slices_Index_int_int.l0, rd, wrap64]
  exact h2 (k + 6)
theorem same3 (k : Nat) : interleaveref31_Same.f (k + 10) [-1, 3] [-1, 3] = some true := by
  simp [interleaveref31_Same.f, interleaveref31_Same.l0, rd, wrap64]
theorem bound3 (k : Nat) : formula_Bound.f (k + 10) 2 2 [⟨0, 1, -1⟩] [[1, -2]] (-1) = some (1, 0, 0, true) := by
  simp [formula_Bound.f, formula_Bound.j0, formula_boolean.f, rd_T36, wrap64]
theorem awake_ev : Ev (fun k => interleavelaw31_awake.f k) true := by
  refine ⟨10, fun k hk => ?_⟩
  obtain ⟨j, rfl⟩ : ∃ j, k = j + 10 := ⟨k - 10, by omega⟩
  unfold interleavelaw31_awake.f
  simp only [Option.bind_some]
  rw [bound3, Option.bind_some, normal3, Option.bind_some, if_pos rfl, if_pos rfl, if_pos (by decide), same3, Option.bind_some, if_pos rfl, format_f, Option.bind_some, Lib.toList_data]
  rfl
end Go.Proofs.YtpaoepcebcjfhaaDoor.X
