/- What the rows have in common: what the condition on the listed variables gives a walk, and a world that meets it. -/
import Derived.Test.YtdkloonoeklgaaaDoorRows
import Derived.Test.YtdkloonoeklgaaaDoorGivC0
import Derived.Lay
import Derived.LaidHandle
import Derived.MakeChecks
import Derived.Stop.LaidErr
namespace Go.Proofs.YtdkloonoeklgaaaDoor
open Go Go.RowKit Go.ChangeShapes

theorem own : ownKnob Tryd.prog.godebug = none := by kernel_rfl
theorem gR : Tryd.prog.globalNamed "strconv.ErrRange" = some 2 := by kernel_rfl
theorem gRType : (Tryd.prog.globals[2]?).map (·.type) = some 50 := by kernel_rfl
theorem cells71 : Tryd.prog.cellsOf 71 = 1 := by kernel_rfl
theorem cells9 : Tryd.prog.cellsOf 9 = 1 := by kernel_rfl
theorem star : "*" ++ "errors.errorString" = "*errors.errorString" := by decide
theorem row69 (u : TypeId) (h : Tryd.prog.typeName? 3 u = some "*errors.errorString") : u = 69 :=
  typeName_ptr_named (nm := "errors.errorString") (by rw [star]; kernel_rfl) (by kernel_rfl) (by decide) u (by rw [star]; exact h)
noncomputable abbrev lst : List (String × DataW Unit) := [("math/bits.deBruijn32tab", Rows.laid_math_bits_deBruijn32tab), ("math/bits.deBruijn64tab", Rows.laid_math_bits_deBruijn64tab), ("internal/strconv.uint64pow10", Rows.laid_internal_strconv_uint64pow10), ("strconv.ErrRange", Rows.laid_strconv_ErrRange), ("strconv.ErrSyntax", Rows.laid_strconv_ErrSyntax)]

theorem gw_of_laid {W : World} (h : laidMetH Tryd.prog lst W) : X.GW W := by
  rw [MakeChecks.laidMetH_plain _ _ _ (by kernel_rfl)] at h
  have h3 : laidMet Tryd.prog [("strconv.ErrRange", Rows.laid_strconv_ErrRange), ("strconv.ErrSyntax", Rows.laid_strconv_ErrSyntax)] W := h.tail.tail.tail
  obtain ⟨a, s, hv, _⟩ := laid_sentinel h3 gR gRType Tryd.underlying50 row69 Tryd.underlying69 Tryd.underlying71 rfl rfl Tryd.underlying9 cells71 cells9
  exact ⟨_, by simpa using World.var?_cell gR hv 0, .inr ⟨_, _, rfl⟩⟩

noncomputable def laidWorld (os : Os) : World := (World.holding Tryd.prog os ⟨#[], #[], []⟩).layVars Tryd.prog lst
set_option maxRecDepth 100000 in
theorem laid_met (os : Os) (args : Array Value) : laidMetH Tryd.prog lst ((laidWorld os).forCall (fun _ _ => 0) ⟨#[], args, []⟩).memory := by
  rw [MakeChecks.laidMetH_plain _ _ _ (by kernel_rfl)]
  exact laidMet_of_run' 16 (by kernel_rfl) (by kernel_rfl)
end Go.Proofs.YtdkloonoeklgaaaDoor
