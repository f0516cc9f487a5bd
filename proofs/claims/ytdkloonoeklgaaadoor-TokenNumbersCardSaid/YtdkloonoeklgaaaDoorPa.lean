/- TokenNumbers: the plain law. -/
import Derived.Test.YtdkloonoeklgaaaDoorMe
namespace Go.Proofs.YtdkloonoeklgaaaDoor.X
open Go.RowKit Go.Proofs.YtdkloonoeklgaaaDoorW.PrintWords Go.Proofs.YtdkloonoeklgaaaDoorW.PrintLast Go.Proofs.YtdkloonoeklgaaaDoorW.PrintMore

theorem scan_at (s : ByteArray) (hs : s.size ≤ 4096) {v : List S27 × Int × Int} (h : scanL s.data.toList 1 = v) : Ev (fun k => token_Scan.f k s) v := h ▸ scan_ev s hs

theorem num1 : scanL [57, 50, 50, 51, 51, 55, 50, 48, 51, 54, 56, 53, 52, 55, 55, 53, 56, 48, 55, 32, 48, 48, 55] 1 = ([mkTok 2 [57, 50, 50, 51, 51, 55, 50, 48, 51, 54, 56, 53, 52, 55, 55, 53, 56, 48, 55] 1, mkTok 2 [48, 48, 55] 1], 0, 0) := by rfl
theorem num2 : scanL [10, 57, 50, 50, 51, 51, 55, 50, 48, 51, 54, 56, 53, 52, 55, 55, 53, 56, 48, 56] 1 = ([], 3, 2) := by rfl
theorem num3 : scanL [49, 120] 1 = ([], 3, 1) := by rfl
theorem num4 : scanL [49, 95] 1 = ([], 3, 1) := by rfl
theorem pureNumbers : interleavelaw01_TokenNumbers.Pure := by
  refine Ev.rounds (g := fun k => interleavelaw01_TokenNumbers.f k) ?_
  unfold interleavelaw01_TokenNumbers.f
  refine Ev.bind (scan_at _ (by decide) num1) ?_
  refine Ev.bind (scan_at _ (by decide) num2) ?_
  refine Ev.bind (scan_at _ (by decide) num3) ?_
  refine Ev.bind (scan_at _ (by decide) num4) ?_
  simp only [Go.ByteArray.toList_eq]
  exact Ev.congr (fun k => by rfl) (Ev.now true)
end Go.Proofs.YtdkloonoeklgaaaDoor.X
