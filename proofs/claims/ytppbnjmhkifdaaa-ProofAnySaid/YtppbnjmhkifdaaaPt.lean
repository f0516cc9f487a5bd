/- The sanity check answers true. -/
import Derived.Test.YtppbnjmhkifdaaaPs
namespace Go.Proofs.Ytppbnjmhkifdaaa.X
open Go Go.RowKit Go.Proofs.YtppbnjmhkifdaaaW.PrintWords Go.Proofs.YtppbnjmhkifdaaaW.PrintLast Go.Proofs.YtppbnjmhkifdaaaW.PrintMore
theorem norm_self {l : List Int} (hs : smallL l) (hp : l.Pairwise (fun x y => nkey x < nkey y)) : norm l = l := sorted_ext _ _ (norm_sorted hs) hp fun _ => norm_mem
theorem nrm_self {l : List Int} (hs : smallL l) (hp : l.Pairwise (fun x y => nkey x < nkey y)) (hc : clash l = false) : nrm l = (l, true) := by
  unfold nrm
  rw [hc, if_neg (by decide), norm_self hs hp]
def exq : List S75 := [⟨0, 1, -1⟩, ⟨1, 0, -1⟩]
def exc : List (List Int) := [[1], [2]]
def exs : List S50 := [⟨1, 0, [], 0, 0, 0⟩, ⟨1, 1, [], 0, 0, 0⟩, ⟨2, 0, [1, 2], 0, 0, 0⟩, ⟨3, 0, [], 0, 2, 0⟩, ⟨3, 0, [], 1, 3, 1⟩]
theorem n1 : nrm [1] = ([1], true) := nrm_self (by simp [smallL]) (by simp) (by decide)
theorem n2 : nrm [2] = ([2], true) := nrm_self (by simp [smallL]) (by simp) (by decide)
theorem n12 : nrm [-1, -2] = ([-1, -2], true) := nrm_self (by simp [smallL]) (by simp [nkey, nb, nt]) (by decide)
theorem nm2 : nrm [-2] = ([-2], true) := nrm_self (by simp [smallL]) (by simp) (by decide)
theorem n0 : nrm [] = ([], true) := nrm_self (by simp [smallL]) (by simp) (by decide)
theorem cyl12 : cylGo exq [1, 2] 0 [] [] [] = ([-1, -2], true) := by
  have b1 : bnd exq 1 = (0, 1, -1, true) := by decide
  have b2 : bnd exq 2 = (1, 0, -1, true) := by decide
  have hc : cycB [⟨0, 1, -1⟩, ⟨1, 0, -1⟩] [0, 1] = true := by decide +kernel
  unfold cylGo
  rw [b1]
  unfold cylGo
  rw [b2]
  unfold cylGo
  refine (if_pos hc).trans ?_
  rw [show ([] ++ [wrap64 (-1)] ++ [wrap64 (-2)] : List Int) = [-1, -2] by decide +kernel]
  exact n12
theorem s0 : stp exq exc [] ⟨1, 0, [], 0, 0, 0⟩ = ([1], true) := n1
theorem s1 : stp exq exc [[1]] ⟨1, 1, [], 0, 0, 0⟩ = ([2], true) := n2
theorem s2 : stp exq exc [[1], [2]] ⟨2, 0, [1, 2], 0, 0, 0⟩ = ([-1, -2], true) := cyl12
theorem s3 : stp exq exc [[1], [2], [-1, -2]] ⟨3, 0, [], 0, 2, 0⟩ = ([-2], true) := nm2
theorem s4 : stp exq exc [[1], [2], [-1, -2], [-2]] ⟨3, 0, [], 1, 3, 1⟩ = ([], true) := n0
theorem cls5 : cls exq exc exs 0 [] = ([[1], [2], [-1, -2], [-2], []], none) := by
  simp only [exs, cls, s0, s1, s2, s3, s4, List.nil_append, List.cons_append, if_pos trivial]
theorem cls4 : cls exq exc (exs.take 4) 0 [] = ([[1], [2], [-1, -2], [-2]], none) := by
  simp only [exs, List.take, cls, s0, s1, s2, s3, List.nil_append, List.cons_append, if_pos trivial]
theorem exc_ok : ∀ c ∈ exc, okC c := by simp [exc, okC, smallL]
theorem exs_ok : ∀ s ∈ exs, okS s := by simp [exs, okS, i64L]
theorem awake_ev : Ev (fun k => interleavelaw33_awake.f k) true := by
  have h1 := clauses_ev 2 2 exq exc (by decide) exc_ok exs (by decide) exs_ok
  have h2 := check_ev 2 2 exq exc (by decide) exc_ok exs (by decide) exs_ok
  have h3 := check_ev 2 2 exq exc (by decide) exc_ok (exs.take 4) (by decide) (fun s hs => exs_ok s (List.mem_of_mem_take hs))
  rw [cls5] at h1 h2
  rw [cls4] at h3
  unfold interleavelaw33_awake.f interleavelaw33_example.f
  simp only [Option.bind_some]
  refine Ev.bind h1 (Ev.bind h2 ?_)
  refine Ev.congr (fun k => if_pos (show (4 : Int) ≤ (exs.length : Int) by decide)) ?_
  refine Ev.bind h3 ?_
  refine Ev.congr (fun k => if_pos (show (0 : Int) = 0 from rfl)) (Ev.congr (fun k => if_pos (show (0 : Int) = 0 from rfl)) (Ev.congr (fun k => if_pos (show (5 : Int) = 5 from rfl)) (Ev.congr (fun k => if_pos (show (3 : Int) < 5 by decide)) ?_)))
  refine Ev.bind (same_self [-2] (by decide)) ?_
  exact Ev.now true
end Go.Proofs.Ytppbnjmhkifdaaa.X
