/- What a formula that comes in leads to, with the range of its numbers. -/
import Derived.Test.YtpaoepcebcjfhaaDoorOp
import Derived.Test.YtpaoepcebcjfhaaDoorForm
namespace Go.Proofs.YtpaoepcebcjfhaaDoor.X
open Go Go.RowKit Go.ChangeShapes Go.WideShapes Go.Proofs.YtpaoepcebcjfhaaDoorW.PrintWords
theorem fit1 {n : Int} (h : (Lit.int .i64 n).wf = true) : decide (-9223372036854775808 ≤ n ∧ n ≤ 9223372036854775807) = true := by
  have := i64_range h
  exact decide_eq_true (by omega)
theorem fit2 {n m : Int} (h : (Lit.int .i64 n).wf = true) (k : (Lit.int .i64 m).wf = true) : fitI [n, m] = true := by
  unfold fitI
  simp only [List.all_cons, List.all_nil, fit1 h, fit1 k, Bool.and_self]
theorem fit3 {n m q : Int} (h : (Lit.int .i64 n).wf = true) (k : (Lit.int .i64 m).wf = true) (g : (Lit.int .i64 q).wf = true) : fitI [n, m, q] = true := by
  unfold fitI
  simp only [List.all_cons, List.all_nil, fit1 h, fit1 k, fit1 g, Bool.and_self]
theorem fitL {l : List Int} (h : ∀ x ∈ l, (Lit.int .i64 x).wf = true) : fitI l = true := List.all_eq_true.2 fun x hx => fit1 (h x hx)
set_option maxRecDepth 100000
theorem opens_36w : Opens Tryd.prog k36 36 (fun x => fitI [x.f0, x.f1, x.f2] = true) := by
  intro H enc W base sp held fuel cs d p h _
  obtain ⟨xs, n, _, _, hl, hlen, hf⟩ := DataW.trod_struct Tryd.underlying36 h
  rw [c36] at hl
  match cs, hl with
  | [a, b, c], _ =>
  have g0 : DataW.trod enc Tryd.prog W base sp held n 3 (([a, b, c].drop 0).take (Tryd.prog.cellsOf 3)) = xs[0]? := hf 0 _ rfl
  have g1 : DataW.trod enc Tryd.prog W base sp held n 3 (([a, b, c].drop 1).take (Tryd.prog.cellsOf 3)) = xs[1]? := hf 1 _ rfl
  have g2 : DataW.trod enc Tryd.prog W base sp held n 3 (([a, b, c].drop 2).take (Tryd.prog.cellsOf 3)) = xs[2]? := hf 2 _ rfl
  rw [c3] at g0 g1 g2
  obtain ⟨x0, e0⟩ := get_some hlen (show 0 < 3 by omega)
  obtain ⟨x1, e1⟩ := get_some hlen (show 1 < 3 by omega)
  obtain ⟨x2, e2⟩ := get_some hlen (show 2 < 3 by omega)
  rw [e0] at g0
  rw [e1] at g1
  rw [e2] at g2

  obtain ⟨n0, r0, _, w0⟩ := DataW.trod_int Tryd.underlying3 g0
  obtain ⟨n1, r1, _, w1⟩ := DataW.trod_int Tryd.underlying3 g1
  obtain ⟨n2, r2, _, w2⟩ := DataW.trod_int Tryd.underlying3 g2
  have s0 : a = .int .i64 n0 := (List.cons.inj (show [a] = [.int .i64 n0] from r0)).1
  have s1 : b = .int .i64 n1 := (List.cons.inj (show [b] = [.int .i64 n1] from r1)).1
  have s2 : c = .int .i64 n2 := (List.cons.inj (show [c] = [.int .i64 n2] from r2)).1
  subst s0
  subst s1
  subst s2
  exact ⟨⟨n0, n1, n2⟩, k36_mk _ ⟨n0, n1, n2⟩, fit3 w0 w1 w2⟩
theorem opens_28w : Opens Tryd.prog (Kd.slice 36 k36) 28 (fun l => l.length * 24 ≤ reachBytes ∧ ∀ x ∈ l, fitI [x.f0, x.f1, x.f2] = true) := opens_slice Tryd.underlying28 opens_36w c36 (by kernel_rfl)
theorem opens_31w : Opens Tryd.prog k31 31 (fun x => fitI [x.f0, x.f1] = true ∧ (x.f2.all fun d => fitI [d.f0, d.f1, d.f2]) = true ∧ x.f3.all fitI = true ∧ x.f2.length < 140737488355328 ∧ x.f3.length < 140737488355328 ∧ ∀ u ∈ x.f3, u.length < 140737488355328) := by
  intro H enc W base sp held fuel cs d p h hw
  obtain ⟨xs, n, _, hx, hl, hlen, hf⟩ := DataW.trod_struct Tryd.underlying31 h
  rw [c31] at hl
  match cs, hl with
  | [a, b, c, d4], _ =>
  have g0 : DataW.trod enc Tryd.prog W base sp held n 3 (([a, b, c, d4].drop 0).take (Tryd.prog.cellsOf 3)) = xs[0]? := hf 0 _ rfl
  have g1 : DataW.trod enc Tryd.prog W base sp held n 3 (([a, b, c, d4].drop 1).take (Tryd.prog.cellsOf 3)) = xs[1]? := hf 1 _ rfl
  have g2 : DataW.trod enc Tryd.prog W base sp held n 28 (([a, b, c, d4].drop 2).take (Tryd.prog.cellsOf 28)) = xs[2]? := hf 2 _ rfl
  have g3 : DataW.trod enc Tryd.prog W base sp held n 29 (([a, b, c, d4].drop 3).take (Tryd.prog.cellsOf 29)) = xs[3]? := hf 3 _ rfl
  rw [c3] at g0 g1
  rw [c28] at g2
  rw [c29] at g3
  match xs, hlen with
  | [x0, x1, x2, x3], _ =>
  obtain ⟨rfl, rfl⟩ := Prod.mk.inj hx
  rw [DataW.weights, Tryd.underlying31] at hw

  simp only [List.map_cons, List.map_nil, DataW.weightsEach, List.all_append, Bool.and_eq_true, List.all_nil] at hw
  obtain ⟨n0, r0, _, w0⟩ := DataW.trod_int Tryd.underlying3 g0
  obtain ⟨n1, r1, _, w1⟩ := DataW.trod_int Tryd.underlying3 g1
  obtain ⟨l2, ⟨A2, c2, r2, lc2, hC2⟩, f2, f2w⟩ := opens_28w H enc W base sp held n _ _ _ g2 hw.2.2.1
  obtain ⟨l3, ⟨A3, c3', r3, lc3, hC3⟩, f3⟩ := opens_29 H enc W base sp held n _ _ _ g3 hw.2.2.2.1
  have s0 : a = .int .i64 n0 := (List.cons.inj (show [a] = [.int .i64 n0] from r0)).1
  have s1 : b = .int .i64 n1 := (List.cons.inj (show [b] = [.int .i64 n1] from r1)).1
  have s2 : c = .slice A2 l2.length c2 := (List.cons.inj (show [c] = [.slice A2 l2.length c2] from r2)).1
  have s3 : d4 = .slice A3 l3.length c3' := (List.cons.inj (show [d4] = [.slice A3 l3.length c3'] from r3)).1
  subst s0
  subst s1
  subst s2
  subst s3
  exact ⟨⟨n0, n1, l2, l3⟩, k31_mk _ ⟨n0, n1, l2, l3⟩ lc2 hC2 lc3 hC3, fit2 w0 w1, List.all_eq_true.2 f2w, List.all_eq_true.2 (fun u hu => fitL (f3.2 u hu).2), len24 f2, len24 f3.1, fun u hu => len8 (f3.2 u hu).1⟩
end Go.Proofs.YtpaoepcebcjfhaaDoor.X
