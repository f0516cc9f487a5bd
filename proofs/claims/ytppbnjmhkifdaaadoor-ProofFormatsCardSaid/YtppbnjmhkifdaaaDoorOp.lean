/- What a statement's argument leads to, as the walk tells it: a list of steps. -/
import Derived.Test.YtppbnjmhkifdaaaDoorPe
import Derived.Test.YtppbnjmhkifdaaaDoorRows
import Derived.DataReads
import Derived.SizedLaws
import Derived.ChangeOld
import Derived.OpenShut
namespace Go.Proofs.YtppbnjmhkifdaaaDoor.X
open Go Go.RowKit Go.ChangeShapes Go.WideShapes Go.Proofs.YtppbnjmhkifdaaaDoorW.PrintWords
/-- Whatever a value of type t is read as, is told by the kind k, and fits. -/
def Opens {α : Type} (P : Program) (k : Kd α) (t : TypeId) (fit : α → Prop) : Prop :=
  ∀ (H : Type) (enc : TypeId × Value → H) (W : World) (base : Nat) (sp : Nat → Bool) (held : Bool) (fuel : Nat) (cs : List Value) (d : DataW H) (p : List MemPlace),
    DataW.trod enc P W base sp held fuel t cs = some (d, p) → (d.weights P t).all (· ≤ reachBytes) = true → ∃ x, k.K W x cs ∧ fit x
variable {P : Program}
theorem opens_int {t : TypeId} {ik : IntKind} (hu : P.underlying t = some (.int ik)) : Opens P (Kd.int ik) t (fun n => (Lit.int ik n).wf = true) := by
  intro H enc W base sp held fuel cs d p h _
  obtain ⟨n, rfl, _, hw⟩ := DataW.trod_int hu h
  exact ⟨n, rfl, hw⟩
theorem opens_bool {t : TypeId} (hu : P.underlying t = some .bool) : Opens P Kd.bool t (fun _ => True) := by
  intro H enc W base sp held fuel cs d p h _
  obtain ⟨b, rfl, _⟩ := DataW.trod_bool hu h
  exact ⟨b, rfl, trivial⟩
theorem weights_all {H : Type} {e : TypeId} {l : List (DataW H)} (h : (DataW.weightsAll P e l).all (· ≤ reachBytes) = true) : ∀ d ∈ l, (d.weights P e).all (· ≤ reachBytes) = true := by
  induction l with
  | nil => intro d hd; cases hd
  | cons a r ih =>
    rw [DataW.weightsAll, List.all_append, Bool.and_eq_true] at h
    intro d hd
    rcases List.mem_cons.1 hd with rfl | hd
    · exact h.1
    · exact ih h.2 d hd
theorem opens_slice {α : Type} {k : Kd α} {fit : α → Prop} {t e : TypeId} {B : Nat} (hu : P.underlying t = some (.slice e)) (hk : Opens P k e fit) (hc : P.cellsOf e = k.sz) (hB : P.bytesOf e = B) :
    Opens P (Kd.slice e k) t (fun l => l.length * B ≤ reachBytes ∧ ∀ x ∈ l, fit x) := by
  intro H enc W base sp held fuel cs d p h hw
  rcases DataW.trod_slice hu h with ⟨rfl, hx⟩ | ⟨a, len, cap, elems, rest, n, rfl, rfl, hx, hba, hlc, hcm, hel, hget, _, _⟩
  · exact ⟨[], ⟨none, 0, rfl, Nat.le_refl _, Kd.C_nil _ _⟩, by simp, by simp⟩
  · obtain ⟨rfl, rfl⟩ := Prod.mk.inj hx
    rw [DataW.weights, hu] at hw
    simp only [List.all_cons, List.all_append, Bool.and_eq_true] at hw
    obtain ⟨hw1, hw2, _⟩ := hw
    have hw1 := of_decide_eq_true hw1
    rw [hB, List.length_map, hel] at hw1
    have hw2 := weights_all hw2
    have key : ∀ i : Fin len, ∃ x : α, fit x ∧ ∃ c : List Value, c.length = k.sz ∧ k.K W x c ∧ ∀ j u, c[j]? = some u → W.cell? (a.add (i.val * k.sz + j)) = some u := by
      intro i
      have hg := hget i.val i.isLt
      rw [List.getElem?_eq_getElem (by omega)] at hg
      obtain ⟨c, hcell, htr⟩ := Option.bind_eq_some_iff.1 hg
      obtain ⟨x, hx1, hx2⟩ := hk H enc W base sp held n c _ _ htr (hw2 _ (List.mem_map.2 ⟨_, List.getElem_mem _, rfl⟩))
      obtain ⟨_, hl, hcc⟩ := World.cells?_some hcell
      rw [hc] at hl hcc
      refine ⟨x, hx2, c, hl, hx1, fun j u hj => ?_⟩
      have hj' : j < k.sz := by rw [← hl]; exact (List.getElem?_eq_some_iff.1 hj).1
      have := hcc j hj'
      rw [hj] at this
      rw [← this]
      congr 1
      unfold Addr.add
      split <;> split <;> split <;> simp_all <;> omega
    have hch : ∃ f : Fin len → α, ∀ i, fit (f i) ∧ ∃ c : List Value, c.length = k.sz ∧ k.K W (f i) c ∧ ∀ j u, c[j]? = some u → W.cell? (a.add (i.val * k.sz + j)) = some u :=
      ⟨fun i => Classical.choose (key i), fun i => Classical.choose_spec (key i)⟩
    obtain ⟨f, hf⟩ := hch
    have hlen : (List.ofFn f).length = len := List.length_ofFn
    refine ⟨List.ofFn f, ⟨some a, cap, by rw [hlen], by rw [hlen]; exact hlc, ⟨rfl, ?_, fun _ => ⟨a, rfl, fun j q hj => ?_⟩⟩⟩, ?_, ?_⟩
    · rw [hlen]
      have : maxLen = 9223372036854775807 := by decide
      omega
    · obtain ⟨hj1, hj2⟩ := List.getElem?_eq_some_iff.1 hj
      rw [List.getElem_ofFn] at hj2
      subst hj2
      exact (hf _).2
    · rw [hlen]
      exact Nat.le_trans (Nat.mul_le_mul_right _ (by omega)) hw1
    · intro x hx
      obtain ⟨i, rfl⟩ := (List.mem_ofFn).1 hx
      exact (hf i).1
theorem c3 : Tryd.prog.cellsOf 3 = 1 := by kernel_rfl
theorem c26 : Tryd.prog.cellsOf 26 = 1 := by kernel_rfl
theorem c28 : Tryd.prog.cellsOf 28 = 6 := by kernel_rfl
theorem get_some {α : Type} {l : List α} {i n : Nat} (h : l.length = n) (hi : i < n) : ∃ x, l[i]? = some x := ⟨l[i], List.getElem?_eq_getElem (by omega)⟩
theorem weights_at {H : Type} {P : Program} : ∀ {ts : List TypeId} {ds : List (DataW H)}, (DataW.weightsEach P ts ds).all (· ≤ reachBytes) = true → ∀ {j : Nat} {t : TypeId} {d : DataW H}, ts[j]? = some t → ds[j]? = some d → (d.weights P t).all (· ≤ reachBytes) = true
  | [], _, _, j, t, d, ht, _ => by simp at ht
  | _ :: _, [], _, j, t, d, _, hd => by simp at hd
  | t0 :: ts, d0 :: ds, h, j, t, d, ht, hd => by
    rw [DataW.weightsEach, List.all_append, Bool.and_eq_true] at h
    cases j with
    | zero =>
      obtain rfl : t0 = t := by simpa using ht
      obtain rfl : d0 = d := by simpa using hd
      exact h.1
    | succ j => exact weights_at h.2 (by simpa using ht) (by simpa using hd)
theorem i64_range {n : Int} (h : (Lit.int .i64 n).wf = true) : -9223372036854775808 ≤ n ∧ n < 9223372036854775808 := by
  simp only [Lit.wf, Bool.and_eq_true, decide_eq_true_eq] at h
  have h1 : IntKind.i64.min = -9223372036854775808 := by decide
  have h2 : IntKind.i64.max = 9223372036854775807 := by decide
  rw [h1, h2] at h
  omega
theorem len24 {n : Nat} (h : n * 24 ≤ reachBytes) : n < 140737488355328 := by
  have : reachBytes = 140737488351232 := by decide
  omega
theorem len8 {n : Nat} (h : n * 8 ≤ reachBytes) : n < 140737488355328 := by
  have : reachBytes = 140737488351232 := by decide
  omega
theorem len1 {n : Nat} (h : n ≤ reachBytes) : n < 140737488355328 := by
  have : reachBytes = 140737488351232 := by decide
  omega
theorem agg_inj {cs : Array Value} {l : List Value} (h : (Value.agg cs).cells.toList = l) : cs = l.toArray := by
  have h1 : cs.toList = l := h
  rw [← h1]
theorem slice_inj {a b : Option Addr} {n m c d : Nat} (h : (Value.slice a n c).cells.toList = [.slice b m d]) : a = b ∧ n = m ∧ c = d := by
  have h1 : Value.slice a n c = .slice b m d := by simpa [Value.cells] using h
  injection h1 with h1 h2 h3
  exact ⟨h1, h2, h3⟩
theorem fit1 {n : Int} (h : (Lit.int .i64 n).wf = true) : decide (-9223372036854775808 ≤ n ∧ n ≤ 9223372036854775807) = true := by
  have := i64_range h
  exact decide_eq_true (by omega)
theorem fitL {l : List Int} (h : ∀ x ∈ l, (Lit.int .i64 x).wf = true) : fitI l = true := List.all_eq_true.2 fun x hx => fit1 (h x hx)
set_option maxRecDepth 100000
theorem opens_26 : Opens Tryd.prog (Kd.slice 3 (Kd.int .i64)) 26 (fun l => l.length * 8 ≤ reachBytes ∧ ∀ x ∈ l, (Lit.int .i64 x).wf = true) := opens_slice Tryd.underlying26 (opens_int Tryd.underlying3) c3 (by kernel_rfl)
theorem opens_28 : Opens Tryd.prog k28 28 (fun x => x.f2.length * 8 ≤ reachBytes ∧ okW x) := by
  intro H enc W base sp held fuel cs d p h hw
  obtain ⟨xs, n, _, hx, hl, hlen, hf⟩ := DataW.trod_struct Tryd.underlying28 h
  rw [c28] at hl
  match cs, hl with
  | [a, b, c, d4, e, f], _ =>
  have g0 : DataW.trod enc Tryd.prog W base sp held n 3 (([a, b, c, d4, e, f].drop 0).take (Tryd.prog.cellsOf 3)) = xs[0]? := hf 0 _ rfl
  have g1 : DataW.trod enc Tryd.prog W base sp held n 3 (([a, b, c, d4, e, f].drop 1).take (Tryd.prog.cellsOf 3)) = xs[1]? := hf 1 _ rfl
  have g2 : DataW.trod enc Tryd.prog W base sp held n 26 (([a, b, c, d4, e, f].drop 2).take (Tryd.prog.cellsOf 26)) = xs[2]? := hf 2 _ rfl
  have g3 : DataW.trod enc Tryd.prog W base sp held n 3 (([a, b, c, d4, e, f].drop 3).take (Tryd.prog.cellsOf 3)) = xs[3]? := hf 3 _ rfl
  have g4 : DataW.trod enc Tryd.prog W base sp held n 3 (([a, b, c, d4, e, f].drop 4).take (Tryd.prog.cellsOf 3)) = xs[4]? := hf 4 _ rfl
  have g5 : DataW.trod enc Tryd.prog W base sp held n 3 (([a, b, c, d4, e, f].drop 5).take (Tryd.prog.cellsOf 3)) = xs[5]? := hf 5 _ rfl
  rw [c3] at g0 g1 g3 g4 g5
  rw [c26] at g2
  match xs, hlen with
  | [x0, x1, x2, x3, x4, x5], _ =>
  obtain ⟨rfl, rfl⟩ := Prod.mk.inj hx
  rw [DataW.weights, Tryd.underlying28] at hw
  simp only [List.map_cons, List.map_nil, DataW.weightsEach, List.all_append, Bool.and_eq_true, List.all_nil] at hw
  obtain ⟨n0, r0, _, w0⟩ := DataW.trod_int Tryd.underlying3 g0
  obtain ⟨n1, r1, _, w1⟩ := DataW.trod_int Tryd.underlying3 g1
  obtain ⟨l2, ⟨A2, c2, r2, lc2, hC2⟩, f2⟩ := opens_26 H enc W base sp held n _ _ _ g2 hw.2.2.1
  obtain ⟨n3, r3, _, w3⟩ := DataW.trod_int Tryd.underlying3 g3
  obtain ⟨n4, r4, _, w4⟩ := DataW.trod_int Tryd.underlying3 g4
  obtain ⟨n5, r5, _, w5⟩ := DataW.trod_int Tryd.underlying3 g5
  have s0 : a = .int .i64 n0 := (List.cons.inj (show [a] = [.int .i64 n0] from r0)).1
  have s1 : b = .int .i64 n1 := (List.cons.inj (show [b] = [.int .i64 n1] from r1)).1
  have s2 : c = .slice A2 l2.length c2 := (List.cons.inj (show [c] = [.slice A2 l2.length c2] from r2)).1
  have s3 : d4 = .int .i64 n3 := (List.cons.inj (show [d4] = [.int .i64 n3] from r3)).1
  have s4 : e = .int .i64 n4 := (List.cons.inj (show [e] = [.int .i64 n4] from r4)).1
  have s5 : f = .int .i64 n5 := (List.cons.inj (show [f] = [.int .i64 n5] from r5)).1
  subst s0
  subst s1
  subst s2
  subst s3
  subst s4
  subst s5
  refine ⟨⟨n0, n1, l2, n3, n4, n5⟩, k28_mk _ ⟨n0, n1, l2, n3, n4, n5⟩ lc2 hC2, f2.1, ?_, fitL f2.2⟩
  show fitI [n0, n1, n3, n4, n5] = true
  unfold fitI
  simp only [List.all_cons, List.all_nil, fit1 w0, fit1 w1, fit1 w3, fit1 w4, fit1 w5, Bool.and_self]
theorem opens_22 : Opens Tryd.prog (Kd.slice 28 k28) 22 (fun l => l.length * 64 ≤ reachBytes ∧ ∀ s ∈ l, s.f2.length * 8 ≤ reachBytes ∧ okW s) := opens_slice Tryd.underlying22 opens_28 c28 (by kernel_rfl)
end Go.Proofs.YtppbnjmhkifdaaaDoor.X
