/- Short words for the printed texts: facts carried along a world that only grew. -/
import Derived.Test.YtppbnjmhkifdaaaDoorWMore
import Derived.Test.YtppbnjmhkifdaaaDoorWN
import Derived.Test.YtppbnjmhkifdaaaDoorWApart
import Derived.Test.YtppbnjmhkifdaaaDoorWLast
namespace Go.Proofs.YtppbnjmhkifdaaaDoorW.PrintWords
open Go Go.RowKit
variable {α : Type} {d : Kd α} {e : Nat} {base : Nat} {ok : Nat → Prop} {v : Value} {xs : List α} {w W W1 : World}
theorem Aside0.r (H : Aside0 (d.R e W base ok v xs)) (c : Below W.heap.size W W1 := by repeat (first | (with_reducible first | exact Below.refl _ _ | apply below_alloc | apply pw_below_drewN | apply below_drew1) | exact Below.refl _ _)) : d.R e W1 base ok v xs := Kd.R_below H.out c
theorem Aside0.s (H : Aside0 (Kd.S d e W base ok v xs)) (c : Below W.heap.size W W1 := by repeat (first | (with_reducible first | exact Below.refl _ _ | apply below_alloc | apply pw_below_drewN | apply below_drew1) | exact Below.refl _ _)) : Kd.S d e W1 base ok v xs := Kd.S_below H.out c
theorem Aside0.n (H : Aside0 (Kd.N d e W base ok v xs)) (c : Below W.heap.size W W1 := by repeat (first | (with_reducible first | exact Below.refl _ _ | apply below_alloc | apply pw_below_drewN | apply below_drew1) | exact Below.refl _ _)) : Kd.N d e W1 base ok v xs := Kd.N_below H.out c
theorem Aside0.q (H : Aside0 (d.Q e W base ok v xs)) (c : Below W.heap.size W W1 := by repeat (first | (with_reducible first | exact Below.refl _ _ | apply below_alloc | apply pw_below_drewN | apply below_drew1) | exact Below.refl _ _)) : d.Q e W1 base ok v xs := Kd.Q_below H.out c
theorem Aside0.b {g : Nat} {o : Obj} (H : Aside0 (W.heap[g]? = some o)) (c : Below W.heap.size W W1 := by repeat (first | (with_reducible first | exact Below.refl _ _ | apply below_alloc | apply pw_below_drewN | apply below_drew1) | exact Below.refl _ _)) : W1.heap[g]? = some o := blk_below H.out c
theorem Aside0.l (H : Aside0 (Below w.heap.size w W)) (c : Below w.heap.size w W → Below w.heap.size w W1 := by intro h_; repeat (first | (with_reducible first | exact h_ | apply below_alloc | apply pw_below_drewN | apply below_drew1 | refine below_set ?_ (Aside0.out (by with_reducible assumption))) | exact h_)) : Below w.heap.size w W1 := c H.out
theorem Aside0.c {A : Option Addr} {n : Nat} (H : Aside0 (d.C w A n xs)) (h : Below w.heap.size w W) : d.C W A n xs := Kd.C_below H.out h
theorem Aside0.cl {g : Nat} {t : TypeId} {cs : Array Value} (H : Aside0 (W.heap[g]? = some (.cells cs t (0, 0)))) (i : Nat) (u : Value) (e : cs[i]? = some u := by rfl) : W.cell? ⟨g, i, none⟩ = some u := (blk_cell H.out i).trans e
theorem Aside0.fz {g : Nat} {t : TypeId} {cs : Array Value} (H : Aside0 (W.heap[g]? = some (.cells cs t (0, 0)))) (i : Nat) : W.frozen? ⟨g, i, none⟩ = false := blk_frozen H.out i
section
variable {P : Program} {ops : Array Oper} {rest : List Oper} {o : Oper} {a : Act} {Q : Exit → Act → World → Prop}
theorem box_ev {N : Tmp} (hd : o.dst = some N) (cs : Array Value) (t : TypeId)
    (h : ∀ g, g = W.heap.size → ∀ w1, w1.heap[g]? = some (.cells cs t (0, 0)) → Below W.heap.size W w1 → wpList P ops Q rest (a.put o.dst (.pointer (some ⟨g, 0, none⟩))) w1)
    (hgd : o.guard = none := by rfl)
    (hrun : (execOp a.eval o).run P W = .ok (.value (.pointer (some ⟨W.heap.size, 0, none⟩))) (W.alloc (.cells cs t (0, 0))) := by first | (go_simp; done) | (go_simp; rfl)) : wpList P ops Q (o :: rest) a W := box_event hgd hd hrun h
end
open Kd in
theorem store_box {P : Program} {ops : Array Oper} {rest : List Oper} {o : Oper} {a : Act} {Q : Exit → Act → World → Prop} {W0 W : World} {g : Nat} {cs0 cs : Array Value} {t : TypeId} {N : Tmp} {x : Operand}
    (hgd : o.guard = none) (hN : o.dst = none) (ho : o.op = .store t (.tmp N) x) (hg : g = W0.heap.size) (hbox : W.heap[g]? = some (.cells cs0 t (0, 0))) (hb : Below W0.heap.size W0 W)
    (hp : a.eval (.tmp N) = .pointer (some ⟨g, 0, none⟩)) (hx : a.eval x = .agg cs) (hi : (P.info? t).map (·.size) = some cs.toList.length) (hsz : cs.toList.length = cs0.size) (h1 : cs.toList.all (·.oneCell') = true)
    (h : ∀ w1, w1.heap[g]? = some (.cells cs t (0, 0)) → Below W0.heap.size W0 w1 → wpList P ops Q rest a w1) : wpList P ops Q (o :: rest) a W := by
  have hrun := run_store_run (P := P) (w := W) (g := g) (o := 0) t (.agg cs) cs.toList hbox rfl hi (by omega) (List.all_eq_true.1 h1)
  obtain ⟨cur', h3, h4, h5⟩ := setCells_row cs.toList 0 W cs0 hbox (by omega)
  obtain ⟨s1, s2, s3, s4⟩ := setCells_same g cs.toList 0 W
  have hc : cur' = cs := by
    apply Array.ext'
    rw [h5, List.take_zero, List.nil_append, List.drop_of_length_le (by rw [Array.length_toList]; omega), List.append_nil]
  rw [hc] at h3
  have hbg : Below W0.heap.size W0 (W.setCells g 0 cs.toList) := hb.trans ⟨s1, s2, s3, by rw [s4]; exact Nat.le_refl _, fun k hk => setCells_far _ _ k (by omega)⟩
  refine wpList_plain hgd fun K hK => ?_
  unfold Oper.wp execOp
  simp only [ho, hp, hx, Sem.run_bind, Sem.run_pure, Result.andThen_ok, hrun]
  show K (a.put o.dst undef) _
  rw [hN]
  exact hK a _ (h _ h3 hbg)
end Go.Proofs.YtppbnjmhkifdaaaDoorW.PrintWords
namespace Go.Proofs.YtppbnjmhkifdaaaDoorW.PrintLast
open Go Go.RowKit Go.Proofs.YtppbnjmhkifdaaaDoorW.PrintWords
variable {P : Program} {ops : Array Oper} {Q : Exit → Act → World → Prop}
theorem goesM_ {rest : List Oper} {oi : Oper} {a : Act} {w : World} {N : Option Tmp} {f : FuncId} {fn : Func} {as : Array Operand} {ts : Array TypeId} (hf : P.funcs[f]? = some fn) (args : Array Value)
    (h : Calls P f args w fun e w' => ∃ v, e = .returned v ∧ wpList P ops Q rest (a.put N v) w') 
    (hd : oi.dst = N := by rfl) (hop : oi.op = .call { callee := .value (.func f), args := as, argTypes := ts } := by rfl) (hg : oi.guard = none := by rfl) (hname : (fn.name == "runtime.NumGoroutine") = false := by kernel_rfl) (hb : fn.body.isSome = true := by rfl)
    (hargs : as.map a.eval = args := by (try simp only [List.map_toArray, List.map_cons, List.map_nil]); first | done | rfl | (simp only [List.length_drop, List.length_take]; rfl)) : wpList P ops Q (oi :: rest) a w := goesL_ N hd hg hf hname hb args hop hargs h
end Go.Proofs.YtppbnjmhkifdaaaDoorW.PrintLast
