/- append onto a cut without room: what comes is new. -/
import Derived.Test.YtppbnjmhkifdaaaDoorWWords
import Derived.ArgAppend
namespace Go.Proofs.YtppbnjmhkifdaaaDoor.X
open Go Go.RowKit Go.Proofs.YtppbnjmhkifdaaaDoorW.PrintWords
namespace Kd
variable {P : Program} {ops : Array Oper} {rest : List Oper} {o : Oper} {a : Act} {Q : Exit → Act → World → Prop} {α : Type}
theorem R_append_cut (d : Kd α) {w0 W : World} (base : Nat) (hgd : o.guard = none) (s x : Operand) (t e : TypeId) (z : Value) (bytes : Nat)
    (ho : o.op = .call { callee := .builtin .append, args := #[s, x], argTypes := #[t, t] })
    (ht : P.underlying t = some (.slice e)) (hinfo : (P.info? e).map (fun i => (i.zero, i.size, i.bytes)) = some (some z, d.sz, bytes)) (hz : z.cells.size = d.sz) (hs0 : 0 < d.sz) (hb0 : 0 < bytes)
    (A0 : Option Addr) (n : Nat) (xs ys : List α) (A : Option Addr) (m c : Nat) (ok okp : Nat → Prop) (hs : a.eval s = .slice A0 n n) (hx : a.eval x = .slice A m c)
    (HC : d.C W A0 n xs) (HR : d.C W A m ys) (hKM : ∀ x cs, d.K W x cs → d.M W base okp x cs) (hokp : ∀ k, okp k → ok k ∧ k < W.heap.size) (hfresh : ∀ k, W.heap.size ≤ k → ok k) (hm : 0 < m)
    (HB : Below base w0 W) (hbase : base ≤ W.heap.size) (hl : (n + m) * bytes ≤ 140737488355328)
    (h : ∀ v1 w1, d.R e w1 base ok v1 (xs ++ ys) → Below base w0 w1 → W.grownBy w1 (Value.slice none 0 0).ownBlock → (v1.ownBlock = (Value.slice none 0 0).ownBlock ∨ ∃ b, v1.ownBlock = some b ∧ W.heap.size ≤ b) → wpList P ops Q rest (a.put o.dst v1) w1) :
    wpList P ops Q (o :: rest) a W := by
  obtain ⟨i0, hi, hzz⟩ := Option.map_eq_some_iff.1 hinfo
  simp only [Prod.mk.injEq] at hzz
  obtain ⟨hz0, hz1, hz2⟩ := hzz
  have hmy : ys.length = m := HR.1
  have hnx : xs.length = n := HC.1
  have hlen : n + m ≤ 140737488355328 := Nat.le_trans (Nat.le_mul_of_pos_right _ hb0) hl
  obtain ⟨ad, rfl, _⟩ := HR.2.2 hm
  obtain ⟨news, hnr, hnc⟩ := ReadsRow.inner_ HR
  have hnl : news.length = m * d.sz := by rw [hnr.1, hmy]
  have hrun : ∃ v1 w1 olds, (Builtin.append_ #[t, t] o.type #[.slice A0 n n, .slice (some ad) m c]).run P W = .ok v1 w1 ∧ w1.ownsRow base e d.sz v1 (n + m) (olds ++ news) ∧ W.grownBy w1 none ∧ (∃ b, v1.ownBlock = some b ∧ W.heap.size ≤ b) ∧ Reps (d.K W) d.sz xs olds := by
    rcases A0 with _ | b0
    · have hn0 : n = 0 := by
        rcases Nat.eq_zero_or_pos n with h0 | h0
        · exact h0
        · obtain ⟨ad, h, _⟩ := HC.2.2 h0
          cases h
      subst hn0
      have hx0 : xs = [] := List.eq_nil_of_length_eq_zero hnx
      subst hx0
      have hone : ∀ u ∈ news, u.oneCell' = true := by
        intro u hu
        obtain ⟨q, hq, rfl⟩ := List.mem_iff_getElem.1 hu
        have hql : q / d.sz < ys.length := by
          rw [Nat.div_lt_iff_lt_mul hs0, ← hnr.1]
          exact hq
        have hc := hnr.2 (q / d.sz) _ (List.getElem?_eq_getElem hql)
        refine d.K_one hc _ ?_
        rw [List.mem_iff_getElem?]
        refine ⟨q % d.sz, ?_⟩
        rw [List.getElem?_take, if_pos (Nat.mod_lt _ hs0), List.getElem?_drop, Nat.mul_comm, Nat.div_add_mod, List.getElem?_eq_getElem hq]
      obtain ⟨v1, w1, hrun, h2, hg, _, hat⟩ := run_append_own_at (P := P) W base t o.type e i0 z d.sz bytes ht hi hz0 hz1 hz2 hz hs0 (.slice none 0 0) 0 [] ⟨by simp, .inl ⟨rfl, rfl⟩⟩ ad m c news hnl hnc hone (by simp only [maxLen]; omega) hl hbase
      refine ⟨v1, w1, [], hrun, h2, hg, ?_, Reps.none _ _⟩
      rcases h2.2 with ⟨_, h0⟩ | ⟨g, cap, cur, rfl, _⟩
      · omega
      · rcases hat with hat | hat
        · simp [Value.ownBlock] at hat
        · exact ⟨_, hat, Nat.le_refl _⟩
    · obtain ⟨olds, hor, hoc⟩ := ReadsRow.inner_ HC
      obtain ⟨v1, w1, hrun, h2, hg⟩ := run_append_arg_grows (P := P) W t o.type e i0 z d.sz bytes ht hi hz0 hz1 hz2 hz hs0 b0 n n olds (by rw [hor.1, hnx]) hoc ad m c news hnl hnc (by omega) (by simp only [maxLen]; omega) hl
      rcases h2.2 with ⟨_, h0⟩ | ⟨g, cap, cur, rfl, hgb, hrest⟩
      · omega
      · exact ⟨_, w1, olds, hrun, ⟨h2.1, .inr ⟨g, cap, cur, rfl, Nat.le_trans hbase hgb, hrest⟩⟩, hg, ⟨g, rfl, hgb⟩, hor⟩
  obtain ⟨v1, w1, olds, hr1, h2, hg, ⟨b, hb, hbw⟩, hor⟩ := hrun
  have step : ∀ {q : α} {cs : List Value}, d.K W q cs → d.M w1 base (fun k => ok k ∧ some k ≠ v1.ownBlock) q cs := by
    intro q cs hq
    have h1 := d.M_move (w1 := w1) (fun k hk => hg.block k hk.2.2.1 (by simp)) (d.M_bound (hKM _ _ hq))
    refine d.M_mono (fun k hk => ⟨(hokp k hk.1).1, ?_⟩) h1
    rw [hb]
    intro he
    injection he with he
    have := (hokp k hk.1).2
    omega
  refine wpList_plain hgd fun K hK => ?_
  unfold Oper.wp execOp
  simp only [ho, resolve, invoke, builtin, Sem.run_bind, Sem.run_pure, Result.andThen_ok, List.map_toArray, List.map_cons, List.map_nil, hs, hx, hr1]
  refine hK _ _ (h v1 w1 ⟨fun k hk => ?_, olds ++ news, by rw [List.length_append, hnx, hmy]; exact h2, Go.Proofs.YtppbnjmhkifdaaaDoorW.PrintWords.Kd.reps_append (hor.imp_ (fun _ _ hq => step hq)) (hnr.imp_ (fun _ _ hq => step hq))⟩ (HB.grown hg hbase (fun k hk => by simp at hk)) hg (.inr ⟨b, hb, hbw⟩))
  rw [hb] at hk
  injection hk with hk
  exact hfresh k (by omega)
end Kd
theorem cut_cap (P : Program) (t e : TypeId) (kh km : IntKind) {i : TypeInfo} (ht : P.underlying t = some (.slice e)) (hi : P.info? e = some i) (A : Option Addr) (n c : Nat) (j : Int) (h0 : 0 ≤ j) (hm : j ≤ n) (hc : n ≤ c) :
    ∀ W : World, (Instr.slice t (.slice A n c) none (some (.int kh j)) (some (.int km j))).run P W = .ok (.slice A j.toNat j.toNat) W := by
  intro W
  have hel : P.elem t = e := by simp [Program.elem, ht]
  have hu : P.underlying t = some (.slice (P.elem t)) := by rw [hel]; exact ht
  have ha : (A.map fun x => x.add 0) = A := by cases A <;> simp [Addr.add]
  rw [run_slice_hm W t A n c hu kh km j j h0 (by omega) (by omega), hel]
  simp [sizeOf, typeInfo, hi, sliced, Result.andThen, ha]
end Go.Proofs.YtppbnjmhkifdaaaDoor.X
