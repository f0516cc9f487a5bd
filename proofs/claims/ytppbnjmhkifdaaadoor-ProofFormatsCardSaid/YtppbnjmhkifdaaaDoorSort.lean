/- slices.SortFunc with the comparison of package formula, and slices.Compact, at whole numbers: what they do to a row of the call's own. -/
import Derived.Test.YtppbnjmhkifdaaaDoorCut
import Derived.Test.YtppbnjmhkifdaaaDoorWMore
import Derived.Test.YtppbnjmhkifdaaaDoorShelf
import Derived.Shelf.SlicesG.CompactI
import Derived.Test.YtppbnjmhkifdaaaDoorProg
import Derived.Test.YtppbnjmhkifdaaaDoorSo1
namespace Go.Proofs.YtppbnjmhkifdaaaDoor.X
open Go Go.RowKit Go.Lib Go.Shelf Go.Sort Go.Proofs.YtppbnjmhkifdaaaDoorW.PrintWords Go.Proofs.YtppbnjmhkifdaaaDoorW.PrintLast Go.Proofs.YtppbnjmhkifdaaaDoorW.PrintMore
set_option linter.unusedVariables false
set_option maxHeartbeats 4000000
set_option maxRecDepth 100000
def bb (x : Int) : Int := if x < 0 then wrap64 (wrap64 (-x) - 1) else wrap64 (x - 1)
theorem bb_eq (x y : Int) : wrap64 (nb x - nb y) = wrap64 (bb x - bb y) := by
  unfold nb bb wrap64
  split <;> split <;> omega
theorem closure_calls (x y : Int) (W : World) : Calls Tryd.prog 33 #[.int .i64 x, .int .i64 y] W fun e w' => e = .returned (.int .i64 (ncf x y)) ∧ ∃ q, w' = W.drewN q := by
  unfold ncf
  rw [bb_eq]
  unfold bb
  by_cases cx : x < 0 <;> by_cases cy : y < 0
  · rw [if_pos cx, if_pos cy]
    have f1 : decide (x < 0) = true := decide_eq_true cx
    have f2 : decide (y < 0) = true := decide_eq_true cy
    clear cx cy
    by_cases c : wrap64 ((wrap64 (wrap64 (-x) - 1)) - (wrap64 (wrap64 (-y) - 1))) = 0
    · rw [if_pos c]
      have g1 : (wrap64 ((wrap64 (wrap64 (-x) - 1)) - (wrap64 (wrap64 (-y) - 1))) == 0) = true := beq_iff_eq.mpr c
      have g2 : (wrap64 ((wrap64 (wrap64 (-x) - 1)) - (wrap64 (wrap64 (-y) - 1))) != 0) = false := bne_eq_false_iff_eq.mpr c
      clear c
      go_enter Tryd.func33, Tryd.ntmps33
      go_wp2
      go_ret
      exact ⟨rfl, 0, rfl⟩
    · rw [if_neg c]
      have g1 : (wrap64 ((wrap64 (wrap64 (-x) - 1)) - (wrap64 (wrap64 (-y) - 1))) == 0) = false := beq_eq_false_iff_ne.mpr c
      have g2 : (wrap64 ((wrap64 (wrap64 (-x) - 1)) - (wrap64 (wrap64 (-y) - 1))) != 0) = true := bne_iff_ne.mpr c
      clear c
      go_enter Tryd.func33, Tryd.ntmps33
      go_wp2
      go_ret
      exact ⟨rfl, 0, rfl⟩
  · rw [if_pos cx, if_neg cy]
    have f1 : decide (x < 0) = true := decide_eq_true cx
    have f2 : decide (y < 0) = false := decide_eq_false cy
    clear cx cy
    by_cases c : wrap64 ((wrap64 (wrap64 (-x) - 1)) - (wrap64 (y - 1))) = 0
    · rw [if_pos c]
      have g1 : (wrap64 ((wrap64 (wrap64 (-x) - 1)) - (wrap64 (y - 1))) == 0) = true := beq_iff_eq.mpr c
      have g2 : (wrap64 ((wrap64 (wrap64 (-x) - 1)) - (wrap64 (y - 1))) != 0) = false := bne_eq_false_iff_eq.mpr c
      clear c
      go_enter Tryd.func33, Tryd.ntmps33
      go_wp2
      go_ret
      exact ⟨rfl, 0, rfl⟩
    · rw [if_neg c]
      have g1 : (wrap64 ((wrap64 (wrap64 (-x) - 1)) - (wrap64 (y - 1))) == 0) = false := beq_eq_false_iff_ne.mpr c
      have g2 : (wrap64 ((wrap64 (wrap64 (-x) - 1)) - (wrap64 (y - 1))) != 0) = true := bne_iff_ne.mpr c
      clear c
      go_enter Tryd.func33, Tryd.ntmps33
      go_wp2
      go_ret
      exact ⟨rfl, 0, rfl⟩
  · rw [if_neg cx, if_pos cy]
    have f1 : decide (x < 0) = false := decide_eq_false cx
    have f2 : decide (y < 0) = true := decide_eq_true cy
    clear cx cy
    by_cases c : wrap64 ((wrap64 (x - 1)) - (wrap64 (wrap64 (-y) - 1))) = 0
    · rw [if_pos c]
      have g1 : (wrap64 ((wrap64 (x - 1)) - (wrap64 (wrap64 (-y) - 1))) == 0) = true := beq_iff_eq.mpr c
      have g2 : (wrap64 ((wrap64 (x - 1)) - (wrap64 (wrap64 (-y) - 1))) != 0) = false := bne_eq_false_iff_eq.mpr c
      clear c
      go_enter Tryd.func33, Tryd.ntmps33
      go_wp2
      go_ret
      exact ⟨rfl, 0, rfl⟩
    · rw [if_neg c]
      have g1 : (wrap64 ((wrap64 (x - 1)) - (wrap64 (wrap64 (-y) - 1))) == 0) = false := beq_eq_false_iff_ne.mpr c
      have g2 : (wrap64 ((wrap64 (x - 1)) - (wrap64 (wrap64 (-y) - 1))) != 0) = true := bne_iff_ne.mpr c
      clear c
      go_enter Tryd.func33, Tryd.ntmps33
      go_wp2
      go_ret
      exact ⟨rfl, 0, rfl⟩
  · rw [if_neg cx, if_neg cy]
    have f1 : decide (x < 0) = false := decide_eq_false cx
    have f2 : decide (y < 0) = false := decide_eq_false cy
    clear cx cy
    by_cases c : wrap64 ((wrap64 (x - 1)) - (wrap64 (y - 1))) = 0
    · rw [if_pos c]
      have g1 : (wrap64 ((wrap64 (x - 1)) - (wrap64 (y - 1))) == 0) = true := beq_iff_eq.mpr c
      have g2 : (wrap64 ((wrap64 (x - 1)) - (wrap64 (y - 1))) != 0) = false := bne_eq_false_iff_eq.mpr c
      clear c
      go_enter Tryd.func33, Tryd.ntmps33
      go_wp2
      go_ret
      exact ⟨rfl, 0, rfl⟩
    · rw [if_neg c]
      have g1 : (wrap64 ((wrap64 (x - 1)) - (wrap64 (y - 1))) == 0) = false := beq_eq_false_iff_ne.mpr c
      have g2 : (wrap64 ((wrap64 (x - 1)) - (wrap64 (y - 1))) != 0) = true := bne_iff_ne.mpr c
      clear c
      go_enter Tryd.func33, Tryd.ntmps33
      go_wp2
      go_ret
      exact ⟨rfl, 0, rfl⟩
/-- A row of the call's own whose cells are written anew, in a world that is else the same or larger. -/
theorem row_written {W : World} {base : Nat} {ok : Nat → Prop} {xs ys zs : List Int} {g cap : Nat} {q : Nat} {os : Array Obj}
    (HO : (Kd.int .i64).R 3 W base ok (.slice (some ⟨g, 0, none⟩) xs.length cap) xs) (hl : (ys ++ zs).length = xs.length) :
    (Kd.int .i64).R 3 (grow (putRow (Value.int .i64) (Sort.ahead W q) g 0 (ys ++ zs).toArray) os) base ok (.slice (some ⟨g, 0, none⟩) ys.length cap) ys ∧ W.grownBy (grow (putRow (Value.int .i64) (Sort.ahead W q) g 0 (ys ++ zs).toArray) os) (Value.slice (some ⟨g, 0, none⟩) xs.length cap).ownBlock := by
  obtain ⟨h1, inner, h2, h3⟩ := HO
  rcases h2.2 with ⟨h, _⟩ | ⟨g', cap', cur, he, hb, hg, hn, hc, hs, ht⟩
  · cases h
  · injection he with he1 _ he2
    injection he1 with he1
    injection he1 with he1
    subst he1 he2
    have hgs := (Array.getElem?_eq_some_iff.1 hg).1
    have hcell : (grow (putRow (Value.int .i64) (Sort.ahead W q) g 0 (ys ++ zs).toArray) os).heap[g]? = some (.cells (putCells (Value.int .i64) 0 (ys ++ zs).toArray cur) 3 (0, 0)) := by
      show ((W.heap.modify g _) ++ os)[g]? = _
      rw [Array.getElem?_append_left (by simpa using hgs), Array.getElem?_modify, if_pos rfl, hg]
      rfl
    have hgrow : W.grownBy (grow (putRow (Value.int .i64) (Sort.ahead W q) g 0 (ys ++ zs).toArray) os) (some g) := by
      refine ⟨rfl, rfl, rfl, ?_, fun k hk hne => ?_⟩
      · show W.heap.size ≤ ((W.heap.modify g _) ++ os).size
        rw [Array.size_append, Array.size_modify]
        omega
      · show ((W.heap.modify g _) ++ os)[k]? = _
        rw [Array.getElem?_append_left (by simpa using hk), Array.getElem?_modify, if_neg (fun h => hne (by rw [h]))]
    refine ⟨⟨h1, ys.map (Value.int .i64), ⟨?_, .inr ⟨g, cap, _, rfl, hb, hcell, ?_, hc, ?_, ?_⟩⟩, ?_⟩, hgrow⟩
    · simp [Kd.int, Kd.scalar]
    · rw [List.length_append] at hl
      omega
    · rw [← hs]
      simp [putCells]
    · have hs' : cur.size = cap := by simpa [Kd.int, Kd.scalar] using hs
      apply List.ext_getElem?
      intro j
      rw [List.length_append] at hl
      simp only [Kd.int, Kd.scalar, Nat.mul_one, List.getElem?_take, List.getElem?_map, Array.getElem?_toList, putCells, Array.getElem?_mapIdx]
      by_cases hj : j < ys.length
      · rw [if_pos hj, Array.getElem?_eq_getElem (by omega), List.getElem?_eq_getElem hj]
        simp only [Option.map_some]
        rw [if_pos ⟨Nat.zero_le _, by simp; omega⟩]
        rw [getElem!_pos _ _ (by simp; omega)]
        simp [List.getElem_append_left hj]
      · rw [if_neg hj, List.getElem?_eq_none (by omega)]
        rfl
    · refine ⟨by simp [Kd.int, Kd.scalar], fun j p hp => ?_⟩
      show _ = [_]
      have hj : j < ys.length := (List.getElem?_eq_some_iff.1 hp).1
      apply List.ext_getElem?
      intro i
      simp only [Kd.int, Kd.scalar, Nat.mul_one, List.getElem?_take, List.getElem?_drop, List.getElem?_map]
      rcases i with _ | i
      · simp [hp]
      · simp
/-- The numbers at which the comparison is an order. -/
structure Fit (z : Int) where
  val : Int
  fits : fitN z val = true
theorem holds_of {W : World} {base : Nat} {ok : Nat → Prop} {xs : List Int} {g cap : Nat} (HO : (Kd.int .i64).R 3 W base ok (.slice (some ⟨g, 0, none⟩) xs.length cap) xs) (j : Nat) (x : Int) (hx : xs[j]? = some x) :
    W.cell? ⟨g, 0 + j, none⟩ = some (.int .i64 x) ∧ W.frozen? ⟨g, 0 + j, none⟩ = false := by
  obtain ⟨h1, inner, h2, h3⟩ := HO
  have hj : j < xs.length := (List.getElem?_eq_some_iff.1 hx).1
  have h4 := h3.2 j x hx
  have h5 : inner[j]? = some (.int .i64 x) := by
    have h6 : ((inner.drop (j * 1)).take 1)[0]? = some (.int .i64 x) := by
      have h7 : (inner.drop (j * 1)).take 1 = [.int .i64 x] := h4
      rw [h7]
      rfl
    simpa using h6
  have h8 := h2.cells (g := g) rfl j _ h5
  have hadd : (⟨g, 0, none⟩ : Addr).add j = ⟨g, 0 + j, none⟩ := by unfold Addr.add; split <;> simp_all
  rw [hadd] at h8
  refine ⟨h8, ?_⟩
  rcases h2.2 with ⟨h, _⟩ | ⟨g', cap', cur, he, hb, hg, hn, hc, hs, ht⟩
  · cases h
  · injection he with he1 _ he2
    injection he1 with he1
    injection he1 with he1
    subst he1
    simp [World.frozen?, hg]
theorem sort_calls {W : World} {base : Nat} {ok : Nat → Prop} {xs : List Int} {v : Value} (HO : (Kd.int .i64).R 3 W base ok v xs) (hf : okN xs = true) (hl : xs.length + xs.length < 17592186044416) :
    Calls Tryd.prog 32 #[v, .func (.func 33) #[] #[]] W fun e w' => e = .returned (.tuple #[]) ∧ (Kd.int .i64).R 3 w' base ok v (sortN xs) ∧ W.grownBy w' v.ownBlock := by
  rcases Nat.eq_zero_or_pos xs.length with h0 | h0
  · obtain ⟨A, c, rfl⟩ := Kd.R_slice HO
    rw [h0]
    refine (AnyF.slices_SortFunc_none (P := Tryd.prog) (ρ := Tryd.sortI_ren) { Tryd.sortI with } A c (.func (.func 33) #[] #[]) W).mono fun e w' h => ?_
    obtain ⟨rfl, rfl⟩ := h
    have hx : xs = [] := List.eq_nil_of_length_eq_zero h0
    subst hx
    have hs : sortN [] = [] := List.eq_nil_of_length_eq_zero (List.length_mergeSort _)
    exact ⟨rfl, by rw [hs]; exact HO, ⟨rfl, rfl, rfl, Nat.le_refl _, fun _ _ _ => rfl⟩⟩
  · obtain ⟨g, cap, rfl, hb, hg, _⟩ := Kd.R_form HO h0
    have key : ∀ z : Int, (z = 4611686018427387904 ∨ z = -4611686018427387904) → xs.all (fitN z) = true → Calls Tryd.prog 32 #[.slice (some ⟨g, 0, none⟩) xs.length cap, .func (.func 33) #[] #[]] W fun e w' => e = .returned (.tuple #[]) ∧ ∃ n os, w' = grow (putRow (Value.int .i64) (Sort.ahead W n) g 0 (sortN xs).toArray) os := by
      intro z hz hall
      have hz0 : fitN z 0 = true := by rcases hz with rfl | rfl <;> decide
      letI : Inhabited (Fit z) := ⟨⟨0, hz0⟩⟩
      have hx : ∀ x ∈ xs, fitN z x = true := List.all_eq_true.1 hall
      obtain ⟨d, hd⟩ : ∃ d : List (Fit z), d.map Fit.val = xs := ⟨xs.pmap Fit.mk hx, by rw [List.map_pmap]; simp⟩
      have hlen : d.toArray.size = xs.length := by rw [← hd]; simp
      have hlt : ∀ x y : Fit z, ltOf (fun x y : Fit z => ncf x.val y.val) x y = decide (nkey x.val < nkey y.val) := by
        intro x y
        unfold ltOf
        have := ncf_lt z x.val y.val hz x.fits y.fits
        by_cases h : ncf x.val y.val < 0
        · rw [decide_eq_true h, decide_eq_true (this.1 h)]
        · rw [decide_eq_false h, decide_eq_false (fun h' => h (this.2 h'))]
      have hO : SWO (ltOf (fun x y : Fit z => ncf x.val y.val)) :=
        ⟨fun x => by rw [hlt]; simp, fun x y u h1 h2 => by rw [hlt] at *; simp at *; omega, fun x y u h1 h2 => by rw [hlt] at *; simp at *; omega⟩
      have hT : ∀ x y, (ltOf (fun x y : Fit z => ncf x.val y.val)) x y = false → (ltOf (fun x y : Fit z => ncf x.val y.val)) y x = false → x = y := by
        intro x y h1 h2
        rw [hlt] at h1 h2
        have h1 := of_decide_eq_false h1
        have h2 := of_decide_eq_false h2
        have h3 := nkey_inj z x.val y.val hz x.fits y.fits (by omega)
        cases x
        cases y
        subst h3
        rfl
      have eg : ∀ args w, (callFunc 33 args).run Tryd.prog w = .ok (.enter 33 args) w := enters_of Tryd.func33 (by kernel_rfl) rfl
      have hH : Holds (fun x : Fit z => Value.int .i64 x.val) W g 0 d.toArray := by
        intro j hj
        refine holds_of HO j _ ?_
        rw [getElem!_pos d.toArray j hj, ← hd, List.getElem?_map]
        rw [List.size_toArray] at hj
        simp [List.getElem?_eq_getElem hj]
      have hcon := Any.slices_SortFunc_total Tryd.sortI (fun x : Fit z => Value.int .i64 x.val) (fun _ => rfl) (fun x y : Fit z => ncf x.val y.val) hO 33 #[] g 0 cap d.toArray W eg (CmpReads.lays (fun _ _ _ _ x y => closure_calls x.val y.val _)) hH hg (by omega) hT
      rw [hlen] at hcon
      refine hcon.mono fun e w' h => ?_
      obtain ⟨rfl, n, os, rfl⟩ := h
      refine ⟨rfl, n, os, ?_⟩
      have hs : sortN xs = (d.mergeSort fun x y => !(ltOf (fun x y : Fit z => ncf x.val y.val)) y x).map Fit.val := by
        rw [← hd]
        unfold sortN
        refine (List.map_mergeSort (f := Fit.val) (fun a _ b _ => ?_)).symm
        rw [hlt]
        unfold nle
        by_cases h : nkey b.val < nkey a.val
        · rw [decide_eq_true h, decide_eq_false (by omega)]
          rfl
        · rw [decide_eq_false h, decide_eq_true (by omega)]
          rfl
      unfold sortWorld
      congr 1
      unfold putRow
      congr 1
      funext c
      unfold putCells
      rw [hs]
      apply Array.ext
      · simp
      · intro k h1 h2
        simp only [Array.getElem_mapIdx, List.size_toArray, List.length_map]
        split
        · next hk =>
          have hk' := hk.2
          simp only [Nat.zero_add] at hk'
          rw [getElem!_pos _ _ (by simpa using hk'), getElem!_pos _ _ (by simpa using hk')]
          simp
        · rfl
    have key2 : Calls Tryd.prog 32 #[.slice (some ⟨g, 0, none⟩) xs.length cap, .func (.func 33) #[] #[]] W fun e w' => e = .returned (.tuple #[]) ∧ ∃ n os, w' = grow (putRow (Value.int .i64) (Sort.ahead W n) g 0 (sortN xs).toArray) os := by
      rcases Bool.or_eq_true_iff.1 hf with h | h
      · exact key _ (.inl rfl) h
      · exact key _ (.inr rfl) h
    refine key2.mono fun e w' h => ?_
    obtain ⟨rfl, n, os, rfl⟩ := h
    have hsl : (sortN xs).length = xs.length := List.length_mergeSort _
    have := row_written (ys := sortN xs) (zs := []) (q := n) (os := os) HO (by simpa using hsl)
    simp only [List.append_nil] at this
    rw [hsl] at this
    exact ⟨rfl, this⟩
/-- slices.Compact. -/
def compN (l : List Int) : List Int := Lib.compact l
theorem compact_length_le (zs : List Int) : (Lib.compact zs).length ≤ zs.length := by
  unfold Lib.compact Lib.compactUpTo
  rw [List.length_map]
  refine Nat.le_trans (List.length_filter_le _ _) ?_
  simp
theorem compact_calls {W : World} {base : Nat} {ok : Nat → Prop} {xs : List Int} {v : Value} (HO : (Kd.int .i64).R 3 W base ok v xs) (hl : xs.length + xs.length < 17592186044416) :
    Calls Tryd.prog 35 #[v] W fun e w' => ∃ v1, e = .returned v1 ∧ (Kd.int .i64).R 3 w' base ok v1 (Lib.compact xs) ∧ W.grownBy w' v.ownBlock ∧ v1.ownBlock = v.ownBlock := by
  rcases Nat.eq_zero_or_pos xs.length with h0 | h0
  · obtain ⟨A, c, rfl⟩ := Kd.R_slice HO
    rw [h0]
    refine (AnyG.slices_Compact_int_empty Tryd.compI A c W).mono fun e w' h => ?_
    obtain ⟨rfl, rfl⟩ := h
    have hx : xs = [] := List.eq_nil_of_length_eq_zero h0
    subst hx
    have hs : Lib.compact ([] : List Int) = [] := List.eq_nil_of_length_eq_zero (Nat.le_zero.1 (compact_length_le []))
    exact ⟨_, rfl, by rw [hs]; exact HO, ⟨rfl, rfl, rfl, Nat.le_refl _, fun _ _ _ => rfl⟩, rfl⟩
  · obtain ⟨g, cap, rfl, hb, hg, _⟩ := Kd.R_form HO h0
    have hH : Holds (Value.int .i64) W g 0 xs.toArray := by
      intro j hj
      rw [List.size_toArray] at hj
      refine holds_of HO j _ ?_
      rw [getElem!_pos xs.toArray j (by simpa using hj)]
      simp [List.getElem?_eq_getElem hj]
    have hcap := (Kd.R_reads' HO).2.1
    refine (AnyG.slices_Compact_int Tryd.compI g 0 cap xs W hH (by omega) hcap).mono fun e w' h => ?_
    obtain ⟨rfl, q, rfl⟩ := h
    have hw := row_written (ys := Lib.compact xs) (zs := List.replicate (xs.length - (Lib.compact xs).length) 0) (q := q) (os := #[]) HO (by have := compact_length_le xs; simp; omega)
    rw [grow_empty] at hw
    refine ⟨_, rfl, hw.1, hw.2, rfl⟩
section
variable {ops : Array Oper} {rest : List Oper} {oi : Oper} {a : Act} {Q : Exit → Act → World → Prop} {w0 W : World}
theorem sort_step (N : Option Tmp) (hd : oi.dst = N) (hg : oi.guard = none) {s : Operand} {ts : Array TypeId} (hop : oi.op = .call { callee := .value (.func 32), args := #[s, .func 33], argTypes := ts })
    {v : Value} (hs : a.eval s = v) {base : Nat} {ok : Nat → Prop} {xs : List Int} (HO : (Kd.int .i64).R 3 W base ok v xs) (hf : okN xs = true) (hl : xs.length + xs.length < 17592186044416) (HB : Below base w0 W) (hbase : base ≤ W.heap.size)
    (h : ∀ w1, (Kd.int .i64).R 3 w1 base ok v (sortN xs) → Below base w0 w1 → W.grownBy w1 v.ownBlock → (v.ownBlock = v.ownBlock ∨ ∃ b, v.ownBlock = some b ∧ W.heap.size ≤ b) → wpList Tryd.prog ops Q rest (a.put N (.tuple #[])) w1) :
    wpList Tryd.prog ops Q (oi :: rest) a W := by
  refine goesL_ N hd hg Tryd.func32 (by kernel_rfl) rfl #[v, .func (.func 33) #[] #[]] hop (by simp [hs]; rfl) ((sort_calls HO hf hl).mono fun e w1 h1 => ?_)
  obtain ⟨rfl, h2, h3⟩ := h1
  exact ⟨_, rfl, h w1 h2 (HB.grown h3 hbase (fun k hk => (Kd.R_base HO k hk))) h3 (.inl rfl)⟩
theorem compact_step (N : Option Tmp) (hd : oi.dst = N) (hg : oi.guard = none) {s : Operand} {ts : Array TypeId} (hop : oi.op = .call { callee := .value (.func 35), args := #[s], argTypes := ts })
    {v : Value} (hs : a.eval s = v) {base : Nat} {ok : Nat → Prop} {xs : List Int} (HO : (Kd.int .i64).R 3 W base ok v xs) (hl : xs.length + xs.length < 17592186044416) (HB : Below base w0 W) (hbase : base ≤ W.heap.size)
    (h : ∀ v1 w1, (Kd.int .i64).R 3 w1 base ok v1 (compN xs) → Below base w0 w1 → W.grownBy w1 v.ownBlock → (v1.ownBlock = v.ownBlock ∨ ∃ b, v1.ownBlock = some b ∧ W.heap.size ≤ b) → wpList Tryd.prog ops Q rest (a.put N v1) w1) :
    wpList Tryd.prog ops Q (oi :: rest) a W := by
  refine goesL_ N hd hg Tryd.func35 (by kernel_rfl) rfl #[v] hop (by simp [hs]) ((compact_calls HO hl).mono fun e w1 h1 => ?_)
  obtain ⟨v1, rfl, h2, h3, h4⟩ := h1
  exact ⟨_, rfl, h v1 w1 h2 (HB.grown h3 hbase (fun k hk => (Kd.R_base HO k hk))) h3 (.inl h4)⟩
end
end Go.Proofs.YtppbnjmhkifdaaaDoor.X
