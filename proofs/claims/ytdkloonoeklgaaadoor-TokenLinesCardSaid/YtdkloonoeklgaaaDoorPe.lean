/- TokenLines: the plain law. -/
import Derived.Test.YtdkloonoeklgaaaDoorMj
import Derived.Test.YtdkloonoeklgaaaDoorX11
namespace Go.Proofs.YtdkloonoeklgaaaDoor.X
open Go.RowKit Go.Proofs.YtdkloonoeklgaaaDoorW.PrintWords Go.Proofs.YtdkloonoeklgaaaDoorW.PrintLast Go.Proofs.YtdkloonoeklgaaaDoorW.PrintMore
set_option linter.unusedVariables false

theorem drop_end (s : ByteArray) : s.data.toList.drop s.size = [] := by rw [List.drop_eq_nil_iff, size_data]; exact Nat.le_refl _
theorem wrap_low {x : Int} (h : 0 ≤ x) (h2 : x ≤ 100000) : wrap64 x = x := by unfold wrap64; omega
/-- The two texts with a line feed between. -/
theorem scan_lines (a b : List UInt8) : scanL (a ++ 10 :: b) 1 = joinR (scanL a 1) (shiftR (lfs a + 1) (scanL b 1)) := by
  rw [(scan_app 10 sep_lf b (fun n => scanT_lf b n) a.length a (Nat.le_refl _) 1).1, scanL_lf, show 1 + lfs a + 1 = 1 + (lfs a + 1) from by omega, (scan_shift (lfs a + 1) b.length b (Nat.le_refl _) 1).1]
theorem lfs_le : ∀ l : List UInt8, lfs l ≤ l.length
  | l => List.length_filter_le _ _
theorem lines_loop (a b : ByteArray) (ha : a.size ≤ 10000) (v : Bool) (d : Nat) : ∀ (j c : Nat), j ≤ a.size → a.size - j = d → c ≤ 10000 + j →
    Ev (fun k => interleavelaw01_TokenLines.l0 k a b ((c + lfs (a.data.toList.drop j) : Nat) : Int) (a.size : Nat)) v → Ev (fun k => interleavelaw01_TokenLines.l0 k a b (c : Int) (j : Int)) v := by
  induction d with
  | zero =>
    intro j c hj hd hc h
    have e : j = a.size := by clear h; omega
    subst e
    rw [drop_end, lfs_nil, Nat.add_zero] at h
    exact h
  | succ d ih =>
    intro j c hj hd hc h
    obtain ⟨x, hx, hbt⟩ := drop_at a j (by clear h; omega)
    rw [hx] at h
    have b10 : ((x.toNat : Int) = 10) ↔ x = 10 := byte_eq x 10
    by_cases h10 : x = 10
    · rw [h10, lfs_lf, show c + (lfs (a.data.toList.drop (j + 1)) + 1) = c + 1 + lfs (a.data.toList.drop (j + 1)) from by clear h; omega] at h
      refine Ev.step (fun k => ?_) (ih (j + 1) (c + 1) (by clear h; omega) (by clear h; omega) (by clear h; omega) h)
      simp only [interleavelaw01_TokenLines.l0]
      rw [if_pos (by clear h; omega), if_pos (by clear h; omega), hbt, if_pos (b10.2 h10), wrap_nat j (by clear h; omega), wrap_nat c (by clear h; omega)]
    · rw [lfs_other h10] at h
      refine Ev.step (fun k => ?_) (ih (j + 1) c (by clear h; omega) (by clear h; omega) (by clear h; omega) h)
      simp only [interleavelaw01_TokenLines.l0]
      rw [if_pos (by clear h; omega), if_pos (by clear h; omega), hbt, if_neg (fun h2 => h10 (b10.1 h2)), wrap_nat j (by clear h; omega)]
theorem lines_same (n : Nat) (hn : n ≤ 10000) (xs ys : List S27) (hx : xs.length ≤ 10000) (hy : ys.length ≤ 10000) (hl : ∀ t ∈ ys, 0 ≤ t.f2 ∧ t.f2 ≤ 10000) (d : Nat) : ∀ j : Nat, j ≤ (xs ++ ys.map (shiftT n)).length → (xs ++ ys.map (shiftT n)).length - j = d →
    Ev (fun k => interleavelaw01_TokenLines.l1 k (n : Int) xs ys (xs ++ ys.map (shiftT n)) (j : Int)) true := by
  have hlen : (xs ++ ys.map (shiftT n)).length = xs.length + ys.length := by rw [List.length_append, List.length_map]
  induction d with
  | zero =>
    intro j hj hd
    have e : j = (xs ++ ys.map (shiftT n)).length := by omega
    subst e
    refine Ev.step (fun k => ?_) awake_some
    simp only [interleavelaw01_TokenLines.l1]
    rw [if_neg (by omega)]
  | succ d ih =>
    intro j hj hd
    have hlt : j < (xs ++ ys.map (shiftT n)).length := by omega
    have hih := ih (j + 1) (by omega) (by omega)
    have hr := rd_at (xs ++ ys.map (shiftT n)) j hlt
    by_cases h1 : j < xs.length
    · have hr1 := rd_at xs j h1
      have he : (xs ++ ys.map (shiftT n))[j] = xs[j] := List.getElem_append_left h1
      have key : ∀ k, interleavelaw01_TokenLines.l1 (k + 1) (n : Int) xs ys (xs ++ ys.map (shiftT n)) (j : Int) = interleavelaw01_TokenLines.j4 k (n : Int) xs ys (xs ++ ys.map (shiftT n)) (j : Int) false := by
        intro k
        simp only [interleavelaw01_TokenLines.l1]
        rw [if_pos (by omega), if_pos (by omega), if_pos (by omega), hr, hr1, he]
        congr 1
        simp
      refine Ev.step key (Ev.step (fun k => ?_) hih)
      simp only [interleavelaw01_TokenLines.j4]
      rw [if_neg (by simp), if_neg (by omega), wrap_nat j (by omega)]
    · have h2 : j - xs.length < ys.length := by omega
      have w : wrap64 ((j : Int) - (xs.length : Int)) = ((j - xs.length : Nat) : Int) := by rw [wrap_low (by omega) (by omega)]; omega
      have hr2 := rd_at ys (j - xs.length) h2
      have hb := hl ys[j - xs.length] (List.getElem_mem h2)
      have he : (xs ++ ys.map (shiftT n))[j] = shiftT n ys[j - xs.length] := by
        rw [List.getElem_append_right (by omega), List.getElem_map]
      have w2 : wrap64 (ys[j - xs.length].f2 + (n : Int)) = ys[j - xs.length].f2 + (n : Int) := wrap_low (by omega) (by omega)
      have key : ∀ k, interleavelaw01_TokenLines.l1 (k + 1) (n : Int) xs ys (xs ++ ys.map (shiftT n)) (j : Int) = interleavelaw01_TokenLines.j4 k (n : Int) xs ys (xs ++ ys.map (shiftT n)) (j : Int) false := by
        intro k
        simp only [interleavelaw01_TokenLines.l1]
        rw [if_pos (by omega), if_neg (by omega)]
      refine Ev.step key (Ev.step (fun k => ?_) hih)
      simp only [interleavelaw01_TokenLines.j4]
      rw [if_neg (by simp), if_pos (by omega), w, if_pos (by omega), if_pos (by omega), if_pos (by omega), if_pos (by omega), hr, hr2, he, w2, if_neg (by simp [shiftT]), wrap_nat j (by omega)]
theorem pureLines : interleavelaw01_TokenLines.Pure := by
  intro a b _ _
  refine Ev.rounds (g := fun k => interleavelaw01_TokenLines.f k a b) ?_
  have htrue : Ev (fun k => interleavelaw01_TokenLines.j0 k a b true) true := by
    refine ⟨1, fun k hk => ?_⟩
    obtain ⟨k, rfl⟩ : ∃ m, k = m + 1 := ⟨k - 1, by omega⟩
    simp only [interleavelaw01_TokenLines.j0]
    rw [if_pos (by trivial)]
  unfold interleavelaw01_TokenLines.f
  by_cases h1 : (a.size : Int) > 500
  · exact Ev.pos h1 htrue
  refine Ev.neg h1 ?_
  by_cases h2 : (b.size : Int) > 500
  · rw [decide_eq_true h2]; exact htrue
  rw [decide_eq_false h2]
  have hl : Ev (fun k => interleavelaw01_TokenLines.l0 k a b ((1 : Nat) : Int) ((0 : Nat) : Int)) true := by
    refine lines_loop a b (by omega) true _ 0 1 (by omega) rfl (by omega) ?_
    rw [List.drop_zero]
    have hs1 := scan_ev a (by omega)
    have hs2 := scan_ev b (by omega)
    have hsz : ((a ++ (⟨#[10]⟩ : ByteArray)) ++ b).size = a.size + 1 + b.size := by rw [size_app, size_app]; rfl
    have hs3 := scan_ev ((a ++ (⟨#[10]⟩ : ByteArray)) ++ b) (by rw [hsz]; omega)
    have hd : ((a ++ (⟨#[10]⟩ : ByteArray)) ++ b).data.toList = a.data.toList ++ 10 :: b.data.toList := by
      rw [data_app, data_app]; simp
    rw [hd, scan_lines] at hs3
    have hle := lfs_le a.data.toList
    rw [size_data] at hle
    rw [show 1 + lfs a.data.toList = lfs a.data.toList + 1 from by omega]
    have hn : lfs a.data.toList + 1 ≤ 501 := by omega
    generalize lfs a.data.toList + 1 = n at hs3 hn ⊢
    have hf1 := scanL_facts a.data.toList 1
    have hf2 := scanL_facts b.data.toList 1
    have he1 := scanL_err a.data.toList 1
    have he2 := scanL_err b.data.toList 1
    rw [size_data] at hf1 hf2
    generalize scanL a.data.toList 1 = q at hs1 hs3 hf1 he1
    generalize scanL b.data.toList 1 = z at hs2 hs3 hf2 he2
    have key : ∀ k, interleavelaw01_TokenLines.l0 (k + 1) a b (n : Int) (a.size : Nat) = (token_Scan.f k a).bind fun bt257 => ((token_Scan.f k b).bind fun bt262 => ((token_Scan.f k ((a ++ (⟨#[10]⟩ : ByteArray)) ++ b)).bind fun bt267 => (if bt257.2.1 = 0 then (if bt262.2.1 = 0 then (if bt267.2.1 = 0 then (interleavelaw01_TokenLines.j2 k (n : Int) bt257.1 bt262.1 bt267.1 ((bt267.1.length : Int) != (wrap64 ((bt257.1.length : Int) + (bt262.1.length : Int))))) else (interleavelaw01_TokenLines.j2 k (n : Int) bt257.1 bt262.1 bt267.1 true)) else (if bt267.2.1 = bt262.2.1 then (if bt267.2.2 = (wrap64 (bt262.2.2 + (n : Int))) then (if (bt267.1.length : Int) = 0 then ((interleavelaw01_awake.f k).bind fun t273 => (some t273)) else (some false)) else (some false)) else (some false))) else (if bt267.2.1 = bt257.2.1 then (if bt267.2.2 = bt257.2.2 then (if (bt267.1.length : Int) = 0 then ((interleavelaw01_awake.f k).bind fun t272 => (some t272)) else (some false)) else (some false)) else (some false)))))  := by
      intro k
      simp only [interleavelaw01_TokenLines.l0]
      rw [if_neg (by omega)]
      congr 1
      funext x
      congr 1
      funext y
      rw [if_pos (by omega), if_pos (by rw [size_app]; show a.size + 1 + b.size ≤ _; omega)]
    refine Ev.step key (Ev.bind hs1 (Ev.bind hs2 (Ev.bind hs3 ?_)))
    by_cases hq : q.2.1 = 0
    · refine Ev.pos hq ?_
      by_cases hz : z.2.1 = 0
      · refine Ev.pos hz ?_
        have ej : joinR q (shiftR n z) = (q.1 ++ z.1.map (shiftT n), 0, 0) := by
          unfold joinR shiftR comb
          rw [if_pos hq, if_pos hz, if_pos rfl]
        rw [ej]
        refine Ev.pos rfl ?_
        have hw : wrap64 ((q.1.length : Int) + (z.1.length : Int)) = ((q.1 ++ z.1.map (shiftT n)).length : Int) := by
          rw [List.length_append, List.length_map, wrap_low (by omega) (by omega)]; omega
        rw [hw]
        refine Ev.step (fun k => ?_) (lines_same n (by omega) q.1 z.1 (by omega) (by omega) (fun t ht => by have := hf2.2.2.2 t ht; omega) _ 0 (by omega) rfl)
        simp only [interleavelaw01_TokenLines.j2]
        rw [if_neg (by simp)]
        rfl
      · refine Ev.neg hz ?_
        have ej : joinR q (shiftR n z) = ([], z.2.1, z.2.2 + n) := by
          unfold joinR shiftR comb
          rw [if_pos hq, if_neg hz, if_neg hz]
        have hb := hf2.2.2.1 hz
        rw [ej]
        exact Ev.pos rfl (Ev.pos (wrap_low (x := z.2.2 + (n : Int)) (by omega) (by omega)).symm (Ev.pos rfl awake_some))
    · refine Ev.neg hq ?_
      have ej : joinR q (shiftR n z) = q := by
        unfold joinR
        rw [if_neg hq]
      rw [ej]
      exact Ev.pos rfl (Ev.pos rfl (Ev.pos (by rw [he1 hq]; rfl) awake_some))
  refine Ev.step (fun k => ?_) hl
  simp only [interleavelaw01_TokenLines.j0]
  rw [if_neg (by simp)]
  rfl
end Go.Proofs.YtdkloonoeklgaaaDoor.X
