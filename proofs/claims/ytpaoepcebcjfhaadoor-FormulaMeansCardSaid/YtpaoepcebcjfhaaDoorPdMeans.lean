/- FormulaMeans in plain terms: the normal form holds in the same models, ascending. -/
import Derived.Test.YtpaoepcebcjfhaaDoorPn
import Derived.Test.YtpaoepcebcjfhaaDoorPb
import Derived.Test.YtpaoepcebcjfhaaDoorPah
import Derived.Test.YtpaoepcebcjfhaaDoorX9
namespace Go.Proofs.YtpaoepcebcjfhaaDoor.X
open Go Go.RowKit Go.Proofs.YtpaoepcebcjfhaaDoorW.PrintWords Go.Proofs.YtpaoepcebcjfhaaDoorW.PrintLast Go.Proofs.YtpaoepcebcjfhaaDoorW.PrintMore
/-- The literal that stands for a number. -/
def lit20 (x : Int) : Int := if x < 0 then wrap64 (-(wrap64 (1 + (wrap64 (Int.tmod (IntKind.u64.wrap x) 20))))) else wrap64 (1 + (wrap64 (Int.tmod (IntKind.u64.wrap x) 20)))
theorem lit20_range (x : Int) : lit20 x ≠ 0 ∧ -21 < lit20 x ∧ lit20 x < 21 := by
  have h1 : 0 ≤ IntKind.u64.wrap x := by
    simp only [IntKind.wrap, IntKind.signed, IntKind.bits]
    simp
    omega
  have h2 : 0 ≤ Int.tmod (IntKind.u64.wrap x) 20 := Int.tmod_nonneg 20 h1
  have h3 : Int.tmod (IntKind.u64.wrap x) 20 < 20 := Int.tmod_lt_of_pos _ (by decide)
  unfold lit20
  generalize Int.tmod (IntKind.u64.wrap x) 20 = m at *
  unfold wrap64
  split <;> omega
def holdsL (l : List Int) (bs : List Bool) : Bool := l.any fun x => hld x bs
section
variable (bs : List Bool) (is : List Int)
theorem step_any (l : List Int) (i : Nat) (hi : i < l.length) : holdsL (l.drop i) bs = (hld l[i] bs || holdsL (l.drop (i + 1)) bs) := by
  unfold holdsL
  rw [List.drop_eq_getElem_cons hi, List.any_cons]
/-- What the end answers. -/
def endB (d : List Int) (ok a b : Bool) : Bool := if ok = true then a == b else if d.length = 0 then (a || decide (bs.length < 20)) else false
theorem means_l2 (d : List Int) (ok a : Bool) (hb : bs.length < 1000000) (hd : ∀ x ∈ d, -1000 < x ∧ x < 1000) (hp : ∀ j (h : j + 1 < d.length), nb d[j] < nb d[j + 1]) (hz : ∀ x ∈ d, x ≠ 0) (hl : d.length < 1000000) :
    ∀ (n i : Nat) (b : Bool), i + n = d.length → endB bs d ok a (b || holdsL (d.drop i) bs) = true → Ev (fun k => interleavelaw31_FormulaMeans.l2 k d ok a b d (d.length : Int) (i : Int) bs is) true := by
  intro n
  induction n with
  | zero =>
    intro i b hi he
    rw [List.drop_of_length_le (by omega)] at he
    have he : endB bs d ok a (b || false) = true := he
    rw [Bool.or_false] at he
    refine Ev.step (f := fun k => (interleavelaw31_awake.f k).bind fun t => some t) (fun k => ?_) (Ev.bind awake_ev (Ev.now true))
    simp only [interleavelaw31_FormulaMeans.l2]
    rw [if_neg (by omega)]
    unfold endB at he
    by_cases c : ok = true
    · rw [if_pos c] at he
      rw [if_pos c, if_pos he]
    · rw [if_neg c] at he
      rw [if_neg c]
      by_cases c2 : d.length = 0
      · rw [if_pos c2] at he
        rw [if_pos (by omega)]
        by_cases c3 : a = true
        · rw [if_pos c3]
        · rw [if_neg c3]
          have : a = false := by simpa using c3
          rw [this, Bool.false_or] at he
          have := of_decide_eq_true he
          rw [if_pos (by omega)]
      · rw [if_neg c2] at he
        cases he
  | succ n ih =>
    intro i b hi he
    have hii : i < d.length := by omega
    have hx := hd _ (List.getElem_mem hii)
    have hh : formula_Holds.f (rd d (i : Int)) bs is = some (hld d[i] bs) := by
      rw [rd_get hii]
      exact holds_f _ bs is (by omega) (by omega) (by omega)
    rw [step_any bs d i hii, ← Bool.or_assoc] at he
    have hnext := ih (i + 1) (b || hld d[i] bs) (by omega) he
    have hj4 : ∀ b', b' = (b || hld d[i] bs) → Ev (fun k => interleavelaw31_FormulaMeans.j4 k d ok a b' (i : Int) (rd d (i : Int)) d (d.length : Int) (i : Int) bs is) true := by
      rintro b' rfl
      refine Ev.step (f := fun k => interleavelaw31_FormulaMeans.l2 k d ok a (b || hld d[i] bs) d (d.length : Int) ((i + 1 : Nat) : Int) bs is) (fun k => ?_) hnext
      simp only [interleavelaw31_FormulaMeans.j4]
      rw [wrapn hii (by omega)]
      by_cases c : (i : Int) > 0
      · have e1 : wrap64 ((i : Int) - 1) = ((i - 1 : Nat) : Int) := by
          unfold wrap64
          omega
        have hi1 : i - 1 < d.length := by omega
        have hy := hd _ (List.getElem_mem hi1)
        have hzy := hz _ (List.getElem_mem hi1)
        have hzx := hz _ (List.getElem_mem hii)
        have ab : ∀ x : Int, -1000 < x ∧ x < 1000 → x ≠ 0 → interleaveref31_Abs.f x = some (nb x + 1) := by
          intro x h1 h2
          unfold interleaveref31_Abs.f nb
          split
          · congr 1
            unfold wrap64
            omega
          · congr 1
            omega
        have hlt := hp (i - 1) (by omega)
        have e2 : i - 1 + 1 = i := by omega
        simp only [e2] at hlt
        rw [if_pos c, e1, if_pos (by omega), if_pos (by omega), rd_get hi1, rd_get hii, ab _ hy hzy, Option.bind_some, ab _ hx hzx, Option.bind_some, if_neg (by omega)]
      · rw [if_neg c]
    by_cases cb : b = true
    · refine Ev.step (fun k => ?_) (hj4 true (by rw [cb, Bool.true_or]))
      simp only [interleavelaw31_FormulaMeans.l2]
      rw [if_pos (by omega), if_pos (by omega), if_pos (by omega), if_pos cb]
    · refine Ev.step (fun k => ?_) (hj4 (hld d[i] bs) (by rw [show b = false by simpa using cb, Bool.false_or]))
      simp only [interleavelaw31_FormulaMeans.l2]
      rw [if_pos (by omega), if_pos (by omega), if_pos (by omega), if_neg cb, hh, Option.bind_some]
theorem means_l1 (d : List Int) (ok : Bool) (l : List Int) (hb : bs.length < 1000000) (hs : ∀ x ∈ l, -1000 < x ∧ x < 1000) (hl : l.length < 1000000)
    (hend : Ev (fun k => interleavelaw31_FormulaMeans.l2 k d ok (holdsL l bs) false d (d.length : Int) 0 bs is) true) :
    ∀ (n i : Nat) (a : Bool), i + n = l.length → (a || holdsL (l.drop i) bs) = holdsL l bs → Ev (fun k => interleavelaw31_FormulaMeans.l1 k d ok a false l (l.length : Int) (i : Int) bs is) true := by
  intro n
  induction n with
  | zero =>
    intro i a hi he
    rw [List.drop_of_length_le (by omega)] at he
    have he : (a || false) = holdsL l bs := he
    rw [Bool.or_false] at he
    refine Ev.step (fun k => ?_) hend
    simp only [interleavelaw31_FormulaMeans.l1]
    rw [if_neg (by omega), he]
  | succ n ih =>
    intro i a hi he
    have hii : i < l.length := by omega
    have hx := hs _ (List.getElem_mem hii)
    have hh : formula_Holds.f (rd l (i : Int)) bs is = some (hld l[i] bs) := by
      rw [rd_get hii]
      exact holds_f _ bs is (by omega) (by omega) (by omega)
    rw [step_any bs l i hii, ← Bool.or_assoc] at he
    by_cases ca : a = true
    · refine Ev.step (fun k => ?_) (ih (i + 1) true (by omega) (by rw [ca, Bool.true_or] at he; exact he))
      simp only [interleavelaw31_FormulaMeans.l1]
      rw [if_pos (by omega), if_pos (by omega), if_pos (by omega), if_pos ca, wrapn hii (by omega)]
    · refine Ev.step (fun k => ?_) (ih (i + 1) (hld l[i] bs) (by omega) (by rw [show a = false by simpa using ca, Bool.false_or] at he; exact he))
      simp only [interleavelaw31_FormulaMeans.l1]
      rw [if_pos (by omega), if_pos (by omega), if_pos (by omega), if_neg ca, hh, Option.bind_some, wrapn hii (by omega)]
theorem means_l0 (c l : List Int) (hc : c.length < 1000) (hl : l = c.map lit20)
    (hend : Ev (fun k => (formula_Normal.f k l).bind fun bt288 => (interleavelaw31_FormulaMeans.l1 k bt288.1 bt288.2 false false l (l.length : Int) 0 bs is)) true) :
    ∀ (n i : Nat), i + n = c.length → Ev (fun k => interleavelaw31_FormulaMeans.l0 k ((c.take i).map lit20) c (c.length : Int) (i : Int) bs is) true := by
  intro n
  induction n with
  | zero =>
    intro i hi
    refine Ev.step (fun k => ?_) hend
    simp only [interleavelaw31_FormulaMeans.l0]
    rw [if_neg (by omega), List.take_of_length_le (by omega), ← hl]
  | succ n ih =>
    intro i hi
    have hii : i < c.length := by omega
    have e1 : (c.take (i + 1)).map lit20 = (c.take i).map lit20 ++ [lit20 (rd c (i : Int))] := by
      rw [List.take_add_one, List.getElem?_eq_getElem hii, rd_get hii, List.map_append]
      rfl
    have hlen : ((c.take i).map lit20).length < 17592186044416 := by
      rw [List.length_map, List.length_take]
      omega
    have hn := ih (i + 1) (by omega)
    rw [e1] at hn
    refine Ev.step (fun k => ?_) hn
    simp only [interleavelaw31_FormulaMeans.l0]
    rw [if_pos (by omega), if_pos (by omega), if_pos (by omega), wrapn hii (by omega)]
    by_cases cx : rd c (i : Int) < 0
    · have el : lit20 (rd c (i : Int)) = wrap64 (-(wrap64 (1 + (wrap64 (Int.tmod (IntKind.u64.wrap (rd c (i : Int))) 20))))) := by
        unfold lit20
        rw [if_pos cx]
      rw [if_pos cx, if_pos hlen, el]
    · have el : lit20 (rd c (i : Int)) = wrap64 (1 + (wrap64 (Int.tmod (IntKind.u64.wrap (rd c (i : Int))) 20))) := by
        unfold lit20
        rw [if_neg cx]
      rw [if_neg cx, if_pos hlen, el]
theorem hld_neg (x : Int) (h1 : x ≠ 0) (h2 : -21 < x ∧ x < 21) (hb : 20 ≤ bs.length) : (hld x bs || hld (-x) bs) = true := by
  unfold hld
  rw [if_neg (show ¬ (x = 0 ∨ (bs.length : Int) < x ∨ x < -(bs.length : Int)) by omega), if_neg (show ¬ (-x = 0 ∨ (bs.length : Int) < -x ∨ -x < -(bs.length : Int)) by omega)]
  by_cases c : 0 < x
  · rw [if_pos c, if_neg (by omega)]
    have : - -x - 1 = x - 1 := by omega
    rw [this]
    cases rdOf false bs (x - 1) <;> rfl
  · rw [if_neg c, if_pos (by omega)]
    cases rdOf false bs (-x - 1) <;> rfl
theorem meansLaw (c : List Int) (hc0 : c.length * 8 ≤ reachBytes) (hb0 : bs.length < 140737488355328) : ∃ k, interleavelaw31_FormulaMeans.f k c bs is = some true := by
  have hA : Ev (fun k => (interleavelaw31_awake.f k).bind fun t => some t) true := Ev.bind awake_ev (Ev.now true)
  have hj : ∀ q, (q = false → c.length ≤ 60 ∧ bs.length ≤ 60) → Ev (fun k => interleavelaw31_FormulaMeans.j0 k c q bs is) true := by
    intro q hq
    by_cases cq : q = true
    · refine Ev.step (fun k => ?_) hA
      simp only [interleavelaw31_FormulaMeans.j0]
      rw [if_pos cq]
    · obtain ⟨hc, hb⟩ := hq (by simpa using cq)
      have hr : ∀ x ∈ c.map lit20, x ≠ 0 ∧ -21 < x ∧ x < 21 := by
        intro x hx
        obtain ⟨y, _, rfl⟩ := List.mem_map.1 hx
        exact lit20_range y
      have hs : smallL (c.map lit20) := fun x hx => ⟨(hr x hx).1, by have := (hr x hx).2; omega⟩
      have hsl : ∀ x ∈ c.map lit20, -1000 < x ∧ x < 1000 := fun x hx => (hs x hx).2
      have hll : (c.map lit20).length ≤ 60 := by rw [List.length_map]; exact hc
      have hfin : Ev (fun k => (formula_Normal.f k (c.map lit20)).bind fun bt288 => (interleavelaw31_FormulaMeans.l1 k bt288.1 bt288.2 false false (c.map lit20) ((c.map lit20).length : Int) 0 bs is)) true := by
        have hds : ∀ x ∈ norm (c.map lit20), -1000 < x ∧ x < 1000 := fun x hx => hsl x (norm_mem.1 hx)
        have hdz : ∀ x ∈ norm (c.map lit20), x ≠ 0 := fun x hx => (hr x (norm_mem.1 hx)).1
        have hdl : (norm (c.map lit20)).length ≤ 60 := by
          have h1 : (sortN (c.map lit20)).length = (c.map lit20).length := List.length_mergeSort _
          have h2 := compact_length_le (sortN (c.map lit20))
          exact Nat.le_trans h2 (by rw [h1]; exact hll)
        have hpair := List.pairwise_iff_getElem.1 (norm_sorted hs)
        rcases normal_ev (c.map lit20) hs (by omega) with ⟨h1, h2⟩ | ⟨h1, h2⟩
        · refine Ev.bind h1 ?_
          have hpp : ∀ j (h : j + 1 < (norm (c.map lit20)).length), nb (norm (c.map lit20))[j] < nb (norm (c.map lit20))[j + 1] := by
            intro j h
            have h3 := hpair j (j + 1) (by omega) h (by omega)
            have h4 := h2 j h
            unfold nkey at h3
            have t1 : nt (norm (c.map lit20))[j] = 0 ∨ nt (norm (c.map lit20))[j] = 1 := by unfold nt; split <;> simp
            have t2 : nt (norm (c.map lit20))[j + 1] = 0 ∨ nt (norm (c.map lit20))[j + 1] = 1 := by unfold nt; split <;> simp
            omega
          have hsame : holdsL (norm (c.map lit20)) bs = holdsL (c.map lit20) bs := by
            unfold holdsL
            rw [Bool.eq_iff_iff, List.any_eq_true, List.any_eq_true]
            constructor
            · rintro ⟨x, hx, h⟩
              exact ⟨x, norm_mem.1 hx, h⟩
            · rintro ⟨x, hx, h⟩
              exact ⟨x, norm_mem.2 hx, h⟩
          refine means_l1 bs is _ true _ (by omega) hsl (by omega) ?_ (c.map lit20).length 0 false (by omega) (by rw [List.drop_zero, Bool.false_or])
          refine means_l2 bs is _ true _ (by omega) hds hpp hdz (by omega) (norm (c.map lit20)).length 0 false (by omega) ?_
          rw [List.drop_zero, Bool.false_or, hsame]
          unfold endB
          rw [if_pos rfl]
          simp
        · refine Ev.bind h1 ?_
          refine means_l1 bs is _ false _ (by omega) hsl (by omega) ?_ (c.map lit20).length 0 false (by omega) (by rw [List.drop_zero, Bool.false_or])
          refine means_l2 bs is [] false _ (by omega) (fun x hx => by cases hx) (fun j h => by simp at h) (fun x hx => by cases hx) (by simp) 0 0 false (by simp) ?_
          unfold endB
          rw [if_neg (by decide), if_pos (by simp)]
          by_cases c20 : bs.length < 20
          · rw [decide_eq_true c20, Bool.or_true]
          · rw [decide_eq_false c20, Bool.or_false]
            obtain ⟨j, h, he⟩ := h2
            have m1 : (norm (c.map lit20))[j] ∈ c.map lit20 := norm_mem.1 (List.getElem_mem (by omega))
            have m2 : (norm (c.map lit20))[j + 1] ∈ c.map lit20 := norm_mem.1 (List.getElem_mem h)
            have h3 := hpair j (j + 1) (by omega) h (by omega)
            have r1 := hr _ m1
            have r2 := hr _ m2
            have hneg : (norm (c.map lit20))[j + 1] = -(norm (c.map lit20))[j] := by
              unfold nkey at h3
              have hne : (norm (c.map lit20))[j + 1] ≠ (norm (c.map lit20))[j] := fun e => by rw [e] at h3; omega
              generalize (norm (c.map lit20))[j + 1] = y at *
              generalize (norm (c.map lit20))[j] = x at *
              clear h3
              unfold nb at he
              split at he <;> split at he <;> omega
            rw [hneg] at m2
            have h5 := hld_neg bs _ r1.1 r1.2 (by omega)
            unfold holdsL
            rw [List.any_eq_true]
            rcases Bool.or_eq_true_iff.1 h5 with h6 | h6
            · exact ⟨_, m1, h6⟩
            · exact ⟨_, m2, h6⟩
      have h0 := means_l0 bs is c (c.map lit20) (by omega) rfl hfin c.length 0 (by omega)
      refine Ev.step (fun k => ?_) h0
      simp only [interleavelaw31_FormulaMeans.j0]
      rw [if_neg cq]
      rfl
  refine Ev.rounds (g := fun k => interleavelaw31_FormulaMeans.f k c bs is) ?_
  unfold interleavelaw31_FormulaMeans.f
  by_cases c1 : (c.length : Int) > 60
  · exact Ev.congr (fun k => if_pos c1) (hj true (fun h => by cases h))
  · refine Ev.congr (fun k => if_neg c1) (hj _ (fun h => ?_))
    have := of_decide_eq_false h
    omega
end
end Go.Proofs.YtpaoepcebcjfhaaDoor.X
