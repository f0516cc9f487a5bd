/- formula.Satisfies: walked by hand (its closures capture the model). -/
import Derived.Test.YtpaoepcebcjfhaaDoorPah
import Derived.Test.YtpaoepcebcjfhaaDoorForm
namespace Go.Proofs.YtpaoepcebcjfhaaDoor.X
open Go Go.RowKit Go.Proofs.YtpaoepcebcjfhaaDoorW.PrintWords Go.Proofs.YtpaoepcebcjfhaaDoorW.PrintLast Go.Proofs.YtpaoepcebcjfhaaDoorW.PrintMore
set_option linter.unusedVariables false
def valI (is : List Int) (i : Int) : Int := if i < 0 ∨ i ≥ (is.length : Int) then 0 else rd is i
set_option maxHeartbeats 4000000 in
set_option maxRecDepth 100000 in
theorem value_calls (gm : Nat) (A0 : Option Addr) (c0 n0 : Nat) (A1 : Option Addr) (c1 : Nat) (is : List Int) (i : Int) (W : World) (hm : W.heap[gm]? = some (.cells #[.slice A0 n0 c0, .slice A1 is.length c1] 44 (0, 0))) (hr : Kd.C (Kd.int .i64) W A1 is.length is) :
    Calls Tryd.prog 39 #[.int .i64 i, .pointer (some ⟨gm, 0, none⟩)] W fun e w' => e = .returned (.int .i64 (valI is i)) ∧ Drawn0 W w' := by
  have hq := (blk_cell hm 1).trans rfl
  unfold valI
  by_cases c : i < 0
  · rw [if_pos (.inl c)]
    have c1b : decide (i < 0) = true := decide_eq_true c
    clear c hr hm
    go_enter Tryd.func39, Tryd.ntmps39
    go_wp2
    go_ret
    exact ⟨rfl, by repeat (first | exact Drawn0.refl _ | apply Drawn0.step)⟩
  · have c1b : decide (i < 0) = false := decide_eq_false c
    by_cases c2 : i ≥ (is.length : Int)
    · rw [if_pos (.inr c2)]
      have c2b : decide ((is.length : Int) ≤ i) = true := decide_eq_true c2
      clear c hr hm c2
      go_enter Tryd.func39, Tryd.ntmps39
      go_wp2
      go_ret
      exact ⟨rfl, by repeat (first | exact Drawn0.refl _ | apply Drawn0.step)⟩
    · rw [if_neg (by omega)]
      have c2b : decide ((is.length : Int) ≤ i) = false := decide_eq_false c2
      obtain ⟨ad, e, hx⟩ := Kd.at_int hr i (by omega) (by omega)
      cases e
      have p1 := eq_true (show 0 ≤ i by omega)
      have p2 := eq_true (show i < (is.length : Int) by omega)
      clear c hr hm c2
      go_enter Tryd.func39, Tryd.ntmps39
      go_wp2
      go_ret
      exact ⟨rfl, by repeat (first | exact Drawn0.refl _ | apply Drawn0.step)⟩
def holdsAny (l : List Int) (bs : List Bool) : Bool := l.any fun x => hld x bs
def litsOk (l : List Int) : Bool := l.all fun x => decide (-9223372036854775808 ≤ x ∧ x < 9223372036854775808)
set_option maxHeartbeats 4000000 in
set_option maxRecDepth 100000 in
theorem lit_calls (gm : Nat) (A0 : Option Addr) (c0 : Nat) (bs : List Bool) (A1 : Option Addr) (c1 : Nat) (is : List Int) (x : Int) (W : World) (hm : W.heap[gm]? = some (.cells #[.slice A0 bs.length c0, .slice A1 is.length c1] 44 (0, 0)))
    (h0 : Kd.C Kd.bool W A0 bs.length bs) (l0 : bs.length ≤ c0) (h1 : Kd.C (Kd.int .i64) W A1 is.length is) (l1 : is.length ≤ c1) (hb : bs.length < 140737488355328) (hx : -9223372036854775808 ≤ x ∧ x < 9223372036854775808) :
    Calls Tryd.prog 41 #[.int .i64 x, .pointer (some ⟨gm, 0, none⟩)] W fun e w' => e = .returned (.bool (hld x bs)) ∧ Below W.heap.size W w' := by
  have hq0 : W.cell? ⟨gm, 0, none⟩ = some (.slice A0 bs.length c0) := (blk_cell hm 0).trans rfl
  have hq1 : W.cell? ⟨gm, 1, none⟩ = some (.slice A1 is.length c1) := (blk_cell hm 1).trans rfl
  have hcon := formula_Holds.calls x A0 c0 bs A1 c1 is (hld x bs) W h0 l0 h1 l1 (holds_f x bs is hx.1 hx.2 (by omega))
  clear hm h0 h1 l0 l1 hb hx
  go_enter Tryd.func41, Tryd.ntmps41
  go_wp2_with (go_at_call 24; refine hcon.mono ?_; rintro e w1 ⟨rfl, hb1⟩)
  go_ret
  exact ⟨rfl, hb1⟩
theorem rd_at {l : List Int} {i : Nat} (hi : i < l.length) : rd l (i : Int) = l[i] := by
  unfold rd
  rw [Int.toNat_natCast, List.getD_eq_getElem?_getD, List.getElem?_eq_getElem hi]
  rfl
theorem any_drop (l : List Int) (bs : List Bool) (i : Nat) (hi : i < l.length) : holdsAny (l.drop i) bs = (hld (rd l (i : Int)) bs || holdsAny (l.drop (i + 1)) bs) := by
  unfold holdsAny
  rw [List.drop_eq_getElem_cons hi, List.any_cons, rd_at hi]
set_option maxHeartbeats 4000000 in
set_option maxRecDepth 100000 in
theorem index_calls (gm : Nat) (A0 : Option Addr) (c0 : Nat) (bs : List Bool) (A1 : Option Addr) (c1 : Nat) (is : List Int) (A : Option Addr) (c : Nat) (l : List Int) (W : World) (hm : W.heap[gm]? = some (.cells #[.slice A0 bs.length c0, .slice A1 is.length c1] 44 (0, 0)))
    (h0 : Kd.C Kd.bool W A0 bs.length bs) (l0 : bs.length ≤ c0) (h1 : Kd.C (Kd.int .i64) W A1 is.length is) (l1 : is.length ≤ c1) (hb : bs.length < 140737488355328) (hr : Kd.C (Kd.int .i64) W A l.length l) (hx : litsOk l = true) (hl : l.length < 4611686018427387904) :
    Calls Tryd.prog 49 #[.slice A l.length c, .func (.func 41) #[] #[.pointer (some ⟨gm, 0, none⟩)]] W fun e w' => (∃ j : Int, e = .returned (.int .i64 j) ∧ (decide (0 ≤ j) = holdsAny l bs)) ∧ Below W.heap.size W w' := by
  have HM := Aside0.mk hm
  have H0 := Aside0.mk h0
  have H1 := Aside0.mk h1
  have HR := Aside0.mk hr
  have L0 := Aside0.mk l0
  have L1 := Aside0.mk l1
  have HB := Aside0.mk hb
  have HX := Aside0.mk hx
  have HL := Aside0.mk hl
  clear hm h0 h1 hr l0 l1 hb hx hl
  go_enter Tryd.func49, Tryd.ntmps49
  go_wp2
  go_loopg [5, 8] l.length (fun kq v5 v8 w' => ∃ i : Nat, v8 = .int .i64 (i : Int) ∧ Aside0 (i + kq = l.length) ∧ Aside0 (holdsAny (l.drop i) bs = holdsAny l bs) ∧ Aside0 (Below W.heap.size W w'))
  case atStart => exact ⟨0, by first | rfl | simp, ⟨Nat.zero_add _⟩, ⟨by rw [List.drop_zero]⟩, ⟨Below.refl _ _⟩⟩
  case round =>
    obtain ⟨i, rfl, HI, HA, H2⟩ := hrel
    by_cases c : (i : Int) < (l.length : Int)
    · have c1 : decide ((i : Int) < (l.length : Int)) = true := decide_eq_true c
      have hi : i < l.length := by omega
      cases gk with
      | zero => exact absurd HI.out (by omega)
      | succ k1 =>
      obtain ⟨ad, e, hx⟩ := Kd.at_int (Kd.C_below HR.out H2.out) (i : Int) (Int.natCast_nonneg i) c
      cases e
      rw [Int.toNat_natCast] at hx
      have p1 := eq_true (Int.natCast_nonneg i)
      have p2 := eq_true c
      have hlit := of_decide_eq_true (List.all_eq_true.1 HX.out (rd l (i : Int)) (by rw [rd_at hi]; exact List.getElem_mem hi))
      have hcon := lit_calls gm A0 c0 bs A1 _ is (rd l (i : Int)) wr (blk_below HM.out H2.out) (Kd.C_below H0.out H2.out) L0.out (Kd.C_below H1.out H2.out) L1.out HB.out hlit
      have HD := Aside0.mk (any_drop l bs i hi)
      clear hlit
      by_cases hv : hld (rd l (i : Int)) bs = true
      · rw [hv] at hcon
        go_wp2_with (go_at_call 41; refine hcon.mono ?_; rintro e w1 ⟨rfl, hb1⟩)
        go_ret
        refine ⟨⟨_, rfl, ?_⟩, below_step H2.out hb1⟩
        rw [← HA.out, HD.out, hv, Bool.true_or]
        exact decide_eq_true (Int.natCast_nonneg i)
      · rw [show hld (rd l (i : Int)) bs = false by simpa using hv] at hcon
        go_wp2_with (go_at_call 41; refine hcon.mono ?_; rintro e w1 ⟨rfl, hb1⟩)
        go_roundg k1
        case measure => omega
        case rel =>
          refine ⟨i + 1, ?_, ⟨by have := HI.out; omega⟩, ⟨?_⟩, ⟨below_step H2.out hb1⟩⟩
          · have hk := HL.out
            have : wrap64 ((i : Int) + 1) = ((i + 1 : Nat) : Int) := by
              unfold wrap64
              omega
            rw [this]
          · rw [← HA.out, HD.out, show hld (rd l (i : Int)) bs = false by simpa using hv, Bool.false_or]
    · have c1 : decide ((i : Int) < (l.length : Int)) = false := decide_eq_false c
      go_wp2
      go_ret
      refine ⟨⟨_, rfl, ?_⟩, H2.out⟩
      rw [← HA.out, List.drop_of_length_le (by omega)]
      rfl
set_option maxHeartbeats 4000000 in
set_option maxRecDepth 100000 in
theorem containsF_calls (gm : Nat) (A0 : Option Addr) (c0 : Nat) (bs : List Bool) (A1 : Option Addr) (c1 : Nat) (is : List Int) (A : Option Addr) (c : Nat) (l : List Int) (W : World) (hm : W.heap[gm]? = some (.cells #[.slice A0 bs.length c0, .slice A1 is.length c1] 44 (0, 0)))
    (h0 : Kd.C Kd.bool W A0 bs.length bs) (l0 : bs.length ≤ c0) (h1 : Kd.C (Kd.int .i64) W A1 is.length is) (l1 : is.length ≤ c1) (hb : bs.length < 140737488355328) (hr : Kd.C (Kd.int .i64) W A l.length l) (hx : litsOk l = true) (hl : l.length < 4611686018427387904) :
    Calls Tryd.prog 40 #[.slice A l.length c, .func (.func 41) #[] #[.pointer (some ⟨gm, 0, none⟩)]] W fun e w' => e = .returned (.bool (holdsAny l bs)) ∧ Below W.heap.size W w' := by
  have hcon := index_calls gm A0 c0 bs A1 c1 is A c l W hm h0 l0 h1 l1 hb hr hx hl
  clear hm h0 h1 hr l0 l1 hb hx hl
  go_enter Tryd.func40, Tryd.ntmps40
  go_wp2_with (go_at_call 49; refine hcon.mono ?_; rintro e w1 ⟨⟨j, rfl, hj⟩, hb1⟩)
  go_ret
  exact ⟨by rw [← hj]; rfl, hb1⟩
end Go.Proofs.YtpaoepcebcjfhaaDoor.X
