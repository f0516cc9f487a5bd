/- token.IsName: its walk, over every string. -/
import Derived.Test.YtdkloonoeklgaaaDoorMa
import Derived.Laws.RangeString
import Derived.Laws.RangeAny
import Derived.WalkLawsBesides
import Derived.WalkSpells
import Derived.Outline
import Derived.Lib.Hide
namespace Go.Proofs.YtdkloonoeklgaaaDoor.X
open Go.RowKit Go.Proofs.YtdkloonoeklgaaaDoorW.PrintWords Go.Proofs.YtdkloonoeklgaaaDoorW.PrintLast Go.Proofs.YtdkloonoeklgaaaDoorW.PrintMore

/-- The keywords, as bytes. -/
def kwList : List (List UInt8) := [[118, 97, 114], [118, 111, 108, 97, 116, 105, 108, 101], [109, 117, 116, 101, 120], [114, 119, 108, 111, 99, 107], [99, 111, 110, 100], [102, 117, 116, 117, 114, 101], [116, 104, 114, 101, 97, 100], [105, 102], [101, 108, 115, 101], [119, 104, 105, 108, 101], [108, 111, 99, 107], [114, 101, 97, 100], [119, 114, 105, 116, 101], [116, 114, 97, 110, 115, 97, 99, 116, 105, 111, 110], [97, 116, 111, 109, 105, 99], [119, 97, 105, 116], [110, 111, 116, 105, 102, 121], [110, 111, 116, 105, 102, 121, 97, 108, 108], [115, 112, 97, 119, 110], [106, 111, 105, 110], [115, 101, 116], [103, 101, 116]]
def kwB (s : ByteArray) : Bool := decide (s.toList ∈ kwList)
theorem ite_or {p : Prop} [Decidable p] {X : Option Bool} {b : Bool} (h : X = some b) : (if p then some true else X) = some (decide p || b) := by
  by_cases hp : p <;> simp [hp, h]
theorem kw_f (s : ByteArray) : token_IsKeyword.f s = some (kwB s) := by
  unfold token_IsKeyword.f kwB kwList
  simp only [List.mem_cons, List.not_mem_nil, or_false, Bool.decide_or]
  repeat (refine ite_or ?_)
  by_cases h : s.toList = [103, 101, 116] <;> simp [h]
/-- The bytes ahead of k may all stand in a word, and the first one is a letter. -/
def okTo (s : ByteArray) (k : Nat) : Prop := (∀ i : Nat, i < k → isInn (bt s i) = true) ∧ (0 < k → isLet (bt s 0) = true)
def nameB (s : ByteArray) : Bool := (((List.range s.size).all fun i => isInn (bt s i)) && (decide (s.size = 0) || isLet (bt s 0))) && (decide (1 ≤ s.size) && (decide (s.size ≤ 12) && !kwB s))
def token_IsName.f (a0 : ByteArray) : Option Bool := some (nameB a0)

theorem nameB_bad {s : ByteArray} {k : Nat} (hk : k < s.size) (h : isInn (bt s k) = false ∨ (k = 0 ∧ isLet (bt s 0) = false)) : nameB s = false := by
  unfold nameB
  rw [Bool.and_eq_false_iff]; left
  rcases h with h | ⟨rfl, h⟩
  · rw [Bool.and_eq_false_iff]; left
    rw [List.all_eq_false]
    exact ⟨k, List.mem_range.2 hk, by simp [h]⟩
  · rw [Bool.and_eq_false_iff]; right
    rw [decide_eq_false (by omega : ¬ s.size = 0), h]; rfl
theorem nameB_ok {s : ByteArray} (h : okTo s s.size) : nameB s = (decide (1 ≤ s.size) && (decide (s.size ≤ 12) && !kwB s)) := by
  unfold nameB
  have h1 : ((List.range s.size).all fun i => isInn (bt s i)) = true := by
    rw [List.all_eq_true]; intro i hi; exact h.1 i (List.mem_range.1 hi)
  have h2 : (decide (s.size = 0) || isLet (bt s 0)) = true := by
    by_cases h0 : s.size = 0
    · simp [h0]
    · rw [h.2 (by omega)]; simp
  rw [h1, h2]; simp

theorem inner_calls (c : Int) (w : World) : Calls Tryd.prog 26 #[.int .u8 c] w fun e w' => e = .returned (.bool (isInn c)) ∧ Drawn0 w w' := token_inner.calls c _ w (inner_f c)
theorem letter_calls (c : Int) (w : World) : Calls Tryd.prog 27 #[.int .u8 c] w fun e w' => e = .returned (.bool (isLet c)) ∧ Drawn0 w w' := token_letter.calls c _ w (letter_f c)
theorem kw_calls (s : ByteArray) (w : World) : Calls Tryd.prog 17 #[.string s] w fun e w' => e = .returned (.bool (kwB s)) ∧ Drawn0 w w' := token_IsKeyword.calls s _ w (kw_f s)

theorem below_iter (w : World) (m : Nat) (s : ByteArray) (p n : Nat) : Below w.heap.size w (((w.drewN m).iter s p).drewN n) :=
  pw_below_drewN (below_alloc (pw_below_drewN (Below.refl _ _) m) _) n

theorem iter_drewN (w : World) (m : Nat) (s : ByteArray) (p n : Nat) : ((w.drewN m).iter s p).drewN n = (w.drewN (m + n)).iter s p := by
  rw [← World.drewN_drewN]; rfl
theorem okTo_succ {s : ByteArray} {k : Nat} (h : okTo s k) (hi : isInn (bt s k) = true) (hl : k = 0 → isLet (bt s 0) = true) : okTo s (k + 1) :=
  ⟨fun i hik => if e : i = k then by subst e; exact hi else h.1 i (by omega), fun _ => if e : k = 0 then hl e else h.2 (by omega)⟩
theorem isInn_high {c : Int} (h : 127 < c) : isInn c = false := by
  unfold isInn isLet isDig
  simp; omega

set_option maxHeartbeats 1000000 in
set_option maxRecDepth 100000 in
theorem token_IsName.calls (a0 : ByteArray) (r : Bool) (w : World) (h : token_IsName.f a0 = some r) :
    Calls Tryd.prog 15 #[.string a0] w fun e w' => e = .returned (.bool r) ∧ Below w.heap.size w w' := by
  have hr : nameB a0 = r := Option.some.inj h
  clear h
  subst hr
  go_enter Tryd.func15, Tryd.ntmps15
  go_wp2
  go_loopg [3, 4] (a0.size) (fun gk v3 v4 w' => ∃ k m : Nat, k ≤ a0.size ∧ gk = a0.size - k ∧ Aside0 (okTo a0 k) ∧ w' = (w.drewN m).iter a0 k)
  case atStart => exact ⟨0, 0, by omega, by omega, ⟨by intro i hi; omega, by omega⟩, rfl⟩
  case round =>
    obtain ⟨k, m, hk, hg, hp, rfl⟩ := hrel
    by_cases hlt : k < a0.size
    · by_cases ha : (a0[k]'hlt).toNat < 128
      · have hnx : ∀ ty, (Instr.next (.pointer (some ⟨w.heap.size, 0, none⟩)) true ty).run Tryd.prog ((w.drewN m).iter a0 k) = _ := fun ty => run_next_ascii (w.drewN m) a0 k ty hlt ha
        have hb := bt_at a0 k (by simpa using hlt)
        simp only [Int.toNat_natCast] at hb
        rw [hb] at hnx
        have hbr := bt_range a0 k
        have hb127 : bt a0 k ≤ 127 := by rw [← hb]; omega
        clear hb ha
        cases hin : isInn (bt a0 k) with
        | false =>
          have HN := Lib.hid (nameB_bad hlt (.inl hin))
          have HI := Lib.hid hin
          clear hin
          go_wp2_with (go_at_call 26; refine (inner_calls _ _).mono ?_; rintro e w' ⟨rfl, ⟨n, rfl⟩⟩; simp only [HI.out])
          go_ret
          exact ⟨by rw [HN.out]; rfl, below_iter _ _ _ _ _⟩
        | true =>
          have HI := Lib.hid hin
          by_cases h0 : k = 0
          · have hz : ((k : Int) == 0) = true := by simp; omega
            cases hle : isLet (bt a0 k) with
            | false =>
              have HN := Lib.hid (nameB_bad hlt (.inr ⟨h0, by subst h0; exact hle⟩))
              have HL := Lib.hid hle
              clear hle hin h0
              go_wp2_with (first | (go_at_call 26; refine (inner_calls _ _).mono ?_; rintro e w' ⟨rfl, ⟨n, rfl⟩⟩; simp only [HI.out]) | (go_at_call 27; refine (letter_calls _ _).mono ?_; rintro e w' ⟨rfl, ⟨n2, rfl⟩⟩; simp only [HL.out]))
              go_ret
              exact ⟨by rw [HN.out]; rfl, below_iter _ _ _ _ _⟩
            | true =>
              have HP := Lib.hid (okTo_succ (k := k) hp.out hin (fun _ => by subst h0; exact hle))
              have HL := Lib.hid hle
              clear hle hin h0
              go_wp2_with (first | (go_at_call 26; refine (inner_calls _ _).mono ?_; rintro e w' ⟨rfl, ⟨n, rfl⟩⟩; simp only [HI.out]) | (go_at_call 27; refine (letter_calls _ _).mono ?_; rintro e w' ⟨rfl, ⟨n2, rfl⟩⟩; simp only [HL.out]))
              go_roundg (a0.size - (k + 1))
              case rel => exact ⟨k + 1, m + (n + n2), by omega, rfl, ⟨HP.out⟩, iter_drewN _ _ _ _ _⟩
              case measure => omega
          · have hz : ((k : Int) == 0) = false := by simp; omega
            have HP := Lib.hid (okTo_succ (k := k) hp.out hin (fun h => absurd h h0))
            clear hin
            go_wp2_with (first | (go_at_call 26; refine (inner_calls _ _).mono ?_; rintro e w' ⟨rfl, ⟨n, rfl⟩⟩; simp only [HI.out]))
            go_roundg (a0.size - (k + 1))
            case rel => exact ⟨k + 1, m + n, by omega, rfl, ⟨HP.out⟩, iter_drewN _ _ _ _ _⟩
            case measure => omega
      · have hnx : ∀ ty, (Instr.next (.pointer (some ⟨w.heap.size, 0, none⟩)) true ty).run Tryd.prog ((w.drewN m).iter a0 k) = _ := fun ty => run_next_any (w.drewN m) a0 k ty hlt
        have hd := (decode_high a0 k hlt (by omega)).1
        have hb := bt_at a0 k (by simpa using hlt)
        simp only [Int.toNat_natCast] at hb
        have HN := Lib.hid (nameB_bad hlt (.inl (isInn_high (c := bt a0 k) (by rw [← hb]; omega))))
        have hgt : (127 : Int) < ((Utf8.decode a0 k).1 : Int) := by omega
        clear hb ha hd
        go_wp2_with fail
        go_ret
        exact ⟨by rw [HN.out]; rfl, below_iter _ _ _ _ 0⟩
    · have hnx : ∀ ty, (Instr.next (.pointer (some ⟨w.heap.size, 0, none⟩)) true ty).run Tryd.prog ((w.drewN m).iter a0 k) = _ := fun ty => run_next_end (w.drewN m) a0 k ty hlt
      have hk2 : k = a0.size := by omega
      have HN := Lib.hid (nameB_ok (by have := hp.out; rwa [hk2] at this))
      clear hk2 hlt
      by_cases h1 : 1 ≤ a0.size
      · by_cases h2 : a0.size ≤ 12
        · go_wp2_with (first | (go_at_call 17; refine (kw_calls _ _).mono ?_; rintro e w' ⟨rfl, ⟨n, rfl⟩⟩))
          go_ret
          exact ⟨by rw [HN.out, decide_eq_true h1, decide_eq_true h2]; rfl, below_iter _ _ _ _ _⟩
        · go_wp2_with fail
          go_ret
          exact ⟨by rw [HN.out, decide_eq_true h1, decide_eq_false h2]; rfl, below_iter _ _ _ _ 0⟩
      · go_wp2_with fail
        go_ret
        exact ⟨by rw [HN.out, decide_eq_false h1]; rfl, below_iter _ _ _ _ 0⟩
end Go.Proofs.YtdkloonoeklgaaaDoor.X
