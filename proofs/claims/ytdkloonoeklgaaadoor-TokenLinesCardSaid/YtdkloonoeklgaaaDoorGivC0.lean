/- token.span at its two functions; strconv.ParseInt; what next's ways have in common. -/
import Derived.Test.YtdkloonoeklgaaaDoorMc
import Derived.Test.YtdkloonoeklgaaaDoorShelf
import Derived.WalkLawsBesides
import Derived.WalkSpells
import Derived.Outline
import Derived.Lib.Hide
import Derived.Deep.RegionWith
import Derived.Lib.IndexBytes
namespace Go.Proofs.YtdkloonoeklgaaaDoor.X
open Go.RowKit Go.Proofs.YtdkloonoeklgaaaDoorW.PrintWords Go.Proofs.YtdkloonoeklgaaaDoorW.PrintLast Go.Proofs.YtdkloonoeklgaaaDoorW.PrintMore

theorem digit_calls (c : Int) (w : World) : Calls Tryd.prog 33 #[.int .u8 c] w fun e w' => e = .returned (.bool (isDig c)) ∧ Drawn0 w w' := token_digit.calls c _ w (digit_f c)

set_option maxHeartbeats 1000000 in
set_option maxRecDepth 100000 in
theorem span26_calls (s : ByteArray) (w : World) (hs : s.size ≤ 9223372036854775806) :
    Calls Tryd.prog 32 #[.string s, .func (.func 26) #[] #[]] w fun e w' => e = .returned (.int .i64 (spanL isInn s.data.toList : Nat)) ∧ Drawn0 w w' := by
  go_enter Tryd.func32, Tryd.ntmps32
  go_wp2
  go_loopg [5] (s.size) (fun gk v5 w' => ∃ k m : Nat, k ≤ s.size ∧ gk = s.size - k ∧ v5 = .int .i64 k ∧ Aside0 (∀ i : Nat, i < k → isInn (bt s i) = true) ∧ w' = w.drewN m)
  case atStart => exact ⟨0, 0, by omega, by omega, rfl, ⟨by intro i hi; omega⟩, rfl⟩
  case round =>
    obtain ⟨k, m, hk, hg, rfl, hp, rfl⟩ := hrel
    by_cases hlt : k < s.size
    · have hb := bt_at s k (by simpa using hlt)
      simp only [Int.toNat_natCast] at hb
      cases hin : isInn (bt s k) with
      | false =>
        have HI := Lib.hid hin
        have HS := Lib.hid (spanL_at hk hp.out (.inr ⟨hlt, hin⟩))
        have HBT := Lib.hid hb
        clear hin hb
        go_wp2_with (go_at_call 26; refine (inner_calls _ _).mono ?_; rintro e w' ⟨rfl, ⟨n, rfl⟩⟩; simp only [HBT.out, HI.out])
        go_ret
        exact ⟨by rw [HS.out]; rfl, ⟨⟨m + n, by first | rfl | simp⟩⟩⟩
      | true =>
        have HI := Lib.hid hin
        have HP := Lib.hid (show ∀ i : Nat, i < k + 1 → isInn (bt s i) = true from fun i hi => if e : i = k then by subst e; exact hin else hp.out i (by omega))
        have HBT := Lib.hid hb
        clear hin hb
        go_wp2_with (go_at_call 26; refine (inner_calls _ _).mono ?_; rintro e w' ⟨rfl, ⟨n, rfl⟩⟩; simp only [HBT.out, HI.out])
        go_roundg (s.size - (k + 1))
        case rel => exact ⟨k + 1, m + n, by omega, rfl, by go_num, ⟨HP.out⟩, by first | rfl | simp⟩
        case measure => omega
    · have HS := Lib.hid (spanL_at hk hp.out (.inl (by omega)))
      go_wp2_with fail
      go_ret
      exact ⟨by rw [HS.out]; rfl, ⟨⟨m, rfl⟩⟩⟩

set_option maxHeartbeats 1000000 in
set_option maxRecDepth 100000 in
theorem span33_calls (s : ByteArray) (w : World) (hs : s.size ≤ 9223372036854775806) :
    Calls Tryd.prog 32 #[.string s, .func (.func 33) #[] #[]] w fun e w' => e = .returned (.int .i64 (spanL isDig s.data.toList : Nat)) ∧ Drawn0 w w' := by
  go_enter Tryd.func32, Tryd.ntmps32
  go_wp2
  go_loopg [5] (s.size) (fun gk v5 w' => ∃ k m : Nat, k ≤ s.size ∧ gk = s.size - k ∧ v5 = .int .i64 k ∧ Aside0 (∀ i : Nat, i < k → isDig (bt s i) = true) ∧ w' = w.drewN m)
  case atStart => exact ⟨0, 0, by omega, by omega, rfl, ⟨by intro i hi; omega⟩, rfl⟩
  case round =>
    obtain ⟨k, m, hk, hg, rfl, hp, rfl⟩ := hrel
    by_cases hlt : k < s.size
    · have hb := bt_at s k (by simpa using hlt)
      simp only [Int.toNat_natCast] at hb
      cases hin : isDig (bt s k) with
      | false =>
        have HI := Lib.hid hin
        have HS := Lib.hid (spanL_at hk hp.out (.inr ⟨hlt, hin⟩))
        have HBT := Lib.hid hb
        clear hin hb
        go_wp2_with (go_at_call 33; refine (digit_calls _ _).mono ?_; rintro e w' ⟨rfl, ⟨n, rfl⟩⟩; simp only [HBT.out, HI.out])
        go_ret
        exact ⟨by rw [HS.out]; rfl, ⟨⟨m + n, by first | rfl | simp⟩⟩⟩
      | true =>
        have HI := Lib.hid hin
        have HP := Lib.hid (show ∀ i : Nat, i < k + 1 → isDig (bt s i) = true from fun i hi => if e : i = k then by subst e; exact hin else hp.out i (by omega))
        have HBT := Lib.hid hb
        clear hin hb
        go_wp2_with (go_at_call 33; refine (digit_calls _ _).mono ?_; rintro e w' ⟨rfl, ⟨n, rfl⟩⟩; simp only [HBT.out, HI.out])
        go_roundg (s.size - (k + 1))
        case rel => exact ⟨k + 1, m + n, by omega, rfl, by go_num, ⟨HP.out⟩, by first | rfl | simp⟩
        case measure => omega
    · have HS := Lib.hid (spanL_at hk hp.out (.inl (by omega)))
      go_wp2_with fail
      go_ret
      exact ⟨by rw [HS.out]; rfl, ⟨⟨m, rfl⟩⟩⟩

/-- What a call that may parse a number wants of the world: the variable strconv.ErrRange. -/
def GW (w : World) : Prop := ∃ ev, w.cell? ⟨2, 0, none⟩ = some ev ∧ (ev = .nilIface ∨ ∃ te pe, ev = .iface te pe)
theorem GW.below {w w1 : World} (h : GW w) (hb : Below w.heap.size w w1) : GW w1 := by
  obtain ⟨ev, h1, h2⟩ := h
  exact ⟨ev, pw_cell_below hb h1, h2⟩

def isSyn {α : Type} : Lib.NumEnd α → Bool
  | .ok _ => false
  | .range => false
  | _ => true
theorem parse_digits : ∀ (l : List UInt8) (acc : Nat), (∀ c ∈ l, isDig (c.toNat : Int) = true) → isSyn (Lib.parseUintM (2 ^ 64 - 1) acc l) = false
  | [], _, _ => rfl
  | c :: l, acc, h => by
    have hc := h c (by simp)
    unfold isDig at hc
    simp only [decide_eq_true_eq] at hc
    unfold Lib.parseUintM
    rw [if_pos (by omega)]
    split
    · rfl
    · split
      · rfl
      · exact parse_digits l _ (fun c hc => h c (by simp [hc]))

theorem parse_range {l : List UInt8} (h : ∀ c ∈ l, isDig (c.toNat : Int) = true) (hne : l ≠ []) (hb : numBad l = true) : Lib.parseIntB 64 l = .range := by
  unfold numBad at hb
  cases l with
  | nil => exact absurd rfl hne
  | cons c r =>
    have hc := h c (by simp)
    unfold isDig at hc
    simp only [decide_eq_true_eq] at hc
    unfold Lib.parseIntB at hb ⊢
    simp only at hb ⊢
    have e : ¬ (c.toNat = 43 ∨ c.toNat = 45) := by omega
    rw [if_neg e] at hb ⊢
    have hs := parse_digits (c :: r) 0 h
    unfold Lib.parseUintB at hb ⊢
    rw [if_neg (by simp)] at hb ⊢
    cases hu : Lib.parseUintM (2 ^ 64 - 1) 0 (c :: r)
    case range => rfl
    case ok u =>
      rw [hu] at hb
      simp only at hb ⊢
      have e1 : ¬ (c.toNat = 45) := by omega
      simp only [e1, not_false_eq_true, true_and, false_and, if_false] at hb ⊢
      by_cases h2 : 2 ^ (64 - 1) ≤ u
      · rw [if_pos h2]
      · rw [if_neg h2] at hb; cases hb
    · rw [hu] at hs; cases hs

theorem parse_ok (t : ByteArray) (w : World) (hs : t.size ≤ 140737488351232) (hb : numBad t.data.toList = false) :
    Calls Tryd.prog 34 #[.string t, .int .i64 10, .int .i64 64] w fun e w' => ∃ v, e = .returned (.tuple #[.int .i64 v, .nilIface]) ∧ Below w.heap.size w w' := by
  unfold numBad at hb
  split at hb
  · rename_i v hv
    refine (Tryd.strconv_ParseInt_10_at64_ok t (by omega) v hv w).mono ?_
    rintro e w' ⟨rfl, hw⟩
    refine ⟨v, rfl, ?_⟩
    rcases hw with rfl | ⟨u, rfl⟩
    · exact Below.refl _ _
    · exact bytes_below (Below.refl _ _) (Nat.le_refl _) _ _
  · cases hb

theorem parse_bad (t : ByteArray) (w : World) (hG : GW w) (hs : t.size ≤ 140737488351232) (hd : ∀ c ∈ t.data.toList, isDig (c.toNat : Int) = true) (hne : t.data.toList ≠ []) (hb : numBad t.data.toList = true) :
    Calls Tryd.prog 34 #[.string t, .int .i64 10, .int .i64 64] w fun e w' => ∃ v N, e = .returned (.tuple #[.int .i64 v, .iface 60 (.pointer (some ⟨N, 0, none⟩))]) ∧ Below w.heap.size w w' := by
  obtain ⟨ev, h1, h2⟩ := hG
  refine (Tryd.strconv_ParseInt_10_at64_range t (by omega) (parse_range hd hne hb) ev w h1 h2).mono ?_
  rintro e w' ⟨N, rfl, _, _, hb⟩
  exact ⟨_, N, rfl, hb⟩

theorem rest_data (s : ByteArray) (i : Nat) : (s.extract i s.size).data.toList = s.data.toList.drop i := by
  exact Lib.extract_to_end s i
theorem first_of {r : ByteArray} {l : List UInt8} (hd : r.data.toList = l) {h : 0 < r.size} : r[0]'h = l.headD 0 := by
  subst hd
  rw [← head_get _ (by rw [size_data]; exact h)]
  rfl
theorem span_le (p : Int → Bool) (l : List UInt8) : spanL p l ≤ l.length := by
  unfold spanL; exact (List.takeWhile_sublist _).length_le


def KB (w w' : World) (g : Nat) : Prop := w.heap.size ≤ w'.heap.size ∧ ∀ i, i < w.heap.size → i ≠ g → w'.heap[i]? = w.heap[i]?
theorem KB.refl (w : World) (g : Nat) : KB w w g := ⟨Nat.le_refl _, fun _ _ _ => rfl⟩
theorem KB.below {w w1 w2 : World} {g : Nat} (h : KB w w1 g) (hb : Below w1.heap.size w1 w2) : KB w w2 g :=
  ⟨Nat.le_trans h.1 hb.size, fun i hi hne => (hb.block i (Nat.lt_of_lt_of_le hi h.1)).trans (h.2 i hi hne)⟩
theorem KB.alloc {w w1 : World} {g : Nat} (h : KB w w1 g) (o : Obj) : KB w (w1.alloc o) g := h.below (below_alloc (Below.refl _ _) o)
theorem KB.drewN {w w1 : World} {g : Nat} (h : KB w w1 g) (n : Nat) : KB w (w1.drewN n) g := h
theorem KB.drew {w w1 : World} {g : Nat} (h : KB w w1 g) : KB w w1.drew g := h
theorem KB.setCell {w w1 : World} {g : Nat} (h : KB w w1 g) (p : Addr) (u : Value) (hp : p.block = g ∨ w.heap.size ≤ p.block) : KB w (w1.setCell p u) g := by
  refine ⟨by simpa using h.1, fun i hi hne => ?_⟩
  rw [Below.heap_setCell w1 p u i (by rcases hp with hp | hp <;> omega)]
  exact h.2 i hi hne
theorem KB.keep {w w1 : World} {g : Nat} (h : KB w w1 g) : KeepBut w w1 g none := ⟨h.1, fun i hi hne _ => h.2 i hi hne⟩
theorem text_of {s : ByteArray} {i n : Nat} (hd : (s.extract i s.size).data.toList = s.data.toList.drop i) : (s.extract i s.size).extract 0 n = ⟨((s.data.toList.drop i).take n).toArray⟩ :=
  bytes_ext (by rw [Lib.extract_from_zero, hd])

end Go.Proofs.YtdkloonoeklgaaaDoor.X
