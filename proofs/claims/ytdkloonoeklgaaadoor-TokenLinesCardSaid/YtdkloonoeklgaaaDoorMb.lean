/- The scanner's plain words, on lists of bytes. -/
import Derived.Test.YtdkloonoeklgaaaDoorGivB
import Derived.Test.YtdkloonoeklgaaaDoorX4
import Derived.Lib.ParseIntB
namespace Go.Proofs.YtdkloonoeklgaaaDoor.X
open Go.RowKit Go.Proofs.YtdkloonoeklgaaaDoorW.PrintWords Go.Proofs.YtdkloonoeklgaaaDoorW.PrintLast Go.Proofs.YtdkloonoeklgaaaDoorW.PrintMore

/-- How many bytes at the begin satisfy p. -/
def spanL (p : Int → Bool) (l : List UInt8) : Nat := (l.takeWhile fun b => p (b.toNat : Int)).length

theorem takeWhile_len (q : UInt8 → Bool) : ∀ (l : List UInt8) (k : Nat), k ≤ l.length → (∀ i (h : i < l.length), i < k → q l[i] = true) → (k = l.length ∨ ∃ h : k < l.length, q l[k] = false) → (l.takeWhile q).length = k
  | [], k, hk, _, _ => by simp at hk; simp [hk]
  | c :: l, 0, _, _, h => by
    rcases h with h | ⟨_, h⟩
    · simp at h
    · simp at h; simp [h]
  | c :: l, k + 1, hk, h1, h2 => by
    have hc : q c = true := h1 0 (by simp) (by omega)
    rw [List.takeWhile_cons, if_pos hc, List.length_cons]
    congr 1
    refine takeWhile_len q l k (by simpa using hk) (fun i h hi => by have := h1 (i + 1) (by simp; omega) (by omega); rwa [List.getElem_cons_succ] at this) ?_
    rcases h2 with h2 | ⟨h, h2⟩
    · left; simpa using h2
    · right; exact ⟨by simpa using h, by simpa using h2⟩

theorem size_data (s : ByteArray) : s.data.toList.length = s.size := data_length s
theorem bt_data (s : ByteArray) (i : Nat) (h : i < s.data.toList.length) : bt s i = ((s.data.toList[i]).toNat : Int) := by
  have hs : i < s.size := by rwa [size_data] at h
  unfold bt
  rw [dif_pos (by simpa using hs)]
  congr 1
theorem spanL_at {p : Int → Bool} {s : ByteArray} {k : Nat} (hk : k ≤ s.size) (h1 : ∀ i : Nat, i < k → p (bt s i) = true) (h2 : k = s.size ∨ (k < s.size ∧ p (bt s k) = false)) : spanL p s.data.toList = k := by
  refine takeWhile_len _ _ _ (by rw [size_data]; exact hk) (fun i h hi => by rw [← bt_data s i h]; exact h1 i hi) ?_
  rcases h2 with h2 | ⟨h3, h2⟩
  · left; rw [size_data]; exact h2
  · right; exact ⟨by rw [size_data]; exact h3, by rw [← bt_data s k (by rw [size_data]; exact h3)]; exact h2⟩

def sgnTwo : List (List UInt8) := [[124, 124], [38, 38], [61, 61], [33, 61], [60, 61], [62, 61]]
def sgnOne : List UInt8 := [60, 62, 43, 45, 42, 47, 37, 33, 61, 40, 41, 91, 93, 123, 125, 44, 59]
/-- The longest sign that l begins with, or none. -/
def sgnL (l : List UInt8) : List UInt8 :=
  if l.take 2 ∈ sgnTwo then l.take 2 else if l.take 1 ≠ [] ∧ l.headD 0 ∈ sgnOne then l.take 1 else []

def numBad (l : List UInt8) : Bool := match Lib.parseIntB 64 l with | .ok _ => false | _ => true

/-- The token at the begin of l (which is no blank): kind, text, error. -/
def nextL (l : List UInt8) : Int × List UInt8 × Int :=
  if isLet (l.headD 0).toNat = true then
    (if 12 < spanL isInn l then (0, [], 2) else (if l.take (spanL isInn l) ∈ kwList then 3 else 1, l.take (spanL isInn l), 0))
  else if isDig (l.headD 0).toNat = true then
    (if numBad (l.take (spanL isDig l)) = true ∨ (spanL isDig l < l.length ∧ isInn ((l.drop (spanL isDig l)).headD 0).toNat = true) then (0, [], 3) else (2, l.take (spanL isDig l), 0))
  else if sgnL l = [] then (0, [], 3) else (4, sgnL l, 0)

def token_scanner_next.f (s : ByteArray) (i line : Int) : Option (Int × ByteArray × Int × Int × ByteArray × Int × Int) :=
  if 0 ≤ i ∧ i < (s.size : Int) ∧ s.size ≤ 140737488351232 ∧ 0 ≤ line then
    (if (nextL (s.data.toList.drop i.toNat)).2.2 = 0 then
      some ((nextL (s.data.toList.drop i.toNat)).1, ⟨(nextL (s.data.toList.drop i.toNat)).2.1.toArray⟩, line, 0, s, wrap64 (i + ((nextL (s.data.toList.drop i.toNat)).2.1.length : Int)), line)
    else some (0, ⟨#[]⟩, 0, (nextL (s.data.toList.drop i.toNat)).2.2, s, i, line))
  else none

end Go.Proofs.YtdkloonoeklgaaaDoor.X
