/- What the laws ask beside: awake, counts, lines. -/
import Derived.Test.YtdkloonoeklgaaaDoorMk
import Derived.Test.YtdkloonoeklgaaaDoorXa
namespace Go.Proofs.YtdkloonoeklgaaaDoor.X
open Go.RowKit Go.Proofs.YtdkloonoeklgaaaDoorW.PrintWords Go.Proofs.YtdkloonoeklgaaaDoorW.PrintLast Go.Proofs.YtdkloonoeklgaaaDoorW.PrintMore

theorem Ev.pos {α : Type} {c : Prop} [Decidable c] {f g : Nat → Option α} {r : α} (h : c) (k : Ev f r) : Ev (fun n => if c then f n else g n) r := Ev.congr (fun _ => if_pos h) k
theorem Ev.neg {α : Type} {c : Prop} [Decidable c] {f g : Nat → Option α} {r : α} (h : ¬ c) (k : Ev g r) : Ev (fun n => if c then f n else g n) r := Ev.congr (fun _ => if_neg h) k
theorem awk : scanL [97, 61, 49] 1 = ([mkTok 1 [97] 1, mkTok 4 [61] 1, mkTok 2 [49] 1], 0, 0) := by rfl
theorem awake_ev : Ev (fun k => interleavelaw01_awake.f k) true := by
  unfold interleavelaw01_awake.f
  have h : Ev (fun k => token_Scan.f k ⟨#[97, 61, 49]⟩) ([mkTok 1 [97] 1, mkTok 4 [61] 1, mkTok 2 [49] 1], 0, 0) := by
    rw [← awk]; exact scan_ev _ (by decide)
  refine Ev.bind h ?_
  have hn : token_IsName.f (⟨#[97]⟩ : ByteArray) = some true := by
    unfold token_IsName.f nameB kwB
    rw [Go.ByteArray.toList_eq]
    rfl
  have hk : token_IsKeyword.f (⟨#[118, 97, 114]⟩ : ByteArray) = some true := by
    rw [kw_f]
    unfold kwB
    rw [Go.ByteArray.toList_eq]
    rfl
  rw [hn, hk]
  simp only [Go.ByteArray.toList_eq, Option.bind_some]
  exact Ev.congr (fun k => by rfl) (Ev.now true)
theorem awake_some : Ev (fun k => (interleavelaw01_awake.f k).bind fun t => some t) true := Ev.bind awake_ev (Ev.now _)
theorem rd_at (xs : List S27) (j : Nat) (h : j < xs.length) : rd_T27 xs (j : Int) = xs[j] := by
  unfold rd_T27; rw [Int.toNat_natCast]; simp [List.getD, h]
theorem size_app (a b : ByteArray) : (a ++ b).size = a.size + b.size := ByteArray.size_append
theorem data_app (a b : ByteArray) : (a ++ b).data.toList = a.data.toList ++ b.data.toList := by
  rw [ByteArray.data_append, Array.toList_append]
/-- What holds of each step of the scanner, holds of what it comes to: how many tokens, how long their texts, which lines. -/
theorem scanR_facts (f : Nat) : ∀ (r : List UInt8) (m : Nat), (scanR f r m).1.length ≤ r.length ∧ (joined (scanR f r m).1).length ≤ 2 * r.length ∧
    ((scanR f r m).2.1 ≠ 0 → (m : Int) ≤ (scanR f r m).2.2 ∧ (scanR f r m).2.2 ≤ (m : Int) + r.length) ∧ ∀ t ∈ (scanR f r m).1, (m : Int) ≤ t.f2 ∧ t.f2 ≤ (m : Int) + r.length := by
  induction f with
  | zero => intro r m; simp [scanR, joined]
  | succ f ih =>
    intro r m
    rw [scanR]
    by_cases hr : r = []
    · rw [if_pos hr]; simp [joined]
    rw [if_neg hr]
    by_cases he : (nextL r).2.2 = 0
    · rw [if_pos he]
      have hp := (nextL_pos hr he).1
      have hle := nextL_le hr he
      have hl := skipC_len false (r.drop (nextL r).2.1.length) m
      have hn := skipC_line false (r.drop (nextL r).2.1.length) m
      rw [List.length_drop] at hl hn
      have hi := ih (skipC false (r.drop (nextL r).2.1.length) m).1 (skipC false (r.drop (nextL r).2.1.length) m).2
      generalize scanR f (skipC false (r.drop (nextL r).2.1.length) m).1 (skipC false (r.drop (nextL r).2.1.length) m).2 = z at hi ⊢
      generalize (skipC false (r.drop (nextL r).2.1.length) m).1.length = u at hl hn hi
      generalize (skipC false (r.drop (nextL r).2.1.length) m).2 = v at hn hi
      obtain ⟨h1, h2, h3, h4⟩ := hi
      have hts : ∀ t ∈ z.1, (m : Int) ≤ t.f2 ∧ t.f2 ≤ (m : Int) + r.length := by
        intro t ht
        have := h4 t ht
        omega
      by_cases hz : z.2.1 = 0
      · rw [if_pos hz]
        refine ⟨by rw [List.length_cons]; omega, ?_, fun h => absurd rfl h, ?_⟩
        · rw [joined_cons]
          show ((nextL r).2.1 ++ 32 :: joined z.1).length ≤ _
          rw [List.length_append, List.length_cons]
          omega
        · intro t ht
          rcases List.mem_cons.1 ht with rfl | ht
          · show (m : Int) ≤ (m : Int) ∧ (m : Int) ≤ (m : Int) + r.length
            omega
          · exact hts t ht
      · rw [if_neg hz]
        refine ⟨by omega, by omega, fun h => ?_, hts⟩
        have := h3 h
        omega
    · rw [if_neg he]
      refine ⟨by simp, by simp [joined], fun _ => ?_, by simp⟩
      show (m : Int) ≤ (m : Int) ∧ (m : Int) ≤ (m : Int) + r.length
      omega
theorem scanL_facts (l : List UInt8) (n : Nat) : (scanL l n).1.length ≤ l.length ∧ (joined (scanL l n).1).length ≤ 2 * l.length ∧
    ((scanL l n).2.1 ≠ 0 → (n : Int) ≤ (scanL l n).2.2 ∧ (scanL l n).2.2 ≤ (n : Int) + l.length) ∧ ∀ t ∈ (scanL l n).1, (n : Int) ≤ t.f2 ∧ t.f2 ≤ (n : Int) + l.length := by
  have h := scanR_facts ((skipC false l n).1.length + 1) (skipC false l n).1 (skipC false l n).2
  have h2 := skipC_len false l n
  have h3 := skipC_line false l n
  change _ ∧ _ ∧ _ ∧ _ at h
  have e : scanR ((skipC false l n).1.length + 1) (skipC false l n).1 (skipC false l n).2 = scanL l n := rfl
  rw [e] at h
  generalize scanL l n = z at h ⊢
  generalize (skipC false l n).1.length = u at h h2 h3
  generalize (skipC false l n).2 = v at h h3
  obtain ⟨h4, h5, h6, h7⟩ := h
  refine ⟨by omega, by omega, fun hz => ?_, fun t ht => ?_⟩
  · have := h6 hz; omega
  · have := h7 t ht; omega
end Go.Proofs.YtdkloonoeklgaaaDoor.X
