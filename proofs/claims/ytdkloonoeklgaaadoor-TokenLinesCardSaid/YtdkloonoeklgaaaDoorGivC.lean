/- token.scanner.next: its contract, in the print's form. -/
import Derived.Test.YtdkloonoeklgaaaDoorGivC1
import Derived.Test.YtdkloonoeklgaaaDoorGivC2
import Derived.Test.YtdkloonoeklgaaaDoorGivC3
namespace Go.Proofs.YtdkloonoeklgaaaDoor.X
open Go.RowKit Go.Proofs.YtdkloonoeklgaaaDoorW.PrintWords Go.Proofs.YtdkloonoeklgaaaDoorW.PrintLast Go.Proofs.YtdkloonoeklgaaaDoorW.PrintMore

theorem token_scanner_next.calls (g : Nat) (s0_0 : ByteArray) (s0_1 : Int) (s0_2 : Int) (r1 : Int) (r2 : ByteArray) (r3 : Int) (r4 : Int) (r5 : ByteArray) (r6 : Int) (r7 : Int) (w0 w : World) (hG : GW w0) (hI : IsS37 w0 w g s0_0 s0_1 s0_2) (hB : Below w0.heap.size w0 w) (h : token_scanner_next.f s0_0 s0_1 s0_2 = some (r1, r2, r3, r4, r5, r6, r7)) :
    Calls Tryd.prog 20 #[.pointer (some ⟨g, 0, none⟩)] w fun e w' => e = .returned (.tuple #[.agg #[.int .i64 r1, .string r2, .int .i64 r3], .int .i64 r4]) ∧ IsS37 w0 w' g r5 r6 r7 ∧ Below w0.heap.size w0 w' ∧ KeepBut w w' g none := by
  unfold token_scanner_next.f at h
  split at h
  · rename_i hc
    obtain ⟨h1, h2, h3, h4⟩ := hc
    obtain ⟨i, rfl⟩ := Int.eq_ofNat_of_zero_le h1
    obtain ⟨line, rfl⟩ := Int.eq_ofNat_of_zero_le h4
    rw [Int.toNat_natCast] at h
    have hi : i < s0_0.size := by omega
    have hlen : (s0_0.data.toList.drop i).length = s0_0.size - i := by rw [List.length_drop, size_data]
    have wr : ∀ n : Nat, n ≤ s0_0.size - i → wrap64 ((i : Int) + (n : Int)) = ((i + n : Nat) : Int) := by
      intro n hn; unfold wrap64; omega
    unfold nextL at h
    by_cases hl : isLet ((s0_0.data.toList.drop i).headD 0).toNat = true
    · simp only [hl, if_true] at h
      by_cases hn : 12 < spanL isInn (s0_0.data.toList.drop i)
      · simp only [hn, if_true] at h
        simp only [show ¬ ((2 : Int) = 0) by omega, if_false, Option.some.injEq, Prod.mk.injEq] at h
        obtain ⟨rfl, rfl, rfl, rfl, rfl, rfl, rfl⟩ := h
        exact next_long g _ i line w0 w hI hB hi h3 hl hn
      · simp only [hn, if_false, if_true] at h
        simp only [Option.some.injEq, Prod.mk.injEq] at h
        obtain ⟨hk, rfl, rfl, rfl, rfl, rfl, rfl⟩ := h
        have hle := span_le isInn (s0_0.data.toList.drop i)
        rw [List.length_take_of_le hle, wr _ (by rw [← hlen]; exact hle)]
        by_cases hkw : (s0_0.data.toList.drop i).take (spanL isInn (s0_0.data.toList.drop i)) ∈ kwList
        · rw [if_pos hkw] at hk
          subst hk
          exact next_kw g _ i line w0 w hI hB hi h3 hl (by omega) hkw
        · rw [if_neg hkw] at hk
          subst hk
          exact next_name g _ i line w0 w hI hB hi h3 hl (by omega) hkw
    · have hl' : isLet ((s0_0.data.toList.drop i).headD 0).toNat = false := by simpa using hl
      simp only [hl', Bool.false_eq_true, if_false] at h
      by_cases hd : isDig ((s0_0.data.toList.drop i).headD 0).toNat = true
      · simp only [hd, if_true] at h
        have hle := span_le isDig (s0_0.data.toList.drop i)
        by_cases hb : numBad ((s0_0.data.toList.drop i).take (spanL isDig (s0_0.data.toList.drop i))) = true
        · simp only [hb, true_or, if_true] at h
          simp only [show ¬ ((3 : Int) = 0) by omega, if_false, Option.some.injEq, Prod.mk.injEq] at h
          obtain ⟨rfl, rfl, rfl, rfl, rfl, rfl, rfl⟩ := h
          exact next_bad g _ i line w0 w hI hB hG hi h3 hl' hd hb
        · have hb' : numBad ((s0_0.data.toList.drop i).take (spanL isDig (s0_0.data.toList.drop i))) = false := by simpa using hb
          simp only [hb', Bool.false_eq_true, false_or] at h
          by_cases hx : spanL isDig (s0_0.data.toList.drop i) < (s0_0.data.toList.drop i).length ∧ isInn (((s0_0.data.toList.drop i).drop (spanL isDig (s0_0.data.toList.drop i))).headD 0).toNat = true
          · simp only [hx, and_self, if_true] at h
            simp only [show ¬ ((3 : Int) = 0) by omega, if_false, Option.some.injEq, Prod.mk.injEq] at h
            obtain ⟨rfl, rfl, rfl, rfl, rfl, rfl, rfl⟩ := h
            exact next_after g _ i line w0 w hI hB hi h3 hl' hd hb' (by rw [← hlen]; exact hx.1) hx.2
          · rw [if_neg hx] at h
            simp only [if_true, Option.some.injEq, Prod.mk.injEq] at h
            obtain ⟨rfl, rfl, rfl, rfl, rfl, rfl, rfl⟩ := h
            rw [List.length_take_of_le hle, wr _ (by rw [← hlen]; exact hle)]
            by_cases hlt : spanL isDig (s0_0.data.toList.drop i) < (s0_0.data.toList.drop i).length
            · exact next_num2 g _ i line w0 w hI hB hi h3 hl' hd hb' (by rw [← hlen]; exact hlt) (by cases hq : isInn (((s0_0.data.toList.drop i).drop (spanL isDig (s0_0.data.toList.drop i))).headD 0).toNat with | false => rfl | true => exact absurd ⟨hlt, hq⟩ hx)
            · exact next_num g _ i line w0 w hI hB hi h3 hl' hd hb' (by rw [← hlen]; omega)
      · have hd' : isDig ((s0_0.data.toList.drop i).headD 0).toNat = false := by simpa using hd
        simp only [hd', Bool.false_eq_true, if_false] at h
        by_cases hs : sgnL (s0_0.data.toList.drop i) = []
        · simp only [hs, if_true] at h
          simp only [show ¬ ((3 : Int) = 0) by omega, if_false, Option.some.injEq, Prod.mk.injEq] at h
          obtain ⟨rfl, rfl, rfl, rfl, rfl, rfl, rfl⟩ := h
          exact next_nosign g _ i line w0 w hI hB hi h3 hl' hd' hs
        · simp only [hs, if_false, if_true, Option.some.injEq, Prod.mk.injEq] at h
          obtain ⟨rfl, rfl, rfl, rfl, rfl, rfl, rfl⟩ := h
          have hle := (sgnL_len (s0_0.data.toList.drop i)).1
          rw [wr _ (by rw [← hlen]; exact hle)]
          exact next_sign g _ i line w0 w hI hB hi h3 hl' hd' hs
  · cases h
end Go.Proofs.YtdkloonoeklgaaaDoor.X
