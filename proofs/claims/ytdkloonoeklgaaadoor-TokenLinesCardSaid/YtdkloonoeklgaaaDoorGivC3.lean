/- token.scanner.next at a sign, and at no token. -/
import Derived.Test.YtdkloonoeklgaaaDoorGivC0
set_option linter.unusedVariables false
set_option linter.unusedSimpArgs false
namespace Go.Proofs.YtdkloonoeklgaaaDoor.X
open Go.RowKit Go.Proofs.YtdkloonoeklgaaaDoorW.PrintWords Go.Proofs.YtdkloonoeklgaaaDoorW.PrintLast Go.Proofs.YtdkloonoeklgaaaDoorW.PrintMore

set_option maxHeartbeats 2000000 in
set_option maxRecDepth 100000 in
theorem next_sign (g : Nat) (s : ByteArray) (i line : Nat) (w0 w : World) (hI0 : IsS37 w0 w g s i line) (hB : Below w0.heap.size w0 w) (hi : i < s.size) (hs : s.size ≤ 140737488351232)
    (hl : isLet ((s.data.toList.drop i).headD 0).toNat = false) (hg2 : isDig ((s.data.toList.drop i).headD 0).toNat = false) (hn : sgnL (s.data.toList.drop i) ≠ []) :
    Calls Tryd.prog 20 #[.pointer (some ⟨g, 0, none⟩)] w fun e w' => e = .returned (.tuple #[.agg #[.int .i64 4, .string ⟨(sgnL (s.data.toList.drop i)).toArray⟩, .int .i64 line], .int .i64 0]) ∧ IsS37 w0 w' g s (i + (sgnL (s.data.toList.drop i)).length : Nat) line ∧ Below w0.heap.size w0 w' ∧ KeepBut w w' g none := by
  obtain ⟨HG, hg⟩ := hI0
  have hI0 : IsS37 w0 w g s i line := ⟨HG, hg⟩
  have hwz := hB.size
  have hc0 := cellS37_0 HG
  have hc1 := cellS37_1 HG
  have hc2 := cellS37_2 HG
  have hf1 := blk_frozen HG 1
  have hglt := blk_lt HG
  clear HG
  have hd := rest_data s i
  have hsz : (s.extract i s.size).size ≤ 9223372036854775806 := by rw [← size_data, hd, List.length_drop, size_data]; omega
  have HL := Lib.hid (show ∀ h, isLet (((s.extract i s.size)[0]'h).toNat : Int) = false from fun h => by rw [first_of hd]; exact hl)
  clear hl
  have HG := Lib.hid (show ∀ h, isDig (((s.extract i s.size)[0]'h).toNat : Int) = false from fun h => by rw [first_of hd]; exact hg2)
  clear hg2
  have HS := Lib.hid (show token_sign.f 8 (s.extract i s.size) = some ⟨(sgnL (s.data.toList.drop i)).toArray⟩ from by rw [sign_f _ (by rw [← size_data, hd, List.length_drop, size_data]; omega), hd])
  have hsl : (sgnL (s.data.toList.drop i)).length ≤ s.size - i := by have := (sgnL_len (s.data.toList.drop i)).1; rwa [List.length_drop, size_data] at this
  have hne : (sgnL (s.data.toList.drop i)).isEmpty = false := by rw [List.isEmpty_eq_false_iff]; exact hn
  clear hn
  have HD := Lib.hid hd
  clear hd
  have HI0 := Lib.hid hI0
  have HB := Lib.hid hB
  clear hI0 hB
  go_enter Tryd.func20, Tryd.ntmps20
  go_wp2_with (first | (go_at_call 27; fail) | go_in)
  go_quiet (fail)
  go_wp2_with (first | (go_at_call 27; refine (letter_calls _ _).mono ?_; rintro e w' ⟨rfl, ⟨n, rfl⟩⟩; simp only [HL.out]) | (go_at_call 33; refine (digit_calls _ _).mono ?_; rintro e w' ⟨rfl, ⟨n5, rfl⟩⟩; simp only [HG.out]))
  refine (token_sign.calls 8 _ _ _ HS.out).mono ?_
  rintro e w1 ⟨rfl, hbw⟩
  have hI1 : IsS37 w0 w1 g s i line := by
    have hI0 := HI0.out
    exact (by
      repeat (first | (with_reducible exact hI0) | (with_reducible refine IsS37.drewN ?_ _) | (with_reducible refine IsS37.drew ?_) | (with_reducible refine IsS37.alloc ?_ _) | (with_reducible refine IsS37.set_1 (f1 := (i : Int)) ?_ _) | (with_reducible refine IsS37.far ?_ (by first | omega | (dsimp only; omega)) _) | (with_reducible refine IsS37.below ?_ hbw)))
  have d0 := cellS37_0 hI1.1
  have d1 := cellS37_1 hI1.1
  have d2 := cellS37_2 hI1.1
  have df := blk_frozen hI1.1 1
  have t0 : w1.cell? ⟨w.heap.size + 1, 0, none⟩ = some (.int .i64 0) := (hbw.cell (p := ⟨w.heap.size + 1, 0, none⟩) (by simp)).trans (by go_simp)
  have tf0 : w1.frozen? ⟨w.heap.size + 1, 0, none⟩ = false := (hbw.frozen (p := ⟨w.heap.size + 1, 0, none⟩) (by simp)).trans (by go_simp)
  have t1 : w1.cell? ⟨w.heap.size + 1, 1, none⟩ = some (.string ⟨#[]⟩) := (hbw.cell (p := ⟨w.heap.size + 1, 1, none⟩) (by simp)).trans (by go_simp)
  have tf1 : w1.frozen? ⟨w.heap.size + 1, 1, none⟩ = false := (hbw.frozen (p := ⟨w.heap.size + 1, 1, none⟩) (by simp)).trans (by go_simp)
  have t2 : w1.cell? ⟨w.heap.size + 1, 2, none⟩ = some (.int .i64 line) := (hbw.cell (p := ⟨w.heap.size + 1, 2, none⟩) (by simp)).trans (by go_simp)
  have tf2 : w1.frozen? ⟨w.heap.size + 1, 2, none⟩ = false := (hbw.frozen (p := ⟨w.heap.size + 1, 2, none⟩) (by simp)).trans (by go_simp)
  have e0 : w1.cell? ⟨w.heap.size, 0, none⟩ = some (.int .i64 0) := (hbw.cell (p := ⟨w.heap.size, 0, none⟩) (by simp; omega)).trans (by go_simp)
  have f0 : w1.frozen? ⟨w.heap.size, 0, none⟩ = false := (hbw.frozen (p := ⟨w.heap.size, 0, none⟩) (by simp; omega)).trans (by go_simp)
  have e1 : w1.cell? ⟨w.heap.size, 1, none⟩ = some (.string ⟨#[]⟩) := (hbw.cell (p := ⟨w.heap.size, 1, none⟩) (by simp; omega)).trans (by go_simp)
  have f1 : w1.frozen? ⟨w.heap.size, 1, none⟩ = false := (hbw.frozen (p := ⟨w.heap.size, 1, none⟩) (by simp; omega)).trans (by go_simp)
  have e2 : w1.cell? ⟨w.heap.size, 2, none⟩ = some (.int .i64 0) := (hbw.cell (p := ⟨w.heap.size, 2, none⟩) (by simp; omega)).trans (by go_simp)
  have f2 : w1.frozen? ⟨w.heap.size, 2, none⟩ = false := (hbw.frozen (p := ⟨w.heap.size, 2, none⟩) (by simp; omega)).trans (by go_simp)
  have HBW := Lib.hid hbw
  clear hbw hI1
  go_wp2
  go_region
  go_wp2
  refine bodyPost_ret (v := .tuple #[.agg #[.int .i64 4, .string ⟨(sgnL (s.data.toList.drop i)).toArray⟩, .int .i64 line], .int .i64 0]) (by simp [results, Tryd.results20, go_sem, e0, e1, e2, Nat.ne_of_lt hglt, Nat.ne_of_gt hglt]) rfl ⟨rfl, ?_, ?_, ?_⟩
  · have hI0 := HI0.out
    have hbw := HBW.out
    rw [show ((i + (sgnL (s.data.toList.drop i)).length : Nat) : Int) = (i : Int) + ((sgnL (s.data.toList.drop i)).length : Nat) from by omega]
    exact (by
      repeat (first | (with_reducible exact hI0) | (with_reducible refine IsS37.drewN ?_ _) | (with_reducible refine IsS37.drew ?_) | (with_reducible refine IsS37.alloc ?_ _) | (with_reducible refine IsS37.set_1 (f1 := (i : Int)) ?_ _) | (with_reducible refine IsS37.far ?_ (by first | omega | (dsimp only; omega)) _) | (with_reducible refine IsS37.below ?_ hbw)))
  · have hB := HB.out
    have hbw := HBW.out
    exact (by
      repeat (first | (with_reducible exact hB) | (with_reducible refine pw_below_drewN ?_ _) | (with_reducible refine below_drew1 ?_) | (with_reducible refine below_alloc ?_ _) | (with_reducible refine below_set ?_ (by first | omega | (dsimp only; omega))) | (with_reducible refine below_then ?_ ?_ hbw) | (simp; omega)))
  · have hbw := HBW.out
    exact (KB.keep (by
      repeat (first | (with_reducible exact KB.refl _ _) | (with_reducible refine KB.drewN ?_ _) | (with_reducible refine KB.drew ?_) | (with_reducible refine KB.alloc ?_ _) | (with_reducible refine KB.setCell ?_ _ _ (Or.inl rfl)) | (with_reducible refine KB.setCell ?_ _ _ (Or.inr (by first | omega | (dsimp only; omega)))) | (with_reducible refine KB.below ?_ hbw))))

set_option maxHeartbeats 2000000 in
set_option maxRecDepth 100000 in
theorem next_nosign (g : Nat) (s : ByteArray) (i line : Nat) (w0 w : World) (hI0 : IsS37 w0 w g s i line) (hB : Below w0.heap.size w0 w) (hi : i < s.size) (hs : s.size ≤ 140737488351232)
    (hl : isLet ((s.data.toList.drop i).headD 0).toNat = false) (hg2 : isDig ((s.data.toList.drop i).headD 0).toNat = false) (hn : sgnL (s.data.toList.drop i) = []) :
    Calls Tryd.prog 20 #[.pointer (some ⟨g, 0, none⟩)] w fun e w' => e = .returned (.tuple #[.agg #[.int .i64 0, .string ⟨#[]⟩, .int .i64 0], .int .i64 3]) ∧ IsS37 w0 w' g s i line ∧ Below w0.heap.size w0 w' ∧ KeepBut w w' g none := by
  obtain ⟨HG, hg⟩ := hI0
  have hI0 : IsS37 w0 w g s i line := ⟨HG, hg⟩
  have hwz := hB.size
  have hc0 := cellS37_0 HG
  have hc1 := cellS37_1 HG
  have hc2 := cellS37_2 HG
  have hf1 := blk_frozen HG 1
  have hglt := blk_lt HG
  clear HG
  have hd := rest_data s i
  have hsz : (s.extract i s.size).size ≤ 9223372036854775806 := by rw [← size_data, hd, List.length_drop, size_data]; omega
  have HL := Lib.hid (show ∀ h, isLet (((s.extract i s.size)[0]'h).toNat : Int) = false from fun h => by rw [first_of hd]; exact hl)
  clear hl
  have HG := Lib.hid (show ∀ h, isDig (((s.extract i s.size)[0]'h).toNat : Int) = false from fun h => by rw [first_of hd]; exact hg2)
  clear hg2
  have HS := Lib.hid (show token_sign.f 8 (s.extract i s.size) = some ⟨(sgnL (s.data.toList.drop i)).toArray⟩ from by rw [sign_f _ (by rw [← size_data, hd, List.length_drop, size_data]; omega), hd])
  have hsl : (sgnL (s.data.toList.drop i)).length ≤ s.size - i := by have := (sgnL_len (s.data.toList.drop i)).1; rwa [List.length_drop, size_data] at this
  have hne : (sgnL (s.data.toList.drop i)).isEmpty = true := by rw [List.isEmpty_iff]; exact hn
  clear hn
  have HD := Lib.hid hd
  clear hd
  have HI0 := Lib.hid hI0
  have HB := Lib.hid hB
  clear hI0 hB
  go_enter Tryd.func20, Tryd.ntmps20
  go_wp2_with (first | (go_at_call 27; fail) | go_in)
  go_quiet (fail)
  go_wp2_with (first | (go_at_call 27; refine (letter_calls _ _).mono ?_; rintro e w' ⟨rfl, ⟨n, rfl⟩⟩; simp only [HL.out]) | (go_at_call 33; refine (digit_calls _ _).mono ?_; rintro e w' ⟨rfl, ⟨n5, rfl⟩⟩; simp only [HG.out]))
  refine (token_sign.calls 8 _ _ _ HS.out).mono ?_
  rintro e w1 ⟨rfl, hbw⟩
  have hI1 : IsS37 w0 w1 g s i line := by
    have hI0 := HI0.out
    exact (by
      repeat (first | (with_reducible exact hI0) | (with_reducible refine IsS37.drewN ?_ _) | (with_reducible refine IsS37.drew ?_) | (with_reducible refine IsS37.alloc ?_ _) | (with_reducible refine IsS37.set_1 (f1 := (i : Int)) ?_ _) | (with_reducible refine IsS37.far ?_ (by first | omega | (dsimp only; omega)) _) | (with_reducible refine IsS37.below ?_ hbw)))
  have d0 := cellS37_0 hI1.1
  have d1 := cellS37_1 hI1.1
  have d2 := cellS37_2 hI1.1
  have df := blk_frozen hI1.1 1
  have t0 : w1.cell? ⟨w.heap.size + 1, 0, none⟩ = some (.int .i64 0) := (hbw.cell (p := ⟨w.heap.size + 1, 0, none⟩) (by simp)).trans (by go_simp)
  have tf0 : w1.frozen? ⟨w.heap.size + 1, 0, none⟩ = false := (hbw.frozen (p := ⟨w.heap.size + 1, 0, none⟩) (by simp)).trans (by go_simp)
  have t1 : w1.cell? ⟨w.heap.size + 1, 1, none⟩ = some (.string ⟨#[]⟩) := (hbw.cell (p := ⟨w.heap.size + 1, 1, none⟩) (by simp)).trans (by go_simp)
  have tf1 : w1.frozen? ⟨w.heap.size + 1, 1, none⟩ = false := (hbw.frozen (p := ⟨w.heap.size + 1, 1, none⟩) (by simp)).trans (by go_simp)
  have t2 : w1.cell? ⟨w.heap.size + 1, 2, none⟩ = some (.int .i64 line) := (hbw.cell (p := ⟨w.heap.size + 1, 2, none⟩) (by simp)).trans (by go_simp)
  have tf2 : w1.frozen? ⟨w.heap.size + 1, 2, none⟩ = false := (hbw.frozen (p := ⟨w.heap.size + 1, 2, none⟩) (by simp)).trans (by go_simp)
  have e0 : w1.cell? ⟨w.heap.size, 0, none⟩ = some (.int .i64 0) := (hbw.cell (p := ⟨w.heap.size, 0, none⟩) (by simp; omega)).trans (by go_simp)
  have f0 : w1.frozen? ⟨w.heap.size, 0, none⟩ = false := (hbw.frozen (p := ⟨w.heap.size, 0, none⟩) (by simp; omega)).trans (by go_simp)
  have e1 : w1.cell? ⟨w.heap.size, 1, none⟩ = some (.string ⟨#[]⟩) := (hbw.cell (p := ⟨w.heap.size, 1, none⟩) (by simp; omega)).trans (by go_simp)
  have f1 : w1.frozen? ⟨w.heap.size, 1, none⟩ = false := (hbw.frozen (p := ⟨w.heap.size, 1, none⟩) (by simp; omega)).trans (by go_simp)
  have e2 : w1.cell? ⟨w.heap.size, 2, none⟩ = some (.int .i64 0) := (hbw.cell (p := ⟨w.heap.size, 2, none⟩) (by simp; omega)).trans (by go_simp)
  have f2 : w1.frozen? ⟨w.heap.size, 2, none⟩ = false := (hbw.frozen (p := ⟨w.heap.size, 2, none⟩) (by simp; omega)).trans (by go_simp)
  have HBW := Lib.hid hbw
  clear hbw hI1
  go_wp2
  refine bodyPost_ret (v := .tuple #[.agg #[.int .i64 0, .string ⟨#[]⟩, .int .i64 0], .int .i64 3]) (by simp [results, Tryd.results20, go_sem, e0, e1, e2, Nat.ne_of_lt hglt, Nat.ne_of_gt hglt]) rfl ⟨rfl, ?_, ?_, ?_⟩
  · have hI0 := HI0.out
    have hbw := HBW.out
    skip
    exact (by
      repeat (first | (with_reducible exact hI0) | (with_reducible refine IsS37.drewN ?_ _) | (with_reducible refine IsS37.drew ?_) | (with_reducible refine IsS37.alloc ?_ _) | (with_reducible refine IsS37.set_1 (f1 := (i : Int)) ?_ _) | (with_reducible refine IsS37.far ?_ (by first | omega | (dsimp only; omega)) _) | (with_reducible refine IsS37.below ?_ hbw)))
  · have hB := HB.out
    have hbw := HBW.out
    exact (by
      repeat (first | (with_reducible exact hB) | (with_reducible refine pw_below_drewN ?_ _) | (with_reducible refine below_drew1 ?_) | (with_reducible refine below_alloc ?_ _) | (with_reducible refine below_set ?_ (by first | omega | (dsimp only; omega))) | (with_reducible refine below_then ?_ ?_ hbw) | (simp; omega)))
  · have hbw := HBW.out
    exact (KB.keep (by
      repeat (first | (with_reducible exact KB.refl _ _) | (with_reducible refine KB.drewN ?_ _) | (with_reducible refine KB.drew ?_) | (with_reducible refine KB.alloc ?_ _) | (with_reducible refine KB.setCell ?_ _ _ (Or.inl rfl)) | (with_reducible refine KB.setCell ?_ _ _ (Or.inr (by first | omega | (dsimp only; omega)))) | (with_reducible refine KB.below ?_ hbw))))

end Go.Proofs.YtdkloonoeklgaaaDoor.X
