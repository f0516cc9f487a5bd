/- token.scanner.next at a digit. -/
import Derived.Test.YtdkloonoeklgaaaDoorGivC0
set_option linter.unusedVariables false
set_option linter.unusedSimpArgs false
namespace Go.Proofs.YtdkloonoeklgaaaDoor.X
open Go.RowKit Go.Proofs.YtdkloonoeklgaaaDoorW.PrintWords Go.Proofs.YtdkloonoeklgaaaDoorW.PrintLast Go.Proofs.YtdkloonoeklgaaaDoorW.PrintMore
theorem mem_takeWhile {q : UInt8 → Bool} : ∀ {l : List UInt8} {c : UInt8}, c ∈ l.takeWhile q → q c = true
  | [], _, h => by simp at h
  | b :: l, c, h => by
    rw [List.takeWhile_cons] at h
    by_cases hb : q b = true
    · rw [if_pos hb] at h
      rcases List.mem_cons.1 h with rfl | h
      · exact hb
      · exact mem_takeWhile h
    · rw [if_neg hb] at h; simp at h
theorem span_digits (l : List UInt8) : ∀ c ∈ l.take (spanL isDig l), isDig (c.toNat : Int) = true := by
  intro c hc
  have e : l.take (spanL isDig l) = l.takeWhile fun b => isDig (b.toNat : Int) := by
    unfold spanL
    exact (List.prefix_iff_eq_take.1 (List.takeWhile_prefix _)).symm
  rw [e] at hc
  exact mem_takeWhile hc
theorem span_pos {p : Int → Bool} {l : List UInt8} (h : l ≠ []) (hp : p (l.headD 0).toNat = true) : 0 < spanL p l := by
  cases l with
  | nil => exact absurd rfl h
  | cons c l =>
    unfold spanL
    rw [List.takeWhile_cons, if_pos (by simpa using hp)]
    simp
theorem at_of {r : ByteArray} {l : List UInt8} (hd : r.data.toList = l) {n : Nat} {h : n < r.size} : r[n]'h = (l.drop n).headD 0 := by
  subst hd
  have hl : n < r.data.toList.length := by rw [size_data]; exact h
  rw [List.drop_eq_getElem_cons hl]
  rfl

set_option maxHeartbeats 2000000 in
set_option maxRecDepth 100000 in
theorem next_num (g : Nat) (s : ByteArray) (i line : Nat) (w0 w : World) (hI0 : IsS37 w0 w g s i line) (hB : Below w0.heap.size w0 w) (hi : i < s.size) (hs : s.size ≤ 140737488351232)
    (hl : isLet ((s.data.toList.drop i).headD 0).toNat = false) (hg2 : isDig ((s.data.toList.drop i).headD 0).toNat = true) (hb : numBad ((s.data.toList.drop i).take (spanL isDig (s.data.toList.drop i))) = false) (hn : s.size - i ≤ spanL isDig (s.data.toList.drop i)) :
    Calls Tryd.prog 20 #[.pointer (some ⟨g, 0, none⟩)] w fun e w' => e = .returned (.tuple #[.agg #[.int .i64 2, .string ⟨((s.data.toList.drop i).take (spanL isDig (s.data.toList.drop i))).toArray⟩, .int .i64 line], .int .i64 0]) ∧ IsS37 w0 w' g s (i + spanL isDig (s.data.toList.drop i) : Nat) line ∧ Below w0.heap.size w0 w' ∧ KeepBut w w' g none := by
  obtain ⟨HG, hg⟩ := hI0
  have hI0 : IsS37 w0 w g s i line := ⟨HG, hg⟩
  have hwz := hB.size
  have hc0 := cellS37_0 HG
  have hc1 := cellS37_1 HG
  have hc2 := cellS37_2 HG
  have hf1 := blk_frozen HG 1
  have hglt := blk_lt HG
  clear HG
  have hd := rest_data s i
  have hsz : (s.extract i s.size).size ≤ 9223372036854775806 := by rw [← size_data, hd, List.length_drop, size_data]; omega
  have HL := Lib.hid (show ∀ h, isLet (((s.extract i s.size)[0]'h).toNat : Int) = false from fun h => by rw [first_of hd]; exact hl)
  clear hl
  have HG := Lib.hid (show ∀ h, isDig (((s.extract i s.size)[0]'h).toNat : Int) = true from fun h => by rw [first_of hd]; exact hg2)
  clear hg2
  have hsl : spanL isDig (s.data.toList.drop i) ≤ s.size - i := by have := span_le isDig (s.data.toList.drop i); rwa [List.length_drop, size_data] at this
  have hst : ((s.extract i s.size).extract 0 (spanL isDig (s.data.toList.drop i))).size ≤ 140737488351232 := by rw [← size_data, Lib.extract_from_zero, List.length_take, hd, List.length_drop, size_data]; omega
  have HNB := Lib.hid (show numBad ((s.extract i s.size).extract 0 (spanL isDig (s.data.toList.drop i))).data.toList = false from by rw [Lib.extract_from_zero, hd]; exact hb)
  clear hb
  have HD := Lib.hid hd
  clear hd
  have HI0 := Lib.hid hI0
  have HB := Lib.hid hB
  clear hI0 hB
  go_enter Tryd.func20, Tryd.ntmps20
  go_wp2_with (first | (go_at_call 27; fail) | go_in)
  go_quiet (fail)
  go_wp2_with (first | (go_at_call 27; refine (letter_calls _ _).mono ?_; rintro e w' ⟨rfl, ⟨n, rfl⟩⟩; simp only [HL.out]) | (go_at_call 33; refine (digit_calls _ _).mono ?_; rintro e w' ⟨rfl, ⟨n, rfl⟩⟩; simp only [HG.out]) | (go_at_call 32; refine (span33_calls _ _ hsz).mono ?_; rintro e w' ⟨rfl, ⟨n2, rfl⟩⟩; rw [HD.out]))
  go_region
  go_wp2_with fail
  refine (parse_ok _ _ hst HNB.out).mono ?_
  rintro e w1 ⟨v, rfl, hbw⟩
  have hI1 : IsS37 w0 w1 g s i line := by
    have hI0 := HI0.out
    exact (by
      repeat (first | (with_reducible exact hI0) | (with_reducible refine IsS37.drewN ?_ _) | (with_reducible refine IsS37.drew ?_) | (with_reducible refine IsS37.alloc ?_ _) | (with_reducible refine IsS37.set_1 (f1 := (i : Int)) ?_ _) | (with_reducible refine IsS37.below ?_ hbw) | (with_reducible refine IsS37.far ?_ (by first | omega | (dsimp only; omega)) _)))
  have d0 := cellS37_0 hI1.1
  have d1 := cellS37_1 hI1.1
  have d2 := cellS37_2 hI1.1
  have df := blk_frozen hI1.1 1
  have t0 : w1.cell? ⟨w.heap.size + 1, 0, none⟩ = some (.int .i64 2) := (hbw.cell (p := ⟨w.heap.size + 1, 0, none⟩) (by simp)).trans (by go_simp)
  have t1 : w1.cell? ⟨w.heap.size + 1, 1, none⟩ = some (.string ((s.extract i s.size).extract 0 (spanL isDig (s.data.toList.drop i)))) := (hbw.cell (p := ⟨w.heap.size + 1, 1, none⟩) (by simp)).trans (by go_simp)
  have t2 : w1.cell? ⟨w.heap.size + 1, 2, none⟩ = some (.int .i64 line) := (hbw.cell (p := ⟨w.heap.size + 1, 2, none⟩) (by simp)).trans (by go_simp)
  have e0 : w1.cell? ⟨w.heap.size, 0, none⟩ = some (.int .i64 0) := (hbw.cell (p := ⟨w.heap.size, 0, none⟩) (by simp; omega)).trans (by go_simp)
  have e1 : w1.cell? ⟨w.heap.size, 1, none⟩ = some (.string ⟨#[]⟩) := (hbw.cell (p := ⟨w.heap.size, 1, none⟩) (by simp; omega)).trans (by go_simp)
  have e2 : w1.cell? ⟨w.heap.size, 2, none⟩ = some (.int .i64 0) := (hbw.cell (p := ⟨w.heap.size, 2, none⟩) (by simp; omega)).trans (by go_simp)
  have f0 : w1.frozen? ⟨w.heap.size, 0, none⟩ = false := (hbw.frozen (p := ⟨w.heap.size, 0, none⟩) (by simp; omega)).trans (by go_simp)
  have f1 : w1.frozen? ⟨w.heap.size, 1, none⟩ = false := (hbw.frozen (p := ⟨w.heap.size, 1, none⟩) (by simp; omega)).trans (by go_simp)
  have f2 : w1.frozen? ⟨w.heap.size, 2, none⟩ = false := (hbw.frozen (p := ⟨w.heap.size, 2, none⟩) (by simp; omega)).trans (by go_simp)
  have HBW := Lib.hid hbw
  clear hbw hI1
  go_wp2
  go_region
  go_wp2
  refine bodyPost_ret (v := .tuple #[.agg #[.int .i64 2, .string ⟨((s.data.toList.drop i).take (spanL isDig (s.data.toList.drop i))).toArray⟩, .int .i64 line], .int .i64 0]) (by simp [results, Tryd.results20, go_sem, e0, e1, e2, Nat.ne_of_lt hglt, Nat.ne_of_gt hglt, text_of HD.out]) rfl ⟨rfl, ?_, ?_, ?_⟩
  · have hI0 := HI0.out
    have hbw := HBW.out
    rw [show ((i + spanL isDig (s.data.toList.drop i) : Nat) : Int) = (i : Int) + (spanL isDig (s.data.toList.drop i) : Nat) from by omega]
    exact (by
      repeat (first | (with_reducible exact hI0) | (with_reducible refine IsS37.drewN ?_ _) | (with_reducible refine IsS37.drew ?_) | (with_reducible refine IsS37.alloc ?_ _) | (with_reducible refine IsS37.set_1 (f1 := (i : Int)) ?_ _) | (with_reducible refine IsS37.below ?_ hbw) | (with_reducible refine IsS37.far ?_ (by first | omega | (dsimp only; omega)) _)))
  · have hB := HB.out
    have hbw := HBW.out
    exact (by
      repeat (first | (with_reducible exact hB) | (with_reducible refine pw_below_drewN ?_ _) | (with_reducible refine below_drew1 ?_) | (with_reducible refine below_alloc ?_ _) | (with_reducible refine below_then ?_ ?_ hbw) | (with_reducible refine below_set ?_ (by first | omega | (dsimp only; omega))) | (simp; omega)))
  · have hbw := HBW.out
    exact (KB.keep (by
      repeat (first | (with_reducible exact KB.refl _ _) | (with_reducible refine KB.drewN ?_ _) | (with_reducible refine KB.drew ?_) | (with_reducible refine KB.alloc ?_ _) | (with_reducible refine KB.below ?_ hbw) | (with_reducible refine KB.setCell ?_ _ _ (Or.inl rfl)) | (with_reducible refine KB.setCell ?_ _ _ (Or.inr (by first | omega | (dsimp only; omega)))))))

set_option maxHeartbeats 2000000 in
set_option maxRecDepth 100000 in
theorem next_num2 (g : Nat) (s : ByteArray) (i line : Nat) (w0 w : World) (hI0 : IsS37 w0 w g s i line) (hB : Below w0.heap.size w0 w) (hi : i < s.size) (hs : s.size ≤ 140737488351232)
    (hl : isLet ((s.data.toList.drop i).headD 0).toNat = false) (hg2 : isDig ((s.data.toList.drop i).headD 0).toNat = true) (hb : numBad ((s.data.toList.drop i).take (spanL isDig (s.data.toList.drop i))) = false) (hn : spanL isDig (s.data.toList.drop i) < s.size - i) (hin : isInn (((s.data.toList.drop i).drop (spanL isDig (s.data.toList.drop i))).headD 0).toNat = false) :
    Calls Tryd.prog 20 #[.pointer (some ⟨g, 0, none⟩)] w fun e w' => e = .returned (.tuple #[.agg #[.int .i64 2, .string ⟨((s.data.toList.drop i).take (spanL isDig (s.data.toList.drop i))).toArray⟩, .int .i64 line], .int .i64 0]) ∧ IsS37 w0 w' g s (i + spanL isDig (s.data.toList.drop i) : Nat) line ∧ Below w0.heap.size w0 w' ∧ KeepBut w w' g none := by
  obtain ⟨HG, hg⟩ := hI0
  have hI0 : IsS37 w0 w g s i line := ⟨HG, hg⟩
  have hwz := hB.size
  have hc0 := cellS37_0 HG
  have hc1 := cellS37_1 HG
  have hc2 := cellS37_2 HG
  have hf1 := blk_frozen HG 1
  have hglt := blk_lt HG
  clear HG
  have hd := rest_data s i
  have hsz : (s.extract i s.size).size ≤ 9223372036854775806 := by rw [← size_data, hd, List.length_drop, size_data]; omega
  have HL := Lib.hid (show ∀ h, isLet (((s.extract i s.size)[0]'h).toNat : Int) = false from fun h => by rw [first_of hd]; exact hl)
  clear hl
  have HG := Lib.hid (show ∀ h, isDig (((s.extract i s.size)[0]'h).toNat : Int) = true from fun h => by rw [first_of hd]; exact hg2)
  clear hg2
  have hsl : spanL isDig (s.data.toList.drop i) ≤ s.size - i := by have := span_le isDig (s.data.toList.drop i); rwa [List.length_drop, size_data] at this
  have hst : ((s.extract i s.size).extract 0 (spanL isDig (s.data.toList.drop i))).size ≤ 140737488351232 := by rw [← size_data, Lib.extract_from_zero, List.length_take, hd, List.length_drop, size_data]; omega
  have HI := Lib.hid (show ∀ h, isInn (((s.extract i s.size)[spanL isDig (s.data.toList.drop i)]'h).toNat : Int) = false from fun h => by rw [at_of hd]; exact hin)
  clear hin
  have HNB := Lib.hid (show numBad ((s.extract i s.size).extract 0 (spanL isDig (s.data.toList.drop i))).data.toList = false from by rw [Lib.extract_from_zero, hd]; exact hb)
  clear hb
  have HD := Lib.hid hd
  clear hd
  have HI0 := Lib.hid hI0
  have HB := Lib.hid hB
  clear hI0 hB
  go_enter Tryd.func20, Tryd.ntmps20
  go_wp2_with (first | (go_at_call 27; fail) | go_in)
  go_quiet (fail)
  go_wp2_with (first | (go_at_call 27; refine (letter_calls _ _).mono ?_; rintro e w' ⟨rfl, ⟨n, rfl⟩⟩; simp only [HL.out]) | (go_at_call 33; refine (digit_calls _ _).mono ?_; rintro e w' ⟨rfl, ⟨n, rfl⟩⟩; simp only [HG.out]) | (go_at_call 32; refine (span33_calls _ _ hsz).mono ?_; rintro e w' ⟨rfl, ⟨n2, rfl⟩⟩; rw [HD.out]))
  go_region
  go_wp2_with fail
  refine (parse_ok _ _ hst HNB.out).mono ?_
  rintro e w1 ⟨v, rfl, hbw⟩
  have hI1 : IsS37 w0 w1 g s i line := by
    have hI0 := HI0.out
    exact (by
      repeat (first | (with_reducible exact hI0) | (with_reducible refine IsS37.drewN ?_ _) | (with_reducible refine IsS37.drew ?_) | (with_reducible refine IsS37.alloc ?_ _) | (with_reducible refine IsS37.set_1 (f1 := (i : Int)) ?_ _) | (with_reducible refine IsS37.below ?_ hbw) | (with_reducible refine IsS37.far ?_ (by first | omega | (dsimp only; omega)) _)))
  have d0 := cellS37_0 hI1.1
  have d1 := cellS37_1 hI1.1
  have d2 := cellS37_2 hI1.1
  have df := blk_frozen hI1.1 1
  have t0 : w1.cell? ⟨w.heap.size + 1, 0, none⟩ = some (.int .i64 2) := (hbw.cell (p := ⟨w.heap.size + 1, 0, none⟩) (by simp)).trans (by go_simp)
  have t1 : w1.cell? ⟨w.heap.size + 1, 1, none⟩ = some (.string ((s.extract i s.size).extract 0 (spanL isDig (s.data.toList.drop i)))) := (hbw.cell (p := ⟨w.heap.size + 1, 1, none⟩) (by simp)).trans (by go_simp)
  have t2 : w1.cell? ⟨w.heap.size + 1, 2, none⟩ = some (.int .i64 line) := (hbw.cell (p := ⟨w.heap.size + 1, 2, none⟩) (by simp)).trans (by go_simp)
  have e0 : w1.cell? ⟨w.heap.size, 0, none⟩ = some (.int .i64 0) := (hbw.cell (p := ⟨w.heap.size, 0, none⟩) (by simp; omega)).trans (by go_simp)
  have e1 : w1.cell? ⟨w.heap.size, 1, none⟩ = some (.string ⟨#[]⟩) := (hbw.cell (p := ⟨w.heap.size, 1, none⟩) (by simp; omega)).trans (by go_simp)
  have e2 : w1.cell? ⟨w.heap.size, 2, none⟩ = some (.int .i64 0) := (hbw.cell (p := ⟨w.heap.size, 2, none⟩) (by simp; omega)).trans (by go_simp)
  have f0 : w1.frozen? ⟨w.heap.size, 0, none⟩ = false := (hbw.frozen (p := ⟨w.heap.size, 0, none⟩) (by simp; omega)).trans (by go_simp)
  have f1 : w1.frozen? ⟨w.heap.size, 1, none⟩ = false := (hbw.frozen (p := ⟨w.heap.size, 1, none⟩) (by simp; omega)).trans (by go_simp)
  have f2 : w1.frozen? ⟨w.heap.size, 2, none⟩ = false := (hbw.frozen (p := ⟨w.heap.size, 2, none⟩) (by simp; omega)).trans (by go_simp)
  have HBW := Lib.hid hbw
  clear hbw hI1
  go_wp2_with (go_at_call 26; refine (inner_calls _ _).mono ?_; rintro e w' ⟨rfl, ⟨n4, rfl⟩⟩; simp only [HI.out])
  go_region
  go_wp2
  refine bodyPost_ret (v := .tuple #[.agg #[.int .i64 2, .string ⟨((s.data.toList.drop i).take (spanL isDig (s.data.toList.drop i))).toArray⟩, .int .i64 line], .int .i64 0]) (by simp [results, Tryd.results20, go_sem, e0, e1, e2, Nat.ne_of_lt hglt, Nat.ne_of_gt hglt, text_of HD.out]) rfl ⟨rfl, ?_, ?_, ?_⟩
  · have hI0 := HI0.out
    have hbw := HBW.out
    rw [show ((i + spanL isDig (s.data.toList.drop i) : Nat) : Int) = (i : Int) + (spanL isDig (s.data.toList.drop i) : Nat) from by omega]
    exact (by
      repeat (first | (with_reducible exact hI0) | (with_reducible refine IsS37.drewN ?_ _) | (with_reducible refine IsS37.drew ?_) | (with_reducible refine IsS37.alloc ?_ _) | (with_reducible refine IsS37.set_1 (f1 := (i : Int)) ?_ _) | (with_reducible refine IsS37.below ?_ hbw) | (with_reducible refine IsS37.far ?_ (by first | omega | (dsimp only; omega)) _)))
  · have hB := HB.out
    have hbw := HBW.out
    exact (by
      repeat (first | (with_reducible exact hB) | (with_reducible refine pw_below_drewN ?_ _) | (with_reducible refine below_drew1 ?_) | (with_reducible refine below_alloc ?_ _) | (with_reducible refine below_then ?_ ?_ hbw) | (with_reducible refine below_set ?_ (by first | omega | (dsimp only; omega))) | (simp; omega)))
  · have hbw := HBW.out
    exact (KB.keep (by
      repeat (first | (with_reducible exact KB.refl _ _) | (with_reducible refine KB.drewN ?_ _) | (with_reducible refine KB.drew ?_) | (with_reducible refine KB.alloc ?_ _) | (with_reducible refine KB.below ?_ hbw) | (with_reducible refine KB.setCell ?_ _ _ (Or.inl rfl)) | (with_reducible refine KB.setCell ?_ _ _ (Or.inr (by first | omega | (dsimp only; omega)))))))

set_option maxHeartbeats 2000000 in
set_option maxRecDepth 100000 in
theorem next_after (g : Nat) (s : ByteArray) (i line : Nat) (w0 w : World) (hI0 : IsS37 w0 w g s i line) (hB : Below w0.heap.size w0 w) (hi : i < s.size) (hs : s.size ≤ 140737488351232)
    (hl : isLet ((s.data.toList.drop i).headD 0).toNat = false) (hg2 : isDig ((s.data.toList.drop i).headD 0).toNat = true) (hb : numBad ((s.data.toList.drop i).take (spanL isDig (s.data.toList.drop i))) = false) (hn : spanL isDig (s.data.toList.drop i) < s.size - i) (hin : isInn (((s.data.toList.drop i).drop (spanL isDig (s.data.toList.drop i))).headD 0).toNat = true) :
    Calls Tryd.prog 20 #[.pointer (some ⟨g, 0, none⟩)] w fun e w' => e = .returned (.tuple #[.agg #[.int .i64 0, .string ⟨#[]⟩, .int .i64 0], .int .i64 3]) ∧ IsS37 w0 w' g s i line ∧ Below w0.heap.size w0 w' ∧ KeepBut w w' g none := by
  obtain ⟨HG, hg⟩ := hI0
  have hI0 : IsS37 w0 w g s i line := ⟨HG, hg⟩
  have hwz := hB.size
  have hc0 := cellS37_0 HG
  have hc1 := cellS37_1 HG
  have hc2 := cellS37_2 HG
  have hf1 := blk_frozen HG 1
  have hglt := blk_lt HG
  clear HG
  have hd := rest_data s i
  have hsz : (s.extract i s.size).size ≤ 9223372036854775806 := by rw [← size_data, hd, List.length_drop, size_data]; omega
  have HL := Lib.hid (show ∀ h, isLet (((s.extract i s.size)[0]'h).toNat : Int) = false from fun h => by rw [first_of hd]; exact hl)
  clear hl
  have HG := Lib.hid (show ∀ h, isDig (((s.extract i s.size)[0]'h).toNat : Int) = true from fun h => by rw [first_of hd]; exact hg2)
  clear hg2
  have hsl : spanL isDig (s.data.toList.drop i) ≤ s.size - i := by have := span_le isDig (s.data.toList.drop i); rwa [List.length_drop, size_data] at this
  have hst : ((s.extract i s.size).extract 0 (spanL isDig (s.data.toList.drop i))).size ≤ 140737488351232 := by rw [← size_data, Lib.extract_from_zero, List.length_take, hd, List.length_drop, size_data]; omega
  have HI := Lib.hid (show ∀ h, isInn (((s.extract i s.size)[spanL isDig (s.data.toList.drop i)]'h).toNat : Int) = true from fun h => by rw [at_of hd]; exact hin)
  clear hin
  have HNB := Lib.hid (show numBad ((s.extract i s.size).extract 0 (spanL isDig (s.data.toList.drop i))).data.toList = false from by rw [Lib.extract_from_zero, hd]; exact hb)
  clear hb
  have HD := Lib.hid hd
  clear hd
  have HI0 := Lib.hid hI0
  have HB := Lib.hid hB
  clear hI0 hB
  go_enter Tryd.func20, Tryd.ntmps20
  go_wp2_with (first | (go_at_call 27; fail) | go_in)
  go_quiet (fail)
  go_wp2_with (first | (go_at_call 27; refine (letter_calls _ _).mono ?_; rintro e w' ⟨rfl, ⟨n, rfl⟩⟩; simp only [HL.out]) | (go_at_call 33; refine (digit_calls _ _).mono ?_; rintro e w' ⟨rfl, ⟨n, rfl⟩⟩; simp only [HG.out]) | (go_at_call 32; refine (span33_calls _ _ hsz).mono ?_; rintro e w' ⟨rfl, ⟨n2, rfl⟩⟩; rw [HD.out]))
  go_region
  go_wp2_with fail
  refine (parse_ok _ _ hst HNB.out).mono ?_
  rintro e w1 ⟨v, rfl, hbw⟩
  have hI1 : IsS37 w0 w1 g s i line := by
    have hI0 := HI0.out
    exact (by
      repeat (first | (with_reducible exact hI0) | (with_reducible refine IsS37.drewN ?_ _) | (with_reducible refine IsS37.drew ?_) | (with_reducible refine IsS37.alloc ?_ _) | (with_reducible refine IsS37.set_1 (f1 := (i : Int)) ?_ _) | (with_reducible refine IsS37.below ?_ hbw) | (with_reducible refine IsS37.far ?_ (by first | omega | (dsimp only; omega)) _)))
  have d0 := cellS37_0 hI1.1
  have d1 := cellS37_1 hI1.1
  have d2 := cellS37_2 hI1.1
  have df := blk_frozen hI1.1 1
  have t0 : w1.cell? ⟨w.heap.size + 1, 0, none⟩ = some (.int .i64 2) := (hbw.cell (p := ⟨w.heap.size + 1, 0, none⟩) (by simp)).trans (by go_simp)
  have t1 : w1.cell? ⟨w.heap.size + 1, 1, none⟩ = some (.string ((s.extract i s.size).extract 0 (spanL isDig (s.data.toList.drop i)))) := (hbw.cell (p := ⟨w.heap.size + 1, 1, none⟩) (by simp)).trans (by go_simp)
  have t2 : w1.cell? ⟨w.heap.size + 1, 2, none⟩ = some (.int .i64 line) := (hbw.cell (p := ⟨w.heap.size + 1, 2, none⟩) (by simp)).trans (by go_simp)
  have e0 : w1.cell? ⟨w.heap.size, 0, none⟩ = some (.int .i64 0) := (hbw.cell (p := ⟨w.heap.size, 0, none⟩) (by simp; omega)).trans (by go_simp)
  have e1 : w1.cell? ⟨w.heap.size, 1, none⟩ = some (.string ⟨#[]⟩) := (hbw.cell (p := ⟨w.heap.size, 1, none⟩) (by simp; omega)).trans (by go_simp)
  have e2 : w1.cell? ⟨w.heap.size, 2, none⟩ = some (.int .i64 0) := (hbw.cell (p := ⟨w.heap.size, 2, none⟩) (by simp; omega)).trans (by go_simp)
  have f0 : w1.frozen? ⟨w.heap.size, 0, none⟩ = false := (hbw.frozen (p := ⟨w.heap.size, 0, none⟩) (by simp; omega)).trans (by go_simp)
  have f1 : w1.frozen? ⟨w.heap.size, 1, none⟩ = false := (hbw.frozen (p := ⟨w.heap.size, 1, none⟩) (by simp; omega)).trans (by go_simp)
  have f2 : w1.frozen? ⟨w.heap.size, 2, none⟩ = false := (hbw.frozen (p := ⟨w.heap.size, 2, none⟩) (by simp; omega)).trans (by go_simp)
  have HBW := Lib.hid hbw
  clear hbw hI1
  go_wp2_with (go_at_call 26; refine (inner_calls _ _).mono ?_; rintro e w' ⟨rfl, ⟨n4, rfl⟩⟩; simp only [HI.out])
  refine bodyPost_ret (v := .tuple #[.agg #[.int .i64 0, .string ⟨#[]⟩, .int .i64 0], .int .i64 3]) (by simp [results, Tryd.results20, go_sem, e0, e1, e2, Nat.ne_of_lt hglt, Nat.ne_of_gt hglt]) rfl ⟨rfl, ?_, ?_, ?_⟩
  · have hI0 := HI0.out
    have hbw := HBW.out
    skip
    exact (by
      repeat (first | (with_reducible exact hI0) | (with_reducible refine IsS37.drewN ?_ _) | (with_reducible refine IsS37.drew ?_) | (with_reducible refine IsS37.alloc ?_ _) | (with_reducible refine IsS37.set_1 (f1 := (i : Int)) ?_ _) | (with_reducible refine IsS37.below ?_ hbw) | (with_reducible refine IsS37.far ?_ (by first | omega | (dsimp only; omega)) _)))
  · have hB := HB.out
    have hbw := HBW.out
    exact (by
      repeat (first | (with_reducible exact hB) | (with_reducible refine pw_below_drewN ?_ _) | (with_reducible refine below_drew1 ?_) | (with_reducible refine below_alloc ?_ _) | (with_reducible refine below_then ?_ ?_ hbw) | (with_reducible refine below_set ?_ (by first | omega | (dsimp only; omega))) | (simp; omega)))
  · have hbw := HBW.out
    exact (KB.keep (by
      repeat (first | (with_reducible exact KB.refl _ _) | (with_reducible refine KB.drewN ?_ _) | (with_reducible refine KB.drew ?_) | (with_reducible refine KB.alloc ?_ _) | (with_reducible refine KB.below ?_ hbw) | (with_reducible refine KB.setCell ?_ _ _ (Or.inl rfl)) | (with_reducible refine KB.setCell ?_ _ _ (Or.inr (by first | omega | (dsimp only; omega)))))))

set_option maxHeartbeats 2000000 in
set_option maxRecDepth 100000 in
theorem next_bad (g : Nat) (s : ByteArray) (i line : Nat) (w0 w : World) (hI0 : IsS37 w0 w g s i line) (hB : Below w0.heap.size w0 w) (hG : GW w0) (hi : i < s.size) (hs : s.size ≤ 140737488351232)
    (hl : isLet ((s.data.toList.drop i).headD 0).toNat = false) (hg2 : isDig ((s.data.toList.drop i).headD 0).toNat = true) (hb : numBad ((s.data.toList.drop i).take (spanL isDig (s.data.toList.drop i))) = true) :
    Calls Tryd.prog 20 #[.pointer (some ⟨g, 0, none⟩)] w fun e w' => e = .returned (.tuple #[.agg #[.int .i64 0, .string ⟨#[]⟩, .int .i64 0], .int .i64 3]) ∧ IsS37 w0 w' g s i line ∧ Below w0.heap.size w0 w' ∧ KeepBut w w' g none := by
  obtain ⟨HG, hg⟩ := hI0
  have hI0 : IsS37 w0 w g s i line := ⟨HG, hg⟩
  have hwz := hB.size
  have hc0 := cellS37_0 HG
  have hc1 := cellS37_1 HG
  have hc2 := cellS37_2 HG
  have hf1 := blk_frozen HG 1
  have hglt := blk_lt HG
  clear HG
  have hd := rest_data s i
  have hsz : (s.extract i s.size).size ≤ 9223372036854775806 := by rw [← size_data, hd, List.length_drop, size_data]; omega
  have hpos : 0 < spanL isDig (s.data.toList.drop i) := span_pos (by intro h; have h2 := congrArg List.length h; rw [List.length_drop, size_data, List.length_nil] at h2; omega) hg2
  have HL := Lib.hid (show ∀ h, isLet (((s.extract i s.size)[0]'h).toNat : Int) = false from fun h => by rw [first_of hd]; exact hl)
  clear hl
  have HG := Lib.hid (show ∀ h, isDig (((s.extract i s.size)[0]'h).toNat : Int) = true from fun h => by rw [first_of hd]; exact hg2)
  clear hg2
  have hsl : spanL isDig (s.data.toList.drop i) ≤ s.size - i := by have := span_le isDig (s.data.toList.drop i); rwa [List.length_drop, size_data] at this
  have hst : ((s.extract i s.size).extract 0 (spanL isDig (s.data.toList.drop i))).size ≤ 140737488351232 := by rw [← size_data, Lib.extract_from_zero, List.length_take, hd, List.length_drop, size_data]; omega
  have HNB := Lib.hid (show numBad ((s.extract i s.size).extract 0 (spanL isDig (s.data.toList.drop i))).data.toList = true from by rw [Lib.extract_from_zero, hd]; exact hb)
  clear hb
  have HDG := Lib.hid (show ∀ c ∈ ((s.extract i s.size).extract 0 (spanL isDig (s.data.toList.drop i))).data.toList, isDig (c.toNat : Int) = true from by rw [Lib.extract_from_zero, hd]; exact span_digits _)
  have HNE := Lib.hid (show ((s.extract i s.size).extract 0 (spanL isDig (s.data.toList.drop i))).data.toList ≠ [] from by rw [Lib.extract_from_zero, hd]; intro h; have h2 := congrArg List.length h; rw [List.length_take, List.length_drop, size_data, List.length_nil] at h2; omega)
  have HGW := Lib.hid hG
  clear hG
  have HD := Lib.hid hd
  clear hd
  have HI0 := Lib.hid hI0
  have HB := Lib.hid hB
  clear hI0 hB
  go_enter Tryd.func20, Tryd.ntmps20
  go_wp2_with (first | (go_at_call 27; fail) | go_in)
  go_quiet (fail)
  go_wp2_with (first | (go_at_call 27; refine (letter_calls _ _).mono ?_; rintro e w' ⟨rfl, ⟨n, rfl⟩⟩; simp only [HL.out]) | (go_at_call 33; refine (digit_calls _ _).mono ?_; rintro e w' ⟨rfl, ⟨n, rfl⟩⟩; simp only [HG.out]) | (go_at_call 32; refine (span33_calls _ _ hsz).mono ?_; rintro e w' ⟨rfl, ⟨n2, rfl⟩⟩; rw [HD.out]))
  go_region
  go_wp2_with fail
  have hgw := HGW.out
  refine (parse_bad _ _ (GW.below hgw ?hbb) hst HDG.out HNE.out HNB.out).mono ?_
  case hbb =>
    have hB := HB.out
    exact (by
      repeat (first | (with_reducible exact hB) | (with_reducible refine pw_below_drewN ?_ _) | (with_reducible refine below_drew1 ?_) | (with_reducible refine below_alloc ?_ _) | (with_reducible refine below_then ?_ ?_ hbw) | (with_reducible refine below_set ?_ (by first | omega | (dsimp only; omega))) | (simp; omega)))
  rintro e w1 ⟨v, N, rfl, hbw⟩
  have hI1 : IsS37 w0 w1 g s i line := by
    have hI0 := HI0.out
    exact (by
      repeat (first | (with_reducible exact hI0) | (with_reducible refine IsS37.drewN ?_ _) | (with_reducible refine IsS37.drew ?_) | (with_reducible refine IsS37.alloc ?_ _) | (with_reducible refine IsS37.set_1 (f1 := (i : Int)) ?_ _) | (with_reducible refine IsS37.below ?_ hbw) | (with_reducible refine IsS37.far ?_ (by first | omega | (dsimp only; omega)) _)))
  have d0 := cellS37_0 hI1.1
  have d1 := cellS37_1 hI1.1
  have d2 := cellS37_2 hI1.1
  have df := blk_frozen hI1.1 1
  have t0 : w1.cell? ⟨w.heap.size + 1, 0, none⟩ = some (.int .i64 2) := (hbw.cell (p := ⟨w.heap.size + 1, 0, none⟩) (by simp)).trans (by go_simp)
  have t1 : w1.cell? ⟨w.heap.size + 1, 1, none⟩ = some (.string ((s.extract i s.size).extract 0 (spanL isDig (s.data.toList.drop i)))) := (hbw.cell (p := ⟨w.heap.size + 1, 1, none⟩) (by simp)).trans (by go_simp)
  have t2 : w1.cell? ⟨w.heap.size + 1, 2, none⟩ = some (.int .i64 line) := (hbw.cell (p := ⟨w.heap.size + 1, 2, none⟩) (by simp)).trans (by go_simp)
  have e0 : w1.cell? ⟨w.heap.size, 0, none⟩ = some (.int .i64 0) := (hbw.cell (p := ⟨w.heap.size, 0, none⟩) (by simp; omega)).trans (by go_simp)
  have e1 : w1.cell? ⟨w.heap.size, 1, none⟩ = some (.string ⟨#[]⟩) := (hbw.cell (p := ⟨w.heap.size, 1, none⟩) (by simp; omega)).trans (by go_simp)
  have e2 : w1.cell? ⟨w.heap.size, 2, none⟩ = some (.int .i64 0) := (hbw.cell (p := ⟨w.heap.size, 2, none⟩) (by simp; omega)).trans (by go_simp)
  have f0 : w1.frozen? ⟨w.heap.size, 0, none⟩ = false := (hbw.frozen (p := ⟨w.heap.size, 0, none⟩) (by simp; omega)).trans (by go_simp)
  have f1 : w1.frozen? ⟨w.heap.size, 1, none⟩ = false := (hbw.frozen (p := ⟨w.heap.size, 1, none⟩) (by simp; omega)).trans (by go_simp)
  have f2 : w1.frozen? ⟨w.heap.size, 2, none⟩ = false := (hbw.frozen (p := ⟨w.heap.size, 2, none⟩) (by simp; omega)).trans (by go_simp)
  have HBW := Lib.hid hbw
  clear hbw hI1
  go_wp2
  refine bodyPost_ret (v := .tuple #[.agg #[.int .i64 0, .string ⟨#[]⟩, .int .i64 0], .int .i64 3]) (by simp [results, Tryd.results20, go_sem, e0, e1, e2, Nat.ne_of_lt hglt, Nat.ne_of_gt hglt]) rfl ⟨rfl, ?_, ?_, ?_⟩
  · have hI0 := HI0.out
    have hbw := HBW.out
    skip
    exact (by
      repeat (first | (with_reducible exact hI0) | (with_reducible refine IsS37.drewN ?_ _) | (with_reducible refine IsS37.drew ?_) | (with_reducible refine IsS37.alloc ?_ _) | (with_reducible refine IsS37.set_1 (f1 := (i : Int)) ?_ _) | (with_reducible refine IsS37.below ?_ hbw) | (with_reducible refine IsS37.far ?_ (by first | omega | (dsimp only; omega)) _)))
  · have hB := HB.out
    have hbw := HBW.out
    exact (by
      repeat (first | (with_reducible exact hB) | (with_reducible refine pw_below_drewN ?_ _) | (with_reducible refine below_drew1 ?_) | (with_reducible refine below_alloc ?_ _) | (with_reducible refine below_then ?_ ?_ hbw) | (with_reducible refine below_set ?_ (by first | omega | (dsimp only; omega))) | (simp; omega)))
  · have hbw := HBW.out
    exact (KB.keep (by
      repeat (first | (with_reducible exact KB.refl _ _) | (with_reducible refine KB.drewN ?_ _) | (with_reducible refine KB.drew ?_) | (with_reducible refine KB.alloc ?_ _) | (with_reducible refine KB.below ?_ hbw) | (with_reducible refine KB.setCell ?_ _ _ (Or.inl rfl)) | (with_reducible refine KB.setCell ?_ _ _ (Or.inr (by first | omega | (dsimp only; omega)))))))

end Go.Proofs.YtdkloonoeklgaaaDoor.X
