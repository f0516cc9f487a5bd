/- token.scanner.next at a letter. -/
import Derived.Test.YtdkloonoeklgaaaDoorGivC0
namespace Go.Proofs.YtdkloonoeklgaaaDoor.X
open Go.RowKit Go.Proofs.YtdkloonoeklgaaaDoorW.PrintWords Go.Proofs.YtdkloonoeklgaaaDoorW.PrintLast Go.Proofs.YtdkloonoeklgaaaDoorW.PrintMore

set_option maxHeartbeats 2000000 in
set_option maxRecDepth 100000 in
theorem next_name (g : Nat) (s : ByteArray) (i line : Nat) (w0 w : World) (hI0 : IsS37 w0 w g s i line) (hB : Below w0.heap.size w0 w) (hi : i < s.size) (hs : s.size ≤ 140737488351232)
    (hl : isLet ((s.data.toList.drop i).headD 0).toNat = true) (hn : spanL isInn (s.data.toList.drop i) ≤ 12) (hk : (s.data.toList.drop i).take (spanL isInn (s.data.toList.drop i)) ∉ kwList) :
    Calls Tryd.prog 20 #[.pointer (some ⟨g, 0, none⟩)] w fun e w' => e = .returned (.tuple #[.agg #[.int .i64 1, .string ⟨((s.data.toList.drop i).take (spanL isInn (s.data.toList.drop i))).toArray⟩, .int .i64 line], .int .i64 0]) ∧ IsS37 w0 w' g s (i + spanL isInn (s.data.toList.drop i) : Nat) line ∧ Below w0.heap.size w0 w' ∧ KeepBut w w' g none := by
  obtain ⟨HG, hg⟩ := hI0
  have hI0 : IsS37 w0 w g s i line := ⟨HG, hg⟩
  have hwz := hB.size
  have hc0 := cellS37_0 HG
  have hc1 := cellS37_1 HG
  have hc2 := cellS37_2 HG
  have hf1 := blk_frozen HG 1
  have hglt := blk_lt HG
  clear HG
  have hd := rest_data s i
  have hsz : (s.extract i s.size).size ≤ 9223372036854775806 := by rw [← size_data, hd, List.length_drop, size_data]; omega
  have HL := Lib.hid (show ∀ h, isLet (((s.extract i s.size)[0]'h).toNat : Int) = true from fun h => by rw [first_of hd]; exact hl)
  clear hl
  have hsl : spanL isInn (s.data.toList.drop i) ≤ s.size - i := by have := span_le isInn (s.data.toList.drop i); rwa [List.length_drop, size_data] at this
  have HK := Lib.hid (show kwB ((s.extract i s.size).extract 0 (spanL isInn (s.data.toList.drop i))) = false from by unfold kwB; rw [Go.ByteArray.toList_eq, Lib.extract_from_zero, hd]; exact decide_eq_false hk)
  clear hk
  have HD := Lib.hid hd
  clear hd
  have HI0 := Lib.hid hI0
  have HB := Lib.hid hB
  clear hI0 hB
  go_enter Tryd.func20, Tryd.ntmps20
  go_wp2_with (first | (go_at_call 27; fail) | go_in)
  go_quiet (fail)
  go_wp2_with (go_at_call 27; refine (letter_calls _ _).mono ?_; rintro e w' ⟨rfl, ⟨n, rfl⟩⟩; simp only [HL.out])
  go_region_with (go_at_call 32; refine (span26_calls _ _ hsz).mono ?_; rintro e w' ⟨rfl, ⟨n2, rfl⟩⟩; rw [HD.out])
  go_wp2_with (go_at_call 17; refine (kw_calls _ _).mono ?_; rintro e w' ⟨rfl, ⟨n3, rfl⟩⟩; rw [HK.out])
  go_region
  go_wp2
  refine bodyPost_ret (v := .tuple #[.agg #[.int .i64 1, .string ⟨((s.data.toList.drop i).take (spanL isInn (s.data.toList.drop i))).toArray⟩, .int .i64 line], .int .i64 0]) (by simp [results, Tryd.results20, go_sem, text_of HD.out]) rfl ⟨rfl, ?_, ?_, ?_⟩
  · have hI0 := HI0.out
    rw [show ((i + spanL isInn (s.data.toList.drop i) : Nat) : Int) = (i : Int) + (spanL isInn (s.data.toList.drop i) : Nat) from by omega]
    exact (by
      repeat (first | (with_reducible exact hI0) | (with_reducible refine IsS37.drewN ?_ _) | (with_reducible refine IsS37.drew ?_) | (with_reducible refine IsS37.alloc ?_ _) | (with_reducible refine IsS37.set_1 (f1 := (i : Int)) ?_ _) | (with_reducible refine IsS37.below ?_ ‹Below _ _ _›) | (with_reducible refine IsS37.far ?_ (by first | omega | (dsimp only; omega)) _)))
  · have hB := HB.out
    exact (by
      repeat (first | (with_reducible exact hB) | (with_reducible refine pw_below_drewN ?_ _) | (with_reducible refine below_drew1 ?_) | (with_reducible refine below_alloc ?_ _) | (with_reducible refine below_then ?_ ?_ ‹Below _ _ _›) | (with_reducible refine below_set ?_ (by first | omega | (dsimp only; omega))) | (simp; omega)))
  · exact (KB.keep (by
      repeat (first | (with_reducible exact KB.refl _ _) | (with_reducible refine KB.drewN ?_ _) | (with_reducible refine KB.drew ?_) | (with_reducible refine KB.alloc ?_ _) | (with_reducible refine KB.below ?_ ‹Below _ _ _›) | (with_reducible refine KB.setCell ?_ _ _ (Or.inl rfl)) | (with_reducible refine KB.setCell ?_ _ _ (Or.inr (by first | omega | (dsimp only; omega)))))))

set_option maxHeartbeats 2000000 in
set_option maxRecDepth 100000 in
theorem next_kw (g : Nat) (s : ByteArray) (i line : Nat) (w0 w : World) (hI0 : IsS37 w0 w g s i line) (hB : Below w0.heap.size w0 w) (hi : i < s.size) (hs : s.size ≤ 140737488351232)
    (hl : isLet ((s.data.toList.drop i).headD 0).toNat = true) (hn : spanL isInn (s.data.toList.drop i) ≤ 12) (hk : (s.data.toList.drop i).take (spanL isInn (s.data.toList.drop i)) ∈ kwList) :
    Calls Tryd.prog 20 #[.pointer (some ⟨g, 0, none⟩)] w fun e w' => e = .returned (.tuple #[.agg #[.int .i64 3, .string ⟨((s.data.toList.drop i).take (spanL isInn (s.data.toList.drop i))).toArray⟩, .int .i64 line], .int .i64 0]) ∧ IsS37 w0 w' g s (i + spanL isInn (s.data.toList.drop i) : Nat) line ∧ Below w0.heap.size w0 w' ∧ KeepBut w w' g none := by
  obtain ⟨HG, hg⟩ := hI0
  have hI0 : IsS37 w0 w g s i line := ⟨HG, hg⟩
  have hwz := hB.size
  have hc0 := cellS37_0 HG
  have hc1 := cellS37_1 HG
  have hc2 := cellS37_2 HG
  have hf1 := blk_frozen HG 1
  have hglt := blk_lt HG
  clear HG
  have hd := rest_data s i
  have hsz : (s.extract i s.size).size ≤ 9223372036854775806 := by rw [← size_data, hd, List.length_drop, size_data]; omega
  have HL := Lib.hid (show ∀ h, isLet (((s.extract i s.size)[0]'h).toNat : Int) = true from fun h => by rw [first_of hd]; exact hl)
  clear hl
  have hsl : spanL isInn (s.data.toList.drop i) ≤ s.size - i := by have := span_le isInn (s.data.toList.drop i); rwa [List.length_drop, size_data] at this
  have HK := Lib.hid (show kwB ((s.extract i s.size).extract 0 (spanL isInn (s.data.toList.drop i))) = true from by unfold kwB; rw [Go.ByteArray.toList_eq, Lib.extract_from_zero, hd]; exact decide_eq_true hk)
  clear hk
  have HD := Lib.hid hd
  clear hd
  have HI0 := Lib.hid hI0
  have HB := Lib.hid hB
  clear hI0 hB
  go_enter Tryd.func20, Tryd.ntmps20
  go_wp2_with (first | (go_at_call 27; fail) | go_in)
  go_quiet (fail)
  go_wp2_with (go_at_call 27; refine (letter_calls _ _).mono ?_; rintro e w' ⟨rfl, ⟨n, rfl⟩⟩; simp only [HL.out])
  go_region_with (go_at_call 32; refine (span26_calls _ _ hsz).mono ?_; rintro e w' ⟨rfl, ⟨n2, rfl⟩⟩; rw [HD.out])
  go_wp2_with (go_at_call 17; refine (kw_calls _ _).mono ?_; rintro e w' ⟨rfl, ⟨n3, rfl⟩⟩; rw [HK.out])
  go_region
  go_wp2
  refine bodyPost_ret (v := .tuple #[.agg #[.int .i64 3, .string ⟨((s.data.toList.drop i).take (spanL isInn (s.data.toList.drop i))).toArray⟩, .int .i64 line], .int .i64 0]) (by simp [results, Tryd.results20, go_sem, text_of HD.out]) rfl ⟨rfl, ?_, ?_, ?_⟩
  · have hI0 := HI0.out
    rw [show ((i + spanL isInn (s.data.toList.drop i) : Nat) : Int) = (i : Int) + (spanL isInn (s.data.toList.drop i) : Nat) from by omega]
    exact (by
      repeat (first | (with_reducible exact hI0) | (with_reducible refine IsS37.drewN ?_ _) | (with_reducible refine IsS37.drew ?_) | (with_reducible refine IsS37.alloc ?_ _) | (with_reducible refine IsS37.set_1 (f1 := (i : Int)) ?_ _) | (with_reducible refine IsS37.below ?_ ‹Below _ _ _›) | (with_reducible refine IsS37.far ?_ (by first | omega | (dsimp only; omega)) _)))
  · have hB := HB.out
    exact (by
      repeat (first | (with_reducible exact hB) | (with_reducible refine pw_below_drewN ?_ _) | (with_reducible refine below_drew1 ?_) | (with_reducible refine below_alloc ?_ _) | (with_reducible refine below_then ?_ ?_ ‹Below _ _ _›) | (with_reducible refine below_set ?_ (by first | omega | (dsimp only; omega))) | (simp; omega)))
  · exact (KB.keep (by
      repeat (first | (with_reducible exact KB.refl _ _) | (with_reducible refine KB.drewN ?_ _) | (with_reducible refine KB.drew ?_) | (with_reducible refine KB.alloc ?_ _) | (with_reducible refine KB.below ?_ ‹Below _ _ _›) | (with_reducible refine KB.setCell ?_ _ _ (Or.inl rfl)) | (with_reducible refine KB.setCell ?_ _ _ (Or.inr (by first | omega | (dsimp only; omega)))))))

set_option maxHeartbeats 2000000 in
set_option maxRecDepth 100000 in
theorem next_long (g : Nat) (s : ByteArray) (i line : Nat) (w0 w : World) (hI0 : IsS37 w0 w g s i line) (hB : Below w0.heap.size w0 w) (hi : i < s.size) (hs : s.size ≤ 140737488351232)
    (hl : isLet ((s.data.toList.drop i).headD 0).toNat = true) (hn : 12 < spanL isInn (s.data.toList.drop i)) :
    Calls Tryd.prog 20 #[.pointer (some ⟨g, 0, none⟩)] w fun e w' => e = .returned (.tuple #[.agg #[.int .i64 0, .string ⟨#[]⟩, .int .i64 0], .int .i64 2]) ∧ IsS37 w0 w' g s i line ∧ Below w0.heap.size w0 w' ∧ KeepBut w w' g none := by
  obtain ⟨HG, hg⟩ := hI0
  have hI0 : IsS37 w0 w g s i line := ⟨HG, hg⟩
  have hwz := hB.size
  have hc0 := cellS37_0 HG
  have hc1 := cellS37_1 HG
  have hc2 := cellS37_2 HG
  have hf1 := blk_frozen HG 1
  have hglt := blk_lt HG
  clear HG
  have hd := rest_data s i
  have hsz : (s.extract i s.size).size ≤ 9223372036854775806 := by rw [← size_data, hd, List.length_drop, size_data]; omega
  have HL := Lib.hid (show ∀ h, isLet (((s.extract i s.size)[0]'h).toNat : Int) = true from fun h => by rw [first_of hd]; exact hl)
  clear hl
  have hsl : spanL isInn (s.data.toList.drop i) ≤ s.size - i := by have := span_le isInn (s.data.toList.drop i); rwa [List.length_drop, size_data] at this
  have HD := Lib.hid hd
  clear hd
  have HI0 := Lib.hid hI0
  have HB := Lib.hid hB
  clear hI0 hB
  go_enter Tryd.func20, Tryd.ntmps20
  go_wp2_with (first | (go_at_call 27; fail) | go_in)
  go_quiet (fail)
  go_wp2_with (go_at_call 27; refine (letter_calls _ _).mono ?_; rintro e w' ⟨rfl, ⟨n, rfl⟩⟩; simp only [HL.out])
  go_region_with (go_at_call 32; refine (span26_calls _ _ hsz).mono ?_; rintro e w' ⟨rfl, ⟨n2, rfl⟩⟩; rw [HD.out])
  go_wp2
  refine bodyPost_ret (v := .tuple #[.agg #[.int .i64 0, .string ⟨#[]⟩, .int .i64 0], .int .i64 2]) (by simp [results, Tryd.results20, go_sem]) rfl ⟨rfl, ?_, ?_, ?_⟩
  · have hI0 := HI0.out
    skip
    exact (by
      repeat (first | (with_reducible exact hI0) | (with_reducible refine IsS37.drewN ?_ _) | (with_reducible refine IsS37.drew ?_) | (with_reducible refine IsS37.alloc ?_ _) | (with_reducible refine IsS37.set_1 (f1 := (i : Int)) ?_ _) | (with_reducible refine IsS37.below ?_ ‹Below _ _ _›) | (with_reducible refine IsS37.far ?_ (by first | omega | (dsimp only; omega)) _)))
  · have hB := HB.out
    exact (by
      repeat (first | (with_reducible exact hB) | (with_reducible refine pw_below_drewN ?_ _) | (with_reducible refine below_drew1 ?_) | (with_reducible refine below_alloc ?_ _) | (with_reducible refine below_then ?_ ?_ ‹Below _ _ _›) | (with_reducible refine below_set ?_ (by first | omega | (dsimp only; omega))) | (simp; omega)))
  · exact (KB.keep (by
      repeat (first | (with_reducible exact KB.refl _ _) | (with_reducible refine KB.drewN ?_ _) | (with_reducible refine KB.drew ?_) | (with_reducible refine KB.alloc ?_ _) | (with_reducible refine KB.below ?_ ‹Below _ _ _›) | (with_reducible refine KB.setCell ?_ _ _ (Or.inl rfl)) | (with_reducible refine KB.setCell ?_ _ _ (Or.inr (by first | omega | (dsimp only; omega)))))))

end Go.Proofs.YtdkloonoeklgaaaDoor.X
