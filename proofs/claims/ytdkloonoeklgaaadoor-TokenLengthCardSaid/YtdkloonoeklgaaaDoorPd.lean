/- TokenLength: the plain law. -/
import Derived.Test.YtdkloonoeklgaaaDoorMk
import Derived.Test.YtdkloonoeklgaaaDoorX13
namespace Go.Proofs.YtdkloonoeklgaaaDoor.X
open Go.RowKit Go.Proofs.YtdkloonoeklgaaaDoorW.PrintWords Go.Proofs.YtdkloonoeklgaaaDoorW.PrintLast Go.Proofs.YtdkloonoeklgaaaDoorW.PrintMore

set_option linter.unusedVariables false
theorem Ev.pos' {α : Type} {c : Prop} [Decidable c] {f g : Nat → Option α} {r : α} (h : c) (k : Ev f r) : Ev (fun n => if c then f n else g n) r := Ev.congr (fun _ => if_pos h) k
theorem Ev.neg' {α : Type} {c : Prop} [Decidable c] {f g : Nat → Option α} {r : α} (h : ¬ c) (k : Ev g r) : Ev (fun n => if c then f n else g n) r := Ev.congr (fun _ => if_neg h) k
theorem size_app' (a b : ByteArray) : (a ++ b).size = a.size + b.size := ByteArray.size_append
theorem data_app' (a b : ByteArray) : (a ++ b).data.toList = a.data.toList ++ b.data.toList := by
  rw [ByteArray.data_append, Array.toList_append]
theorem wf_u8 {x : Int} (h : (Lit.int .u8 x).wf = true) : 0 ≤ x ∧ x ≤ 255 := by
  simpa [Lit.wf, IntKind.min, IntKind.max, IntKind.signed, IntKind.bits] using h
theorem wrap_small {x : Int} (h : 0 ≤ x) (h2 : x ≤ 100000) : wrap64 x = x := by unfold wrap64; omega
theorem len_l0 (a b : Nat) (ha : a ≤ 255) (hb : b ≤ 255) (v : Bool) (d : Nat) : ∀ (j : Nat) (A : ByteArray), j ≤ a + 1 → a + 1 - j = d → A.data.toList = List.replicate j 120 →
    (∀ B : ByteArray, B.data.toList = List.replicate (a + 1) 120 → Ev (fun k => interleavelaw01_TokenLength.l1 k b B ⟨#[]⟩ 0) v) → Ev (fun k => interleavelaw01_TokenLength.l0 k a b A j) v := by
  have w : wrap64 (wrap64 (a : Int) + 1) = ((a + 1 : Nat) : Int) := by rw [wrap_small (x := (a : Int)) (by omega) (by omega), wrap_small (by omega) (by omega)]; omega
  induction d with
  | zero =>
    intro j A hj hd hA h
    have e : j = a + 1 := by clear h; omega
    subst e
    refine Ev.step (fun k => ?_) (h A hA)
    simp only [interleavelaw01_TokenLength.l0]
    rw [w, if_neg (by clear h; omega)]
  | succ d ih =>
    intro j A hj hd hA h
    have hs : A.size = j := by rw [← size_data, hA, List.length_replicate]
    refine Ev.step (fun k => ?_) (ih (j + 1) (A ++ (⟨#[120]⟩ : ByteArray)) (by clear h; omega) (by clear h; omega) ?_ h)
    · simp only [interleavelaw01_TokenLength.l0]
      rw [w, if_pos (by clear h; omega), if_pos (by clear h; omega), wrap_nat j (by clear h; omega)]
    · rw [data_app', hA, List.replicate_succ']
theorem len_l1 (b : Nat) (hb : b ≤ 255) (N : ByteArray) (v : Bool) (d : Nat) : ∀ (j : Nat) (A : ByteArray), j ≤ b → b - j = d → A.data.toList = List.replicate j 10 →
    (∀ B : ByteArray, B.data.toList = List.replicate b 10 → Ev (fun k => interleavelaw01_TokenLength.l1 k b N B b) v) → Ev (fun k => interleavelaw01_TokenLength.l1 k b N A j) v := by
  have w : wrap64 (b : Int) = (b : Int) := wrap_small (by omega) (by omega)
  induction d with
  | zero =>
    intro j A hj hd hA h
    have e : j = b := by clear h; omega
    subst e
    exact h A hA
  | succ d ih =>
    intro j A hj hd hA h
    have hs : A.size = j := by rw [← size_data, hA, List.length_replicate]
    refine Ev.step (fun k => ?_) (ih (j + 1) (A ++ (⟨#[10]⟩ : ByteArray)) (by clear h; omega) (by clear h; omega) ?_ h)
    · simp only [interleavelaw01_TokenLength.l1]
      rw [w, if_pos (by clear h; omega), if_pos (by clear h; omega), wrap_nat j (by clear h; omega)]
    · rw [data_app', hA, List.replicate_succ']
theorem nameX (N : ByteArray) (a : Nat) (hN : N.data.toList = List.replicate (a + 1) 120) : nameB N = decide (a + 1 ≤ 12) := by
  have hs : N.size = a + 1 := by rw [← size_data, hN, List.length_replicate]
  have hb : ∀ i : Nat, i < N.size → bt N i = 120 := by
    intro i hi
    have hi2 : i < N.data.toList.length := by rw [size_data]; exact hi
    rw [bt_data N i hi2]
    have : N.data.toList[i] = 120 := by
      have h2 : N.data.toList[i] ∈ List.replicate (a + 1) (120 : UInt8) := by rw [← hN]; exact List.getElem_mem hi2
      exact (List.mem_replicate.1 h2).2
    rw [this]; rfl
  have hk : okTo N N.size := ⟨fun i hi => by rw [hb i hi]; decide, fun h0 => by
    have := hb 0 h0
    rw [show ((0 : Nat) : Int) = 0 from rfl] at this
    rw [this]; decide⟩
  rw [nameB_ok hk, hs]
  have hkw : kwB N = false := by
    unfold kwB
    rw [Go.ByteArray.toList_eq, hN]
    exact decide_eq_false (noKwX a)
  rw [hkw, decide_eq_true (by omega : 1 ≤ a + 1)]
  simp
theorem pureLength : interleavelaw01_TokenLength.Pure := by
  intro x0 x1 h0 h1
  obtain ⟨p0, q0⟩ := wf_u8 h0
  obtain ⟨p1, q1⟩ := wf_u8 h1
  obtain ⟨a, rfl⟩ : ∃ a : Nat, x0 = a := ⟨x0.toNat, by omega⟩
  obtain ⟨b, rfl⟩ : ∃ b : Nat, x1 = b := ⟨x1.toNat, by omega⟩
  refine Ev.rounds (g := fun k => interleavelaw01_TokenLength.f k a b) ?_
  unfold interleavelaw01_TokenLength.f
  refine len_l0 a b (by omega) (by omega) true _ 0 ⟨#[]⟩ (by omega) rfl rfl (fun N hN => ?_)
  refine len_l1 b (by omega) N true _ 0 ⟨#[]⟩ (by omega) rfl rfl (fun B hB => ?_)
  have hNs : N.size = a + 1 := by rw [← size_data, hN, List.length_replicate]
  have hBs : B.size = b := by rw [← size_data, hB, List.length_replicate]
  have w : wrap64 (b : Int) = (b : Int) := wrap_small (by omega) (by omega)
  have w1 : wrap64 ((b : Int) + 1) = ((b + 1 : Nat) : Int) := by rw [wrap_small (by omega) (by omega)]; omega
  have hsc := scan_ev (B ++ N) (by rw [size_app']; omega)
  rw [data_app', hB, hN, scan_lfs, show 1 + b = b + 1 from by omega] at hsc
  have hnm := nameX N a hN
  have key : ∀ k, interleavelaw01_TokenLength.l1 (k + 1) b N B b = (token_Scan.f k (B ++ N)).bind fun bt307 => (if (N.size : Int) > 12 then (if bt307.2.1 = 2 then (if bt307.2.2 = ((b + 1 : Nat) : Int) then (if (bt307.1.length : Int) = 0 then ((token_IsName.f N).bind fun t312 => (some (!t312))) else (some false)) else (some false)) else (some false)) else (if bt307.2.1 = 0 then (if (bt307.1.length : Int) = 1 then (if 0 < (bt307.1.length : Int) then (if (((rd_T27 bt307.1 0).f0) == 1 && ((((rd_T27 bt307.1 0).f1).toList) == N.toList && (((rd_T27 bt307.1 0).f2) == ((b + 1 : Nat) : Int)))) = true then ((token_IsName.f N).bind fun t314 => (some t314)) else (some false)) else (none)) else (some false)) else (some false))) := by
    intro k
    simp only [interleavelaw01_TokenLength.l1]
    rw [w, if_neg (by omega), if_pos (by omega), w1]
  refine Ev.step key (Ev.bind hsc ?_)
  rw [show token_IsName.f N = some (nameB N) from rfl, hnm, hNs]
  by_cases hlong : 12 < a + 1
  · rw [scanX_long a _ hlong, decide_eq_false (by omega)]
    refine Ev.pos' (by omega) ?_
    exact Ev.congr (fun k => by simp) (Ev.now true)
  · rw [scanX_short a _ hlong, decide_eq_true (by omega)]
    refine Ev.neg' (by omega) ?_
    have hr : rd_T27 [mkTok 1 (List.replicate (a + 1) 120) (b + 1)] 0 = mkTok 1 (List.replicate (a + 1) 120) (b + 1) := rfl
    refine Ev.congr (fun k => ?_) (Ev.now true)
    show (if (0 : Int) = 0 then (if ((1 : Nat) : Int) = 1 then (if (0 : Int) < ((1 : Nat) : Int) then _ else _) else _) else _) = _
    rw [if_pos rfl, if_pos (by decide), if_pos (by decide), hr]
    have hc : (((mkTok 1 (List.replicate (a + 1) 120) (b + 1)).f0 == 1) && ((((mkTok 1 (List.replicate (a + 1) 120) (b + 1)).f1).toList == N.toList) && ((mkTok 1 (List.replicate (a + 1) 120) (b + 1)).f2 == ((b + 1 : Nat) : Int)))) = true := by
      rw [Go.ByteArray.toList_eq, Go.ByteArray.toList_eq, hN]
      simp [mkTok]
    rw [if_pos hc]
    rfl
end Go.Proofs.YtdkloonoeklgaaaDoor.X
