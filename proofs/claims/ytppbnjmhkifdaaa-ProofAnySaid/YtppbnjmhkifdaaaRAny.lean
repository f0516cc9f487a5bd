/- The row of ProofAny: whatever the problem and the steps, the law returns true, and the input reads as it did. No further condition. -/
import Derived.Test.YtppbnjmhkifdaaaRows
import Derived.Test.YtppbnjmhkifdaaaOp
import Derived.Test.YtppbnjmhkifdaaaPu
import Derived.WalkKit
import Derived.ProofKit
import Derived.OpenShut
import Derived.ShutString
import Derived.ChangeOld
import Derived.Below
import Derived.SizedLaws
namespace Go.Proofs.Ytppbnjmhkifdaaa.proofAny
open Go.ChangeShapes Go.WideShapes Go.ChangeAt Go.RowKit
open Go.ChangeMaps (open_string shut_string)
set_option linter.unusedVariables false
theorem own : ownKnob Try.prog.godebug = none := by kernel_rfl
theorem laidOut : laidOutB Try.prog = true := by kernel_rfl
set_option maxRecDepth 100000 in
theorem lifted (os : Os) (started : os.Started) (H : Type) (enc : TypeId × Value → H) :
    ReturnsInHanded {} Try.checked os 3 .any (Rows.proofAnySpec.pre6 enc Try.prog Try.f3 Rows.proofAnyRow.domain false) (Rows.proofAnySpec.post enc Try.prog Try.f3 false true false false) := by
  refine returnsInHanded_of_change_sized (C := Try.checked) own started (by kernel_rfl) Try.func3
    (ChangeSpec.witness6 (enc := enc) (C := Try.checked) false ⟨#[], #[.agg #[.int .u8 0, .int .u8 0, .int .u8 0, .slice none 0 0], .slice none 0 0], []⟩ 8 (by kernel_rfl) (by kernel_rfl) (by kernel_rfl) (by kernel_rfl)) ?_
  intro W base args ds gs before hval0 hW hcnd hsz0 _
  have hsz : (DataW.weightsEach Try.prog (Try.f3.params.toList ++ Rows.proofAnySpec.plain.varTypes Try.prog) (ds ++ gs)).all (· ≤ reachBytes) = true := hsz0
  have hval : ∀ (j : Nat) t v, Try.f3.params[j]? = some t → args[j]? = some v → Value.okWide Try.prog W .any base t v := hval0
  have hW' := hW
  obtain ⟨p, q, hA0, hV, rfl, hfz, hnd⟩ := hW
  have hA : DataW.TrodAll enc Try.prog W 0 (fun _ => true) true Try.f3.params.toList args.toList ds p := hA0
  rw [Try.params3] at hA hval hsz
  obtain ⟨v0, vs0, d0, ds0, p0, q0, hargs, rfl, rfl, h0, r0⟩ := trodAll_cons hA
  obtain ⟨v1, vs1, d1, ds1, p1, q1, rfl, rfl, rfl, h1, r1⟩ := trodAll_cons r0
  obtain ⟨rfl, rfl, rfl⟩ := trodAll_nil r1
  obtain rfl : args = #[v0, v1] := by cases args; simp_all
  obtain ⟨rfl, rfl⟩ := trodVars_none hV
  have k0 := h0
  have lt0 : ∀ x ∈ p0, x.block < W.heap.size := by obtain ⟨m, hm⟩ := k0; exact DataW.trod_lt m _ _ _ hm
  have hw0 := X.weights_at hsz (j := 0) (t := 25) (d := d0) rfl rfl
  obtain ⟨cs0, rfl, _⟩ := okWide_struct Try.underlying25 (hval 0 25 v0 rfl rfl)
  obtain ⟨fuel0, hf0⟩ := h0
  obtain ⟨n0, n1, n2, A0, l0, c0, hcs0, lc0, g0, i0, i1, i2, _, i3⟩ := X.opens_25 hf0 hw0
  obtain rfl : cs0 = #[.int .u8 n0, .int .u8 n1, .int .u8 n2, .slice A0 l0.length c0] := X.agg_inj hcs0
  have k1 := h1
  have lt1 : ∀ x ∈ p1, x.block < W.heap.size := by obtain ⟨m, hm⟩ := k1; exact DataW.trod_lt m _ _ _ hm
  have hw1 := X.weights_at hsz (j := 1) (t := 26) (d := d1) rfl rfl
  obtain ⟨aL1, nL1, cL1, rfl⟩ := okWide_slice Try.underlying26 (hval 1 26 v1 rfl rfl)
  obtain ⟨fuel1, hf1⟩ := h1
  obtain ⟨l1, ⟨A1, c1, hcs1, lc1, g1⟩, f1_⟩ := X.opens_26 H enc W 0 _ _ fuel1 _ _ _ hf1 hw1
  obtain ⟨rfl, rfl, rfl⟩ := X.slice_inj hcs1
  clear hA0 hval0 hsz0 hsz
  have hl_ : l1.length < 140737488355328 := by have := X.len24 (n := l1.length) (Nat.le_trans (Nat.mul_le_mul_left _ (by decide)) f1_.1); omega
  have hs_ : ∀ s ∈ l1, s.f2.length < 140737488355328 ∧ X.i64L s.f2 := fun s hs => ⟨X.len8 (f1_.2 s hs).1, fun y hy => X.i64_range ((f1_.2 s hs).2 y hy)⟩
  obtain ⟨kk, hkk⟩ := X.anyLaw n0 n1 n2 i0 i1 i2 l0 i3 l1 hl_ hs_
  refine (X.interleavelaw33_ProofAny.calls kk n0 n1 n2 _ _ l0 _ _ l1 true W g0 lc0 g1 lc1 hkk).mono fun e W' hh => ?_
  obtain ⟨he, bel⟩ := hh
  subst he
  exact ⟨_, rfl, _, _, _, [], _, [], hW', trodAll_mk1 (shut_bool Try.underlying4 _), (trodAll_cons_mk (Below.trod laidOut (by kernel_rfl) (of_decide_eq_true (by kernel_rfl)) k0 bel lt0) (trodAll_cons_mk (Below.trod laidOut (by kernel_rfl) (of_decide_eq_true (by kernel_rfl)) k1 bel lt1) trodAll_mk0)), rfl, bel.frame _, fun h => by cases h⟩
theorem over : Rows.proofAnyRow.holds Try.pinned (OpenSpec.ofChange Rows.proofAnySpec) :=
  OpenClaim.holds_of_wide 3 Try.f3 rfl rfl rfl rfl rfl rfl rfl ⟨rfl, rfl, rfl, rfl, rfl⟩ rfl rfl rfl rfl rfl (by kernel_rfl) Try.func3 (by kernel_rfl)
    (of_decide_eq_true (by kernel_rfl)) (by unfold Func.isWrapper; first | (rw [if_pos (by decide +kernel)]; kernel_rfl) | (rw [if_neg (by decide +kernel)]; exact ⟨rfl, rfl⟩))
    (fun os started H enc _ => lifted os started H enc)
theorem proved : Rows.ProofAnySaid := over
#print axioms proved
end Go.Proofs.Ytppbnjmhkifdaaa.proofAny
namespace Go.Proofs.Ytppbnjmhkifdaaa
/-- The row, under a short name, for the claim. -/
theorem proofAny_holds : Rows.ProofAnySaid := proofAny.proved
end Go.Proofs.Ytppbnjmhkifdaaa
