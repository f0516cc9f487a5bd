/- The row of FormulaHolds, with the condition on the listed variables, and its tied card. -/
import Derived.Test.YtpaoepcebcjfhaaDoorRa
import Derived.Test.YtpaoepcebcjfhaaDoorOp
import Derived.Test.YtpaoepcebcjfhaaDoorTie
import Derived.Test.YtpaoepcebcjfhaaDoorCards
import Derived.Test.YtpaoepcebcjfhaaDoorPdHolds
import Derived.WalkKit
import Derived.ProofKit
import Derived.OpenShut
import Derived.ShutString
import Derived.ChangeOld
import Derived.ChangeSame
import Derived.ChangeVars
import Derived.JoinedOf
import Derived.RowKit
import Derived.LaidLaws
import Derived.LaidHandle
import Derived.Stop.Joined
import Derived.SevenTiedAt
import Derived.Below
import Derived.Carry
import Derived.SizedLaws
namespace Go.Proofs.YtpaoepcebcjfhaaDoor.formulaHolds
open Go.ChangeShapes Go.WideShapes Go.ChangeAt Go.RowKit
open Go.ChangeMaps (open_string shut_string)
set_option linter.unusedVariables false
theorem laidOut : laidOutB Tryd.prog = true := by kernel_rfl
set_option maxRecDepth 100000 in
theorem lifted (os : Os) (started : os.Started) (H : Type) (enc : TypeId × Value → H) :
    ReturnsInHanded {} Tryd.checked os 8 .any (fun w args => (Rows.formulaHoldsSpec.pre enc Tryd.prog Tryd.f8 [] false w args ∧ laidMetH Tryd.prog lst w) ∧ sizedMet enc Tryd.prog Tryd.f8 (OpenSpec.ofChange Rows.formulaHoldsSpec) false w args) (Rows.formulaHoldsSpec.post enc Tryd.prog Tryd.f8 false true false false) := by
  refine returnsInHanded_of_change_and (C := Tryd.checked) (X := fun w _ => laidMetH Tryd.prog lst w) (fun _ _ _ hh h => h.of_heap hh) own started (by kernel_rfl) Tryd.func8
    (ChangeSpec.witness_at (enc := enc) (C := Tryd.checked) (os := os) (X := fun w _ => laidMetH Tryd.prog lst w) false (laidWorld os) #[.agg #[.slice none 0 0, .slice none 0 0], .int .i64 0] 8 rfl (by kernel_rfl) (by kernel_rfl) (by kernel_rfl) (by kernel_rfl) (by kernel_rfl) (laid_met os _)) ?_
  intro W base args ds gs before hval0 hW hcnd hsz0 hL _
  have hsz : (DataW.weightsEach Tryd.prog (Tryd.f8.params.toList ++ Rows.formulaHoldsSpec.plain.varTypes Tryd.prog) (ds ++ gs)).all (· ≤ reachBytes) = true := hsz0
  have hval : ∀ (j : Nat) t v, Tryd.f8.params[j]? = some t → args[j]? = some v → Value.okWide Tryd.prog W .any base t v := hval0
  have hW' := hW
  obtain ⟨p, q, hA0, hV, rfl, hfz, hnd⟩ := hW
  have hA : DataW.TrodAll enc Tryd.prog W 0 (fun _ => true) true Tryd.f8.params.toList args.toList ds p := hA0
  rw [Tryd.params8] at hA hval hsz
  obtain ⟨v0, vs0, d0, ds0, p0, q0, hargs, rfl, rfl, h0, r0⟩ := trodAll_cons hA
  obtain ⟨v1, vs1, d1, ds1, p1, q1, rfl, rfl, rfl, h1, r1⟩ := trodAll_cons r0
  obtain ⟨rfl, rfl, rfl⟩ := trodAll_nil r1
  obtain rfl : args = #[v0, v1] := by cases args; simp_all
  obtain ⟨rfl, rfl⟩ := trodVars_none hV
  have k0 := h0
  have lt0 : ∀ x ∈ p0, x.block < W.heap.size := by obtain ⟨m, hm⟩ := k0; exact DataW.trod_lt m _ _ _ hm
  have hw0 := X.weights_at hsz (j := 0) (t := 44) (d := d0) rfl rfl
  obtain ⟨cs0, rfl, _⟩ := okWide_struct Tryd.underlying44 (hval 0 44 v0 rfl rfl)
  obtain ⟨fuel0, hf0⟩ := h0
  obtain ⟨A0_0, bs0, c0_0, A0_1, is0, c0_1, hcs0, l0_0, g0_0, l0_1, g0_1, hb0_, hi0_, hr0_⟩ := X.opens_44 hf0 hw0
  obtain rfl : cs0 = #[.slice A0_0 bs0.length c0_0, .slice A0_1 is0.length c0_1] := X.agg_inj hcs0
  have hb_0 : bs0.length < 140737488355328 := X.len1 hb0_
  have hi_0 := hi0_
  obtain ⟨a1, rfl, rfl, rfl, w1⟩ := open_int Tryd.underlying3 (hval 1 3 v1 rfl rfl) h1
  have w1_ := X.i64_range w1
  have i0_1 := w1_.1
  have i1_1 := w1_.2
  clear hA0 hval0 hsz0 hsz
  obtain ⟨kk, hkk⟩ := X.holdsLaw bs0 is0 a1 i0_1 i1_1 hb_0
  refine (X.interleavelaw31_FormulaHolds.calls kk A0_0 c0_0 bs0 A0_1 c0_1 is0 a1 true W (gw_of_laid hL) g0_0 l0_0 g0_1 l0_1 hkk).mono fun e W' hh => ?_
  obtain ⟨he, bel⟩ := hh
  subst he
  exact ⟨_, rfl, _, _, _, [], _, [], hW', trodAll_mk1 (shut_bool Tryd.underlying4 _), (trodAll_cons_mk (Below.trod laidOut (by kernel_rfl) (of_decide_eq_true (by kernel_rfl)) k0 bel lt0) (trodAll_cons_mk (shut_int Tryd.underlying3 w1) trodAll_mk0)), rfl, bel.frame _, fun h => by cases h⟩
theorem over : Rows.formulaHoldsRow.holds Tryd.pinned (OpenSpec.ofChange Rows.formulaHoldsSpec) :=
  OpenClaim.holds_of_wide 8 Tryd.f8 rfl rfl rfl rfl rfl rfl rfl ⟨rfl, rfl, rfl, rfl, rfl⟩ rfl rfl rfl rfl rfl (by kernel_rfl) Tryd.func8 (by kernel_rfl)
    (of_decide_eq_true (by kernel_rfl)) (by unfold Func.isWrapper; first | (rw [if_pos (by decide +kernel)]; kernel_rfl) | (rw [if_neg (by decide +kernel)]; exact ⟨rfl, rfl⟩))
    (fun os started H enc _ => lifted os started H enc)
theorem card_holds : Rows.FormulaHoldsCardSaid :=
  Claim7.holds_tied_plain_at .later [] [.data, .data, .data] true (true, "1e4a402f80ee60203df5172e2c6070dc5465a4dc61546ad9d0b84901c503ae88") false
    over (fun _ h => by cases h) (by kernel_rfl) (fun _ h => by cases h) formulaHolds_row_tie rfl ⟨rfl, rfl⟩ (by kernel_rfl) rfl
    (fun f fn hf hfn => by
      obtain rfl : f = 8 := Option.some.inj ((show Tryd.prog.funcNamed "interleave/interleavelaw31.FormulaHolds" = some 8 by kernel_rfl).symm.trans hf) |>.symm
      obtain rfl : fn = Tryd.f8 := (Option.some.inj (Tryd.func8.symm.trans hfn)).symm
      exact ⟨by kernel_rfl, fun j t ht => by
        rw [Tryd.params8] at ht
        rcases j with _ | j
        · obtain rfl : t = 44 := by simpa using ht.symm
          exact (show Tryd.prog.wantsStandIn 44 = false by kernel_rfl)
        rcases j with _ | j
        · obtain rfl : t = 3 := by simpa using ht.symm
          exact (show Tryd.prog.wantsStandIn 3 = false by kernel_rfl)
        simp at ht⟩)
    (by kernel_rfl)
end Go.Proofs.YtpaoepcebcjfhaaDoor.formulaHolds
namespace Go.Proofs.YtpaoepcebcjfhaaDoor
/-- The tied card, under a short name. -/
theorem formulaHolds_card : Rows.FormulaHoldsCardSaid := formulaHolds.card_holds
#print axioms formulaHolds_card
end Go.Proofs.YtpaoepcebcjfhaaDoor
