/- The row of FormulaClauses, with the condition on the listed variables, and its tied card. -/
import Derived.Test.YtpaoepcebcjfhaaDoorRa
import Derived.Test.YtpaoepcebcjfhaaDoorTie
import Derived.Test.YtpaoepcebcjfhaaDoorCards
import Derived.Test.YtpaoepcebcjfhaaDoorPdClauses
import Derived.WalkKit
import Derived.ProofKit
import Derived.OpenShut
import Derived.ShutString
import Derived.ChangeOld
import Derived.ChangeSame
import Derived.ChangeVars
import Derived.JoinedOf
import Derived.RowKit
import Derived.RowKitTokens
import Derived.LaidLaws
import Derived.LaidHandle
import Derived.Stop.Joined
import Derived.SevenTiedAt
import Derived.Below
import Derived.SizedLaws
namespace Go.Proofs.YtpaoepcebcjfhaaDoor.formulaClauses
open Go.ChangeShapes Go.WideShapes Go.ChangeAt Go.RowKit
open Go.ChangeMaps (open_string shut_string)
set_option linter.unusedVariables false
set_option maxRecDepth 100000 in
theorem lifted (os : Os) (started : os.Started) (H : Type) (enc : TypeId × Value → H) :
    ReturnsInHanded {} Tryd.checked os 11 .any (fun w args => (Rows.formulaClausesSpec.pre enc Tryd.prog Tryd.f11 [] false w args ∧ laidMetH Tryd.prog lst w) ∧ sizedMet enc Tryd.prog Tryd.f11 (OpenSpec.ofChange Rows.formulaClausesSpec) false w args) (Rows.formulaClausesSpec.post enc Tryd.prog Tryd.f11 false true false false) := by
  refine returnsInHanded_of_change_and (C := Tryd.checked) (X := fun w _ => laidMetH Tryd.prog lst w) (fun _ _ _ hh h => h.of_heap hh) own started (by kernel_rfl) Tryd.func11
    (ChangeSpec.witness_at (enc := enc) (C := Tryd.checked) (os := os) (X := fun w _ => laidMetH Tryd.prog lst w) false (laidWorld os) #[.bool false] 8 rfl (by kernel_rfl) (by kernel_rfl) (by kernel_rfl) (by kernel_rfl) (by kernel_rfl) (laid_met os _)) ?_
  intro W base args ds gs before hval0 hW hcnd hsz0 hL _
  have hsz : (DataW.weightsEach Tryd.prog (Tryd.f11.params.toList ++ Rows.formulaClausesSpec.plain.varTypes Tryd.prog) (ds ++ gs)).all (· ≤ reachBytes) = true := hsz0
  have hval : ∀ (j : Nat) t v, Tryd.f11.params[j]? = some t → args[j]? = some v → Value.okWide Tryd.prog W .any base t v := hval0
  have hW' := hW
  obtain ⟨p, q, hA0, hV, rfl, hfz, hnd⟩ := hW
  have hA : DataW.TrodAll enc Tryd.prog W 0 (fun _ => true) true Tryd.f11.params.toList args.toList ds p := hA0
  rw [Tryd.params11] at hA hval hsz
  obtain ⟨v0, vs0, d0, ds0, p0, q0, hargs, rfl, rfl, h0, r0⟩ := trodAll_cons hA
  obtain ⟨rfl, rfl, rfl⟩ := trodAll_nil r0
  obtain rfl : args = #[v0] := by cases args; simp_all
  obtain ⟨rfl, rfl⟩ := trodVars_none hV
  obtain ⟨a0, rfl, rfl, rfl⟩ := open_bool Tryd.underlying4 (hval 0 4 v0 rfl rfl) h0
  clear hA0 hval0 hsz0 hsz
  refine (X.interleavelaw31_FormulaClauses.walk X.pureClauses a0 W (gw_of_laid hL)).mono fun e W' ⟨he, bel⟩ => ?_
  subst he
  exact ⟨_, rfl, _, _, _, [], _, [], hW', trodAll_mk1 (shut_bool Tryd.underlying4 _), (trodAll_cons_mk (shut_bool Tryd.underlying4 _) trodAll_mk0), rfl, bel.frame _, fun h => by cases h⟩
theorem over : Rows.formulaClausesRow.holds Tryd.pinned (OpenSpec.ofChange Rows.formulaClausesSpec) :=
  OpenClaim.holds_of_wide 11 Tryd.f11 rfl rfl rfl rfl rfl rfl rfl ⟨rfl, rfl, rfl, rfl, rfl⟩ rfl rfl rfl rfl rfl (by kernel_rfl) Tryd.func11 (by kernel_rfl)
    (of_decide_eq_true (by kernel_rfl)) (by unfold Func.isWrapper; first | (rw [if_pos (by decide +kernel)]; kernel_rfl) | (rw [if_neg (by decide +kernel)]; exact ⟨rfl, rfl⟩))
    (fun os started H enc _ => lifted os started H enc)
theorem card_holds : Rows.FormulaClausesCardSaid :=
  Claim7.holds_tied_plain_at .later [] [.data, .data, .data] true (true, "1e4a402f80ee60203df5172e2c6070dc5465a4dc61546ad9d0b84901c503ae88") false
    over (fun _ h => by cases h) (by kernel_rfl) (fun _ h => by cases h) formulaClauses_row_tie rfl ⟨rfl, rfl⟩ (by kernel_rfl) rfl
    (fun f fn hf hfn => by
      obtain rfl : f = 11 := Option.some.inj ((show Tryd.prog.funcNamed "interleave/interleavelaw31.FormulaClauses" = some 11 by kernel_rfl).symm.trans hf) |>.symm
      obtain rfl : fn = Tryd.f11 := (Option.some.inj (Tryd.func11.symm.trans hfn)).symm
      exact ⟨by kernel_rfl, fun j t ht => by
        rw [Tryd.params11] at ht
        rcases j with _ | j
        · obtain rfl : t = 4 := by simpa using ht.symm
          exact (show Tryd.prog.wantsStandIn 4 = false by kernel_rfl)
        simp at ht⟩)
    (by kernel_rfl)
end Go.Proofs.YtpaoepcebcjfhaaDoor.formulaClauses
namespace Go.Proofs.YtpaoepcebcjfhaaDoor
/-- The tied card, under a short name. -/
theorem formulaClauses_card : Rows.FormulaClausesCardSaid := formulaClauses.card_holds
#print axioms formulaClauses_card
end Go.Proofs.YtpaoepcebcjfhaaDoor
