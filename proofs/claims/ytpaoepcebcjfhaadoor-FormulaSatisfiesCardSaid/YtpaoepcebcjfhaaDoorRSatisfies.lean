/- The row of FormulaSatisfies, with the condition on the listed variables, and its tied card. -/
import Derived.Test.YtpaoepcebcjfhaaDoorRa
import Derived.Test.YtpaoepcebcjfhaaDoorOp
import Derived.Test.YtpaoepcebcjfhaaDoorTie
import Derived.Test.YtpaoepcebcjfhaaDoorCards
import Derived.Test.YtpaoepcebcjfhaaDoorPs
import Derived.WalkKit
import Derived.ProofKit
import Derived.OpenShut
import Derived.ShutString
import Derived.ChangeOld
import Derived.ChangeSame
import Derived.ChangeVars
import Derived.JoinedOf
import Derived.RowKit
import Derived.LaidLaws
import Derived.LaidHandle
import Derived.Stop.Joined
import Derived.SevenTiedAt
import Derived.Below
import Derived.Carry
import Derived.SizedLaws
namespace Go.Proofs.YtpaoepcebcjfhaaDoor.formulaSatisfies
open Go.ChangeShapes Go.WideShapes Go.ChangeAt Go.RowKit
open Go.ChangeMaps (open_string shut_string)
set_option linter.unusedVariables false
theorem laidOut : laidOutB Tryd.prog = true := by kernel_rfl
set_option maxRecDepth 100000 in
theorem lifted (os : Os) (started : os.Started) (H : Type) (enc : TypeId × Value → H) :
    ReturnsInHanded {} Tryd.checked os 12 .any (fun w args => (Rows.formulaSatisfiesSpec.pre enc Tryd.prog Tryd.f12 [] false w args ∧ laidMetH Tryd.prog lst w) ∧ sizedMet enc Tryd.prog Tryd.f12 (OpenSpec.ofChange Rows.formulaSatisfiesSpec) false w args) (Rows.formulaSatisfiesSpec.post enc Tryd.prog Tryd.f12 false true false false) := by
  refine returnsInHanded_of_change_and (C := Tryd.checked) (X := fun w _ => laidMetH Tryd.prog lst w) (fun _ _ _ hh h => h.of_heap hh) own started (by kernel_rfl) Tryd.func12
    (ChangeSpec.witness_at (enc := enc) (C := Tryd.checked) (os := os) (X := fun w _ => laidMetH Tryd.prog lst w) false (laidWorld os) #[.agg #[.int .i64 0, .int .i64 0, .slice none 0 0, .slice none 0 0], .agg #[.slice none 0 0, .slice none 0 0]] 8 rfl (by kernel_rfl) (by kernel_rfl) (by kernel_rfl) (by kernel_rfl) (by kernel_rfl) (laid_met os _)) ?_
  intro W base args ds gs before hval0 hW hcnd hsz0 hL _
  have hsz : (DataW.weightsEach Tryd.prog (Tryd.f12.params.toList ++ Rows.formulaSatisfiesSpec.plain.varTypes Tryd.prog) (ds ++ gs)).all (· ≤ reachBytes) = true := hsz0
  have hval : ∀ (j : Nat) t v, Tryd.f12.params[j]? = some t → args[j]? = some v → Value.okWide Tryd.prog W .any base t v := hval0
  have hW' := hW
  obtain ⟨p, q, hA0, hV, rfl, hfz, hnd⟩ := hW
  have hA : DataW.TrodAll enc Tryd.prog W 0 (fun _ => true) true Tryd.f12.params.toList args.toList ds p := hA0
  rw [Tryd.params12] at hA hval hsz
  obtain ⟨v0, vs0, d0, ds0, p0, q0, hargs, rfl, rfl, h0, r0⟩ := trodAll_cons hA
  obtain ⟨v1, vs1, d1, ds1, p1, q1, rfl, rfl, rfl, h1, r1⟩ := trodAll_cons r0
  obtain ⟨rfl, rfl, rfl⟩ := trodAll_nil r1
  obtain rfl : args = #[v0, v1] := by cases args; simp_all
  obtain ⟨rfl, rfl⟩ := trodVars_none hV
  have k0 := h0
  have lt0 : ∀ x ∈ p0, x.block < W.heap.size := by obtain ⟨m, hm⟩ := k0; exact DataW.trod_lt m _ _ _ hm
  have hw0 := X.weights_at hsz (j := 0) (t := 31) (d := d0) rfl rfl
  obtain ⟨cs0, rfl, _⟩ := okWide_struct Tryd.underlying31 (hval 0 31 v0 rfl rfl)
  obtain ⟨fuel0, hf0⟩ := h0
  obtain ⟨x0, hK0, f0_⟩ := X.opens_31 H enc W 0 _ _ fuel0 _ _ _ hf0 hw0
  obtain ⟨A0_2, c0_2, A0_3, c0_3, hcs0, l0_2, g0_2, l0_3, g0_3⟩ := X.k31_open hK0
  obtain rfl : cs0 = #[.int .i64 x0.f0, .int .i64 x0.f1, .slice A0_2 x0.f2.length c0_2, .slice A0_3 x0.f3.length c0_3] := X.agg_inj hcs0
  have h1_0 : x0.f2.length < 140737488355328 := X.len24 f0_.2.2.1
  have h2_0 : x0.f2.length < 4611686018427387904 := by omega
  have h3_0 : x0.f3.length < 4611686018427387904 := by have := X.len24 f0_.2.2.2.1; omega
  have h4_0 : ∀ u ∈ x0.f3, u.length < 4611686018427387904 := fun u hu => by have := X.len8 (f0_.2.2.2.2 u hu).1; omega
  have k1 := h1
  have lt1 : ∀ x ∈ p1, x.block < W.heap.size := by obtain ⟨m, hm⟩ := k1; exact DataW.trod_lt m _ _ _ hm
  have hw1 := X.weights_at hsz (j := 1) (t := 44) (d := d1) rfl rfl
  obtain ⟨cs1, rfl, _⟩ := okWide_struct Tryd.underlying44 (hval 1 44 v1 rfl rfl)
  obtain ⟨fuel1, hf1⟩ := h1
  obtain ⟨A1_0, bs1, c1_0, A1_1, is1, c1_1, hcs1, l1_0, g1_0, l1_1, g1_1, hb1_, hi1_, hr1_⟩ := X.opens_44 hf1 hw1
  obtain rfl : cs1 = #[.slice A1_0 bs1.length c1_0, .slice A1_1 is1.length c1_1] := X.agg_inj hcs1
  have hb_1 : bs1.length < 140737488355328 := X.len1 hb1_
  have hi_1 := hi1_
  clear hA0 hval0 hsz0 hsz
  obtain ⟨kk, hkk⟩ := X.satisfiesLaw x0.f0 x0.f1 x0.f2 x0.f3 bs1 is1 h2_0 h3_0 h4_0 (fun u hu y hy => X.i64_range ((f0_.2.2.2.2 u hu).2 y hy)) hb_1 (by have := X.len8 hi_1; omega)
  refine (X.interleavelaw31_FormulaSatisfies.calls kk x0.f0 x0.f1 A0_2 c0_2 x0.f2 A0_3 c0_3 x0.f3 A1_0 c1_0 bs1 A1_1 c1_1 is1 true W (gw_of_laid hL) g0_2 l0_2 g0_3 l0_3 g1_0 l1_0 g1_1 l1_1 hkk).mono fun e W' hh => ?_
  obtain ⟨he, bel⟩ := hh
  subst he
  exact ⟨_, rfl, _, _, _, [], _, [], hW', trodAll_mk1 (shut_bool Tryd.underlying4 _), (trodAll_cons_mk (Below.trod laidOut (by kernel_rfl) (of_decide_eq_true (by kernel_rfl)) k0 bel lt0) (trodAll_cons_mk (Below.trod laidOut (by kernel_rfl) (of_decide_eq_true (by kernel_rfl)) k1 bel lt1) trodAll_mk0)), rfl, bel.frame _, fun h => by cases h⟩
theorem over : Rows.formulaSatisfiesRow.holds Tryd.pinned (OpenSpec.ofChange Rows.formulaSatisfiesSpec) :=
  OpenClaim.holds_of_wide 12 Tryd.f12 rfl rfl rfl rfl rfl rfl rfl ⟨rfl, rfl, rfl, rfl, rfl⟩ rfl rfl rfl rfl rfl (by kernel_rfl) Tryd.func12 (by kernel_rfl)
    (of_decide_eq_true (by kernel_rfl)) (by unfold Func.isWrapper; first | (rw [if_pos (by decide +kernel)]; kernel_rfl) | (rw [if_neg (by decide +kernel)]; exact ⟨rfl, rfl⟩))
    (fun os started H enc _ => lifted os started H enc)
theorem card_holds : Rows.FormulaSatisfiesCardSaid :=
  Claim7.holds_tied_plain_at .later [] [.data, .data, .data] true (true, "1e4a402f80ee60203df5172e2c6070dc5465a4dc61546ad9d0b84901c503ae88") false
    over (fun _ h => by cases h) (by kernel_rfl) (fun _ h => by cases h) formulaSatisfies_row_tie rfl ⟨rfl, rfl⟩ (by kernel_rfl) rfl
    (fun f fn hf hfn => by
      obtain rfl : f = 12 := Option.some.inj ((show Tryd.prog.funcNamed "interleave/interleavelaw31.FormulaSatisfies" = some 12 by kernel_rfl).symm.trans hf) |>.symm
      obtain rfl : fn = Tryd.f12 := (Option.some.inj (Tryd.func12.symm.trans hfn)).symm
      exact ⟨by kernel_rfl, fun j t ht => by
        rw [Tryd.params12] at ht
        rcases j with _ | j
        · obtain rfl : t = 31 := by simpa using ht.symm
          exact (show Tryd.prog.wantsStandIn 31 = false by kernel_rfl)
        rcases j with _ | j
        · obtain rfl : t = 44 := by simpa using ht.symm
          exact (show Tryd.prog.wantsStandIn 44 = false by kernel_rfl)
        simp at ht⟩)
    (by kernel_rfl)
end Go.Proofs.YtpaoepcebcjfhaaDoor.formulaSatisfies
namespace Go.Proofs.YtpaoepcebcjfhaaDoor
/-- The tied card, under a short name. -/
theorem formulaSatisfies_card : Rows.FormulaSatisfiesCardSaid := formulaSatisfies.card_holds
#print axioms formulaSatisfies_card
end Go.Proofs.YtpaoepcebcjfhaaDoor
