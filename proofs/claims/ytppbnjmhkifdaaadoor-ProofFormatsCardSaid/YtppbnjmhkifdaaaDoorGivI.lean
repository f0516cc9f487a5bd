/- strconv.Itoa, as the walks take it. -/
import Derived.Test.YtppbnjmhkifdaaaDoorForm
namespace Go.Proofs.YtppbnjmhkifdaaaDoor.X
open Go Go.RowKit Go.Proofs.YtppbnjmhkifdaaaDoorW.PrintWords Go.Proofs.YtppbnjmhkifdaaaDoorW.PrintLast Go.Proofs.YtppbnjmhkifdaaaDoorW.PrintMore
def strconv_Itoa.f (a0 : Int) : Option ByteArray := if fitI [a0] = true then some ⟨(Lib.itoa a0).toArray⟩ else none
theorem strconv_Itoa.calls (a0 : Int) (r : ByteArray) (w : World) (hG : GW w) (h : strconv_Itoa.f a0 = some r) :
    Calls Tryd.prog 13 #[.int .i64 a0] w fun e w' => e = .returned (.string r) ∧ Below w.heap.size w w' := by
  unfold strconv_Itoa.f at h
  by_cases c : fitI [a0] = true
  · rw [if_pos c] at h
    obtain rfl := Option.some.inj h
    have c2 := of_decide_eq_true (List.all_eq_true.1 c a0 (by simp))
    refine (Tryd.itoa a0 c2.1 c2.2 w hG).mono fun e w' hh => ?_
    obtain ⟨rfl, k, os, rfl⟩ := hh
    exact ⟨rfl, Below.grown (Below.refl _ _) (grown_grow w k os) (Nat.le_refl _) (fun k hk => by cases hk)⟩
  · rw [if_neg c] at h
    cases h
end Go.Proofs.YtppbnjmhkifdaaaDoor.X
