/- proof.Format: what it writes, by the shelf's contracts of strings.Builder and strconv.Itoa. -/
import Derived.Test.YtppbnjmhkifdaaaDoorX0
import Derived.Test.YtppbnjmhkifdaaaDoorSx
import Derived.Test.YtppbnjmhkifdaaaDoorSh2
import Derived.Lib.AppendIntMem
namespace Go.Proofs.YtppbnjmhkifdaaaDoor.X
open Go Go.RowKit Go.Proofs.YtppbnjmhkifdaaaDoorW.PrintWords Go.Proofs.YtppbnjmhkifdaaaDoorW.PrintLast Go.Proofs.YtppbnjmhkifdaaaDoorW.PrintMore
set_option linter.unusedVariables false
set_option linter.unusedSimpArgs false
/-- The table that strconv.Itoa reads. -/
def GW (w : World) : Prop := Lib.TabIs Tryd.prog w "internal/strconv.uint64pow10" .u64 Lib.pow10Tab
theorem GW.below {w w1 : World} (h : GW w) (hb : Below w.heap.size w w1) : GW w1 := Lib.tabBelow_of_tabIs h w1 hb
def numB (n : Int) : List UInt8 := 32 :: Lib.itoa n
def lineB (word : List UInt8) (l : List Int) : List UInt8 := word ++ (l.flatMap numB ++ [10])
def fitI (l : List Int) : Bool := l.all fun n => decide (-9223372036854775808 ≤ n ∧ n ≤ 9223372036854775807)
def lineFit (word : List UInt8) (l : List Int) : Bool := fitI l && decide ((lineB word l).length ≤ 17592186044416)
theorem grown_grow (W : World) (k : Nat) (os : Array Obj) : W.grownBy (Go.Sort.grow (W.drewN k) os) none :=
  ⟨rfl, rfl, rfl, by show W.heap.size ≤ (W.heap ++ os).size; rw [Array.size_append]; omega, fun j hj _ => by show (W.heap ++ os)[j]? = _; rw [Array.getElem?_append_left hj]⟩
theorem builder_grown {B b : Nat} {bs : List Value} {w w1 : World} (h : Lib.IsBuilderF 44 5 B b bs w) (hg : w.grownBy w1 none) : Lib.IsBuilderF 44 5 B b bs w1 := by
  have key : ∀ p, Lib.BuilderAtF 44 5 B b p bs w → Lib.BuilderAtF 44 5 B b p bs w1 := by
    rintro p ⟨hB, v, hb, hown, hne⟩
    refine ⟨hB, v, ?_, hown.kept hg (by cases hv : v.ownBlock <;> simp), hne⟩
    rw [hg.block b (Array.getElem?_eq_some_iff.1 hb).1 (by simp)]
    exact hb
  exact h.imp (key _) (key _)
theorem others_grown {b : Nat} {a w w1 : World} (h : Lib.OthersKept 5 (some b) a w) (hg : w.grownBy w1 none) : Lib.OthersKept 5 (some b) a w1 := h.grown hg (fun g hg => by cases hg)
theorem fitI_get {l : List Int} (h : fitI l = true) (i : Nat) (hi : i < l.length) : -9223372036854775808 ≤ rd l (i : Int) ∧ rd l (i : Int) ≤ 9223372036854775807 := by
  have h1 := List.all_eq_true.1 h (rd l (i : Int)) (by
    unfold rd
    rw [Int.toNat_natCast, List.getD_eq_getElem?_getD, List.getElem?_eq_getElem hi]
    exact List.getElem_mem hi)
  exact of_decide_eq_true h1
theorem take_next {l : List Int} (i : Nat) (hi : i < l.length) : (l.take (i + 1)).flatMap numB = (l.take i).flatMap numB ++ numB (rd l (i : Int)) := by
  have h1 : l.take (i + 1) = l.take i ++ [rd l (i : Int)] := by
    rw [List.take_add_one, List.getElem?_eq_getElem hi]
    unfold rd
    rw [Int.toNat_natCast, List.getD_eq_getElem?_getD, List.getElem?_eq_getElem hi]
    rfl
  rw [h1, List.flatMap_append, List.flatMap_singleton]
theorem part_len {bs word : List UInt8} {l : List Int} {n : Nat} (i : Nat) (h : (bs ++ lineB word l).length ≤ n) : (bs ++ (word ++ ((l.take i).flatMap numB))).length + 1 ≤ n := by
  have h1 : l.flatMap numB = (l.take i).flatMap numB ++ (l.drop i).flatMap numB := by rw [← List.flatMap_append, List.take_append_drop]
  unfold lineB at h
  rw [h1] at h
  simp only [List.length_append, List.length_singleton] at h ⊢
  omega
theorem flat_len (l : List Int) : l.length ≤ (l.flatMap numB).length := by
  induction l with
  | nil => simp
  | cons a t ih =>
    rw [List.flatMap_cons, List.length_append, List.length_cons]
    have : 1 ≤ (numB a).length := by unfold numB; simp
    omega
theorem pre_len (bs a b : List UInt8) (n m : Nat) (h : (bs ++ (a ++ b)).length ≤ n) : (Lib.byteCells bs).length + a.length ≤ n := by
  rw [Lib.byteCells_length]
  simp only [List.length_append] at h
  omega
theorem R_kept {b base : Nat} {bs : List UInt8} {ok : Nat → Prop} {v : Value} {xs : List Int} {B : Nat} {W w' : World} (hR : (Kd.int .i64).R 3 W base ok v xs) (hb : Lib.IsBuilderF 44 5 B b (Lib.byteCells bs) W) (hO : Lib.OthersKept 5 (some b) W w') : (Kd.int .i64).R 3 w' base ok v xs := by
  have hbh : ∃ cs, W.heap[b]? = some (.cells cs 44 (0, 0)) := by
    rcases hb with ⟨_, _, h, _⟩ | ⟨_, _, h, _⟩
    · exact ⟨_, h⟩
    · exact ⟨_, h⟩
  obtain ⟨cs, hbh⟩ := hbh
  obtain ⟨h0, inner, h1, h2⟩ := hR
  refine ⟨h0, inner, own_move h1 (fun k hk => ?_), h2⟩
  obtain ⟨cells, hc⟩ := own_typed h1 k hk
  rw [hc]
  refine hO k _ hc (fun h => ?_) (fun c fz h => ?_)
  · injection h with h
    subst h
    rw [hbh] at hc
    injection hc with hc
    injection hc with _ hc _
    exact absurd hc (by decide)
  · injection h with _ h _
    exact absurd h (by decide)
theorem zero_builder {B b : Nat} {W : World} (hB : B ≤ b) (h : W.heap[b]? = some (.cells #[.pointer none, .slice none 0 0] 44 (0, 0))) : Lib.IsBuilderF 44 5 B b (Lib.byteCells []) W :=
  .inl ⟨hB, _, h, World.ownsRowF_nil _ _ _ _, by simp [Value.ownBlock]⟩
theorem some_len {α : Type} (f : α → List UInt8) (hf : ∀ x, 1 ≤ (f x).length) (l : List α) : l.length ≤ (l.flatMap f).length := by
  induction l with
  | nil => simp
  | cons a t ih =>
    rw [List.flatMap_cons, List.length_append, List.length_cons]
    have := hf a
    omega
def wdS : List UInt8 := [115, 116, 101, 112]
def wdI : List UInt8 := [105, 110, 112, 117, 116]
def wdC : List UInt8 := [99, 121, 99, 108, 101]
def wdR : List UInt8 := [114, 101, 115, 111, 108, 118, 101]
def stepW (s : S28) : List UInt8 := if s.f0 = 1 then wdI else if s.f0 = 2 then wdC else if s.f0 = 3 then wdR else wdS
def stepN (s : S28) : List Int := if s.f0 = 1 then [s.f1] else if s.f0 = 2 then s.f2 else if s.f0 = 3 then [s.f3, s.f4, s.f5] else [s.f0]
def stepB (s : S28) : List UInt8 := lineB (stepW s) (stepN s)
def fmtB (l : List S28) : List UInt8 := l.flatMap stepB
def fmtOk (l : List S28) : Bool := (l.all fun s => fitI (stepN s)) && decide ((fmtB l).length ≤ 140737488355328)
def proof_Format.f (l : List S28) : Option ByteArray := if fmtOk l = true then some ⟨(fmtB l).toArray⟩ else none
theorem rd28_mem {l : List S28} (i : Nat) (hi : i < l.length) : rd_T28 l (i : Int) ∈ l := by
  unfold rd_T28
  rw [Int.toNat_natCast, List.getD_eq_getElem?_getD, List.getElem?_eq_getElem hi]
  exact List.getElem_mem hi
theorem steps_next (l : List S28) (i : Nat) (hi : i < l.length) : (l.take (i + 1)).flatMap stepB = (l.take i).flatMap stepB ++ stepB (rd_T28 l (i : Int)) := by
  have h1 : l.take (i + 1) = l.take i ++ [rd_T28 l (i : Int)] := by
    rw [List.take_add_one, List.getElem?_eq_getElem hi]
    unfold rd_T28
    rw [Int.toNat_natCast, List.getD_eq_getElem?_getD, List.getElem?_eq_getElem hi]
    rfl
  rw [h1, List.flatMap_append, List.flatMap_singleton]
theorem steps_pre (l : List S28) {n : Nat} (i : Nat) (hi : i < l.length) (h : (fmtB l).length ≤ n) : ((l.take i).flatMap stepB ++ stepB (rd_T28 l (i : Int))).length ≤ n := by
  rw [← steps_next l i hi]
  have h1 : l.flatMap stepB = (l.take (i + 1)).flatMap stepB ++ (l.drop (i + 1)).flatMap stepB := by rw [← List.flatMap_append, List.take_append_drop]
  unfold fmtB at h
  rw [h1, List.length_append] at h
  omega
theorem steps_len (l : List S28) {n : Nat} (h : (fmtB l).length ≤ n) : l.length ≤ n := by
  have h1 := some_len stepB (fun x => by unfold stepB lineB; simp; omega) l
  unfold fmtB at h
  omega
set_option maxHeartbeats 40000000 in
set_option maxRecDepth 100000 in
theorem proof_Format.calls (A : Option Addr) (c0 : Nat) (l : List S28) (r : ByteArray) (w : World) (hG : GW w) (hr : Kd.C k28 w A l.length l) (hc : l.length ≤ c0) (h : proof_Format.f l = some r) :
    Calls Tryd.prog 6 #[.slice A l.length c0] w fun e w' => e = .returned (.string r) ∧ Below w.heap.size w w' := by
  unfold proof_Format.f at h
  by_cases hok : fmtOk l = true
  · rw [if_pos hok] at h
    obtain rfl := Option.some.inj h
    clear h
    simp only [fmtOk, Bool.and_eq_true] at hok
    obtain ⟨k1, k3⟩ := hok
    have k3 := of_decide_eq_true k3
    have HG := Aside0.mk hG
    have HR := Aside0.mk hr
    have K1 := Aside0.mk k1
    have K3 := Aside0.mk k3
    clear hG hr k1 k3 hc
    have hu28 := Tryd.underlying28
    go_enter Tryd.func6, Tryd.ntmps6
    go_wp2_with (first | ((with_reducible refine gate_dst (N := 3) rfl ?_); refine box_ev (N := 3) rfl (cs := #[.pointer none, .slice none 0 0]) (t := 44) ?_; intro b hgb w2 hboxb hbb; have HB0 := Aside0.mk (zero_builder (B := w.heap.size) (Nat.le_of_eq hgb.symm) hboxb); have HS0 := Aside0.mk hbb; clear hgb hboxb hbb))
    go_loopg [12] l.length (fun kq v12 w' => ∃ i : Nat, v12 = .int .i64 (i : Int) ∧ Aside0 (i + kq = l.length) ∧ Aside0 (Lib.IsBuilderF 44 5 w.heap.size b (Lib.byteCells ((l.take i).flatMap stepB)) w') ∧ Aside0 (Below w.heap.size w w'))
    case atStart => exact ⟨0, by first | rfl | simp, ⟨Nat.zero_add _⟩, ⟨by rw [List.take_zero, List.flatMap_nil]; exact HB0.out⟩, HS0⟩
    case round =>
      clear HB0 HS0
      obtain ⟨i, rfl, HI, HC, H2⟩ := hrel
      by_cases c : (i : Int) < (l.length : Int)
      · have c1 : decide ((i : Int) < (l.length : Int)) = true := decide_eq_true c
        have hi : i < l.length := by omega
        cases gk with
        | zero => exact absurd HI.out (by omega)
        | succ k1 =>
        obtain ⟨ad, A2, c2, e, hx0, hx1, hx2, hx3, hx4, hx5, hl2, hC2⟩ := at_T28 HR.out (i : Int) (Int.natCast_nonneg i) c
        cases e
        rw [Int.toNat_natCast] at hx0 hx1 hx2 hx3 hx4 hx5
        replace hx0 := (H2.out.cell (World.block_lt_of_cell? w _ hx0)).trans hx0
        replace hx1 := (H2.out.cell (World.block_lt_of_cell? w _ hx1)).trans hx1
        replace hx2 := (H2.out.cell (World.block_lt_of_cell? w _ hx2)).trans hx2
        replace hx3 := (H2.out.cell (World.block_lt_of_cell? w _ hx3)).trans hx3
        replace hx4 := (H2.out.cell (World.block_lt_of_cell? w _ hx4)).trans hx4
        replace hx5 := (H2.out.cell (World.block_lt_of_cell? w _ hx5)).trans hx5
        have HC2 := Aside0.mk hC2
        clear hC2 hl2
        have p1 := eq_true (Int.natCast_nonneg i)
        have p2 := eq_true c
        by_cases d1 : (rd_T28 l (i : Int)).f0 = 1
        · have d1b0 : ((rd_T28 l (i : Int)).f0 == 1) = true := beq_iff_eq.2 d1
          have D1 := Aside0.mk d1
          clear d1
          have HL : Aside0 ((((l.take i).flatMap stepB) ++ lineB wdI [(rd_T28 l (i : Int)).f1]).length ≤ 140737488355328) := ⟨by have h := steps_pre l i hi K3.out; unfold stepB at h; rw [show stepW (rd_T28 l (i : Int)) = wdI by unfold stepW; rw [if_pos D1.out], show stepN (rd_T28 l (i : Int)) = [(rd_T28 l (i : Int)).f1] by unfold stepN; rw [if_pos D1.out]] at h; exact h⟩
          have HLc : Aside0 ((Lib.byteCells ((l.take i).flatMap stepB)).length + (⟨wdI.toArray⟩ : ByteArray).size ≤ 140737488355328) := ⟨pre_len ((l.take i).flatMap stepB) wdI _ _ 0 HL.out⟩
          have HF : Aside0 (fitI [(rd_T28 l (i : Int)).f1] = true) := ⟨by have h := List.all_eq_true.1 K1.out _ (rd28_mem i hi); rw [show stepN (rd_T28 l (i : Int)) = [(rd_T28 l (i : Int)).f1] by unfold stepN; rw [if_pos D1.out]] at h; exact h⟩
          go_wp2_with (first | ((with_reducible refine gate_dst (N := 5) rfl ?_); refine box_ev (N := 5) rfl (cs := #[.int .i64 0, .int .i64 0, .slice none 0 0, .int .i64 0, .int .i64 0, .int .i64 0]) (t := 28) ?_; intro gs hg w5z hboxz hbz; have HGz := Aside0.mk (And.intro hg (And.intro hboxz hbz)); clear hg hboxz hbz) | ((with_reducible refine gate_store (t := 28) (p := 5) (v := _) rfl ?_); have hg := HGz.out.1; refine store_box rfl rfl rfl hg HGz.out.2.1 HGz.out.2.2 rfl (cs := #[.int .i64 (rd_T28 l (i : Int)).f0, .int .i64 (rd_T28 l (i : Int)).f1, .slice A2 (rd_T28 l (i : Int)).f2.length c2, .int .i64 (rd_T28 l (i : Int)).f3, .int .i64 (rd_T28 l (i : Int)).f4, .int .i64 (rd_T28 l (i : Int)).f5]) ?hx (by kernel_rfl) rfl rfl ?_; (case hx => first | rfl | (go_simp; rfl)); intro w5 hbox hb; clear HGz hg; have HX5 := Aside0.mk hbox; have BS5 := Aside0.mk hb; clear hbox hb))
          have HXd := Aside0.mk (blk_drew HX5.out)
          have BSd := Aside0.mk (below_drew1 BS5.out)
          refine start_ (n := 5) (S := fun w' => w'.cell? ⟨gs, 0, none⟩ = some (.int .i64 (rd_T28 l (i : Int)).f0)) (ds := []) #[false, false, false, false, false] (by kernel_rfl) rfl rfl ((blk_cell HXd.out 0).trans rfl) (fun hHeld => ?_)
          generalize w5.drew = w6 at HXd BSd hHeld ⊢
          refine pure_ (i := 0) (N := some 16) (v := ?_) (a' := ?_) #[true, false, false, false, false] rfl rfl (by kernel_rfl) (fun _ _ _ h => h) (Or.inl ⟨by rfl, ?_⟩) ?_ ?_
          rotate_left
          · intro w'
            go_simp
            with_reducible rfl
          rotate_left
          · simp only [Act.put, List.setIfInBounds_toArray, List.set_cons_zero, List.set_cons_succ, i64_w, i32_w]
            rfl
          refine take_ (i := 1) (N := some 17) (v := ?_) (a' := ?_) #[true, true, false, false, false] rfl rfl (by kernel_rfl) (fun _ _ _ h => h) (Or.inl ⟨by rfl, ?_⟩) hHeld ?_ ?_
          rotate_left
          · rintro w' s0
            go_simp
            with_reducible rfl
          rotate_left
          · simp only [Act.put, List.setIfInBounds_toArray, List.set_cons_zero, List.set_cons_succ, i64_w, i32_w]
            rfl
          refine pure_ (i := 3) (N := some 6) (v := ?_) (a' := ?_) #[true, true, false, true, false] rfl rfl (by kernel_rfl) (fun _ _ _ h => h) (Or.inl ⟨by rfl, ?_⟩) ?_ ?_
          rotate_left
          · intro w'
            go_simp
            with_reducible rfl
          rotate_left
          · simp only [Act.put, List.setIfInBounds_toArray, List.set_cons_zero, List.set_cons_succ, i64_w, i32_w]
            rfl
          refine one_ (i := 2) (N := some 18) #[true, true, true, true, false] rfl rfl (by kernel_rfl) (by decide) (fun K hK => ?_)
          refine Kd.R_lit_step (Kd.int .i64) _ 3 ?hw (N := 18) ?hd (xs := ([(rd_T28 l (i : Int)).f0] : List Int)) (inner := [.int .i64 (rd_T28 l (i : Int)).f0]) (ok := fun _ => True) (okp := fun _ => True) ?hr ?hp (fun _ hk => hk) trivial (Below.refl _ _) (Nat.le_refl _) (by simp) ?_
          case hw => rfl
          case hd => rfl
          case hr => first | (go_simp; done) | (go_simp; rfl)
          case hp => exact (Reps.one (show Kd.M (Kd.int .i64) _ _ _ _ [.int .i64 (rd_T28 l (i : Int)).f0] from rfl) (Reps.none _ _))
          intro v18 w18 ho hb hgr hnew
          obtain ⟨nu18, hnu18⟩ : ∃ n : List Int, n = [(rd_T28 l (i : Int)).f0] := ⟨_, rfl⟩
          rw [← hnu18] at ho
          have HN18 := Aside0.mk hnu18
          clear hnu18
          obtain ⟨A18, c18, e18⟩ := Kd.R_slice ho
          subst e18
          have HO18 := Aside0.mk ho
          have BS18 := Aside0.mk (below_step BSd.out hb)
          have HX18 := Aside0.mk (blk_below HXd.out hb)
          clear ho hb hgr hnew BSd HXd hHeld
          refine hK.out _ _ ((blk_cell HX18.out 0).trans rfl) (fun hHeld => ?_)
          clear hK K
          refine norm_ (a' := ?_) ?_ ?_
          rotate_left
          · show Act.put _ (some 18) _ = _
            simp only [Act.put, List.setIfInBounds_toArray, List.set_cons_zero, List.set_cons_succ, i64_w, i32_w]
            rfl
          refine pure_ (i := 4) (N := some 7) (v := ?_) (a' := ?_) #[true, true, true, true, true] rfl rfl (by kernel_rfl) (fun _ _ _ h => h) (Or.inl ⟨by rfl, ?_⟩) ?_ ?_
          rotate_left
          · intro w'
            go_simp
            with_reducible rfl
          rotate_left
          · simp only [Act.put, List.setIfInBounds_toArray, List.set_cons_zero, List.set_cons_succ, i64_w, i32_w]
            rfl
          refine done_ (by kernel_rfl) ?_
          have hs18_0 : w18.cell? ⟨gs, 0, none⟩ = some (.int .i64 (rd_T28 l (i : Int)).f0) := (blk_cell HX18.out 0).trans rfl
          have hs18_1 : w18.cell? ⟨gs, 1, none⟩ = some (.int .i64 (rd_T28 l (i : Int)).f1) := (blk_cell HX18.out 1).trans rfl
          have hs18_2 : w18.cell? ⟨gs, 2, none⟩ = some (.slice A2 (rd_T28 l (i : Int)).f2.length c2) := (blk_cell HX18.out 2).trans rfl
          have hs18_3 : w18.cell? ⟨gs, 3, none⟩ = some (.int .i64 (rd_T28 l (i : Int)).f3) := (blk_cell HX18.out 3).trans rfl
          have hs18_4 : w18.cell? ⟨gs, 4, none⟩ = some (.int .i64 (rd_T28 l (i : Int)).f4) := (blk_cell HX18.out 4).trans rfl
          have hs18_5 : w18.cell? ⟨gs, 5, none⟩ = some (.int .i64 (rd_T28 l (i : Int)).f5) := (blk_cell HX18.out 5).trans rfl
          go_wp2
          have HXd := Aside0.mk (blk_drew HX18.out)
          have BSd := Aside0.mk (below_drew1 BS18.out)
          refine start_ (n := 5) (S := fun w' => w'.cell? ⟨gs, 1, none⟩ = some (.int .i64 (rd_T28 l (i : Int)).f1)) (ds := []) #[false, false, false, false, false] (by kernel_rfl) rfl rfl ((blk_cell HXd.out 1).trans rfl) (fun hHeld => ?_)
          generalize w18.drew = w19 at HXd BSd hHeld ⊢
          refine pure_ (i := 0) (N := some 23) (v := ?_) (a' := ?_) #[true, false, false, false, false] rfl rfl (by kernel_rfl) (fun _ _ _ h => h) (Or.inl ⟨by rfl, ?_⟩) ?_ ?_
          rotate_left
          · intro w'
            go_simp
            with_reducible rfl
          rotate_left
          · simp only [Act.put, List.setIfInBounds_toArray, List.set_cons_zero, List.set_cons_succ, i64_w, i32_w]
            rfl
          refine take_ (i := 1) (N := some 24) (v := ?_) (a' := ?_) #[true, true, false, false, false] rfl rfl (by kernel_rfl) (fun _ _ _ h => h) (Or.inl ⟨by rfl, ?_⟩) hHeld ?_ ?_
          rotate_left
          · rintro w' s0
            go_simp
            with_reducible rfl
          rotate_left
          · simp only [Act.put, List.setIfInBounds_toArray, List.set_cons_zero, List.set_cons_succ, i64_w, i32_w]
            rfl
          refine pure_ (i := 3) (N := some 6) (v := ?_) (a' := ?_) #[true, true, false, true, false] rfl rfl (by kernel_rfl) (fun _ _ _ h => h) (Or.inl ⟨by rfl, ?_⟩) ?_ ?_
          rotate_left
          · intro w'
            go_simp
            with_reducible rfl
          rotate_left
          · simp only [Act.put, List.setIfInBounds_toArray, List.set_cons_zero, List.set_cons_succ, i64_w, i32_w]
            rfl
          refine one_ (i := 2) (N := some 25) #[true, true, true, true, false] rfl rfl (by kernel_rfl) (by decide) (fun K hK => ?_)
          refine Kd.R_lit_step (Kd.int .i64) _ 3 ?hw (N := 25) ?hd (xs := ([(rd_T28 l (i : Int)).f1] : List Int)) (inner := [.int .i64 (rd_T28 l (i : Int)).f1]) (ok := fun _ => True) (okp := fun _ => True) ?hr ?hp (fun _ hk => hk) trivial (Below.refl _ _) (Nat.le_refl _) (by simp) ?_
          case hw => rfl
          case hd => rfl
          case hr => first | (go_simp; done) | (go_simp; rfl)
          case hp => exact (Reps.one (show Kd.M (Kd.int .i64) _ _ _ _ [.int .i64 (rd_T28 l (i : Int)).f1] from rfl) (Reps.none _ _))
          intro v25 w25 ho hb hgr hnew
          obtain ⟨nu25, hnu25⟩ : ∃ n : List Int, n = [(rd_T28 l (i : Int)).f1] := ⟨_, rfl⟩
          rw [← hnu25] at ho
          have HN25 := Aside0.mk hnu25
          clear hnu25
          obtain ⟨A25, c25, e25⟩ := Kd.R_slice ho
          subst e25
          have HO25 := Aside0.mk ho
          have BS25 := Aside0.mk (below_step BSd.out hb)
          have HX25 := Aside0.mk (blk_below HXd.out hb)
          clear ho hb hgr hnew BSd HXd hHeld
          refine hK.out _ _ ((blk_cell HX25.out 1).trans rfl) (fun hHeld => ?_)
          clear hK K
          refine norm_ (a' := ?_) ?_ ?_
          rotate_left
          · show Act.put _ (some 25) _ = _
            simp only [Act.put, List.setIfInBounds_toArray, List.set_cons_zero, List.set_cons_succ, i64_w, i32_w]
            rfl
          refine pure_ (i := 4) (N := some 7) (v := ?_) (a' := ?_) #[true, true, true, true, true] rfl rfl (by kernel_rfl) (fun _ _ _ h => h) (Or.inl ⟨by rfl, ?_⟩) ?_ ?_
          rotate_left
          · intro w'
            go_simp
            with_reducible rfl
          rotate_left
          · simp only [Act.put, List.setIfInBounds_toArray, List.set_cons_zero, List.set_cons_succ, i64_w, i32_w]
            rfl
          refine done_ (by kernel_rfl) ?_
          have hs25_0 : w25.cell? ⟨gs, 0, none⟩ = some (.int .i64 (rd_T28 l (i : Int)).f0) := (blk_cell HX25.out 0).trans rfl
          have hs25_1 : w25.cell? ⟨gs, 1, none⟩ = some (.int .i64 (rd_T28 l (i : Int)).f1) := (blk_cell HX25.out 1).trans rfl
          have hs25_2 : w25.cell? ⟨gs, 2, none⟩ = some (.slice A2 (rd_T28 l (i : Int)).f2.length c2) := (blk_cell HX25.out 2).trans rfl
          have hs25_3 : w25.cell? ⟨gs, 3, none⟩ = some (.int .i64 (rd_T28 l (i : Int)).f3) := (blk_cell HX25.out 3).trans rfl
          have hs25_4 : w25.cell? ⟨gs, 4, none⟩ = some (.int .i64 (rd_T28 l (i : Int)).f4) := (blk_cell HX25.out 4).trans rfl
          have hs25_5 : w25.cell? ⟨gs, 5, none⟩ = some (.int .i64 (rd_T28 l (i : Int)).f5) := (blk_cell HX25.out 5).trans rfl
          have HB25 := Aside0.mk (builder_grown HC.out (grown_of_below BS25.out none))
          go_wp2_with (first | (go_at_call 12; refine (Tryd.writeString w.heap.size b (Lib.byteCells ((l.take i).flatMap stepB)) ⟨wdI.toArray⟩ w25 HB25.out HLc.out (below_step H2.out BS25.out).size).mono ?_; rintro e w7 ⟨rfl, h1, h2, h3⟩; have HCw : Aside0 (Lib.IsBuilderF 44 5 w.heap.size b (Lib.byteCells (((l.take i).flatMap stepB) ++ (wdI ++ (nu25.take 0).flatMap numB))) w7) := ⟨by rw [List.take_zero, List.flatMap_nil, List.append_nil, Lib.byteCells_append]; exact .inr h1⟩; have H2w := Aside0.mk ((below_step H2.out BS25.out).trans h2); have H3w := Aside0.mk h3; clear h1 h2 h3))
          rw [← HN25.out] at HL HF
          have HRr : Aside0 (∀ w', Below w.heap.size w w' → Lib.OthersKept 5 (some b) w25 w' → Kd.C (Kd.int .i64) w' A25 nu25.length nu25) := ⟨fun w' _ hO => (Kd.R_reads' (R_kept HO25.out HB25.out hO)).2.2⟩
          go_loopg [43] nu25.length (fun kq v43 w' => ∃ j : Nat, v43 = .int .i64 (j : Int) ∧ Aside0 (j + kq = nu25.length) ∧ Aside0 (Lib.IsBuilderF 44 5 w.heap.size b (Lib.byteCells (((l.take i).flatMap stepB) ++ (wdI ++ (nu25.take j).flatMap numB))) w') ∧ Aside0 (Below w.heap.size w w') ∧ Aside0 (Lib.OthersKept 5 (some b) w25 w'))
          case atStart => exact ⟨0, by first | rfl | simp, ⟨Nat.zero_add _⟩, HCw, H2w, H3w⟩
          case round =>
            clear HCw H2w H3w
            obtain ⟨j, rfl, HJ, HCj, H2j, H3j⟩ := hrel
            by_cases cj : (j : Int) < (nu25.length : Int)
            · have cj1 : decide ((j : Int) < (nu25.length : Int)) = true := decide_eq_true cj
              have hj : j < nu25.length := by omega
              cases gk with
              | zero => exact absurd HJ.out (by omega)
              | succ k2 =>
              obtain ⟨ad, e, hx⟩ := Kd.at_int (HRr.out wr H2j.out H3j.out) (j : Int) (Int.natCast_nonneg j) cj
              cases e
              rw [Int.toNat_natCast] at hx
              have pj1 := eq_true (Int.natCast_nonneg j)
              have pj2 := eq_true cj
              have hIt := Tryd.itoa (rd nu25 (j : Int)) (fitI_get HF.out j hj).1 (fitI_get HF.out j hj).2
              have hlen := part_len (j + 1) HL.out
              rw [take_next j hj, ← List.append_assoc wdI, ← List.append_assoc ((l.take i).flatMap stepB), List.length_append (bs := numB (rd nu25 (j : Int)))] at hlen
              have hsz : (⟨#[32]⟩ ++ ⟨(Lib.itoa (rd nu25 (j : Int))).toArray⟩ : ByteArray) = ⟨(numB (rd nu25 (j : Int))).toArray⟩ := by
                unfold numB
                apply ByteArray.ext
                rw [ByteArray.data_append]
                simp
              have hs1 : ((⟨#[32]⟩ ++ ⟨(Lib.itoa (rd nu25 (j : Int))).toArray⟩ : ByteArray)).size = (numB (rd nu25 (j : Int))).length := by rw [hsz]; rfl
              have hs2 : (9223372036854775807 < ((⟨#[32]⟩ ++ ⟨(Lib.itoa (rd nu25 (j : Int))).toArray⟩ : ByteArray)).size) = False := eq_false (by rw [hs1]; omega)
              have hs3 : (9223372036854775807 < 1 + (Lib.itoa (rd nu25 (j : Int))).length) = False := eq_false (by
                have h := hs1
                rw [ByteArray.size_append] at h
                have h9 : (⟨(Lib.itoa (rd nu25 (j : Int))).toArray⟩ : ByteArray).size = (Lib.itoa (rd nu25 (j : Int))).length := rfl
                have h8 : (⟨#[32]⟩ : ByteArray).size = 1 := rfl
                omega)
              have hWs := fun (W : World) (hB : Lib.IsBuilderF 44 5 w.heap.size b (Lib.byteCells (((l.take i).flatMap stepB) ++ (wdI ++ (nu25.take j).flatMap numB))) W) (hb : w.heap.size ≤ W.heap.size) => Tryd.writeString w.heap.size b _ (⟨#[32]⟩ ++ ⟨(Lib.itoa (rd nu25 (j : Int))).toArray⟩) W hB (by rw [hs1, Lib.byteCells_length]; omega) hb
              have HXj := Aside0.mk hx
              have HL2 := Aside0.mk hlen
              have HSj := Aside0.mk hsz
              clear hlen hsz
              go_wp2_with (first | (go_at_call 13; refine (hIt _ (GW.below HG.out H2j.out)).mono ?_; rintro e w8 ⟨rfl, k8, os8, rfl⟩; have HG8 := Aside0.mk (grown_grow wr k8 os8)) | (go_at_call 12; refine (hWs _ (builder_grown HCj.out HG8.out) (Nat.le_trans H2j.out.size HG8.out.size)).mono ?_; rintro e w9 ⟨rfl, h1, h2, h3⟩))
              go_roundg k2
              case measure => omega
              case rel =>
                refine ⟨j + 1, ?_, ⟨by have := HJ.out; omega⟩, ⟨?_⟩, ⟨?_⟩, ⟨?_⟩⟩
                · have hh := HJ.out
                  have hL := HL2.out
                  have hk : nu25.length ≤ 140737488355328 := Nat.le_trans (Nat.le_trans (flat_len nu25) (by unfold lineB; simp only [List.length_append]; omega)) HL.out
                  have : wrap64 ((j : Int) + 1) = ((j + 1 : Nat) : Int) := by
                    unfold wrap64
                    omega
                  rw [this]
                · have e1 : ((l.take i).flatMap stepB) ++ (wdI ++ (nu25.take (j + 1)).flatMap numB) = (((l.take i).flatMap stepB) ++ (wdI ++ (nu25.take j).flatMap numB)) ++ numB (rd nu25 (j : Int)) := by
                    rw [take_next j hj]
                    simp only [List.append_assoc]
                  rw [e1, Lib.byteCells_append]
                  rw [HSj.out] at h1
                  exact .inr h1
                · exact (H2j.out.trans (Below.grown (Below.refl _ _) HG8.out H2j.out.size (fun k hk => by cases hk))).trans h2
                · exact (others_grown H3j.out HG8.out).trans h3
            · have cj1 : decide ((j : Int) < (nu25.length : Int)) = false := decide_eq_false cj
              have hj : j = nu25.length := by have := HJ.out; omega
              have hlen : (Lib.byteCells (((l.take i).flatMap stepB) ++ (wdI ++ (nu25.take j).flatMap numB))).length + (⟨#[10]⟩ : ByteArray).size ≤ 140737488355328 := by
                rw [Lib.byteCells_length]
                exact part_len j HL.out
              have hWs := Tryd.writeString w.heap.size b _ ⟨#[10]⟩ wr HCj.out hlen H2j.out.size
              clear hlen
              go_wp2_with (go_at_call 12; refine hWs.mono ?_; rintro e w9 ⟨rfl, h1, h2, h3⟩)
              go_roundg k1
              case measure => omega
              case rel =>
                refine ⟨i + 1, ?_, ⟨by have := HI.out; omega⟩, ⟨?_⟩, ⟨H2j.out.trans h2⟩⟩
                · have hk := steps_len l K3.out
                  have : wrap64 ((i : Int) + 1) = ((i + 1 : Nat) : Int) := by
                    unfold wrap64
                    omega
                  rw [this]
                · subst hj
                  rw [List.take_length] at h1
                  have e1 : (l.take (i + 1)).flatMap stepB = (((l.take i).flatMap stepB) ++ (wdI ++ nu25.flatMap numB)) ++ [10] := by
                    rw [steps_next l i hi]
                    unfold stepB
                    rw [show stepW (rd_T28 l (i : Int)) = wdI by unfold stepW; rw [if_pos D1.out], show stepN (rd_T28 l (i : Int)) = nu25 by rw [HN25.out]; unfold stepN; rw [if_pos D1.out]]
                    unfold lineB
                    simp only [List.append_assoc]
                  rw [e1, Lib.byteCells_append]
                  exact .inr h1
        have d1b0 : ((rd_T28 l (i : Int)).f0 == 1) = false := beq_eq_false_iff_ne.2 d1
        have D1 := Aside0.mk d1
        clear d1
        by_cases d2 : (rd_T28 l (i : Int)).f0 = 2
        · have d2b0 : ((rd_T28 l (i : Int)).f0 == 2) = true := beq_iff_eq.2 d2
          have D2 := Aside0.mk d2
          clear d2
          have HL : Aside0 ((((l.take i).flatMap stepB) ++ lineB wdC (rd_T28 l (i : Int)).f2).length ≤ 140737488355328) := ⟨by have h := steps_pre l i hi K3.out; unfold stepB at h; rw [show stepW (rd_T28 l (i : Int)) = wdC by unfold stepW; rw [if_neg D1.out, if_pos D2.out], show stepN (rd_T28 l (i : Int)) = (rd_T28 l (i : Int)).f2 by unfold stepN; rw [if_neg D1.out, if_pos D2.out]] at h; exact h⟩
          have HLc : Aside0 ((Lib.byteCells ((l.take i).flatMap stepB)).length + (⟨wdC.toArray⟩ : ByteArray).size ≤ 140737488355328) := ⟨pre_len ((l.take i).flatMap stepB) wdC _ _ 0 HL.out⟩
          have HF : Aside0 (fitI (rd_T28 l (i : Int)).f2 = true) := ⟨by have h := List.all_eq_true.1 K1.out _ (rd28_mem i hi); rw [show stepN (rd_T28 l (i : Int)) = (rd_T28 l (i : Int)).f2 by unfold stepN; rw [if_neg D1.out, if_pos D2.out]] at h; exact h⟩
          go_wp2_with (first | ((with_reducible refine gate_dst (N := 5) rfl ?_); refine box_ev (N := 5) rfl (cs := #[.int .i64 0, .int .i64 0, .slice none 0 0, .int .i64 0, .int .i64 0, .int .i64 0]) (t := 28) ?_; intro gs hg w5z hboxz hbz; have HGz := Aside0.mk (And.intro hg (And.intro hboxz hbz)); clear hg hboxz hbz) | ((with_reducible refine gate_store (t := 28) (p := 5) (v := _) rfl ?_); have hg := HGz.out.1; refine store_box rfl rfl rfl hg HGz.out.2.1 HGz.out.2.2 rfl (cs := #[.int .i64 (rd_T28 l (i : Int)).f0, .int .i64 (rd_T28 l (i : Int)).f1, .slice A2 (rd_T28 l (i : Int)).f2.length c2, .int .i64 (rd_T28 l (i : Int)).f3, .int .i64 (rd_T28 l (i : Int)).f4, .int .i64 (rd_T28 l (i : Int)).f5]) ?hx (by kernel_rfl) rfl rfl ?_; (case hx => first | rfl | (go_simp; rfl)); intro w5 hbox hb; clear HGz hg; have HX5 := Aside0.mk hbox; have BS5 := Aside0.mk hb; clear hbox hb))
          have HXd := Aside0.mk (blk_drew HX5.out)
          have BSd := Aside0.mk (below_drew1 BS5.out)
          refine start_ (n := 5) (S := fun w' => w'.cell? ⟨gs, 0, none⟩ = some (.int .i64 (rd_T28 l (i : Int)).f0)) (ds := []) #[false, false, false, false, false] (by kernel_rfl) rfl rfl ((blk_cell HXd.out 0).trans rfl) (fun hHeld => ?_)
          generalize w5.drew = w6 at HXd BSd hHeld ⊢
          refine pure_ (i := 0) (N := some 16) (v := ?_) (a' := ?_) #[true, false, false, false, false] rfl rfl (by kernel_rfl) (fun _ _ _ h => h) (Or.inl ⟨by rfl, ?_⟩) ?_ ?_
          rotate_left
          · intro w'
            go_simp
            with_reducible rfl
          rotate_left
          · simp only [Act.put, List.setIfInBounds_toArray, List.set_cons_zero, List.set_cons_succ, i64_w, i32_w]
            rfl
          refine take_ (i := 1) (N := some 17) (v := ?_) (a' := ?_) #[true, true, false, false, false] rfl rfl (by kernel_rfl) (fun _ _ _ h => h) (Or.inl ⟨by rfl, ?_⟩) hHeld ?_ ?_
          rotate_left
          · rintro w' s0
            go_simp
            with_reducible rfl
          rotate_left
          · simp only [Act.put, List.setIfInBounds_toArray, List.set_cons_zero, List.set_cons_succ, i64_w, i32_w]
            rfl
          refine pure_ (i := 3) (N := some 6) (v := ?_) (a' := ?_) #[true, true, false, true, false] rfl rfl (by kernel_rfl) (fun _ _ _ h => h) (Or.inl ⟨by rfl, ?_⟩) ?_ ?_
          rotate_left
          · intro w'
            go_simp
            with_reducible rfl
          rotate_left
          · simp only [Act.put, List.setIfInBounds_toArray, List.set_cons_zero, List.set_cons_succ, i64_w, i32_w]
            rfl
          refine one_ (i := 2) (N := some 18) #[true, true, true, true, false] rfl rfl (by kernel_rfl) (by decide) (fun K hK => ?_)
          refine Kd.R_lit_step (Kd.int .i64) _ 3 ?hw (N := 18) ?hd (xs := ([(rd_T28 l (i : Int)).f0] : List Int)) (inner := [.int .i64 (rd_T28 l (i : Int)).f0]) (ok := fun _ => True) (okp := fun _ => True) ?hr ?hp (fun _ hk => hk) trivial (Below.refl _ _) (Nat.le_refl _) (by simp) ?_
          case hw => rfl
          case hd => rfl
          case hr => first | (go_simp; done) | (go_simp; rfl)
          case hp => exact (Reps.one (show Kd.M (Kd.int .i64) _ _ _ _ [.int .i64 (rd_T28 l (i : Int)).f0] from rfl) (Reps.none _ _))
          intro v18 w18 ho hb hgr hnew
          obtain ⟨nu18, hnu18⟩ : ∃ n : List Int, n = [(rd_T28 l (i : Int)).f0] := ⟨_, rfl⟩
          rw [← hnu18] at ho
          have HN18 := Aside0.mk hnu18
          clear hnu18
          obtain ⟨A18, c18, e18⟩ := Kd.R_slice ho
          subst e18
          have HO18 := Aside0.mk ho
          have BS18 := Aside0.mk (below_step BSd.out hb)
          have HX18 := Aside0.mk (blk_below HXd.out hb)
          clear ho hb hgr hnew BSd HXd hHeld
          refine hK.out _ _ ((blk_cell HX18.out 0).trans rfl) (fun hHeld => ?_)
          clear hK K
          refine norm_ (a' := ?_) ?_ ?_
          rotate_left
          · show Act.put _ (some 18) _ = _
            simp only [Act.put, List.setIfInBounds_toArray, List.set_cons_zero, List.set_cons_succ, i64_w, i32_w]
            rfl
          refine pure_ (i := 4) (N := some 7) (v := ?_) (a' := ?_) #[true, true, true, true, true] rfl rfl (by kernel_rfl) (fun _ _ _ h => h) (Or.inl ⟨by rfl, ?_⟩) ?_ ?_
          rotate_left
          · intro w'
            go_simp
            with_reducible rfl
          rotate_left
          · simp only [Act.put, List.setIfInBounds_toArray, List.set_cons_zero, List.set_cons_succ, i64_w, i32_w]
            rfl
          refine done_ (by kernel_rfl) ?_
          have hs18_0 : w18.cell? ⟨gs, 0, none⟩ = some (.int .i64 (rd_T28 l (i : Int)).f0) := (blk_cell HX18.out 0).trans rfl
          have hs18_1 : w18.cell? ⟨gs, 1, none⟩ = some (.int .i64 (rd_T28 l (i : Int)).f1) := (blk_cell HX18.out 1).trans rfl
          have hs18_2 : w18.cell? ⟨gs, 2, none⟩ = some (.slice A2 (rd_T28 l (i : Int)).f2.length c2) := (blk_cell HX18.out 2).trans rfl
          have hs18_3 : w18.cell? ⟨gs, 3, none⟩ = some (.int .i64 (rd_T28 l (i : Int)).f3) := (blk_cell HX18.out 3).trans rfl
          have hs18_4 : w18.cell? ⟨gs, 4, none⟩ = some (.int .i64 (rd_T28 l (i : Int)).f4) := (blk_cell HX18.out 4).trans rfl
          have hs18_5 : w18.cell? ⟨gs, 5, none⟩ = some (.int .i64 (rd_T28 l (i : Int)).f5) := (blk_cell HX18.out 5).trans rfl
          go_wp2
          go_quiet (fail)
          have BS29 := Aside0.mk (show Below wr.heap.size wr (w18.drewN nq) from BS18.l)
          generalize w18.drewN nq = w29 at BS29 ⊢
          have HB29 := Aside0.mk (builder_grown HC.out (grown_of_below BS29.out none))
          go_wp2_with (first | (go_at_call 12; refine (Tryd.writeString w.heap.size b (Lib.byteCells ((l.take i).flatMap stepB)) ⟨wdC.toArray⟩ w29 HB29.out HLc.out (below_step H2.out BS29.out).size).mono ?_; rintro e w7 ⟨rfl, h1, h2, h3⟩; have HCw : Aside0 (Lib.IsBuilderF 44 5 w.heap.size b (Lib.byteCells (((l.take i).flatMap stepB) ++ (wdC ++ ((rd_T28 l (i : Int)).f2.take 0).flatMap numB))) w7) := ⟨by rw [List.take_zero, List.flatMap_nil, List.append_nil, Lib.byteCells_append]; exact .inr h1⟩; have H2w := Aside0.mk ((below_step H2.out BS29.out).trans h2); have H3w := Aside0.mk h3; clear h1 h2 h3))
          have HRr : Aside0 (∀ w', Below w.heap.size w w' → Lib.OthersKept 5 (some b) w29 w' → Kd.C (Kd.int .i64) w' A2 (rd_T28 l (i : Int)).f2.length (rd_T28 l (i : Int)).f2) := ⟨fun w' hb _ => Kd.C_below HC2.out hb⟩
          go_loopg [43] (rd_T28 l (i : Int)).f2.length (fun kq v43 w' => ∃ j : Nat, v43 = .int .i64 (j : Int) ∧ Aside0 (j + kq = (rd_T28 l (i : Int)).f2.length) ∧ Aside0 (Lib.IsBuilderF 44 5 w.heap.size b (Lib.byteCells (((l.take i).flatMap stepB) ++ (wdC ++ ((rd_T28 l (i : Int)).f2.take j).flatMap numB))) w') ∧ Aside0 (Below w.heap.size w w') ∧ Aside0 (Lib.OthersKept 5 (some b) w29 w'))
          case atStart => exact ⟨0, by first | rfl | simp, ⟨Nat.zero_add _⟩, HCw, H2w, H3w⟩
          case round =>
            clear HCw H2w H3w
            obtain ⟨j, rfl, HJ, HCj, H2j, H3j⟩ := hrel
            by_cases cj : (j : Int) < ((rd_T28 l (i : Int)).f2.length : Int)
            · have cj1 : decide ((j : Int) < ((rd_T28 l (i : Int)).f2.length : Int)) = true := decide_eq_true cj
              have hj : j < (rd_T28 l (i : Int)).f2.length := by omega
              cases gk with
              | zero => exact absurd HJ.out (by omega)
              | succ k2 =>
              obtain ⟨ad, e, hx⟩ := Kd.at_int (HRr.out wr H2j.out H3j.out) (j : Int) (Int.natCast_nonneg j) cj
              cases e
              rw [Int.toNat_natCast] at hx
              have pj1 := eq_true (Int.natCast_nonneg j)
              have pj2 := eq_true cj
              have hIt := Tryd.itoa (rd (rd_T28 l (i : Int)).f2 (j : Int)) (fitI_get HF.out j hj).1 (fitI_get HF.out j hj).2
              have hlen := part_len (j + 1) HL.out
              rw [take_next j hj, ← List.append_assoc wdC, ← List.append_assoc ((l.take i).flatMap stepB), List.length_append (bs := numB (rd (rd_T28 l (i : Int)).f2 (j : Int)))] at hlen
              have hsz : (⟨#[32]⟩ ++ ⟨(Lib.itoa (rd (rd_T28 l (i : Int)).f2 (j : Int))).toArray⟩ : ByteArray) = ⟨(numB (rd (rd_T28 l (i : Int)).f2 (j : Int))).toArray⟩ := by
                unfold numB
                apply ByteArray.ext
                rw [ByteArray.data_append]
                simp
              have hs1 : ((⟨#[32]⟩ ++ ⟨(Lib.itoa (rd (rd_T28 l (i : Int)).f2 (j : Int))).toArray⟩ : ByteArray)).size = (numB (rd (rd_T28 l (i : Int)).f2 (j : Int))).length := by rw [hsz]; rfl
              have hs2 : (9223372036854775807 < ((⟨#[32]⟩ ++ ⟨(Lib.itoa (rd (rd_T28 l (i : Int)).f2 (j : Int))).toArray⟩ : ByteArray)).size) = False := eq_false (by rw [hs1]; omega)
              have hs3 : (9223372036854775807 < 1 + (Lib.itoa (rd (rd_T28 l (i : Int)).f2 (j : Int))).length) = False := eq_false (by
                have h := hs1
                rw [ByteArray.size_append] at h
                have h9 : (⟨(Lib.itoa (rd (rd_T28 l (i : Int)).f2 (j : Int))).toArray⟩ : ByteArray).size = (Lib.itoa (rd (rd_T28 l (i : Int)).f2 (j : Int))).length := rfl
                have h8 : (⟨#[32]⟩ : ByteArray).size = 1 := rfl
                omega)
              have hWs := fun (W : World) (hB : Lib.IsBuilderF 44 5 w.heap.size b (Lib.byteCells (((l.take i).flatMap stepB) ++ (wdC ++ ((rd_T28 l (i : Int)).f2.take j).flatMap numB))) W) (hb : w.heap.size ≤ W.heap.size) => Tryd.writeString w.heap.size b _ (⟨#[32]⟩ ++ ⟨(Lib.itoa (rd (rd_T28 l (i : Int)).f2 (j : Int))).toArray⟩) W hB (by rw [hs1, Lib.byteCells_length]; omega) hb
              have HXj := Aside0.mk hx
              have HL2 := Aside0.mk hlen
              have HSj := Aside0.mk hsz
              clear hlen hsz
              go_wp2_with (first | (go_at_call 13; refine (hIt _ (GW.below HG.out H2j.out)).mono ?_; rintro e w8 ⟨rfl, k8, os8, rfl⟩; have HG8 := Aside0.mk (grown_grow wr k8 os8)) | (go_at_call 12; refine (hWs _ (builder_grown HCj.out HG8.out) (Nat.le_trans H2j.out.size HG8.out.size)).mono ?_; rintro e w9 ⟨rfl, h1, h2, h3⟩))
              go_roundg k2
              case measure => omega
              case rel =>
                refine ⟨j + 1, ?_, ⟨by have := HJ.out; omega⟩, ⟨?_⟩, ⟨?_⟩, ⟨?_⟩⟩
                · have hh := HJ.out
                  have hL := HL2.out
                  have hk : (rd_T28 l (i : Int)).f2.length ≤ 140737488355328 := Nat.le_trans (Nat.le_trans (flat_len (rd_T28 l (i : Int)).f2) (by unfold lineB; simp only [List.length_append]; omega)) HL.out
                  have : wrap64 ((j : Int) + 1) = ((j + 1 : Nat) : Int) := by
                    unfold wrap64
                    omega
                  rw [this]
                · have e1 : ((l.take i).flatMap stepB) ++ (wdC ++ ((rd_T28 l (i : Int)).f2.take (j + 1)).flatMap numB) = (((l.take i).flatMap stepB) ++ (wdC ++ ((rd_T28 l (i : Int)).f2.take j).flatMap numB)) ++ numB (rd (rd_T28 l (i : Int)).f2 (j : Int)) := by
                    rw [take_next j hj]
                    simp only [List.append_assoc]
                  rw [e1, Lib.byteCells_append]
                  rw [HSj.out] at h1
                  exact .inr h1
                · exact (H2j.out.trans (Below.grown (Below.refl _ _) HG8.out H2j.out.size (fun k hk => by cases hk))).trans h2
                · exact (others_grown H3j.out HG8.out).trans h3
            · have cj1 : decide ((j : Int) < ((rd_T28 l (i : Int)).f2.length : Int)) = false := decide_eq_false cj
              have hj : j = (rd_T28 l (i : Int)).f2.length := by have := HJ.out; omega
              have hlen : (Lib.byteCells (((l.take i).flatMap stepB) ++ (wdC ++ ((rd_T28 l (i : Int)).f2.take j).flatMap numB))).length + (⟨#[10]⟩ : ByteArray).size ≤ 140737488355328 := by
                rw [Lib.byteCells_length]
                exact part_len j HL.out
              have hWs := Tryd.writeString w.heap.size b _ ⟨#[10]⟩ wr HCj.out hlen H2j.out.size
              clear hlen
              go_wp2_with (go_at_call 12; refine hWs.mono ?_; rintro e w9 ⟨rfl, h1, h2, h3⟩)
              go_roundg k1
              case measure => omega
              case rel =>
                refine ⟨i + 1, ?_, ⟨by have := HI.out; omega⟩, ⟨?_⟩, ⟨H2j.out.trans h2⟩⟩
                · have hk := steps_len l K3.out
                  have : wrap64 ((i : Int) + 1) = ((i + 1 : Nat) : Int) := by
                    unfold wrap64
                    omega
                  rw [this]
                · subst hj
                  rw [List.take_length] at h1
                  have e1 : (l.take (i + 1)).flatMap stepB = (((l.take i).flatMap stepB) ++ (wdC ++ (rd_T28 l (i : Int)).f2.flatMap numB)) ++ [10] := by
                    rw [steps_next l i hi]
                    unfold stepB
                    rw [show stepW (rd_T28 l (i : Int)) = wdC by unfold stepW; rw [if_neg D1.out, if_pos D2.out], show stepN (rd_T28 l (i : Int)) = (rd_T28 l (i : Int)).f2 by unfold stepN; rw [if_neg D1.out, if_pos D2.out]]
                    unfold lineB
                    simp only [List.append_assoc]
                  rw [e1, Lib.byteCells_append]
                  exact .inr h1
        have d2b0 : ((rd_T28 l (i : Int)).f0 == 2) = false := beq_eq_false_iff_ne.2 d2
        have D2 := Aside0.mk d2
        clear d2
        by_cases d3 : (rd_T28 l (i : Int)).f0 = 3
        · have d3b0 : ((rd_T28 l (i : Int)).f0 == 3) = true := beq_iff_eq.2 d3
          have D3 := Aside0.mk d3
          clear d3
          have HL : Aside0 ((((l.take i).flatMap stepB) ++ lineB wdR [(rd_T28 l (i : Int)).f3, (rd_T28 l (i : Int)).f4, (rd_T28 l (i : Int)).f5]).length ≤ 140737488355328) := ⟨by have h := steps_pre l i hi K3.out; unfold stepB at h; rw [show stepW (rd_T28 l (i : Int)) = wdR by unfold stepW; rw [if_neg D1.out, if_neg D2.out, if_pos D3.out], show stepN (rd_T28 l (i : Int)) = [(rd_T28 l (i : Int)).f3, (rd_T28 l (i : Int)).f4, (rd_T28 l (i : Int)).f5] by unfold stepN; rw [if_neg D1.out, if_neg D2.out, if_pos D3.out]] at h; exact h⟩
          have HLc : Aside0 ((Lib.byteCells ((l.take i).flatMap stepB)).length + (⟨wdR.toArray⟩ : ByteArray).size ≤ 140737488355328) := ⟨pre_len ((l.take i).flatMap stepB) wdR _ _ 0 HL.out⟩
          have HF : Aside0 (fitI [(rd_T28 l (i : Int)).f3, (rd_T28 l (i : Int)).f4, (rd_T28 l (i : Int)).f5] = true) := ⟨by have h := List.all_eq_true.1 K1.out _ (rd28_mem i hi); rw [show stepN (rd_T28 l (i : Int)) = [(rd_T28 l (i : Int)).f3, (rd_T28 l (i : Int)).f4, (rd_T28 l (i : Int)).f5] by unfold stepN; rw [if_neg D1.out, if_neg D2.out, if_pos D3.out]] at h; exact h⟩
          go_wp2_with (first | ((with_reducible refine gate_dst (N := 5) rfl ?_); refine box_ev (N := 5) rfl (cs := #[.int .i64 0, .int .i64 0, .slice none 0 0, .int .i64 0, .int .i64 0, .int .i64 0]) (t := 28) ?_; intro gs hg w5z hboxz hbz; have HGz := Aside0.mk (And.intro hg (And.intro hboxz hbz)); clear hg hboxz hbz) | ((with_reducible refine gate_store (t := 28) (p := 5) (v := _) rfl ?_); have hg := HGz.out.1; refine store_box rfl rfl rfl hg HGz.out.2.1 HGz.out.2.2 rfl (cs := #[.int .i64 (rd_T28 l (i : Int)).f0, .int .i64 (rd_T28 l (i : Int)).f1, .slice A2 (rd_T28 l (i : Int)).f2.length c2, .int .i64 (rd_T28 l (i : Int)).f3, .int .i64 (rd_T28 l (i : Int)).f4, .int .i64 (rd_T28 l (i : Int)).f5]) ?hx (by kernel_rfl) rfl rfl ?_; (case hx => first | rfl | (go_simp; rfl)); intro w5 hbox hb; clear HGz hg; have HX5 := Aside0.mk hbox; have BS5 := Aside0.mk hb; clear hbox hb))
          have HXd := Aside0.mk (blk_drew HX5.out)
          have BSd := Aside0.mk (below_drew1 BS5.out)
          refine start_ (n := 5) (S := fun w' => w'.cell? ⟨gs, 0, none⟩ = some (.int .i64 (rd_T28 l (i : Int)).f0)) (ds := []) #[false, false, false, false, false] (by kernel_rfl) rfl rfl ((blk_cell HXd.out 0).trans rfl) (fun hHeld => ?_)
          generalize w5.drew = w6 at HXd BSd hHeld ⊢
          refine pure_ (i := 0) (N := some 16) (v := ?_) (a' := ?_) #[true, false, false, false, false] rfl rfl (by kernel_rfl) (fun _ _ _ h => h) (Or.inl ⟨by rfl, ?_⟩) ?_ ?_
          rotate_left
          · intro w'
            go_simp
            with_reducible rfl
          rotate_left
          · simp only [Act.put, List.setIfInBounds_toArray, List.set_cons_zero, List.set_cons_succ, i64_w, i32_w]
            rfl
          refine take_ (i := 1) (N := some 17) (v := ?_) (a' := ?_) #[true, true, false, false, false] rfl rfl (by kernel_rfl) (fun _ _ _ h => h) (Or.inl ⟨by rfl, ?_⟩) hHeld ?_ ?_
          rotate_left
          · rintro w' s0
            go_simp
            with_reducible rfl
          rotate_left
          · simp only [Act.put, List.setIfInBounds_toArray, List.set_cons_zero, List.set_cons_succ, i64_w, i32_w]
            rfl
          refine pure_ (i := 3) (N := some 6) (v := ?_) (a' := ?_) #[true, true, false, true, false] rfl rfl (by kernel_rfl) (fun _ _ _ h => h) (Or.inl ⟨by rfl, ?_⟩) ?_ ?_
          rotate_left
          · intro w'
            go_simp
            with_reducible rfl
          rotate_left
          · simp only [Act.put, List.setIfInBounds_toArray, List.set_cons_zero, List.set_cons_succ, i64_w, i32_w]
            rfl
          refine one_ (i := 2) (N := some 18) #[true, true, true, true, false] rfl rfl (by kernel_rfl) (by decide) (fun K hK => ?_)
          refine Kd.R_lit_step (Kd.int .i64) _ 3 ?hw (N := 18) ?hd (xs := ([(rd_T28 l (i : Int)).f0] : List Int)) (inner := [.int .i64 (rd_T28 l (i : Int)).f0]) (ok := fun _ => True) (okp := fun _ => True) ?hr ?hp (fun _ hk => hk) trivial (Below.refl _ _) (Nat.le_refl _) (by simp) ?_
          case hw => rfl
          case hd => rfl
          case hr => first | (go_simp; done) | (go_simp; rfl)
          case hp => exact (Reps.one (show Kd.M (Kd.int .i64) _ _ _ _ [.int .i64 (rd_T28 l (i : Int)).f0] from rfl) (Reps.none _ _))
          intro v18 w18 ho hb hgr hnew
          obtain ⟨nu18, hnu18⟩ : ∃ n : List Int, n = [(rd_T28 l (i : Int)).f0] := ⟨_, rfl⟩
          rw [← hnu18] at ho
          have HN18 := Aside0.mk hnu18
          clear hnu18
          obtain ⟨A18, c18, e18⟩ := Kd.R_slice ho
          subst e18
          have HO18 := Aside0.mk ho
          have BS18 := Aside0.mk (below_step BSd.out hb)
          have HX18 := Aside0.mk (blk_below HXd.out hb)
          clear ho hb hgr hnew BSd HXd hHeld
          refine hK.out _ _ ((blk_cell HX18.out 0).trans rfl) (fun hHeld => ?_)
          clear hK K
          refine norm_ (a' := ?_) ?_ ?_
          rotate_left
          · show Act.put _ (some 18) _ = _
            simp only [Act.put, List.setIfInBounds_toArray, List.set_cons_zero, List.set_cons_succ, i64_w, i32_w]
            rfl
          refine pure_ (i := 4) (N := some 7) (v := ?_) (a' := ?_) #[true, true, true, true, true] rfl rfl (by kernel_rfl) (fun _ _ _ h => h) (Or.inl ⟨by rfl, ?_⟩) ?_ ?_
          rotate_left
          · intro w'
            go_simp
            with_reducible rfl
          rotate_left
          · simp only [Act.put, List.setIfInBounds_toArray, List.set_cons_zero, List.set_cons_succ, i64_w, i32_w]
            rfl
          refine done_ (by kernel_rfl) ?_
          have hs18_0 : w18.cell? ⟨gs, 0, none⟩ = some (.int .i64 (rd_T28 l (i : Int)).f0) := (blk_cell HX18.out 0).trans rfl
          have hs18_1 : w18.cell? ⟨gs, 1, none⟩ = some (.int .i64 (rd_T28 l (i : Int)).f1) := (blk_cell HX18.out 1).trans rfl
          have hs18_2 : w18.cell? ⟨gs, 2, none⟩ = some (.slice A2 (rd_T28 l (i : Int)).f2.length c2) := (blk_cell HX18.out 2).trans rfl
          have hs18_3 : w18.cell? ⟨gs, 3, none⟩ = some (.int .i64 (rd_T28 l (i : Int)).f3) := (blk_cell HX18.out 3).trans rfl
          have hs18_4 : w18.cell? ⟨gs, 4, none⟩ = some (.int .i64 (rd_T28 l (i : Int)).f4) := (blk_cell HX18.out 4).trans rfl
          have hs18_5 : w18.cell? ⟨gs, 5, none⟩ = some (.int .i64 (rd_T28 l (i : Int)).f5) := (blk_cell HX18.out 5).trans rfl
          go_wp2
          have HXd := Aside0.mk (blk_drew HX18.out)
          have BSd := Aside0.mk (below_drew1 BS18.out)
          refine start_ (n := 9) (S := fun w' => w'.cell? ⟨gs, 3, none⟩ = some (.int .i64 (rd_T28 l (i : Int)).f3) ∧ w'.cell? ⟨gs, 4, none⟩ = some (.int .i64 (rd_T28 l (i : Int)).f4) ∧ w'.cell? ⟨gs, 5, none⟩ = some (.int .i64 (rd_T28 l (i : Int)).f5)) (ds := []) #[false, false, false, false, false, false, false, false, false] (by kernel_rfl) rfl rfl ⟨(blk_cell HXd.out 3).trans rfl, (blk_cell HXd.out 4).trans rfl, (blk_cell HXd.out 5).trans rfl⟩ (fun hHeld => ?_)
          generalize w18.drew = w19 at HXd BSd hHeld ⊢
          refine pure_ (i := 0) (N := some 32) (v := ?_) (a' := ?_) #[true, false, false, false, false, false, false, false, false] rfl rfl (by kernel_rfl) (fun _ _ _ h => h) (Or.inl ⟨by rfl, ?_⟩) ?_ ?_
          rotate_left
          · intro w'
            go_simp
            with_reducible rfl
          rotate_left
          · simp only [Act.put, List.setIfInBounds_toArray, List.set_cons_zero, List.set_cons_succ, i64_w, i32_w]
            rfl
          refine take_ (i := 1) (N := some 33) (v := ?_) (a' := ?_) #[true, true, false, false, false, false, false, false, false] rfl rfl (by kernel_rfl) (fun _ _ _ h => h) (Or.inl ⟨by rfl, ?_⟩) hHeld ?_ ?_
          rotate_left
          · rintro w' ⟨s0, s1, s2⟩
            go_simp
            with_reducible rfl
          rotate_left
          · simp only [Act.put, List.setIfInBounds_toArray, List.set_cons_zero, List.set_cons_succ, i64_w, i32_w]
            rfl
          refine pure_ (i := 2) (N := some 34) (v := ?_) (a' := ?_) #[true, true, true, false, false, false, false, false, false] rfl rfl (by kernel_rfl) (fun _ _ _ h => h) (Or.inl ⟨by rfl, ?_⟩) ?_ ?_
          rotate_left
          · intro w'
            go_simp
            with_reducible rfl
          rotate_left
          · simp only [Act.put, List.setIfInBounds_toArray, List.set_cons_zero, List.set_cons_succ, i64_w, i32_w]
            rfl
          refine take_ (i := 3) (N := some 35) (v := ?_) (a' := ?_) #[true, true, true, true, false, false, false, false, false] rfl rfl (by kernel_rfl) (fun _ _ _ h => h) (Or.inl ⟨by rfl, ?_⟩) hHeld ?_ ?_
          rotate_left
          · rintro w' ⟨s0, s1, s2⟩
            go_simp
            with_reducible rfl
          rotate_left
          · simp only [Act.put, List.setIfInBounds_toArray, List.set_cons_zero, List.set_cons_succ, i64_w, i32_w]
            rfl
          refine pure_ (i := 4) (N := some 36) (v := ?_) (a' := ?_) #[true, true, true, true, true, false, false, false, false] rfl rfl (by kernel_rfl) (fun _ _ _ h => h) (Or.inl ⟨by rfl, ?_⟩) ?_ ?_
          rotate_left
          · intro w'
            go_simp
            with_reducible rfl
          rotate_left
          · simp only [Act.put, List.setIfInBounds_toArray, List.set_cons_zero, List.set_cons_succ, i64_w, i32_w]
            rfl
          refine take_ (i := 5) (N := some 37) (v := ?_) (a' := ?_) #[true, true, true, true, true, true, false, false, false] rfl rfl (by kernel_rfl) (fun _ _ _ h => h) (Or.inl ⟨by rfl, ?_⟩) hHeld ?_ ?_
          rotate_left
          · rintro w' ⟨s0, s1, s2⟩
            go_simp
            with_reducible rfl
          rotate_left
          · simp only [Act.put, List.setIfInBounds_toArray, List.set_cons_zero, List.set_cons_succ, i64_w, i32_w]
            rfl
          refine pure_ (i := 7) (N := some 6) (v := ?_) (a' := ?_) #[true, true, true, true, true, true, false, true, false] rfl rfl (by kernel_rfl) (fun _ _ _ h => h) (Or.inl ⟨by rfl, ?_⟩) ?_ ?_
          rotate_left
          · intro w'
            go_simp
            with_reducible rfl
          rotate_left
          · simp only [Act.put, List.setIfInBounds_toArray, List.set_cons_zero, List.set_cons_succ, i64_w, i32_w]
            rfl
          refine one_ (i := 6) (N := some 38) #[true, true, true, true, true, true, true, true, false] rfl rfl (by kernel_rfl) (by decide) (fun K hK => ?_)
          refine Kd.R_lit_step (Kd.int .i64) _ 3 ?hw (N := 38) ?hd (xs := ([(rd_T28 l (i : Int)).f3, (rd_T28 l (i : Int)).f4, (rd_T28 l (i : Int)).f5] : List Int)) (inner := [.int .i64 (rd_T28 l (i : Int)).f3, .int .i64 (rd_T28 l (i : Int)).f4, .int .i64 (rd_T28 l (i : Int)).f5]) (ok := fun _ => True) (okp := fun _ => True) ?hr ?hp (fun _ hk => hk) trivial (Below.refl _ _) (Nat.le_refl _) (by simp) ?_
          case hw => rfl
          case hd => rfl
          case hr => first | (go_simp; done) | (go_simp; rfl)
          case hp => exact (Reps.one (show Kd.M (Kd.int .i64) _ _ _ _ [.int .i64 (rd_T28 l (i : Int)).f3] from rfl) (Reps.one (show Kd.M (Kd.int .i64) _ _ _ _ [.int .i64 (rd_T28 l (i : Int)).f4] from rfl) (Reps.one (show Kd.M (Kd.int .i64) _ _ _ _ [.int .i64 (rd_T28 l (i : Int)).f5] from rfl) (Reps.none _ _))))
          intro v38 w38 ho hb hgr hnew
          obtain ⟨nu38, hnu38⟩ : ∃ n : List Int, n = [(rd_T28 l (i : Int)).f3, (rd_T28 l (i : Int)).f4, (rd_T28 l (i : Int)).f5] := ⟨_, rfl⟩
          rw [← hnu38] at ho
          have HN38 := Aside0.mk hnu38
          clear hnu38
          obtain ⟨A38, c38, e38⟩ := Kd.R_slice ho
          subst e38
          have HO38 := Aside0.mk ho
          have BS38 := Aside0.mk (below_step BSd.out hb)
          have HX38 := Aside0.mk (blk_below HXd.out hb)
          clear ho hb hgr hnew BSd HXd hHeld
          refine hK.out _ _ ⟨(blk_cell HX38.out 3).trans rfl, (blk_cell HX38.out 4).trans rfl, (blk_cell HX38.out 5).trans rfl⟩ (fun hHeld => ?_)
          clear hK K
          refine norm_ (a' := ?_) ?_ ?_
          rotate_left
          · show Act.put _ (some 38) _ = _
            simp only [Act.put, List.setIfInBounds_toArray, List.set_cons_zero, List.set_cons_succ, i64_w, i32_w]
            rfl
          refine pure_ (i := 8) (N := some 7) (v := ?_) (a' := ?_) #[true, true, true, true, true, true, true, true, true] rfl rfl (by kernel_rfl) (fun _ _ _ h => h) (Or.inl ⟨by rfl, ?_⟩) ?_ ?_
          rotate_left
          · intro w'
            go_simp
            with_reducible rfl
          rotate_left
          · simp only [Act.put, List.setIfInBounds_toArray, List.set_cons_zero, List.set_cons_succ, i64_w, i32_w]
            rfl
          refine done_ (by kernel_rfl) ?_
          have hs38_0 : w38.cell? ⟨gs, 0, none⟩ = some (.int .i64 (rd_T28 l (i : Int)).f0) := (blk_cell HX38.out 0).trans rfl
          have hs38_1 : w38.cell? ⟨gs, 1, none⟩ = some (.int .i64 (rd_T28 l (i : Int)).f1) := (blk_cell HX38.out 1).trans rfl
          have hs38_2 : w38.cell? ⟨gs, 2, none⟩ = some (.slice A2 (rd_T28 l (i : Int)).f2.length c2) := (blk_cell HX38.out 2).trans rfl
          have hs38_3 : w38.cell? ⟨gs, 3, none⟩ = some (.int .i64 (rd_T28 l (i : Int)).f3) := (blk_cell HX38.out 3).trans rfl
          have hs38_4 : w38.cell? ⟨gs, 4, none⟩ = some (.int .i64 (rd_T28 l (i : Int)).f4) := (blk_cell HX38.out 4).trans rfl
          have hs38_5 : w38.cell? ⟨gs, 5, none⟩ = some (.int .i64 (rd_T28 l (i : Int)).f5) := (blk_cell HX38.out 5).trans rfl
          have HB38 := Aside0.mk (builder_grown HC.out (grown_of_below BS38.out none))
          go_wp2_with (first | (go_at_call 12; refine (Tryd.writeString w.heap.size b (Lib.byteCells ((l.take i).flatMap stepB)) ⟨wdR.toArray⟩ w38 HB38.out HLc.out (below_step H2.out BS38.out).size).mono ?_; rintro e w7 ⟨rfl, h1, h2, h3⟩; have HCw : Aside0 (Lib.IsBuilderF 44 5 w.heap.size b (Lib.byteCells (((l.take i).flatMap stepB) ++ (wdR ++ (nu38.take 0).flatMap numB))) w7) := ⟨by rw [List.take_zero, List.flatMap_nil, List.append_nil, Lib.byteCells_append]; exact .inr h1⟩; have H2w := Aside0.mk ((below_step H2.out BS38.out).trans h2); have H3w := Aside0.mk h3; clear h1 h2 h3))
          rw [← HN38.out] at HL HF
          have HRr : Aside0 (∀ w', Below w.heap.size w w' → Lib.OthersKept 5 (some b) w38 w' → Kd.C (Kd.int .i64) w' A38 nu38.length nu38) := ⟨fun w' _ hO => (Kd.R_reads' (R_kept HO38.out HB38.out hO)).2.2⟩
          go_loopg [43] nu38.length (fun kq v43 w' => ∃ j : Nat, v43 = .int .i64 (j : Int) ∧ Aside0 (j + kq = nu38.length) ∧ Aside0 (Lib.IsBuilderF 44 5 w.heap.size b (Lib.byteCells (((l.take i).flatMap stepB) ++ (wdR ++ (nu38.take j).flatMap numB))) w') ∧ Aside0 (Below w.heap.size w w') ∧ Aside0 (Lib.OthersKept 5 (some b) w38 w'))
          case atStart => exact ⟨0, by first | rfl | simp, ⟨Nat.zero_add _⟩, HCw, H2w, H3w⟩
          case round =>
            clear HCw H2w H3w
            obtain ⟨j, rfl, HJ, HCj, H2j, H3j⟩ := hrel
            by_cases cj : (j : Int) < (nu38.length : Int)
            · have cj1 : decide ((j : Int) < (nu38.length : Int)) = true := decide_eq_true cj
              have hj : j < nu38.length := by omega
              cases gk with
              | zero => exact absurd HJ.out (by omega)
              | succ k2 =>
              obtain ⟨ad, e, hx⟩ := Kd.at_int (HRr.out wr H2j.out H3j.out) (j : Int) (Int.natCast_nonneg j) cj
              cases e
              rw [Int.toNat_natCast] at hx
              have pj1 := eq_true (Int.natCast_nonneg j)
              have pj2 := eq_true cj
              have hIt := Tryd.itoa (rd nu38 (j : Int)) (fitI_get HF.out j hj).1 (fitI_get HF.out j hj).2
              have hlen := part_len (j + 1) HL.out
              rw [take_next j hj, ← List.append_assoc wdR, ← List.append_assoc ((l.take i).flatMap stepB), List.length_append (bs := numB (rd nu38 (j : Int)))] at hlen
              have hsz : (⟨#[32]⟩ ++ ⟨(Lib.itoa (rd nu38 (j : Int))).toArray⟩ : ByteArray) = ⟨(numB (rd nu38 (j : Int))).toArray⟩ := by
                unfold numB
                apply ByteArray.ext
                rw [ByteArray.data_append]
                simp
              have hs1 : ((⟨#[32]⟩ ++ ⟨(Lib.itoa (rd nu38 (j : Int))).toArray⟩ : ByteArray)).size = (numB (rd nu38 (j : Int))).length := by rw [hsz]; rfl
              have hs2 : (9223372036854775807 < ((⟨#[32]⟩ ++ ⟨(Lib.itoa (rd nu38 (j : Int))).toArray⟩ : ByteArray)).size) = False := eq_false (by rw [hs1]; omega)
              have hs3 : (9223372036854775807 < 1 + (Lib.itoa (rd nu38 (j : Int))).length) = False := eq_false (by
                have h := hs1
                rw [ByteArray.size_append] at h
                have h9 : (⟨(Lib.itoa (rd nu38 (j : Int))).toArray⟩ : ByteArray).size = (Lib.itoa (rd nu38 (j : Int))).length := rfl
                have h8 : (⟨#[32]⟩ : ByteArray).size = 1 := rfl
                omega)
              have hWs := fun (W : World) (hB : Lib.IsBuilderF 44 5 w.heap.size b (Lib.byteCells (((l.take i).flatMap stepB) ++ (wdR ++ (nu38.take j).flatMap numB))) W) (hb : w.heap.size ≤ W.heap.size) => Tryd.writeString w.heap.size b _ (⟨#[32]⟩ ++ ⟨(Lib.itoa (rd nu38 (j : Int))).toArray⟩) W hB (by rw [hs1, Lib.byteCells_length]; omega) hb
              have HXj := Aside0.mk hx
              have HL2 := Aside0.mk hlen
              have HSj := Aside0.mk hsz
              clear hlen hsz
              go_wp2_with (first | (go_at_call 13; refine (hIt _ (GW.below HG.out H2j.out)).mono ?_; rintro e w8 ⟨rfl, k8, os8, rfl⟩; have HG8 := Aside0.mk (grown_grow wr k8 os8)) | (go_at_call 12; refine (hWs _ (builder_grown HCj.out HG8.out) (Nat.le_trans H2j.out.size HG8.out.size)).mono ?_; rintro e w9 ⟨rfl, h1, h2, h3⟩))
              go_roundg k2
              case measure => omega
              case rel =>
                refine ⟨j + 1, ?_, ⟨by have := HJ.out; omega⟩, ⟨?_⟩, ⟨?_⟩, ⟨?_⟩⟩
                · have hh := HJ.out
                  have hL := HL2.out
                  have hk : nu38.length ≤ 140737488355328 := Nat.le_trans (Nat.le_trans (flat_len nu38) (by unfold lineB; simp only [List.length_append]; omega)) HL.out
                  have : wrap64 ((j : Int) + 1) = ((j + 1 : Nat) : Int) := by
                    unfold wrap64
                    omega
                  rw [this]
                · have e1 : ((l.take i).flatMap stepB) ++ (wdR ++ (nu38.take (j + 1)).flatMap numB) = (((l.take i).flatMap stepB) ++ (wdR ++ (nu38.take j).flatMap numB)) ++ numB (rd nu38 (j : Int)) := by
                    rw [take_next j hj]
                    simp only [List.append_assoc]
                  rw [e1, Lib.byteCells_append]
                  rw [HSj.out] at h1
                  exact .inr h1
                · exact (H2j.out.trans (Below.grown (Below.refl _ _) HG8.out H2j.out.size (fun k hk => by cases hk))).trans h2
                · exact (others_grown H3j.out HG8.out).trans h3
            · have cj1 : decide ((j : Int) < (nu38.length : Int)) = false := decide_eq_false cj
              have hj : j = nu38.length := by have := HJ.out; omega
              have hlen : (Lib.byteCells (((l.take i).flatMap stepB) ++ (wdR ++ (nu38.take j).flatMap numB))).length + (⟨#[10]⟩ : ByteArray).size ≤ 140737488355328 := by
                rw [Lib.byteCells_length]
                exact part_len j HL.out
              have hWs := Tryd.writeString w.heap.size b _ ⟨#[10]⟩ wr HCj.out hlen H2j.out.size
              clear hlen
              go_wp2_with (go_at_call 12; refine hWs.mono ?_; rintro e w9 ⟨rfl, h1, h2, h3⟩)
              go_roundg k1
              case measure => omega
              case rel =>
                refine ⟨i + 1, ?_, ⟨by have := HI.out; omega⟩, ⟨?_⟩, ⟨H2j.out.trans h2⟩⟩
                · have hk := steps_len l K3.out
                  have : wrap64 ((i : Int) + 1) = ((i + 1 : Nat) : Int) := by
                    unfold wrap64
                    omega
                  rw [this]
                · subst hj
                  rw [List.take_length] at h1
                  have e1 : (l.take (i + 1)).flatMap stepB = (((l.take i).flatMap stepB) ++ (wdR ++ nu38.flatMap numB)) ++ [10] := by
                    rw [steps_next l i hi]
                    unfold stepB
                    rw [show stepW (rd_T28 l (i : Int)) = wdR by unfold stepW; rw [if_neg D1.out, if_neg D2.out, if_pos D3.out], show stepN (rd_T28 l (i : Int)) = nu38 by rw [HN38.out]; unfold stepN; rw [if_neg D1.out, if_neg D2.out, if_pos D3.out]]
                    unfold lineB
                    simp only [List.append_assoc]
                  rw [e1, Lib.byteCells_append]
                  exact .inr h1
        have d3b0 : ((rd_T28 l (i : Int)).f0 == 3) = false := beq_eq_false_iff_ne.2 d3
        have D3 := Aside0.mk d3
        clear d3
        have HL : Aside0 ((((l.take i).flatMap stepB) ++ lineB wdS [(rd_T28 l (i : Int)).f0]).length ≤ 140737488355328) := ⟨by have h := steps_pre l i hi K3.out; unfold stepB at h; rw [show stepW (rd_T28 l (i : Int)) = wdS by unfold stepW; rw [if_neg D1.out, if_neg D2.out, if_neg D3.out], show stepN (rd_T28 l (i : Int)) = [(rd_T28 l (i : Int)).f0] by unfold stepN; rw [if_neg D1.out, if_neg D2.out, if_neg D3.out]] at h; exact h⟩
        have HLc : Aside0 ((Lib.byteCells ((l.take i).flatMap stepB)).length + (⟨wdS.toArray⟩ : ByteArray).size ≤ 140737488355328) := ⟨pre_len ((l.take i).flatMap stepB) wdS _ _ 0 HL.out⟩
        have HF : Aside0 (fitI [(rd_T28 l (i : Int)).f0] = true) := ⟨by have h := List.all_eq_true.1 K1.out _ (rd28_mem i hi); rw [show stepN (rd_T28 l (i : Int)) = [(rd_T28 l (i : Int)).f0] by unfold stepN; rw [if_neg D1.out, if_neg D2.out, if_neg D3.out]] at h; exact h⟩
        go_wp2_with (first | ((with_reducible refine gate_dst (N := 5) rfl ?_); refine box_ev (N := 5) rfl (cs := #[.int .i64 0, .int .i64 0, .slice none 0 0, .int .i64 0, .int .i64 0, .int .i64 0]) (t := 28) ?_; intro gs hg w5z hboxz hbz; have HGz := Aside0.mk (And.intro hg (And.intro hboxz hbz)); clear hg hboxz hbz) | ((with_reducible refine gate_store (t := 28) (p := 5) (v := _) rfl ?_); have hg := HGz.out.1; refine store_box rfl rfl rfl hg HGz.out.2.1 HGz.out.2.2 rfl (cs := #[.int .i64 (rd_T28 l (i : Int)).f0, .int .i64 (rd_T28 l (i : Int)).f1, .slice A2 (rd_T28 l (i : Int)).f2.length c2, .int .i64 (rd_T28 l (i : Int)).f3, .int .i64 (rd_T28 l (i : Int)).f4, .int .i64 (rd_T28 l (i : Int)).f5]) ?hx (by kernel_rfl) rfl rfl ?_; (case hx => first | rfl | (go_simp; rfl)); intro w5 hbox hb; clear HGz hg; have HX5 := Aside0.mk hbox; have BS5 := Aside0.mk hb; clear hbox hb))
        have HXd := Aside0.mk (blk_drew HX5.out)
        have BSd := Aside0.mk (below_drew1 BS5.out)
        refine start_ (n := 5) (S := fun w' => w'.cell? ⟨gs, 0, none⟩ = some (.int .i64 (rd_T28 l (i : Int)).f0)) (ds := []) #[false, false, false, false, false] (by kernel_rfl) rfl rfl ((blk_cell HXd.out 0).trans rfl) (fun hHeld => ?_)
        generalize w5.drew = w6 at HXd BSd hHeld ⊢
        refine pure_ (i := 0) (N := some 16) (v := ?_) (a' := ?_) #[true, false, false, false, false] rfl rfl (by kernel_rfl) (fun _ _ _ h => h) (Or.inl ⟨by rfl, ?_⟩) ?_ ?_
        rotate_left
        · intro w'
          go_simp
          with_reducible rfl
        rotate_left
        · simp only [Act.put, List.setIfInBounds_toArray, List.set_cons_zero, List.set_cons_succ, i64_w, i32_w]
          rfl
        refine take_ (i := 1) (N := some 17) (v := ?_) (a' := ?_) #[true, true, false, false, false] rfl rfl (by kernel_rfl) (fun _ _ _ h => h) (Or.inl ⟨by rfl, ?_⟩) hHeld ?_ ?_
        rotate_left
        · rintro w' s0
          go_simp
          with_reducible rfl
        rotate_left
        · simp only [Act.put, List.setIfInBounds_toArray, List.set_cons_zero, List.set_cons_succ, i64_w, i32_w]
          rfl
        refine pure_ (i := 3) (N := some 6) (v := ?_) (a' := ?_) #[true, true, false, true, false] rfl rfl (by kernel_rfl) (fun _ _ _ h => h) (Or.inl ⟨by rfl, ?_⟩) ?_ ?_
        rotate_left
        · intro w'
          go_simp
          with_reducible rfl
        rotate_left
        · simp only [Act.put, List.setIfInBounds_toArray, List.set_cons_zero, List.set_cons_succ, i64_w, i32_w]
          rfl
        refine one_ (i := 2) (N := some 18) #[true, true, true, true, false] rfl rfl (by kernel_rfl) (by decide) (fun K hK => ?_)
        refine Kd.R_lit_step (Kd.int .i64) _ 3 ?hw (N := 18) ?hd (xs := ([(rd_T28 l (i : Int)).f0] : List Int)) (inner := [.int .i64 (rd_T28 l (i : Int)).f0]) (ok := fun _ => True) (okp := fun _ => True) ?hr ?hp (fun _ hk => hk) trivial (Below.refl _ _) (Nat.le_refl _) (by simp) ?_
        case hw => rfl
        case hd => rfl
        case hr => first | (go_simp; done) | (go_simp; rfl)
        case hp => exact (Reps.one (show Kd.M (Kd.int .i64) _ _ _ _ [.int .i64 (rd_T28 l (i : Int)).f0] from rfl) (Reps.none _ _))
        intro v18 w18 ho hb hgr hnew
        obtain ⟨nu18, hnu18⟩ : ∃ n : List Int, n = [(rd_T28 l (i : Int)).f0] := ⟨_, rfl⟩
        rw [← hnu18] at ho
        have HN18 := Aside0.mk hnu18
        clear hnu18
        obtain ⟨A18, c18, e18⟩ := Kd.R_slice ho
        subst e18
        have HO18 := Aside0.mk ho
        have BS18 := Aside0.mk (below_step BSd.out hb)
        have HX18 := Aside0.mk (blk_below HXd.out hb)
        clear ho hb hgr hnew BSd HXd hHeld
        refine hK.out _ _ ((blk_cell HX18.out 0).trans rfl) (fun hHeld => ?_)
        clear hK K
        refine norm_ (a' := ?_) ?_ ?_
        rotate_left
        · show Act.put _ (some 18) _ = _
          simp only [Act.put, List.setIfInBounds_toArray, List.set_cons_zero, List.set_cons_succ, i64_w, i32_w]
          rfl
        refine pure_ (i := 4) (N := some 7) (v := ?_) (a' := ?_) #[true, true, true, true, true] rfl rfl (by kernel_rfl) (fun _ _ _ h => h) (Or.inl ⟨by rfl, ?_⟩) ?_ ?_
        rotate_left
        · intro w'
          go_simp
          with_reducible rfl
        rotate_left
        · simp only [Act.put, List.setIfInBounds_toArray, List.set_cons_zero, List.set_cons_succ, i64_w, i32_w]
          rfl
        refine done_ (by kernel_rfl) ?_
        have hs18_0 : w18.cell? ⟨gs, 0, none⟩ = some (.int .i64 (rd_T28 l (i : Int)).f0) := (blk_cell HX18.out 0).trans rfl
        have hs18_1 : w18.cell? ⟨gs, 1, none⟩ = some (.int .i64 (rd_T28 l (i : Int)).f1) := (blk_cell HX18.out 1).trans rfl
        have hs18_2 : w18.cell? ⟨gs, 2, none⟩ = some (.slice A2 (rd_T28 l (i : Int)).f2.length c2) := (blk_cell HX18.out 2).trans rfl
        have hs18_3 : w18.cell? ⟨gs, 3, none⟩ = some (.int .i64 (rd_T28 l (i : Int)).f3) := (blk_cell HX18.out 3).trans rfl
        have hs18_4 : w18.cell? ⟨gs, 4, none⟩ = some (.int .i64 (rd_T28 l (i : Int)).f4) := (blk_cell HX18.out 4).trans rfl
        have hs18_5 : w18.cell? ⟨gs, 5, none⟩ = some (.int .i64 (rd_T28 l (i : Int)).f5) := (blk_cell HX18.out 5).trans rfl
        have HB18 := Aside0.mk (builder_grown HC.out (grown_of_below BS18.out none))
        go_wp2_with (first | (go_at_call 12; refine (Tryd.writeString w.heap.size b (Lib.byteCells ((l.take i).flatMap stepB)) ⟨wdS.toArray⟩ w18 HB18.out HLc.out (below_step H2.out BS18.out).size).mono ?_; rintro e w7 ⟨rfl, h1, h2, h3⟩; have HCw : Aside0 (Lib.IsBuilderF 44 5 w.heap.size b (Lib.byteCells (((l.take i).flatMap stepB) ++ (wdS ++ (nu18.take 0).flatMap numB))) w7) := ⟨by rw [List.take_zero, List.flatMap_nil, List.append_nil, Lib.byteCells_append]; exact .inr h1⟩; have H2w := Aside0.mk ((below_step H2.out BS18.out).trans h2); have H3w := Aside0.mk h3; clear h1 h2 h3))
        rw [← HN18.out] at HL HF
        have HRr : Aside0 (∀ w', Below w.heap.size w w' → Lib.OthersKept 5 (some b) w18 w' → Kd.C (Kd.int .i64) w' A18 nu18.length nu18) := ⟨fun w' _ hO => (Kd.R_reads' (R_kept HO18.out HB18.out hO)).2.2⟩
        go_loopg [43] nu18.length (fun kq v43 w' => ∃ j : Nat, v43 = .int .i64 (j : Int) ∧ Aside0 (j + kq = nu18.length) ∧ Aside0 (Lib.IsBuilderF 44 5 w.heap.size b (Lib.byteCells (((l.take i).flatMap stepB) ++ (wdS ++ (nu18.take j).flatMap numB))) w') ∧ Aside0 (Below w.heap.size w w') ∧ Aside0 (Lib.OthersKept 5 (some b) w18 w'))
        case atStart => exact ⟨0, by first | rfl | simp, ⟨Nat.zero_add _⟩, HCw, H2w, H3w⟩
        case round =>
          clear HCw H2w H3w
          obtain ⟨j, rfl, HJ, HCj, H2j, H3j⟩ := hrel
          by_cases cj : (j : Int) < (nu18.length : Int)
          · have cj1 : decide ((j : Int) < (nu18.length : Int)) = true := decide_eq_true cj
            have hj : j < nu18.length := by omega
            cases gk with
            | zero => exact absurd HJ.out (by omega)
            | succ k2 =>
            obtain ⟨ad, e, hx⟩ := Kd.at_int (HRr.out wr H2j.out H3j.out) (j : Int) (Int.natCast_nonneg j) cj
            cases e
            rw [Int.toNat_natCast] at hx
            have pj1 := eq_true (Int.natCast_nonneg j)
            have pj2 := eq_true cj
            have hIt := Tryd.itoa (rd nu18 (j : Int)) (fitI_get HF.out j hj).1 (fitI_get HF.out j hj).2
            have hlen := part_len (j + 1) HL.out
            rw [take_next j hj, ← List.append_assoc wdS, ← List.append_assoc ((l.take i).flatMap stepB), List.length_append (bs := numB (rd nu18 (j : Int)))] at hlen
            have hsz : (⟨#[32]⟩ ++ ⟨(Lib.itoa (rd nu18 (j : Int))).toArray⟩ : ByteArray) = ⟨(numB (rd nu18 (j : Int))).toArray⟩ := by
              unfold numB
              apply ByteArray.ext
              rw [ByteArray.data_append]
              simp
            have hs1 : ((⟨#[32]⟩ ++ ⟨(Lib.itoa (rd nu18 (j : Int))).toArray⟩ : ByteArray)).size = (numB (rd nu18 (j : Int))).length := by rw [hsz]; rfl
            have hs2 : (9223372036854775807 < ((⟨#[32]⟩ ++ ⟨(Lib.itoa (rd nu18 (j : Int))).toArray⟩ : ByteArray)).size) = False := eq_false (by rw [hs1]; omega)
            have hs3 : (9223372036854775807 < 1 + (Lib.itoa (rd nu18 (j : Int))).length) = False := eq_false (by
              have h := hs1
              rw [ByteArray.size_append] at h
              have h9 : (⟨(Lib.itoa (rd nu18 (j : Int))).toArray⟩ : ByteArray).size = (Lib.itoa (rd nu18 (j : Int))).length := rfl
              have h8 : (⟨#[32]⟩ : ByteArray).size = 1 := rfl
              omega)
            have hWs := fun (W : World) (hB : Lib.IsBuilderF 44 5 w.heap.size b (Lib.byteCells (((l.take i).flatMap stepB) ++ (wdS ++ (nu18.take j).flatMap numB))) W) (hb : w.heap.size ≤ W.heap.size) => Tryd.writeString w.heap.size b _ (⟨#[32]⟩ ++ ⟨(Lib.itoa (rd nu18 (j : Int))).toArray⟩) W hB (by rw [hs1, Lib.byteCells_length]; omega) hb
            have HXj := Aside0.mk hx
            have HL2 := Aside0.mk hlen
            have HSj := Aside0.mk hsz
            clear hlen hsz
            go_wp2_with (first | (go_at_call 13; refine (hIt _ (GW.below HG.out H2j.out)).mono ?_; rintro e w8 ⟨rfl, k8, os8, rfl⟩; have HG8 := Aside0.mk (grown_grow wr k8 os8)) | (go_at_call 12; refine (hWs _ (builder_grown HCj.out HG8.out) (Nat.le_trans H2j.out.size HG8.out.size)).mono ?_; rintro e w9 ⟨rfl, h1, h2, h3⟩))
            go_roundg k2
            case measure => omega
            case rel =>
              refine ⟨j + 1, ?_, ⟨by have := HJ.out; omega⟩, ⟨?_⟩, ⟨?_⟩, ⟨?_⟩⟩
              · have hh := HJ.out
                have hL := HL2.out
                have hk : nu18.length ≤ 140737488355328 := Nat.le_trans (Nat.le_trans (flat_len nu18) (by unfold lineB; simp only [List.length_append]; omega)) HL.out
                have : wrap64 ((j : Int) + 1) = ((j + 1 : Nat) : Int) := by
                  unfold wrap64
                  omega
                rw [this]
              · have e1 : ((l.take i).flatMap stepB) ++ (wdS ++ (nu18.take (j + 1)).flatMap numB) = (((l.take i).flatMap stepB) ++ (wdS ++ (nu18.take j).flatMap numB)) ++ numB (rd nu18 (j : Int)) := by
                  rw [take_next j hj]
                  simp only [List.append_assoc]
                rw [e1, Lib.byteCells_append]
                rw [HSj.out] at h1
                exact .inr h1
              · exact (H2j.out.trans (Below.grown (Below.refl _ _) HG8.out H2j.out.size (fun k hk => by cases hk))).trans h2
              · exact (others_grown H3j.out HG8.out).trans h3
          · have cj1 : decide ((j : Int) < (nu18.length : Int)) = false := decide_eq_false cj
            have hj : j = nu18.length := by have := HJ.out; omega
            have hlen : (Lib.byteCells (((l.take i).flatMap stepB) ++ (wdS ++ (nu18.take j).flatMap numB))).length + (⟨#[10]⟩ : ByteArray).size ≤ 140737488355328 := by
              rw [Lib.byteCells_length]
              exact part_len j HL.out
            have hWs := Tryd.writeString w.heap.size b _ ⟨#[10]⟩ wr HCj.out hlen H2j.out.size
            clear hlen
            go_wp2_with (go_at_call 12; refine hWs.mono ?_; rintro e w9 ⟨rfl, h1, h2, h3⟩)
            go_roundg k1
            case measure => omega
            case rel =>
              refine ⟨i + 1, ?_, ⟨by have := HI.out; omega⟩, ⟨?_⟩, ⟨H2j.out.trans h2⟩⟩
              · have hk := steps_len l K3.out
                have : wrap64 ((i : Int) + 1) = ((i + 1 : Nat) : Int) := by
                  unfold wrap64
                  omega
                rw [this]
              · subst hj
                rw [List.take_length] at h1
                have e1 : (l.take (i + 1)).flatMap stepB = (((l.take i).flatMap stepB) ++ (wdS ++ nu18.flatMap numB)) ++ [10] := by
                  rw [steps_next l i hi]
                  unfold stepB
                  rw [show stepW (rd_T28 l (i : Int)) = wdS by unfold stepW; rw [if_neg D1.out, if_neg D2.out, if_neg D3.out], show stepN (rd_T28 l (i : Int)) = nu18 by rw [HN18.out]; unfold stepN; rw [if_neg D1.out, if_neg D2.out, if_neg D3.out]]
                  unfold lineB
                  simp only [List.append_assoc]
                rw [e1, Lib.byteCells_append]
                exact .inr h1
      · have c1 : decide ((i : Int) < (l.length : Int)) = false := decide_eq_false c
        have hi : i = l.length := by have := HI.out; omega
        subst hi
        rw [List.take_length] at HC
        go_wp2_with (go_at_call 14; refine (Tryd.builderString w.heap.size b _ _ HC.out H2.out.size).mono ?_; rintro e w7 ⟨rfl, h1, h2, h3⟩; have HS7 := Aside0.mk (H2.out.trans h2); clear h1 h2 h3)
        go_ret
        exact ⟨rfl, HS7.out⟩
  · rw [if_neg hok] at h
    cases h
end Go.Proofs.YtppbnjmhkifdaaaDoor.X
