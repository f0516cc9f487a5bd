/- formula.Satisfies: walked by hand. -/
import Derived.Test.YtpaoepcebcjfhaaDoorSa1
namespace Go.Proofs.YtpaoepcebcjfhaaDoor.X
open Go Go.RowKit Go.Proofs.YtpaoepcebcjfhaaDoorW.PrintWords Go.Proofs.YtpaoepcebcjfhaaDoorW.PrintLast Go.Proofs.YtpaoepcebcjfhaaDoorW.PrintMore
set_option linter.unusedVariables false
def atomOk (l2 : List S36) (bs : List Bool) (is : List Int) (i : Nat) : Bool := rdOf false bs (i : Int) == decide (wrap64 (valI is (rd_T36 l2 (i : Int)).f0 - valI is (rd_T36 l2 (i : Int)).f1) ≤ (rd_T36 l2 (i : Int)).f2)
def satB (a0 a1 : Int) (l2 : List S36) (l3 : List (List Int)) (bs : List Bool) (is : List Int) : Bool :=
  if (bs.length : Int) ≠ a1 ∨ (is.length : Int) ≠ a0 ∨ (l2.length : Int) > (bs.length : Int) then false
  else (List.range l2.length).all (atomOk l2 bs is) && l3.all fun l => holdsAny l bs
def satOk (l2 : List S36) (l3 : List (List Int)) (bs : List Bool) : Bool :=
  l3.all (fun l => litsOk l && decide (l.length < 4611686018427387904)) && (decide (l2.length < 4611686018427387904) && (decide (l3.length < 4611686018427387904) && decide (bs.length < 140737488355328)))
def formula_Satisfies.f (a0 a1 : Int) (l2 : List S36) (l3 : List (List Int)) (bs : List Bool) (is : List Int) : Option Bool := if satOk l2 l3 bs = true then some (satB a0 a1 l2 l3 bs is) else none
theorem grown_drewN {w w1 : World} (h : w.grownBy w1 none) (n : Nat) : w.grownBy (w1.drewN n) none := ⟨h.os, h.tape, h.output, h.size, h.block⟩
theorem grown_drew {w w1 : World} (h : w.grownBy w1 none) : w.grownBy w1.drew none := ⟨h.os, h.tape, h.output, h.size, h.block⟩
theorem below_of_grown {B : Nat} {w w1 : World} (h : w.grownBy w1 none) (hB : B ≤ w.heap.size) : Below B w w1 := (Below.refl B w).grown h hB (fun k hk => by cases hk)
set_option maxHeartbeats 8000000 in
set_option maxRecDepth 100000 in
theorem formula_Satisfies.calls (a0 a1 : Int) (A2 : Option Addr) (c2 : Nat) (l2 : List S36) (A3 : Option Addr) (c3 : Nat) (l3 : List (List Int)) (M0 : Option Addr) (m0 : Nat) (bs : List Bool) (M1 : Option Addr) (m1 : Nat) (is : List Int) (r : Bool) (w : World)
    (hr2 : Kd.C k36 w A2 l2.length l2) (hc2 : l2.length ≤ c2) (hr3 : Kd.C (Kd.slice 3 (Kd.int .i64)) w A3 l3.length l3) (hc3 : l3.length ≤ c3) (hm0 : Kd.C Kd.bool w M0 bs.length bs) (hn0 : bs.length ≤ m0) (hm1 : Kd.C (Kd.int .i64) w M1 is.length is) (hn1 : is.length ≤ m1) (h : formula_Satisfies.f a0 a1 l2 l3 bs is = some r) :
    Calls Tryd.prog 28 #[.agg #[.int .i64 a0, .int .i64 a1, .slice A2 l2.length c2, .slice A3 l3.length c3], .agg #[.slice M0 bs.length m0, .slice M1 is.length m1]] w fun e w' => e = .returned (.bool r) ∧ Below w.heap.size w w' := by
  unfold formula_Satisfies.f at h
  by_cases hok : satOk l2 l3 bs = true
  · rw [if_pos hok] at h
    obtain rfl := Option.some.inj h
    clear h
    simp only [satOk, Bool.and_eq_true] at hok
    obtain ⟨k0, k1, k2, k3⟩ := hok
    have K0 := Aside0.mk k0
    have K1 := Aside0.mk (of_decide_eq_true k1)
    have K2 := Aside0.mk (of_decide_eq_true k2)
    have K3 := Aside0.mk (of_decide_eq_true k3)
    have HR2 := Aside0.mk hr2
    have HR3 := Aside0.mk hr3
    have HM0 := Aside0.mk hm0
    have HM1 := Aside0.mk hm1
    have HN0 := Aside0.mk hn0
    have HN1 := Aside0.mk hn1
    clear k0 k1 k2 k3 hr2 hr3 hm0 hm1 hn0 hn1 hc2 hc3
    have hu31 := Tryd.underlying31
    have hu36 := Tryd.underlying36
    have hu44 := Tryd.underlying44
    by_cases q : (bs.length : Int) ≠ a1 ∨ (is.length : Int) ≠ a0 ∨ (l2.length : Int) > (bs.length : Int)
    · have hs : satB a0 a1 l2 l3 bs is = false := by
        unfold satB
        rw [if_pos q]
      by_cases e1 : (bs.length : Int) = a1
      · have q1 : ((bs.length : Int) == a1) = true := beq_iff_eq.mpr e1
        have q2 : ((bs.length : Int) != a1) = false := bne_eq_false_iff_eq.mpr e1
        by_cases e2 : (is.length : Int) = a0
        · have q3 : ((is.length : Int) == a0) = true := beq_iff_eq.mpr e2
          have q4 : ((is.length : Int) != a0) = false := bne_eq_false_iff_eq.mpr e2
          have e3 : (bs.length : Int) < (l2.length : Int) := by omega
          have q5 : decide ((bs.length : Int) < (l2.length : Int)) = true := decide_eq_true e3
          have q6 : decide (bs.length < l2.length) = true := decide_eq_true (by omega)
          clear e1 e2 e3 q
          go_enter Tryd.func28, Tryd.ntmps28
          go_wp2_with (first | ((with_reducible refine gate_dst (N := 2) rfl ?_); refine box_event ?hg (N := 2) ?hd (cs := #[.int .i64 a0, .int .i64 a1, .slice A2 l2.length c2, .slice A3 l3.length c3]) (t := 31) ?hr ?_; (case hd => rfl); (case hg => rfl); (case hr => first | (go_simp; done) | (go_simp; rfl)); intro gf hgf w1 hboxf hbf; have BF := Aside0.mk hboxf; have B1 := Aside0.mk hbf; have GF := Aside0.mk (Nat.le_of_eq hgf.symm); clear hgf hboxf hbf) | ((with_reducible refine gate_dst (N := 3) rfl ?_); refine box_event ?hg (N := 3) ?hd (cs := #[.slice M0 bs.length m0, .slice M1 is.length m1]) (t := 44) ?hr ?_; (case hd => rfl); (case hg => rfl); (case hr => first | (go_simp; done) | (go_simp; rfl)); intro gm hgm w2 hboxm hbm; have BM := Aside0.mk hboxm; have B2 := Aside0.mk hbm; have GM := Aside0.mk (Nat.le_of_eq hgm.symm); clear hgm hboxm hbm; have BF2 := Aside0.mk (blk_below BF.out B2.out); have HS := Aside0.mk (below_step B1.out B2.out); have hq0 : w2.cell? ⟨gf, 0, none⟩ = some (.int .i64 a0) := (blk_cell BF2.out 0).trans rfl; have hq1 : w2.cell? ⟨gf, 1, none⟩ = some (.int .i64 a1) := (blk_cell BF2.out 1).trans rfl; have hq2 : w2.cell? ⟨gf, 2, none⟩ = some (.slice A2 l2.length c2) := (blk_cell BF2.out 2).trans rfl; have hm0 : w2.cell? ⟨gm, 0, none⟩ = some (.slice M0 bs.length m0) := (blk_cell BM.out 0).trans rfl; have hm1 : w2.cell? ⟨gm, 1, none⟩ = some (.slice M1 is.length m1) := (blk_cell BM.out 1).trans rfl))
          go_ret
          refine ⟨?_, HS.out⟩
          rw [hs]
          rfl
        · have q3 : ((is.length : Int) == a0) = false := beq_eq_false_iff_ne.mpr e2
          have q4 : ((is.length : Int) != a0) = true := bne_iff_ne.mpr e2
          clear e1 e2 q
          go_enter Tryd.func28, Tryd.ntmps28
          go_wp2_with (first | ((with_reducible refine gate_dst (N := 2) rfl ?_); refine box_event ?hg (N := 2) ?hd (cs := #[.int .i64 a0, .int .i64 a1, .slice A2 l2.length c2, .slice A3 l3.length c3]) (t := 31) ?hr ?_; (case hd => rfl); (case hg => rfl); (case hr => first | (go_simp; done) | (go_simp; rfl)); intro gf hgf w1 hboxf hbf; have BF := Aside0.mk hboxf; have B1 := Aside0.mk hbf; have GF := Aside0.mk (Nat.le_of_eq hgf.symm); clear hgf hboxf hbf) | ((with_reducible refine gate_dst (N := 3) rfl ?_); refine box_event ?hg (N := 3) ?hd (cs := #[.slice M0 bs.length m0, .slice M1 is.length m1]) (t := 44) ?hr ?_; (case hd => rfl); (case hg => rfl); (case hr => first | (go_simp; done) | (go_simp; rfl)); intro gm hgm w2 hboxm hbm; have BM := Aside0.mk hboxm; have B2 := Aside0.mk hbm; have GM := Aside0.mk (Nat.le_of_eq hgm.symm); clear hgm hboxm hbm; have BF2 := Aside0.mk (blk_below BF.out B2.out); have HS := Aside0.mk (below_step B1.out B2.out); have hq0 : w2.cell? ⟨gf, 0, none⟩ = some (.int .i64 a0) := (blk_cell BF2.out 0).trans rfl; have hq1 : w2.cell? ⟨gf, 1, none⟩ = some (.int .i64 a1) := (blk_cell BF2.out 1).trans rfl; have hq2 : w2.cell? ⟨gf, 2, none⟩ = some (.slice A2 l2.length c2) := (blk_cell BF2.out 2).trans rfl; have hm0 : w2.cell? ⟨gm, 0, none⟩ = some (.slice M0 bs.length m0) := (blk_cell BM.out 0).trans rfl; have hm1 : w2.cell? ⟨gm, 1, none⟩ = some (.slice M1 is.length m1) := (blk_cell BM.out 1).trans rfl))
          go_ret
          refine ⟨?_, HS.out⟩
          rw [hs]
          rfl
      · have q1 : ((bs.length : Int) == a1) = false := beq_eq_false_iff_ne.mpr e1
        have q2 : ((bs.length : Int) != a1) = true := bne_iff_ne.mpr e1
        clear e1 q
        go_enter Tryd.func28, Tryd.ntmps28
        go_wp2_with (first | ((with_reducible refine gate_dst (N := 2) rfl ?_); refine box_event ?hg (N := 2) ?hd (cs := #[.int .i64 a0, .int .i64 a1, .slice A2 l2.length c2, .slice A3 l3.length c3]) (t := 31) ?hr ?_; (case hd => rfl); (case hg => rfl); (case hr => first | (go_simp; done) | (go_simp; rfl)); intro gf hgf w1 hboxf hbf; have BF := Aside0.mk hboxf; have B1 := Aside0.mk hbf; have GF := Aside0.mk (Nat.le_of_eq hgf.symm); clear hgf hboxf hbf) | ((with_reducible refine gate_dst (N := 3) rfl ?_); refine box_event ?hg (N := 3) ?hd (cs := #[.slice M0 bs.length m0, .slice M1 is.length m1]) (t := 44) ?hr ?_; (case hd => rfl); (case hg => rfl); (case hr => first | (go_simp; done) | (go_simp; rfl)); intro gm hgm w2 hboxm hbm; have BM := Aside0.mk hboxm; have B2 := Aside0.mk hbm; have GM := Aside0.mk (Nat.le_of_eq hgm.symm); clear hgm hboxm hbm; have BF2 := Aside0.mk (blk_below BF.out B2.out); have HS := Aside0.mk (below_step B1.out B2.out); have hq0 : w2.cell? ⟨gf, 0, none⟩ = some (.int .i64 a0) := (blk_cell BF2.out 0).trans rfl; have hq1 : w2.cell? ⟨gf, 1, none⟩ = some (.int .i64 a1) := (blk_cell BF2.out 1).trans rfl; have hq2 : w2.cell? ⟨gf, 2, none⟩ = some (.slice A2 l2.length c2) := (blk_cell BF2.out 2).trans rfl; have hm0 : w2.cell? ⟨gm, 0, none⟩ = some (.slice M0 bs.length m0) := (blk_cell BM.out 0).trans rfl; have hm1 : w2.cell? ⟨gm, 1, none⟩ = some (.slice M1 is.length m1) := (blk_cell BM.out 1).trans rfl))
        go_ret
        refine ⟨?_, HS.out⟩
        rw [hs]
        rfl
    · have e1 : (bs.length : Int) = a1 := by omega
      have e2 : (is.length : Int) = a0 := by omega
      have e3 : ¬ (bs.length : Int) < (l2.length : Int) := by omega
      have q1 : ((bs.length : Int) == a1) = true := beq_iff_eq.mpr e1
      have q2 : ((bs.length : Int) != a1) = false := bne_eq_false_iff_eq.mpr e1
      have q3 : ((is.length : Int) == a0) = true := beq_iff_eq.mpr e2
      have q4 : ((is.length : Int) != a0) = false := bne_eq_false_iff_eq.mpr e2
      have q5 : decide ((bs.length : Int) < (l2.length : Int)) = false := decide_eq_false e3
      have q6 : decide (bs.length < l2.length) = false := decide_eq_false (by omega)
      have E3 := Aside0.mk e3
      have Q := Aside0.mk q
      clear e1 e2 e3 q
      go_enter Tryd.func28, Tryd.ntmps28
      go_wp2_with (first | ((with_reducible refine gate_dst (N := 2) rfl ?_); refine box_event ?hg (N := 2) ?hd (cs := #[.int .i64 a0, .int .i64 a1, .slice A2 l2.length c2, .slice A3 l3.length c3]) (t := 31) ?hr ?_; (case hd => rfl); (case hg => rfl); (case hr => first | (go_simp; done) | (go_simp; rfl)); intro gf hgf w1 hboxf hbf; have BF := Aside0.mk hboxf; have B1 := Aside0.mk hbf; have GF := Aside0.mk (Nat.le_of_eq hgf.symm); clear hgf hboxf hbf) | ((with_reducible refine gate_dst (N := 3) rfl ?_); refine box_event ?hg (N := 3) ?hd (cs := #[.slice M0 bs.length m0, .slice M1 is.length m1]) (t := 44) ?hr ?_; (case hd => rfl); (case hg => rfl); (case hr => first | (go_simp; done) | (go_simp; rfl)); intro gm hgm w2 hboxm hbm; have BM := Aside0.mk hboxm; have B2 := Aside0.mk hbm; have GM := Aside0.mk (Nat.le_of_eq hgm.symm); clear hgm hboxm hbm; have BF2 := Aside0.mk (blk_below BF.out B2.out); have HS := Aside0.mk (below_step B1.out B2.out); have hq0 : w2.cell? ⟨gf, 0, none⟩ = some (.int .i64 a0) := (blk_cell BF2.out 0).trans rfl; have hq1 : w2.cell? ⟨gf, 1, none⟩ = some (.int .i64 a1) := (blk_cell BF2.out 1).trans rfl; have hq2 : w2.cell? ⟨gf, 2, none⟩ = some (.slice A2 l2.length c2) := (blk_cell BF2.out 2).trans rfl; have hm0 : w2.cell? ⟨gm, 0, none⟩ = some (.slice M0 bs.length m0) := (blk_cell BM.out 0).trans rfl; have hm1 : w2.cell? ⟨gm, 1, none⟩ = some (.slice M1 is.length m1) := (blk_cell BM.out 1).trans rfl))
      go_loopg [6, 7, 37] l2.length (fun kq v6 v7 v37 w' => ∃ i : Nat, v37 = .int .i64 (i : Int) ∧ Aside0 (i + kq = l2.length) ∧ Aside0 (∀ j, j < i → atomOk l2 bs is j = true) ∧ Aside0 (w2.grownBy w' none))
      case atStart => exact ⟨0, by first | rfl | simp, ⟨Nat.zero_add _⟩, ⟨fun j hj => absurd hj (by omega)⟩, ⟨⟨rfl, rfl, rfl, Nat.le_refl _, fun _ _ _ => rfl⟩⟩⟩
      case round =>
        clear hq0 hq1 hq2 hm0 hm1 q1 q2 q3 q4 q5 q6
        obtain ⟨i, rfl, HI, HP, G⟩ := hrel
        have HSr := Aside0.mk (HS.out.trans (below_of_grown G.out HS.out.size))
        have BMr := Aside0.mk (blk_grown BM.out G.out (by simp))
        have BFr := Aside0.mk (blk_grown BF2.out G.out (by simp))
        by_cases c : (i : Int) < (l2.length : Int)
        · have c1 : decide ((i : Int) < (l2.length : Int)) = true := decide_eq_true c
          have hi : i < l2.length := by omega
          have hib : (i : Int) < (bs.length : Int) := by have := E3.out; omega
          cases gk with
          | zero => exact absurd HI.out (by omega)
          | succ k1 =>
          obtain ⟨ad, e, hx0, hx1, hx2⟩ := at_T36 (Kd.C_below HR2.out HSr.out) (i : Int) (Int.natCast_nonneg i) c
          cases e
          rw [Int.toNat_natCast] at hx0 hx1 hx2
          obtain ⟨bd, e, hxb⟩ := Kd.at_bool (Kd.C_below HM0.out HSr.out) (i : Int) (Int.natCast_nonneg i) hib
          cases e
          rw [Int.toNat_natCast] at hxb
          have hm0 := (blk_cell BMr.out 0).trans rfl
          have p1 := eq_true (Int.natCast_nonneg i)
          have p2 := eq_true c
          have p3 := eq_true hib
          have hv : ∀ (x : Int) (W : World), wr.grownBy W none → Calls Tryd.prog 39 #[.int .i64 x, .pointer (some ⟨gm, 0, none⟩)] W fun e w' => e = .returned (.int .i64 (valI is x)) ∧ Drawn0 W w' := fun x W hW => value_calls gm _ m0 bs.length M1 m1 is x W (blk_grown BMr.out hW (by simp)) (Kd.C_below HM1.out (HSr.out.trans (below_of_grown hW HSr.out.size)))
          go_wp2_with (first | ((with_reducible refine gate_dst (N := 7) rfl ?_); refine box_event ?hg (N := 7) ?hd (cs := #[.int .i64 0, .int .i64 0, .int .i64 0]) (t := 36) ?hr ?_; (case hd => rfl); (case hg => rfl); (case hr => first | (go_simp; done) | (go_simp; rfl)); intro gd hgd w5 hbox hb; have G5 := Aside0.mk (grown_of_below hb none); have GD := Aside0.mk (Nat.le_of_eq hgd.symm); have hc0 : w5.cell? ⟨gd, 0, none⟩ = some (.int .i64 0) := (blk_cell hbox 0).trans rfl; have hc1 : w5.cell? ⟨gd, 1, none⟩ = some (.int .i64 0) := (blk_cell hbox 1).trans rfl; have hc2 : w5.cell? ⟨gd, 2, none⟩ = some (.int .i64 0) := (blk_cell hbox 2).trans rfl; have hf0 := blk_frozen hbox 0; have hf1 := blk_frozen hbox 1; have hf2 := blk_frozen hbox 2; have BD := Aside0.mk hbox; clear hgd hbox hb))
          obtain ⟨wd, hwd⟩ : ∃ wd, wd = ((w5.setCell ⟨gd, 0, none⟩ (.int .i64 (rd_T36 l2 (i : Int)).f0)).setCell ⟨gd, 1, none⟩ (.int .i64 (rd_T36 l2 (i : Int)).f1)).setCell ⟨gd, 2, none⟩ (.int .i64 (rd_T36 l2 (i : Int)).f2) := ⟨_, rfl⟩
          rw [← hwd]
          have GW := Aside0.mk (show wr.grownBy wd none from by rw [hwd]; exact grown_set (grown_set (grown_set G5.out GD.out _) GD.out _) GD.out _)
          have hbd : wd.heap[gd]? = some (.cells #[.int .i64 (rd_T36 l2 (i : Int)).f0, .int .i64 (rd_T36 l2 (i : Int)).f1, .int .i64 (rd_T36 l2 (i : Int)).f2] 36 (0, 0)) := by
            rw [hwd]
            have := blk_set (blk_set (blk_set BD.out 0 (.int .i64 (rd_T36 l2 (i : Int)).f0)) 1 (.int .i64 (rd_T36 l2 (i : Int)).f1)) 2 (.int .i64 (rd_T36 l2 (i : Int)).f2)
            simpa using this
          clear hwd hc0 hc1 hc2 hf0 hf1 hf2 BD hm0
          have hd0 : wd.cell? ⟨gd, 0, none⟩ = some (.int .i64 (rd_T36 l2 (i : Int)).f0) := (blk_cell hbd 0).trans rfl
          have hd1 : wd.cell? ⟨gd, 1, none⟩ = some (.int .i64 (rd_T36 l2 (i : Int)).f1) := (blk_cell hbd 1).trans rfl
          have hd2 : wd.cell? ⟨gd, 2, none⟩ = some (.int .i64 (rd_T36 l2 (i : Int)).f2) := (blk_cell hbd 2).trans rfl
          have hm0 : wd.cell? ⟨gm, 0, none⟩ = some (.slice (some bd) bs.length m0) := (blk_cell (blk_grown BMr.out GW.out (by simp)) 0).trans rfl
          replace hxb := ((below_of_grown (B := wr.heap.size) GW.out (Nat.le_refl _)).cell (World.block_lt_of_cell? wr _ hxb)).trans hxb
          have HV := Aside0.mk hv
          have G2 := Aside0.mk (grown_trans G.out GW.out)
          clear hbd hx0 hx1 hx2 hv
          by_cases ct : atomOk l2 bs is i = true
          · have t1 : (!(rdOf false bs (i : Int) == decide (wrap64 (valI is (rd_T36 l2 (i : Int)).f0 - valI is (rd_T36 l2 (i : Int)).f1) ≤ (rd_T36 l2 (i : Int)).f2))) = false := by
              have h := ct
              unfold atomOk at h
              rw [h]
              rfl
            have t0 : (rdOf false bs (i : Int) == decide (wrap64 (valI is (rd_T36 l2 (i : Int)).f0 - valI is (rd_T36 l2 (i : Int)).f1) ≤ (rd_T36 l2 (i : Int)).f2)) = true := ct
            have CT := Aside0.mk ct
            clear ct
            go_wp2_with (first | (go_at_call 39; refine (HV.out _ _ (by first | exact GW.out | exact grown_drewN GW.out _ | exact grown_drew GW.out)).mono ?_; rintro e w' ⟨rfl, ⟨nd, rfl⟩⟩; (try first | exact ⟨rfl, _, World.drewN_drewN _ _ _⟩ | exact ⟨rfl, _, Eq.trans (World.drewN_drewN _ _ _) (congrArg (World.drewN _) (Nat.add_assoc _ _ _))⟩)))
            repeat (go_quiet (first | (go_at_call 39; refine (HV.out _ _ (by first | exact GW.out | exact grown_drewN GW.out _ | exact grown_drew GW.out)).mono ?_; rintro e w' ⟨rfl, ⟨nd, rfl⟩⟩; (try first | exact ⟨rfl, _, World.drewN_drewN _ _ _⟩ | exact ⟨rfl, _, Eq.trans (World.drewN_drewN _ _ _) (congrArg (World.drewN _) (Nat.add_assoc _ _ _))⟩))); try dsimp only)
            try go_wp2_with (first | (go_at_call 39; refine (HV.out _ _ (by first | exact GW.out | exact grown_drewN GW.out _ | exact grown_drew GW.out)).mono ?_; rintro e w' ⟨rfl, ⟨nd, rfl⟩⟩; (try first | exact ⟨rfl, _, World.drewN_drewN _ _ _⟩ | exact ⟨rfl, _, Eq.trans (World.drewN_drewN _ _ _) (congrArg (World.drewN _) (Nat.add_assoc _ _ _))⟩)))
            go_roundg k1
            case measure => omega
            case rel =>
              refine ⟨i + 1, ?_, ⟨by have := HI.out; omega⟩, ⟨fun j hj => ?_⟩, ⟨by first | exact grown_drewN G2.out _ | exact G2.out | exact grown_drew G2.out⟩⟩
              · have hk := K1.out
                have : wrap64 ((i : Int) + 1) = ((i + 1 : Nat) : Int) := by
                  unfold wrap64
                  omega
                rw [this]
              · by_cases cj : j = i
                · subst cj
                  exact CT.out
                · exact HP.out j (by omega)
          · have t0 : (rdOf false bs (i : Int) == decide (wrap64 (valI is (rd_T36 l2 (i : Int)).f0 - valI is (rd_T36 l2 (i : Int)).f1) ≤ (rd_T36 l2 (i : Int)).f2)) = false := by
              have h := ct
              unfold atomOk at h
              simpa using h
            have t1 : (!(rdOf false bs (i : Int) == decide (wrap64 (valI is (rd_T36 l2 (i : Int)).f0 - valI is (rd_T36 l2 (i : Int)).f1) ≤ (rd_T36 l2 (i : Int)).f2))) = true := by
              rw [t0]
              rfl
            have CT := Aside0.mk ct
            clear ct
            go_wp2_with (first | (go_at_call 39; refine (HV.out _ _ (by first | exact GW.out | exact grown_drewN GW.out _ | exact grown_drew GW.out)).mono ?_; rintro e w' ⟨rfl, ⟨nd, rfl⟩⟩; (try first | exact ⟨rfl, _, World.drewN_drewN _ _ _⟩ | exact ⟨rfl, _, Eq.trans (World.drewN_drewN _ _ _) (congrArg (World.drewN _) (Nat.add_assoc _ _ _))⟩)))
            repeat (go_quiet (first | (go_at_call 39; refine (HV.out _ _ (by first | exact GW.out | exact grown_drewN GW.out _ | exact grown_drew GW.out)).mono ?_; rintro e w' ⟨rfl, ⟨nd, rfl⟩⟩; (try first | exact ⟨rfl, _, World.drewN_drewN _ _ _⟩ | exact ⟨rfl, _, Eq.trans (World.drewN_drewN _ _ _) (congrArg (World.drewN _) (Nat.add_assoc _ _ _))⟩))); try dsimp only)
            try go_wp2_with (first | (go_at_call 39; refine (HV.out _ _ (by first | exact GW.out | exact grown_drewN GW.out _ | exact grown_drew GW.out)).mono ?_; rintro e w' ⟨rfl, ⟨nd, rfl⟩⟩; (try first | exact ⟨rfl, _, World.drewN_drewN _ _ _⟩ | exact ⟨rfl, _, Eq.trans (World.drewN_drewN _ _ _) (congrArg (World.drewN _) (Nat.add_assoc _ _ _))⟩)))
            go_ret
            refine ⟨?_, HSr.out.trans (below_of_grown (by first | exact grown_drewN GW.out _ | exact GW.out | exact grown_drew GW.out) HSr.out.size)⟩
            have hs : satB a0 a1 l2 l3 bs is = false := by
              unfold satB
              rw [if_neg Q.out, Bool.and_eq_false_iff]
              refine .inl (List.all_eq_false.2 ⟨i, List.mem_range.2 hi, CT.out⟩)
            rw [hs]
            rfl
        · have c1 : decide ((i : Int) < (l2.length : Int)) = false := decide_eq_false c
          have hi : i = l2.length := by have := HI.out; omega
          subst hi
          have hq3 : wr.cell? ⟨gf, 3, none⟩ = some (.slice A3 l3.length c3) := (blk_cell BFr.out 3).trans rfl
          go_wp2
          go_loopg [9, 64] l3.length (fun kq v9 v64 w' => ∃ i : Nat, v64 = .int .i64 (i : Int) ∧ Aside0 (i + kq = l3.length) ∧ Aside0 (∀ j, j < i → holdsAny (rd_L2 l3 (j : Int)) bs = true) ∧ Aside0 (w2.grownBy w' none))
          case atStart => exact ⟨0, by first | rfl | simp, ⟨Nat.zero_add _⟩, ⟨fun j hj => absurd hj (by omega)⟩, G⟩
          case round =>
            clear HI HSr BMr BFr hq3 G
            obtain ⟨i, rfl, HI, HC, G⟩ := hrel
            have HSr := Aside0.mk (HS.out.trans (below_of_grown G.out HS.out.size))
            have BMr := Aside0.mk (blk_grown BM.out G.out (by simp))
            by_cases c : (i : Int) < (l3.length : Int)
            · have c1 : decide ((i : Int) < (l3.length : Int)) = true := decide_eq_true c
              have hi : i < l3.length := by omega
              cases gk with
              | zero => exact absurd HI.out (by omega)
              | succ k1 =>
              obtain ⟨ad, A5, c5, e, hx, hl5, hC5⟩ := at_L2 (Kd.C_below HR3.out HSr.out) (i : Int) (Int.natCast_nonneg i) c
              cases e
              rw [Int.toNat_natCast] at hx
              have hmem : rd_L2 l3 (i : Int) ∈ l3 := by
                unfold rd_L2
                rw [Int.toNat_natCast, List.getD_eq_getElem?_getD, List.getElem?_eq_getElem hi]
                exact List.getElem_mem hi
              have hlo := List.all_eq_true.1 K0.out _ hmem
              rw [Bool.and_eq_true] at hlo
              have hcon := containsF_calls gm M0 m0 bs M1 m1 is A5 c5 (rd_L2 l3 (i : Int)) wr BMr.out (Kd.C_below HM0.out HSr.out) HN0.out (Kd.C_below HM1.out HSr.out) HN1.out K3.out hC5 hlo.1 (of_decide_eq_true hlo.2)
              clear hlo hmem hC5 hl5
              have p1 := eq_true (Int.natCast_nonneg i)
              have p2 := eq_true c
              by_cases ct : holdsAny (rd_L2 l3 (i : Int)) bs = true
              · have CT := Aside0.mk ct
                rw [ct] at hcon
                clear ct
                go_wp2_with (go_at_call 40; refine hcon.mono ?_; rintro e w7 ⟨rfl, hb7⟩; have G7 := Aside0.mk (grown_trans G.out (grown_of_below hb7 none)); clear hb7)
                go_roundg k1
                case measure => omega
                case rel =>
                  refine ⟨i + 1, ?_, ⟨by have := HI.out; omega⟩, ⟨fun j hj => ?_⟩, G7⟩
                  · have hk := K2.out
                    have : wrap64 ((i : Int) + 1) = ((i + 1 : Nat) : Int) := by
                      unfold wrap64
                      omega
                    rw [this]
                  · by_cases cj : j = i
                    · subst cj
                      exact CT.out
                    · exact HC.out j (by omega)
              · have ct : holdsAny (rd_L2 l3 (i : Int)) bs = false := by simpa using ct
                have CT := Aside0.mk ct
                rw [ct] at hcon
                clear ct
                go_wp2_with (go_at_call 40; refine hcon.mono ?_; rintro e w7 ⟨rfl, hb7⟩; have G7 := Aside0.mk (grown_trans G.out (grown_of_below hb7 none)); clear hb7)
                go_ret
                refine ⟨?_, HS.out.trans (below_of_grown G7.out HS.out.size)⟩
                have hs : satB a0 a1 l2 l3 bs is = false := by
                  unfold satB
                  rw [if_neg Q.out, Bool.and_eq_false_iff]
                  refine .inr (List.all_eq_false.2 ⟨rd_L2 l3 (i : Int), ?_, by rw [CT.out]; decide⟩)
                  unfold rd_L2
                  rw [Int.toNat_natCast, List.getD_eq_getElem?_getD, List.getElem?_eq_getElem hi]
                  exact List.getElem_mem hi
                rw [hs]
                rfl
            · have c1 : decide ((i : Int) < (l3.length : Int)) = false := decide_eq_false c
              go_wp2
              go_ret
              refine ⟨?_, HSr.out⟩
              have hs : satB a0 a1 l2 l3 bs is = true := by
                unfold satB
                rw [if_neg Q.out, Bool.and_eq_true]
                refine ⟨List.all_eq_true.2 fun j hj => HP.out j (List.mem_range.1 hj), List.all_eq_true.2 fun u hu => ?_⟩
                obtain ⟨j, hj, rfl⟩ := List.getElem_of_mem hu
                have h9 := HC.out j (by have := HI.out; omega)
                unfold rd_L2 at h9
                rw [Int.toNat_natCast, List.getD_eq_getElem?_getD, List.getElem?_eq_getElem hj] at h9
                exact h9
              rw [hs]
              rfl
  · rw [if_neg hok] at h
    cases h
end Go.Proofs.YtpaoepcebcjfhaaDoor.X
