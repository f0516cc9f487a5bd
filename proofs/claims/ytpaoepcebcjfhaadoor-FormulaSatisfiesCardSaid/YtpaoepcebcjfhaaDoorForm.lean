/- formula.Format: what it writes, by the shelf's contracts of strings.Builder and strconv.Itoa. -/
import Derived.Test.YtpaoepcebcjfhaaDoorX0
import Derived.Test.YtpaoepcebcjfhaaDoorSh2
import Derived.Lib.AppendIntMem
namespace Go.Proofs.YtpaoepcebcjfhaaDoor.X
open Go Go.RowKit Go.Proofs.YtpaoepcebcjfhaaDoorW.PrintWords Go.Proofs.YtpaoepcebcjfhaaDoorW.PrintLast Go.Proofs.YtpaoepcebcjfhaaDoorW.PrintMore
set_option linter.unusedVariables false
/-- The table that strconv.Itoa reads. -/
def GW (w : World) : Prop := Lib.TabIs Tryd.prog w "internal/strconv.uint64pow10" .u64 Lib.pow10Tab
theorem GW.below {w w1 : World} (h : GW w) (hb : Below w.heap.size w w1) : GW w1 := Lib.tabBelow_of_tabIs h w1 hb
def numB (n : Int) : List UInt8 := 32 :: Lib.itoa n
def lineB (word : List UInt8) (l : List Int) : List UInt8 := word ++ (l.flatMap numB ++ [10])
def fitI (l : List Int) : Bool := l.all fun n => decide (-9223372036854775808 ≤ n ∧ n ≤ 9223372036854775807)
def lineFit (word : List UInt8) (l : List Int) : Bool := fitI l && decide ((lineB word l).length ≤ 17592186044416)
theorem grown_grow (W : World) (k : Nat) (os : Array Obj) : W.grownBy (Go.Sort.grow (W.drewN k) os) none :=
  ⟨rfl, rfl, rfl, by show W.heap.size ≤ (W.heap ++ os).size; rw [Array.size_append]; omega, fun j hj _ => by show (W.heap ++ os)[j]? = _; rw [Array.getElem?_append_left hj]⟩
theorem builder_grown {B b : Nat} {bs : List Value} {w w1 : World} (h : Lib.IsBuilderF 67 5 B b bs w) (hg : w.grownBy w1 none) : Lib.IsBuilderF 67 5 B b bs w1 := by
  have key : ∀ p, Lib.BuilderAtF 67 5 B b p bs w → Lib.BuilderAtF 67 5 B b p bs w1 := by
    rintro p ⟨hB, v, hb, hown, hne⟩
    refine ⟨hB, v, ?_, hown.kept hg (by cases hv : v.ownBlock <;> simp), hne⟩
    rw [hg.block b (Array.getElem?_eq_some_iff.1 hb).1 (by simp)]
    exact hb
  exact h.imp (key _) (key _)
theorem others_grown {b : Nat} {a w w1 : World} (h : Lib.OthersKept 5 (some b) a w) (hg : w.grownBy w1 none) : Lib.OthersKept 5 (some b) a w1 := h.grown hg (fun g hg => by cases hg)
theorem fitI_get {l : List Int} (h : fitI l = true) (i : Nat) (hi : i < l.length) : -9223372036854775808 ≤ rd l (i : Int) ∧ rd l (i : Int) ≤ 9223372036854775807 := by
  have h1 := List.all_eq_true.1 h (rd l (i : Int)) (by
    unfold rd
    rw [Int.toNat_natCast, List.getD_eq_getElem?_getD, List.getElem?_eq_getElem hi]
    exact List.getElem_mem hi)
  exact of_decide_eq_true h1
theorem take_next {l : List Int} (i : Nat) (hi : i < l.length) : (l.take (i + 1)).flatMap numB = (l.take i).flatMap numB ++ numB (rd l (i : Int)) := by
  have h1 : l.take (i + 1) = l.take i ++ [rd l (i : Int)] := by
    rw [List.take_add_one, List.getElem?_eq_getElem hi]
    unfold rd
    rw [Int.toNat_natCast, List.getD_eq_getElem?_getD, List.getElem?_eq_getElem hi]
    rfl
  rw [h1, List.flatMap_append, List.flatMap_singleton]
theorem part_len {bs word : List UInt8} {l : List Int} {n : Nat} (i : Nat) (h : (bs ++ lineB word l).length ≤ n) : (bs ++ (word ++ ((l.take i).flatMap numB))).length + 1 ≤ n := by
  have h1 : l.flatMap numB = (l.take i).flatMap numB ++ (l.drop i).flatMap numB := by rw [← List.flatMap_append, List.take_append_drop]
  unfold lineB at h
  rw [h1] at h
  simp only [List.length_append, List.length_singleton] at h ⊢
  omega
theorem flat_len (l : List Int) : l.length ≤ (l.flatMap numB).length := by
  induction l with
  | nil => simp
  | cons a t ih =>
    rw [List.flatMap_cons, List.length_append, List.length_cons]
    have : 1 ≤ (numB a).length := by unfold numB; simp
    omega
theorem pre_len (bs a b : List UInt8) (n m : Nat) (h : (bs ++ (a ++ b)).length ≤ n) : (Lib.byteCells bs).length + a.length ≤ n := by
  rw [Lib.byteCells_length]
  simp only [List.length_append] at h
  omega
set_option maxHeartbeats 4000000 in
set_option maxRecDepth 100000 in
theorem line_calls (B b : Nat) (bs word : List UInt8) (A0 : Option Addr) (c0 : Nat) (l : List Int) (w : World) (hT : ∀ w', Below B w w' → GW w') (hb : Lib.IsBuilderF 67 5 B b (Lib.byteCells bs) w) (hBw : B ≤ w.heap.size)
    (hr : ∀ w', Below B w w' → Lib.OthersKept 5 (some b) w w' → Kd.C (Kd.int .i64) w' A0 l.length l) (hf : fitI l = true) (hl : (bs ++ lineB word l).length ≤ 140737488355328) :
    Calls Tryd.prog 36 #[.pointer (some ⟨b, 0, none⟩), .string ⟨word.toArray⟩, .slice A0 l.length c0] w fun e w' => e = .returned (.tuple #[]) ∧ Lib.IsBuilderF 67 5 B b (Lib.byteCells (bs ++ lineB word l)) w' ∧ Below B w w' ∧ Lib.OthersKept 5 (some b) w w' := by
  have hl0 : (Lib.byteCells bs).length + (⟨word.toArray⟩ : ByteArray).size ≤ 140737488355328 := pre_len bs word _ _ 0 hl
  have hw0 := Tryd.writeString B b (Lib.byteCells bs) ⟨word.toArray⟩ w hb hl0 hBw
  have HT := Aside0.mk hT
  have HR := Aside0.mk hr
  have HL := Aside0.mk hl
  have HF := Aside0.mk hf
  have HW := Aside0.mk hBw
  clear hT hr hl hf hBw hb hl0
  go_enter Tryd.func36, Tryd.ntmps36
  go_wp2_with (go_at_call 47; refine hw0.mono ?_; rintro e w1 ⟨rfl, h1, h2, h3⟩)
  have hin : Aside0 (∃ m : Nat, m ≤ l.length) := ⟨⟨0, Nat.zero_le _⟩⟩
  have hcur : Lib.IsBuilderF 67 5 B b (Lib.byteCells (bs ++ (word ++ (l.take 0).flatMap numB))) w1 := by
    rw [List.take_zero, List.flatMap_nil, List.append_nil, Lib.byteCells_append]
    exact .inr h1
  have HC := Aside0.mk hcur
  have H2 := Aside0.mk h2
  have H3 := Aside0.mk h3
  clear hcur h1 h2 h3 hin hw0
  go_loopg [13] l.length (fun kq v13 w' => ∃ i : Nat, v13 = .int .i64 (i : Int) ∧ Aside0 (i + kq = l.length) ∧ Aside0 (Lib.IsBuilderF 67 5 B b (Lib.byteCells (bs ++ (word ++ (l.take i).flatMap numB))) w') ∧ Aside0 (Below B w w') ∧ Aside0 (Lib.OthersKept 5 (some b) w w'))
  case atStart => exact ⟨0, by first | rfl | simp, ⟨Nat.zero_add _⟩, HC, H2, H3⟩
  case round =>
    obtain ⟨i, rfl, HI, HC, H2, H3⟩ := hrel
    by_cases c : (i : Int) < (l.length : Int)
    · have c1 : decide ((i : Int) < (l.length : Int)) = true := decide_eq_true c
      have hi : i < l.length := by omega
      cases gk with
      | zero => exact absurd HI.out (by omega)
      | succ k1 =>
      obtain ⟨ad, e, hx⟩ := Kd.at_int (HR.out wr H2.out H3.out) (i : Int) (Int.natCast_nonneg i) c
      cases e
      rw [Int.toNat_natCast] at hx
      have p1 := eq_true (Int.natCast_nonneg i)
      have p2 := eq_true c
      have hIt := Tryd.itoa (rd l (i : Int)) (fitI_get HF.out i hi).1 (fitI_get HF.out i hi).2
      have hlen := part_len (i + 1) HL.out
      rw [take_next i hi, ← List.append_assoc word, ← List.append_assoc bs, List.length_append (bs := numB (rd l (i : Int)))] at hlen
      have hsz : (⟨#[32]⟩ ++ ⟨(Lib.itoa (rd l (i : Int))).toArray⟩ : ByteArray) = ⟨(numB (rd l (i : Int))).toArray⟩ := by
        unfold numB
        apply ByteArray.ext
        rw [ByteArray.data_append]
        simp
      have hs1 : ((⟨#[32]⟩ ++ ⟨(Lib.itoa (rd l (i : Int))).toArray⟩ : ByteArray)).size = (numB (rd l (i : Int))).length := by rw [hsz]; rfl
      have hs2 : (9223372036854775807 < ((⟨#[32]⟩ ++ ⟨(Lib.itoa (rd l (i : Int))).toArray⟩ : ByteArray)).size) = False := eq_false (by rw [hs1]; omega)
      have hs3 : (9223372036854775807 < 1 + (Lib.itoa (rd l (i : Int))).length) = False := eq_false (by
        have h := hs1
        rw [ByteArray.size_append] at h
        have h9 : (⟨(Lib.itoa (rd l (i : Int))).toArray⟩ : ByteArray).size = (Lib.itoa (rd l (i : Int))).length := rfl
        have h8 : (⟨#[32]⟩ : ByteArray).size = 1 := rfl
        omega)
      have hWs := fun (W : World) (hB : Lib.IsBuilderF 67 5 B b (Lib.byteCells (bs ++ (word ++ (l.take i).flatMap numB))) W) (hb : B ≤ W.heap.size) => Tryd.writeString B b _ (⟨#[32]⟩ ++ ⟨(Lib.itoa (rd l (i : Int))).toArray⟩) W hB (by rw [hs1, Lib.byteCells_length]; omega) hb
      have HX := Aside0.mk hx
      have HL2 := Aside0.mk hlen
      have HS := Aside0.mk hsz
      clear hlen hsz
      go_wp2_with (first | (go_at_call 48; refine (hIt _ (HT.out _ H2.out)).mono ?_; rintro e w2 ⟨rfl, k2, os2, rfl⟩; have HG2 := Aside0.mk (grown_grow wr k2 os2)) | (go_at_call 47; refine (hWs _ (builder_grown HC.out HG2.out) (Nat.le_trans (Nat.le_trans HW.out H2.out.size) HG2.out.size)).mono ?_; rintro e w3 ⟨rfl, h1, h2, h3⟩))
      go_roundg k1
      case measure => omega
      case rel =>
        refine ⟨i + 1, ?_, ⟨by have := HI.out; omega⟩, ⟨?_⟩, ⟨?_⟩, ⟨?_⟩⟩
        · have hh := HI.out
          have hL := HL2.out
          have hk : l.length ≤ 140737488355328 := Nat.le_trans (Nat.le_trans (flat_len l) (by unfold lineB; simp only [List.length_append]; omega)) HL.out
          have : wrap64 ((i : Int) + 1) = ((i + 1 : Nat) : Int) := by
            unfold wrap64
            omega
          rw [this]
        · have e1 : bs ++ (word ++ (l.take (i + 1)).flatMap numB) = (bs ++ (word ++ (l.take i).flatMap numB)) ++ numB (rd l (i : Int)) := by
            rw [take_next i hi]
            simp only [List.append_assoc]
          rw [e1, Lib.byteCells_append]
          rw [HS.out] at h1
          exact .inr h1
        · exact (H2.out.trans (Below.grown (Below.refl _ _) HG2.out (Nat.le_trans HW.out H2.out.size) (fun k hk => by cases hk))).trans h2
        · exact (others_grown H3.out HG2.out).trans h3
    · have c1 : decide ((i : Int) < (l.length : Int)) = false := decide_eq_false c
      have hi : i = l.length := by have := HI.out; omega
      have hlen : (Lib.byteCells (bs ++ (word ++ (l.take i).flatMap numB))).length + (⟨#[10]⟩ : ByteArray).size ≤ 140737488355328 := by
        rw [Lib.byteCells_length]
        exact part_len i HL.out
      have hWs := Tryd.writeString B b _ ⟨#[10]⟩ wr HC.out hlen (Nat.le_trans HW.out H2.out.size)
      clear hlen
      go_wp2_with (go_at_call 47; refine hWs.mono ?_; rintro e w3 ⟨rfl, h1, h2, h3⟩)
      go_end0
      refine ⟨rfl, ?_, H2.out.trans h2, H3.out.trans h3⟩
      subst hi
      rw [List.take_length] at h1
      have : bs ++ lineB word l = (bs ++ (word ++ l.flatMap numB)) ++ [10] := by
        unfold lineB
        simp only [List.append_assoc]
      rw [this, Lib.byteCells_append]
      exact .inr h1
theorem R_kept {b base : Nat} {bs : List UInt8} {ok : Nat → Prop} {v : Value} {xs : List Int} {B : Nat} {W w' : World} (hR : (Kd.int .i64).R 3 W base ok v xs) (hb : Lib.IsBuilderF 67 5 B b (Lib.byteCells bs) W) (hO : Lib.OthersKept 5 (some b) W w') : (Kd.int .i64).R 3 w' base ok v xs := by
  have hbh : ∃ cs, W.heap[b]? = some (.cells cs 67 (0, 0)) := by
    rcases hb with ⟨_, _, h, _⟩ | ⟨_, _, h, _⟩
    · exact ⟨_, h⟩
    · exact ⟨_, h⟩
  obtain ⟨cs, hbh⟩ := hbh
  obtain ⟨h0, inner, h1, h2⟩ := hR
  refine ⟨h0, inner, own_move h1 (fun k hk => ?_), h2⟩
  obtain ⟨cells, hc⟩ := own_typed h1 k hk
  rw [hc]
  refine hO k _ hc (fun h => ?_) (fun c fz h => ?_)
  · injection h with h
    subst h
    rw [hbh] at hc
    injection hc with hc
    injection hc with _ hc _
    exact absurd hc (by decide)
  · injection h with _ h _
    exact absurd h (by decide)
theorem line_own (B b : Nat) (bs word : List UInt8) (v : Value) (l : List Int) (base : Nat) (W : World) (hT : ∀ w', Below B W w' → GW w') (hb : Lib.IsBuilderF 67 5 B b (Lib.byteCells bs) W) (hBw : B ≤ W.heap.size)
    (hR : (Kd.int .i64).R 3 W base (fun _ => True) v l) (hf : fitI l = true) (hl : (bs ++ lineB word l).length ≤ 140737488355328) :
    Calls Tryd.prog 36 #[.pointer (some ⟨b, 0, none⟩), .string ⟨word.toArray⟩, v] W fun e w' => e = .returned (.tuple #[]) ∧ Lib.IsBuilderF 67 5 B b (Lib.byteCells (bs ++ lineB word l)) w' ∧ Below B W w' ∧ Lib.OthersKept 5 (some b) W w' := by
  obtain ⟨A, c, rfl⟩ := Kd.R_slice hR
  exact line_calls B b bs word A c l W hT hb hBw (fun w' _ hO => (Kd.R_reads' (R_kept hR hb hO)).2.2) hf hl
theorem zero_builder {B b : Nat} {W : World} (hB : B ≤ b) (h : W.heap[b]? = some (.cells #[.pointer none, .slice none 0 0] 67 (0, 0))) : Lib.IsBuilderF 67 5 B b (Lib.byteCells []) W :=
  .inl ⟨hB, _, h, World.ownsRowF_nil _ _ _ _, by simp [Value.ownBlock]⟩
theorem box_kept {B b g : Nat} {bs : List UInt8} {W w' : World} {cs : Array Value} {t : TypeId} (hg : W.heap[g]? = some (.cells cs t (0, 0))) (hb : Lib.IsBuilderF 67 5 B b (Lib.byteCells bs) W) (hO : Lib.OthersKept 5 (some b) W w') (h67 : t ≠ 67 := by decide) (h5 : t ≠ 5 := by decide) : w'.heap[g]? = some (.cells cs t (0, 0)) := by
  have hbh : ∃ cs, W.heap[b]? = some (.cells cs 67 (0, 0)) := by
    rcases hb with ⟨_, _, h, _⟩ | ⟨_, _, h, _⟩
    · exact ⟨_, h⟩
    · exact ⟨_, h⟩
  obtain ⟨cb, hbh⟩ := hbh
  refine hO g _ hg (fun h => ?_) (fun c fz h => ?_)
  · injection h with h
    subst h
    rw [hbh] at hg
    injection hg with hg
    injection hg with _ hg _
    exact h67 hg.symm
  · injection h with _ h _
    exact h5 h
def fmtH : List UInt8 := [102, 111, 114, 109, 117, 108, 97]
def fmtA : List UInt8 := [97, 116, 111, 109]
def fmtC : List UInt8 := [99, 108, 97, 117, 115, 101]
def atomB (d : S36) : List UInt8 := lineB fmtA [d.f0, d.f1, d.f2]
def fmtB (a0 a1 : Int) (l2 : List S36) (l3 : List (List Int)) : List UInt8 := lineB fmtH [a0, a1] ++ (l2.flatMap atomB ++ l3.flatMap (lineB fmtC))
def fmtOk (a0 a1 : Int) (l2 : List S36) (l3 : List (List Int)) : Bool := fitI [a0, a1] && (l2.all (fun d => fitI [d.f0, d.f1, d.f2]) && (l3.all fitI && decide ((fmtB a0 a1 l2 l3).length ≤ 140737488355328)))
def formula_Format.f (a0 a1 : Int) (l2 : List S36) (l3 : List (List Int)) : Option ByteArray := if fmtOk a0 a1 l2 l3 = true then some ⟨(fmtB a0 a1 l2 l3).toArray⟩ else none
theorem grown_trans {w w1 w2 : World} (h : w.grownBy w1 none) (k : w1.grownBy w2 none) : w.grownBy w2 none :=
  ⟨k.os.trans h.os, k.tape.trans h.tape, k.output.trans h.output, Nat.le_trans h.size k.size, fun j hj hn => (k.block j (Nat.lt_of_lt_of_le hj h.size) hn).trans (h.block j hj hn)⟩
theorem grown_set {w w1 : World} (h : w.grownBy w1 none) {p : Addr} (hp : w.heap.size ≤ p.block) (v : Value) : w.grownBy (w1.setCell p v) none :=
  ⟨h.os, h.tape, h.output, by rw [show (w1.setCell p v).heap.size = w1.heap.size from by simp [World.setCell]]; exact h.size, fun j hj hn => by rw [Below.heap_setCell w1 p v j (by omega)]; exact h.block j hj hn⟩
theorem all_get {l2 : List S36} (h : (l2.all fun d => fitI [d.f0, d.f1, d.f2]) = true) (i : Nat) (hi : i < l2.length) : fitI [(rd_T36 l2 (i : Int)).f0, (rd_T36 l2 (i : Int)).f1, (rd_T36 l2 (i : Int)).f2] = true := by
  refine List.all_eq_true.1 h (rd_T36 l2 (i : Int)) ?_
  unfold rd_T36
  rw [Int.toNat_natCast, List.getD_eq_getElem?_getD, List.getElem?_eq_getElem hi]
  exact List.getElem_mem hi
theorem atoms_next (l2 : List S36) (i : Nat) (hi : i < l2.length) : (l2.take (i + 1)).flatMap atomB = (l2.take i).flatMap atomB ++ lineB fmtA [(rd_T36 l2 (i : Int)).f0, (rd_T36 l2 (i : Int)).f1, (rd_T36 l2 (i : Int)).f2] := by
  have h1 : l2.take (i + 1) = l2.take i ++ [rd_T36 l2 (i : Int)] := by
    rw [List.take_add_one, List.getElem?_eq_getElem hi]
    unfold rd_T36
    rw [Int.toNat_natCast, List.getD_eq_getElem?_getD, List.getElem?_eq_getElem hi]
    rfl
  rw [h1, List.flatMap_append, List.flatMap_singleton]
  rfl
theorem pre2 (a0 a1 : Int) (l2 : List S36) (l3 : List (List Int)) {n : Nat} (i : Nat) (hi : i < l2.length) (h : (fmtB a0 a1 l2 l3).length ≤ n) : ((lineB fmtH [a0, a1] ++ (l2.take i).flatMap atomB) ++ lineB fmtA [(rd_T36 l2 (i : Int)).f0, (rd_T36 l2 (i : Int)).f1, (rd_T36 l2 (i : Int)).f2]).length ≤ n := by
  rw [List.append_assoc, ← atoms_next l2 i hi]
  have h1 : l2.flatMap atomB = (l2.take (i + 1)).flatMap atomB ++ (l2.drop (i + 1)).flatMap atomB := by rw [← List.flatMap_append, List.take_append_drop]
  unfold fmtB at h
  rw [h1] at h
  simp only [List.length_append] at h ⊢
  omega
theorem some_len {α : Type} (f : α → List UInt8) (hf : ∀ x, 1 ≤ (f x).length) (l : List α) : l.length ≤ (l.flatMap f).length := by
  induction l with
  | nil => simp
  | cons a t ih =>
    rw [List.flatMap_cons, List.length_append, List.length_cons]
    have := hf a
    omega
theorem atoms_len (a0 a1 : Int) (l2 : List S36) (l3 : List (List Int)) {n : Nat} (h : (fmtB a0 a1 l2 l3).length ≤ n) : l2.length ≤ n := by
  have h1 := some_len atomB (fun x => by unfold atomB lineB; simp; omega) l2
  unfold fmtB at h
  simp only [List.length_append] at h
  omega
theorem clauses_len (a0 a1 : Int) (l2 : List S36) (l3 : List (List Int)) {n : Nat} (h : (fmtB a0 a1 l2 l3).length ≤ n) : l3.length ≤ n := by
  have h1 := some_len (lineB fmtC) (fun x => by unfold lineB; simp; omega) l3
  unfold fmtB at h
  simp only [List.length_append] at h
  omega
theorem all_get3 {l3 : List (List Int)} (h : l3.all fitI = true) (i : Nat) (hi : i < l3.length) : fitI (rd_L2 l3 (i : Int)) = true := by
  refine List.all_eq_true.1 h (rd_L2 l3 (i : Int)) ?_
  unfold rd_L2
  rw [Int.toNat_natCast, List.getD_eq_getElem?_getD, List.getElem?_eq_getElem hi]
  exact List.getElem_mem hi
theorem clauses_next (l3 : List (List Int)) (i : Nat) (hi : i < l3.length) : (l3.take (i + 1)).flatMap (lineB fmtC) = (l3.take i).flatMap (lineB fmtC) ++ lineB fmtC (rd_L2 l3 (i : Int)) := by
  have h1 : l3.take (i + 1) = l3.take i ++ [rd_L2 l3 (i : Int)] := by
    rw [List.take_add_one, List.getElem?_eq_getElem hi]
    unfold rd_L2
    rw [Int.toNat_natCast, List.getD_eq_getElem?_getD, List.getElem?_eq_getElem hi]
    rfl
  rw [h1, List.flatMap_append, List.flatMap_singleton]
theorem pre3 (a0 a1 : Int) (l2 : List S36) (l3 : List (List Int)) {n : Nat} (i : Nat) (hi : i < l3.length) (h : (fmtB a0 a1 l2 l3).length ≤ n) : (((lineB fmtH [a0, a1] ++ l2.flatMap atomB) ++ (l3.take i).flatMap (lineB fmtC)) ++ lineB fmtC (rd_L2 l3 (i : Int))).length ≤ n := by
  rw [List.append_assoc _ _ (lineB fmtC (rd_L2 l3 (i : Int))), ← clauses_next l3 i hi]
  have h1 : l3.flatMap (lineB fmtC) = (l3.take (i + 1)).flatMap (lineB fmtC) ++ (l3.drop (i + 1)).flatMap (lineB fmtC) := by rw [← List.flatMap_append, List.take_append_drop]
  unfold fmtB at h
  rw [h1] at h
  simp only [List.length_append] at h ⊢
  omega
theorem pre1 (a0 a1 : Int) (l2 : List S36) (l3 : List (List Int)) {n : Nat} (h : (fmtB a0 a1 l2 l3).length ≤ n) : ([] ++ lineB fmtH [a0, a1]).length ≤ n := by
  unfold fmtB at h
  simp only [List.length_append, List.length_nil] at h ⊢
  omega
set_option maxHeartbeats 8000000 in
set_option maxRecDepth 100000 in
theorem formula_Format.calls (a0 a1 : Int) (A2 : Option Addr) (c2 : Nat) (l2 : List S36) (A3 : Option Addr) (c3 : Nat) (l3 : List (List Int)) (r : ByteArray) (w : World) (hG : GW w)
    (hr2 : Kd.C k36 w A2 l2.length l2) (hc2 : l2.length ≤ c2) (hr3 : Kd.C (Kd.slice 3 (Kd.int .i64)) w A3 l3.length l3) (hc3 : l3.length ≤ c3) (h : formula_Format.f a0 a1 l2 l3 = some r) :
    Calls Tryd.prog 22 #[.agg #[.int .i64 a0, .int .i64 a1, .slice A2 l2.length c2, .slice A3 l3.length c3]] w fun e w' => e = .returned (.string r) ∧ Below w.heap.size w w' := by
  unfold formula_Format.f at h
  by_cases hok : fmtOk a0 a1 l2 l3 = true
  · rw [if_pos hok] at h
    obtain rfl := Option.some.inj h
    clear h
    simp only [fmtOk, Bool.and_eq_true] at hok
    obtain ⟨k0, k1, k2, k3⟩ := hok
    have k3 := of_decide_eq_true k3
    have HG := Aside0.mk hG
    have HR2 := Aside0.mk hr2
    have HR3 := Aside0.mk hr3
    have K0 := Aside0.mk k0
    have K1 := Aside0.mk k1
    have K2 := Aside0.mk k2
    have K3 := Aside0.mk k3
    clear hG hr2 hr3 k0 k1 k2 k3 hc2 hc3
    have hu31 := Tryd.underlying31
    have hu36 := Tryd.underlying36
    go_enter Tryd.func22, Tryd.ntmps22
    go_wp2_with (first | ((with_reducible refine gate_dst (N := 1) rfl ?_); refine box_event ?hg (N := 1) ?hd (cs := #[.int .i64 a0, .int .i64 a1, .slice A2 l2.length c2, .slice A3 l3.length c3]) (t := 31) ?hr ?_; (case hd => rfl); (case hg => rfl); (case hr => first | (go_simp; done) | (go_simp; rfl)); intro gf hgf w1 hboxf hbf; have BF := Aside0.mk hboxf; have B1 := Aside0.mk hbf; have GF := Aside0.mk (Nat.le_of_eq hgf.symm); have NF := Aside0.mk (Nat.lt_of_lt_of_le (blk_lt hboxf) (Nat.le_refl _)); clear hgf hboxf hbf) | ((with_reducible refine gate_dst (N := 3) rfl ?_); refine box_event ?hg (N := 3) ?hd (cs := #[.pointer none, .slice none 0 0]) (t := 67) ?hr ?_; (case hd => rfl); (case hg => rfl); (case hr => first | (go_simp; done) | (go_simp; rfl)); intro b hgb w2 hboxb hbb; have BB := Aside0.mk hboxb; have B2 := Aside0.mk hbb; clear hboxb hbb; have BF2 := Aside0.mk (blk_below BF.out B2.out); have GB := Aside0.mk (Nat.le_of_eq hgb.symm); clear hgb; have hq0 : w2.cell? ⟨gf, 0, none⟩ = some (.int .i64 a0) := (blk_cell BF2.out 0).trans rfl; have hq1 : w2.cell? ⟨gf, 1, none⟩ = some (.int .i64 a1) := (blk_cell BF2.out 1).trans rfl) | ((with_reducible refine gate_dst (N := 12) rfl ?_); refine Kd.R_lit (Kd.int .i64) _ 3 ?hg (N := 12) ?hd (xs := ([a0, a1] : List Int)) (inner := [.int .i64 a0, .int .i64 a1]) (ok := fun _ => True) (okp := fun _ => True) ?hr ?hp (fun _ hk => hk) trivial (Below.refl _ _) (Nat.le_refl _) (by simp) ?_; (case hd => rfl); (case hg => rfl); (case hr => first | (go_simp; done) | (go_simp; rfl)); (case hp => exact (Reps.one (show Kd.M (Kd.int .i64) _ _ _ a0 [.int .i64 a0] from rfl) (Reps.one (show Kd.M (Kd.int .i64) _ _ _ a1 [.int .i64 a1] from rfl) (Reps.none _ _)))); intro v3 w3 ho3 hb3 hg3 hnew3; have HO3 := Aside0.mk ho3; have B3 := Aside0.mk hb3; have G3 := Aside0.mk hg3; clear ho3 hb3 hg3 hnew3; have HS := Aside0.mk (below_step (below_step B1.out B2.out) B3.out); have HB3 := Aside0.mk (zero_builder (B := w.heap.size) (Nat.le_trans B1.out.size GB.out) (blk_below BB.out B3.out)); have BF3 := Aside0.mk (blk_below BF2.out B3.out)) | (go_at_call 36; refine (line_own w.heap.size b [] fmtH v3 [a0, a1] _ w3 (fun w' hb => GW.below HG.out (HS.out.trans hb)) HB3.out HS.out.size HO3.out K0.out (pre1 a0 a1 l2 l3 K3.out)).mono ?_; rintro e w4 ⟨rfl, h1, h2, h3⟩; have BB4 := Aside0.mk h1; have HS4 := Aside0.mk (HS.out.trans h2); have BF4 := Aside0.mk (box_kept BF3.out HB3.out h3); clear h1 h2 h3; have hq2 : w4.cell? ⟨gf, 2, none⟩ = some (.slice A2 l2.length c2) := (blk_cell BF4.out 2).trans rfl))
    go_loopg [17] l2.length (fun kq v17 w' => ∃ i : Nat, v17 = .int .i64 (i : Int) ∧ Aside0 (i + kq = l2.length) ∧ Aside0 (Lib.IsBuilderF 67 5 w.heap.size b (Lib.byteCells (lineB fmtH [a0, a1] ++ (l2.take i).flatMap atomB)) w') ∧ Aside0 (Below w.heap.size w w') ∧ Aside0 (w'.heap[gf]? = some (.cells #[.int .i64 a0, .int .i64 a1, .slice A2 l2.length c2, .slice A3 l3.length c3] 31 (0, 0))))
    case atStart => exact ⟨0, by first | rfl | simp, ⟨Nat.zero_add _⟩, ⟨by rw [List.take_zero, List.flatMap_nil, List.append_nil]; exact BB4.out⟩, HS4, BF4⟩
    case round =>
      clear BB4 HS4 BF4 hq2 BF3 HB3 HS BF2 B3 G3 HO3 hq0 hq1 BB B2 B1 BF GF NF GB
      obtain ⟨i, rfl, HI, HC, H2, HF⟩ := hrel
      by_cases c : (i : Int) < (l2.length : Int)
      · have c1 : decide ((i : Int) < (l2.length : Int)) = true := decide_eq_true c
        have hi : i < l2.length := by omega
        cases gk with
        | zero => exact absurd HI.out (by omega)
        | succ k1 =>
        obtain ⟨ad, e, hx0, hx1, hx2⟩ := at_T36 (Kd.C_below HR2.out H2.out) (i : Int) (Int.natCast_nonneg i) c
        cases e
        rw [Int.toNat_natCast] at hx0 hx1 hx2
        have p1 := eq_true (Int.natCast_nonneg i)
        have p2 := eq_true c
        go_wp2_with (first | ((with_reducible refine gate_dst (N := 5) rfl ?_); refine box_event ?hg (N := 5) ?hd (cs := #[.int .i64 0, .int .i64 0, .int .i64 0]) (t := 36) ?hr ?_; (case hd => rfl); (case hg => rfl); (case hr => first | (go_simp; done) | (go_simp; rfl)); intro gd hgd w5 hbox hb; have G5 := Aside0.mk (grown_of_below hb none); have GD := Aside0.mk (Nat.le_of_eq hgd.symm); have hc0 : w5.cell? ⟨gd, 0, none⟩ = some (.int .i64 0) := (blk_cell hbox 0).trans rfl; have hc1 : w5.cell? ⟨gd, 1, none⟩ = some (.int .i64 0) := (blk_cell hbox 1).trans rfl; have hc2 : w5.cell? ⟨gd, 2, none⟩ = some (.int .i64 0) := (blk_cell hbox 2).trans rfl; have hf0 := blk_frozen hbox 0; have hf1 := blk_frozen hbox 1; have hf2 := blk_frozen hbox 2; clear hgd hbox hb) | ((with_reducible refine gate_dst (N := 27) rfl ?_); refine Kd.R_lit (Kd.int .i64) _ 3 ?hg (N := 27) ?hd (xs := ([(rd_T36 l2 (i : Int)).f0, (rd_T36 l2 (i : Int)).f1, (rd_T36 l2 (i : Int)).f2] : List Int)) (inner := [.int .i64 (rd_T36 l2 (i : Int)).f0, .int .i64 (rd_T36 l2 (i : Int)).f1, .int .i64 (rd_T36 l2 (i : Int)).f2]) (ok := fun _ => True) (okp := fun _ => True) ?hr ?hp (fun _ hk => hk) trivial (Below.refl _ _) (Nat.le_refl _) (by simp) ?_; (case hd => rfl); (case hg => rfl); (case hr => first | (go_simp; done) | (go_simp; rfl)); (case hp => exact (Reps.one (show Kd.M (Kd.int .i64) _ _ _ _ [.int .i64 (rd_T36 l2 (i : Int)).f0] from rfl) (Reps.one (show Kd.M (Kd.int .i64) _ _ _ _ [.int .i64 (rd_T36 l2 (i : Int)).f1] from rfl) (Reps.one (show Kd.M (Kd.int .i64) _ _ _ _ [.int .i64 (rd_T36 l2 (i : Int)).f2] from rfl) (Reps.none _ _))))); intro v6 w6 ho6 hb6 hg6 hnew6; have HO6 := Aside0.mk ho6; have G6 := Aside0.mk (show wr.grownBy w6 none from grown_trans (by repeat (first | exact G5.out | refine grown_set ?_ GD.out _)) hg6); clear ho6 hb6 hg6 hnew6; have HS6 := Aside0.mk (H2.out.grown G6.out H2.out.size (fun k hk => by cases hk)); have HB6 := Aside0.mk (builder_grown HC.out G6.out); have BF6 := Aside0.mk (blk_grown HF.out G6.out (by simp))) | (go_at_call 36; refine (line_own w.heap.size b _ fmtA v6 _ _ w6 (fun w' hb => GW.below HG.out (HS6.out.trans hb)) HB6.out HS6.out.size HO6.out (all_get K1.out i hi) (pre2 a0 a1 l2 l3 i hi K3.out)).mono ?_; rintro e w7 ⟨rfl, h1, h2, h3⟩; have HB7 := Aside0.mk h1; have HS7 := Aside0.mk (HS6.out.trans h2); have BF7 := Aside0.mk (box_kept BF6.out HB6.out h3); clear h1 h2 h3))
        go_roundg k1
        case measure => omega
        case rel =>
          refine ⟨i + 1, ?_, ⟨by have := HI.out; omega⟩, ⟨?_⟩, HS7, BF7⟩
          · have hk := atoms_len a0 a1 l2 l3 K3.out
            have : wrap64 ((i : Int) + 1) = ((i + 1 : Nat) : Int) := by
              unfold wrap64
              omega
            rw [this]
          · rw [atoms_next l2 i hi, ← List.append_assoc]
            exact HB7.out
      · have c1 : decide ((i : Int) < (l2.length : Int)) = false := decide_eq_false c
        have hi : i = l2.length := by have := HI.out; omega
        subst hi
        rw [List.take_length] at HC
        have hq3 : wr.cell? ⟨gf, 3, none⟩ = some (.slice A3 l3.length c3) := (blk_cell HF.out 3).trans rfl
        go_wp2
        go_loopg [33] l3.length (fun kq v33 w' => ∃ i : Nat, v33 = .int .i64 (i : Int) ∧ Aside0 (i + kq = l3.length) ∧ Aside0 (Lib.IsBuilderF 67 5 w.heap.size b (Lib.byteCells ((lineB fmtH [a0, a1] ++ l2.flatMap atomB) ++ (l3.take i).flatMap (lineB fmtC))) w') ∧ Aside0 (Below w.heap.size w w'))
        case atStart => exact ⟨0, by first | rfl | simp, ⟨Nat.zero_add _⟩, ⟨by rw [List.take_zero, List.flatMap_nil, List.append_nil]; exact HC.out⟩, H2⟩
        case round =>
          clear HC H2 HF hq3 HI
          obtain ⟨i, rfl, HI, HC, H2⟩ := hrel
          by_cases c : (i : Int) < (l3.length : Int)
          · have c1 : decide ((i : Int) < (l3.length : Int)) = true := decide_eq_true c
            have hi : i < l3.length := by omega
            cases gk with
            | zero => exact absurd HI.out (by omega)
            | succ k1 =>
            obtain ⟨ad, A5, c5, e, hx, hl5, hC5⟩ := at_L2 HR3.out (i : Int) (Int.natCast_nonneg i) c
            cases e
            rw [Int.toNat_natCast] at hx
            replace hx := (H2.out.cell (World.block_lt_of_cell? w _ hx)).trans hx
            have HC5 := Aside0.mk hC5
            clear hC5 hl5
            have p1 := eq_true (Int.natCast_nonneg i)
            have p2 := eq_true c
            go_wp2_with (go_at_call 36; refine (line_calls w.heap.size b _ fmtC A5 c5 _ _ (fun w' hb => GW.below HG.out (H2.out.trans hb)) HC.out H2.out.size (fun w' hb _ => Kd.C_below HC5.out (H2.out.trans hb)) (all_get3 K2.out i hi) (pre3 a0 a1 l2 l3 i hi K3.out)).mono ?_; rintro e w7 ⟨rfl, h1, h2, h3⟩; have HB7 := Aside0.mk h1; have HS7 := Aside0.mk (H2.out.trans h2); clear h1 h2 h3)
            go_roundg k1
            case measure => omega
            case rel =>
              refine ⟨i + 1, ?_, ⟨by have := HI.out; omega⟩, ⟨?_⟩, HS7⟩
              · have hk := clauses_len a0 a1 l2 l3 K3.out
                have : wrap64 ((i : Int) + 1) = ((i + 1 : Nat) : Int) := by
                  unfold wrap64
                  omega
                rw [this]
              · rw [clauses_next l3 i hi, ← List.append_assoc]
                exact HB7.out
          · have c1 : decide ((i : Int) < (l3.length : Int)) = false := decide_eq_false c
            have hi : i = l3.length := by have := HI.out; omega
            subst hi
            rw [List.take_length] at HC
            go_wp2_with (go_at_call 37; refine (Tryd.builderString w.heap.size b _ _ HC.out H2.out.size).mono ?_; rintro e w7 ⟨rfl, h1, h2, h3⟩; have HS7 := Aside0.mk (H2.out.trans h2); clear h1 h2 h3)
            go_ret
            exact ⟨rfl, HS7.out⟩
  · rw [if_neg hok] at h
    cases h
end Go.Proofs.YtpaoepcebcjfhaaDoor.X
