/- A part of the proof of a statement about this seat: how a function is stepped through, and plain laws. No conditions. -/
import Derived.Test.YtibahioojjligaaGreatRows
import Derived.Test.YtibahioojjligaaGreatSz3
import Derived.Test.YtibahioojjligaaGreatY2
import Derived.KernelRfl
set_option linter.unusedVariables false
set_option linter.unusedSimpArgs false
set_option maxRecDepth 20000
namespace Go.Proofs.YtibahioojjligaaGreat
open Go.Sx Go.Way
/-! A position is blocked: by the cells around it, or by looking at all squares. -/
theorem blk_yes {W H : Int} {L : List Int} {x y a b : Int} (hp : planB W H L = true) (h1 : 0 ≤ x) (h2 : x ≤ W * 64) (h3 : 0 ≤ y) (h4 : y ≤ H * 64) (hw : atB W H L a b = 2)
    (s1 : a * 64 ≤ x) (s2 : x ≤ a * 64 + 64) (s3 : b * 64 ≤ y) (s4 : y ≤ b * 64 + 64) : blkP W H L x y = true := by
  have pp := planB_at hp
  have hr : pRectB x y x y = true := pPt_rect (by unfold pPtB; rw [decide_eq_true_eq]; omega)
  have k1 : 1 ≤ cX1 x - cX0 x + 1 ∧ cX1 x - cX0 x + 1 ≤ 3 := by unfold cX0 cX1; omega
  have k2 : 1 ≤ cX1 y - cX0 y + 1 ∧ cX1 y - cX0 y + 1 ≤ 3 := by unfold cX0 cX1; omega
  have m := Int.mul_le_mul k1.2 k2.2 (by omega) (by omega)
  unfold blkP
  rw [decide_eq_false (by omega), Bool.false_or, List.any_eq_true]
  refine ⟨⟨a, b⟩, ?_, decide_eq_true hw⟩
  rw [(clE0 hr (by omega)).2, gridL_mem]
  unfold cX0 cX1
  exact ⟨rfl, by simp only; omega, by simp only; omega⟩
theorem blk_no {W H : Int} {L : List Int} {x y : Int} (h1 : 0 ≤ x) (h2 : x ≤ W * 64) (h3 : 0 ≤ y) (h4 : y ≤ H * 64)
    (hall : ∀ b a : Int, -1 ≤ b → b ≤ H → -1 ≤ a → a ≤ W → ¬ (atB W H L a b = 2 ∧ a * 64 ≤ x ∧ x ≤ a * 64 + 64 ∧ b * 64 ≤ y ∧ y ≤ b * 64 + 64)) : blkP W H L x y = false := by
  unfold blkP
  rw [decide_eq_false (by omega), Bool.false_or, List.any_eq_false]
  intro c hc
  have hat := cl_at hc
  rw [decide_eq_true_eq]
  intro hw
  exact hall c.Y c.X (by omega) (by omega) (by omega) (by omega) ⟨hw, hat.1.1, hat.1.2, hat.2.1, hat.2.2⟩
theorem blk_out {W H : Int} {L : List Int} {x y : Int} (h : x < 0 ∨ y < 0 ∨ W * 64 < x ∨ H * 64 < y) : blkP W H L x y = true := by
  unfold blkP
  rw [decide_eq_true h]; rfl
def wghM (W H : Int) (L : List Int) (rng : Int) (S : List CC) (A : List PP) (k : Nat) : List PP := (List.range k).map fun i => wghP W H L rng S (A.getD i eP.dflt)
theorem wghM_len (W H : Int) (L : List Int) (rng : Int) (S : List CC) (A : List PP) (k : Nat) : (wghM W H L rng S A k).length = k := by simp [wghM]
theorem wghM_succ (W H : Int) (L : List Int) (rng : Int) (S : List CC) (A : List PP) (k : Nat) : wghM W H L rng S A (k + 1) = wghM W H L rng S A k ++ [wghP W H L rng S (A.getD k eP.dflt)] := by simp [wghM, List.range_succ]
theorem wghM_all {W H : Int} {L : List Int} {rng : Int} {S : List CC} {A : List PP} (e : wghE W H L rng S A = 0) : wghM W H L rng S A A.length = wghL W H L rng S A := by
  unfold wghL
  rw [if_pos e]
  apply List.ext_getElem
  · simp [wghM, wghR]
  · intro i h1 h2
    have hi : i < A.length := by simpa [wghM] using h1
    simp only [wghM, wghR, List.getElem_map, List.getElem_range]
    rw [if_pos hi]
instance : DecidableEq PP := fun a b => decidable_of_iff (a.X = b.X ∧ a.Y = b.Y ∧ a.H = b.H ∧ a.W = b.W) ⟨fun h => by cases a; cases b; simp only at h; obtain ⟨h1, h2, h3, h4⟩ := h; subst h1; subst h2; subst h3; subst h4; rfl, fun h => by subst h; exact ⟨rfl, rfl, rfl, rfl⟩⟩
def sameB (L M : List PP) : Bool := decide (L = M)
theorem same_false {L M : List PP} {k : Nat} (h : L.getD k eP.dflt ≠ M.getD k eP.dflt) : sameB L M = false := by
  unfold sameB
  rw [decide_eq_false_iff_not]
  intro e; rw [e] at h; exact h rfl
theorem same_len {L M : List PP} (h : L.length ≠ M.length) : sameB L M = false := by
  unfold sameB
  rw [decide_eq_false_iff_not]
  intro e; rw [e] at h; exact h rfl
theorem same_true {L M : List PP} (hl : L.length = M.length) (h : ∀ i, i < L.length → L.getD i eP.dflt = M.getD i eP.dflt) : sameB L M = true := by
  unfold sameB
  rw [decide_eq_true_eq]
  apply List.ext_getElem hl
  intro i h1 h2
  have := h i h1
  rw [List.getD_eq_getElem?_getD, List.getD_eq_getElem?_getD, List.getElem?_eq_getElem h1, List.getElem?_eq_getElem h2] at this
  exact this
theorem same_self (L : List PP) : sameB L L = true := by simp [sameB]
theorem PP_ext {p q : PP} (h1 : p.X = q.X) (h2 : p.Y = q.Y) (h3 : p.H = q.H) (h4 : p.W = q.W) : p = q := by
  cases p; cases q; simp only at h1 h2 h3 h4; subst h1; subst h2; subst h3; subst h4; rfl
theorem valid_false {L : List PP} {k : Nat} (hk : k < L.length) (h : wrongP (L.getD k eP.dflt) = true) : validL L = false := by
  unfold validL
  have : L.any wrongP = true := by
    rw [List.any_eq_true]
    refine ⟨_, ?_, h⟩
    rw [List.getD_eq_getElem?_getD, List.getElem?_eq_getElem hk]
    exact List.getElem_mem hk
  rw [this]; simp
theorem valid_long {L : List PP} (h : 1024 < L.length) : validL L = false := by
  unfold validL
  rw [decide_eq_false (by omega)]; rfl
theorem valid_true {L : List PP} (hl : L.length ≤ 1024) (h : ∀ i, i < L.length → wrongP (L.getD i eP.dflt) = false) : validL L = true := by
  unfold validL
  have : L.any wrongP = false := by
    rw [List.any_eq_false]
    intro x hx
    obtain ⟨i, hi, rfl⟩ := List.getElem_of_mem hx
    have := h i hi
    rw [List.getD_eq_getElem?_getD, List.getElem?_eq_getElem hi] at this
    simpa using this
  rw [this, decide_eq_true hl]; rfl

def x22L0 : XC := (.seq (.seq (.reg false [O1 45 .mv 10, O1 46 (.fld 0) 4, O1 47 .load1 46, O2 48 (.bin .leq) 45 47]) (.cond (.t 48) .skip (.exit 2))) (.seq (.block 3 (.seq (.reg false [O1 51 .mv 10, O1 52 .mv 9, ⟨(some 53), (.build [(iV 0), (iV 0)] [(0, 1), (1, 1)]), [(.t 51), (.t 52)], none⟩, ⟨(some 11), (.alloc 74 [(iV 0), (iV 0)]), [], none⟩, ⟨none, (.store 2), [(.t 11), (.t 53)], none⟩]) (.seq (.reg false [O1 54 (.loadN 2) 11, O1 55 (.call 43) 54, ⟨(some 12), (.alloc 83 [(iV 0), (iV 0), (iV 0), (iV 0)]), [], none⟩, ⟨none, (.store 4), [(.t 12), (.t 55)], none⟩]) (.seq (.reg false [O1 56 (.loadN 3) 4, O1 57 (.loadN 2) 11, O2 58 (.call 44) 56 57, K2 59 (.bin .eql) 58 (.int .u8 2), O1 60 .mv 59, G1 61 (.fld 0) 5 60 true, G1 62 .load1 61 60 true, G1 63 (.fld 0) 12 60 true, G1 64 .load1 63 60 true, G2 65 (.bin .geq) 62 64 60 true, ⟨(some 66), .pick, [(.t 60), (.t 65), (.k (.bool false))], none⟩, O1 67 .mv 66, G1 68 (.fld 0) 5 67 true, G1 69 .load1 68 67 true, G1 70 (.fld 2) 12 67 true, G1 71 .load1 70 67 true, G2 72 (.bin .leq) 69 71 67 true, ⟨(some 73), .pick, [(.t 67), (.t 72), (.k (.bool false))], none⟩, O1 74 .mv 73, G1 75 (.fld 1) 5 74 true, G1 76 .load1 75 74 true, G1 77 (.fld 1) 12 74 true, G1 78 .load1 77 74 true, G2 79 (.bin .geq) 76 78 74 true, ⟨(some 80), .pick, [(.t 74), (.t 79), (.k (.bool false))], none⟩, O1 81 .mv 80, G1 82 (.fld 1) 5 81 true, G1 83 .load1 82 81 true, G1 84 (.fld 3) 12 81 true, G1 85 .load1 84 81 true, G2 86 (.bin .leq) 83 85 81 true, ⟨(some 87), .pick, [(.t 81), (.t 86), (.k (.bool false))], none⟩]) (.cond (.t 87) (.seq (.reg false [K1 8 .mv (iV 0)]) .ret) .skip))))) (.reg false [O1 49 .mv 10, K2 50 (.bin .add) 49 (iV 1), O1 10 .mv 50])))
def x22L1 : XC := (.seq (.seq (.reg false [O1 39 .mv 9, O1 40 (.fld 1) 4, O1 41 .load1 40, O2 42 (.bin .leq) 39 41]) (.cond (.t 42) .skip (.exit 0))) (.seq (.block 1 (.seq (.reg false [K1 10 .mv (iV (-1))]) (.block 2 (.loop x22L0)))) (.reg false [O1 43 .mv 9, K2 44 (.bin .add) 43 (iV 1), O1 9 .mv 44])))
def x22L2 : XC := (.seq (.seq (.reg false [O1 88 .mv 14, O1 89 .mv 2, O1 90 .lenS 89, O2 91 (.bin .lss) 88 90]) (.cond (.t 91) .skip (.exit 4))) (.seq (.block 5 (.seq (.reg true [O1 94 (.loadN 3) 4, O1 95 (.loadN 3) 5, O1 96 .mv 2, O1 97 .mv 14, O2 98 (.ixS 2) 96 97, O1 99 (.loadN 2) 98, O1 100 .mv 3, ⟨(some 101), (.call 45), [(.t 94), (.t 95), (.t 99), (.t 100)], none⟩]) (.cond (.t 101) (.reg false [O1 102 .mv 13, K2 103 (.bin .add) 102 (iV 1), O1 13 .mv 103]) .skip))) (.reg false [O1 92 .mv 14, K2 93 (.bin .add) 92 (iV 1), O1 14 .mv 93])))
def x22 : XFn := ⟨109, (.seq (.reg false [O1 4 (.box 25) 0, O1 5 (.box 37) 1, K1 8 .mv (iV 0)]) (.seq (.seq (.reg false [O1 15 (.fld 0) 5, O1 16 .load1 15, K2 17 (.bin .lss) 16 (iV 0), O1 18 .mv 17, G1 19 (.fld 0) 5 18 false, G1 20 .load1 19 18 false, G1 21 (.fld 0) 4 18 false, G1 22 .load1 21 18 false, GK 23 (.bin .mul) 22 (iV 64) 18 false, G2 24 (.bin .gtr) 20 23 18 false, ⟨(some 25), .pick, [(.t 18), (.k (.bool true)), (.t 24)], none⟩, O1 26 .mv 25, G1 27 (.fld 1) 5 26 false, G1 28 .load1 27 26 false, GK 29 (.bin .lss) 28 (iV 0) 26 false, ⟨(some 30), .pick, [(.t 26), (.k (.bool true)), (.t 29)], none⟩, O1 31 .mv 30, G1 32 (.fld 1) 5 31 false, G1 33 .load1 32 31 false, G1 34 (.fld 1) 4 31 false, G1 35 .load1 34 31 false, GK 36 (.bin .mul) 35 (iV 64) 31 false, G2 37 (.bin .gtr) 33 36 31 false, ⟨(some 38), .pick, [(.t 31), (.k (.bool true)), (.t 37)], none⟩]) (.cond (.t 38) (.seq (.reg false [K1 8 .mv (iV 0)]) .ret) .skip)) (.seq (.seq (.reg false [K1 9 .mv (iV (-1))]) (.block 0 (.loop x22L1))) (.seq (.reg false [K1 13 .mv (iV 0)]) (.seq (.seq (.reg false [K1 14 .mv (iV 0)]) (.block 4 (.loop x22L2))) (.seq (.reg false [O1 104 .mv 13, ⟨(some 105), (.bin .add), [(.k (iV 1)), (.t 104)], none⟩, O1 106 .mv 13, ⟨(some 107), (.bin .add), [(.k (iV 1)), (.t 106)], none⟩, O2 108 (.bin .mul) 105 107, O1 8 .mv 108]) .ret)))))), [(.s 8)]⟩
theorem x22_ok : xfn Tryz.prog Tryz.f22 = some x22.er := by kernel_rfl
def x7L0 : XC := (.seq (.seq (.reg false [O1 33 .mv 11, O1 34 .mv 0, O1 35 .lenS 34, O2 36 (.bin .lss) 33 35]) (.cond (.t 36) .skip (.exit 0))) (.seq (.block 1 (.regD [O1 39 .mv 10, O1 40 .mv 0, O1 41 .mv 11, O2 42 (.ixS 4) 40 41, O1 43 (.fld 0) 42, O1 44 (.loadN 3) 43, O1 45 (.loadN 3) 5, O1 46 .mv 0, O1 47 .mv 11, O2 48 (.ixS 4) 46 47, O1 49 (.fld 0) 48, O1 50 (.loadN 3) 49, O1 51 .mv 2, O1 52 .mv 3, ⟨(some 53), (.call 22), [(.t 45), (.t 50), (.t 51), (.t 52)], none⟩, ⟨(some 54), (.build [(iV 0), (iV 0), (iV 0), (iV 0)] [(0, 3), (3, 1)]), [(.t 44), (.t 53)], none⟩, ⟨(some 55), (.slit 39 1 4 [(iV 0), (iV 0), (iV 0), (iV 0)] [(0, 4)]), [(.t 54)], none⟩, O2 56 (.app 39 4 32) 39 55, O1 10 .mv 56] [[], [], [], [1, 2], [3, 1, 2], [4, 3, 1, 2], [], [], [], [7, 8], [9, 7, 8], [10, 9, 7, 8], [], [], [6, 11, 10, 9, 7, 8, 12, 13], [5, 4, 3, 1, 2, 14, 6, 11, 10, 9, 7, 8, 12, 13], [15, 5, 4, 3, 1, 2, 14, 6, 11, 10, 9, 7, 8, 12, 13], [0, 16, 15, 5, 4, 3, 1, 2, 14, 6, 11, 10, 9, 7, 8, 12, 13], [17, 0, 16, 15, 5, 4, 3, 1, 2, 14, 6, 11, 10, 9, 7, 8, 12, 13]])) (.reg false [O1 37 .mv 11, K2 38 (.bin .add) 37 (iV 1), O1 11 .mv 38])))
def x7 : XFn := ⟨58, (.seq (.reg false [O1 5 (.box 25) 1, K1 8 .mv (.slice none 0 0), K1 9 .mv (iV 0)]) (.seq (.seq (.reg false [O1 12 .mv 0, O1 13 (.call 19) 12, O1 14 (.un .not) 13, O1 15 .mv 14, G1 16 (.loadN 3) 5 15 false, G1 17 (.call 20) 16 15 false, G1 18 (.un .not) 17 15 false, ⟨(some 19), .pick, [(.t 15), (.k (.bool true)), (.t 18)], none⟩, O1 20 .mv 19, G1 21 .mv 2 20 false, G1 22 (.call 21) 21 20 false, G1 23 (.un .not) 22 20 false, ⟨(some 24), .pick, [(.t 20), (.k (.bool true)), (.t 23)], none⟩, O1 25 .mv 24, G1 26 .mv 3 25 false, GK 27 (.bin .lss) 26 (iV 1) 25 false, ⟨(some 28), .pick, [(.t 25), (.k (.bool true)), (.t 27)], none⟩, O1 29 .mv 28, G1 30 .mv 3 29 false, GK 31 (.bin .gtr) 30 (iV 32) 29 false, ⟨(some 32), .pick, [(.t 29), (.k (.bool true)), (.t 31)], none⟩]) (.cond (.t 32) (.seq (.reg false [K1 8 .mv (.slice none 0 0), K1 9 .mv (iV 1)]) .ret) .skip)) (.seq (.reg false [K1 10 .mv (.slice none 0 0)]) (.seq (.seq (.reg false [K1 11 .mv (iV 0)]) (.block 0 (.loop x7L0))) (.seq (.reg false [O1 57 .mv 10, O1 8 .mv 57, K1 9 .mv (iV 0)]) .ret))))), [(.s 8), (.s 9)]⟩
theorem x7_ok : xfn Tryz.prog Tryz.f7 = some x7.er := by kernel_rfl
def x8L0 : XC := (.seq (.seq (.reg false [O1 11 .mv 5, O1 12 .mv 0, O1 13 .lenS 12, O2 14 (.bin .lss) 11 13]) (.cond (.t 14) .skip (.exit 0))) (.seq (.block 1 (.seq (.reg true [O1 17 .mv 0, O1 18 .mv 5, O2 19 (.ixS 4) 17 18, O1 20 (.loadN 4) 19, O1 21 .mv 1, O1 22 .mv 5, O2 23 (.ixS 4) 21 22, O1 24 (.loadN 4) 23, ⟨(some 25), (.eqA true [(.i .i64), (.i .i64), (.i .i64), (.i .i64)]), [(.t 20), (.t 24)], none⟩]) (.cond (.t 25) (.seq (.reg false [K1 4 .mv (.bool false)]) .ret) .skip))) (.reg false [O1 15 .mv 5, K2 16 (.bin .add) 15 (iV 1), O1 5 .mv 16])))
def x8 : XFn := ⟨26, (.seq (.reg false [K1 4 .mv (.bool false)]) (.seq (.seq (.reg false [O1 6 .mv 0, O1 7 .lenS 6, O1 8 .mv 1, O1 9 .lenS 8, O2 10 (.bin .neq) 7 9]) (.cond (.t 10) (.seq (.reg false [K1 4 .mv (.bool false)]) .ret) .skip)) (.seq (.seq (.reg false [K1 5 .mv (iV 0)]) (.block 0 (.loop x8L0))) (.seq (.reg false [K1 4 .mv (.bool true)]) .ret)))), [(.s 4)]⟩
theorem x8_ok : xfn Tryz.prog Tryz.f8 = some x8.er := by kernel_rfl
/-- wayfinder/wayfinderref21.weight -/
def g22 : Con := fun args_ E_ nn_ => match args_ with
  | [.a [.v (.int .i64 p_W), .v (.int .i64 p_H), .n p_Cells], .a [.v (.int .i64 at_X), .v (.int .i64 at_Y), .v (.int .i64 at_H)], .c (.n s), .c (.v (.int .i64 rng))] => (match rowOf E_ p_Cells with
    | some (p_Cells_n, p_Cells_s, p_Cells_f) => (match rowOf E_ s with
    | some (s_n, s_s, s_f) => some (.q (isRow eU8 p_Cells_n p_Cells_s p_Cells_f ∧ isRow eC s_n s_s s_f ∧ planB p_W p_H (decL eU8 p_Cells_n p_Cells_f) = true ∧ ((decL eC s_n s_f)).length ≤ 1000000) (.o (.c (.v (.int .i64 ((wghW p_W p_H (decL eU8 p_Cells_n p_Cells_f) rng (decL eC s_n s_f) ⟨at_X, at_Y, at_H, 0⟩)))))))
    | none => none)
    | none => none)
  | _ => none
theorem c22 : COk Tryz.prog 22 g22 := by
  refine cok_q Tryz.func22 x22_ok (by kernel_rfl) (cok_tab (cok_cons c43 (cok_cons c44 (cok_cons c45 cok_nil)))) ?_
  intro args_ E_ nn_ cr_ hg_
  unfold g22 at hg_
  split at hg_
  · rename_i p_W p_H p_Cells at_X at_Y at_H s rng
    split at hg_
    · rename_i p_Cells_n p_Cells_s p_Cells_f h_p_Cells
      split at hg_
      · rename_i s_n s_s s_f h_s
        cases hg_
        refine ⟨_, _, rfl, 2, [p_Cells, s], [.a [.v (.int .i64 p_W), .v (.int .i64 p_H), .n 0], .a [.v (.int .i64 at_X), .v (.int .i64 at_Y), .v (.int .i64 at_H)], .c (.n 1), .c (.v (.int .i64 rng))], [(0, .ro (decL eU8 p_Cells_n p_Cells_f).length eU8.sz (rowF eU8 (decL eU8 p_Cells_n p_Cells_f))), (1, .ro (decL eC s_n s_f).length eC.sz (rowF eC (decL eC s_n s_f)))], .o (.c (.v (.int .i64 ((wghW p_W p_H (decL eU8 p_Cells_n p_Cells_f) rng (decL eC s_n s_f) ⟨at_X, at_Y, at_H, 0⟩))))), rfl, rfl, by simp only [push_cast, Nat.reduceLT, Nat.reduceAdd], by simp only [push_cast, Nat.reduceLT, Nat.reduceAdd], by simp only [push_cast, Nat.reduceLT, Nat.reduceAdd], rfl, ⟨inE0_row h_p_Cells, inE0_row h_s, trivial⟩, rfl, ?_⟩
        intro hpre hlen
        obtain ⟨i_p_Cells, hpre⟩ := hpre
        obtain ⟨i_s, hpre⟩ := hpre
        refine ⟨⟨inE_row h_p_Cells i_p_Cells, inE_row h_s i_s, trivial⟩, ?_⟩
        have z_p_Cells := lens_row (E := eU8) hlen h_p_Cells
        have z_s := lens_row (E := eC) hlen h_s
        clear i_p_Cells
        generalize decL eU8 p_Cells_n p_Cells_f = p_CellsL at *
        clear i_s
        generalize decL eC s_n s_f = sL at *
        clear h_p_Cells
        clear h_s
        obtain ⟨hpre, hs6⟩ := hpre
        simp (config := {maxSteps := 10000000}) only [x22, push_cast, Nat.reduceAdd, Nat.reduceSub, Nat.reduceLeDiff, Nat.reduceEqDiff, Nat.reduceBEq, Nat.reduceMul, Nat.reduceLT, reduceIte, reduceCtorEq, Int.reduceLE, Int.reduceLT, Int.reduceEq, Int.reduceMul, Int.reduceAdd, Int.reduceSub, Int.reduceNeg, Int.reduceToNat, Int.reduceNe, g43, g44, g45]
        have pp := planB_at hpre
        rw [wrapI (n := p_W * 64) (by omega) (by omega), wrapI (n := p_H * 64) (by omega) (by omega)]
        refine ⟨fun h => ?_, fun a1 a2 a3 a4 => ?_⟩
        · unfold wghW; rw [if_pos (blk_out (by simp only; omega))]
        refine vcLoop_upd (α := {j : Nat // (j : Int) ≤ p_H + 2 ∧ ∀ b a : Int, -1 ≤ b → b < (j : Int) - 1 → -1 ≤ a → a ≤ p_W → ¬ (atB p_W p_H p_CellsL a b = 2 ∧ a * 64 ≤ at_X ∧ at_X ≤ a * 64 + 64 ∧ b * 64 ≤ at_Y ∧ at_Y ≤ b * 64 + 64)}) [2, 3, 4, 5] 0 (fun s => [(9, .o (.c (.v (.int .i64 ((s.1 : Nat) - 1)))))]) (fun s => []) (fun s => (p_H + 2).toNat - s.1) ⟨0, by omega, fun b a h1 h2 => by omega⟩ ?_ ?_
        · simp only [push_cast, Nat.reduceAdd, Nat.reduceSub, Nat.reduceLeDiff, Nat.reduceEqDiff, Nat.reduceBEq, Nat.reduceMul, Nat.reduceLT, reduceIte, reduceCtorEq, Int.reduceLE, Int.reduceLT, Int.reduceEq, Int.reduceMul, Int.reduceAdd, Int.reduceSub, Int.reduceNeg, Int.reduceToNat, Int.reduceNe, g43, g44, g45]
        rintro ⟨j, hj, hz⟩
        simp only [x22L1, push_cast, Nat.reduceAdd, Nat.reduceSub, Nat.reduceLeDiff, Nat.reduceEqDiff, Nat.reduceBEq, Nat.reduceMul, Nat.reduceLT, reduceIte, reduceCtorEq, Int.reduceLE, Int.reduceLT, Int.reduceEq, Int.reduceMul, Int.reduceAdd, Int.reduceSub, Int.reduceNeg, Int.reduceToNat, Int.reduceNe, g43, g44, g45]
        refine ⟨fun hle => ?_, fun hle => ?_⟩
        · refine vcLoop_upd (α := {i : Nat // (i : Int) ≤ p_W + 2 ∧ ∀ a : Int, -1 ≤ a → a < (i : Int) - 1 → ¬ (atB p_W p_H p_CellsL a ((j : Int) - 1) = 2 ∧ a * 64 ≤ at_X ∧ at_X ≤ a * 64 + 64 ∧ ((j : Int) - 1) * 64 ≤ at_Y ∧ at_Y ≤ ((j : Int) - 1) * 64 + 64)}) [2, 3, 4, 5, 9] 0 (fun s => [(10, .o (.c (.v (.int .i64 ((s.1 : Nat) - 1)))))]) (fun s => []) (fun s => (p_W + 2).toNat - s.1) ⟨0, by omega, fun a h1 h2 => by omega⟩ ?_ ?_
          · simp only [push_cast, Nat.reduceAdd, Nat.reduceSub, Nat.reduceLeDiff, Nat.reduceEqDiff, Nat.reduceBEq, Nat.reduceMul, Nat.reduceLT, reduceIte, reduceCtorEq, Int.reduceLE, Int.reduceLT, Int.reduceEq, Int.reduceMul, Int.reduceAdd, Int.reduceSub, Int.reduceNeg, Int.reduceToNat, Int.reduceNe, g43, g44, g45]
          rintro ⟨i, hi, hy⟩
          simp only [x22L0, push_cast, Nat.reduceAdd, Nat.reduceSub, Nat.reduceLeDiff, Nat.reduceEqDiff, Nat.reduceBEq, Nat.reduceMul, Nat.reduceLT, reduceIte, reduceCtorEq, Int.reduceLE, Int.reduceLT, Int.reduceEq, Int.reduceMul, Int.reduceAdd, Int.reduceSub, Int.reduceNeg, Int.reduceToNat, Int.reduceNe, g43, g44, g45]
          refine ⟨fun hle2 => ⟨⟨⟨by omega, by omega⟩, by omega, by omega⟩, hpre, fun e1 e2 e3 e4 e5 => ?_, fun e => ⟨⟨i + 1, by omega, fun a h1 h2 => ?_⟩, (wrapI (by omega) (by omega)).trans (by simp only; omega), by simp only; omega⟩⟩, fun hle2 => ⟨⟨j + 1, by omega, fun b a h1 h2 h3 h4 => ?_⟩, (wrapI (by omega) (by omega)).trans (by simp only; omega), by simp only; omega⟩⟩
          · unfold wghW; rw [if_pos (blk_yes hpre (by omega) (by omega) (by omega) (by omega) e1 e2 e3 e4 e5)]
          · by_cases q : a < (i : Int) - 1
            · exact hy a h1 q
            · obtain rfl : a = (i : Int) - 1 := by omega
              rintro ⟨g1, g2, g3, g4, g5⟩
              rw [g1, decide_eq_true g2, decide_eq_true g3, decide_eq_true g4, decide_eq_true g5] at e
              exact Bool.noConfusion e
          · by_cases q : b < (j : Int) - 1
            · exact hz b a h1 q h3 h4
            · obtain rfl : b = (j : Int) - 1 := by omega
              exact hy a h3 (by omega)
        · have hbf : blkP p_W p_H p_CellsL at_X at_Y = false := blk_no (by omega) (by omega) (by omega) (by omega) (fun b a h1 h2 h3 h4 => hz b a h1 (by omega) h3 h4)
          refine vcLoop_upd (α := {k : Nat // k ≤ sL.length}) [2, 3, 4, 5] 0 (fun s => [(13, .o (.c (.v (.int .i64 (cntS p_W p_H p_CellsL at_X at_Y at_H rng sL s.1))))), (14, .o (.c (.v (.int .i64 (s.1 : Nat)))))]) (fun s => []) (fun s => sL.length - s.1) ⟨0, Nat.zero_le _⟩ ?_ ?_
          · simp only [push_cast, Nat.reduceAdd, Nat.reduceSub, Nat.reduceLeDiff, Nat.reduceEqDiff, Nat.reduceBEq, Nat.reduceMul, Nat.reduceLT, reduceIte, reduceCtorEq, Int.reduceLE, Int.reduceLT, Int.reduceEq, Int.reduceMul, Int.reduceAdd, Int.reduceSub, Int.reduceNeg, Int.reduceToNat, Int.reduceNe, g43, g44, g45, cntS]
          rintro ⟨k, hk⟩
          simp only [x22L2, push_cast, Nat.reduceAdd, Nat.reduceSub, Nat.reduceLeDiff, Nat.reduceEqDiff, Nat.reduceBEq, Nat.reduceMul, Nat.reduceLT, reduceIte, reduceCtorEq, Int.reduceLE, Int.reduceLT, Int.reduceEq, Int.reduceMul, Int.reduceAdd, Int.reduceSub, Int.reduceNeg, Int.reduceToNat, Int.reduceNe, g43, g44, g45]
          have hc := cntS_bd p_W p_H p_CellsL at_X at_Y at_H rng sL k
          refine ⟨fun hlt => ⟨hlt, hlt, fun hp => ⟨⟨k + 1, by omega⟩, ⟨?_, wrapI (by omega) (by omega)⟩, by simp only; omega⟩, fun hp => ⟨⟨k + 1, by omega⟩, ⟨?_, wrapI (by omega) (by omega)⟩, by simp only; omega⟩⟩, fun hge => ?_⟩
          · simp only [cntS]
            rw [if_pos hp, wrapI (by omega) (by omega)]
          · simp only [cntS]
            rw [if_neg (by rw [hp]; exact Bool.false_ne_true)]; omega
          · obtain rfl : k = sL.length := by omega
            unfold wghW
            rw [if_neg (by simp only; rw [hbf]; exact Bool.false_ne_true)]
            simp only
            generalize cntS p_W p_H p_CellsL at_X at_Y at_H rng sL sL.length = c at *
            have hm := mul_bd (a := 1 + c) (b := 1 + c) (A := 1000001) (B := 1000001) (by omega) (by omega) (by omega) (by omega)
            rw [wrapI (n := 1 + c) (by omega) (by omega), wrapI (n := (1 + c) * (1 + c)) (by omega) (by omega)]
      · cases hg_
    · cases hg_
  · cases hg_
/-- wayfinder/wayfinderref21.Weigh -/
def g7 : Con := fun args_ E_ nn_ => match args_ with
  | [.c (.n l), .a [.v (.int .i64 p_W), .v (.int .i64 p_H), .n p_Cells], .c (.n s), .c (.v (.int .i64 rng))] => (match rowOf E_ l with
    | some (l_n, l_s, l_f) => (match rowOf E_ p_Cells with
    | some (p_Cells_n, p_Cells_s, p_Cells_f) => (match rowOf E_ s with
    | some (s_n, s_s, s_f) => some (.e (isRow eP l_n l_s l_f ∧ isRow eU8 p_Cells_n p_Cells_s p_Cells_f ∧ isRow eC s_n s_s s_f ∧ True) (.t [.c (.n (nn_ + 0)), .c (.v (.int .i64 (wghE p_W p_H (decL eU8 p_Cells_n p_Cells_f) rng (decL eC s_n s_f) (decL eP l_n l_f))))]) [((nn_ + 0), .own (wghL p_W p_H (decL eU8 p_Cells_n p_Cells_f) rng (decL eC s_n s_f) (decL eP l_n l_f)).length 4 (rowF eP (wghL p_W p_H (decL eU8 p_Cells_n p_Cells_f) rng (decL eC s_n s_f) (decL eP l_n l_f))) 39)] (nn_ + 1))
    | none => none)
    | none => none)
    | none => none)
  | _ => none
set_option maxHeartbeats 1000000 in
theorem c7 : COk Tryz.prog 7 g7 := by
  refine cok_e Tryz.func7 x7_ok (by kernel_rfl) (cok_tab (cok_cons c19 (cok_cons c20 (cok_cons c21 (cok_cons c22 cok_nil))))) ?_
  intro args_ E_ nn_ cr_ hg_
  unfold g7 at hg_
  split at hg_
  · rename_i l p_W p_H p_Cells s rng
    split at hg_
    · rename_i l_n l_s l_f h_l
      split at hg_
      · rename_i p_Cells_n p_Cells_s p_Cells_f h_p_Cells
        split at hg_
        · rename_i s_n s_s s_f h_s
          cases hg_
          refine ⟨_, _, _, _, rfl, 3, [l, p_Cells, s], [.c (.n 0), .a [.v (.int .i64 p_W), .v (.int .i64 p_H), .n 1], .c (.n 2), .c (.v (.int .i64 rng))], [(0, .ro (decL eP l_n l_f).length eP.sz (rowF eP (decL eP l_n l_f))), (1, .ro (decL eU8 p_Cells_n p_Cells_f).length eU8.sz (rowF eU8 (decL eU8 p_Cells_n p_Cells_f))), (2, .ro (decL eC s_n s_f).length eC.sz (rowF eC (decL eC s_n s_f)))], .t [.c (.n 3), .c (.v (.int .i64 (wghE p_W p_H (decL eU8 p_Cells_n p_Cells_f) rng (decL eC s_n s_f) (decL eP l_n l_f))))], [(3, .own (wghL p_W p_H (decL eU8 p_Cells_n p_Cells_f) rng (decL eC s_n s_f) (decL eP l_n l_f)).length 4 (rowF eP (wghL p_W p_H (decL eU8 p_Cells_n p_Cells_f) rng (decL eC s_n s_f) (decL eP l_n l_f))) 39)], 4, rfl, rfl, by simp only [renE, Ent.ren, rowF_renf] <;> rfl, rfl, by decide, by simp only [push_cast, Nat.reduceLT, Nat.reduceAdd], by simp only [push_cast, Nat.reduceLT, Nat.reduceAdd], by simp only [push_cast, Nat.reduceLT, Nat.reduceAdd], by simp only [push_cast, Nat.reduceLT, Nat.reduceAdd], rfl, ⟨inE0_row h_l, inE0_row h_p_Cells, inE0_row h_s, trivial⟩, by simp only [keysNodup, outN, keys] <;> decide, rfl, rfl, ?_⟩
          intro hpre hlen
          obtain ⟨i_l, hpre⟩ := hpre
          obtain ⟨i_p_Cells, hpre⟩ := hpre
          obtain ⟨i_s, hpre⟩ := hpre
          refine ⟨⟨inE_row h_l i_l, inE_row h_p_Cells i_p_Cells, inE_row h_s i_s, trivial⟩, by simp only [apartE] <;> (first | trivial | (simp [Ent.mut]; done)), ?_⟩
          have z_l := lens_row (E := eP) hlen h_l
          have z_p_Cells := lens_row (E := eU8) hlen h_p_Cells
          have z_s := lens_row (E := eC) hlen h_s
          clear i_l
          generalize decL eP l_n l_f = lL at *
          clear i_p_Cells
          generalize decL eU8 p_Cells_n p_Cells_f = p_CellsL at *
          clear i_s
          generalize decL eC s_n s_f = sL at *
          clear h_l
          clear h_p_Cells
          clear h_s
          simp (config := {maxSteps := 10000000}) only [x7, push_cast, Nat.reduceAdd, Nat.reduceSub, Nat.reduceLeDiff, Nat.reduceEqDiff, Nat.reduceBEq, Nat.reduceMul, Nat.reduceLT, reduceIte, reduceCtorEq, Int.reduceLE, Int.reduceLT, Int.reduceEq, Int.reduceMul, Int.reduceAdd, Int.reduceSub, Int.reduceNeg, Int.reduceToNat, Int.reduceNe, g19, g20, g21, g22]
          refine ⟨fun h => ?_, fun a1 a2 a3 a4 a5 => ?_⟩
          · have e : wghE p_W p_H p_CellsL rng sL lL = 1 := by
              unfold wghE
              rw [if_neg (by
                rintro ⟨h1, h2, h3, h4, h5⟩
                rw [h1, h2, h3] at h
                simp only [Bool.true_eq_false, false_or] at h
                omega)]
            unfold wghL
            rw [e]; exact ⟨rfl, rfl⟩
          have e : wghE p_W p_H p_CellsL rng sL lL = 0 := by unfold wghE; rw [if_pos ⟨a1, a2, a3, by omega, by omega⟩]
          have hl := valid_len a1
          have hs32 : sL.length ≤ 32 := by
            unfold scanB at a3
            simp only [Bool.and_eq_true, decide_eq_true_eq] at a3
            exact a3.1
          rw [e, ← wghM_all e]
          refine vcLoop_upd (α := {k : Nat // k ≤ lL.length}) [0, 2, 3, 5] 1 (fun s => [(10, .o (.c (.n 4))), (11, .o (.c (.v (.int .i64 (s.1 : Nat)))))]) (fun s => [(4, .own (wghM p_W p_H p_CellsL rng sL lL s.1).length 4 (rowF eP (wghM p_W p_H p_CellsL rng sL lL s.1)) 39)]) (fun s => lL.length - s.1) ⟨0, Nat.zero_le _⟩ ?_ ?_
          · simp only [push_cast, Nat.reduceAdd, Nat.reduceSub, Nat.reduceLeDiff, Nat.reduceEqDiff, Nat.reduceBEq, Nat.reduceMul, Nat.reduceLT, reduceIte, reduceCtorEq, Int.reduceLE, Int.reduceLT, Int.reduceEq, Int.reduceMul, Int.reduceAdd, Int.reduceSub, Int.reduceNeg, Int.reduceToNat, Int.reduceNe, g19, g20, g21, g22, wghM_len]
          rintro ⟨k, hk⟩
          simp only [x7L0, push_cast, Nat.reduceAdd, Nat.reduceSub, Nat.reduceLeDiff, Nat.reduceEqDiff, Nat.reduceBEq, Nat.reduceMul, Nat.reduceLT, reduceIte, reduceCtorEq, Int.reduceLE, Int.reduceLT, Int.reduceEq, Int.reduceMul, Int.reduceAdd, Int.reduceSub, Int.reduceNeg, Int.reduceToNat, Int.reduceNe, g19, g20, g21, g22, wghM_len]
          refine ⟨fun hlt => ⟨hlt, hlt, hlt, hlt, ⟨a2, by omega⟩, by omega, by rfl, ⟨k + 1, by omega⟩, ⟨wrapI (by omega) (by omega), rfl, ?_⟩, by simp only; omega⟩, fun hge => ?_⟩
          · have z := push_eq (E := eP) (L := wghM p_W p_H p_CellsL rng sL lL k) (L' := wghM p_W p_H p_CellsL rng sL lL (k + 1)) (x := wghP p_W p_H p_CellsL rng sL (lL.getD k eP.dflt)) (sz := 4) (b := [(4, SC.n 6), (0, SC.n 0), (2, SC.n 2), (3, SC.n 3), (1, SC.n 1)]) (wghM_succ _ _ _ _ _ _ _)
            rw [wghM_len] at z
            exact z.2
          · obtain rfl : k = lL.length := by omega
            exact ⟨rfl, (rowEq_rowF _ _ _ _).2 trivial⟩
        · cases hg_
      · cases hg_
    · cases hg_
  · cases hg_
/-- wayfinder/wayfinderlaw21.same -/
def g8 : Con := fun args_ E_ nn_ => match args_ with
  | [.c (.n a), .c (.n b)] => (match rowOf E_ a with
    | some (a_n, a_s, a_f) => (match rowOf E_ b with
    | some (b_n, b_s, b_f) => some (.q (isRow eP a_n a_s a_f ∧ isRow eP b_n b_s b_f ∧ True) (.o (.c (.v (.bool (sameB (decL eP a_n a_f) (decL eP b_n b_f)))))))
    | none => none)
    | none => none)
  | _ => none
theorem c8 : COk Tryz.prog 8 g8 := by
  refine cok_q Tryz.func8 x8_ok (by kernel_rfl) (cok_tab cok_nil) ?_
  intro args_ E_ nn_ cr_ hg_
  unfold g8 at hg_
  split at hg_
  · rename_i a b
    split at hg_
    · rename_i a_n a_s a_f h_a
      split at hg_
      · rename_i b_n b_s b_f h_b
        cases hg_
        refine ⟨_, _, rfl, 2, [a, b], [.c (.n 0), .c (.n 1)], [(0, .ro (decL eP a_n a_f).length eP.sz (rowF eP (decL eP a_n a_f))), (1, .ro (decL eP b_n b_f).length eP.sz (rowF eP (decL eP b_n b_f)))], .o (.c (.v (.bool (sameB (decL eP a_n a_f) (decL eP b_n b_f))))), rfl, rfl, by simp only [push_cast, Nat.reduceLT, Nat.reduceAdd], by simp only [push_cast, Nat.reduceLT, Nat.reduceAdd], by simp only [push_cast, Nat.reduceLT, Nat.reduceAdd], rfl, ⟨inE0_row h_a, inE0_row h_b, trivial⟩, rfl, ?_⟩
        intro hpre hlen
        obtain ⟨i_a, hpre⟩ := hpre
        obtain ⟨i_b, hpre⟩ := hpre
        refine ⟨⟨inE_row h_a i_a, inE_row h_b i_b, trivial⟩, ?_⟩
        have z_a := lens_row (E := eP) hlen h_a
        have z_b := lens_row (E := eP) hlen h_b
        clear i_a
        generalize decL eP a_n a_f = aL at *
        clear i_b
        generalize decL eP b_n b_f = bL at *
        clear h_a
        clear h_b
        simp (config := {maxSteps := 10000000}) only [x8, push_cast, Nat.reduceAdd, Nat.reduceSub, Nat.reduceLeDiff, Nat.reduceEqDiff, Nat.reduceBEq, Nat.reduceMul, Nat.reduceLT, reduceIte, reduceCtorEq, Int.reduceLE, Int.reduceLT, Int.reduceEq, Int.reduceMul, Int.reduceAdd, Int.reduceSub, Int.reduceNeg, Int.reduceToNat, Int.reduceNe]
        refine ⟨fun h => (same_len (by omega)).symm, fun h => ?_⟩
        refine vcLoop_upd (α := {k : Nat // k ≤ aL.length ∧ ∀ i, i < k → aL.getD i eP.dflt = bL.getD i eP.dflt}) [0, 1] 0 (fun s => [(5, .o (.c (.v (.int .i64 (s.1 : Nat)))))]) (fun s => []) (fun s => aL.length - s.1) ⟨0, by omega, fun i hi => by omega⟩ ?_ ?_
        · simp only [push_cast, Nat.reduceAdd, Nat.reduceSub, Nat.reduceLeDiff, Nat.reduceEqDiff, Nat.reduceBEq, Nat.reduceMul, Nat.reduceLT, reduceIte, reduceCtorEq, Int.reduceLE, Int.reduceLT, Int.reduceEq, Int.reduceMul, Int.reduceAdd, Int.reduceSub, Int.reduceNeg, Int.reduceToNat, Int.reduceNe]
        · rintro ⟨k, hk, hall⟩
          simp only [x8L0, push_cast, Nat.reduceAdd, Nat.reduceSub, Nat.reduceLeDiff, Nat.reduceEqDiff, Nat.reduceBEq, Nat.reduceMul, Nat.reduceLT, reduceIte, reduceCtorEq, Int.reduceLE, Int.reduceLT, Int.reduceEq, Int.reduceMul, Int.reduceAdd, Int.reduceSub, Int.reduceNeg, Int.reduceToNat, Int.reduceNe]
          refine ⟨fun hin => ⟨hin, hin, by omega, by omega, fun h => (same_false (k := k) (fun e => ?_)).symm, fun h1 h2 h3 h4 => ⟨⟨k + 1, by omega, fun i hi => ?_⟩, by rw [wrapI (by omega) (by omega)]; rfl, by simp only; omega⟩⟩, fun hn => (same_true (by omega) (fun i hi => hall i (by omega))).symm⟩
          · rw [e] at h; simp at h
          · by_cases hik : i = k
            · subst hik; exact PP_ext h1 h2 h3 h4
            · exact hall i (by omega)
      · cases hg_
    · cases hg_
  · cases hg_
def x3 : XFn := ⟨62, (.seq (.reg false [O1 3 (.box 28) 1, K1 4 .mv (.bool false)]) (.seq (.seq (.reg false [⟨(some 9), (.call 4), [], none⟩, O1 10 (.un .not) 9, O1 11 .mv 10, G1 12 .mv 0 11 false, G1 13 .lenS 12 11 false, GK 14 (.bin .gtr) 13 (iV 6) 11 false, G1 15 .mv 14 11 false, G1 16 .mv 0 15 true, G1 17 .lenS 16 15 true, GK 18 (.bin .lss) 17 (iV 1025) 15 true, ⟨(some 19), .pick, [(.t 15), (.t 18), (.k (.bool false))], (some (11, false))⟩, ⟨(some 20), .pick, [(.t 11), (.k (.bool true)), (.t 19)], none⟩, O1 21 .mv 20, G1 22 .mv 0 21 false, G1 23 .lenS 22 21 false, GK 24 (.bin .gtr) 23 (iV 1100) 21 false, ⟨(some 25), .pick, [(.t 21), (.k (.bool true)), (.t 24)], none⟩, O1 26 .mv 25, G1 27 (.loadN 5) 3 26 false, G1 28 (.call 5) 27 26 false, G1 29 (.un .not) 28 26 false, ⟨(some 30), .pick, [(.t 26), (.k (.bool true)), (.t 29)], none⟩]) (.cond (.t 30) (.seq (.reg false [⟨(some 31), (.call 4), [], none⟩, O1 4 .mv 31]) .ret) .skip)) (.seq (.reg false [O1 33 .mv 0, O1 34 (.fld 0) 3, O1 35 (.loadN 3) 34, O1 36 (.fld 3) 3, O1 37 .load1 36, O1 38 (.fld 4) 3, O1 39 .load1 38, ⟨(some 40), (.call 6), [(.t 33), (.t 35), (.t 37), (.t 39)], none⟩, O1 32 .mv 40, O1 41 (.ext 0) 32, O1 42 (.ext 1) 32, O1 5 .mv 41, O1 6 .mv 42]) (.seq (.reg false [O1 44 .mv 0, O1 45 (.fld 0) 3, O1 46 (.loadN 3) 45, O1 47 (.fld 3) 3, O1 48 .load1 47, O1 49 (.fld 4) 3, O1 50 .load1 49, ⟨(some 51), (.call 7), [(.t 44), (.t 46), (.t 48), (.t 50)], none⟩, O1 43 .mv 51, O1 52 (.ext 0) 43, O1 53 (.ext 1) 43, O1 7 .mv 52, O1 8 .mv 53]) (.seq (.reg false [O1 54 .mv 6, O1 55 .mv 8, O2 56 (.bin .eql) 54 55, O1 57 .mv 56, G1 58 .mv 5 57 true, G1 59 .mv 7 57 true, G2 60 (.call 8) 58 59 57 true, ⟨(some 61), .pick, [(.t 57), (.t 60), (.k (.bool false))], none⟩, O1 4 .mv 61]) .ret))))), [(.s 4)]⟩
theorem x3_ok : xfn Tryz.prog Tryz.f3 = some x3.er := by kernel_rfl
/-- wayfinder/wayfinderlaw21.ParticleWeighs -/
def g3 : Con := fun args_ E_ nn_ => match args_ with
  | [.c (.n l), .a [.v (.int .i64 x_Plan_W), .v (.int .i64 x_Plan_H), .n x_Plan_Cells, .n x_Scan, .v (.int .i64 x_Rng)]] => (match rowOf E_ l with
    | some (l_n, l_s, l_f) => (match rowOf E_ x_Plan_Cells with
    | some (x_Plan_Cells_n, x_Plan_Cells_s, x_Plan_Cells_f) => (match rowOf E_ x_Scan with
    | some (x_Scan_n, x_Scan_s, x_Scan_f) => some (.q (isRow eP l_n l_s l_f ∧ isRow eU8 x_Plan_Cells_n x_Plan_Cells_s x_Plan_Cells_f ∧ isRow eC x_Scan_n x_Scan_s x_Scan_f ∧ True) (.o (.c (.v (.bool (true))))))
    | none => none)
    | none => none)
    | none => none)
  | _ => none
theorem c3 : COk Tryz.prog 3 g3 := by
  refine cok_q Tryz.func3 x3_ok (by kernel_rfl) (cok_tab (cok_cons c4 (cok_cons c5 (cok_cons c6 (cok_cons c7 (cok_cons c8 cok_nil)))))) ?_
  intro args_ E_ nn_ cr_ hg_
  unfold g3 at hg_
  split at hg_
  · rename_i l x_Plan_W x_Plan_H x_Plan_Cells x_Scan x_Rng
    split at hg_
    · rename_i l_n l_s l_f h_l
      split at hg_
      · rename_i x_Plan_Cells_n x_Plan_Cells_s x_Plan_Cells_f h_x_Plan_Cells
        split at hg_
        · rename_i x_Scan_n x_Scan_s x_Scan_f h_x_Scan
          cases hg_
          refine ⟨_, _, rfl, 3, [l, x_Plan_Cells, x_Scan], [.c (.n 0), .a [.v (.int .i64 x_Plan_W), .v (.int .i64 x_Plan_H), .n 1, .n 2, .v (.int .i64 x_Rng)]], [(0, .ro (decL eP l_n l_f).length eP.sz (rowF eP (decL eP l_n l_f))), (1, .ro (decL eU8 x_Plan_Cells_n x_Plan_Cells_f).length eU8.sz (rowF eU8 (decL eU8 x_Plan_Cells_n x_Plan_Cells_f))), (2, .ro (decL eC x_Scan_n x_Scan_f).length eC.sz (rowF eC (decL eC x_Scan_n x_Scan_f)))], .o (.c (.v (.bool (true)))), rfl, rfl, by simp only [push_cast, Nat.reduceLT, Nat.reduceAdd], by simp only [push_cast, Nat.reduceLT, Nat.reduceAdd], by simp only [push_cast, Nat.reduceLT, Nat.reduceAdd], rfl, ⟨inE0_row h_l, inE0_row h_x_Plan_Cells, inE0_row h_x_Scan, trivial⟩, rfl, ?_⟩
          intro hpre hlen
          obtain ⟨i_l, hpre⟩ := hpre
          obtain ⟨i_x_Plan_Cells, hpre⟩ := hpre
          obtain ⟨i_x_Scan, hpre⟩ := hpre
          refine ⟨⟨inE_row h_l i_l, inE_row h_x_Plan_Cells i_x_Plan_Cells, inE_row h_x_Scan i_x_Scan, trivial⟩, ?_⟩
          have z_l := lens_row (E := eP) hlen h_l
          have z_x_Plan_Cells := lens_row (E := eU8) hlen h_x_Plan_Cells
          have z_x_Scan := lens_row (E := eC) hlen h_x_Scan
          clear i_l
          generalize decL eP l_n l_f = lL at *
          clear i_x_Plan_Cells
          generalize decL eU8 x_Plan_Cells_n x_Plan_Cells_f = x_Plan_CellsL at *
          clear i_x_Scan
          generalize decL eC x_Scan_n x_Scan_f = x_ScanL at *
          clear h_l
          clear h_x_Plan_Cells
          clear h_x_Scan
          simp (config := {maxSteps := 10000000}) only [x3, push_cast, Nat.reduceAdd, Nat.reduceSub, Nat.reduceLeDiff, Nat.reduceEqDiff, Nat.reduceBEq, Nat.reduceMul, Nat.reduceLT, reduceIte, reduceCtorEq, Int.reduceLE, Int.reduceLT, Int.reduceEq, Int.reduceMul, Int.reduceAdd, Int.reduceSub, Int.reduceNeg, Int.reduceToNat, Int.reduceNe, g4, g5, g6, g7, g8]
          exact fun _ _ _ _ => same_self _
        · cases hg_
      · cases hg_
    · cases hg_
  · cases hg_
end Go.Proofs.YtibahioojjligaaGreat
