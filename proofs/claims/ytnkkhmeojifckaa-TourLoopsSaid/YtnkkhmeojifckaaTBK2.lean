/- A part of the proof of a statement about this seat: how a function is stepped through, and plain laws. No conditions. -/
import Derived.Test.YtnkkhmeojifckaaRows
import Derived.Test.YtnkkhmeojifckaaTBSz4
import Derived.Test.YtnkkhmeojifckaaTBK1
import Derived.KernelRfl
set_option linter.unusedVariables false
set_option linter.unusedSimpArgs false
set_option maxRecDepth 20000
namespace Go.Proofs.Ytnkkhmeojifckaa
open Go.Sx
theorem shF_drop (l : List CC) : shF 1 (rowF eC l) = rowF eC (l.drop 1) := by
  funext e j
  have e1 : (l.drop 1).getD e eC.dflt = l.getD (e + 1) eC.dflt := by
    rw [List.getD_eq_getElem?_getD, List.getD_eq_getElem?_getD, List.getElem?_drop, Nat.add_comm 1 e]
  show rowF eC l (e + 1) j = _
  unfold rowF
  rw [e1]
def nrB (c d : CC) (i : Nat) : Bool := decide (d ∈ (nbr c).take i)
theorem near4 (c d : CC) : nrB c d 4 = adjB c d := by
  unfold nrB
  rw [Bool.eq_iff_iff, decide_eq_true_eq]
  exact nbr_adj
theorem near_s (c d : CC) (i : Nat) (x y : Int) (h : (nbr c).take (i + 1) = (nbr c).take i ++ [⟨x, y⟩]) : (nrB c d i || (d.X == x && d.Y == y)) = nrB c d (i + 1) := by
  unfold nrB
  rw [h, Bool.eq_iff_iff]
  simp only [Bool.or_eq_true, decide_eq_true_eq, Bool.and_eq_true, beq_iff_eq, List.mem_append, List.mem_singleton]
  constructor
  · rintro (g | ⟨g1, g2⟩)
    · exact .inl g
    · exact .inr (cc_ext g1 g2)
  · rintro (g | g)
    · exact .inl g
    · exact .inr ⟨by rw [g], by rw [g]⟩
def adjR (a b : CC) : Bool := decide (((-1048576 ≤ a.X ∧ a.X ≤ 1048576) ∧ -1048576 ≤ a.Y ∧ a.Y ≤ 1048576) ∧ (-1048576 ≤ b.X ∧ b.X ≤ 1048576) ∧ -1048576 ≤ b.Y ∧ b.Y ≤ 1048576) && adjB a b
theorem adjR_eq {a b : CC} (h : ((-1048576 ≤ a.X ∧ a.X ≤ 1048576) ∧ -1048576 ≤ a.Y ∧ a.Y ≤ 1048576) ∧ (-1048576 ≤ b.X ∧ b.X ≤ 1048576) ∧ -1048576 ≤ b.Y ∧ b.Y ≤ 1048576) : adjR a b = adjB a b := by
  unfold adjR
  rw [decide_eq_true h, Bool.true_and]
def x28L0 : XC := (.seq (.reg false [O2 21 (.bin .lss) 20 19]) (.seq (.cond (.t 21) .skip (.exit 0)) (.seq (.block 1 (.seq (.reg false [O2 22 (.ixS 2) 18 20, O1 23 (.loadN 2) 22, ⟨(some 6), (.alloc 26 [(iV 0), (iV 0)]), [], none⟩, ⟨none, (.store 2), [(.t 6), (.t 23)], none⟩]) (.seq (.reg false [O1 24 (.loadN 3) 2, O1 25 (.loadN 2) 6, O2 26 (.call 34) 24 25, O1 27 (.un .not) 26]) (.cond (.t 27) (.seq (.reg false [K1 4 .mv (iV 7)]) .ret) .skip)))) (.reg false [K2 28 (.bin .add) 20 (iV 1), O1 20 .mv 28]))))
def x28L1 : XC := (.seq (.reg false [K2 43 (.bin .lss) 42 (iV 4)]) (.seq (.cond (.t 43) .skip (.exit 4)) (.seq (.block 5 (.seq (.reg false [O2 44 (.ixN 4 2) 41 42, ⟨(some 11), (.alloc 26 [(iV 0), (iV 0)]), [], none⟩, ⟨none, (.store 2), [(.t 11), (.t 44)], none⟩]) (.reg false [O1 45 .mv 9, O1 46 .mv 45, G1 47 (.loadN 2) 8 46 false, G1 48 (.loadN 2) 11 46 false, ⟨(some 49), (.eqA false [(.i .i64), (.i .i64)]), [(.t 47), (.t 48)], (some (46, false))⟩, ⟨(some 50), .pick, [(.t 46), (.k (.bool true)), (.t 49)], none⟩, O1 9 .mv 50]))) (.reg false [K2 51 (.bin .add) 42 (iV 1), O1 42 .mv 51]))))
def x28L2 : XC := (.seq (.reg false [O2 33 (.bin .lss) 32 31]) (.seq (.cond (.t 33) .skip (.exit 2)) (.seq (.block 3 (.seq (.reg false [O1 34 .mv 32, O2 35 (.ixS 2) 30 32, O1 36 (.loadN 2) 35, ⟨(some 8), (.alloc 26 [(iV 0), (iV 0)]), [], none⟩, O1 7 .mv 34, ⟨none, (.store 2), [(.t 8), (.t 36)], none⟩]) (.seq (.reg false [K1 9 .mv (.bool false)]) (.seq (.seq (.reg false [O1 37 .mv 1, O1 38 .mv 7, O2 39 (.ixS 2) 37 38, O1 40 (.loadN 2) 39, O1 41 (.call 35) 40, K1 42 .mv (iV 0)]) (.block 4 (.loop x28L1))) (.seq (.reg false [O1 52 .mv 9, O1 53 (.un .not) 52]) (.cond (.t 53) (.seq (.reg false [K1 4 .mv (iV 9)]) .ret) .skip)))))) (.reg false [K2 54 (.bin .add) 32 (iV 1), O1 32 .mv 54]))))
def x28 : XFn := ⟨55, (.seq (.reg false [O1 2 (.box 24) 0, K1 4 .mv (iV 0)]) (.seq (.seq (.reg false [O1 12 (.loadN 3) 2, O1 13 (.call 33) 12, O1 14 (.un .not) 13]) (.cond (.t 14) (.seq (.reg false [K1 4 .mv (iV 1)]) .ret) .skip)) (.seq (.seq (.reg false [O1 15 .mv 1, O1 16 .lenS 15, K2 17 (.bin .eql) 16 (iV 0)]) (.cond (.t 17) (.seq (.reg false [K1 4 .mv (iV 7)]) .ret) .skip)) (.seq (.seq (.reg false [O1 18 .mv 1, O1 19 .lenS 18, K1 20 .mv (iV 0)]) (.block 0 (.loop x28L0))) (.seq (.seq (.reg false [O1 29 .mv 1, K2 30 (.slc 2 true false false) 29 (iV 1), O1 31 .lenS 30, K1 32 .mv (iV 0)]) (.block 2 (.loop x28L2))) (.seq (.reg false [K1 4 .mv (iV 0)]) .ret)))))), [(.s 4)]⟩
theorem x28_ok : xfn Try.prog Try.f28 = some x28.er := by kernel_rfl
def x27L0 : XC := (.seq (.reg false [O2 20 (.bin .lss) 19 18]) (.seq (.cond (.t 20) .skip (.exit 0)) (.seq (.block 1 (.seq (.reg false [O2 21 (.ixS 2) 17 19, O1 22 (.loadN 2) 21, ⟨(some 9), (.alloc 26 [(iV 0), (iV 0)]), [], none⟩, ⟨none, (.store 2), [(.t 9), (.t 22)], none⟩]) (.reg false [O1 23 .mv 7, O1 24 (.loadN 2) 9, ⟨none, .upm, [(.t 23), (.t 24), (.k (.bool true))], none⟩]))) (.reg false [K2 25 (.bin .add) 19 (iV 1), O1 19 .mv 25]))))
def x27 : XFn := ⟨28, (.seq (.reg false [O1 2 (.box 24) 0, K1 4 .mv (iV 0), K1 5 .mv (iV 0)]) (.seq (.seq (.reg false [O1 10 (.loadN 3) 2, O1 11 .mv 1, O2 12 (.call 28) 10 11, O1 6 .mv 12]) (.seq (.reg false [O1 13 .mv 6, K2 14 (.bin .neq) 13 (iV 0)]) (.cond (.t 14) (.seq (.reg false [O1 15 .mv 6, K1 4 .mv (iV 0), O1 5 .mv 15]) .ret) .skip))) (.seq (.reg false [⟨(some 16), .mkm, [], none⟩, O1 7 .mv 16]) (.seq (.seq (.reg false [O1 17 .mv 1, O1 18 .lenS 17, K1 19 .mv (iV 0)]) (.block 0 (.loop x27L0))) (.seq (.reg false [O1 26 .mv 7, O1 27 (.x .lenM) 26, O1 4 .mv 27, K1 5 .mv (iV 0)]) .ret))))), [(.s 4), (.s 5)]⟩
theorem x27_ok : xfn Try.prog Try.f27 = some x27.er := by kernel_rfl
def x25 : XFn := ⟨69, (.seq (.reg false [O1 2 (.box 26) 0, O1 3 (.box 26) 1, K1 4 .mv (.bool false)]) (.seq (.seq (.reg false [O1 5 (.fld 0) 2, O1 6 .load1 5, K2 7 (.call 41) 6 (iV 1048576), O1 8 (.un .not) 7, O1 9 .mv 8, G1 10 (.fld 1) 2 9 false, G1 11 .load1 10 9 false, GK 12 (.call 41) 11 (iV 1048576) 9 false, G1 13 (.un .not) 12 9 false, ⟨(some 14), .pick, [(.t 9), (.k (.bool true)), (.t 13)], none⟩, O1 15 .mv 14, G1 16 (.fld 0) 3 15 false, G1 17 .load1 16 15 false, GK 18 (.call 41) 17 (iV 1048576) 15 false, G1 19 (.un .not) 18 15 false, ⟨(some 20), .pick, [(.t 15), (.k (.bool true)), (.t 19)], none⟩, O1 21 .mv 20, G1 22 (.fld 1) 3 21 false, G1 23 .load1 22 21 false, GK 24 (.call 41) 23 (iV 1048576) 21 false, G1 25 (.un .not) 24 21 false, ⟨(some 26), .pick, [(.t 21), (.k (.bool true)), (.t 25)], none⟩]) (.cond (.t 26) (.seq (.reg false [K1 4 .mv (.bool false)]) .ret) .skip)) (.seq (.reg false [O1 27 (.fld 0) 2, O1 28 .load1 27, O1 29 (.fld 0) 3, O1 30 .load1 29, O2 31 (.bin .eql) 28 30, O1 32 .mv 31, G1 33 (.fld 1) 2 32 true, G1 34 .load1 33 32 true, G1 35 (.fld 1) 3 32 true, G1 36 .load1 35 32 true, G2 37 (.bin .sub) 34 36 32 true, GK 38 (.call 41) 37 (iV 1) 32 true, ⟨(some 39), .pick, [(.t 32), (.t 38), (.k (.bool false))], none⟩, O1 40 .mv 39, G1 41 (.fld 1) 2 40 true, G1 42 .load1 41 40 true, G1 43 (.fld 1) 3 40 true, G1 44 .load1 43 40 true, G2 45 (.bin .neq) 42 44 40 true, ⟨(some 46), .pick, [(.t 40), (.t 45), (.k (.bool false))], none⟩, O1 47 .mv 46, G1 48 (.fld 1) 2 47 false, G1 49 .load1 48 47 false, G1 50 (.fld 1) 3 47 false, G1 51 .load1 50 47 false, G2 52 (.bin .eql) 49 51 47 false, G1 53 .mv 52 47 false, G1 54 (.fld 0) 2 53 true, G1 55 .load1 54 53 true, G1 56 (.fld 0) 3 53 true, G1 57 .load1 56 53 true, G2 58 (.bin .sub) 55 57 53 true, GK 59 (.call 41) 58 (iV 1) 53 true, ⟨(some 60), .pick, [(.t 53), (.t 59), (.k (.bool false))], (some (47, false))⟩, G1 61 .mv 60 47 false, G1 62 (.fld 0) 2 61 true, G1 63 .load1 62 61 true, G1 64 (.fld 0) 3 61 true, G1 65 .load1 64 61 true, G2 66 (.bin .neq) 63 65 61 true, ⟨(some 67), .pick, [(.t 61), (.t 66), (.k (.bool false))], (some (47, false))⟩, ⟨(some 68), .pick, [(.t 47), (.k (.bool true)), (.t 67)], none⟩, O1 4 .mv 68]) .ret))), [(.s 4)]⟩
theorem x25_ok : xfn Try.prog Try.f25 = some x25.er := by kernel_rfl
def x18L0 : XC := (.seq (.seq (.reg false [O1 13 .mv 5, O1 14 .mv 1, O1 15 .lenS 14, O2 16 (.bin .lss) 13 15]) (.cond (.t 16) .skip (.exit 0))) (.seq (.block 1 (.seq (.reg true [O1 19 (.loadN 3) 2, O1 20 .mv 1, O1 21 .mv 5, O2 22 (.ixS 2) 20 21, O1 23 (.loadN 2) 22, O2 24 (.call 15) 19 23, K2 25 (.bin .neq) 24 (.int .u8 1)]) (.cond (.t 25) (.seq (.reg false [K1 4 .mv (iV 7)]) .ret) .skip))) (.reg false [O1 17 .mv 5, K2 18 (.bin .add) 17 (iV 1), O1 5 .mv 18])))
def x18L1 : XC := (.seq (.seq (.reg false [O1 26 .mv 6, O1 27 .mv 1, O1 28 .lenS 27, O2 29 (.bin .lss) 26 28]) (.cond (.t 29) .skip (.exit 2))) (.seq (.block 3 (.seq (.reg true [O1 32 .mv 1, O1 33 .mv 6, K2 34 (.bin .sub) 33 (iV 1), O2 35 (.ixS 2) 32 34, O1 36 (.loadN 2) 35, O1 37 .mv 1, O1 38 .mv 6, O2 39 (.ixS 2) 37 38, O1 40 (.loadN 2) 39, O2 41 (.call 25) 36 40, O1 42 (.un .not) 41]) (.cond (.t 42) (.seq (.reg false [K1 4 .mv (iV 9)]) .ret) .skip))) (.reg false [O1 30 .mv 6, K2 31 (.bin .add) 30 (iV 1), O1 6 .mv 31])))
def x18 : XFn := ⟨43, (.seq (.reg false [O1 2 (.box 24) 0, K1 4 .mv (iV 0)]) (.seq (.seq (.reg false [O1 7 (.loadN 3) 2, O1 8 (.call 14) 7, O1 9 (.un .not) 8]) (.cond (.t 9) (.seq (.reg false [K1 4 .mv (iV 1)]) .ret) .skip)) (.seq (.seq (.reg false [O1 10 .mv 1, O1 11 .lenS 10, K2 12 (.bin .eql) 11 (iV 0)]) (.cond (.t 12) (.seq (.reg false [K1 4 .mv (iV 7)]) .ret) .skip)) (.seq (.seq (.reg false [K1 5 .mv (iV 0)]) (.block 0 (.loop x18L0))) (.seq (.seq (.reg false [K1 6 .mv (iV 1)]) (.block 2 (.loop x18L1))) (.seq (.reg false [K1 4 .mv (iV 0)]) .ret)))))), [(.s 4)]⟩
theorem x18_ok : xfn Try.prog Try.f18 = some x18.er := by kernel_rfl
def x17L0 : XC := (.seq (.seq (.reg false [O1 5 .mv 4, O1 6 .mv 0, O1 7 .lenS 6, O2 8 (.bin .lss) 5 7]) (.cond (.t 8) .skip (.exit 0))) (.seq (.block 1 (.seq (.reg false [O1 11 .mv 0, O1 12 .mv 4, O2 13 (.ixS 1) 11 12, O1 14 .load1 13]) (.cond (.t 14) (.reg false [O1 15 .mv 3, K2 16 (.bin .add) 15 (iV 1), O1 3 .mv 16]) .skip))) (.reg false [O1 9 .mv 4, K2 10 (.bin .add) 9 (iV 1), O1 4 .mv 10])))
def x17 : XFn := ⟨18, (.seq (.reg false [K1 2 .mv (iV 0)]) (.seq (.reg false [K1 3 .mv (iV 0)]) (.seq (.seq (.reg false [K1 4 .mv (iV 0)]) (.block 0 (.loop x17L0))) (.seq (.reg false [O1 17 .mv 3, O1 2 .mv 17]) .ret)))), [(.s 2)]⟩
theorem x17_ok : xfn Try.prog Try.f17 = some x17.er := by kernel_rfl
def x19L0 : XC := (.seq (.seq (.reg false [O1 21 .mv 8, O1 22 .mv 1, O1 23 .lenS 22, O2 24 (.bin .lss) 21 23]) (.cond (.t 24) .skip (.exit 0))) (.seq (.block 1 (.regD [O1 27 .mv 7, O1 28 .mv 1, O1 29 .mv 8, O2 30 (.ixS 2) 28 29, O1 31 (.fld 1) 30, O1 32 .load1 31, O1 33 (.fld 0) 2, O1 34 .load1 33, O2 35 (.bin .mul) 32 34, O1 36 .mv 1, O1 37 .mv 8, O2 38 (.ixS 2) 36 37, O1 39 (.fld 0) 38, O1 40 .load1 39, O2 41 (.bin .add) 35 40, O2 42 (.ixS 1) 27 41, ⟨none, (.store 1), [(.t 42), (.k (.bool true))], none⟩] [[], [], [], [1, 2], [3, 1, 2], [4, 3, 1, 2], [], [6], [5, 4, 3, 1, 2, 7, 6], [], [], [9, 10], [11, 9, 10], [12, 11, 9, 10], [8, 5, 4, 3, 1, 2, 7, 6, 13, 12, 11, 9, 10], [0, 14, 8, 5, 4, 3, 1, 2, 7, 6, 13, 12, 11, 9, 10], [15, 0, 14, 8, 5, 4, 3, 1, 2, 7, 6, 13, 12, 11, 9, 10]])) (.reg false [O1 25 .mv 8, K2 26 (.bin .add) 25 (iV 1), O1 8 .mv 26])))
def x19 : XFn := ⟨45, (.seq (.reg false [O1 2 (.box 24) 0, K1 4 .mv (iV 0), K1 5 .mv (iV 0)]) (.seq (.seq (.reg false [O1 9 (.loadN 3) 2, O1 10 .mv 1, O2 11 (.call 18) 9 10, O1 6 .mv 11]) (.seq (.reg false [O1 12 .mv 6, K2 13 (.bin .neq) 12 (iV 0)]) (.cond (.t 13) (.seq (.reg false [O1 14 .mv 6, K1 4 .mv (iV 0), O1 5 .mv 14]) .ret) .skip))) (.seq (.reg false [O1 15 (.fld 0) 2, O1 16 .load1 15, O1 17 (.fld 1) 2, O1 18 .load1 17, O2 19 (.bin .mul) 16 18, ⟨(some 20), (.mks 4 1 1 [(.bool false)]), [(.t 19), (.t 19)], none⟩, O1 7 .mv 20]) (.seq (.seq (.reg false [K1 8 .mv (iV 0)]) (.block 0 (.loop x19L0))) (.seq (.reg false [O1 43 .mv 7, O1 44 (.call 17) 43, O1 4 .mv 44, K1 5 .mv (iV 0)]) .ret))))), [(.s 4), (.s 5)]⟩
theorem x19_ok : xfn Try.prog Try.f19 = some x19.er := by kernel_rfl
def x12 : XFn := ⟨7, (.seq (.reg false [O1 1 (.box 24) 0, K1 2 .mv (.bool false)]) (.seq (.reg false [O1 3 (.fld 2) 1, O1 4 .load1 3, O1 5 .lenS 4, K2 6 (.bin .leq) 5 (iV 1024), O1 2 .mv 6]) .ret)), [(.s 2)]⟩
theorem x12_ok : xfn Try.prog Try.f12 = some x12.er := by kernel_rfl
def g12 : Con := fun args_ E_ nn_ => match args_ with
  | [.a [.v (.int .i64 p_W), .v (.int .i64 p_H), .n p_Cells]] => (match rowOf E_ p_Cells with
    | some (p_Cells_n, p_Cells_s, p_Cells_f) => some (.q (isRow eU8 p_Cells_n p_Cells_s p_Cells_f ∧ True) (.o (.c (.v (.bool (decide (((decL eU8 p_Cells_n p_Cells_f)).length ≤ 1024)))))))
    | none => none)
  | _ => none
theorem c12 : COk Try.prog 12 g12 := by
  refine cok_q Try.func12 x12_ok (by kernel_rfl) (cok_tab cok_nil) ?_
  intro args_ E_ nn_ cr_ hg_
  unfold g12 at hg_
  split at hg_
  · rename_i p_W p_H p_Cells
    split at hg_
    · rename_i p_Cells_n p_Cells_s p_Cells_f h_p_Cells
      cases hg_
      refine ⟨_, _, rfl, 1, [p_Cells], [.a [.v (.int .i64 p_W), .v (.int .i64 p_H), .n 0]], [(0, .ro (decL eU8 p_Cells_n p_Cells_f).length eU8.sz (rowF eU8 (decL eU8 p_Cells_n p_Cells_f)))], .o (.c (.v (.bool (decide (((decL eU8 p_Cells_n p_Cells_f)).length ≤ 1024))))), rfl, rfl, by simp only [push_cast, Nat.reduceLT, Nat.reduceAdd], by simp only [push_cast, Nat.reduceLT, Nat.reduceAdd], by simp only [push_cast, Nat.reduceLT, Nat.reduceAdd], rfl, ⟨inE0_row h_p_Cells, trivial⟩, rfl, ?_⟩
      intro hpre hlen
      obtain ⟨i_p_Cells, hpre⟩ := hpre
      refine ⟨⟨inE_row h_p_Cells i_p_Cells, trivial⟩, ?_⟩
      have z_p_Cells := lens_row (E := eU8) hlen h_p_Cells
      clear i_p_Cells
      generalize decL eU8 p_Cells_n p_Cells_f = p_CellsL at *
      clear h_p_Cells
      simp (config := {maxSteps := 10000000}) only [x12, push_cast, Nat.reduceAdd, Nat.reduceSub, Nat.reduceLeDiff, Nat.reduceEqDiff, Nat.reduceBEq, Nat.reduceMul, Nat.reduceLT, reduceIte, reduceCtorEq, Int.reduceLE, Int.reduceLT, Int.reduceEq, Int.reduceMul, Int.reduceAdd, Int.reduceSub, Int.reduceNeg, Int.reduceToNat, Int.reduceNe]
      rw [decide_eq_decide]; omega
    · cases hg_
  · cases hg_
def g28 : Con := fun args_ E_ nn_ => match args_ with
  | [.a [.v (.int .i64 p_W), .v (.int .i64 p_H), .n p_Cells], .c (.n l)] => (match rowOf E_ p_Cells with
    | some (p_Cells_n, p_Cells_s, p_Cells_f) => (match rowOf E_ l with
    | some (l_n, l_s, l_f) => some (.q (isRow eU8 p_Cells_n p_Cells_s p_Cells_f ∧ isRow eC l_n l_s l_f ∧ True) (.o (.c (.v (.int .i64 (chkE p_W p_H (decL eU8 p_Cells_n p_Cells_f) (decL eC l_n l_f)))))))
    | none => none)
    | none => none)
  | _ => none
theorem c28 : COk Try.prog 28 g28 := by
  refine cok_q Try.func28 x28_ok (by kernel_rfl) (cok_tab (cok_cons c33 (cok_cons c34 (cok_cons c35 cok_nil)))) ?_
  intro args_ E_ nn_ cr_ hg_
  unfold g28 at hg_
  split at hg_
  · rename_i p_W p_H p_Cells l
    split at hg_
    · rename_i p_Cells_n p_Cells_s p_Cells_f h_p_Cells
      split at hg_
      · rename_i l_n l_s l_f h_l
        cases hg_
        refine ⟨_, _, rfl, 2, [p_Cells, l], [.a [.v (.int .i64 p_W), .v (.int .i64 p_H), .n 0], .c (.n 1)], [(0, .ro (decL eU8 p_Cells_n p_Cells_f).length eU8.sz (rowF eU8 (decL eU8 p_Cells_n p_Cells_f))), (1, .ro (decL eC l_n l_f).length eC.sz (rowF eC (decL eC l_n l_f)))], .o (.c (.v (.int .i64 (chkE p_W p_H (decL eU8 p_Cells_n p_Cells_f) (decL eC l_n l_f))))), rfl, rfl, by simp only [push_cast, Nat.reduceLT, Nat.reduceAdd], by simp only [push_cast, Nat.reduceLT, Nat.reduceAdd], by simp only [push_cast, Nat.reduceLT, Nat.reduceAdd], rfl, ⟨inE0_row h_p_Cells, inE0_row h_l, trivial⟩, rfl, ?_⟩
        intro hpre hlen
        obtain ⟨i_p_Cells, hpre⟩ := hpre
        obtain ⟨i_l, hpre⟩ := hpre
        refine ⟨⟨inE_row h_p_Cells i_p_Cells, inE_row h_l i_l, trivial⟩, ?_⟩
        have z_p_Cells := lens_row (E := eU8) hlen h_p_Cells
        have z_l := lens_row (E := eC) hlen h_l
        clear i_p_Cells
        generalize decL eU8 p_Cells_n p_Cells_f = p_CellsL at *
        clear i_l
        generalize decL eC l_n l_f = lL at *
        clear h_p_Cells
        clear h_l
        simp (config := {maxSteps := 10000000}) only [x28, push_cast, Nat.reduceAdd, Nat.reduceSub, Nat.reduceLeDiff, Nat.reduceEqDiff, Nat.reduceBEq, Nat.reduceMul, Nat.reduceLT, reduceIte, reduceCtorEq, Int.reduceLE, Int.reduceLT, Int.reduceEq, Int.reduceMul, Int.reduceAdd, Int.reduceSub, Int.reduceNeg, Int.reduceToNat, Int.reduceNe, g33, g34, g35, shF_drop]
        refine ⟨fun h => by unfold chkE; rw [if_pos h], fun hp => ⟨fun h => by unfold chkE; rw [if_neg (by rw [hp]; simp), if_pos (by omega)], fun h0 => ?_⟩⟩
        have pp := planB_at hp
        refine vcLoop_upd (α := {k : Nat // k ≤ lL.length ∧ ∀ i, i < k → frB p_W p_H p_CellsL (lL.getD i eC.dflt).X (lL.getD i eC.dflt).Y = true}) [1, 2, 18, 19] 0 (fun s => [(20, .o (.c (.v (.int .i64 (s.1 : Nat)))))]) (fun s => []) (fun s => lL.length - s.1) ⟨0, by omega, fun i hi => by omega⟩ ?_ ?_
        · simp only [push_cast, Nat.reduceAdd, Nat.reduceSub, Nat.reduceLeDiff, Nat.reduceEqDiff, Nat.reduceBEq, Nat.reduceMul, Nat.reduceLT, reduceIte, reduceCtorEq, Int.reduceLE, Int.reduceLT, Int.reduceEq, Int.reduceMul, Int.reduceAdd, Int.reduceSub, Int.reduceNeg, Int.reduceToNat, Int.reduceNe, g33, g34, g35, shF_drop]
        rintro ⟨k, hk, hf⟩
        simp only [x28L0, push_cast, Nat.reduceAdd, Nat.reduceSub, Nat.reduceLeDiff, Nat.reduceEqDiff, Nat.reduceBEq, Nat.reduceMul, Nat.reduceLT, reduceIte, reduceCtorEq, Int.reduceLE, Int.reduceLT, Int.reduceEq, Int.reduceMul, Int.reduceAdd, Int.reduceSub, Int.reduceNeg, Int.reduceToNat, Int.reduceNe, g33, g34, g35, shF_drop]
        refine ⟨fun hlt => ⟨hlt, hlt, hp, fun g => (chk_bad hp hlt g).symm, fun g => ⟨⟨k + 1, by omega, fun i hi => ?_⟩, wrapI (by omega) (by omega), by simp only; omega⟩⟩, fun hge => ?_⟩
        · by_cases e : i = k
          · subst e; exact g
          · exact hf i (by omega)
        obtain rfl : k = lL.length := by omega
        have e1 : ((lL.length : Int) - 1).toNat = lL.length - 1 := by omega
        rw [e1]
        refine ⟨by omega, ?_⟩
        refine vcLoop_upd (α := {j : Nat // j + 1 ≤ lL.length ∧ ∀ i, i < j → adjB (lL.getD i eC.dflt) (lL.getD (i + 1) eC.dflt) = true}) [1, 30, 31] 0 (fun s => [(32, .o (.c (.v (.int .i64 (s.1 : Nat)))))]) (fun s => []) (fun s => lL.length - s.1) ⟨0, by omega, fun i hi => by omega⟩ ?_ ?_
        · simp only [push_cast, Nat.reduceAdd, Nat.reduceSub, Nat.reduceLeDiff, Nat.reduceEqDiff, Nat.reduceBEq, Nat.reduceMul, Nat.reduceLT, reduceIte, reduceCtorEq, Int.reduceLE, Int.reduceLT, Int.reduceEq, Int.reduceMul, Int.reduceAdd, Int.reduceSub, Int.reduceNeg, Int.reduceToNat, Int.reduceNe, g33, g34, g35, shF_drop]
        rintro ⟨j, hj, ha⟩
        simp only [x28L2, push_cast, Nat.reduceAdd, Nat.reduceSub, Nat.reduceLeDiff, Nat.reduceEqDiff, Nat.reduceBEq, Nat.reduceMul, Nat.reduceLT, reduceIte, reduceCtorEq, Int.reduceLE, Int.reduceLT, Int.reduceEq, Int.reduceMul, Int.reduceAdd, Int.reduceSub, Int.reduceNeg, Int.reduceToNat, Int.reduceNe, g33, g34, g35, shF_drop]
        refine ⟨fun hlt => ?_, fun hge => (chk_ok hp (by omega) hf (fun i hi => ha i (by omega))).symm⟩
        have fj := frB_in (hf j (by omega))
        have ed : (lL.drop 1).getD j eC.dflt = lL.getD (j + 1) eC.dflt := by
          rw [List.getD_eq_getElem?_getD, List.getD_eq_getElem?_getD, List.getElem?_drop, Nat.add_comm 1 j]
        rw [ed]
        refine ⟨hlt, hlt, by omega, by omega, by omega, ?_⟩
        refine vcLoop_upd (α := {i : Nat // i ≤ 4}) [1, 8, 30, 31, 32, 41] 0 (fun s => [(9, .o (.c (.v (.bool (nrB (lL.getD j eC.dflt) (lL.getD (j + 1) eC.dflt) s.1))))), (42, .o (.c (.v (.int .i64 (s.1 : Nat)))))]) (fun s => []) (fun s => 4 - s.1) ⟨0, by omega⟩ ?_ ?_
        · simp only [push_cast, Nat.reduceAdd, Nat.reduceSub, Nat.reduceLeDiff, Nat.reduceEqDiff, Nat.reduceBEq, Nat.reduceMul, Nat.reduceLT, reduceIte, reduceCtorEq, Int.reduceLE, Int.reduceLT, Int.reduceEq, Int.reduceMul, Int.reduceAdd, Int.reduceSub, Int.reduceNeg, Int.reduceToNat, Int.reduceNe, g33, g34, g35, shF_drop]
          rfl
        rintro ⟨i, hi⟩
        rcases (by omega : i = 0 ∨ i = 1 ∨ i = 2 ∨ i = 3 ∨ i = 4) with rfl | rfl | rfl | rfl | rfl
        · simp only [x28L1, push_cast, Nat.reduceAdd, Nat.reduceSub, Nat.reduceLeDiff, Nat.reduceEqDiff, Nat.reduceBEq, Nat.reduceMul, Nat.reduceLT, reduceIte, reduceCtorEq, Int.reduceLE, Int.reduceLT, Int.reduceEq, Int.reduceMul, Int.reduceAdd, Int.reduceSub, Int.reduceNeg, Int.reduceToNat, Int.reduceNe, g33, g34, g35, shF_drop]
          exact ⟨⟨1, by omega⟩, ⟨near_s _ _ 0 _ _ rfl, rfl⟩, by simp only; omega⟩
        · simp only [x28L1, push_cast, Nat.reduceAdd, Nat.reduceSub, Nat.reduceLeDiff, Nat.reduceEqDiff, Nat.reduceBEq, Nat.reduceMul, Nat.reduceLT, reduceIte, reduceCtorEq, Int.reduceLE, Int.reduceLT, Int.reduceEq, Int.reduceMul, Int.reduceAdd, Int.reduceSub, Int.reduceNeg, Int.reduceToNat, Int.reduceNe, g33, g34, g35, shF_drop]
          exact ⟨⟨2, by omega⟩, ⟨near_s _ _ 1 _ _ rfl, rfl⟩, by simp only; omega⟩
        · simp only [x28L1, push_cast, Nat.reduceAdd, Nat.reduceSub, Nat.reduceLeDiff, Nat.reduceEqDiff, Nat.reduceBEq, Nat.reduceMul, Nat.reduceLT, reduceIte, reduceCtorEq, Int.reduceLE, Int.reduceLT, Int.reduceEq, Int.reduceMul, Int.reduceAdd, Int.reduceSub, Int.reduceNeg, Int.reduceToNat, Int.reduceNe, g33, g34, g35, shF_drop]
          exact ⟨⟨3, by omega⟩, ⟨near_s _ _ 2 _ _ rfl, rfl⟩, by simp only; omega⟩
        · simp only [x28L1, push_cast, Nat.reduceAdd, Nat.reduceSub, Nat.reduceLeDiff, Nat.reduceEqDiff, Nat.reduceBEq, Nat.reduceMul, Nat.reduceLT, reduceIte, reduceCtorEq, Int.reduceLE, Int.reduceLT, Int.reduceEq, Int.reduceMul, Int.reduceAdd, Int.reduceSub, Int.reduceNeg, Int.reduceToNat, Int.reduceNe, g33, g34, g35, shF_drop]
          exact ⟨⟨4, by omega⟩, ⟨near_s _ _ 3 _ _ rfl, rfl⟩, by simp only; omega⟩
        · simp only [x28L1, push_cast, Nat.reduceAdd, Nat.reduceSub, Nat.reduceLeDiff, Nat.reduceEqDiff, Nat.reduceBEq, Nat.reduceMul, Nat.reduceLT, reduceIte, reduceCtorEq, Int.reduceLE, Int.reduceLT, Int.reduceEq, Int.reduceMul, Int.reduceAdd, Int.reduceSub, Int.reduceNeg, Int.reduceToNat, Int.reduceNe, g33, g34, g35, shF_drop]
          rw [near4]
          exact ⟨fun g => (chk_far hp (by omega) hf g).symm, fun g => ⟨⟨j + 1, by omega, fun i hi => by
            by_cases e : i = j
            · subst e; exact g
            · exact ha i (by omega)⟩, wrapI (by omega) (by omega), by simp only; omega⟩⟩
      · cases hg_
    · cases hg_
  · cases hg_
def g25 : Con := fun args_ E_ nn_ => match args_ with
  | [.a [.v (.int .i64 a_X), .v (.int .i64 a_Y)], .a [.v (.int .i64 b_X), .v (.int .i64 b_Y)]] => some (.q (True) (.o (.c (.v (.bool (adjR ⟨a_X, a_Y⟩ ⟨b_X, b_Y⟩))))))
  | _ => none
theorem c25 : COk Try.prog 25 g25 := by
  refine cok_q Try.func25 x25_ok (by kernel_rfl) (cok_tab (cok_cons c41 cok_nil)) ?_
  intro args_ E_ nn_ cr_ hg_
  unfold g25 at hg_
  split at hg_
  · rename_i a_X a_Y b_X b_Y
    cases hg_
    refine ⟨_, _, rfl, 0, [], [.a [.v (.int .i64 a_X), .v (.int .i64 a_Y)], .a [.v (.int .i64 b_X), .v (.int .i64 b_Y)]], [], .o (.c (.v (.bool (adjR ⟨a_X, a_Y⟩ ⟨b_X, b_Y⟩)))), rfl, rfl, by simp only [push_cast, Nat.reduceLT, Nat.reduceAdd], by simp only [push_cast, Nat.reduceLT, Nat.reduceAdd], by simp only [push_cast, Nat.reduceLT, Nat.reduceAdd], rfl, trivial, rfl, ?_⟩
    intro hpre hlen
    refine ⟨trivial, ?_⟩
    simp (config := {maxSteps := 10000000}) only [x25, push_cast, Nat.reduceAdd, Nat.reduceSub, Nat.reduceLeDiff, Nat.reduceEqDiff, Nat.reduceBEq, Nat.reduceMul, Nat.reduceLT, reduceIte, reduceCtorEq, Int.reduceLE, Int.reduceLT, Int.reduceEq, Int.reduceMul, Int.reduceAdd, Int.reduceSub, Int.reduceNeg, Int.reduceToNat, Int.reduceNe, g41]
    unfold adjR
    refine ⟨fun h => ?_, fun a1 a2 a3 a4 a5 a6 a7 a8 => ?_⟩
    · rw [decide_eq_false (by simp only; omega)]; rfl
    have hb : ((-1048576 ≤ a_X ∧ a_X ≤ 1048576) ∧ -1048576 ≤ a_Y ∧ a_Y ≤ 1048576) ∧ (-1048576 ≤ b_X ∧ b_X ≤ 1048576) ∧ -1048576 ≤ b_Y ∧ b_Y ≤ 1048576 := by omega
    rw [decide_eq_true (p := ((-1048576 ≤ (⟨a_X, a_Y⟩ : CC).X ∧ (⟨a_X, a_Y⟩ : CC).X ≤ 1048576) ∧ -1048576 ≤ (⟨a_X, a_Y⟩ : CC).Y ∧ (⟨a_X, a_Y⟩ : CC).Y ≤ 1048576) ∧ (-1048576 ≤ (⟨b_X, b_Y⟩ : CC).X ∧ (⟨b_X, b_Y⟩ : CC).X ≤ 1048576) ∧ -1048576 ≤ (⟨b_X, b_Y⟩ : CC).Y ∧ (⟨b_X, b_Y⟩ : CC).Y ≤ 1048576) hb, Bool.true_and, wrapI (n := a_Y - b_Y) (by omega) (by omega), wrapI (n := a_X - b_X) (by omega) (by omega)]
    refine ⟨fun h => ⟨h, fun e => ⟨h, e⟩⟩, fun h => ⟨h, fun e p q => ⟨h, e, p, q⟩⟩, ?_⟩
    rw [Bool.eq_iff_iff]
    unfold adjB
    simp only [Bool.or_eq_true, Bool.and_eq_true, beq_iff_eq, decide_eq_true_eq, bne_iff_ne, ne_eq]
    omega
  · cases hg_
end Go.Proofs.Ytnkkhmeojifckaa
namespace Go.Proofs.Ytnkkhmeojifckaa
open Go.Sx
theorem leM_same (b : Bnd) {K L : List CC} (h : K = L) : leM (SC.sub b) (setM K) (setM L) := (leM_set _ (fun _ => rfl) _ _).2 h
theorem cnt_take (l : List Bool) (k : Nat) (h : k < l.length) : (l.take (k + 1)).countP (fun b => b) = (l.take k).countP (fun b => b) + (if l.getD k false = true then 1 else 0) := by
  have e : l.getD k false = l[k] := by rw [List.getD_eq_getElem?_getD, List.getElem?_eq_getElem h]; rfl
  rw [List.take_succ_eq_append_getElem h, List.countP_append, List.countP_singleton, e]
def g18 : Con := fun args_ E_ nn_ => match args_ with
  | [.a [.v (.int .i64 p_W), .v (.int .i64 p_H), .n p_Cells], .c (.n l)] => (match rowOf E_ p_Cells with
    | some (p_Cells_n, p_Cells_s, p_Cells_f) => (match rowOf E_ l with
    | some (l_n, l_s, l_f) => some (.q (isRow eU8 p_Cells_n p_Cells_s p_Cells_f ∧ isRow eC l_n l_s l_f ∧ True) (.o (.c (.v (.int .i64 (chkE p_W p_H (decL eU8 p_Cells_n p_Cells_f) (decL eC l_n l_f)))))))
    | none => none)
    | none => none)
  | _ => none
theorem c18 : COk Try.prog 18 g18 := by
  refine cok_q Try.func18 x18_ok (by kernel_rfl) (cok_tab (cok_cons c14 (cok_cons c15 (cok_cons c25 cok_nil)))) ?_
  intro args_ E_ nn_ cr_ hg_
  unfold g18 at hg_
  split at hg_
  · rename_i p_W p_H p_Cells l
    split at hg_
    · rename_i p_Cells_n p_Cells_s p_Cells_f h_p_Cells
      split at hg_
      · rename_i l_n l_s l_f h_l
        cases hg_
        refine ⟨_, _, rfl, 2, [p_Cells, l], [.a [.v (.int .i64 p_W), .v (.int .i64 p_H), .n 0], .c (.n 1)], [(0, .ro (decL eU8 p_Cells_n p_Cells_f).length eU8.sz (rowF eU8 (decL eU8 p_Cells_n p_Cells_f))), (1, .ro (decL eC l_n l_f).length eC.sz (rowF eC (decL eC l_n l_f)))], .o (.c (.v (.int .i64 (chkE p_W p_H (decL eU8 p_Cells_n p_Cells_f) (decL eC l_n l_f))))), rfl, rfl, by simp only [push_cast, Nat.reduceLT, Nat.reduceAdd], by simp only [push_cast, Nat.reduceLT, Nat.reduceAdd], by simp only [push_cast, Nat.reduceLT, Nat.reduceAdd], rfl, ⟨inE0_row h_p_Cells, inE0_row h_l, trivial⟩, rfl, ?_⟩
        intro hpre hlen
        obtain ⟨i_p_Cells, hpre⟩ := hpre
        obtain ⟨i_l, hpre⟩ := hpre
        refine ⟨⟨inE_row h_p_Cells i_p_Cells, inE_row h_l i_l, trivial⟩, ?_⟩
        have z_p_Cells := lens_row (E := eU8) hlen h_p_Cells
        have z_l := lens_row (E := eC) hlen h_l
        clear i_p_Cells
        generalize decL eU8 p_Cells_n p_Cells_f = p_CellsL at *
        clear i_l
        generalize decL eC l_n l_f = lL at *
        clear h_p_Cells
        clear h_l
        simp (config := {maxSteps := 10000000}) only [x18, push_cast, Nat.reduceAdd, Nat.reduceSub, Nat.reduceLeDiff, Nat.reduceEqDiff, Nat.reduceBEq, Nat.reduceMul, Nat.reduceLT, reduceIte, reduceCtorEq, Int.reduceLE, Int.reduceLT, Int.reduceEq, Int.reduceMul, Int.reduceAdd, Int.reduceSub, Int.reduceNeg, Int.reduceToNat, Int.reduceNe, g14, g15, g25]
        refine ⟨fun h => by unfold chkE; rw [if_pos h], fun hp => ⟨fun h => by unfold chkE; rw [if_neg (by rw [hp]; simp), if_pos (by omega)], fun h0 => ?_⟩⟩
        have pp := planB_at hp
        refine vcLoop_upd (α := {k : Nat // k ≤ lL.length ∧ ∀ i, i < k → frB p_W p_H p_CellsL (lL.getD i eC.dflt).X (lL.getD i eC.dflt).Y = true}) [1, 2] 0 (fun s => [(5, .o (.c (.v (.int .i64 (s.1 : Nat)))))]) (fun s => []) (fun s => lL.length - s.1) ⟨0, by omega, fun i hi => by omega⟩ ?_ ?_
        · simp only [push_cast, Nat.reduceAdd, Nat.reduceSub, Nat.reduceLeDiff, Nat.reduceEqDiff, Nat.reduceBEq, Nat.reduceMul, Nat.reduceLT, reduceIte, reduceCtorEq, Int.reduceLE, Int.reduceLT, Int.reduceEq, Int.reduceMul, Int.reduceAdd, Int.reduceSub, Int.reduceNeg, Int.reduceToNat, Int.reduceNe, g14, g15, g25]
        rintro ⟨k, hk, hf⟩
        simp only [x18L0, push_cast, Nat.reduceAdd, Nat.reduceSub, Nat.reduceLeDiff, Nat.reduceEqDiff, Nat.reduceBEq, Nat.reduceMul, Nat.reduceLT, reduceIte, reduceCtorEq, Int.reduceLE, Int.reduceLT, Int.reduceEq, Int.reduceMul, Int.reduceAdd, Int.reduceSub, Int.reduceNeg, Int.reduceToNat, Int.reduceNe, g14, g15, g25]
        refine ⟨fun hlt => ⟨hlt, hlt, hp, fun g => (chk_bad hp hlt (fr_not.2 g)).symm, fun g => ⟨⟨k + 1, by omega, fun i hi => ?_⟩, wrapI (by omega) (by omega), by simp only; omega⟩⟩, fun hge => ?_⟩
        · by_cases e : i = k
          · subst e; exact fr_iff.2 g
          · exact hf i (by omega)
        obtain rfl : k = lL.length := by omega
        refine vcLoop_upd (α := {j : Nat // j + 1 ≤ lL.length ∧ ∀ i, i < j → adjB (lL.getD i eC.dflt) (lL.getD (i + 1) eC.dflt) = true}) [1] 0 (fun s => [(6, .o (.c (.v (.int .i64 (((s.1 + 1 : Nat) : Int))))))]) (fun s => []) (fun s => lL.length - s.1) ⟨0, by omega, fun i hi => by omega⟩ ?_ ?_
        · simp only [push_cast, Nat.reduceAdd, Nat.reduceSub, Nat.reduceLeDiff, Nat.reduceEqDiff, Nat.reduceBEq, Nat.reduceMul, Nat.reduceLT, reduceIte, reduceCtorEq, Int.reduceLE, Int.reduceLT, Int.reduceEq, Int.reduceMul, Int.reduceAdd, Int.reduceSub, Int.reduceNeg, Int.reduceToNat, Int.reduceNe, g14, g15, g25]
        rintro ⟨j, hj, ha⟩
        simp only [x18L1, push_cast, Nat.reduceAdd, Nat.reduceSub, Nat.reduceLeDiff, Nat.reduceEqDiff, Nat.reduceBEq, Nat.reduceMul, Nat.reduceLT, reduceIte, reduceCtorEq, Int.reduceLE, Int.reduceLT, Int.reduceEq, Int.reduceMul, Int.reduceAdd, Int.reduceSub, Int.reduceNeg, Int.reduceToNat, Int.reduceNe, g14, g15, g25]
        refine ⟨fun hlt => ?_, fun hge => (chk_ok hp (by omega) hf (fun i hi => ha i (by omega))).symm⟩
        have e2 : IntKind.i64.wrap ((j : Int) + 1 - 1) = (j : Int) := (wrapI (by omega) (by omega)).trans (by omega)
        have e3 : ((j : Int) + 1).toNat = j + 1 := by omega
        have f0 := frB_in (hf j (by omega))
        have f1 := frB_in (hf (j + 1) (by omega))
        rw [e2, e3, Int.toNat_natCast, adjR_eq (by omega)]
        exact ⟨⟨by omega, by omega⟩, by omega, ⟨by omega, by omega⟩, by omega, fun g => (chk_far hp (by omega) hf g).symm, fun g => ⟨⟨j + 1, by omega, fun i hi => by
            by_cases e : i = j
            · subst e; exact g
            · exact ha i (by omega)⟩, (wrapI (by omega) (by omega)).trans (by simp only; omega), by simp only; omega⟩⟩
      · cases hg_
    · cases hg_
  · cases hg_
def g27 : Con := fun args_ E_ nn_ => match args_ with
  | [.a [.v (.int .i64 p_W), .v (.int .i64 p_H), .n p_Cells], .c (.n l)] => (match rowOf E_ p_Cells with
    | some (p_Cells_n, p_Cells_s, p_Cells_f) => (match rowOf E_ l with
    | some (l_n, l_s, l_f) => some (.q (isRow eU8 p_Cells_n p_Cells_s p_Cells_f ∧ isRow eC l_n l_s l_f ∧ True) (.t [.c (.v (.int .i64 (covN p_W p_H (decL eU8 p_Cells_n p_Cells_f) (decL eC l_n l_f)))), .c (.v (.int .i64 (chkE p_W p_H (decL eU8 p_Cells_n p_Cells_f) (decL eC l_n l_f))))]))
    | none => none)
    | none => none)
  | _ => none
theorem c27 : COk Try.prog 27 g27 := by
  refine cok_q Try.func27 x27_ok (by kernel_rfl) (cok_tab (cok_cons c28 cok_nil)) ?_
  intro args_ E_ nn_ cr_ hg_
  unfold g27 at hg_
  split at hg_
  · rename_i p_W p_H p_Cells l
    split at hg_
    · rename_i p_Cells_n p_Cells_s p_Cells_f h_p_Cells
      split at hg_
      · rename_i l_n l_s l_f h_l
        cases hg_
        refine ⟨_, _, rfl, 2, [p_Cells, l], [.a [.v (.int .i64 p_W), .v (.int .i64 p_H), .n 0], .c (.n 1)], [(0, .ro (decL eU8 p_Cells_n p_Cells_f).length eU8.sz (rowF eU8 (decL eU8 p_Cells_n p_Cells_f))), (1, .ro (decL eC l_n l_f).length eC.sz (rowF eC (decL eC l_n l_f)))], .t [.c (.v (.int .i64 (covN p_W p_H (decL eU8 p_Cells_n p_Cells_f) (decL eC l_n l_f)))), .c (.v (.int .i64 (chkE p_W p_H (decL eU8 p_Cells_n p_Cells_f) (decL eC l_n l_f))))], rfl, rfl, by simp only [push_cast, Nat.reduceLT, Nat.reduceAdd], by simp only [push_cast, Nat.reduceLT, Nat.reduceAdd], by simp only [push_cast, Nat.reduceLT, Nat.reduceAdd], rfl, ⟨inE0_row h_p_Cells, inE0_row h_l, trivial⟩, rfl, ?_⟩
        intro hpre hlen
        obtain ⟨i_p_Cells, hpre⟩ := hpre
        obtain ⟨i_l, hpre⟩ := hpre
        refine ⟨⟨inE_row h_p_Cells i_p_Cells, inE_row h_l i_l, trivial⟩, ?_⟩
        have z_p_Cells := lens_row (E := eU8) hlen h_p_Cells
        have z_l := lens_row (E := eC) hlen h_l
        clear i_p_Cells
        generalize decL eU8 p_Cells_n p_Cells_f = p_CellsL at *
        clear i_l
        generalize decL eC l_n l_f = lL at *
        clear h_p_Cells
        clear h_l
        simp (config := {maxSteps := 10000000}) only [x27, push_cast, Nat.reduceAdd, Nat.reduceSub, Nat.reduceLeDiff, Nat.reduceEqDiff, Nat.reduceBEq, Nat.reduceMul, Nat.reduceLT, reduceIte, reduceCtorEq, Int.reduceLE, Int.reduceLT, Int.reduceEq, Int.reduceMul, Int.reduceAdd, Int.reduceSub, Int.reduceNeg, Int.reduceToNat, Int.reduceNe, g28]
        refine ⟨fun h => by unfold covN; rw [if_neg h], fun h => ?_⟩
        refine vcLoop_upd (α := {k : Nat // k ≤ lL.length}) [7, 17, 18] 0 (fun s => [(19, .o (.c (.v (.int .i64 (s.1 : Nat)))))]) (fun s => [(3, .mp (setM (insK lL s.1)))]) (fun s => lL.length - s.1) ⟨0, by omega⟩ ?_ ?_
        · simp only [push_cast, Nat.reduceAdd, Nat.reduceSub, Nat.reduceLeDiff, Nat.reduceEqDiff, Nat.reduceBEq, Nat.reduceMul, Nat.reduceLT, reduceIte, reduceCtorEq, Int.reduceLE, Int.reduceLT, Int.reduceEq, Int.reduceMul, Int.reduceAdd, Int.reduceSub, Int.reduceNeg, Int.reduceToNat, Int.reduceNe, g28]
          exact leM_same (K := []) (L := insK lL 0) _ rfl
        rintro ⟨k, hk⟩
        simp only [x27L0, push_cast, Nat.reduceAdd, Nat.reduceSub, Nat.reduceLeDiff, Nat.reduceEqDiff, Nat.reduceBEq, Nat.reduceMul, Nat.reduceLT, reduceIte, reduceCtorEq, Int.reduceLE, Int.reduceLT, Int.reduceEq, Int.reduceMul, Int.reduceAdd, Int.reduceSub, Int.reduceNeg, Int.reduceToNat, Int.reduceNe, g28]
        refine ⟨fun hlt => ⟨hlt, hlt, ⟨k + 1, by omega⟩, ⟨wrapI (by omega) (by omega), leM_same _ rfl⟩, by simp only; omega⟩, fun hge => ?_⟩
        obtain rfl : k = lL.length := by omega
        unfold covN
        rw [if_pos h, h]
        exact ⟨rfl, rfl⟩
      · cases hg_
    · cases hg_
  · cases hg_
def eB : Enc Bool where
  sz := 1
  ks := [.b]
  wf := fun x => True
  enc := fun x => [.v (.bool x)]
  dec := fun f => boolC (f 0)
  dflt := false
  flat := by
    intro x c hc
    simp only [List.mem_cons, List.not_mem_nil, or_false] at hc
    subst hc; exact ⟨_, rfl, rfl⟩
  len := fun x => rfl
  onto := by
    intro cs h
    obtain ⟨n0, cs0, rfl, h0⟩ := kind_b h
    obtain rfl := kind_n h0
    exact ⟨n0, rfl, trivial⟩
  de := by
    intro x f h
    have h0 := h 0 (by decide)
    simp only [nth] at h0
    simp only [h0, intC, boolC]
theorem eB_sz : eB.sz = 1 := rfl
theorem eB_0 (L : List Bool) (e : Nat) : rowF eB L e 0 = .v (.bool (L.getD e eB.dflt)) := rfl
theorem eB_isRow (L : List Bool) : isRow eB L.length 1 (rowF eB L) ↔ True := isRow_rowF L
attribute [push_cast] eB_isRow eB_sz eB_0
theorem up_b {A : List Bool} {k : Nat} (v : Bool) (h : k < A.length) : updF (rowF eB A) k 0 [SC.v (.bool v)] = rowF eB (A.set k v) :=
  updF_row (E := eB) (L := A) (e0 := k) (j0 := 0) (x := v) (cs := [SC.v (.bool v)]) h rfl (by simp [eB])
theorem row_false {W H : Int} {n : Nat} {b : Bnd} : rowEq n 1 (replF [Value.bool false]) (rowF eB (markL W H [])) (SC.sub b) := by
  intro e j he hj
  obtain rfl : j = 0 := by omega
  rw [rowF_sub]
  have e1 : (markL W H []).getD e eB.dflt = false := by
    rw [mark_nil, List.getD_eq_getElem?_getD]
    by_cases g : e < (W * H).toNat
    · rw [List.getElem?_replicate, if_pos g]; rfl
    · rw [List.getElem?_eq_none (by rw [List.length_replicate]; omega)]; rfl
  rw [eB_0, e1]
  rfl
def g17 : Con := fun args_ E_ nn_ => match args_ with
  | [.c (.n region)] => (match rowOf E_ region with
    | some (region_n, region_s, region_f) => some (.q (isRow eB region_n region_s region_f ∧ True) (.o (.c (.v (.int .i64 (((((decL eB region_n region_f)).countP (fun b => b) : Nat) : Int)))))))
    | none => none)
  | _ => none
theorem c17 : COk Try.prog 17 g17 := by
  refine cok_q Try.func17 x17_ok (by kernel_rfl) (cok_tab cok_nil) ?_
  intro args_ E_ nn_ cr_ hg_
  unfold g17 at hg_
  split at hg_
  · rename_i region
    split at hg_
    · rename_i region_n region_s region_f h_region
      cases hg_
      refine ⟨_, _, rfl, 1, [region], [.c (.n 0)], [(0, .ro (decL eB region_n region_f).length eB.sz (rowF eB (decL eB region_n region_f)))], .o (.c (.v (.int .i64 (((((decL eB region_n region_f)).countP (fun b => b) : Nat) : Int))))), rfl, rfl, by simp only [push_cast, Nat.reduceLT, Nat.reduceAdd], by simp only [push_cast, Nat.reduceLT, Nat.reduceAdd], by simp only [push_cast, Nat.reduceLT, Nat.reduceAdd], rfl, ⟨inE0_row h_region, trivial⟩, rfl, ?_⟩
      intro hpre hlen
      obtain ⟨i_region, hpre⟩ := hpre
      refine ⟨⟨inE_row h_region i_region, trivial⟩, ?_⟩
      have z_region := lens_row (E := eB) hlen h_region
      clear i_region
      generalize decL eB region_n region_f = regionL at *
      clear h_region
      simp (config := {maxSteps := 10000000}) only [x17, push_cast, Nat.reduceAdd, Nat.reduceSub, Nat.reduceLeDiff, Nat.reduceEqDiff, Nat.reduceBEq, Nat.reduceMul, Nat.reduceLT, reduceIte, reduceCtorEq, Int.reduceLE, Int.reduceLT, Int.reduceEq, Int.reduceMul, Int.reduceAdd, Int.reduceSub, Int.reduceNeg, Int.reduceToNat, Int.reduceNe]
      refine vcLoop_upd (α := {k : Nat // k ≤ regionL.length}) [0] 0 (fun s => [(3, .o (.c (.v (.int .i64 (((regionL.take s.1).countP (fun b => b) : Nat)))))), (4, .o (.c (.v (.int .i64 (s.1 : Nat)))))]) (fun s => []) (fun s => regionL.length - s.1) ⟨0, by omega⟩ ?_ ?_
      · simp only [push_cast, Nat.reduceAdd, Nat.reduceSub, Nat.reduceLeDiff, Nat.reduceEqDiff, Nat.reduceBEq, Nat.reduceMul, Nat.reduceLT, reduceIte, reduceCtorEq, Int.reduceLE, Int.reduceLT, Int.reduceEq, Int.reduceMul, Int.reduceAdd, Int.reduceSub, Int.reduceNeg, Int.reduceToNat, Int.reduceNe]
        rfl
      rintro ⟨k, hk⟩
      simp only [x17L0, push_cast, Nat.reduceAdd, Nat.reduceSub, Nat.reduceLeDiff, Nat.reduceEqDiff, Nat.reduceBEq, Nat.reduceMul, Nat.reduceLT, reduceIte, reduceCtorEq, Int.reduceLE, Int.reduceLT, Int.reduceEq, Int.reduceMul, Int.reduceAdd, Int.reduceSub, Int.reduceNeg, Int.reduceToNat, Int.reduceNe]
      have hc : (regionL.take k).countP (fun b => b) ≤ k := Nat.le_trans List.countP_le_length (by rw [List.length_take]; omega)
      have hs := cnt_take regionL k
      refine ⟨fun hlt => ⟨hlt, hlt, fun g => ⟨⟨k + 1, by omega⟩, ⟨?_, wrapI (by omega) (by omega)⟩, by simp only; omega⟩, fun g => ⟨⟨k + 1, by omega⟩, ⟨?_, wrapI (by omega) (by omega)⟩, by simp only; omega⟩⟩, fun hge => ?_⟩
      · have g : regionL.getD k false = true := g
        simp only
        rw [hs hlt, g, if_pos rfl]
        exact (wrapI (by omega) (by omega)).trans (by omega)
      · have g : regionL.getD k false = false := g
        simp only
        rw [hs hlt, g, if_neg (by simp)]
        rfl
      · obtain rfl : k = regionL.length := by omega
        rw [List.take_length]
    · cases hg_
  · cases hg_
def g19 : Con := fun args_ E_ nn_ => match args_ with
  | [.a [.v (.int .i64 p_W), .v (.int .i64 p_H), .n p_Cells], .c (.n l)] => (match rowOf E_ p_Cells with
    | some (p_Cells_n, p_Cells_s, p_Cells_f) => (match rowOf E_ l with
    | some (l_n, l_s, l_f) => some (.q (isRow eU8 p_Cells_n p_Cells_s p_Cells_f ∧ isRow eC l_n l_s l_f ∧ True) (.t [.c (.v (.int .i64 (covN p_W p_H (decL eU8 p_Cells_n p_Cells_f) (decL eC l_n l_f)))), .c (.v (.int .i64 (chkE p_W p_H (decL eU8 p_Cells_n p_Cells_f) (decL eC l_n l_f))))]))
    | none => none)
    | none => none)
  | _ => none
theorem c19 : COk Try.prog 19 g19 := by
  refine cok_q Try.func19 x19_ok (by kernel_rfl) (cok_tab (cok_cons c18 (cok_cons c17 cok_nil))) ?_
  intro args_ E_ nn_ cr_ hg_
  unfold g19 at hg_
  split at hg_
  · rename_i p_W p_H p_Cells l
    split at hg_
    · rename_i p_Cells_n p_Cells_s p_Cells_f h_p_Cells
      split at hg_
      · rename_i l_n l_s l_f h_l
        cases hg_
        refine ⟨_, _, rfl, 2, [p_Cells, l], [.a [.v (.int .i64 p_W), .v (.int .i64 p_H), .n 0], .c (.n 1)], [(0, .ro (decL eU8 p_Cells_n p_Cells_f).length eU8.sz (rowF eU8 (decL eU8 p_Cells_n p_Cells_f))), (1, .ro (decL eC l_n l_f).length eC.sz (rowF eC (decL eC l_n l_f)))], .t [.c (.v (.int .i64 (covN p_W p_H (decL eU8 p_Cells_n p_Cells_f) (decL eC l_n l_f)))), .c (.v (.int .i64 (chkE p_W p_H (decL eU8 p_Cells_n p_Cells_f) (decL eC l_n l_f))))], rfl, rfl, by simp only [push_cast, Nat.reduceLT, Nat.reduceAdd], by simp only [push_cast, Nat.reduceLT, Nat.reduceAdd], by simp only [push_cast, Nat.reduceLT, Nat.reduceAdd], rfl, ⟨inE0_row h_p_Cells, inE0_row h_l, trivial⟩, rfl, ?_⟩
        intro hpre hlen
        obtain ⟨i_p_Cells, hpre⟩ := hpre
        obtain ⟨i_l, hpre⟩ := hpre
        refine ⟨⟨inE_row h_p_Cells i_p_Cells, inE_row h_l i_l, trivial⟩, ?_⟩
        have z_p_Cells := lens_row (E := eU8) hlen h_p_Cells
        have z_l := lens_row (E := eC) hlen h_l
        clear i_p_Cells
        generalize decL eU8 p_Cells_n p_Cells_f = p_CellsL at *
        clear i_l
        generalize decL eC l_n l_f = lL at *
        clear h_p_Cells
        clear h_l
        simp (config := {maxSteps := 10000000}) only [x19, push_cast, Nat.reduceAdd, Nat.reduceSub, Nat.reduceLeDiff, Nat.reduceEqDiff, Nat.reduceBEq, Nat.reduceMul, Nat.reduceLT, reduceIte, reduceCtorEq, Int.reduceLE, Int.reduceLT, Int.reduceEq, Int.reduceMul, Int.reduceAdd, Int.reduceSub, Int.reduceNeg, Int.reduceToNat, Int.reduceNe, g18, g17]
        refine ⟨fun h => by unfold covN; rw [if_neg h], fun h => ?_⟩
        obtain ⟨hp, h0, hf, ha⟩ := chk_inv h
        have pp := planB_at hp
        have hm := mulWH pp.1 pp.2.1
        rw [wrapI (n := p_W * p_H) (by omega) (by omega)]
        refine ⟨by omega, ?_⟩
        refine vcLoop_upd (α := {k : Nat // k ≤ lL.length}) [1, 2, 7] 0 (fun s => [(8, .o (.c (.v (.int .i64 (s.1 : Nat)))))]) (fun s => [(3, .own (markL p_W p_H (insK lL s.1)).length 1 (rowF eB (markL p_W p_H (insK lL s.1))) 4)]) (fun s => lL.length - s.1) ⟨0, by omega⟩ ?_ ?_
        · simp only [push_cast, Nat.reduceAdd, Nat.reduceSub, Nat.reduceLeDiff, Nat.reduceEqDiff, Nat.reduceBEq, Nat.reduceMul, Nat.reduceLT, reduceIte, reduceCtorEq, Int.reduceLE, Int.reduceLT, Int.reduceEq, Int.reduceMul, Int.reduceAdd, Int.reduceSub, Int.reduceNeg, Int.reduceToNat, Int.reduceNe, g18, g17, markL_len]
          exact row_false
        rintro ⟨k, hk⟩
        simp only [x19L0, push_cast, Nat.reduceAdd, Nat.reduceSub, Nat.reduceLeDiff, Nat.reduceEqDiff, Nat.reduceBEq, Nat.reduceMul, Nat.reduceLT, reduceIte, reduceCtorEq, Int.reduceLE, Int.reduceLT, Int.reduceEq, Int.reduceMul, Int.reduceAdd, Int.reduceSub, Int.reduceNeg, Int.reduceToNat, Int.reduceNe, g18, g17, markL_len]
        refine ⟨fun hlt => ?_, fun hge => ?_⟩
        · have fk := frB_in (hf k hlt)
          have fi : cellIn p_W p_H (lL.getD k eC.dflt) := fk
          have ib := ix_bd fi
          have k2 := idx_bd hp (decide_eq_true fk : insB p_W p_H (lL.getD k eC.dflt).X (lL.getD k eC.dflt).Y = true)
          rw [wrapI (n := (lL.getD k eC.dflt).Y * p_W) (by omega) (by omega), wrapI (n := (lL.getD k eC.dflt).Y * p_W + (lL.getD k eC.dflt).X) (by omega) (by omega)]
          refine ⟨hlt, hlt, hlt, hlt, ⟨by omega, by omega⟩, by omega, by rfl, ⟨k + 1, by omega⟩, ⟨wrapI (by omega) (by omega), ?_⟩, by simp only; omega⟩
          rw [up_b true (by rw [markL_len]; omega)]
          have e := mark_set (K := insK lL k) fi
          unfold ixC at e
          rw [e]
          exact (rowEq_rowF _ _ _ _).2 trivial
        · obtain rfl : k = lL.length := by omega
          have e2 : decL eB (p_W * p_H).toNat (rowF eB (markL p_W p_H (insK lL lL.length))) = markL p_W p_H (insK lL lL.length) := by
            have := decL_rowF (E := eB) (markL p_W p_H (insK lL lL.length))
            rw [markL_len] at this; exact this
          have e3 : isRow eB (p_W * p_H).toNat 1 (rowF eB (markL p_W p_H (insK lL lL.length))) := by
            have := (isRow_rowF (E := eB) (markL p_W p_H (insK lL lL.length))).2 trivial
            rw [markL_len] at this; exact this
          rw [e2, cov_size h, h]
          exact ⟨e3, rfl, rfl⟩
      · cases hg_
    · cases hg_
  · cases hg_
end Go.Proofs.Ytnkkhmeojifckaa
