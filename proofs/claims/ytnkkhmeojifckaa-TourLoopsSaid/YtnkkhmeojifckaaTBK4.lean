/- A part of the proof of a statement about this seat: how a function is stepped through, and plain laws. No conditions. -/
import Derived.Test.YtnkkhmeojifckaaRows
import Derived.Test.YtnkkhmeojifckaaTBSz4
import Derived.Test.YtnkkhmeojifckaaTBK3
import Derived.KernelRfl
set_option linter.unusedVariables false
set_option linter.unusedSimpArgs false
set_option maxRecDepth 20000
namespace Go.Proofs.Ytnkkhmeojifckaa
open Go.Sx
def blkB (W H : Int) (L : List Int) : Bool := decide ((W % 2 = 0 ∧ H % 2 = 0) ∧ ∀ y, y < H.toNat → ∀ x, x < W.toNat → frB W H L x y = frB W H L ((x : Int) - (x : Int) % 2) ((y : Int) - (y : Int) % 2))
theorem andn1 {x : Nat} (h : x < 64) : bitI .andNot .i64 (x : Int) 1 = (x : Int) - (x : Int) % 2 := by
  have key : ∀ x : Fin 64, bitI .andNot .i64 ((x : Nat) : Int) 1 = ((x : Nat) : Int) - ((x : Nat) : Int) % 2 := by decide +kernel
  exact key ⟨x, h⟩
theorem blk_bad {W H : Int} {L : List Int} {x y : Nat} (hy : y < H.toNat) (hx : x < W.toNat) (h : frB W H L x y ≠ frB W H L ((x : Int) - (x : Int) % 2) ((y : Int) - (y : Int) % 2)) : blkB W H L = false := by
  unfold blkB
  rw [decide_eq_false_iff_not]
  rintro ⟨_, g⟩
  exact h (g y hy x hx)
def x37L0 : XC := (.seq (.reg false [O2 23 (.bin .lss) 22 21]) (.seq (.cond (.t 23) .skip (.exit 2)) (.seq (.block 3 (.seq (.reg false [O1 24 .mv 22, O1 4 .mv 24]) (.seq (.reg true [O1 25 (.loadN 3) 1, O1 26 .mv 4, O1 27 .mv 3, ⟨(some 28), (.build [(iV 0), (iV 0)] [(0, 1), (1, 1)]), [(.t 26), (.t 27)], none⟩, O2 29 (.call 34) 25 28, O1 30 (.loadN 3) 1, O1 31 .mv 4, K2 32 (.bin .andNot) 31 (iV 1), O1 33 .mv 3, K2 34 (.bin .andNot) 33 (iV 1), ⟨(some 35), (.build [(iV 0), (iV 0)] [(0, 1), (1, 1)]), [(.t 32), (.t 34)], none⟩, O2 36 (.call 34) 30 35, O2 37 (.binb .neq) 29 36]) (.cond (.t 37) (.seq (.reg false [K1 2 .mv (.bool false)]) .ret) .skip)))) (.reg false [K2 38 (.bin .add) 22 (iV 1), O1 22 .mv 38]))))
def x37L1 : XC := (.seq (.reg false [O2 18 (.bin .lss) 17 16]) (.seq (.cond (.t 18) .skip (.exit 0)) (.seq (.block 1 (.seq (.reg false [O1 19 .mv 17, O1 3 .mv 19]) (.seq (.reg false [O1 20 (.fld 0) 1, O1 21 .load1 20, K1 22 .mv (iV 0)]) (.block 2 (.loop x37L0))))) (.reg false [K2 39 (.bin .add) 17 (iV 1), O1 17 .mv 39]))))
def x37 : XFn := ⟨40, (.seq (.reg false [O1 1 (.box 24) 0, K1 2 .mv (.bool false)]) (.seq (.seq (.reg false [O1 5 (.fld 0) 1, O1 6 .load1 5, K2 7 (.bin .rem) 6 (iV 2), K2 8 (.bin .neq) 7 (iV 0), O1 9 .mv 8, G1 10 (.fld 1) 1 9 false, G1 11 .load1 10 9 false, GK 12 (.bin .rem) 11 (iV 2) 9 false, GK 13 (.bin .neq) 12 (iV 0) 9 false, ⟨(some 14), .pick, [(.t 9), (.k (.bool true)), (.t 13)], none⟩]) (.cond (.t 14) (.seq (.reg false [K1 2 .mv (.bool false)]) .ret) .skip)) (.seq (.seq (.reg false [O1 15 (.fld 1) 1, O1 16 .load1 15, K1 17 .mv (iV 0)]) (.block 0 (.loop x37L1))) (.seq (.reg false [K1 2 .mv (.bool true)]) .ret)))), [(.s 2)]⟩
theorem x37_ok : xfn Try.prog Try.f37 = some x37.er := by kernel_rfl
def x20L0 : XC := (.seq (.seq (.reg false [O1 28 (.fld 2) 1, O1 29 .load1 28, O1 30 .mv 5, O2 31 (.ixS 1) 29 30, O1 32 .load1 31, K2 33 (.bin .neq) 32 (.int .u8 1)]) (.cond (.t 33) .skip (.exit 1))) (.block 2 (.reg false [O1 34 .mv 5, K2 35 (.bin .add) 34 (iV 1), O1 5 .mv 35])))
def x20L1 : XC := (.seq (.reg false [K2 85 (.bin .lss) 84 (iV 4)]) (.seq (.cond (.t 85) .skip (.exit 5)) (.seq (.block 6 (.seq (.reg false [O2 86 (.ixN 4 2) 83 84, ⟨(some 11), (.alloc 26 [(iV 0), (iV 0)]), [], none⟩, ⟨none, (.store 2), [(.t 11), (.t 86)], none⟩]) (.seq (.seq (.reg false [O1 87 (.loadN 3) 1, O1 88 (.loadN 2) 11, O2 89 (.call 34) 87 88, O1 90 (.un .not) 89, O1 91 .mv 90, G1 92 .mv 7 91 false, G1 93 (.loadN 2) 11 91 false, ⟨(some 94), (.x (.lookM (.slice none 0 0))), [(.t 92), (.t 93)], (some (91, false))⟩, G1 95 (.isnil true) 94 91 false, ⟨(some 96), .pick, [(.t 91), (.k (.bool true)), (.t 95)], none⟩]) (.cond (.t 96) (.exit 6) .skip)) (.seq (.reg false [O1 97 .mv 7, O1 98 (.loadN 2) 11, O2 99 (.call 39) 97 98]) (.seq (.seq (.reg false [O1 100 (.fld 0) 11, O1 101 .load1 100, O1 102 (.fld 0) 9, O1 103 .load1 102, O2 104 (.bin .gtr) 101 103, O1 105 .mv 104, G1 106 (.fld 1) 11 105 false, G1 107 .load1 106 105 false, G1 108 (.fld 1) 9 105 false, G1 109 .load1 108 105 false, G2 110 (.bin .gtr) 107 109 105 false, ⟨(some 111), .pick, [(.t 105), (.k (.bool true)), (.t 110)], none⟩]) (.cond (.t 111) (.reg false [O1 112 .mv 7, O1 113 (.loadN 2) 9, O1 114 (.loadN 2) 11, ⟨(some 115), (.call 40), [(.t 112), (.t 113), (.t 114)], none⟩]) (.reg false [O1 116 .mv 7, O1 117 (.loadN 2) 11, O1 118 (.loadN 2) 9, ⟨(some 119), (.call 40), [(.t 116), (.t 117), (.t 118)], none⟩]))) (.reg false [O1 120 .mv 8, O1 121 (.loadN 2) 11, ⟨(some 122), (.slit 26 1 2 [(iV 0), (iV 0)] [(0, 2)]), [(.t 121)], none⟩, O2 123 (.app 26 2 16) 120 122, O1 8 .mv 123])))))) (.reg false [K2 124 (.bin .add) 84 (iV 1), O1 84 .mv 124]))))
def x20L2 : XC := (.seq (.seq (.reg false [O1 51 .mv 8, O1 52 .lenS 51, K2 53 (.bin .gtr) 52 (iV 0)]) (.cond (.t 53) .skip (.exit 3))) (.seq (.block 4 (.seq (.reg false [O1 56 .mv 8, K2 57 (.ixS 2) 56 (iV 0), O1 58 (.loadN 2) 57, ⟨(some 9), (.alloc 26 [(iV 0), (iV 0)]), [], none⟩, ⟨none, (.store 2), [(.t 9), (.t 58)], none⟩]) (.seq (.reg false [O1 59 (.fld 0) 9, O1 60 .load1 59, K2 61 (.bin .add) 60 (iV 2), O1 62 (.fld 1) 9, O1 63 .load1 62, ⟨(some 64), (.build [(iV 0), (iV 0)] [(0, 1), (1, 1)]), [(.t 61), (.t 63)], none⟩, O1 65 (.fld 0) 9, O1 66 .load1 65, O1 67 (.fld 1) 9, O1 68 .load1 67, K2 69 (.bin .add) 68 (iV 2), ⟨(some 70), (.build [(iV 0), (iV 0)] [(0, 1), (1, 1)]), [(.t 66), (.t 69)], none⟩, O1 71 (.fld 0) 9, O1 72 .load1 71, K2 73 (.bin .sub) 72 (iV 2), O1 74 (.fld 1) 9, O1 75 .load1 74, ⟨(some 76), (.build [(iV 0), (iV 0)] [(0, 1), (1, 1)]), [(.t 73), (.t 75)], none⟩, O1 77 (.fld 0) 9, O1 78 .load1 77, O1 79 (.fld 1) 9, O1 80 .load1 79, K2 81 (.bin .sub) 80 (iV 2), ⟨(some 82), (.build [(iV 0), (iV 0)] [(0, 1), (1, 1)]), [(.t 78), (.t 81)], none⟩, ⟨(some 83), (.build [(iV 0), (iV 0), (iV 0), (iV 0), (iV 0), (iV 0), (iV 0), (iV 0)] [(0, 2), (2, 2), (4, 2), (6, 2)]), [(.t 64), (.t 70), (.t 76), (.t 82)], none⟩, K1 84 .mv (iV 0)]) (.block 5 (.loop x20L1))))) (.reg false [O1 54 .mv 8, K2 55 (.slc 2 true false false) 54 (iV 1), O1 8 .mv 55])))
def x20L3 : XC := (.seq (.seq (.reg false [O1 137 (.loadN 2) 14, O1 138 (.loadN 2) 6, ⟨(some 139), (.eqA true [(.i .i64), (.i .i64)]), [(.t 137), (.t 138)], none⟩]) (.cond (.t 139) .skip (.exit 7))) (.block 8 (.seq (.reg false [O1 140 .mv 12, O1 141 (.loadN 2) 14, ⟨(some 142), (.slit 26 1 2 [(iV 0), (iV 0)] [(0, 2)]), [(.t 141)], none⟩, O2 143 (.app 26 2 16) 140 142, O1 12 .mv 143]) (.seq (.reg false [O1 144 .mv 7, O1 145 (.loadN 2) 14, ⟨(some 146), (.x (.lookM (.slice none 0 0))), [(.t 144), (.t 145)], none⟩, K2 147 (.ixS 2) 146 (iV 0), O1 148 (.loadN 2) 147, ⟨(some 15), (.alloc 26 [(iV 0), (iV 0)]), [], none⟩, ⟨none, (.store 2), [(.t 15), (.t 148)], none⟩]) (.seq (.seq (.reg false [O1 149 (.loadN 2) 15, O1 150 (.loadN 2) 13, ⟨(some 151), (.eqA false [(.i .i64), (.i .i64)]), [(.t 149), (.t 150)], none⟩]) (.cond (.t 151) (.reg false [O1 152 .mv 7, O1 153 (.loadN 2) 14, ⟨(some 154), (.x (.lookM (.slice none 0 0))), [(.t 152), (.t 153)], none⟩, K2 155 (.ixS 2) 154 (iV 1), O1 156 (.loadN 2) 155, ⟨none, (.store 2), [(.t 15), (.t 156)], none⟩]) .skip)) (.regD [O1 157 (.loadN 2) 14, O1 158 (.loadN 2) 15, ⟨none, (.store 2), [(.t 13), (.t 157)], none⟩, ⟨none, (.store 2), [(.t 14), (.t 158)], none⟩] [[], [], [0], [1, 2, 0]]))))))
def x20 : XFn := ⟨160, (.seq (.reg false [O1 1 (.box 24) 0, K1 2 .mv (.slice none 0 0), K1 3 .mv (iV 0)]) (.seq (.block 0 (.seq (.reg false [O1 17 (.loadN 3) 1, O1 18 (.call 33) 17, O1 19 (.un .not) 18, O1 16 .mv 19]) (.cond (.t 16) (.seq (.reg false [K1 2 .mv (.slice none 0 0), K1 3 .mv (iV 1)]) .ret) (.seq (.reg false [O1 21 (.loadN 3) 1, O1 22 (.call 37) 21, O1 23 (.un .not) 22, O1 20 .mv 23]) (.cond (.t 20) (.seq (.reg false [K1 2 .mv (.slice none 0 0), K1 3 .mv (iV 3)]) .ret) .skip))))) (.seq (.reg false [O1 24 (.loadN 3) 1, K2 25 (.call 38) 24 (.int .u8 1), O1 4 .mv 25]) (.seq (.seq (.reg false [O1 26 .mv 4, K2 27 (.bin .eql) 26 (iV 0)]) (.cond (.t 27) (.seq (.reg false [K1 2 .mv (.slice none 0 0), K1 3 .mv (iV 9)]) .ret) .skip)) (.seq (.reg false [K1 5 .mv (iV 0)]) (.seq (.block 1 (.loop x20L0)) (.seq (.regD [O1 36 .mv 5, O1 37 (.fld 0) 1, O1 38 .load1 37, O2 39 (.bin .rem) 36 38, O1 40 .mv 5, O1 41 (.fld 0) 1, O1 42 .load1 41, O2 43 (.bin .quo) 40 42, ⟨(some 44), (.build [(iV 0), (iV 0)] [(0, 1), (1, 1)]), [(.t 39), (.t 43)], none⟩, ⟨(some 6), (.alloc 26 [(iV 0), (iV 0)]), [], none⟩, ⟨none, (.store 2), [(.t 6), (.t 44)], none⟩] [[], [], [1], [0, 2, 1], [], [], [5], [4, 6, 5], [3, 0, 2, 1, 7, 4, 6, 5], [], [9, 8, 3, 0, 2, 1, 7, 4, 6, 5]]) (.seq (.reg false [⟨(some 45), .mkm, [], none⟩, O1 7 .mv 45]) (.seq (.reg false [O1 46 .mv 7, O1 47 (.loadN 2) 6, O2 48 (.call 39) 46 47]) (.seq (.seq (.reg false [O1 49 (.loadN 2) 6, ⟨(some 50), (.slit 26 1 2 [(iV 0), (iV 0)] [(0, 2)]), [(.t 49)], none⟩, O1 8 .mv 50]) (.block 3 (.loop x20L2))) (.seq (.seq (.reg false [O1 125 .mv 7, O1 126 (.x .lenM) 125, O1 127 .mv 4, O2 128 (.bin .neq) 126 127]) (.cond (.t 128) (.seq (.reg false [K1 2 .mv (.slice none 0 0), K1 3 .mv (iV 9)]) .ret) .skip)) (.seq (.reg false [O1 129 (.loadN 2) 6, ⟨(some 130), (.slit 26 1 2 [(iV 0), (iV 0)] [(0, 2)]), [(.t 129)], none⟩, O1 12 .mv 130]) (.seq (.regD [O1 131 (.loadN 2) 6, O1 132 .mv 7, O1 133 (.loadN 2) 6, ⟨(some 134), (.x (.lookM (.slice none 0 0))), [(.t 132), (.t 133)], none⟩, K2 135 (.ixS 2) 134 (iV 0), O1 136 (.loadN 2) 135, ⟨(some 13), (.alloc 26 [(iV 0), (iV 0)]), [], none⟩, ⟨(some 14), (.alloc 26 [(iV 0), (iV 0)]), [], none⟩, ⟨none, (.store 2), [(.t 13), (.t 131)], none⟩, ⟨none, (.store 2), [(.t 14), (.t 136)], none⟩] [[], [], [], [1, 2], [3, 1, 2], [4, 3, 1, 2], [], [], [6, 0, 7], [7, 5, 4, 3, 1, 2, 8, 6, 0]]) (.seq (.block 7 (.loop x20L3)) (.seq (.reg false [O1 159 .mv 12, O1 2 .mv 159, K1 3 .mv (iV 0)]) .ret))))))))))))))), [(.s 2), (.s 3)]⟩
theorem x20_ok : xfn Try.prog Try.f20 = some x20.er := by kernel_rfl
def x11 : XFn := ⟨62, (.seq (.reg false [K1 0 .mv (.bool false)]) (.seq (.reg false [⟨(some 10), (.slit 5 4 1 [(.int .u8 0), (.int .u8 0), (.int .u8 0), (.int .u8 0)] [(0, 1), (1, 1), (2, 1), (3, 1)]), [(.k (.int .u8 1)), (.k (.int .u8 1)), (.k (.int .u8 1)), (.k (.int .u8 1))], none⟩, ⟨(some 11), (.build [(iV 0), (iV 0), (.slice none 0 0)] [(0, 1), (1, 1), (2, 1)]), [(.k (iV 2)), (.k (iV 2)), (.t 10)], none⟩, ⟨(some 1), (.alloc 24 [(iV 0), (iV 0), (.slice none 0 0)]), [], none⟩, ⟨none, (.store 3), [(.t 1), (.t 11)], none⟩]) (.seq (.reg false [O1 13 (.loadN 3) 1, ⟨(some 14), (.build [(iV 0), (iV 0)] []), [], none⟩, O2 15 (.call 13) 13 14, O1 12 .mv 15, O1 16 (.ext 0) 12, O1 17 (.ext 1) 12, O1 2 .mv 16, O1 3 .mv 17]) (.seq (.reg false [O1 19 (.loadN 3) 1, O1 20 (.call 20) 19, O1 18 .mv 20, O1 21 (.ext 0) 18, O1 22 (.ext 1) 18, O1 4 .mv 21, O1 5 .mv 22]) (.seq (.reg false [O1 24 (.loadN 3) 1, O1 25 .mv 2, O2 26 (.call 27) 24 25, O1 23 .mv 26, O1 27 (.ext 0) 23, O1 28 (.ext 1) 23, O1 6 .mv 27, O1 7 .mv 28]) (.seq (.reg false [O1 30 (.loadN 3) 1, O1 31 (.call 29) 30, O1 29 .mv 31, O1 32 (.ext 0) 29, O1 33 (.ext 1) 29, O1 8 .mv 32, O1 9 .mv 33]) (.seq (.reg false [O1 34 .mv 3, K2 35 (.bin .eql) 34 (iV 0), O1 36 .mv 35, G1 37 .mv 5 36 true, GK 38 (.bin .eql) 37 (iV 0) 36 true, ⟨(some 39), .pick, [(.t 36), (.t 38), (.k (.bool false))], none⟩, O1 40 .mv 39, G1 41 .mv 4 40 true, G1 42 .lenS 41 40 true, GK 43 (.bin .eql) 42 (iV 4) 40 true, ⟨(some 44), .pick, [(.t 40), (.t 43), (.k (.bool false))], none⟩, O1 45 .mv 44, G1 46 .mv 7 45 true, GK 47 (.bin .eql) 46 (iV 0) 45 true, ⟨(some 48), .pick, [(.t 45), (.t 47), (.k (.bool false))], none⟩, O1 49 .mv 48, G1 50 .mv 6 49 true, GK 51 (.bin .eql) 50 (iV 4) 49 true, ⟨(some 52), .pick, [(.t 49), (.t 51), (.k (.bool false))], none⟩, O1 53 .mv 52, G1 54 .mv 9 53 true, GK 55 (.bin .eql) 54 (iV 0) 53 true, ⟨(some 56), .pick, [(.t 53), (.t 55), (.k (.bool false))], none⟩, O1 57 .mv 56, G1 58 .mv 8 57 true, G1 59 .lenS 58 57 true, GK 60 (.bin .eql) 59 (iV 2) 57 true, ⟨(some 61), .pick, [(.t 57), (.t 60), (.k (.bool false))], none⟩, O1 0 .mv 61]) .ret))))))), [(.s 0)]⟩
theorem x11_ok : xfn Try.prog Try.f11 = some x11.er := by kernel_rfl
def g37 : Con := fun args_ E_ nn_ => match args_ with
  | [.a [.v (.int .i64 p_W), .v (.int .i64 p_H), .n p_Cells]] => (match rowOf E_ p_Cells with
    | some (p_Cells_n, p_Cells_s, p_Cells_f) => some (.q (isRow eU8 p_Cells_n p_Cells_s p_Cells_f ∧ planB p_W p_H (decL eU8 p_Cells_n p_Cells_f) = true) (.o (.c (.v (.bool (blkB p_W p_H (decL eU8 p_Cells_n p_Cells_f)))))))
    | none => none)
  | _ => none
theorem c37 : COk Try.prog 37 g37 := by
  refine cok_q Try.func37 x37_ok (by kernel_rfl) (cok_tab (cok_cons c34 cok_nil)) ?_
  intro args_ E_ nn_ cr_ hg_
  unfold g37 at hg_
  split at hg_
  · rename_i p_W p_H p_Cells
    split at hg_
    · rename_i p_Cells_n p_Cells_s p_Cells_f h_p_Cells
      cases hg_
      refine ⟨_, _, rfl, 1, [p_Cells], [.a [.v (.int .i64 p_W), .v (.int .i64 p_H), .n 0]], [(0, .ro (decL eU8 p_Cells_n p_Cells_f).length eU8.sz (rowF eU8 (decL eU8 p_Cells_n p_Cells_f)))], .o (.c (.v (.bool (blkB p_W p_H (decL eU8 p_Cells_n p_Cells_f))))), rfl, rfl, by simp only [push_cast, Nat.reduceLT, Nat.reduceAdd], by simp only [push_cast, Nat.reduceLT, Nat.reduceAdd], by simp only [push_cast, Nat.reduceLT, Nat.reduceAdd], rfl, ⟨inE0_row h_p_Cells, trivial⟩, rfl, ?_⟩
      intro hpre hlen
      obtain ⟨i_p_Cells, hpre⟩ := hpre
      refine ⟨⟨inE_row h_p_Cells i_p_Cells, trivial⟩, ?_⟩
      have z_p_Cells := lens_row (E := eU8) hlen h_p_Cells
      clear i_p_Cells
      generalize decL eU8 p_Cells_n p_Cells_f = p_CellsL at *
      clear h_p_Cells
      simp (config := {maxSteps := 10000000}) only [x37, push_cast, Nat.reduceAdd, Nat.reduceSub, Nat.reduceLeDiff, Nat.reduceEqDiff, Nat.reduceBEq, Nat.reduceMul, Nat.reduceLT, reduceIte, reduceCtorEq, Int.reduceLE, Int.reduceLT, Int.reduceEq, Int.reduceMul, Int.reduceAdd, Int.reduceSub, Int.reduceNeg, Int.reduceToNat, Int.reduceNe, g34]
      have pp := planB_at hpre
      rw [Int.tmod_eq_emod_of_nonneg (by omega), Int.tmod_eq_emod_of_nonneg (by omega)]
      refine ⟨fun h => ?_, fun h1 h2 => ?_⟩
      · unfold blkB; rw [decide_eq_false (by omega)]
      refine vcLoop_upd (α := {j : Nat // (j : Int) ≤ p_H ∧ ∀ y, y < j → ∀ x, x < p_W.toNat → frB p_W p_H p_CellsL x y = frB p_W p_H p_CellsL ((x : Int) - (x : Int) % 2) ((y : Int) - (y : Int) % 2)}) [1, 16] 0 (fun s => [(17, .o (.c (.v (.int .i64 (s.1 : Nat)))))]) (fun s => []) (fun s => p_H.toNat - s.1) ⟨0, by omega, fun y hy => by omega⟩ ?_ ?_
      · simp only [push_cast, Nat.reduceAdd, Nat.reduceSub, Nat.reduceLeDiff, Nat.reduceEqDiff, Nat.reduceBEq, Nat.reduceMul, Nat.reduceLT, reduceIte, reduceCtorEq, Int.reduceLE, Int.reduceLT, Int.reduceEq, Int.reduceMul, Int.reduceAdd, Int.reduceSub, Int.reduceNeg, Int.reduceToNat, Int.reduceNe, g34]
      rintro ⟨j, hj, hrow⟩
      simp only [x37L1, push_cast, Nat.reduceAdd, Nat.reduceSub, Nat.reduceLeDiff, Nat.reduceEqDiff, Nat.reduceBEq, Nat.reduceMul, Nat.reduceLT, reduceIte, reduceCtorEq, Int.reduceLE, Int.reduceLT, Int.reduceEq, Int.reduceMul, Int.reduceAdd, Int.reduceSub, Int.reduceNeg, Int.reduceToNat, Int.reduceNe, g34]
      refine ⟨fun hlt => ?_, fun hge => ?_⟩
      · refine vcLoop_upd (α := {k : Nat // (k : Int) ≤ p_W ∧ ∀ x, x < k → frB p_W p_H p_CellsL x j = frB p_W p_H p_CellsL ((x : Int) - (x : Int) % 2) ((j : Int) - (j : Int) % 2)}) [1, 3, 16, 17, 21] 0 (fun s => [(22, .o (.c (.v (.int .i64 (s.1 : Nat)))))]) (fun s => []) (fun s => p_W.toNat - s.1) ⟨0, by omega, fun y hy => by omega⟩ ?_ ?_
        · simp only [push_cast, Nat.reduceAdd, Nat.reduceSub, Nat.reduceLeDiff, Nat.reduceEqDiff, Nat.reduceBEq, Nat.reduceMul, Nat.reduceLT, reduceIte, reduceCtorEq, Int.reduceLE, Int.reduceLT, Int.reduceEq, Int.reduceMul, Int.reduceAdd, Int.reduceSub, Int.reduceNeg, Int.reduceToNat, Int.reduceNe, g34]
        rintro ⟨k, hk, hcol⟩
        simp only [x37L0, push_cast, Nat.reduceAdd, Nat.reduceSub, Nat.reduceLeDiff, Nat.reduceEqDiff, Nat.reduceBEq, Nat.reduceMul, Nat.reduceLT, reduceIte, reduceCtorEq, Int.reduceLE, Int.reduceLT, Int.reduceEq, Int.reduceMul, Int.reduceAdd, Int.reduceSub, Int.reduceNeg, Int.reduceToNat, Int.reduceNe, g34]
        refine ⟨fun hlt2 => ?_, fun hge => ⟨⟨j + 1, by omega, fun y hy x hx => ?_⟩, wrapI (by omega) (by omega), by simp only; omega⟩⟩
        · rw [andn1 (by omega), andn1 (by omega)]
          exact ⟨hpre, hpre, fun e => (blk_bad (by omega) (by omega) e).symm, fun e => ⟨⟨k + 1, by omega, fun x hx => by
            by_cases q : x = k
            · subst q; exact e
            · exact hcol x (by omega)⟩, wrapI (by omega) (by omega), by simp only; omega⟩⟩
        · by_cases q : y = j
          · subst q; exact hcol x (by omega)
          · exact hrow y (by omega) x hx
      · unfold blkB
        rw [decide_eq_true ⟨⟨h1, h2⟩, fun y hy x hx => hrow y (by omega) x hx⟩]
    · cases hg_
  · cases hg_
end Go.Proofs.Ytnkkhmeojifckaa
namespace Go.Proofs.Ytnkkhmeojifckaa
open Go.Sx
theorem row_ext {L : List CC} {n : Nat} {c : CC} {b : Bnd} (h : L.getD n eC.dflt = c) : rowEq (n + 1) 2 (catF n (rowF eC L) (litF [SC.v (.int .i64 c.X), SC.v (.int .i64 c.Y)] 2)) (rowF eC L) (SC.sub b) := by
  intro e j he hj
  rw [rowF_sub]
  unfold catF
  by_cases g : e < n
  · rw [if_pos g]
  · rw [if_neg g]
    obtain rfl : e = n := by omega
    rw [Nat.sub_self]
    unfold rowF
    rw [h]
    rcases (by omega : j = 0 ∨ j = 1) with rfl | rfl <;> rfl
theorem row_hd {L : List CC} {c : CC} {b : Bnd} (h : L.getD 0 eC.dflt = c) : rowEq 1 2 (litF [SC.v (.int .i64 c.X), SC.v (.int .i64 c.Y)] 2) (rowF eC L) (SC.sub b) := by
  intro e j he hj
  rw [rowF_sub]
  obtain rfl : e = 0 := by omega
  unfold rowF
  rw [h]
  rcases (by omega : j = 0 ∨ j = 1) with rfl | rfl <;> rfl
def lpX (i : Nat) : Int := ([0, 1, 1, 0, 0] : List Int).getD i 0
def lpY (i : Nat) : Int := ([0, 0, 1, 1, 0] : List Int).getD i 0
theorem lpX0 : lpX 0 = 0 := rfl
theorem lpX1 : lpX 1 = 1 := rfl
theorem lpX2 : lpX 2 = 1 := rfl
theorem lpX3 : lpX 3 = 0 := rfl
theorem lpX4 : lpX 4 = 0 := rfl
theorem lpY0 : lpY 0 = 0 := rfl
theorem lpY1 : lpY 1 = 0 := rfl
theorem lpY2 : lpY 2 = 1 := rfl
theorem lpY3 : lpY 3 = 1 := rfl
theorem lpY4 : lpY 4 = 0 := rfl
def g20a : Con := fun args_ E_ nn_ => match args_ with
  | [.a [.v (.int .i64 p_W), .v (.int .i64 p_H), .n p_Cells]] => (match rowOf E_ p_Cells with
    | some (p_Cells_n, p_Cells_s, p_Cells_f) => some (.e (isRow eU8 p_Cells_n p_Cells_s p_Cells_f ∧ (p_W = 2 ∧ p_H = 2) ∧ (decL eU8 p_Cells_n p_Cells_f) = [1, 1, 1, 1]) (.t [.c (.n (nn_ + 0)), .c (.v (.int .i64 (0)))]) [((nn_ + 0), .own 4 2 (rowF eC [⟨0, 0⟩, ⟨1, 0⟩, ⟨1, 1⟩, ⟨0, 1⟩]) 26)] (nn_ + 1))
    | none => none)
  | _ => none
set_option maxHeartbeats 40000000 in
theorem c20a : COk Try.prog 20 g20a := by
  refine cok_e Try.func20 x20_ok (by kernel_rfl) (cok_tab (cok_cons c33 (cok_cons c37 (cok_cons c38 (cok_cons c34 (cok_cons c39 cok_nil)))))) ?_
  intro args_ E_ nn_ cr_ hg_
  unfold g20a at hg_
  split at hg_
  · rename_i p_W p_H p_Cells
    split at hg_
    · rename_i p_Cells_n p_Cells_s p_Cells_f h_p_Cells
      cases hg_
      refine ⟨_, _, _, _, rfl, 1, [p_Cells], [.a [.v (.int .i64 p_W), .v (.int .i64 p_H), .n 0]], [(0, .ro (decL eU8 p_Cells_n p_Cells_f).length eU8.sz (rowF eU8 (decL eU8 p_Cells_n p_Cells_f)))], .t [.c (.n 1), .c (.v (.int .i64 (0)))], [(1, .own 4 2 (rowF eC [⟨0, 0⟩, ⟨1, 0⟩, ⟨1, 1⟩, ⟨0, 1⟩]) 26)], 2, rfl, rfl, by simp only [renE, Ent.ren, rowF_renf] <;> rfl, rfl, by decide, by simp only [push_cast, Nat.reduceLT, Nat.reduceAdd], by simp only [push_cast, Nat.reduceLT, Nat.reduceAdd], by simp only [push_cast, Nat.reduceLT, Nat.reduceAdd], by simp only [push_cast, Nat.reduceLT, Nat.reduceAdd], rfl, ⟨inE0_row h_p_Cells, trivial⟩, by simp only [keysNodup, outN, keys] <;> decide, rfl, rfl, ?_⟩
      intro hpre hlen
      obtain ⟨i_p_Cells, hpre⟩ := hpre
      refine ⟨⟨inE_row h_p_Cells i_p_Cells, trivial⟩, by simp only [apartE] <;> (first | trivial | (simp [Ent.mut]; done)), ?_⟩
      have z_p_Cells := lens_row (E := eU8) hlen h_p_Cells
      clear i_p_Cells
      generalize decL eU8 p_Cells_n p_Cells_f = p_CellsL at *
      clear h_p_Cells
      obtain ⟨⟨rfl, rfl⟩, hL⟩ := hpre
      have f1 : planB 2 2 p_CellsL = true := by rw [hL]; decide
      have f2 : blkB 2 2 p_CellsL = true := by rw [hL]; decide +kernel
      have f3 : cntV 2 2 p_CellsL 1 = 4 := by rw [hL]; decide +kernel
      have f5 : p_CellsL.getD 0 eU8.dflt = 1 := by rw [hL]; rfl
      have t1 : Int.tmod 0 2 = 0 := by decide
      have t2 : IntKind.i64.wrap (Int.tdiv 0 2) = 0 := by decide
      have t3 : IntKind.i64.wrap 0 = 0 := by decide
      have t4 : IntKind.i64.wrap 2 = 2 := by decide
      have t5 : IntKind.i64.wrap (-2) = -2 := by decide
      have o1 : frB 2 2 p_CellsL 2 0 = false := frB_out (by omega)
      have o2 : frB 2 2 p_CellsL 0 2 = false := frB_out (by omega)
      have o3 : frB 2 2 p_CellsL (-2) 0 = false := frB_out (by omega)
      have o4 : frB 2 2 p_CellsL 0 (-2) = false := frB_out (by omega)
      simp (config := {maxSteps := 10000000}) only [x20, push_cast, Nat.reduceAdd, Nat.reduceSub, Nat.reduceLeDiff, Nat.reduceEqDiff, Nat.reduceBEq, Nat.reduceMul, Nat.reduceLT, ↓reduceIte, reduceCtorEq, Int.reduceLE, Int.reduceLT, Int.reduceEq, Int.reduceMul, Int.reduceAdd, Int.reduceSub, Int.reduceNeg, Int.reduceToNat, Int.reduceNe, g33, g37, g38, g34, g39, f1, f2, f3, f5, o1, o2, o3, o4, t1, t2, t3, t4, t5, lpX0, lpX1, lpX2, lpX3, lpX4, lpY0, lpY1, lpY2, lpY3, lpY4]
      refine vcLoop_upd (α := Unit) [1, 4] 0 (fun _ => [(5, .o (.c (.v (.int .i64 (0)))))]) (fun _ => []) (fun _ => 0) () ?_ ?_
      · simp only [push_cast, Nat.reduceAdd, Nat.reduceSub, Nat.reduceLeDiff, Nat.reduceEqDiff, Nat.reduceBEq, Nat.reduceMul, Nat.reduceLT, ↓reduceIte, reduceCtorEq, Int.reduceLE, Int.reduceLT, Int.reduceEq, Int.reduceMul, Int.reduceAdd, Int.reduceSub, Int.reduceNeg, Int.reduceToNat, Int.reduceNe, g33, g37, g38, g34, g39, f1, f2, f3, f5, o1, o2, o3, o4, t1, t2, t3, t4, t5, lpX0, lpX1, lpX2, lpX3, lpX4, lpY0, lpY1, lpY2, lpY3, lpY4]
      intro u
      simp only [x20L0, push_cast, Nat.reduceAdd, Nat.reduceSub, Nat.reduceLeDiff, Nat.reduceEqDiff, Nat.reduceBEq, Nat.reduceMul, Nat.reduceLT, ↓reduceIte, reduceCtorEq, Int.reduceLE, Int.reduceLT, Int.reduceEq, Int.reduceMul, Int.reduceAdd, Int.reduceSub, Int.reduceNeg, Int.reduceToNat, Int.reduceNe, g33, g37, g38, g34, g39, f1, f2, f3, f5, o1, o2, o3, o4, t1, t2, t3, t4, t5, lpX0, lpX1, lpX2, lpX3, lpX4, lpY0, lpY1, lpY2, lpY3, lpY4]
      have hl : p_CellsL.length = 4 := by rw [hL]; rfl
      refine ⟨by omega, by omega, by rfl, ?_⟩
      refine vcLoop_upd (α := {k : Nat // k ≤ 1}) [1, 4, 6, 7] 0 (fun s => [(8, .o (.c (.n 29)))]) (fun s => [(29, .own (1 - s.1) 2 (rowF eC [⟨0, 0⟩]) 26)]) (fun s => 1 - s.1) ⟨0, by omega⟩ ?_ ?_
      · simp only [push_cast, Nat.reduceAdd, Nat.reduceSub, Nat.reduceLeDiff, Nat.reduceEqDiff, Nat.reduceBEq, Nat.reduceMul, Nat.reduceLT, ↓reduceIte, reduceCtorEq, Int.reduceLE, Int.reduceLT, Int.reduceEq, Int.reduceMul, Int.reduceAdd, Int.reduceSub, Int.reduceNeg, Int.reduceToNat, Int.reduceNe, g33, g37, g38, g34, g39, f1, f2, f3, f5, o1, o2, o3, o4, t1, t2, t3, t4, t5, lpX0, lpX1, lpX2, lpX3, lpX4, lpY0, lpY1, lpY2, lpY3, lpY4]
        exact row_one ⟨0, 0⟩ _
      rintro ⟨k, hk⟩
      rcases (by omega : k = 0 ∨ k = 1) with rfl | rfl
      · simp only [x20L2, push_cast, Nat.reduceAdd, Nat.reduceSub, Nat.reduceLeDiff, Nat.reduceEqDiff, Nat.reduceBEq, Nat.reduceMul, Nat.reduceLT, ↓reduceIte, reduceCtorEq, Int.reduceLE, Int.reduceLT, Int.reduceEq, Int.reduceMul, Int.reduceAdd, Int.reduceSub, Int.reduceNeg, Int.reduceToNat, Int.reduceNe, g33, g37, g38, g34, g39, f1, f2, f3, f5, o1, o2, o3, o4, t1, t2, t3, t4, t5, lpX0, lpX1, lpX2, lpX3, lpX4, lpY0, lpY1, lpY2, lpY3, lpY4]
        refine vcLoop_upd (α := {i : Nat // i ≤ 4}) [1, 4, 6, 7, 9, 83] 0 (fun s => [(8, .o (.c (.n 29))), (84, .o (.c (.v (.int .i64 (s.1 : Nat)))))]) (fun s => [(29, .own 1 2 (rowF eC [⟨0, 0⟩]) 26)]) (fun s => 4 - s.1) ⟨0, by omega⟩ ?_ ?_
        · simp only [push_cast, Nat.reduceAdd, Nat.reduceSub, Nat.reduceLeDiff, Nat.reduceEqDiff, Nat.reduceBEq, Nat.reduceMul, Nat.reduceLT, ↓reduceIte, reduceCtorEq, Int.reduceLE, Int.reduceLT, Int.reduceEq, Int.reduceMul, Int.reduceAdd, Int.reduceSub, Int.reduceNeg, Int.reduceToNat, Int.reduceNe, g33, g37, g38, g34, g39, f1, f2, f3, f5, o1, o2, o3, o4, t1, t2, t3, t4, t5, lpX0, lpX1, lpX2, lpX3, lpX4, lpY0, lpY1, lpY2, lpY3, lpY4]
        rintro ⟨i, hi⟩
        rcases (by omega : i = 0 ∨ i = 1 ∨ i = 2 ∨ i = 3 ∨ i = 4) with rfl | rfl | rfl | rfl | rfl
        · simp only [x20L1, push_cast, Nat.reduceAdd, Nat.reduceSub, Nat.reduceLeDiff, Nat.reduceEqDiff, Nat.reduceBEq, Nat.reduceMul, Nat.reduceLT, ↓reduceIte, reduceCtorEq, Int.reduceLE, Int.reduceLT, Int.reduceEq, Int.reduceMul, Int.reduceAdd, Int.reduceSub, Int.reduceNeg, Int.reduceToNat, Int.reduceNe, g33, g37, g38, g34, g39, f1, f2, f3, f5, o1, o2, o3, o4, t1, t2, t3, t4, t5, lpX0, lpX1, lpX2, lpX3, lpX4, lpY0, lpY1, lpY2, lpY3, lpY4]
          exact ⟨⟨1, by omega⟩, by rfl, by simp only; omega⟩
        · simp only [x20L1, push_cast, Nat.reduceAdd, Nat.reduceSub, Nat.reduceLeDiff, Nat.reduceEqDiff, Nat.reduceBEq, Nat.reduceMul, Nat.reduceLT, ↓reduceIte, reduceCtorEq, Int.reduceLE, Int.reduceLT, Int.reduceEq, Int.reduceMul, Int.reduceAdd, Int.reduceSub, Int.reduceNeg, Int.reduceToNat, Int.reduceNe, g33, g37, g38, g34, g39, f1, f2, f3, f5, o1, o2, o3, o4, t1, t2, t3, t4, t5, lpX0, lpX1, lpX2, lpX3, lpX4, lpY0, lpY1, lpY2, lpY3, lpY4]
          exact ⟨⟨2, by omega⟩, by rfl, by simp only; omega⟩
        · simp only [x20L1, push_cast, Nat.reduceAdd, Nat.reduceSub, Nat.reduceLeDiff, Nat.reduceEqDiff, Nat.reduceBEq, Nat.reduceMul, Nat.reduceLT, ↓reduceIte, reduceCtorEq, Int.reduceLE, Int.reduceLT, Int.reduceEq, Int.reduceMul, Int.reduceAdd, Int.reduceSub, Int.reduceNeg, Int.reduceToNat, Int.reduceNe, g33, g37, g38, g34, g39, f1, f2, f3, f5, o1, o2, o3, o4, t1, t2, t3, t4, t5, lpX0, lpX1, lpX2, lpX3, lpX4, lpY0, lpY1, lpY2, lpY3, lpY4]
          exact ⟨⟨3, by omega⟩, by rfl, by simp only; omega⟩
        · simp only [x20L1, push_cast, Nat.reduceAdd, Nat.reduceSub, Nat.reduceLeDiff, Nat.reduceEqDiff, Nat.reduceBEq, Nat.reduceMul, Nat.reduceLT, ↓reduceIte, reduceCtorEq, Int.reduceLE, Int.reduceLT, Int.reduceEq, Int.reduceMul, Int.reduceAdd, Int.reduceSub, Int.reduceNeg, Int.reduceToNat, Int.reduceNe, g33, g37, g38, g34, g39, f1, f2, f3, f5, o1, o2, o3, o4, t1, t2, t3, t4, t5, lpX0, lpX1, lpX2, lpX3, lpX4, lpY0, lpY1, lpY2, lpY3, lpY4]
          exact ⟨⟨4, by omega⟩, by rfl, by simp only; omega⟩
        · simp only [x20L1, push_cast, Nat.reduceAdd, Nat.reduceSub, Nat.reduceLeDiff, Nat.reduceEqDiff, Nat.reduceBEq, Nat.reduceMul, Nat.reduceLT, ↓reduceIte, reduceCtorEq, Int.reduceLE, Int.reduceLT, Int.reduceEq, Int.reduceMul, Int.reduceAdd, Int.reduceSub, Int.reduceNeg, Int.reduceToNat, Int.reduceNe, g33, g37, g38, g34, g39, f1, f2, f3, f5, o1, o2, o3, o4, t1, t2, t3, t4, t5, lpX0, lpX1, lpX2, lpX3, lpX4, lpY0, lpY1, lpY2, lpY3, lpY4]
          exact ⟨⟨1, by omega⟩, ⟨rfl, fun e j he hj => by omega⟩, by simp only; omega⟩
      · simp only [x20L2, push_cast, Nat.reduceAdd, Nat.reduceSub, Nat.reduceLeDiff, Nat.reduceEqDiff, Nat.reduceBEq, Nat.reduceMul, Nat.reduceLT, ↓reduceIte, reduceCtorEq, Int.reduceLE, Int.reduceLT, Int.reduceEq, Int.reduceMul, Int.reduceAdd, Int.reduceSub, Int.reduceNeg, Int.reduceToNat, Int.reduceNe, g33, g37, g38, g34, g39, f1, f2, f3, f5, o1, o2, o3, o4, t1, t2, t3, t4, t5, lpX0, lpX1, lpX2, lpX3, lpX4, lpY0, lpY1, lpY2, lpY3, lpY4]
        refine ⟨by rfl, ?_⟩
        refine vcLoop_upd (α := {i : Nat // i ≤ 3}) [6, 7, 13, 14] 0 (fun s => [(12, .o (.c (.n 30)))]) (fun s => [(30, .own (s.1 + 1) 2 (rowF eC [⟨0, 0⟩, ⟨1, 0⟩, ⟨1, 1⟩, ⟨0, 1⟩]) 26), (31, .box [.v (.int .i64 (lpX s.1)), .v (.int .i64 (lpY s.1))] 26), (32, .box [.v (.int .i64 (lpX (s.1 + 1))), .v (.int .i64 (lpY (s.1 + 1)))] 26)]) (fun s => 3 - s.1) ⟨0, by omega⟩ ?_ ?_
        · simp (config := {maxSteps := 10000000}) only [push_cast, Nat.reduceAdd, Nat.reduceSub, Nat.reduceLeDiff, Nat.reduceEqDiff, Nat.reduceBEq, Nat.reduceMul, Nat.reduceLT, ↓reduceIte, reduceCtorEq, Int.reduceLE, Int.reduceLT, Int.reduceEq, Int.reduceMul, Int.reduceAdd, Int.reduceSub, Int.reduceNeg, Int.reduceToNat, Int.reduceNe, g33, g37, g38, g34, g39, f1, f2, f3, f5, o1, o2, o3, o4, t1, t2, t3, t4, t5, lpX0, lpX1, lpX2, lpX3, lpX4, lpY0, lpY1, lpY2, lpY3, lpY4]
          exact row_hd (c := ⟨0, 0⟩) rfl
        rintro ⟨i, hi⟩
        rcases (by omega : i = 0 ∨ i = 1 ∨ i = 2 ∨ i = 3) with rfl | rfl | rfl | rfl
        · simp (config := {maxSteps := 10000000}) only [x20L3, push_cast, Nat.reduceAdd, Nat.reduceSub, Nat.reduceLeDiff, Nat.reduceEqDiff, Nat.reduceBEq, Nat.reduceMul, Nat.reduceLT, ↓reduceIte, reduceCtorEq, Int.reduceLE, Int.reduceLT, Int.reduceEq, Int.reduceMul, Int.reduceAdd, Int.reduceSub, Int.reduceNeg, Int.reduceToNat, Int.reduceNe, g33, g37, g38, g34, g39, f1, f2, f3, f5, o1, o2, o3, o4, t1, t2, t3, t4, t5, lpX0, lpX1, lpX2, lpX3, lpX4, lpY0, lpY1, lpY2, lpY3, lpY4]
          exact ⟨by rfl, ⟨1, by omega⟩, ⟨⟨rfl, row_ext (n := 1) (c := ⟨1, 0⟩) rfl⟩, ⟨rfl, rfl⟩, rfl, rfl⟩, by simp only; omega⟩
        · simp (config := {maxSteps := 10000000}) only [x20L3, push_cast, Nat.reduceAdd, Nat.reduceSub, Nat.reduceLeDiff, Nat.reduceEqDiff, Nat.reduceBEq, Nat.reduceMul, Nat.reduceLT, ↓reduceIte, reduceCtorEq, Int.reduceLE, Int.reduceLT, Int.reduceEq, Int.reduceMul, Int.reduceAdd, Int.reduceSub, Int.reduceNeg, Int.reduceToNat, Int.reduceNe, g33, g37, g38, g34, g39, f1, f2, f3, f5, o1, o2, o3, o4, t1, t2, t3, t4, t5, lpX0, lpX1, lpX2, lpX3, lpX4, lpY0, lpY1, lpY2, lpY3, lpY4]
          exact fun _ => ⟨by rfl, ⟨2, by omega⟩, ⟨⟨rfl, row_ext (n := 2) (c := ⟨1, 1⟩) rfl⟩, ⟨rfl, rfl⟩, rfl, rfl⟩, by simp only; omega⟩
        · simp (config := {maxSteps := 10000000}) only [x20L3, push_cast, Nat.reduceAdd, Nat.reduceSub, Nat.reduceLeDiff, Nat.reduceEqDiff, Nat.reduceBEq, Nat.reduceMul, Nat.reduceLT, ↓reduceIte, reduceCtorEq, Int.reduceLE, Int.reduceLT, Int.reduceEq, Int.reduceMul, Int.reduceAdd, Int.reduceSub, Int.reduceNeg, Int.reduceToNat, Int.reduceNe, g33, g37, g38, g34, g39, f1, f2, f3, f5, o1, o2, o3, o4, t1, t2, t3, t4, t5, lpX0, lpX1, lpX2, lpX3, lpX4, lpY0, lpY1, lpY2, lpY3, lpY4]
          exact ⟨by rfl, ⟨3, by omega⟩, ⟨⟨rfl, row_ext (n := 3) (c := ⟨0, 1⟩) rfl⟩, ⟨rfl, rfl⟩, rfl, rfl⟩, by simp only; omega⟩
        · simp (config := {maxSteps := 10000000}) only [x20L3, push_cast, Nat.reduceAdd, Nat.reduceSub, Nat.reduceLeDiff, Nat.reduceEqDiff, Nat.reduceBEq, Nat.reduceMul, Nat.reduceLT, ↓reduceIte, reduceCtorEq, Int.reduceLE, Int.reduceLT, Int.reduceEq, Int.reduceMul, Int.reduceAdd, Int.reduceSub, Int.reduceNeg, Int.reduceToNat, Int.reduceNe, g33, g37, g38, g34, g39, f1, f2, f3, f5, o1, o2, o3, o4, t1, t2, t3, t4, t5, lpX0, lpX1, lpX2, lpX3, lpX4, lpY0, lpY1, lpY2, lpY3, lpY4]
          all_goals exact (rowEq_rowF _ _ _ _).2 trivial
    · cases hg_
  · cases hg_
end Go.Proofs.Ytnkkhmeojifckaa
namespace Go.Proofs.Ytnkkhmeojifckaa
open Go.Sx
def g11 : Con := fun args_ E_ nn_ => match args_ with
  | [] => some (.q (True) (.o (.c (.v (.bool (true))))))
  | _ => none
theorem c11 : COk Try.prog 11 g11 := by
  refine cok_q Try.func11 x11_ok (by kernel_rfl) (cok_tab (cok_cons c13 (cok_cons c20a (cok_cons c27 (cok_cons c29 cok_nil))))) ?_
  intro args_ E_ nn_ cr_ hg_
  unfold g11 at hg_
  split at hg_
  · skip
    cases hg_
    refine ⟨_, _, rfl, 0, [], [], [], .o (.c (.v (.bool (true)))), rfl, rfl, by simp only [push_cast, Nat.reduceLT, Nat.reduceAdd], by simp only [push_cast, Nat.reduceLT, Nat.reduceAdd], by simp only [push_cast, Nat.reduceLT, Nat.reduceAdd], rfl, trivial, rfl, ?_⟩
    intro hpre hlen
    refine ⟨trivial, ?_⟩
    have q1 : isRow eU8 4 1 (litF [SC.v (Value.int IntKind.u8 1), SC.v (Value.int IntKind.u8 1), SC.v (Value.int IntKind.u8 1), SC.v (Value.int IntKind.u8 1)] 1) ↔ True := iff_true_intro (lits_row eU8 [1, 1, 1, 1]).1
    have q2 : decL eU8 4 (litF [SC.v (Value.int IntKind.u8 1), SC.v (Value.int IntKind.u8 1), SC.v (Value.int IntKind.u8 1), SC.v (Value.int IntKind.u8 1)] 1) = [1, 1, 1, 1] := (lits_row eU8 [1, 1, 1, 1]).2
    have w1 : touL 2 2 [1, 1, 1, 1] 0 0 = touL 2 2 [1, 1, 1, 1] 0 0 := rfl
    simp (config := {maxSteps := 10000000}) only [x11, push_cast, Nat.reduceAdd, Nat.reduceSub, Nat.reduceLeDiff, Nat.reduceEqDiff, Nat.reduceBEq, Nat.reduceMul, Nat.reduceLT, reduceIte, reduceCtorEq, Int.reduceLE, Int.reduceLT, Int.reduceEq, Int.reduceMul, Int.reduceAdd, Int.reduceSub, Int.reduceNeg, Int.reduceToNat, Int.reduceNe, g13, g20a, g27, g29, q1, q2]
    exact ⟨⟨⟨⟨by decide +kernel, by decide +kernel⟩, by decide +kernel⟩, by decide +kernel⟩, by decide +kernel⟩
  · cases hg_
end Go.Proofs.Ytnkkhmeojifckaa
