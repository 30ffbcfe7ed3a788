/- A part of the proof of a statement about this seat: how a function is stepped through, and plain laws. No conditions. -/
import Derived.Test.YtiijdbpncpdmdaaGreatRows
import Derived.Test.YtiijdbpncpdmdaaGreatRASz4
import Derived.Test.YtiijdbpncpdmdaaGreatRAB2
import Derived.KernelRfl
set_option linter.unusedVariables false
set_option linter.unusedSimpArgs false
set_option maxRecDepth 20000
namespace Go.Proofs.YtiijdbpncpdmdaaGreat
open Go.Sx Go.Way
def x9 : XFn := ⟨47, (.seq (.reg false [O1 3 (.box 24) 0, O1 4 (.box 26) 1, O1 5 (.box 28) 2, ⟨(some 6), (.alloc 39 [(iV 0), (iV 0), (.slice none 0 0), (iV 0), (iV 0), (iV 0), (iV 0), (iV 0), (iV 0), (iV 0), (iV 0), (iV 0)]), [], none⟩, K1 7 .mv (iV 0)]) (.seq (.seq (.reg false [O1 10 (.loadN 3) 3, O1 11 (.call 29) 10, O1 8 .mv 11]) (.seq (.reg false [O1 12 .mv 8, K2 13 (.bin .neq) 12 (iV 0)]) (.cond (.t 13) (.seq (.reg false [⟨(some 14), (.build [(iV 0), (iV 0), (.slice none 0 0), (iV 0), (iV 0), (iV 0), (iV 0), (iV 0), (iV 0), (iV 0), (iV 0), (iV 0)] []), [], none⟩, O1 15 .mv 8, ⟨none, (.store 12), [(.t 6), (.t 14)], none⟩, O1 7 .mv 15]) .ret) .skip))) (.seq (.seq (.reg false [O1 16 (.loadN 4) 4, O1 17 (.call 30) 16, O1 18 (.un .not) 17, O1 19 .mv 18, G1 20 (.loadN 3) 5 19 false, G1 21 (.call 31) 20 19 false, G1 22 (.un .not) 21 19 false, ⟨(some 23), .pick, [(.t 19), (.k (.bool true)), (.t 22)], none⟩]) (.cond (.t 23) (.seq (.reg false [⟨(some 24), (.build [(iV 0), (iV 0), (.slice none 0 0), (iV 0), (iV 0), (iV 0), (iV 0), (iV 0), (iV 0), (iV 0), (iV 0), (iV 0)] []), [], none⟩, ⟨none, (.store 12), [(.t 6), (.t 24)], none⟩, K1 7 .mv (iV 1)]) .ret) .skip)) (.seq (.seq (.reg false [O1 25 (.loadN 3) 3, O1 26 (.fld 0) 5, O1 27 .load1 26, O1 28 (.fld 1) 5, O1 29 .load1 28, ⟨(some 30), (.build [(iV 0), (iV 0)] [(0, 1), (1, 1)]), [(.t 27), (.t 29)], none⟩, ⟨(some 31), (.call 32), [(.t 25), (.t 30), (.k (iV 20))], none⟩, O1 32 (.un .not) 31]) (.cond (.t 32) (.seq (.reg false [⟨(some 33), (.build [(iV 0), (iV 0), (.slice none 0 0), (iV 0), (iV 0), (iV 0), (iV 0), (iV 0), (iV 0), (iV 0), (iV 0), (iV 0)] []), [], none⟩, ⟨none, (.store 12), [(.t 6), (.t 33)], none⟩, K1 7 .mv (iV 9)]) .ret) .skip)) (.seq (.regD [O1 34 (.fld 0) 3, O1 35 .load1 34, O1 36 (.fld 1) 3, O1 37 .load1 36, ⟨(some 38), (.slit 5 0 1 [] []), [], none⟩, O1 39 (.fld 2) 3, O1 40 .load1 39, O2 41 (.app 5 1 1) 38 40, ⟨(some 42), (.build [(iV 0), (iV 0), (.slice none 0 0)] [(0, 1), (1, 1), (2, 1)]), [(.t 35), (.t 37), (.t 41)], none⟩, ⟨(some 9), (.alloc 24 [(iV 0), (iV 0), (.slice none 0 0)]), [], none⟩, ⟨none, (.store 3), [(.t 9), (.t 42)], none⟩] [[], [0], [], [2], [], [], [5], [4, 6, 5], [1, 0, 3, 2, 7, 4, 6, 5], [], [9, 8, 1, 0, 3, 2, 7, 4, 6, 5]]) (.seq (.reg false [O1 43 (.loadN 3) 9, O1 44 (.loadN 4) 4, O1 45 (.loadN 3) 5, ⟨(some 46), (.build [(iV 0), (iV 0), (.slice none 0 0), (iV 0), (iV 0), (iV 0), (iV 0), (iV 0), (iV 0), (iV 0), (iV 0), (iV 0)] [(0, 3), (3, 4), (7, 3)]), [(.t 43), (.t 44), (.t 45)], none⟩, ⟨none, (.store 12), [(.t 6), (.t 46)], none⟩, K1 7 .mv (iV 0)]) .ret)))))), [(.bn 6 12), (.s 7)]⟩
theorem x9_ok : xfn Tryz.prog Tryz.f9 = some x9.er := by kernel_rfl
def x15 : XFn := ⟨72, (.seq (.reg false [O1 2 (.box 39) 0, O1 3 (.box 57) 1, ⟨(some 4), (.alloc 39 [(iV 0), (iV 0), (.slice none 0 0), (iV 0), (iV 0), (iV 0), (iV 0), (iV 0), (iV 0), (iV 0), (iV 0), (iV 0)]), [], none⟩, ⟨(some 5), (.alloc 50 [(iV 0), (iV 0), (iV 0), (.bool false), (.slice none 0 0)]), [], none⟩, K1 6 .mv (iV 0)]) (.seq (.seq (.reg false [O1 14 (.loadN 8) 3, O1 15 (.call 33) 14, O1 16 (.un .not) 15]) (.cond (.t 16) (.seq (.reg false [O1 17 (.loadN 12) 2, ⟨(some 18), (.build [(iV 0), (iV 0), (iV 0), (.bool false), (.slice none 0 0)] []), [], none⟩, ⟨none, (.store 12), [(.t 4), (.t 17)], none⟩, ⟨none, (.store 5), [(.t 5), (.t 18)], none⟩, K1 6 .mv (iV 1)]) .ret) .skip)) (.seq (.reg false [O1 20 (.fld 3) 2, O1 21 (.loadN 4) 20, O1 22 (.fld 2) 3, O1 23 (.loadN 4) 22, O2 24 (.call 34) 21 23, O1 19 .mv 24, O1 25 (.ext 0) 19, O1 26 (.ext 1) 19, ⟨(some 7), (.alloc 54 [(iV 0), (iV 0), (iV 0), (iV 0)]), [], none⟩, ⟨none, (.store 4), [(.t 7), (.t 25)], none⟩, O1 8 .mv 26]) (.seq (.reg false [O1 28 (.fld 0) 2, O1 29 (.loadN 3) 28, O1 30 (.fld 7) 2, O1 31 (.loadN 3) 30, O1 32 (.fld 0) 3, O1 33 (.loadN 2) 32, O1 34 (.loadN 4) 7, ⟨(some 35), (.call 35), [(.t 29), (.t 31), (.t 33), (.t 34)], none⟩, O1 27 .mv 35, O1 36 (.ext 0) 27, O1 37 (.ext 1) 27, O1 38 (.ext 2) 27, ⟨(some 9), (.alloc 28 [(iV 0), (iV 0), (iV 0)]), [], none⟩, ⟨none, (.store 3), [(.t 9), (.t 36)], none⟩, O1 10 .mv 37, O1 11 .mv 38]) (.seq (.reg false [O1 39 (.loadN 3) 9, O1 40 (.fld 7) 2, ⟨none, (.store 3), [(.t 40), (.t 39)], none⟩]) (.seq (.reg false [O1 41 (.fld 10) 2, O1 42 .load1 41, K2 43 (.bin .add) 42 (iV 1), O1 44 (.fld 10) 2, ⟨none, (.store 1), [(.t 44), (.t 43)], none⟩]) (.seq (.seq (.reg false [O1 45 .mv 10]) (.cond (.t 45) (.reg false [O1 46 (.fld 11) 2, O1 47 .load1 46, K2 48 (.bin .add) 47 (iV 1), O1 49 (.fld 11) 2, ⟨none, (.store 1), [(.t 49), (.t 48)], none⟩]) .skip)) (.seq (.reg false [O1 51 (.fld 0) 2, O1 52 (.loadN 3) 51, O1 53 (.loadN 3) 9, O1 54 (.fld 6) 3, O1 55 .load1 54, O1 56 (.fld 3) 2, O1 57 (.fld 3) 56, O1 58 .load1 57, O1 59 (.fld 7) 3, O1 60 .load1 59, ⟨(some 61), (.call 36), [(.t 52), (.t 53), (.t 55), (.t 58), (.t 60)], none⟩, O1 50 .mv 61, O1 62 (.ext 0) 50, O1 63 (.ext 1) 50, O1 12 .mv 62, O1 13 .mv 63]) (.seq (.regD [O1 64 (.loadN 12) 2, O1 65 (.fld 10) 2, O1 66 .load1 65, O1 67 (.fld 0) 3, O1 68 (.loadN 2) 67, O1 69 .mv 10, O1 70 .mv 12, ⟨(some 71), (.build [(iV 0), (iV 0), (iV 0), (.bool false), (.slice none 0 0)] [(0, 1), (1, 2), (3, 1), (4, 1)]), [(.t 66), (.t 68), (.t 69), (.t 70)], none⟩, ⟨none, (.store 12), [(.t 4), (.t 64)], none⟩, ⟨none, (.store 5), [(.t 5), (.t 71)], none⟩, K1 6 .mv (iV 0)] [[], [], [1], [], [3], [], [], [2, 1, 4, 3, 5, 6], [0], [7, 2, 1, 4, 3, 5, 6, 8, 0], [9, 7, 2, 1, 4, 3, 5, 6, 8, 0]]) .ret))))))))), [(.bn 4 12), (.bn 5 5), (.s 6)]⟩
theorem x15_ok : xfn Tryz.prog Tryz.f15 = some x15.er := by kernel_rfl
def x17 : XFn := ⟨31, (.seq (.reg false [O1 2 (.box 50) 0, O1 3 (.box 50) 1, K1 4 .mv (.bool false)]) (.seq (.reg false [O1 5 (.fld 0) 2, O1 6 .load1 5, O1 7 (.fld 0) 3, O1 8 .load1 7, O2 9 (.bin .eql) 6 8, O1 10 .mv 9, G1 11 (.fld 1) 2 10 true, G1 12 (.loadN 2) 11 10 true, G1 13 (.fld 1) 3 10 true, G1 14 (.loadN 2) 13 10 true, ⟨(some 15), (.eqA false [(.i .i64), (.i .i64)]), [(.t 12), (.t 14)], (some (10, true))⟩, ⟨(some 16), .pick, [(.t 10), (.t 15), (.k (.bool false))], none⟩, O1 17 .mv 16, G1 18 (.fld 3) 2 17 true, G1 19 .load1 18 17 true, G1 20 (.fld 3) 3 17 true, G1 21 .load1 20 17 true, G2 22 (.binb .eql) 19 21 17 true, ⟨(some 23), .pick, [(.t 17), (.t 22), (.k (.bool false))], none⟩, O1 24 .mv 23, G1 25 (.fld 4) 2 24 true, G1 26 .load1 25 24 true, G1 27 (.fld 4) 3 24 true, G1 28 .load1 27 24 true, G2 29 (.call 43) 26 28 24 true, ⟨(some 30), .pick, [(.t 24), (.t 29), (.k (.bool false))], none⟩, O1 4 .mv 30]) .ret)), [(.s 4)]⟩
theorem x17_ok : xfn Tryz.prog Tryz.f17 = some x17.er := by kernel_rfl
def x20L0 : XC := (.seq (.seq (.reg false [O1 11 .mv 5, O1 12 .mv 0, O1 13 .lenS 12, O2 14 (.bin .lss) 11 13]) (.cond (.t 14) .skip (.exit 0))) (.seq (.opn 1 5 4 (.opn 0 5 4 (.block 1 (.seq (.reg true [O1 17 .mv 0, O1 18 .mv 5, O2 19 (.ixS 5) 17 18, O1 20 (.loadN 5) 19, O1 21 .mv 1, O1 22 .mv 5, O2 23 (.ixS 5) 21 22, O1 24 (.loadN 5) 23, O2 25 (.call 17) 20 24, O1 26 (.un .not) 25]) (.cond (.t 26) (.seq (.reg false [K1 4 .mv (.bool false)]) .ret) .skip))))) (.reg false [O1 15 .mv 5, K2 16 (.bin .add) 15 (iV 1), O1 5 .mv 16])))
def x20 : XFn := ⟨27, (.seq (.reg false [K1 4 .mv (.bool false)]) (.seq (.seq (.reg false [O1 6 .mv 0, O1 7 .lenS 6, O1 8 .mv 1, O1 9 .lenS 8, O2 10 (.bin .neq) 7 9]) (.cond (.t 10) (.seq (.reg false [K1 4 .mv (.bool false)]) .ret) .skip)) (.seq (.seq (.reg false [K1 5 .mv (iV 0)]) (.block 0 (.loop x20L0))) (.seq (.reg false [K1 4 .mv (.bool true)]) .ret)))), [(.s 4)]⟩
theorem x20_ok : xfn Tryz.prog Tryz.f20 = some x20.er := by kernel_rfl
noncomputable def g9a : Con := fun args_ E_ nn_ => match args_ with
  | [.a [.v (.int .i64 p_W), .v (.int .i64 p_H), .n p_Cells], .a [.v (.int .i64 b_Turn), .v (.int .i64 b_Length), .v (.int .i64 b_Slip), .v (.int .i64 b_Range)], .a [.v (.int .i64 at_X), .v (.int .i64 at_Y), .v (.int .i64 at_H)]] => (match rowOf E_ p_Cells with
    | some (p_Cells_n, p_Cells_s, p_Cells_f) => some (.e (isRow eU8 p_Cells_n p_Cells_s p_Cells_f ∧ rnewE p_W p_H (decL eU8 p_Cells_n p_Cells_f) b_Turn b_Length b_Slip b_Range at_X at_Y at_H = 0 ∧ u8s (decL eU8 p_Cells_n p_Cells_f)) (.t [.a [.v (.int .i64 (p_W)), .v (.int .i64 (p_H)), .n (nn_ + 0), .v (.int .i64 (b_Turn)), .v (.int .i64 (b_Length)), .v (.int .i64 (b_Slip)), .v (.int .i64 (b_Range)), .v (.int .i64 (at_X)), .v (.int .i64 (at_Y)), .v (.int .i64 (at_H)), .v (.int .i64 (0)), .v (.int .i64 (0))], .c (.v (.int .i64 (0)))]) [((nn_ + 0), .own ((decL eU8 p_Cells_n p_Cells_f)).length 1 (rowF eU8 ((decL eU8 p_Cells_n p_Cells_f))) 5)] (nn_ + 1))
    | none => none)
  | _ => none
theorem c9a : COk Tryz.prog 9 g9a := by
  refine cok_e Tryz.func9 x9_ok (by kernel_rfl) (cok_tab (cok_cons c29 (cok_cons c30 (cok_cons c31 (cok_cons c32 cok_nil))))) ?_
  intro args_ E_ nn_ cr_ hg_
  unfold g9a at hg_
  split at hg_
  · rename_i p_W p_H p_Cells b_Turn b_Length b_Slip b_Range at_X at_Y at_H
    split at hg_
    · rename_i p_Cells_n p_Cells_s p_Cells_f h_p_Cells
      cases hg_
      refine ⟨_, _, _, _, rfl, 1, [p_Cells], [.a [.v (.int .i64 p_W), .v (.int .i64 p_H), .n 0], .a [.v (.int .i64 b_Turn), .v (.int .i64 b_Length), .v (.int .i64 b_Slip), .v (.int .i64 b_Range)], .a [.v (.int .i64 at_X), .v (.int .i64 at_Y), .v (.int .i64 at_H)]], [(0, .ro (decL eU8 p_Cells_n p_Cells_f).length eU8.sz (rowF eU8 (decL eU8 p_Cells_n p_Cells_f)))], .t [.a [.v (.int .i64 (p_W)), .v (.int .i64 (p_H)), .n 1, .v (.int .i64 (b_Turn)), .v (.int .i64 (b_Length)), .v (.int .i64 (b_Slip)), .v (.int .i64 (b_Range)), .v (.int .i64 (at_X)), .v (.int .i64 (at_Y)), .v (.int .i64 (at_H)), .v (.int .i64 (0)), .v (.int .i64 (0))], .c (.v (.int .i64 (0)))], [(1, .own ((decL eU8 p_Cells_n p_Cells_f)).length 1 (rowF eU8 ((decL eU8 p_Cells_n p_Cells_f))) 5)], 2, rfl, rfl, by simp only [renE, Ent.ren, rowF_renf] <;> rfl, rfl, by decide, and4 (by simp only [push_cast, simprocAttr]) ⟨rfl, ⟨inE0_row h_p_Cells, trivial⟩, by simp only [keysNodup, outN, keys] <;> decide, rfl, rfl, ?_⟩⟩
      intro hpre hlen
      obtain ⟨i_p_Cells, hpre⟩ := hpre
      refine ⟨⟨inE_row h_p_Cells i_p_Cells, trivial⟩, by simp only [apartE] <;> (first | trivial | (simp [Ent.mut]; done)), ?_⟩
      have z_p_Cells := lens_row (E := eU8) hlen h_p_Cells
      clear i_p_Cells
      generalize decL eU8 p_Cells_n p_Cells_f = p_CellsL at *
      clear h_p_Cells
      simp (maxSteps := 9999999) only [x9, push_cast, simprocAttr, g29, g30, g31, g32]
      obtain ⟨q1, q2, q3⟩ := rnew_ok hpre.1
      have ql := ck_len q1
      refine ⟨fun h => absurd q1 h, fun _ => ⟨fun h => (by omega), ?_⟩⟩
      intros
      refine ⟨fun h => (by rw [q3] at h; cases h), fun _ => ⟨by omega, by rfl, ?_⟩⟩
      rw [cat0]
      exact fun e j he hj => (rowF_sub _ _ _ _).symm
    · cases hg_
  · cases hg_
noncomputable def g9b : Con := fun args_ E_ nn_ => match args_ with
  | [.a [.v (.int .i64 p_W), .v (.int .i64 p_H), .n p_Cells], .a [.v (.int .i64 b_Turn), .v (.int .i64 b_Length), .v (.int .i64 b_Slip), .v (.int .i64 b_Range)], .a [.v (.int .i64 at_X), .v (.int .i64 at_Y), .v (.int .i64 at_H)]] => (match rowOf E_ p_Cells with
    | some (p_Cells_n, p_Cells_s, p_Cells_f) => some (.q (isRow eU8 p_Cells_n p_Cells_s p_Cells_f ∧ rnewE p_W p_H (decL eU8 p_Cells_n p_Cells_f) b_Turn b_Length b_Slip b_Range at_X at_Y at_H ≠ 0 ∧ u8s (decL eU8 p_Cells_n p_Cells_f)) (.t [.a [.v (.int .i64 (0)), .v (.int .i64 (0)), .v (.slice none 0 0), .v (.int .i64 (0)), .v (.int .i64 (0)), .v (.int .i64 (0)), .v (.int .i64 (0)), .v (.int .i64 (0)), .v (.int .i64 (0)), .v (.int .i64 (0)), .v (.int .i64 (0)), .v (.int .i64 (0))], .c (.v (.int .i64 (rnewE p_W p_H (decL eU8 p_Cells_n p_Cells_f) b_Turn b_Length b_Slip b_Range at_X at_Y at_H)))]))
    | none => none)
  | _ => none
theorem c9b : COk Tryz.prog 9 g9b := by
  refine cok_q Tryz.func9 x9_ok (by kernel_rfl) (cok_tab (cok_cons c29 (cok_cons c30 (cok_cons c31 (cok_cons c32 cok_nil))))) ?_
  intro args_ E_ nn_ cr_ hg_
  unfold g9b at hg_
  split at hg_
  · rename_i p_W p_H p_Cells b_Turn b_Length b_Slip b_Range at_X at_Y at_H
    split at hg_
    · rename_i p_Cells_n p_Cells_s p_Cells_f h_p_Cells
      cases hg_
      refine ⟨_, _, rfl, 1, [p_Cells], [.a [.v (.int .i64 p_W), .v (.int .i64 p_H), .n 0], .a [.v (.int .i64 b_Turn), .v (.int .i64 b_Length), .v (.int .i64 b_Slip), .v (.int .i64 b_Range)], .a [.v (.int .i64 at_X), .v (.int .i64 at_Y), .v (.int .i64 at_H)]], [(0, .ro (decL eU8 p_Cells_n p_Cells_f).length eU8.sz (rowF eU8 (decL eU8 p_Cells_n p_Cells_f)))], .t [.a [.v (.int .i64 (0)), .v (.int .i64 (0)), .v (.slice none 0 0), .v (.int .i64 (0)), .v (.int .i64 (0)), .v (.int .i64 (0)), .v (.int .i64 (0)), .v (.int .i64 (0)), .v (.int .i64 (0)), .v (.int .i64 (0)), .v (.int .i64 (0)), .v (.int .i64 (0))], .c (.v (.int .i64 (rnewE p_W p_H (decL eU8 p_Cells_n p_Cells_f) b_Turn b_Length b_Slip b_Range at_X at_Y at_H)))], rfl, rfl, and3 (by simp only [push_cast, simprocAttr]) ⟨rfl, ⟨inE0_row h_p_Cells, trivial⟩, rfl, ?_⟩⟩
      intro hpre hlen
      obtain ⟨i_p_Cells, hpre⟩ := hpre
      refine ⟨⟨inE_row h_p_Cells i_p_Cells, trivial⟩, ?_⟩
      have z_p_Cells := lens_row (E := eU8) hlen h_p_Cells
      clear i_p_Cells
      generalize decL eU8 p_Cells_n p_Cells_f = p_CellsL at *
      clear h_p_Cells
      simp (maxSteps := 9999999) only [x9, push_cast, simprocAttr, g29, g30, g31, g32]
      refine ⟨fun h => (rnew_ck h).symm, fun h => ⟨fun h2 => ?_, ?_⟩⟩
      · rw [rnew_arg h (by omega)]
      intro a1 a2 a3 a4 a5 a6 a7 a8 a9 a10 a11 a12 a13 a14
      have e := rnew_fit (W := p_W) (H := p_H) (L := p_CellsL) (bT := b_Turn) (bL := b_Length) (bS := b_Slip) (bR := b_Range) (x := at_X) (y := at_Y) (h := at_H) h (by omega)
      refine ⟨fun hf => by rw [e, if_pos hf], fun hf => ?_⟩
      rw [if_neg (by rw [hf]; decide)] at e
      exact hpre.1 e
    · cases hg_
  · cases hg_
noncomputable def g9 : Con := fun args_ E_ nn_ => match args_ with
  | [.a [.v (.int .i64 p_W), .v (.int .i64 p_H), .n p_Cells], .a [.v (.int .i64 b_Turn), .v (.int .i64 b_Length), .v (.int .i64 b_Slip), .v (.int .i64 b_Range)], .a [.v (.int .i64 at_X), .v (.int .i64 at_Y), .v (.int .i64 at_H)]] =>
    (match rowOf E_ p_Cells with
    | some (p_Cells_n, p_Cells_s, p_Cells_f) => if rnewE p_W p_H (decL eU8 p_Cells_n p_Cells_f) b_Turn b_Length b_Slip b_Range at_X at_Y at_H = 0 then g9a args_ E_ nn_ else g9b args_ E_ nn_
    | none => none)
  | _ => none
theorem c9 : COk Tryz.prog 9 g9 := by
  intro args E n h1 h2
  unfold g9
  split
  · split
    · split
      · exact c9a _ _ _ h1 h2
      · exact c9b _ _ _ h1 h2
    · trivial
  · trivial
noncomputable def g15 : Con := fun args_ E_ nn_ => match args_ with
  | [.a [.v (.int .i64 r_Plan_W), .v (.int .i64 r_Plan_H), .n r_Plan_Cells, .v (.int .i64 r_Bounds_Turn), .v (.int .i64 r_Bounds_Length), .v (.int .i64 r_Bounds_Slip), .v (.int .i64 r_Bounds_Range), .v (.int .i64 r_At_X), .v (.int .i64 r_At_Y), .v (.int .i64 r_At_H), .v (.int .i64 r_Ticks), .v (.int .i64 r_Bumps)], .a [.v (.int .i64 a_Command_Turn), .v (.int .i64 a_Command_Forward), .v (.int .i64 a_Slip_Turn), .v (.int .i64 a_Slip_Length), .v (.int .i64 a_Slip_X), .v (.int .i64 a_Slip_Y), .n a_Marks, .n a_Errs]] => (match rowOf E_ r_Plan_Cells with
    | some (r_Plan_Cells_n, r_Plan_Cells_s, r_Plan_Cells_f) => (match rowOf E_ a_Marks with
    | some (a_Marks_n, a_Marks_s, a_Marks_f) => (match rowOf E_ a_Errs with
    | some (a_Errs_n, a_Errs_s, a_Errs_f) => some (.e (isRow eU8 r_Plan_Cells_n r_Plan_Cells_s r_Plan_Cells_f ∧ isRow eI a_Marks_n a_Marks_s a_Marks_f ∧ isRow eI a_Errs_n a_Errs_s a_Errs_f ∧ u8s (decL eU8 r_Plan_Cells_n r_Plan_Cells_f) ∧ (0 ≤ r_Ticks ∧ r_Ticks ≤ 1000) ∧ 0 ≤ r_Bumps ∧ r_Bumps ≤ 1000) (.t [.a [.v (.int .i64 ((doR (⟨r_Plan_W, r_Plan_H, (decL eU8 r_Plan_Cells_n r_Plan_Cells_f), r_Bounds_Turn, r_Bounds_Length, r_Bounds_Slip, r_Bounds_Range, r_At_X, r_At_Y, r_At_H, r_Ticks, r_Bumps⟩ : RobS) (⟨a_Command_Turn, a_Command_Forward, a_Slip_Turn, a_Slip_Length, a_Slip_X, a_Slip_Y, (decL eI a_Marks_n a_Marks_f), (decL eI a_Errs_n a_Errs_f)⟩ : ActL)).W)), .v (.int .i64 ((doR (⟨r_Plan_W, r_Plan_H, (decL eU8 r_Plan_Cells_n r_Plan_Cells_f), r_Bounds_Turn, r_Bounds_Length, r_Bounds_Slip, r_Bounds_Range, r_At_X, r_At_Y, r_At_H, r_Ticks, r_Bumps⟩ : RobS) (⟨a_Command_Turn, a_Command_Forward, a_Slip_Turn, a_Slip_Length, a_Slip_X, a_Slip_Y, (decL eI a_Marks_n a_Marks_f), (decL eI a_Errs_n a_Errs_f)⟩ : ActL)).H)), .n r_Plan_Cells, .v (.int .i64 ((doR (⟨r_Plan_W, r_Plan_H, (decL eU8 r_Plan_Cells_n r_Plan_Cells_f), r_Bounds_Turn, r_Bounds_Length, r_Bounds_Slip, r_Bounds_Range, r_At_X, r_At_Y, r_At_H, r_Ticks, r_Bumps⟩ : RobS) (⟨a_Command_Turn, a_Command_Forward, a_Slip_Turn, a_Slip_Length, a_Slip_X, a_Slip_Y, (decL eI a_Marks_n a_Marks_f), (decL eI a_Errs_n a_Errs_f)⟩ : ActL)).bT)), .v (.int .i64 ((doR (⟨r_Plan_W, r_Plan_H, (decL eU8 r_Plan_Cells_n r_Plan_Cells_f), r_Bounds_Turn, r_Bounds_Length, r_Bounds_Slip, r_Bounds_Range, r_At_X, r_At_Y, r_At_H, r_Ticks, r_Bumps⟩ : RobS) (⟨a_Command_Turn, a_Command_Forward, a_Slip_Turn, a_Slip_Length, a_Slip_X, a_Slip_Y, (decL eI a_Marks_n a_Marks_f), (decL eI a_Errs_n a_Errs_f)⟩ : ActL)).bL)), .v (.int .i64 ((doR (⟨r_Plan_W, r_Plan_H, (decL eU8 r_Plan_Cells_n r_Plan_Cells_f), r_Bounds_Turn, r_Bounds_Length, r_Bounds_Slip, r_Bounds_Range, r_At_X, r_At_Y, r_At_H, r_Ticks, r_Bumps⟩ : RobS) (⟨a_Command_Turn, a_Command_Forward, a_Slip_Turn, a_Slip_Length, a_Slip_X, a_Slip_Y, (decL eI a_Marks_n a_Marks_f), (decL eI a_Errs_n a_Errs_f)⟩ : ActL)).bS)), .v (.int .i64 ((doR (⟨r_Plan_W, r_Plan_H, (decL eU8 r_Plan_Cells_n r_Plan_Cells_f), r_Bounds_Turn, r_Bounds_Length, r_Bounds_Slip, r_Bounds_Range, r_At_X, r_At_Y, r_At_H, r_Ticks, r_Bumps⟩ : RobS) (⟨a_Command_Turn, a_Command_Forward, a_Slip_Turn, a_Slip_Length, a_Slip_X, a_Slip_Y, (decL eI a_Marks_n a_Marks_f), (decL eI a_Errs_n a_Errs_f)⟩ : ActL)).bR)), .v (.int .i64 ((doR (⟨r_Plan_W, r_Plan_H, (decL eU8 r_Plan_Cells_n r_Plan_Cells_f), r_Bounds_Turn, r_Bounds_Length, r_Bounds_Slip, r_Bounds_Range, r_At_X, r_At_Y, r_At_H, r_Ticks, r_Bumps⟩ : RobS) (⟨a_Command_Turn, a_Command_Forward, a_Slip_Turn, a_Slip_Length, a_Slip_X, a_Slip_Y, (decL eI a_Marks_n a_Marks_f), (decL eI a_Errs_n a_Errs_f)⟩ : ActL)).x)), .v (.int .i64 ((doR (⟨r_Plan_W, r_Plan_H, (decL eU8 r_Plan_Cells_n r_Plan_Cells_f), r_Bounds_Turn, r_Bounds_Length, r_Bounds_Slip, r_Bounds_Range, r_At_X, r_At_Y, r_At_H, r_Ticks, r_Bumps⟩ : RobS) (⟨a_Command_Turn, a_Command_Forward, a_Slip_Turn, a_Slip_Length, a_Slip_X, a_Slip_Y, (decL eI a_Marks_n a_Marks_f), (decL eI a_Errs_n a_Errs_f)⟩ : ActL)).y)), .v (.int .i64 ((doR (⟨r_Plan_W, r_Plan_H, (decL eU8 r_Plan_Cells_n r_Plan_Cells_f), r_Bounds_Turn, r_Bounds_Length, r_Bounds_Slip, r_Bounds_Range, r_At_X, r_At_Y, r_At_H, r_Ticks, r_Bumps⟩ : RobS) (⟨a_Command_Turn, a_Command_Forward, a_Slip_Turn, a_Slip_Length, a_Slip_X, a_Slip_Y, (decL eI a_Marks_n a_Marks_f), (decL eI a_Errs_n a_Errs_f)⟩ : ActL)).h)), .v (.int .i64 ((doR (⟨r_Plan_W, r_Plan_H, (decL eU8 r_Plan_Cells_n r_Plan_Cells_f), r_Bounds_Turn, r_Bounds_Length, r_Bounds_Slip, r_Bounds_Range, r_At_X, r_At_Y, r_At_H, r_Ticks, r_Bumps⟩ : RobS) (⟨a_Command_Turn, a_Command_Forward, a_Slip_Turn, a_Slip_Length, a_Slip_X, a_Slip_Y, (decL eI a_Marks_n a_Marks_f), (decL eI a_Errs_n a_Errs_f)⟩ : ActL)).ticks)), .v (.int .i64 ((doR (⟨r_Plan_W, r_Plan_H, (decL eU8 r_Plan_Cells_n r_Plan_Cells_f), r_Bounds_Turn, r_Bounds_Length, r_Bounds_Slip, r_Bounds_Range, r_At_X, r_At_Y, r_At_H, r_Ticks, r_Bumps⟩ : RobS) (⟨a_Command_Turn, a_Command_Forward, a_Slip_Turn, a_Slip_Length, a_Slip_X, a_Slip_Y, (decL eI a_Marks_n a_Marks_f), (decL eI a_Errs_n a_Errs_f)⟩ : ActL)).bumps))], .a [.v (.int .i64 ((doV (⟨r_Plan_W, r_Plan_H, (decL eU8 r_Plan_Cells_n r_Plan_Cells_f), r_Bounds_Turn, r_Bounds_Length, r_Bounds_Slip, r_Bounds_Range, r_At_X, r_At_Y, r_At_H, r_Ticks, r_Bumps⟩ : RobS) (⟨a_Command_Turn, a_Command_Forward, a_Slip_Turn, a_Slip_Length, a_Slip_X, a_Slip_Y, (decL eI a_Marks_n a_Marks_f), (decL eI a_Errs_n a_Errs_f)⟩ : ActL)).tick)), .v (.int .i64 ((doV (⟨r_Plan_W, r_Plan_H, (decL eU8 r_Plan_Cells_n r_Plan_Cells_f), r_Bounds_Turn, r_Bounds_Length, r_Bounds_Slip, r_Bounds_Range, r_At_X, r_At_Y, r_At_H, r_Ticks, r_Bumps⟩ : RobS) (⟨a_Command_Turn, a_Command_Forward, a_Slip_Turn, a_Slip_Length, a_Slip_X, a_Slip_Y, (decL eI a_Marks_n a_Marks_f), (decL eI a_Errs_n a_Errs_f)⟩ : ActL)).turn)), .v (.int .i64 ((doV (⟨r_Plan_W, r_Plan_H, (decL eU8 r_Plan_Cells_n r_Plan_Cells_f), r_Bounds_Turn, r_Bounds_Length, r_Bounds_Slip, r_Bounds_Range, r_At_X, r_At_Y, r_At_H, r_Ticks, r_Bumps⟩ : RobS) (⟨a_Command_Turn, a_Command_Forward, a_Slip_Turn, a_Slip_Length, a_Slip_X, a_Slip_Y, (decL eI a_Marks_n a_Marks_f), (decL eI a_Errs_n a_Errs_f)⟩ : ActL)).fwd)), .v (.bool (doV (⟨r_Plan_W, r_Plan_H, (decL eU8 r_Plan_Cells_n r_Plan_Cells_f), r_Bounds_Turn, r_Bounds_Length, r_Bounds_Slip, r_Bounds_Range, r_At_X, r_At_Y, r_At_H, r_Ticks, r_Bumps⟩ : RobS) (⟨a_Command_Turn, a_Command_Forward, a_Slip_Turn, a_Slip_Length, a_Slip_X, a_Slip_Y, (decL eI a_Marks_n a_Marks_f), (decL eI a_Errs_n a_Errs_f)⟩ : ActL)).bump), .n (nn_ + 0)], .c (.v (.int .i64 (doE (⟨a_Command_Turn, a_Command_Forward, a_Slip_Turn, a_Slip_Length, a_Slip_X, a_Slip_Y, (decL eI a_Marks_n a_Marks_f), (decL eI a_Errs_n a_Errs_f)⟩ : ActL))))]) [((nn_ + 0), .ro ((doV (⟨r_Plan_W, r_Plan_H, (decL eU8 r_Plan_Cells_n r_Plan_Cells_f), r_Bounds_Turn, r_Bounds_Length, r_Bounds_Slip, r_Bounds_Range, r_At_X, r_At_Y, r_At_H, r_Ticks, r_Bumps⟩ : RobS) (⟨a_Command_Turn, a_Command_Forward, a_Slip_Turn, a_Slip_Length, a_Slip_X, a_Slip_Y, (decL eI a_Marks_n a_Marks_f), (decL eI a_Errs_n a_Errs_f)⟩ : ActL)).scan).length 2 (rowF eC ((doV (⟨r_Plan_W, r_Plan_H, (decL eU8 r_Plan_Cells_n r_Plan_Cells_f), r_Bounds_Turn, r_Bounds_Length, r_Bounds_Slip, r_Bounds_Range, r_At_X, r_At_Y, r_At_H, r_Ticks, r_Bumps⟩ : RobS) (⟨a_Command_Turn, a_Command_Forward, a_Slip_Turn, a_Slip_Length, a_Slip_X, a_Slip_Y, (decL eI a_Marks_n a_Marks_f), (decL eI a_Errs_n a_Errs_f)⟩ : ActL)).scan))), (r_Plan_Cells, .ro ((decL eU8 r_Plan_Cells_n r_Plan_Cells_f)).length 1 (rowF eU8 ((decL eU8 r_Plan_Cells_n r_Plan_Cells_f)))), (a_Marks, .ro ((decL eI a_Marks_n a_Marks_f)).length 1 (rowF eI ((decL eI a_Marks_n a_Marks_f)))), (a_Errs, .ro ((decL eI a_Errs_n a_Errs_f)).length 1 (rowF eI ((decL eI a_Errs_n a_Errs_f))))] (nn_ + 1))
    | none => none)
    | none => none)
    | none => none)
  | _ => none
theorem c15 : COk Tryz.prog 15 g15 := by
  refine cok_d Tryz.func15 x15_ok (by kernel_rfl) (cok_tab (cok_cons c33 (cok_cons c34 (cok_cons c35 (cok_cons c36 cok_nil))))) ?_
  intro args_ E_ nn_ cr_ hg_
  unfold g15 at hg_
  split at hg_
  · rename_i r_Plan_W r_Plan_H r_Plan_Cells r_Bounds_Turn r_Bounds_Length r_Bounds_Slip r_Bounds_Range r_At_X r_At_Y r_At_H r_Ticks r_Bumps a_Command_Turn a_Command_Forward a_Slip_Turn a_Slip_Length a_Slip_X a_Slip_Y a_Marks a_Errs
    split at hg_
    · rename_i r_Plan_Cells_n r_Plan_Cells_s r_Plan_Cells_f h_r_Plan_Cells
      split at hg_
      · rename_i a_Marks_n a_Marks_s a_Marks_f h_a_Marks
        split at hg_
        · rename_i a_Errs_n a_Errs_s a_Errs_f h_a_Errs
          cases hg_
          refine ⟨_, _, _, _, rfl, 3, [r_Plan_Cells, a_Marks, a_Errs], [.a [.v (.int .i64 r_Plan_W), .v (.int .i64 r_Plan_H), .n 0, .v (.int .i64 r_Bounds_Turn), .v (.int .i64 r_Bounds_Length), .v (.int .i64 r_Bounds_Slip), .v (.int .i64 r_Bounds_Range), .v (.int .i64 r_At_X), .v (.int .i64 r_At_Y), .v (.int .i64 r_At_H), .v (.int .i64 r_Ticks), .v (.int .i64 r_Bumps)], .a [.v (.int .i64 a_Command_Turn), .v (.int .i64 a_Command_Forward), .v (.int .i64 a_Slip_Turn), .v (.int .i64 a_Slip_Length), .v (.int .i64 a_Slip_X), .v (.int .i64 a_Slip_Y), .n 1, .n 2]], [(0, .ro (decL eU8 r_Plan_Cells_n r_Plan_Cells_f).length eU8.sz (rowF eU8 (decL eU8 r_Plan_Cells_n r_Plan_Cells_f))), (1, .ro (decL eI a_Marks_n a_Marks_f).length eI.sz (rowF eI (decL eI a_Marks_n a_Marks_f))), (2, .ro (decL eI a_Errs_n a_Errs_f).length eI.sz (rowF eI (decL eI a_Errs_n a_Errs_f)))], .t [.a [.v (.int .i64 ((doR (⟨r_Plan_W, r_Plan_H, (decL eU8 r_Plan_Cells_n r_Plan_Cells_f), r_Bounds_Turn, r_Bounds_Length, r_Bounds_Slip, r_Bounds_Range, r_At_X, r_At_Y, r_At_H, r_Ticks, r_Bumps⟩ : RobS) (⟨a_Command_Turn, a_Command_Forward, a_Slip_Turn, a_Slip_Length, a_Slip_X, a_Slip_Y, (decL eI a_Marks_n a_Marks_f), (decL eI a_Errs_n a_Errs_f)⟩ : ActL)).W)), .v (.int .i64 ((doR (⟨r_Plan_W, r_Plan_H, (decL eU8 r_Plan_Cells_n r_Plan_Cells_f), r_Bounds_Turn, r_Bounds_Length, r_Bounds_Slip, r_Bounds_Range, r_At_X, r_At_Y, r_At_H, r_Ticks, r_Bumps⟩ : RobS) (⟨a_Command_Turn, a_Command_Forward, a_Slip_Turn, a_Slip_Length, a_Slip_X, a_Slip_Y, (decL eI a_Marks_n a_Marks_f), (decL eI a_Errs_n a_Errs_f)⟩ : ActL)).H)), .n 0, .v (.int .i64 ((doR (⟨r_Plan_W, r_Plan_H, (decL eU8 r_Plan_Cells_n r_Plan_Cells_f), r_Bounds_Turn, r_Bounds_Length, r_Bounds_Slip, r_Bounds_Range, r_At_X, r_At_Y, r_At_H, r_Ticks, r_Bumps⟩ : RobS) (⟨a_Command_Turn, a_Command_Forward, a_Slip_Turn, a_Slip_Length, a_Slip_X, a_Slip_Y, (decL eI a_Marks_n a_Marks_f), (decL eI a_Errs_n a_Errs_f)⟩ : ActL)).bT)), .v (.int .i64 ((doR (⟨r_Plan_W, r_Plan_H, (decL eU8 r_Plan_Cells_n r_Plan_Cells_f), r_Bounds_Turn, r_Bounds_Length, r_Bounds_Slip, r_Bounds_Range, r_At_X, r_At_Y, r_At_H, r_Ticks, r_Bumps⟩ : RobS) (⟨a_Command_Turn, a_Command_Forward, a_Slip_Turn, a_Slip_Length, a_Slip_X, a_Slip_Y, (decL eI a_Marks_n a_Marks_f), (decL eI a_Errs_n a_Errs_f)⟩ : ActL)).bL)), .v (.int .i64 ((doR (⟨r_Plan_W, r_Plan_H, (decL eU8 r_Plan_Cells_n r_Plan_Cells_f), r_Bounds_Turn, r_Bounds_Length, r_Bounds_Slip, r_Bounds_Range, r_At_X, r_At_Y, r_At_H, r_Ticks, r_Bumps⟩ : RobS) (⟨a_Command_Turn, a_Command_Forward, a_Slip_Turn, a_Slip_Length, a_Slip_X, a_Slip_Y, (decL eI a_Marks_n a_Marks_f), (decL eI a_Errs_n a_Errs_f)⟩ : ActL)).bS)), .v (.int .i64 ((doR (⟨r_Plan_W, r_Plan_H, (decL eU8 r_Plan_Cells_n r_Plan_Cells_f), r_Bounds_Turn, r_Bounds_Length, r_Bounds_Slip, r_Bounds_Range, r_At_X, r_At_Y, r_At_H, r_Ticks, r_Bumps⟩ : RobS) (⟨a_Command_Turn, a_Command_Forward, a_Slip_Turn, a_Slip_Length, a_Slip_X, a_Slip_Y, (decL eI a_Marks_n a_Marks_f), (decL eI a_Errs_n a_Errs_f)⟩ : ActL)).bR)), .v (.int .i64 ((doR (⟨r_Plan_W, r_Plan_H, (decL eU8 r_Plan_Cells_n r_Plan_Cells_f), r_Bounds_Turn, r_Bounds_Length, r_Bounds_Slip, r_Bounds_Range, r_At_X, r_At_Y, r_At_H, r_Ticks, r_Bumps⟩ : RobS) (⟨a_Command_Turn, a_Command_Forward, a_Slip_Turn, a_Slip_Length, a_Slip_X, a_Slip_Y, (decL eI a_Marks_n a_Marks_f), (decL eI a_Errs_n a_Errs_f)⟩ : ActL)).x)), .v (.int .i64 ((doR (⟨r_Plan_W, r_Plan_H, (decL eU8 r_Plan_Cells_n r_Plan_Cells_f), r_Bounds_Turn, r_Bounds_Length, r_Bounds_Slip, r_Bounds_Range, r_At_X, r_At_Y, r_At_H, r_Ticks, r_Bumps⟩ : RobS) (⟨a_Command_Turn, a_Command_Forward, a_Slip_Turn, a_Slip_Length, a_Slip_X, a_Slip_Y, (decL eI a_Marks_n a_Marks_f), (decL eI a_Errs_n a_Errs_f)⟩ : ActL)).y)), .v (.int .i64 ((doR (⟨r_Plan_W, r_Plan_H, (decL eU8 r_Plan_Cells_n r_Plan_Cells_f), r_Bounds_Turn, r_Bounds_Length, r_Bounds_Slip, r_Bounds_Range, r_At_X, r_At_Y, r_At_H, r_Ticks, r_Bumps⟩ : RobS) (⟨a_Command_Turn, a_Command_Forward, a_Slip_Turn, a_Slip_Length, a_Slip_X, a_Slip_Y, (decL eI a_Marks_n a_Marks_f), (decL eI a_Errs_n a_Errs_f)⟩ : ActL)).h)), .v (.int .i64 ((doR (⟨r_Plan_W, r_Plan_H, (decL eU8 r_Plan_Cells_n r_Plan_Cells_f), r_Bounds_Turn, r_Bounds_Length, r_Bounds_Slip, r_Bounds_Range, r_At_X, r_At_Y, r_At_H, r_Ticks, r_Bumps⟩ : RobS) (⟨a_Command_Turn, a_Command_Forward, a_Slip_Turn, a_Slip_Length, a_Slip_X, a_Slip_Y, (decL eI a_Marks_n a_Marks_f), (decL eI a_Errs_n a_Errs_f)⟩ : ActL)).ticks)), .v (.int .i64 ((doR (⟨r_Plan_W, r_Plan_H, (decL eU8 r_Plan_Cells_n r_Plan_Cells_f), r_Bounds_Turn, r_Bounds_Length, r_Bounds_Slip, r_Bounds_Range, r_At_X, r_At_Y, r_At_H, r_Ticks, r_Bumps⟩ : RobS) (⟨a_Command_Turn, a_Command_Forward, a_Slip_Turn, a_Slip_Length, a_Slip_X, a_Slip_Y, (decL eI a_Marks_n a_Marks_f), (decL eI a_Errs_n a_Errs_f)⟩ : ActL)).bumps))], .a [.v (.int .i64 ((doV (⟨r_Plan_W, r_Plan_H, (decL eU8 r_Plan_Cells_n r_Plan_Cells_f), r_Bounds_Turn, r_Bounds_Length, r_Bounds_Slip, r_Bounds_Range, r_At_X, r_At_Y, r_At_H, r_Ticks, r_Bumps⟩ : RobS) (⟨a_Command_Turn, a_Command_Forward, a_Slip_Turn, a_Slip_Length, a_Slip_X, a_Slip_Y, (decL eI a_Marks_n a_Marks_f), (decL eI a_Errs_n a_Errs_f)⟩ : ActL)).tick)), .v (.int .i64 ((doV (⟨r_Plan_W, r_Plan_H, (decL eU8 r_Plan_Cells_n r_Plan_Cells_f), r_Bounds_Turn, r_Bounds_Length, r_Bounds_Slip, r_Bounds_Range, r_At_X, r_At_Y, r_At_H, r_Ticks, r_Bumps⟩ : RobS) (⟨a_Command_Turn, a_Command_Forward, a_Slip_Turn, a_Slip_Length, a_Slip_X, a_Slip_Y, (decL eI a_Marks_n a_Marks_f), (decL eI a_Errs_n a_Errs_f)⟩ : ActL)).turn)), .v (.int .i64 ((doV (⟨r_Plan_W, r_Plan_H, (decL eU8 r_Plan_Cells_n r_Plan_Cells_f), r_Bounds_Turn, r_Bounds_Length, r_Bounds_Slip, r_Bounds_Range, r_At_X, r_At_Y, r_At_H, r_Ticks, r_Bumps⟩ : RobS) (⟨a_Command_Turn, a_Command_Forward, a_Slip_Turn, a_Slip_Length, a_Slip_X, a_Slip_Y, (decL eI a_Marks_n a_Marks_f), (decL eI a_Errs_n a_Errs_f)⟩ : ActL)).fwd)), .v (.bool (doV (⟨r_Plan_W, r_Plan_H, (decL eU8 r_Plan_Cells_n r_Plan_Cells_f), r_Bounds_Turn, r_Bounds_Length, r_Bounds_Slip, r_Bounds_Range, r_At_X, r_At_Y, r_At_H, r_Ticks, r_Bumps⟩ : RobS) (⟨a_Command_Turn, a_Command_Forward, a_Slip_Turn, a_Slip_Length, a_Slip_X, a_Slip_Y, (decL eI a_Marks_n a_Marks_f), (decL eI a_Errs_n a_Errs_f)⟩ : ActL)).bump), .n 3], .c (.v (.int .i64 (doE (⟨a_Command_Turn, a_Command_Forward, a_Slip_Turn, a_Slip_Length, a_Slip_X, a_Slip_Y, (decL eI a_Marks_n a_Marks_f), (decL eI a_Errs_n a_Errs_f)⟩ : ActL))))], [(3, .ro ((doV (⟨r_Plan_W, r_Plan_H, (decL eU8 r_Plan_Cells_n r_Plan_Cells_f), r_Bounds_Turn, r_Bounds_Length, r_Bounds_Slip, r_Bounds_Range, r_At_X, r_At_Y, r_At_H, r_Ticks, r_Bumps⟩ : RobS) (⟨a_Command_Turn, a_Command_Forward, a_Slip_Turn, a_Slip_Length, a_Slip_X, a_Slip_Y, (decL eI a_Marks_n a_Marks_f), (decL eI a_Errs_n a_Errs_f)⟩ : ActL)).scan).length 2 (rowF eC ((doV (⟨r_Plan_W, r_Plan_H, (decL eU8 r_Plan_Cells_n r_Plan_Cells_f), r_Bounds_Turn, r_Bounds_Length, r_Bounds_Slip, r_Bounds_Range, r_At_X, r_At_Y, r_At_H, r_Ticks, r_Bumps⟩ : RobS) (⟨a_Command_Turn, a_Command_Forward, a_Slip_Turn, a_Slip_Length, a_Slip_X, a_Slip_Y, (decL eI a_Marks_n a_Marks_f), (decL eI a_Errs_n a_Errs_f)⟩ : ActL)).scan))), (0, .ro ((decL eU8 r_Plan_Cells_n r_Plan_Cells_f)).length 1 (rowF eU8 ((decL eU8 r_Plan_Cells_n r_Plan_Cells_f)))), (1, .ro ((decL eI a_Marks_n a_Marks_f)).length 1 (rowF eI ((decL eI a_Marks_n a_Marks_f)))), (2, .ro ((decL eI a_Errs_n a_Errs_f)).length 1 (rowF eI ((decL eI a_Errs_n a_Errs_f))))], 4, rfl, rfl, by simp only [renE, Ent.ren, rowF_renf] <;> rfl, rfl, by decide, and4 (by simp only [push_cast, simprocAttr]) ⟨rfl, ⟨inE0_row h_r_Plan_Cells, inE0_row h_a_Marks, inE0_row h_a_Errs, trivial⟩, by simp only [keysNodup, outN, keys] <;> decide, rfl, .inr ⟨.inl rfl, .inl rfl, .inl rfl, trivial⟩, ?_⟩⟩
          intro hpre hlen
          obtain ⟨i_r_Plan_Cells, hpre⟩ := hpre
          obtain ⟨i_a_Marks, hpre⟩ := hpre
          obtain ⟨i_a_Errs, hpre⟩ := hpre
          refine ⟨⟨inE_row h_r_Plan_Cells i_r_Plan_Cells, inE_row h_a_Marks i_a_Marks, inE_row h_a_Errs i_a_Errs, trivial⟩, by simp only [apartE] <;> (first | trivial | (simp [Ent.mut]; done)), ?_⟩
          have z_r_Plan_Cells := lens_row (E := eU8) hlen h_r_Plan_Cells
          have z_a_Marks := lens_row (E := eI) hlen h_a_Marks
          have z_a_Errs := lens_row (E := eI) hlen h_a_Errs
          clear i_r_Plan_Cells
          generalize decL eU8 r_Plan_Cells_n r_Plan_Cells_f = r_Plan_CellsL at *
          clear i_a_Marks
          generalize decL eI a_Marks_n a_Marks_f = a_MarksL at *
          clear i_a_Errs
          generalize decL eI a_Errs_n a_Errs_f = a_ErrsL at *
          clear h_r_Plan_Cells
          clear h_a_Marks
          clear h_a_Errs
          simp (maxSteps := 9999999) only [x15, push_cast, simprocAttr, g33, g34, g35, g36]
          refine ⟨fun e => ?_, fun e => ?_⟩
          · simp only [doV_f e, doR_f e, doE, e]
            simp
          simp only [doV_t e, doR_t e, doE, e]
          refine ⟨hpre.1, fun hB => ?_, fun hB => ?_⟩
          · simp only [stX, stY, stH, stB] at hB
            refine ⟨by rfl, ?_⟩
            simp only [stX, stY, stH, stB, stO, slipO, hB, push_cast, simprocAttr, g33, g34, g35, g36]
            rw [wrapI (n := r_Ticks + 1) (by omega) (by omega), wrapI (n := r_Bumps + 1) (by omega) (by omega)]
            exact ⟨⟨rfl, rfl⟩, rfl⟩
          simp only [stX, stY, stH, stB] at hB
          refine ⟨by rfl, ?_⟩
          simp only [stX, stY, stH, stB, stO, slipO, hB, push_cast, simprocAttr, g33, g34, g35, g36]
          rw [wrapI (n := r_Ticks + 1) (by omega) (by omega)]
          exact ⟨⟨rfl, by omega⟩, rfl⟩
        · cases hg_
      · cases hg_
    · cases hg_
  · cases hg_
def g43 : Con := fun args_ E_ nn_ => match args_ with
  | [.c (.n a), .c (.n b)] => (match rowOf E_ a with
    | some (a_n, a_s, a_f) => (match rowOf E_ b with
    | some (b_n, b_s, b_f) => some (.q (isRow eC a_n a_s a_f ∧ isRow eC b_n b_s b_f ∧ True) (.o (.c (.v (.bool (decide ((decL eC a_n a_f) = (decL eC b_n b_f))))))))
    | none => none)
    | none => none)
  | _ => none
theorem c43 : COk Tryz.prog 43 g43 := by
  refine cok_q Tryz.func43 x43_ok (by kernel_rfl) (cok_tab cok_nil) ?_
  intro args_ E_ nn_ cr_ hg_
  unfold g43 at hg_
  split at hg_
  · rename_i a b
    split at hg_
    · rename_i a_n a_s a_f h_a
      split at hg_
      · rename_i b_n b_s b_f h_b
        cases hg_
        refine ⟨_, _, rfl, 2, [a, b], [.c (.n 0), .c (.n 1)], [(0, .ro (decL eC a_n a_f).length eC.sz (rowF eC (decL eC a_n a_f))), (1, .ro (decL eC b_n b_f).length eC.sz (rowF eC (decL eC b_n b_f)))], .o (.c (.v (.bool (decide ((decL eC a_n a_f) = (decL eC b_n b_f)))))), rfl, rfl, and3 (by simp only [push_cast, simprocAttr]) ⟨rfl, ⟨inE0_row h_a, inE0_row h_b, trivial⟩, rfl, ?_⟩⟩
        intro hpre hlen
        obtain ⟨i_a, hpre⟩ := hpre
        obtain ⟨i_b, hpre⟩ := hpre
        refine ⟨⟨inE_row h_a i_a, inE_row h_b i_b, trivial⟩, ?_⟩
        have z_a := lens_row (E := eC) hlen h_a
        have z_b := lens_row (E := eC) hlen h_b
        clear i_a
        generalize decL eC a_n a_f = aL at *
        clear i_b
        generalize decL eC b_n b_f = bL at *
        clear h_a
        clear h_b
        simp (maxSteps := 9999999) only [x43, push_cast, simprocAttr]
        refine ⟨fun h => ?_, fun h => ?_⟩
        · symm; rw [decide_eq_false_iff_not]; intro e; exact h (by rw [e])
        refine vcLoop_upd (α := {k : Nat // k ≤ aL.length ∧ ∀ i, i < k → aL.getD i eC.dflt = bL.getD i eC.dflt}) [0, 1] 0 (fun s => [(5, .o (.c (.v (.int .i64 (s.1 : Nat)))))]) (fun s => []) (fun s => aL.length - s.1) ⟨0, by omega, fun i hi => by omega⟩ ?_ ?_
        · simp only [push_cast, simprocAttr]
        · rintro ⟨k, hk, hall⟩
          simp only [x43L0, push_cast, simprocAttr]
          refine ⟨fun hlt => ⟨hlt, hlt, by omega, by omega, fun hne => ?_, fun hx hy => ⟨⟨k + 1, by omega, fun i hi => ?_⟩, ?_, by simp only; omega⟩⟩, fun hge => ?_⟩
          · symm; rw [decide_eq_false_iff_not]; intro e; rw [e] at hne; simp at hne
          · by_cases hik : i = k
            · subst hik; rw [← decide_eq_true_eq (p := aL.getD i eC.dflt = bL.getD i eC.dflt), ← cc_eq, hx, hy]; simp
            · exact hall i (by omega)
          · rw [wrapI (by omega) (by omega)]; rfl
          · symm; rw [decide_eq_true_eq]; exact getD_ext eC.dflt (by omega) (fun i hi => hall i (by omega))
      · cases hg_
    · cases hg_
  · cases hg_
def g17 : Con := fun args_ E_ nn_ => match args_ with
  | [.a [.v (.int .i64 a_Tick), .v (.int .i64 a_Command_Turn), .v (.int .i64 a_Command_Forward), .v (.bool a_Bump), .n a_Scan], .a [.v (.int .i64 b_Tick), .v (.int .i64 b_Command_Turn), .v (.int .i64 b_Command_Forward), .v (.bool b_Bump), .n b_Scan]] => (match rowOf E_ a_Scan with
    | some (a_Scan_n, a_Scan_s, a_Scan_f) => (match rowOf E_ b_Scan with
    | some (b_Scan_n, b_Scan_s, b_Scan_f) => some (.q (isRow eC a_Scan_n a_Scan_s a_Scan_f ∧ isRow eC b_Scan_n b_Scan_s b_Scan_f ∧ True) (.o (.c (.v (.bool (decide ((⟨a_Tick, a_Command_Turn, a_Command_Forward, a_Bump, (decL eC a_Scan_n a_Scan_f)⟩ : EvtL) = (⟨b_Tick, b_Command_Turn, b_Command_Forward, b_Bump, (decL eC b_Scan_n b_Scan_f)⟩ : EvtL))))))))
    | none => none)
    | none => none)
  | _ => none
theorem c17 : COk Tryz.prog 17 g17 := by
  refine cok_q Tryz.func17 x17_ok (by kernel_rfl) (cok_tab (cok_cons c43 cok_nil)) ?_
  intro args_ E_ nn_ cr_ hg_
  unfold g17 at hg_
  split at hg_
  · rename_i a_Tick a_Command_Turn a_Command_Forward a_Bump a_Scan b_Tick b_Command_Turn b_Command_Forward b_Bump b_Scan
    split at hg_
    · rename_i a_Scan_n a_Scan_s a_Scan_f h_a_Scan
      split at hg_
      · rename_i b_Scan_n b_Scan_s b_Scan_f h_b_Scan
        cases hg_
        refine ⟨_, _, rfl, 2, [a_Scan, b_Scan], [.a [.v (.int .i64 a_Tick), .v (.int .i64 a_Command_Turn), .v (.int .i64 a_Command_Forward), .v (.bool a_Bump), .n 0], .a [.v (.int .i64 b_Tick), .v (.int .i64 b_Command_Turn), .v (.int .i64 b_Command_Forward), .v (.bool b_Bump), .n 1]], [(0, .ro (decL eC a_Scan_n a_Scan_f).length eC.sz (rowF eC (decL eC a_Scan_n a_Scan_f))), (1, .ro (decL eC b_Scan_n b_Scan_f).length eC.sz (rowF eC (decL eC b_Scan_n b_Scan_f)))], .o (.c (.v (.bool (decide ((⟨a_Tick, a_Command_Turn, a_Command_Forward, a_Bump, (decL eC a_Scan_n a_Scan_f)⟩ : EvtL) = (⟨b_Tick, b_Command_Turn, b_Command_Forward, b_Bump, (decL eC b_Scan_n b_Scan_f)⟩ : EvtL)))))), rfl, rfl, and3 (by simp only [push_cast, simprocAttr]) ⟨rfl, ⟨inE0_row h_a_Scan, inE0_row h_b_Scan, trivial⟩, rfl, ?_⟩⟩
        intro hpre hlen
        obtain ⟨i_a_Scan, hpre⟩ := hpre
        obtain ⟨i_b_Scan, hpre⟩ := hpre
        refine ⟨⟨inE_row h_a_Scan i_a_Scan, inE_row h_b_Scan i_b_Scan, trivial⟩, ?_⟩
        have z_a_Scan := lens_row (E := eC) hlen h_a_Scan
        have z_b_Scan := lens_row (E := eC) hlen h_b_Scan
        clear i_a_Scan
        generalize decL eC a_Scan_n a_Scan_f = a_ScanL at *
        clear i_b_Scan
        generalize decL eC b_Scan_n b_Scan_f = b_ScanL at *
        clear h_a_Scan
        clear h_b_Scan
        simp (maxSteps := 9999999) only [x17, push_cast, simprocAttr, g43]
        rw [Bool.eq_iff_iff]
        simp
        simp only [and_assoc]
      · cases hg_
    · cases hg_
  · cases hg_
def g20 : Con := fun args_ E_ nn_ => match args_ with
  | [.c (.n a), .c (.n b)] => (match rowD eEvt.sz E_ a with
    | some (a_n, a_s, a_f, a_c) => (match rowD eEvt.sz E_ b with
    | some (b_n, b_s, b_f, b_c) => some (.q (isDeep eEvt a_n a_s a_f a_c ∧ isDeep eEvt b_n b_s b_f b_c ∧ True) (.o (.c (.v (.bool (decide ((decD eEvt a_n a_f a_c) = (decD eEvt b_n b_f b_c))))))))
    | none => none)
    | none => none)
  | _ => none
theorem c20 : COk Tryz.prog 20 g20 := by
  refine cok_q Tryz.func20 x20_ok (by kernel_rfl) (cok_tab (cok_cons c17 cok_nil)) ?_
  intro args_ E_ nn_ cr_ hg_
  unfold g20 at hg_
  split at hg_
  · rename_i a b
    split at hg_
    · rename_i a_n a_s a_f a_c h_a
      split at hg_
      · rename_i b_n b_s b_f b_c h_b
        cases hg_
        refine ⟨_, _, rfl, 2, [a, b], [.c (.n 0), .c (.n 1)], [(0, .deep none (decD eEvt a_n a_f a_c).length eEvt.sz (deepF eEvt (decD eEvt a_n a_f a_c) a_f) (deepC eEvt (decD eEvt a_n a_f a_c)) []), (1, .deep none (decD eEvt b_n b_f b_c).length eEvt.sz (deepF eEvt (decD eEvt b_n b_f b_c) b_f) (deepC eEvt (decD eEvt b_n b_f b_c)) [])], .o (.c (.v (.bool (decide ((decD eEvt a_n a_f a_c) = (decD eEvt b_n b_f b_c)))))), rfl, rfl, and3 (by simp only [push_cast, simprocAttr]) ⟨rfl, ⟨inE0_deep h_a, inE0_deep h_b, trivial⟩, rfl, ?_⟩⟩
        intro hpre hlen
        obtain ⟨i_a, hpre⟩ := hpre
        obtain ⟨i_b, hpre⟩ := hpre
        refine ⟨⟨inE_deep h_a i_a, inE_deep h_b i_b, trivial⟩, ?_⟩
        have z_a := lens_deep (D := eEvt) hlen h_a
        have z_b := lens_deep (D := eEvt) hlen h_b
        clear i_a
        generalize decD eEvt a_n a_f a_c = aL at *
        clear i_b
        generalize decD eEvt b_n b_f b_c = bL at *
        clear h_a
        clear h_b
        simp (maxSteps := 9999999) only [x20, push_cast, simprocAttr, g17]
        refine ⟨fun h => ?_, fun h => ?_⟩
        · symm; rw [decide_eq_false_iff_not]; intro e; exact h (by rw [e])
        refine vcLoop_upd (α := {k : Nat // k ≤ aL.length ∧ ∀ i, i < k → aL.getD i eEvt.dflt = bL.getD i eEvt.dflt}) [0, 1] 0 (fun s => [(5, .o (.c (.v (.int .i64 (s.1 : Nat)))))]) (fun s => []) (fun s => aL.length - s.1) ⟨0, by omega, fun i hi => by omega⟩ ?_ ?_
        · simp only [push_cast, simprocAttr, g17]
        · rintro ⟨k, hk, hall⟩
          simp only [x20L0, push_cast, simprocAttr, g17]
          refine ⟨fun hlt => ⟨by omega, hlt, hlt, hlt, by omega, by omega, fun hne => ?_, fun he => ⟨⟨k + 1, by omega, fun i hi => ?_⟩, wrapI (by omega) (by omega), by simp only; omega⟩⟩, fun hge => ?_⟩
          · symm; rw [decide_eq_false_iff_not]; intro e; rw [e] at hne; exact hne rfl
          · rcases Nat.lt_succ_iff_lt_or_eq.1 hi with q | q
            · exact hall i q
            · subst q; exact he
          · symm; rw [decide_eq_true_eq]; exact getD_ext eEvt.dflt (by omega) (fun i hi => hall i (by omega))
      · cases hg_
    · cases hg_
  · cases hg_
def x19L0 : XC := (.seq (.seq (.reg false [O1 29 .mv 15, O1 30 .mv 3, O1 31 .lenS 30, O2 32 (.bin .lss) 29 31]) (.cond (.t 32) .skip (.exit 0))) (.seq (.opn 3 15 7 (.opn 3 15 6 (.block 1 (.seq (.regD [O1 36 (.loadN 12) 11, O1 37 .mv 3, O1 38 .mv 15, O2 39 (.ixS 8) 37 38, O1 40 (.loadN 8) 39, O2 41 (.call 15) 36 40, O1 35 .mv 41, O1 42 (.ext 0) 35, O1 43 (.ext 1) 35, O1 44 (.ext 2) 35, ⟨(some 16), (.alloc 39 [(iV 0), (iV 0), (.slice none 0 0), (iV 0), (iV 0), (iV 0), (iV 0), (iV 0), (iV 0), (iV 0), (iV 0), (iV 0)]), [], none⟩, ⟨(some 17), (.alloc 50 [(iV 0), (iV 0), (iV 0), (.bool false), (.slice none 0 0)]), [], none⟩, ⟨none, (.store 12), [(.t 16), (.t 42)], none⟩, ⟨none, (.store 5), [(.t 17), (.t 43)], none⟩, O1 18 .mv 44] [[], [], [], [1, 2], [3, 1, 2], [0, 4, 3, 1, 2], [5, 0, 4, 3, 1, 2], [6, 5, 0, 4, 3, 1, 2], [6, 5, 0, 4, 3, 1, 2], [6, 5, 0, 4, 3, 1, 2], [], [], [10, 7, 6, 5, 0, 4, 3, 1, 2, 11], [11, 8, 6, 5, 0, 4, 3, 1, 2, 12, 10, 7], [9, 6, 5, 0, 4, 3, 1, 2, 13, 11, 8, 12, 10, 7]]) (.seq (.seq (.reg false [O1 45 .mv 18, K2 46 (.bin .neq) 45 (iV 0)]) (.cond (.t 46) (.seq (.reg false [O1 47 .mv 18, K1 8 .mv (.slice none 0 0), K1 9 .mv (.slice none 0 0), O1 10 .mv 47]) .ret) .skip)) (.seq (.reg false [O1 48 (.loadN 12) 16, ⟨none, (.store 12), [(.t 11), (.t 48)], none⟩]) (.seq (.spl 13 (.reg false [O1 49 .mv 13, O1 50 (.loadN 5) 17, ⟨(some 51), (.slit 50 1 5 [(iV 0), (iV 0), (iV 0), (.bool false), (.slice none 0 0)] [(0, 5)]), [(.t 50)], none⟩, O2 52 (.app 50 5 56) 49 51, O1 13 .mv 52])) (.mrg 13 (.reg false [O1 53 .mv 14, O1 54 (.fld 7) 11, O1 55 (.loadN 3) 54, ⟨(some 56), (.slit 28 1 3 [(iV 0), (iV 0), (iV 0)] [(0, 3)]), [(.t 55)], none⟩, O2 57 (.app 28 3 24) 53 56, O1 14 .mv 57]))))))))) (.reg false [O1 33 .mv 15, K2 34 (.bin .add) 33 (iV 1), O1 15 .mv 34])))
def x19 : XFn := ⟨60, (.seq (.reg false [O1 4 (.box 24) 0, O1 5 (.box 26) 1, O1 6 (.box 28) 2, K1 8 .mv (.slice none 0 0), K1 9 .mv (.slice none 0 0), K1 10 .mv (iV 0)]) (.seq (.reg false [O1 20 (.loadN 3) 4, O1 21 (.loadN 4) 5, O1 22 (.loadN 3) 6, ⟨(some 23), (.call 9), [(.t 20), (.t 21), (.t 22)], none⟩, O1 19 .mv 23, O1 24 (.ext 0) 19, O1 25 (.ext 1) 19, ⟨(some 11), (.alloc 39 [(iV 0), (iV 0), (.slice none 0 0), (iV 0), (iV 0), (iV 0), (iV 0), (iV 0), (iV 0), (iV 0), (iV 0), (iV 0)]), [], none⟩, ⟨none, (.store 12), [(.t 11), (.t 24)], none⟩, O1 12 .mv 25]) (.seq (.seq (.reg false [O1 26 .mv 12, K2 27 (.bin .neq) 26 (iV 0)]) (.cond (.t 27) (.seq (.reg false [O1 28 .mv 12, K1 8 .mv (.slice none 0 0), K1 9 .mv (.slice none 0 0), O1 10 .mv 28]) .ret) .skip)) (.seq (.reg false [K1 13 .mv (.slice none 0 0)]) (.seq (.reg false [K1 14 .mv (.slice none 0 0)]) (.seq (.seq (.reg false [K1 15 .mv (iV 0)]) (.block 0 (.loop x19L0))) (.seq (.reg false [O1 58 .mv 13, O1 59 .mv 14, O1 8 .mv 58, O1 9 .mv 59, K1 10 .mv (iV 0)]) .ret))))))), [(.s 8), (.s 9), (.s 10)]⟩
theorem x19_ok : xfn Tryz.prog Tryz.f19 = some x19.er := by kernel_rfl
noncomputable def g19 : Con := fun args_ E_ nn_ => match args_ with
  | [.a [.v (.int .i64 p_W), .v (.int .i64 p_H), .n p_Cells], .a [.v (.int .i64 b_Turn), .v (.int .i64 b_Length), .v (.int .i64 b_Slip), .v (.int .i64 b_Range)], .a [.v (.int .i64 at_X), .v (.int .i64 at_Y), .v (.int .i64 at_H)], .c (.n acts)] => (match rowOf E_ p_Cells with
    | some (p_Cells_n, p_Cells_s, p_Cells_f) => (match rowD eAct.sz E_ acts with
    | some (acts_n, acts_s, acts_f, acts_c) => some (.d (isRow eU8 p_Cells_n p_Cells_s p_Cells_f ∧ isDeep eAct acts_n acts_s acts_f acts_c ∧ u8s (decL eU8 p_Cells_n p_Cells_f) ∧ ((decD eAct acts_n acts_f acts_c)).length ≤ 900) (.t [.c (.n (nn_ + 0)), .c (.n (nn_ + 1)), .c (.v (.int .i64 (runE p_W p_H (decL eU8 p_Cells_n p_Cells_f) b_Turn b_Length b_Slip b_Range at_X at_Y at_H (decD eAct acts_n acts_f acts_c))))]) (fun G_ => [((nn_ + 0), .deep (some 50) (runV p_W p_H (decL eU8 p_Cells_n p_Cells_f) b_Turn b_Length b_Slip b_Range at_X at_Y at_H (decD eAct acts_n acts_f acts_c)).length 5 (deepF eEvt (runV p_W p_H (decL eU8 p_Cells_n p_Cells_f) b_Turn b_Length b_Slip b_Range at_X at_Y at_H (decD eAct acts_n acts_f acts_c)) G_) (deepC eEvt (runV p_W p_H (decL eU8 p_Cells_n p_Cells_f) b_Turn b_Length b_Slip b_Range at_X at_Y at_H (decD eAct acts_n acts_f acts_c))) []), ((nn_ + 1), .own (runP p_W p_H (decL eU8 p_Cells_n p_Cells_f) b_Turn b_Length b_Slip b_Range at_X at_Y at_H (decD eAct acts_n acts_f acts_c)).length 3 (rowF eQ (runP p_W p_H (decL eU8 p_Cells_n p_Cells_f) b_Turn b_Length b_Slip b_Range at_X at_Y at_H (decD eAct acts_n acts_f acts_c))) 28), (p_Cells, .ro ((decL eU8 p_Cells_n p_Cells_f)).length 1 (rowF eU8 ((decL eU8 p_Cells_n p_Cells_f)))), (acts, .deep none ((decD eAct acts_n acts_f acts_c)).length 8 (deepF eAct ((decD eAct acts_n acts_f acts_c)) acts_f) (deepC eAct ((decD eAct acts_n acts_f acts_c))) [])]) (nn_ + 2))
    | none => none)
    | none => none)
  | _ => none
set_option maxHeartbeats 2000000 in
theorem c19 : COk Tryz.prog 19 g19 := by
  refine cok_g Tryz.func19 x19_ok (by kernel_rfl) (cok_tab (cok_cons c9 (cok_cons c15 cok_nil))) ?_
  intro args_ E_ nn_ cr_ hg_
  unfold g19 at hg_
  split at hg_
  · rename_i p_W p_H p_Cells b_Turn b_Length b_Slip b_Range at_X at_Y at_H acts
    split at hg_
    · rename_i p_Cells_n p_Cells_s p_Cells_f h_p_Cells
      split at hg_
      · rename_i acts_n acts_s acts_f acts_c h_acts
        cases hg_
        refine ⟨_, _, _, _, rfl, 2, [p_Cells, acts], [.a [.v (.int .i64 p_W), .v (.int .i64 p_H), .n 0], .a [.v (.int .i64 b_Turn), .v (.int .i64 b_Length), .v (.int .i64 b_Slip), .v (.int .i64 b_Range)], .a [.v (.int .i64 at_X), .v (.int .i64 at_Y), .v (.int .i64 at_H)], .c (.n 1)], [(0, .ro (decL eU8 p_Cells_n p_Cells_f).length eU8.sz (rowF eU8 (decL eU8 p_Cells_n p_Cells_f))), (1, .deep none (decD eAct acts_n acts_f acts_c).length eAct.sz (deepF eAct (decD eAct acts_n acts_f acts_c) acts_f) (deepC eAct (decD eAct acts_n acts_f acts_c)) [])], .t [.c (.n 2), .c (.n 3), .c (.v (.int .i64 (runE p_W p_H (decL eU8 p_Cells_n p_Cells_f) b_Turn b_Length b_Slip b_Range at_X at_Y at_H (decD eAct acts_n acts_f acts_c))))], (fun G_ => [(2, .deep (some 50) (runV p_W p_H (decL eU8 p_Cells_n p_Cells_f) b_Turn b_Length b_Slip b_Range at_X at_Y at_H (decD eAct acts_n acts_f acts_c)).length 5 (deepF eEvt (runV p_W p_H (decL eU8 p_Cells_n p_Cells_f) b_Turn b_Length b_Slip b_Range at_X at_Y at_H (decD eAct acts_n acts_f acts_c)) G_) (deepC eEvt (runV p_W p_H (decL eU8 p_Cells_n p_Cells_f) b_Turn b_Length b_Slip b_Range at_X at_Y at_H (decD eAct acts_n acts_f acts_c))) []), (3, .own (runP p_W p_H (decL eU8 p_Cells_n p_Cells_f) b_Turn b_Length b_Slip b_Range at_X at_Y at_H (decD eAct acts_n acts_f acts_c)).length 3 (rowF eQ (runP p_W p_H (decL eU8 p_Cells_n p_Cells_f) b_Turn b_Length b_Slip b_Range at_X at_Y at_H (decD eAct acts_n acts_f acts_c))) 28), (0, .ro ((decL eU8 p_Cells_n p_Cells_f)).length 1 (rowF eU8 ((decL eU8 p_Cells_n p_Cells_f)))), (1, .deep none ((decD eAct acts_n acts_f acts_c)).length 8 (deepF eAct ((decD eAct acts_n acts_f acts_c)) acts_f) (deepC eAct ((decD eAct acts_n acts_f acts_c))) [])]), 4, rfl, rfl, (fun _ => by simp only [renE, Ent.ren, renAl, rowF_renf] <;> rfl), rfl, by decide, by simp only [push_cast, Nat.reduceLT, Nat.reduceAdd], by simp only [push_cast, Nat.reduceLT, Nat.reduceAdd], by simp only [push_cast, Nat.reduceLT, Nat.reduceAdd], (fun _ => by simp only [push_cast, Nat.reduceLT, Nat.reduceAdd]), rfl, ⟨inE0_row h_p_Cells, inE0_deep h_acts, trivial⟩, (fun _ => by simp only [keysNodup, outN, keys] <;> decide), (fun _ => rfl), (fun _ => .inr ⟨.inl rfl, .inl rfl, trivial⟩), ?_⟩
        intro hpre hlen
        obtain ⟨i_p_Cells, hpre⟩ := hpre
        obtain ⟨i_acts, hpre⟩ := hpre
        refine ⟨⟨inE_row h_p_Cells i_p_Cells, inE_deep h_acts i_acts, trivial⟩, by simp only [apartE] <;> (first | trivial | (simp [Ent.mut]; done)), ?_⟩
        have z_p_Cells := lens_row (E := eU8) hlen h_p_Cells
        have z_acts := lens_deep (D := eAct) hlen h_acts
        clear i_p_Cells
        generalize decL eU8 p_Cells_n p_Cells_f = p_CellsL at *
        clear i_acts
        generalize decD eAct acts_n acts_f acts_c = actsL at *
        clear h_p_Cells
        clear h_acts
        by_cases hE : rnewE p_W p_H p_CellsL b_Turn b_Length b_Slip b_Range at_X at_Y at_H = 0
        · simp (config := {maxSteps := 10000000}) only [x19, push_cast, simprocAttr, g9, g15, g9a, hE]
          refine ⟨hpre.1, ?_⟩
          refine vcLoop_upd (α := {s : Nat × (Nat → Nat → Value) // s.1 ≤ actsL.length ∧ ∀ i, i < s.1 → actOk (actsL.getD i eAct.dflt) = true}) [3, 11] 2 (fun s => [(13, .o (.c (.n 7))), (14, .o (.c (.n 8))), (15, .o (.c (.v (.int .i64 (s.1.1 : Nat)))))]) (fun s => [(7, .deep (some 50) s.1.1 5 (deepF eEvt (evK (rob0 p_W p_H p_CellsL b_Turn b_Length b_Slip b_Range at_X at_Y at_H) actsL s.1.1) s.1.2) (deepC eEvt (evK (rob0 p_W p_H p_CellsL b_Turn b_Length b_Slip b_Range at_X at_Y at_H) actsL s.1.1)) []), (8, .own s.1.1 3 (rowF eQ (poK (rob0 p_W p_H p_CellsL b_Turn b_Length b_Slip b_Range at_X at_Y at_H) actsL s.1.1)) 28), (6, .box [.v (.int .i64 (((rbK (rob0 p_W p_H p_CellsL b_Turn b_Length b_Slip b_Range at_X at_Y at_H) actsL s.1.1)).W)), .v (.int .i64 (((rbK (rob0 p_W p_H p_CellsL b_Turn b_Length b_Slip b_Range at_X at_Y at_H) actsL s.1.1)).H)), .n 5, .v (.int .i64 (((rbK (rob0 p_W p_H p_CellsL b_Turn b_Length b_Slip b_Range at_X at_Y at_H) actsL s.1.1)).bT)), .v (.int .i64 (((rbK (rob0 p_W p_H p_CellsL b_Turn b_Length b_Slip b_Range at_X at_Y at_H) actsL s.1.1)).bL)), .v (.int .i64 (((rbK (rob0 p_W p_H p_CellsL b_Turn b_Length b_Slip b_Range at_X at_Y at_H) actsL s.1.1)).bS)), .v (.int .i64 (((rbK (rob0 p_W p_H p_CellsL b_Turn b_Length b_Slip b_Range at_X at_Y at_H) actsL s.1.1)).bR)), .v (.int .i64 (((rbK (rob0 p_W p_H p_CellsL b_Turn b_Length b_Slip b_Range at_X at_Y at_H) actsL s.1.1)).x)), .v (.int .i64 (((rbK (rob0 p_W p_H p_CellsL b_Turn b_Length b_Slip b_Range at_X at_Y at_H) actsL s.1.1)).y)), .v (.int .i64 (((rbK (rob0 p_W p_H p_CellsL b_Turn b_Length b_Slip b_Range at_X at_Y at_H) actsL s.1.1)).h)), .v (.int .i64 (((rbK (rob0 p_W p_H p_CellsL b_Turn b_Length b_Slip b_Range at_X at_Y at_H) actsL s.1.1)).ticks)), .v (.int .i64 (((rbK (rob0 p_W p_H p_CellsL b_Turn b_Length b_Slip b_Range at_X at_Y at_H) actsL s.1.1)).bumps))] 39), (5, .ro p_CellsL.length 1 (rowF eU8 p_CellsL)), (0, .ro p_CellsL.length 1 (rowF eU8 p_CellsL))]) (fun s => actsL.length - s.1.1) ⟨(0, fun _ _ => .bool false), by omega, fun i hi => by omega⟩ ?_ ?_
          · simp only [push_cast, simprocAttr, g9, g15]
            exact ⟨rfl, rfl, rfl, rfl, rfl, rfl, rfl, rfl, rfl, rfl, rfl⟩
          rintro ⟨⟨i, V⟩, hi, hall⟩
          simp only at hi hall
          have hk := rbK_keep (rob0 p_W p_H p_CellsL b_Turn b_Length b_Slip b_Range at_X at_Y at_H) actsL i
          have hc := rbK_cnt (rob0 p_W p_H p_CellsL b_Turn b_Length b_Slip b_Range at_X at_Y at_H) actsL i
          generalize hK : rbK (rob0 p_W p_H p_CellsL b_Turn b_Length b_Slip b_Range at_X at_Y at_H) actsL i = K at hk hc
          have hcL : K.L = p_CellsL := hk.2.2.1
          have hct : 0 ≤ K.ticks ∧ K.ticks ≤ 1000 := ⟨hc.1.1, by have := hc.1.2; simp only [rob0] at this; omega⟩
          have hcb : 0 ≤ K.bumps ∧ K.bumps ≤ 1000 := ⟨hc.2.1, by have := hc.2.2; simp only [rob0] at this; omega⟩
          clear hc
          simp only [hK]
          rw [← hcL]
          simp (config := {maxSteps := 10000000}) only [x19L0, push_cast, simprocAttr, g9, g15]
          refine ⟨fun hlt => ⟨hlt, hlt, hlt, hlt, ⟨by rw [hcL]; exact hpre.1, hct, hcb⟩, by rfl, fun he => ?_, fun he => ?_⟩, fun hge => ?_⟩
          · have z := doE_1 he
            have z2 := run_bad (A := actsL) hE hlt z.1
            rw [hcL, z2.1, z2.2.1, z2.2.2, z.2]
            exact ⟨fun _ _ => .bool false, by simp⟩
          · refine ⟨by omega, ⟨by omega, mrgOk_push' (evK_len _ _ _).symm fun e j _ _ => okM_lit ?_ e j⟩, fun F' hF => ⟨by omega, ⟨⟨(i + 1, F'), by omega, fun q hq => ?_⟩, ?_⟩⟩⟩
            · intro c hc
              simp only [List.mem_cons, List.not_mem_nil, or_false] at hc
              rcases hc with rfl | rfl | rfl | rfl | rfl
              · trivial
              · trivial
              · trivial
              · trivial
              · exact okM_ro (E := eC) rfl
            · rcases Nat.lt_succ_iff_lt_or_eq.1 hq with h | h
              · exact hall q h
              · subst h; exact doE_0 he
            · simp only
              rw [rbK_succ, hcL, hK]
              refine ⟨⟨wrapI (by omega) (by omega), ⟨trivial, deep_push' (X := [doV K (actsL.getD i eAct.dflt)]) (evK_len _ _ _).symm rfl (by rw [evK_succ, hK]) (by rw [hcL] at hF; exact hF) (push_evt (mrg1_ro (E := eC) rfl rfl rfl))⟩, ?_⟩, by omega⟩
              exact ⟨⟨trivial, push_eq' (x := poseO (doR K (actsL.getD i eAct.dflt))) (poK_len _ _ _).symm rfl (by rw [poK_succ, rbK_succ, hK])⟩, rfl, rfl, rfl, rfl, rfl, rfl, rfl, rfl, rfl, rfl, rfl⟩
          · obtain rfl : i = actsL.length := by omega
            have z := run_ok (A := actsL) hE hall
            rw [hcL, z.1, z.2.1, z.2.2, evK_len, poK_len]
            exact ⟨V, rfl, ⟨rfl, fun _ _ _ _ => ⟨rfl, cEq_refl _⟩⟩, rfl, same_eq' rfl⟩
        · simp (config := {maxSteps := 10000000}) only [x19, push_cast, simprocAttr, g9, g15, g9, g9b, hE]
          have z := run_new (A := actsL) hE
          rw [z.1, z.2.1, z.2.2]
          exact ⟨hpre.1, fun _ _ => .bool false, by simp⟩
      · cases hg_
    · cases hg_
  · cases hg_
end Go.Proofs.YtiijdbpncpdmdaaGreat
