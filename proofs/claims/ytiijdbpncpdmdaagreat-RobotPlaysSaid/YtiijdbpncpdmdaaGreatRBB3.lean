/- A part of the proof of a statement about this seat: how a function is stepped through, and plain laws. No conditions. -/
import Derived.Test.YtiijdbpncpdmdaaGreatRows
import Derived.Test.YtiijdbpncpdmdaaGreatRBSz4
import Derived.Test.YtiijdbpncpdmdaaGreatRBB2
import Derived.KernelRfl
set_option linter.unusedVariables false
set_option linter.unusedSimpArgs false
set_option maxRecDepth 20000
namespace Go.Proofs.YtiijdbpncpdmdaaGreat
open Go.Sx Go.Way
def x9 : XFn := ⟨47, (.seq (.reg false [O1 3 (.box 24) 0, O1 4 (.box 26) 1, O1 5 (.box 28) 2, ⟨(some 6), (.alloc 39 [(iV 0), (iV 0), (.slice none 0 0), (iV 0), (iV 0), (iV 0), (iV 0), (iV 0), (iV 0), (iV 0), (iV 0), (iV 0)]), [], none⟩, K1 7 .mv (iV 0)]) (.seq (.seq (.reg false [O1 10 (.loadN 3) 3, O1 11 (.call 29) 10, O1 8 .mv 11]) (.seq (.reg false [O1 12 .mv 8, K2 13 (.bin .neq) 12 (iV 0)]) (.cond (.t 13) (.seq (.reg false [⟨(some 14), (.build [(iV 0), (iV 0), (.slice none 0 0), (iV 0), (iV 0), (iV 0), (iV 0), (iV 0), (iV 0), (iV 0), (iV 0), (iV 0)] []), [], none⟩, O1 15 .mv 8, ⟨none, (.store 12), [(.t 6), (.t 14)], none⟩, O1 7 .mv 15]) .ret) .skip))) (.seq (.seq (.reg false [O1 16 (.loadN 4) 4, O1 17 (.call 30) 16, O1 18 (.un .not) 17, O1 19 .mv 18, G1 20 (.loadN 3) 5 19 false, G1 21 (.call 31) 20 19 false, G1 22 (.un .not) 21 19 false, ⟨(some 23), .pick, [(.t 19), (.k (.bool true)), (.t 22)], none⟩]) (.cond (.t 23) (.seq (.reg false [⟨(some 24), (.build [(iV 0), (iV 0), (.slice none 0 0), (iV 0), (iV 0), (iV 0), (iV 0), (iV 0), (iV 0), (iV 0), (iV 0), (iV 0)] []), [], none⟩, ⟨none, (.store 12), [(.t 6), (.t 24)], none⟩, K1 7 .mv (iV 1)]) .ret) .skip)) (.seq (.seq (.reg false [O1 25 (.loadN 3) 3, O1 26 (.fld 0) 5, O1 27 .load1 26, O1 28 (.fld 1) 5, O1 29 .load1 28, ⟨(some 30), (.build [(iV 0), (iV 0)] [(0, 1), (1, 1)]), [(.t 27), (.t 29)], none⟩, ⟨(some 31), (.call 32), [(.t 25), (.t 30), (.k (iV 20))], none⟩, O1 32 (.un .not) 31]) (.cond (.t 32) (.seq (.reg false [⟨(some 33), (.build [(iV 0), (iV 0), (.slice none 0 0), (iV 0), (iV 0), (iV 0), (iV 0), (iV 0), (iV 0), (iV 0), (iV 0), (iV 0)] []), [], none⟩, ⟨none, (.store 12), [(.t 6), (.t 33)], none⟩, K1 7 .mv (iV 9)]) .ret) .skip)) (.seq (.regD [O1 34 (.fld 0) 3, O1 35 .load1 34, O1 36 (.fld 1) 3, O1 37 .load1 36, ⟨(some 38), (.slit 5 0 1 [] []), [], none⟩, O1 39 (.fld 2) 3, O1 40 .load1 39, O2 41 (.app 5 1 1) 38 40, ⟨(some 42), (.build [(iV 0), (iV 0), (.slice none 0 0)] [(0, 1), (1, 1), (2, 1)]), [(.t 35), (.t 37), (.t 41)], none⟩, ⟨(some 9), (.alloc 24 [(iV 0), (iV 0), (.slice none 0 0)]), [], none⟩, ⟨none, (.store 3), [(.t 9), (.t 42)], none⟩] [[], [0], [], [2], [], [], [5], [4, 6, 5], [1, 0, 3, 2, 7, 4, 6, 5], [], [9, 8, 1, 0, 3, 2, 7, 4, 6, 5]]) (.seq (.reg false [O1 43 (.loadN 3) 9, O1 44 (.loadN 4) 4, O1 45 (.loadN 3) 5, ⟨(some 46), (.build [(iV 0), (iV 0), (.slice none 0 0), (iV 0), (iV 0), (iV 0), (iV 0), (iV 0), (iV 0), (iV 0), (iV 0), (iV 0)] [(0, 3), (3, 4), (7, 3)]), [(.t 43), (.t 44), (.t 45)], none⟩, ⟨none, (.store 12), [(.t 6), (.t 46)], none⟩, K1 7 .mv (iV 0)]) .ret)))))), [(.bn 6 12), (.s 7)]⟩
theorem x9_ok : xfn Tryz.prog Tryz.f9 = some x9.er := by kernel_rfl
def x15 : XFn := ⟨72, (.seq (.reg false [O1 2 (.box 39) 0, O1 3 (.box 57) 1, ⟨(some 4), (.alloc 39 [(iV 0), (iV 0), (.slice none 0 0), (iV 0), (iV 0), (iV 0), (iV 0), (iV 0), (iV 0), (iV 0), (iV 0), (iV 0)]), [], none⟩, ⟨(some 5), (.alloc 50 [(iV 0), (iV 0), (iV 0), (.bool false), (.slice none 0 0)]), [], none⟩, K1 6 .mv (iV 0)]) (.seq (.seq (.reg false [O1 14 (.loadN 8) 3, O1 15 (.call 33) 14, O1 16 (.un .not) 15]) (.cond (.t 16) (.seq (.reg false [O1 17 (.loadN 12) 2, ⟨(some 18), (.build [(iV 0), (iV 0), (iV 0), (.bool false), (.slice none 0 0)] []), [], none⟩, ⟨none, (.store 12), [(.t 4), (.t 17)], none⟩, ⟨none, (.store 5), [(.t 5), (.t 18)], none⟩, K1 6 .mv (iV 1)]) .ret) .skip)) (.seq (.reg false [O1 20 (.fld 3) 2, O1 21 (.loadN 4) 20, O1 22 (.fld 2) 3, O1 23 (.loadN 4) 22, O2 24 (.call 34) 21 23, O1 19 .mv 24, O1 25 (.ext 0) 19, O1 26 (.ext 1) 19, ⟨(some 7), (.alloc 54 [(iV 0), (iV 0), (iV 0), (iV 0)]), [], none⟩, ⟨none, (.store 4), [(.t 7), (.t 25)], none⟩, O1 8 .mv 26]) (.seq (.reg false [O1 28 (.fld 0) 2, O1 29 (.loadN 3) 28, O1 30 (.fld 7) 2, O1 31 (.loadN 3) 30, O1 32 (.fld 0) 3, O1 33 (.loadN 2) 32, O1 34 (.loadN 4) 7, ⟨(some 35), (.call 35), [(.t 29), (.t 31), (.t 33), (.t 34)], none⟩, O1 27 .mv 35, O1 36 (.ext 0) 27, O1 37 (.ext 1) 27, O1 38 (.ext 2) 27, ⟨(some 9), (.alloc 28 [(iV 0), (iV 0), (iV 0)]), [], none⟩, ⟨none, (.store 3), [(.t 9), (.t 36)], none⟩, O1 10 .mv 37, O1 11 .mv 38]) (.seq (.reg false [O1 39 (.loadN 3) 9, O1 40 (.fld 7) 2, ⟨none, (.store 3), [(.t 40), (.t 39)], none⟩]) (.seq (.reg false [O1 41 (.fld 10) 2, O1 42 .load1 41, K2 43 (.bin .add) 42 (iV 1), O1 44 (.fld 10) 2, ⟨none, (.store 1), [(.t 44), (.t 43)], none⟩]) (.seq (.seq (.reg false [O1 45 .mv 10]) (.cond (.t 45) (.reg false [O1 46 (.fld 11) 2, O1 47 .load1 46, K2 48 (.bin .add) 47 (iV 1), O1 49 (.fld 11) 2, ⟨none, (.store 1), [(.t 49), (.t 48)], none⟩]) .skip)) (.seq (.reg false [O1 51 (.fld 0) 2, O1 52 (.loadN 3) 51, O1 53 (.loadN 3) 9, O1 54 (.fld 6) 3, O1 55 .load1 54, O1 56 (.fld 3) 2, O1 57 (.fld 3) 56, O1 58 .load1 57, O1 59 (.fld 7) 3, O1 60 .load1 59, ⟨(some 61), (.call 36), [(.t 52), (.t 53), (.t 55), (.t 58), (.t 60)], none⟩, O1 50 .mv 61, O1 62 (.ext 0) 50, O1 63 (.ext 1) 50, O1 12 .mv 62, O1 13 .mv 63]) (.seq (.regD [O1 64 (.loadN 12) 2, O1 65 (.fld 10) 2, O1 66 .load1 65, O1 67 (.fld 0) 3, O1 68 (.loadN 2) 67, O1 69 .mv 10, O1 70 .mv 12, ⟨(some 71), (.build [(iV 0), (iV 0), (iV 0), (.bool false), (.slice none 0 0)] [(0, 1), (1, 2), (3, 1), (4, 1)]), [(.t 66), (.t 68), (.t 69), (.t 70)], none⟩, ⟨none, (.store 12), [(.t 4), (.t 64)], none⟩, ⟨none, (.store 5), [(.t 5), (.t 71)], none⟩, K1 6 .mv (iV 0)] [[], [], [1], [], [3], [], [], [2, 1, 4, 3, 5, 6], [0], [7, 2, 1, 4, 3, 5, 6, 8, 0], [9, 7, 2, 1, 4, 3, 5, 6, 8, 0]]) .ret))))))))), [(.bn 4 12), (.bn 5 5), (.s 6)]⟩
theorem x15_ok : xfn Tryz.prog Tryz.f15 = some x15.er := by kernel_rfl
def x17 : XFn := ⟨31, (.seq (.reg false [O1 2 (.box 50) 0, O1 3 (.box 50) 1, K1 4 .mv (.bool false)]) (.seq (.reg false [O1 5 (.fld 0) 2, O1 6 .load1 5, O1 7 (.fld 0) 3, O1 8 .load1 7, O2 9 (.bin .eql) 6 8, O1 10 .mv 9, G1 11 (.fld 1) 2 10 true, G1 12 (.loadN 2) 11 10 true, G1 13 (.fld 1) 3 10 true, G1 14 (.loadN 2) 13 10 true, ⟨(some 15), (.eqA false [(.i .i64), (.i .i64)]), [(.t 12), (.t 14)], (some (10, true))⟩, ⟨(some 16), .pick, [(.t 10), (.t 15), (.k (.bool false))], none⟩, O1 17 .mv 16, G1 18 (.fld 3) 2 17 true, G1 19 .load1 18 17 true, G1 20 (.fld 3) 3 17 true, G1 21 .load1 20 17 true, G2 22 (.binb .eql) 19 21 17 true, ⟨(some 23), .pick, [(.t 17), (.t 22), (.k (.bool false))], none⟩, O1 24 .mv 23, G1 25 (.fld 4) 2 24 true, G1 26 .load1 25 24 true, G1 27 (.fld 4) 3 24 true, G1 28 .load1 27 24 true, G2 29 (.call 43) 26 28 24 true, ⟨(some 30), .pick, [(.t 24), (.t 29), (.k (.bool false))], none⟩, O1 4 .mv 30]) .ret)), [(.s 4)]⟩
theorem x17_ok : xfn Tryz.prog Tryz.f17 = some x17.er := by kernel_rfl
noncomputable def g9a : Con := fun args_ E_ nn_ => match args_ with
  | [.a [.v (.int .i64 p_W), .v (.int .i64 p_H), .n p_Cells], .a [.v (.int .i64 b_Turn), .v (.int .i64 b_Length), .v (.int .i64 b_Slip), .v (.int .i64 b_Range)], .a [.v (.int .i64 at_X), .v (.int .i64 at_Y), .v (.int .i64 at_H)]] => (match rowOf E_ p_Cells with
    | some (p_Cells_n, p_Cells_s, p_Cells_f) => some (.e (isRow eU8 p_Cells_n p_Cells_s p_Cells_f ∧ rnewE p_W p_H (decL eU8 p_Cells_n p_Cells_f) b_Turn b_Length b_Slip b_Range at_X at_Y at_H = 0 ∧ u8s (decL eU8 p_Cells_n p_Cells_f)) (.t [.a [.v (.int .i64 (p_W)), .v (.int .i64 (p_H)), .n (nn_ + 0), .v (.int .i64 (b_Turn)), .v (.int .i64 (b_Length)), .v (.int .i64 (b_Slip)), .v (.int .i64 (b_Range)), .v (.int .i64 (at_X)), .v (.int .i64 (at_Y)), .v (.int .i64 (at_H)), .v (.int .i64 (0)), .v (.int .i64 (0))], .c (.v (.int .i64 (0)))]) [((nn_ + 0), .own ((decL eU8 p_Cells_n p_Cells_f)).length 1 (rowF eU8 ((decL eU8 p_Cells_n p_Cells_f))) 5)] (nn_ + 1))
    | none => none)
  | _ => none
theorem c9a : COk Tryz.prog 9 g9a := by
  refine cok_e Tryz.func9 x9_ok (by kernel_rfl) (cok_tab (cok_cons c29 (cok_cons c30 (cok_cons c31 (cok_cons c32 cok_nil))))) ?_
  intro args_ E_ nn_ cr_ hg_
  unfold g9a at hg_
  split at hg_
  · rename_i p_W p_H p_Cells b_Turn b_Length b_Slip b_Range at_X at_Y at_H
    split at hg_
    · rename_i p_Cells_n p_Cells_s p_Cells_f h_p_Cells
      cases hg_
      refine ⟨_, _, _, _, rfl, 1, [p_Cells], [.a [.v (.int .i64 p_W), .v (.int .i64 p_H), .n 0], .a [.v (.int .i64 b_Turn), .v (.int .i64 b_Length), .v (.int .i64 b_Slip), .v (.int .i64 b_Range)], .a [.v (.int .i64 at_X), .v (.int .i64 at_Y), .v (.int .i64 at_H)]], [(0, .ro (decL eU8 p_Cells_n p_Cells_f).length eU8.sz (rowF eU8 (decL eU8 p_Cells_n p_Cells_f)))], .t [.a [.v (.int .i64 (p_W)), .v (.int .i64 (p_H)), .n 1, .v (.int .i64 (b_Turn)), .v (.int .i64 (b_Length)), .v (.int .i64 (b_Slip)), .v (.int .i64 (b_Range)), .v (.int .i64 (at_X)), .v (.int .i64 (at_Y)), .v (.int .i64 (at_H)), .v (.int .i64 (0)), .v (.int .i64 (0))], .c (.v (.int .i64 (0)))], [(1, .own ((decL eU8 p_Cells_n p_Cells_f)).length 1 (rowF eU8 ((decL eU8 p_Cells_n p_Cells_f))) 5)], 2, rfl, rfl, by simp only [renE, Ent.ren, rowF_renf] <;> rfl, rfl, by decide, and4 (by simp only [push_cast, simprocAttr]) ⟨rfl, ⟨inE0_row h_p_Cells, trivial⟩, by simp only [keysNodup, outN, keys] <;> decide, rfl, rfl, ?_⟩⟩
      intro hpre hlen
      obtain ⟨i_p_Cells, hpre⟩ := hpre
      refine ⟨⟨inE_row h_p_Cells i_p_Cells, trivial⟩, by simp only [apartE] <;> (first | trivial | (simp [Ent.mut]; done)), ?_⟩
      have z_p_Cells := lens_row (E := eU8) hlen h_p_Cells
      clear i_p_Cells
      generalize decL eU8 p_Cells_n p_Cells_f = p_CellsL at *
      clear h_p_Cells
      simp (maxSteps := 9999999) only [x9, push_cast, simprocAttr, g29, g30, g31, g32]
      obtain ⟨q1, q2, q3⟩ := rnew_ok hpre.1
      have ql := ck_len q1
      refine ⟨fun h => absurd q1 h, fun _ => ⟨fun h => (by omega), ?_⟩⟩
      intros
      refine ⟨fun h => (by rw [q3] at h; cases h), fun _ => ⟨by omega, by rfl, ?_⟩⟩
      rw [cat0]
      exact fun e j he hj => (rowF_sub _ _ _ _).symm
    · cases hg_
  · cases hg_
noncomputable def g9b : Con := fun args_ E_ nn_ => match args_ with
  | [.a [.v (.int .i64 p_W), .v (.int .i64 p_H), .n p_Cells], .a [.v (.int .i64 b_Turn), .v (.int .i64 b_Length), .v (.int .i64 b_Slip), .v (.int .i64 b_Range)], .a [.v (.int .i64 at_X), .v (.int .i64 at_Y), .v (.int .i64 at_H)]] => (match rowOf E_ p_Cells with
    | some (p_Cells_n, p_Cells_s, p_Cells_f) => some (.q (isRow eU8 p_Cells_n p_Cells_s p_Cells_f ∧ rnewE p_W p_H (decL eU8 p_Cells_n p_Cells_f) b_Turn b_Length b_Slip b_Range at_X at_Y at_H ≠ 0 ∧ u8s (decL eU8 p_Cells_n p_Cells_f)) (.t [.a [.v (.int .i64 (0)), .v (.int .i64 (0)), .v (.slice none 0 0), .v (.int .i64 (0)), .v (.int .i64 (0)), .v (.int .i64 (0)), .v (.int .i64 (0)), .v (.int .i64 (0)), .v (.int .i64 (0)), .v (.int .i64 (0)), .v (.int .i64 (0)), .v (.int .i64 (0))], .c (.v (.int .i64 (rnewE p_W p_H (decL eU8 p_Cells_n p_Cells_f) b_Turn b_Length b_Slip b_Range at_X at_Y at_H)))]))
    | none => none)
  | _ => none
theorem c9b : COk Tryz.prog 9 g9b := by
  refine cok_q Tryz.func9 x9_ok (by kernel_rfl) (cok_tab (cok_cons c29 (cok_cons c30 (cok_cons c31 (cok_cons c32 cok_nil))))) ?_
  intro args_ E_ nn_ cr_ hg_
  unfold g9b at hg_
  split at hg_
  · rename_i p_W p_H p_Cells b_Turn b_Length b_Slip b_Range at_X at_Y at_H
    split at hg_
    · rename_i p_Cells_n p_Cells_s p_Cells_f h_p_Cells
      cases hg_
      refine ⟨_, _, rfl, 1, [p_Cells], [.a [.v (.int .i64 p_W), .v (.int .i64 p_H), .n 0], .a [.v (.int .i64 b_Turn), .v (.int .i64 b_Length), .v (.int .i64 b_Slip), .v (.int .i64 b_Range)], .a [.v (.int .i64 at_X), .v (.int .i64 at_Y), .v (.int .i64 at_H)]], [(0, .ro (decL eU8 p_Cells_n p_Cells_f).length eU8.sz (rowF eU8 (decL eU8 p_Cells_n p_Cells_f)))], .t [.a [.v (.int .i64 (0)), .v (.int .i64 (0)), .v (.slice none 0 0), .v (.int .i64 (0)), .v (.int .i64 (0)), .v (.int .i64 (0)), .v (.int .i64 (0)), .v (.int .i64 (0)), .v (.int .i64 (0)), .v (.int .i64 (0)), .v (.int .i64 (0)), .v (.int .i64 (0))], .c (.v (.int .i64 (rnewE p_W p_H (decL eU8 p_Cells_n p_Cells_f) b_Turn b_Length b_Slip b_Range at_X at_Y at_H)))], rfl, rfl, and3 (by simp only [push_cast, simprocAttr]) ⟨rfl, ⟨inE0_row h_p_Cells, trivial⟩, rfl, ?_⟩⟩
      intro hpre hlen
      obtain ⟨i_p_Cells, hpre⟩ := hpre
      refine ⟨⟨inE_row h_p_Cells i_p_Cells, trivial⟩, ?_⟩
      have z_p_Cells := lens_row (E := eU8) hlen h_p_Cells
      clear i_p_Cells
      generalize decL eU8 p_Cells_n p_Cells_f = p_CellsL at *
      clear h_p_Cells
      simp (maxSteps := 9999999) only [x9, push_cast, simprocAttr, g29, g30, g31, g32]
      refine ⟨fun h => (rnew_ck h).symm, fun h => ⟨fun h2 => ?_, ?_⟩⟩
      · rw [rnew_arg h (by omega)]
      intro a1 a2 a3 a4 a5 a6 a7 a8 a9 a10 a11 a12 a13 a14
      have e := rnew_fit (W := p_W) (H := p_H) (L := p_CellsL) (bT := b_Turn) (bL := b_Length) (bS := b_Slip) (bR := b_Range) (x := at_X) (y := at_Y) (h := at_H) h (by omega)
      refine ⟨fun hf => by rw [e, if_pos hf], fun hf => ?_⟩
      rw [if_neg (by rw [hf]; decide)] at e
      exact hpre.1 e
    · cases hg_
  · cases hg_
noncomputable def g9 : Con := fun args_ E_ nn_ => match args_ with
  | [.a [.v (.int .i64 p_W), .v (.int .i64 p_H), .n p_Cells], .a [.v (.int .i64 b_Turn), .v (.int .i64 b_Length), .v (.int .i64 b_Slip), .v (.int .i64 b_Range)], .a [.v (.int .i64 at_X), .v (.int .i64 at_Y), .v (.int .i64 at_H)]] =>
    (match rowOf E_ p_Cells with
    | some (p_Cells_n, p_Cells_s, p_Cells_f) => if rnewE p_W p_H (decL eU8 p_Cells_n p_Cells_f) b_Turn b_Length b_Slip b_Range at_X at_Y at_H = 0 then g9a args_ E_ nn_ else g9b args_ E_ nn_
    | none => none)
  | _ => none
theorem c9 : COk Tryz.prog 9 g9 := by
  intro args E n h1 h2
  unfold g9
  split
  · split
    · split
      · exact c9a _ _ _ h1 h2
      · exact c9b _ _ _ h1 h2
    · trivial
  · trivial
noncomputable def g15 : Con := fun args_ E_ nn_ => match args_ with
  | [.a [.v (.int .i64 r_Plan_W), .v (.int .i64 r_Plan_H), .n r_Plan_Cells, .v (.int .i64 r_Bounds_Turn), .v (.int .i64 r_Bounds_Length), .v (.int .i64 r_Bounds_Slip), .v (.int .i64 r_Bounds_Range), .v (.int .i64 r_At_X), .v (.int .i64 r_At_Y), .v (.int .i64 r_At_H), .v (.int .i64 r_Ticks), .v (.int .i64 r_Bumps)], .a [.v (.int .i64 a_Command_Turn), .v (.int .i64 a_Command_Forward), .v (.int .i64 a_Slip_Turn), .v (.int .i64 a_Slip_Length), .v (.int .i64 a_Slip_X), .v (.int .i64 a_Slip_Y), .n a_Marks, .n a_Errs]] => (match rowOf E_ r_Plan_Cells with
    | some (r_Plan_Cells_n, r_Plan_Cells_s, r_Plan_Cells_f) => (match rowOf E_ a_Marks with
    | some (a_Marks_n, a_Marks_s, a_Marks_f) => (match rowOf E_ a_Errs with
    | some (a_Errs_n, a_Errs_s, a_Errs_f) => some (.e (isRow eU8 r_Plan_Cells_n r_Plan_Cells_s r_Plan_Cells_f ∧ isRow eI a_Marks_n a_Marks_s a_Marks_f ∧ isRow eI a_Errs_n a_Errs_s a_Errs_f ∧ u8s (decL eU8 r_Plan_Cells_n r_Plan_Cells_f) ∧ (0 ≤ r_Ticks ∧ r_Ticks ≤ 1000) ∧ 0 ≤ r_Bumps ∧ r_Bumps ≤ 1000) (.t [.a [.v (.int .i64 ((doR (⟨r_Plan_W, r_Plan_H, (decL eU8 r_Plan_Cells_n r_Plan_Cells_f), r_Bounds_Turn, r_Bounds_Length, r_Bounds_Slip, r_Bounds_Range, r_At_X, r_At_Y, r_At_H, r_Ticks, r_Bumps⟩ : RobS) (⟨a_Command_Turn, a_Command_Forward, a_Slip_Turn, a_Slip_Length, a_Slip_X, a_Slip_Y, (decL eI a_Marks_n a_Marks_f), (decL eI a_Errs_n a_Errs_f)⟩ : ActL)).W)), .v (.int .i64 ((doR (⟨r_Plan_W, r_Plan_H, (decL eU8 r_Plan_Cells_n r_Plan_Cells_f), r_Bounds_Turn, r_Bounds_Length, r_Bounds_Slip, r_Bounds_Range, r_At_X, r_At_Y, r_At_H, r_Ticks, r_Bumps⟩ : RobS) (⟨a_Command_Turn, a_Command_Forward, a_Slip_Turn, a_Slip_Length, a_Slip_X, a_Slip_Y, (decL eI a_Marks_n a_Marks_f), (decL eI a_Errs_n a_Errs_f)⟩ : ActL)).H)), .n r_Plan_Cells, .v (.int .i64 ((doR (⟨r_Plan_W, r_Plan_H, (decL eU8 r_Plan_Cells_n r_Plan_Cells_f), r_Bounds_Turn, r_Bounds_Length, r_Bounds_Slip, r_Bounds_Range, r_At_X, r_At_Y, r_At_H, r_Ticks, r_Bumps⟩ : RobS) (⟨a_Command_Turn, a_Command_Forward, a_Slip_Turn, a_Slip_Length, a_Slip_X, a_Slip_Y, (decL eI a_Marks_n a_Marks_f), (decL eI a_Errs_n a_Errs_f)⟩ : ActL)).bT)), .v (.int .i64 ((doR (⟨r_Plan_W, r_Plan_H, (decL eU8 r_Plan_Cells_n r_Plan_Cells_f), r_Bounds_Turn, r_Bounds_Length, r_Bounds_Slip, r_Bounds_Range, r_At_X, r_At_Y, r_At_H, r_Ticks, r_Bumps⟩ : RobS) (⟨a_Command_Turn, a_Command_Forward, a_Slip_Turn, a_Slip_Length, a_Slip_X, a_Slip_Y, (decL eI a_Marks_n a_Marks_f), (decL eI a_Errs_n a_Errs_f)⟩ : ActL)).bL)), .v (.int .i64 ((doR (⟨r_Plan_W, r_Plan_H, (decL eU8 r_Plan_Cells_n r_Plan_Cells_f), r_Bounds_Turn, r_Bounds_Length, r_Bounds_Slip, r_Bounds_Range, r_At_X, r_At_Y, r_At_H, r_Ticks, r_Bumps⟩ : RobS) (⟨a_Command_Turn, a_Command_Forward, a_Slip_Turn, a_Slip_Length, a_Slip_X, a_Slip_Y, (decL eI a_Marks_n a_Marks_f), (decL eI a_Errs_n a_Errs_f)⟩ : ActL)).bS)), .v (.int .i64 ((doR (⟨r_Plan_W, r_Plan_H, (decL eU8 r_Plan_Cells_n r_Plan_Cells_f), r_Bounds_Turn, r_Bounds_Length, r_Bounds_Slip, r_Bounds_Range, r_At_X, r_At_Y, r_At_H, r_Ticks, r_Bumps⟩ : RobS) (⟨a_Command_Turn, a_Command_Forward, a_Slip_Turn, a_Slip_Length, a_Slip_X, a_Slip_Y, (decL eI a_Marks_n a_Marks_f), (decL eI a_Errs_n a_Errs_f)⟩ : ActL)).bR)), .v (.int .i64 ((doR (⟨r_Plan_W, r_Plan_H, (decL eU8 r_Plan_Cells_n r_Plan_Cells_f), r_Bounds_Turn, r_Bounds_Length, r_Bounds_Slip, r_Bounds_Range, r_At_X, r_At_Y, r_At_H, r_Ticks, r_Bumps⟩ : RobS) (⟨a_Command_Turn, a_Command_Forward, a_Slip_Turn, a_Slip_Length, a_Slip_X, a_Slip_Y, (decL eI a_Marks_n a_Marks_f), (decL eI a_Errs_n a_Errs_f)⟩ : ActL)).x)), .v (.int .i64 ((doR (⟨r_Plan_W, r_Plan_H, (decL eU8 r_Plan_Cells_n r_Plan_Cells_f), r_Bounds_Turn, r_Bounds_Length, r_Bounds_Slip, r_Bounds_Range, r_At_X, r_At_Y, r_At_H, r_Ticks, r_Bumps⟩ : RobS) (⟨a_Command_Turn, a_Command_Forward, a_Slip_Turn, a_Slip_Length, a_Slip_X, a_Slip_Y, (decL eI a_Marks_n a_Marks_f), (decL eI a_Errs_n a_Errs_f)⟩ : ActL)).y)), .v (.int .i64 ((doR (⟨r_Plan_W, r_Plan_H, (decL eU8 r_Plan_Cells_n r_Plan_Cells_f), r_Bounds_Turn, r_Bounds_Length, r_Bounds_Slip, r_Bounds_Range, r_At_X, r_At_Y, r_At_H, r_Ticks, r_Bumps⟩ : RobS) (⟨a_Command_Turn, a_Command_Forward, a_Slip_Turn, a_Slip_Length, a_Slip_X, a_Slip_Y, (decL eI a_Marks_n a_Marks_f), (decL eI a_Errs_n a_Errs_f)⟩ : ActL)).h)), .v (.int .i64 ((doR (⟨r_Plan_W, r_Plan_H, (decL eU8 r_Plan_Cells_n r_Plan_Cells_f), r_Bounds_Turn, r_Bounds_Length, r_Bounds_Slip, r_Bounds_Range, r_At_X, r_At_Y, r_At_H, r_Ticks, r_Bumps⟩ : RobS) (⟨a_Command_Turn, a_Command_Forward, a_Slip_Turn, a_Slip_Length, a_Slip_X, a_Slip_Y, (decL eI a_Marks_n a_Marks_f), (decL eI a_Errs_n a_Errs_f)⟩ : ActL)).ticks)), .v (.int .i64 ((doR (⟨r_Plan_W, r_Plan_H, (decL eU8 r_Plan_Cells_n r_Plan_Cells_f), r_Bounds_Turn, r_Bounds_Length, r_Bounds_Slip, r_Bounds_Range, r_At_X, r_At_Y, r_At_H, r_Ticks, r_Bumps⟩ : RobS) (⟨a_Command_Turn, a_Command_Forward, a_Slip_Turn, a_Slip_Length, a_Slip_X, a_Slip_Y, (decL eI a_Marks_n a_Marks_f), (decL eI a_Errs_n a_Errs_f)⟩ : ActL)).bumps))], .a [.v (.int .i64 ((doV (⟨r_Plan_W, r_Plan_H, (decL eU8 r_Plan_Cells_n r_Plan_Cells_f), r_Bounds_Turn, r_Bounds_Length, r_Bounds_Slip, r_Bounds_Range, r_At_X, r_At_Y, r_At_H, r_Ticks, r_Bumps⟩ : RobS) (⟨a_Command_Turn, a_Command_Forward, a_Slip_Turn, a_Slip_Length, a_Slip_X, a_Slip_Y, (decL eI a_Marks_n a_Marks_f), (decL eI a_Errs_n a_Errs_f)⟩ : ActL)).tick)), .v (.int .i64 ((doV (⟨r_Plan_W, r_Plan_H, (decL eU8 r_Plan_Cells_n r_Plan_Cells_f), r_Bounds_Turn, r_Bounds_Length, r_Bounds_Slip, r_Bounds_Range, r_At_X, r_At_Y, r_At_H, r_Ticks, r_Bumps⟩ : RobS) (⟨a_Command_Turn, a_Command_Forward, a_Slip_Turn, a_Slip_Length, a_Slip_X, a_Slip_Y, (decL eI a_Marks_n a_Marks_f), (decL eI a_Errs_n a_Errs_f)⟩ : ActL)).turn)), .v (.int .i64 ((doV (⟨r_Plan_W, r_Plan_H, (decL eU8 r_Plan_Cells_n r_Plan_Cells_f), r_Bounds_Turn, r_Bounds_Length, r_Bounds_Slip, r_Bounds_Range, r_At_X, r_At_Y, r_At_H, r_Ticks, r_Bumps⟩ : RobS) (⟨a_Command_Turn, a_Command_Forward, a_Slip_Turn, a_Slip_Length, a_Slip_X, a_Slip_Y, (decL eI a_Marks_n a_Marks_f), (decL eI a_Errs_n a_Errs_f)⟩ : ActL)).fwd)), .v (.bool (doV (⟨r_Plan_W, r_Plan_H, (decL eU8 r_Plan_Cells_n r_Plan_Cells_f), r_Bounds_Turn, r_Bounds_Length, r_Bounds_Slip, r_Bounds_Range, r_At_X, r_At_Y, r_At_H, r_Ticks, r_Bumps⟩ : RobS) (⟨a_Command_Turn, a_Command_Forward, a_Slip_Turn, a_Slip_Length, a_Slip_X, a_Slip_Y, (decL eI a_Marks_n a_Marks_f), (decL eI a_Errs_n a_Errs_f)⟩ : ActL)).bump), .n (nn_ + 0)], .c (.v (.int .i64 (doE (⟨a_Command_Turn, a_Command_Forward, a_Slip_Turn, a_Slip_Length, a_Slip_X, a_Slip_Y, (decL eI a_Marks_n a_Marks_f), (decL eI a_Errs_n a_Errs_f)⟩ : ActL))))]) [((nn_ + 0), .ro ((doV (⟨r_Plan_W, r_Plan_H, (decL eU8 r_Plan_Cells_n r_Plan_Cells_f), r_Bounds_Turn, r_Bounds_Length, r_Bounds_Slip, r_Bounds_Range, r_At_X, r_At_Y, r_At_H, r_Ticks, r_Bumps⟩ : RobS) (⟨a_Command_Turn, a_Command_Forward, a_Slip_Turn, a_Slip_Length, a_Slip_X, a_Slip_Y, (decL eI a_Marks_n a_Marks_f), (decL eI a_Errs_n a_Errs_f)⟩ : ActL)).scan).length 2 (rowF eC ((doV (⟨r_Plan_W, r_Plan_H, (decL eU8 r_Plan_Cells_n r_Plan_Cells_f), r_Bounds_Turn, r_Bounds_Length, r_Bounds_Slip, r_Bounds_Range, r_At_X, r_At_Y, r_At_H, r_Ticks, r_Bumps⟩ : RobS) (⟨a_Command_Turn, a_Command_Forward, a_Slip_Turn, a_Slip_Length, a_Slip_X, a_Slip_Y, (decL eI a_Marks_n a_Marks_f), (decL eI a_Errs_n a_Errs_f)⟩ : ActL)).scan))), (r_Plan_Cells, .ro ((decL eU8 r_Plan_Cells_n r_Plan_Cells_f)).length 1 (rowF eU8 ((decL eU8 r_Plan_Cells_n r_Plan_Cells_f)))), (a_Marks, .ro ((decL eI a_Marks_n a_Marks_f)).length 1 (rowF eI ((decL eI a_Marks_n a_Marks_f)))), (a_Errs, .ro ((decL eI a_Errs_n a_Errs_f)).length 1 (rowF eI ((decL eI a_Errs_n a_Errs_f))))] (nn_ + 1))
    | none => none)
    | none => none)
    | none => none)
  | _ => none
theorem c15 : COk Tryz.prog 15 g15 := by
  refine cok_d Tryz.func15 x15_ok (by kernel_rfl) (cok_tab (cok_cons c33 (cok_cons c34 (cok_cons c35 (cok_cons c36 cok_nil))))) ?_
  intro args_ E_ nn_ cr_ hg_
  unfold g15 at hg_
  split at hg_
  · rename_i r_Plan_W r_Plan_H r_Plan_Cells r_Bounds_Turn r_Bounds_Length r_Bounds_Slip r_Bounds_Range r_At_X r_At_Y r_At_H r_Ticks r_Bumps a_Command_Turn a_Command_Forward a_Slip_Turn a_Slip_Length a_Slip_X a_Slip_Y a_Marks a_Errs
    split at hg_
    · rename_i r_Plan_Cells_n r_Plan_Cells_s r_Plan_Cells_f h_r_Plan_Cells
      split at hg_
      · rename_i a_Marks_n a_Marks_s a_Marks_f h_a_Marks
        split at hg_
        · rename_i a_Errs_n a_Errs_s a_Errs_f h_a_Errs
          cases hg_
          refine ⟨_, _, _, _, rfl, 3, [r_Plan_Cells, a_Marks, a_Errs], [.a [.v (.int .i64 r_Plan_W), .v (.int .i64 r_Plan_H), .n 0, .v (.int .i64 r_Bounds_Turn), .v (.int .i64 r_Bounds_Length), .v (.int .i64 r_Bounds_Slip), .v (.int .i64 r_Bounds_Range), .v (.int .i64 r_At_X), .v (.int .i64 r_At_Y), .v (.int .i64 r_At_H), .v (.int .i64 r_Ticks), .v (.int .i64 r_Bumps)], .a [.v (.int .i64 a_Command_Turn), .v (.int .i64 a_Command_Forward), .v (.int .i64 a_Slip_Turn), .v (.int .i64 a_Slip_Length), .v (.int .i64 a_Slip_X), .v (.int .i64 a_Slip_Y), .n 1, .n 2]], [(0, .ro (decL eU8 r_Plan_Cells_n r_Plan_Cells_f).length eU8.sz (rowF eU8 (decL eU8 r_Plan_Cells_n r_Plan_Cells_f))), (1, .ro (decL eI a_Marks_n a_Marks_f).length eI.sz (rowF eI (decL eI a_Marks_n a_Marks_f))), (2, .ro (decL eI a_Errs_n a_Errs_f).length eI.sz (rowF eI (decL eI a_Errs_n a_Errs_f)))], .t [.a [.v (.int .i64 ((doR (⟨r_Plan_W, r_Plan_H, (decL eU8 r_Plan_Cells_n r_Plan_Cells_f), r_Bounds_Turn, r_Bounds_Length, r_Bounds_Slip, r_Bounds_Range, r_At_X, r_At_Y, r_At_H, r_Ticks, r_Bumps⟩ : RobS) (⟨a_Command_Turn, a_Command_Forward, a_Slip_Turn, a_Slip_Length, a_Slip_X, a_Slip_Y, (decL eI a_Marks_n a_Marks_f), (decL eI a_Errs_n a_Errs_f)⟩ : ActL)).W)), .v (.int .i64 ((doR (⟨r_Plan_W, r_Plan_H, (decL eU8 r_Plan_Cells_n r_Plan_Cells_f), r_Bounds_Turn, r_Bounds_Length, r_Bounds_Slip, r_Bounds_Range, r_At_X, r_At_Y, r_At_H, r_Ticks, r_Bumps⟩ : RobS) (⟨a_Command_Turn, a_Command_Forward, a_Slip_Turn, a_Slip_Length, a_Slip_X, a_Slip_Y, (decL eI a_Marks_n a_Marks_f), (decL eI a_Errs_n a_Errs_f)⟩ : ActL)).H)), .n 0, .v (.int .i64 ((doR (⟨r_Plan_W, r_Plan_H, (decL eU8 r_Plan_Cells_n r_Plan_Cells_f), r_Bounds_Turn, r_Bounds_Length, r_Bounds_Slip, r_Bounds_Range, r_At_X, r_At_Y, r_At_H, r_Ticks, r_Bumps⟩ : RobS) (⟨a_Command_Turn, a_Command_Forward, a_Slip_Turn, a_Slip_Length, a_Slip_X, a_Slip_Y, (decL eI a_Marks_n a_Marks_f), (decL eI a_Errs_n a_Errs_f)⟩ : ActL)).bT)), .v (.int .i64 ((doR (⟨r_Plan_W, r_Plan_H, (decL eU8 r_Plan_Cells_n r_Plan_Cells_f), r_Bounds_Turn, r_Bounds_Length, r_Bounds_Slip, r_Bounds_Range, r_At_X, r_At_Y, r_At_H, r_Ticks, r_Bumps⟩ : RobS) (⟨a_Command_Turn, a_Command_Forward, a_Slip_Turn, a_Slip_Length, a_Slip_X, a_Slip_Y, (decL eI a_Marks_n a_Marks_f), (decL eI a_Errs_n a_Errs_f)⟩ : ActL)).bL)), .v (.int .i64 ((doR (⟨r_Plan_W, r_Plan_H, (decL eU8 r_Plan_Cells_n r_Plan_Cells_f), r_Bounds_Turn, r_Bounds_Length, r_Bounds_Slip, r_Bounds_Range, r_At_X, r_At_Y, r_At_H, r_Ticks, r_Bumps⟩ : RobS) (⟨a_Command_Turn, a_Command_Forward, a_Slip_Turn, a_Slip_Length, a_Slip_X, a_Slip_Y, (decL eI a_Marks_n a_Marks_f), (decL eI a_Errs_n a_Errs_f)⟩ : ActL)).bS)), .v (.int .i64 ((doR (⟨r_Plan_W, r_Plan_H, (decL eU8 r_Plan_Cells_n r_Plan_Cells_f), r_Bounds_Turn, r_Bounds_Length, r_Bounds_Slip, r_Bounds_Range, r_At_X, r_At_Y, r_At_H, r_Ticks, r_Bumps⟩ : RobS) (⟨a_Command_Turn, a_Command_Forward, a_Slip_Turn, a_Slip_Length, a_Slip_X, a_Slip_Y, (decL eI a_Marks_n a_Marks_f), (decL eI a_Errs_n a_Errs_f)⟩ : ActL)).bR)), .v (.int .i64 ((doR (⟨r_Plan_W, r_Plan_H, (decL eU8 r_Plan_Cells_n r_Plan_Cells_f), r_Bounds_Turn, r_Bounds_Length, r_Bounds_Slip, r_Bounds_Range, r_At_X, r_At_Y, r_At_H, r_Ticks, r_Bumps⟩ : RobS) (⟨a_Command_Turn, a_Command_Forward, a_Slip_Turn, a_Slip_Length, a_Slip_X, a_Slip_Y, (decL eI a_Marks_n a_Marks_f), (decL eI a_Errs_n a_Errs_f)⟩ : ActL)).x)), .v (.int .i64 ((doR (⟨r_Plan_W, r_Plan_H, (decL eU8 r_Plan_Cells_n r_Plan_Cells_f), r_Bounds_Turn, r_Bounds_Length, r_Bounds_Slip, r_Bounds_Range, r_At_X, r_At_Y, r_At_H, r_Ticks, r_Bumps⟩ : RobS) (⟨a_Command_Turn, a_Command_Forward, a_Slip_Turn, a_Slip_Length, a_Slip_X, a_Slip_Y, (decL eI a_Marks_n a_Marks_f), (decL eI a_Errs_n a_Errs_f)⟩ : ActL)).y)), .v (.int .i64 ((doR (⟨r_Plan_W, r_Plan_H, (decL eU8 r_Plan_Cells_n r_Plan_Cells_f), r_Bounds_Turn, r_Bounds_Length, r_Bounds_Slip, r_Bounds_Range, r_At_X, r_At_Y, r_At_H, r_Ticks, r_Bumps⟩ : RobS) (⟨a_Command_Turn, a_Command_Forward, a_Slip_Turn, a_Slip_Length, a_Slip_X, a_Slip_Y, (decL eI a_Marks_n a_Marks_f), (decL eI a_Errs_n a_Errs_f)⟩ : ActL)).h)), .v (.int .i64 ((doR (⟨r_Plan_W, r_Plan_H, (decL eU8 r_Plan_Cells_n r_Plan_Cells_f), r_Bounds_Turn, r_Bounds_Length, r_Bounds_Slip, r_Bounds_Range, r_At_X, r_At_Y, r_At_H, r_Ticks, r_Bumps⟩ : RobS) (⟨a_Command_Turn, a_Command_Forward, a_Slip_Turn, a_Slip_Length, a_Slip_X, a_Slip_Y, (decL eI a_Marks_n a_Marks_f), (decL eI a_Errs_n a_Errs_f)⟩ : ActL)).ticks)), .v (.int .i64 ((doR (⟨r_Plan_W, r_Plan_H, (decL eU8 r_Plan_Cells_n r_Plan_Cells_f), r_Bounds_Turn, r_Bounds_Length, r_Bounds_Slip, r_Bounds_Range, r_At_X, r_At_Y, r_At_H, r_Ticks, r_Bumps⟩ : RobS) (⟨a_Command_Turn, a_Command_Forward, a_Slip_Turn, a_Slip_Length, a_Slip_X, a_Slip_Y, (decL eI a_Marks_n a_Marks_f), (decL eI a_Errs_n a_Errs_f)⟩ : ActL)).bumps))], .a [.v (.int .i64 ((doV (⟨r_Plan_W, r_Plan_H, (decL eU8 r_Plan_Cells_n r_Plan_Cells_f), r_Bounds_Turn, r_Bounds_Length, r_Bounds_Slip, r_Bounds_Range, r_At_X, r_At_Y, r_At_H, r_Ticks, r_Bumps⟩ : RobS) (⟨a_Command_Turn, a_Command_Forward, a_Slip_Turn, a_Slip_Length, a_Slip_X, a_Slip_Y, (decL eI a_Marks_n a_Marks_f), (decL eI a_Errs_n a_Errs_f)⟩ : ActL)).tick)), .v (.int .i64 ((doV (⟨r_Plan_W, r_Plan_H, (decL eU8 r_Plan_Cells_n r_Plan_Cells_f), r_Bounds_Turn, r_Bounds_Length, r_Bounds_Slip, r_Bounds_Range, r_At_X, r_At_Y, r_At_H, r_Ticks, r_Bumps⟩ : RobS) (⟨a_Command_Turn, a_Command_Forward, a_Slip_Turn, a_Slip_Length, a_Slip_X, a_Slip_Y, (decL eI a_Marks_n a_Marks_f), (decL eI a_Errs_n a_Errs_f)⟩ : ActL)).turn)), .v (.int .i64 ((doV (⟨r_Plan_W, r_Plan_H, (decL eU8 r_Plan_Cells_n r_Plan_Cells_f), r_Bounds_Turn, r_Bounds_Length, r_Bounds_Slip, r_Bounds_Range, r_At_X, r_At_Y, r_At_H, r_Ticks, r_Bumps⟩ : RobS) (⟨a_Command_Turn, a_Command_Forward, a_Slip_Turn, a_Slip_Length, a_Slip_X, a_Slip_Y, (decL eI a_Marks_n a_Marks_f), (decL eI a_Errs_n a_Errs_f)⟩ : ActL)).fwd)), .v (.bool (doV (⟨r_Plan_W, r_Plan_H, (decL eU8 r_Plan_Cells_n r_Plan_Cells_f), r_Bounds_Turn, r_Bounds_Length, r_Bounds_Slip, r_Bounds_Range, r_At_X, r_At_Y, r_At_H, r_Ticks, r_Bumps⟩ : RobS) (⟨a_Command_Turn, a_Command_Forward, a_Slip_Turn, a_Slip_Length, a_Slip_X, a_Slip_Y, (decL eI a_Marks_n a_Marks_f), (decL eI a_Errs_n a_Errs_f)⟩ : ActL)).bump), .n 3], .c (.v (.int .i64 (doE (⟨a_Command_Turn, a_Command_Forward, a_Slip_Turn, a_Slip_Length, a_Slip_X, a_Slip_Y, (decL eI a_Marks_n a_Marks_f), (decL eI a_Errs_n a_Errs_f)⟩ : ActL))))], [(3, .ro ((doV (⟨r_Plan_W, r_Plan_H, (decL eU8 r_Plan_Cells_n r_Plan_Cells_f), r_Bounds_Turn, r_Bounds_Length, r_Bounds_Slip, r_Bounds_Range, r_At_X, r_At_Y, r_At_H, r_Ticks, r_Bumps⟩ : RobS) (⟨a_Command_Turn, a_Command_Forward, a_Slip_Turn, a_Slip_Length, a_Slip_X, a_Slip_Y, (decL eI a_Marks_n a_Marks_f), (decL eI a_Errs_n a_Errs_f)⟩ : ActL)).scan).length 2 (rowF eC ((doV (⟨r_Plan_W, r_Plan_H, (decL eU8 r_Plan_Cells_n r_Plan_Cells_f), r_Bounds_Turn, r_Bounds_Length, r_Bounds_Slip, r_Bounds_Range, r_At_X, r_At_Y, r_At_H, r_Ticks, r_Bumps⟩ : RobS) (⟨a_Command_Turn, a_Command_Forward, a_Slip_Turn, a_Slip_Length, a_Slip_X, a_Slip_Y, (decL eI a_Marks_n a_Marks_f), (decL eI a_Errs_n a_Errs_f)⟩ : ActL)).scan))), (0, .ro ((decL eU8 r_Plan_Cells_n r_Plan_Cells_f)).length 1 (rowF eU8 ((decL eU8 r_Plan_Cells_n r_Plan_Cells_f)))), (1, .ro ((decL eI a_Marks_n a_Marks_f)).length 1 (rowF eI ((decL eI a_Marks_n a_Marks_f)))), (2, .ro ((decL eI a_Errs_n a_Errs_f)).length 1 (rowF eI ((decL eI a_Errs_n a_Errs_f))))], 4, rfl, rfl, by simp only [renE, Ent.ren, rowF_renf] <;> rfl, rfl, by decide, and4 (by simp only [push_cast, simprocAttr]) ⟨rfl, ⟨inE0_row h_r_Plan_Cells, inE0_row h_a_Marks, inE0_row h_a_Errs, trivial⟩, by simp only [keysNodup, outN, keys] <;> decide, rfl, .inr ⟨.inl rfl, .inl rfl, .inl rfl, trivial⟩, ?_⟩⟩
          intro hpre hlen
          obtain ⟨i_r_Plan_Cells, hpre⟩ := hpre
          obtain ⟨i_a_Marks, hpre⟩ := hpre
          obtain ⟨i_a_Errs, hpre⟩ := hpre
          refine ⟨⟨inE_row h_r_Plan_Cells i_r_Plan_Cells, inE_row h_a_Marks i_a_Marks, inE_row h_a_Errs i_a_Errs, trivial⟩, by simp only [apartE] <;> (first | trivial | (simp [Ent.mut]; done)), ?_⟩
          have z_r_Plan_Cells := lens_row (E := eU8) hlen h_r_Plan_Cells
          have z_a_Marks := lens_row (E := eI) hlen h_a_Marks
          have z_a_Errs := lens_row (E := eI) hlen h_a_Errs
          clear i_r_Plan_Cells
          generalize decL eU8 r_Plan_Cells_n r_Plan_Cells_f = r_Plan_CellsL at *
          clear i_a_Marks
          generalize decL eI a_Marks_n a_Marks_f = a_MarksL at *
          clear i_a_Errs
          generalize decL eI a_Errs_n a_Errs_f = a_ErrsL at *
          clear h_r_Plan_Cells
          clear h_a_Marks
          clear h_a_Errs
          simp (maxSteps := 9999999) only [x15, push_cast, simprocAttr, g33, g34, g35, g36]
          refine ⟨fun e => ?_, fun e => ?_⟩
          · simp only [doV_f e, doR_f e, doE, e]
            simp
          simp only [doV_t e, doR_t e, doE, e]
          refine ⟨hpre.1, fun hB => ?_, fun hB => ?_⟩
          · simp only [stX, stY, stH, stB] at hB
            refine ⟨by rfl, ?_⟩
            simp only [stX, stY, stH, stB, stO, slipO, hB, push_cast, simprocAttr, g33, g34, g35, g36]
            rw [wrapI (n := r_Ticks + 1) (by omega) (by omega), wrapI (n := r_Bumps + 1) (by omega) (by omega)]
            exact ⟨⟨rfl, rfl⟩, rfl⟩
          simp only [stX, stY, stH, stB] at hB
          refine ⟨by rfl, ?_⟩
          simp only [stX, stY, stH, stB, stO, slipO, hB, push_cast, simprocAttr, g33, g34, g35, g36]
          rw [wrapI (n := r_Ticks + 1) (by omega) (by omega)]
          exact ⟨⟨rfl, by omega⟩, rfl⟩
        · cases hg_
      · cases hg_
    · cases hg_
  · cases hg_
def g43 : Con := fun args_ E_ nn_ => match args_ with
  | [.c (.n a), .c (.n b)] => (match rowOf E_ a with
    | some (a_n, a_s, a_f) => (match rowOf E_ b with
    | some (b_n, b_s, b_f) => some (.q (isRow eC a_n a_s a_f ∧ isRow eC b_n b_s b_f ∧ True) (.o (.c (.v (.bool (decide ((decL eC a_n a_f) = (decL eC b_n b_f))))))))
    | none => none)
    | none => none)
  | _ => none
theorem c43 : COk Tryz.prog 43 g43 := by
  refine cok_q Tryz.func43 x43_ok (by kernel_rfl) (cok_tab cok_nil) ?_
  intro args_ E_ nn_ cr_ hg_
  unfold g43 at hg_
  split at hg_
  · rename_i a b
    split at hg_
    · rename_i a_n a_s a_f h_a
      split at hg_
      · rename_i b_n b_s b_f h_b
        cases hg_
        refine ⟨_, _, rfl, 2, [a, b], [.c (.n 0), .c (.n 1)], [(0, .ro (decL eC a_n a_f).length eC.sz (rowF eC (decL eC a_n a_f))), (1, .ro (decL eC b_n b_f).length eC.sz (rowF eC (decL eC b_n b_f)))], .o (.c (.v (.bool (decide ((decL eC a_n a_f) = (decL eC b_n b_f)))))), rfl, rfl, and3 (by simp only [push_cast, simprocAttr]) ⟨rfl, ⟨inE0_row h_a, inE0_row h_b, trivial⟩, rfl, ?_⟩⟩
        intro hpre hlen
        obtain ⟨i_a, hpre⟩ := hpre
        obtain ⟨i_b, hpre⟩ := hpre
        refine ⟨⟨inE_row h_a i_a, inE_row h_b i_b, trivial⟩, ?_⟩
        have z_a := lens_row (E := eC) hlen h_a
        have z_b := lens_row (E := eC) hlen h_b
        clear i_a
        generalize decL eC a_n a_f = aL at *
        clear i_b
        generalize decL eC b_n b_f = bL at *
        clear h_a
        clear h_b
        simp (maxSteps := 9999999) only [x43, push_cast, simprocAttr]
        refine ⟨fun h => ?_, fun h => ?_⟩
        · symm; rw [decide_eq_false_iff_not]; intro e; exact h (by rw [e])
        refine vcLoop_upd (α := {k : Nat // k ≤ aL.length ∧ ∀ i, i < k → aL.getD i eC.dflt = bL.getD i eC.dflt}) [0, 1] 0 (fun s => [(5, .o (.c (.v (.int .i64 (s.1 : Nat)))))]) (fun s => []) (fun s => aL.length - s.1) ⟨0, by omega, fun i hi => by omega⟩ ?_ ?_
        · simp only [push_cast, simprocAttr]
        · rintro ⟨k, hk, hall⟩
          simp only [x43L0, push_cast, simprocAttr]
          refine ⟨fun hlt => ⟨hlt, hlt, by omega, by omega, fun hne => ?_, fun hx hy => ⟨⟨k + 1, by omega, fun i hi => ?_⟩, ?_, by simp only; omega⟩⟩, fun hge => ?_⟩
          · symm; rw [decide_eq_false_iff_not]; intro e; rw [e] at hne; simp at hne
          · by_cases hik : i = k
            · subst hik; rw [← decide_eq_true_eq (p := aL.getD i eC.dflt = bL.getD i eC.dflt), ← cc_eq, hx, hy]; simp
            · exact hall i (by omega)
          · rw [wrapI (by omega) (by omega)]; rfl
          · symm; rw [decide_eq_true_eq]; exact getD_ext eC.dflt (by omega) (fun i hi => hall i (by omega))
      · cases hg_
    · cases hg_
  · cases hg_
def g17 : Con := fun args_ E_ nn_ => match args_ with
  | [.a [.v (.int .i64 a_Tick), .v (.int .i64 a_Command_Turn), .v (.int .i64 a_Command_Forward), .v (.bool a_Bump), .n a_Scan], .a [.v (.int .i64 b_Tick), .v (.int .i64 b_Command_Turn), .v (.int .i64 b_Command_Forward), .v (.bool b_Bump), .n b_Scan]] => (match rowOf E_ a_Scan with
    | some (a_Scan_n, a_Scan_s, a_Scan_f) => (match rowOf E_ b_Scan with
    | some (b_Scan_n, b_Scan_s, b_Scan_f) => some (.q (isRow eC a_Scan_n a_Scan_s a_Scan_f ∧ isRow eC b_Scan_n b_Scan_s b_Scan_f ∧ True) (.o (.c (.v (.bool (decide ((⟨a_Tick, a_Command_Turn, a_Command_Forward, a_Bump, (decL eC a_Scan_n a_Scan_f)⟩ : EvtL) = (⟨b_Tick, b_Command_Turn, b_Command_Forward, b_Bump, (decL eC b_Scan_n b_Scan_f)⟩ : EvtL))))))))
    | none => none)
    | none => none)
  | _ => none
theorem c17 : COk Tryz.prog 17 g17 := by
  refine cok_q Tryz.func17 x17_ok (by kernel_rfl) (cok_tab (cok_cons c43 cok_nil)) ?_
  intro args_ E_ nn_ cr_ hg_
  unfold g17 at hg_
  split at hg_
  · rename_i a_Tick a_Command_Turn a_Command_Forward a_Bump a_Scan b_Tick b_Command_Turn b_Command_Forward b_Bump b_Scan
    split at hg_
    · rename_i a_Scan_n a_Scan_s a_Scan_f h_a_Scan
      split at hg_
      · rename_i b_Scan_n b_Scan_s b_Scan_f h_b_Scan
        cases hg_
        refine ⟨_, _, rfl, 2, [a_Scan, b_Scan], [.a [.v (.int .i64 a_Tick), .v (.int .i64 a_Command_Turn), .v (.int .i64 a_Command_Forward), .v (.bool a_Bump), .n 0], .a [.v (.int .i64 b_Tick), .v (.int .i64 b_Command_Turn), .v (.int .i64 b_Command_Forward), .v (.bool b_Bump), .n 1]], [(0, .ro (decL eC a_Scan_n a_Scan_f).length eC.sz (rowF eC (decL eC a_Scan_n a_Scan_f))), (1, .ro (decL eC b_Scan_n b_Scan_f).length eC.sz (rowF eC (decL eC b_Scan_n b_Scan_f)))], .o (.c (.v (.bool (decide ((⟨a_Tick, a_Command_Turn, a_Command_Forward, a_Bump, (decL eC a_Scan_n a_Scan_f)⟩ : EvtL) = (⟨b_Tick, b_Command_Turn, b_Command_Forward, b_Bump, (decL eC b_Scan_n b_Scan_f)⟩ : EvtL)))))), rfl, rfl, and3 (by simp only [push_cast, simprocAttr]) ⟨rfl, ⟨inE0_row h_a_Scan, inE0_row h_b_Scan, trivial⟩, rfl, ?_⟩⟩
        intro hpre hlen
        obtain ⟨i_a_Scan, hpre⟩ := hpre
        obtain ⟨i_b_Scan, hpre⟩ := hpre
        refine ⟨⟨inE_row h_a_Scan i_a_Scan, inE_row h_b_Scan i_b_Scan, trivial⟩, ?_⟩
        have z_a_Scan := lens_row (E := eC) hlen h_a_Scan
        have z_b_Scan := lens_row (E := eC) hlen h_b_Scan
        clear i_a_Scan
        generalize decL eC a_Scan_n a_Scan_f = a_ScanL at *
        clear i_b_Scan
        generalize decL eC b_Scan_n b_Scan_f = b_ScanL at *
        clear h_a_Scan
        clear h_b_Scan
        simp (maxSteps := 9999999) only [x17, push_cast, simprocAttr, g43]
        rw [Bool.eq_iff_iff]
        simp
        simp only [and_assoc]
      · cases hg_
    · cases hg_
  · cases hg_
end Go.Proofs.YtiijdbpncpdmdaaGreat
