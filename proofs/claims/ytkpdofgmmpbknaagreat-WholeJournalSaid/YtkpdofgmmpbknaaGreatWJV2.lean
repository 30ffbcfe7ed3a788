/- A part of the proof of a statement about this seat: how a function is stepped through, and plain laws. No conditions. -/
import Derived.Test.YtkpdofgmmpbknaaGreatRows
import Derived.Test.YtkpdofgmmpbknaaGreatWJSz4
import Derived.Test.YtkpdofgmmpbknaaGreatWJP1
import Derived.Test.YtkpdofgmmpbknaaGreatWJV1
import Derived.KernelRfl
set_option linter.unusedVariables false
set_option linter.unusedSimpArgs false
set_option maxRecDepth 20000
namespace Go.Proofs.YtkpdofgmmpbknaaGreat
open Go.Sx Go.Way
def x63 : XFn := ⟨8, (.seq (.reg false [O1 1 (.box 28) 0, ⟨(some 2), (.alloc 89 [(iV 0), (iV 0)]), [], none⟩]) (.seq (.reg false [O1 3 (.fld 0) 1, O1 4 .load1 3, O1 5 (.fld 1) 1, O1 6 .load1 5, ⟨(some 7), (.build [(iV 0), (iV 0)] [(0, 1), (1, 1)]), [(.t 4), (.t 6)], none⟩, ⟨none, (.store 2), [(.t 2), (.t 7)], none⟩]) .ret)), [(.bn 2 2)]⟩
theorem x63_ok : xfn Tryz.prog Tryz.f63 = some x63.er := by kernel_rfl
def x34 : XFn := ⟨11, (.seq (.reg false [O1 1 (.box 28) 0, K1 2 .mv (.bool false)]) (.seq (.reg false [O1 3 (.loadN 3) 1, O1 4 (.call 63) 3, O1 5 (.call 62) 4, O1 6 .mv 5, G1 7 (.fld 2) 1 6 true, G1 8 .load1 7 6 true, ⟨(some 9), (.call 47), [(.t 8), (.k (iV 0)), (.k (iV 255))], (some (6, true))⟩, ⟨(some 10), .pick, [(.t 6), (.t 9), (.k (.bool false))], none⟩, O1 2 .mv 10]) .ret)), [(.s 2)]⟩
theorem x34_ok : xfn Tryz.prog Tryz.f34 = some x34.er := by kernel_rfl
def x24 : XFn := ⟨11, (.seq (.reg false [O1 1 (.box 45) 0, K1 2 .mv (.bool false)]) (.seq (.reg false [O1 3 (.fld 0) 1, O1 4 .load1 3, K2 5 (.call 35) 4 (iV 32), O1 6 .mv 5, G1 7 (.fld 1) 1 6 true, G1 8 .load1 7 6 true, ⟨(some 9), (.call 47), [(.t 8), (.k (iV 0)), (.k (iV 32))], (some (6, true))⟩, ⟨(some 10), .pick, [(.t 6), (.t 9), (.k (.bool false))], none⟩, O1 2 .mv 10]) .ret)), [(.s 2)]⟩
theorem x24_ok : xfn Tryz.prog Tryz.f24 = some x24.er := by kernel_rfl
def x33 : XFn := ⟨21, (.seq (.reg false [O1 1 (.box 26) 0, K1 2 .mv (.bool false)]) (.seq (.reg false [O1 3 (.fld 0) 1, O1 4 .load1 3, ⟨(some 5), (.call 47), [(.t 4), (.k (iV 0)), (.k (iV 8))], none⟩, O1 6 .mv 5, G1 7 (.fld 1) 1 6 true, G1 8 .load1 7 6 true, ⟨(some 9), (.call 47), [(.t 8), (.k (iV 0)), (.k (iV 16))], (some (6, true))⟩, ⟨(some 10), .pick, [(.t 6), (.t 9), (.k (.bool false))], none⟩, O1 11 .mv 10, G1 12 (.fld 2) 1 11 true, G1 13 .load1 12 11 true, ⟨(some 14), (.call 47), [(.t 13), (.k (iV 0)), (.k (iV 8))], (some (11, true))⟩, ⟨(some 15), .pick, [(.t 11), (.t 14), (.k (.bool false))], none⟩, O1 16 .mv 15, G1 17 (.fld 3) 1 16 true, G1 18 .load1 17 16 true, ⟨(some 19), (.call 47), [(.t 18), (.k (iV 1)), (.k (iV 32))], (some (16, true))⟩, ⟨(some 20), .pick, [(.t 16), (.t 19), (.k (.bool false))], none⟩, O1 2 .mv 20]) .ret)), [(.s 2)]⟩
theorem x33_ok : xfn Tryz.prog Tryz.f33 = some x33.er := by kernel_rfl
def x37 : XFn := ⟨7, (.seq (.reg false [K1 2 .mv (iV 0)]) (.seq (.reg false [O1 3 .mv 0, K2 4 (.bin .rem) 3 (iV 256), K2 5 (.bin .add) 4 (iV 256), K2 6 (.bin .rem) 5 (iV 256), O1 2 .mv 6]) .ret)), [(.s 2)]⟩
theorem x37_ok : xfn Tryz.prog Tryz.f37 = some x37.er := by kernel_rfl
def x38 : XFn := ⟨26, (.seq (.reg false [⟨(some 4), (.alloc 89 [(iV 0), (iV 0)]), [], none⟩]) (.seq (.reg false [O1 7 .mv 0, O1 8 (.call 65) 7, O1 9 .mv 1, ⟨(some 10), .maxI, [(.k (iV 0)), (.t 9)], none⟩, ⟨(some 5), (.alloc 124 [(iV 0), (iV 0), (iV 0)]), [], none⟩, ⟨none, (.store 3), [(.t 5), (.t 8)], none⟩, O1 6 .mv 10]) (.seq (.regD [O1 11 .mv 6, O1 12 (.fld 0) 5, O1 13 .load1 12, O2 14 (.bin .mul) 11 13, O1 15 (.fld 2) 5, O1 16 .load1 15, O2 17 (.call 66) 14 16, O1 18 .mv 6, O1 19 (.fld 1) 5, O1 20 .load1 19, O2 21 (.bin .mul) 18 20, O1 22 (.fld 2) 5, O1 23 .load1 22, O2 24 (.call 66) 21 23, ⟨(some 25), (.build [(iV 0), (iV 0)] [(0, 1), (1, 1)]), [(.t 17), (.t 24)], none⟩, ⟨none, (.store 2), [(.t 4), (.t 25)], none⟩] [[], [], [1], [0, 2, 1], [], [4], [3, 0, 2, 1, 5, 4], [], [], [8], [7, 9, 8], [], [11], [10, 7, 9, 8, 12, 11, 6, 3, 0, 2, 1, 5, 4], [6, 3, 0, 2, 1, 5, 4, 13, 10, 7, 9, 8, 12, 11], [14, 6, 3, 0, 2, 1, 5, 4, 13, 10, 7, 9, 8, 12, 11]]) .ret))), [(.bn 4 2)]⟩
theorem x38_ok : xfn Tryz.prog Tryz.f38 = some x38.er := by kernel_rfl
def x78 : XFn := ⟨87, (.seq (.reg false [O1 3 (.box 28) 0, O1 4 (.box 45) 1, O1 5 (.box 62) 2, ⟨(some 6), (.alloc 28 [(iV 0), (iV 0), (iV 0)]), [], none⟩, K1 7 .mv (iV 0)]) (.seq (.seq (.reg false [O1 9 (.loadN 3) 3, O1 10 (.call 34) 9, O1 11 (.un .not) 10, O1 12 .mv 11, G1 13 (.loadN 2) 4 12 false, G1 14 (.call 24) 13 12 false, G1 15 (.un .not) 14 12 false, ⟨(some 16), .pick, [(.t 12), (.k (.bool true)), (.t 15)], none⟩]) (.cond (.t 16) (.seq (.reg false [⟨(some 17), (.build [(iV 0), (iV 0), (iV 0)] []), [], none⟩, ⟨none, (.store 3), [(.t 6), (.t 17)], none⟩, K1 7 .mv (iV 1)]) .ret) .skip)) (.seq (.seq (.reg false [O1 18 (.fld 0) 5, O1 19 .load1 18, K2 20 (.call 35) 19 (iV 64), O1 21 (.un .not) 20, O1 22 .mv 21, G1 23 (.fld 1) 5 22 false, G1 24 .load1 23 22 false, GK 25 (.call 35) 24 (iV 64) 22 false, G1 26 (.un .not) 25 22 false, ⟨(some 27), .pick, [(.t 22), (.k (.bool true)), (.t 26)], none⟩, O1 28 .mv 27, G1 29 (.fld 2) 5 28 false, G1 30 .load1 29 28 false, GK 31 (.call 35) 30 (iV 64) 28 false, G1 32 (.un .not) 31 28 false, ⟨(some 33), .pick, [(.t 28), (.k (.bool true)), (.t 32)], none⟩, O1 34 .mv 33, G1 35 (.fld 3) 5 34 false, G1 36 .load1 35 34 false, GK 37 (.call 35) 36 (iV 64) 34 false, G1 38 (.un .not) 37 34 false, ⟨(some 39), .pick, [(.t 34), (.k (.bool true)), (.t 38)], none⟩]) (.cond (.t 39) (.seq (.reg false [⟨(some 40), (.build [(iV 0), (iV 0), (iV 0)] []), [], none⟩, ⟨none, (.store 3), [(.t 6), (.t 40)], none⟩, K1 7 .mv (iV 2)]) .ret) .skip)) (.seq (.reg false [O1 41 (.fld 2) 3, O1 42 .load1 41, O1 43 (.fld 0) 4, O1 44 .load1 43, O2 45 (.bin .add) 42 44, O1 46 (.fld 0) 5, O1 47 .load1 46, O2 48 (.bin .add) 45 47, O1 49 (.call 37) 48, O1 50 (.fld 2) 3, ⟨none, (.store 1), [(.t 50), (.t 49)], none⟩]) (.seq (.seq (.reg false [O1 51 (.fld 1) 4, O1 52 .load1 51, K2 53 (.bin .eql) 52 (iV 0)]) (.cond (.t 53) (.seq (.reg false [O1 54 (.loadN 3) 3, ⟨none, (.store 3), [(.t 6), (.t 54)], none⟩, K1 7 .mv (iV 0)]) .ret) .skip)) (.seq (.reg false [O1 55 (.fld 2) 3, O1 56 .load1 55, O1 57 (.fld 1) 4, O1 58 .load1 57, O1 59 (.fld 1) 5, O1 60 .load1 59, O2 61 (.bin .add) 58 60, O2 62 (.call 38) 56 61, ⟨(some 8), (.alloc 89 [(iV 0), (iV 0)]), [], none⟩, ⟨none, (.store 2), [(.t 8), (.t 62)], none⟩]) (.seq (.reg false [O1 63 (.fld 0) 3, O1 64 .load1 63, O1 65 (.fld 0) 8, O1 66 .load1 65, O1 67 (.fld 2) 5, O1 68 .load1 67, O2 69 (.bin .add) 66 68, O2 70 (.bin .add) 64 69, O1 71 (.fld 0) 3, ⟨none, (.store 1), [(.t 71), (.t 70)], none⟩]) (.seq (.reg false [O1 72 (.fld 1) 3, O1 73 .load1 72, O1 74 (.fld 1) 8, O1 75 .load1 74, O1 76 (.fld 3) 5, O1 77 .load1 76, O2 78 (.bin .add) 75 77, O2 79 (.bin .add) 73 78, O1 80 (.fld 1) 3, ⟨none, (.store 1), [(.t 80), (.t 79)], none⟩]) (.seq (.seq (.reg false [O1 81 (.loadN 3) 3, O1 82 (.call 63) 81, O1 83 (.call 62) 82, O1 84 (.un .not) 83]) (.cond (.t 84) (.seq (.reg false [⟨(some 85), (.build [(iV 0), (iV 0), (iV 0)] []), [], none⟩, ⟨none, (.store 3), [(.t 6), (.t 85)], none⟩, K1 7 .mv (iV 2)]) .ret) .skip)) (.seq (.reg false [O1 86 (.loadN 3) 3, ⟨none, (.store 3), [(.t 6), (.t 86)], none⟩, K1 7 .mv (iV 0)]) .ret)))))))))), [(.bn 6 3), (.s 7)]⟩
theorem x78_ok : xfn Tryz.prog Tryz.f78 = some x78.er := by kernel_rfl
def x76 : XFn := ⟨11, (.seq (.reg false [K1 4 .mv (iV 0)]) (.seq (.reg false [O1 5 .mv 1, O1 6 (.un .neg) 5, O1 7 .mv 0, O1 8 .mv 1, O2 9 .minI 7 8, O2 10 .maxI 6 9, O1 4 .mv 10]) .ret)), [(.s 4)]⟩
theorem x76_ok : xfn Tryz.prog Tryz.f76 = some x76.er := by kernel_rfl
def x44 : XFn := ⟨36, (.seq (.reg false [O1 2 (.box 26) 0, O1 3 (.box 62) 1, ⟨(some 4), (.alloc 62 [(iV 0), (iV 0), (iV 0), (iV 0)]), [], none⟩, K1 5 .mv (iV 0)]) (.seq (.seq (.reg false [O1 7 (.loadN 4) 2, O1 8 (.call 33) 7, O1 9 (.un .not) 8]) (.cond (.t 9) (.seq (.reg false [⟨(some 10), (.build [(iV 0), (iV 0), (iV 0), (iV 0)] []), [], none⟩, ⟨none, (.store 4), [(.t 4), (.t 10)], none⟩, K1 5 .mv (iV 1)]) .ret) .skip)) (.seq (.reg false [⟨(some 6), .mv, [(.k (.func (.func 76) #[] #[]))], none⟩]) (.seq (.regD [O1 11 .mv 6, O1 12 (.fld 0) 3, O1 13 .load1 12, O1 14 (.fld 0) 2, O1 15 .load1 14, ⟨(some 16), .callv, [(.t 11), (.t 13), (.t 15)], none⟩, O1 17 .mv 6, O1 18 (.fld 1) 3, O1 19 .load1 18, O1 20 (.fld 1) 2, O1 21 .load1 20, ⟨(some 22), .callv, [(.t 17), (.t 19), (.t 21)], none⟩, O1 23 .mv 6, O1 24 (.fld 2) 3, O1 25 .load1 24, O1 26 (.fld 2) 2, O1 27 .load1 26, ⟨(some 28), .callv, [(.t 23), (.t 25), (.t 27)], none⟩, O1 29 .mv 6, O1 30 (.fld 3) 3, O1 31 .load1 30, O1 32 (.fld 2) 2, O1 33 .load1 32, ⟨(some 34), .callv, [(.t 29), (.t 31), (.t 33)], none⟩, ⟨(some 35), (.build [(iV 0), (iV 0), (iV 0), (iV 0)] [(0, 1), (1, 1), (2, 1), (3, 1)]), [(.t 16), (.t 22), (.t 28), (.t 34)], none⟩, ⟨none, (.store 4), [(.t 4), (.t 35)], none⟩, K1 5 .mv (iV 0)] [[], [], [1], [], [3], [0, 2, 1, 4, 3], [], [], [7], [], [9], [6, 8, 7, 10, 9, 5, 0, 2, 1, 4, 3], [], [], [13], [], [15], [12, 14, 13, 16, 15, 11, 6, 8, 7, 10, 9, 5, 0, 2, 1, 4, 3], [], [], [19], [], [21], [18, 20, 19, 22, 21, 17, 12, 14, 13, 16, 15, 11, 6, 8, 7, 10, 9, 5, 0, 2, 1, 4, 3], [5, 0, 2, 1, 4, 3, 11, 6, 8, 7, 10, 9, 17, 12, 14, 13, 16, 15, 23, 18, 20, 19, 22, 21], [24, 5, 0, 2, 1, 4, 3, 11, 6, 8, 7, 10, 9, 17, 12, 14, 13, 16, 15, 23, 18, 20, 19, 22, 21], [25, 24, 5, 0, 2, 1, 4, 3, 11, 6, 8, 7, 10, 9, 17, 12, 14, 13, 16, 15, 23, 18, 20, 19, 22, 21]]) .ret)))), [(.bn 4 4), (.s 5)]⟩
theorem x44_ok : xfn Tryz.prog Tryz.f44 = some x44.er := by kernel_rfl
def x17L0 : XC := (.seq (.seq (.reg false [O1 71 .mv 13, O1 72 (.fld 1) 5, O1 73 .load1 72, O2 74 (.bin .leq) 71 73]) (.cond (.t 74) .skip (.exit 0))) (.seq (.block 1 (.seq (.reg false [O1 77 (.fld 2) 8, O1 78 .load1 77, O1 79 (.fld 1) 7, O1 80 .load1 79, O1 81 .mv 13, O2 82 (.bin .add) 80 81, O2 83 (.call 38) 78 82, ⟨(some 14), (.alloc 89 [(iV 0), (iV 0)]), [], none⟩, ⟨none, (.store 2), [(.t 14), (.t 83)], none⟩]) (.seq (.reg false [O1 84 .mv 11, O1 85 (.fld 0) 14, O1 86 .load1 85, O2 87 (.bin .sub) 84 86, O1 88 (.fld 2) 5, O1 89 .load1 88, O2 90 (.call 35) 87 89, O1 91 .mv 90, G1 92 .mv 12 91 true, G1 93 (.fld 1) 14 91 true, G1 94 .load1 93 91 true, G2 95 (.bin .sub) 92 94 91 true, G1 96 (.fld 2) 5 91 true, G1 97 .load1 96 91 true, G2 98 (.call 35) 95 97 91 true, ⟨(some 99), .pick, [(.t 91), (.t 98), (.k (.bool false))], none⟩]) (.cond (.t 99) (.seq (.reg false [K1 10 .mv (.bool true)]) .ret) .skip)))) (.reg false [O1 75 .mv 13, K2 76 (.bin .add) 75 (iV 1), O1 13 .mv 76])))
def x17 : XFn := ⟨100, (.seq (.reg false [O1 5 (.box 26) 0, O1 6 (.box 28) 1, O1 7 (.box 45) 2, O1 8 (.box 28) 3, K1 10 .mv (.bool false)]) (.seq (.seq (.reg false [O1 15 (.loadN 4) 5, O1 16 (.call 33) 15, O1 17 (.un .not) 16, O1 18 .mv 17, G1 19 (.loadN 3) 6 18 false, G1 20 (.call 34) 19 18 false, G1 21 (.un .not) 20 18 false, ⟨(some 22), .pick, [(.t 18), (.k (.bool true)), (.t 21)], none⟩, O1 23 .mv 22, G1 24 (.loadN 2) 7 23 false, G1 25 (.call 24) 24 23 false, G1 26 (.un .not) 25 23 false, ⟨(some 27), .pick, [(.t 23), (.k (.bool true)), (.t 26)], none⟩, O1 28 .mv 27, G1 29 (.loadN 3) 8 28 false, G1 30 (.call 34) 29 28 false, G1 31 (.un .not) 30 28 false, ⟨(some 32), .pick, [(.t 28), (.k (.bool true)), (.t 31)], none⟩]) (.cond (.t 32) (.seq (.reg false [K1 10 .mv (.bool false)]) .ret) .skip)) (.seq (.seq (.reg true [O1 33 (.fld 2) 6, O1 34 .load1 33, O1 35 (.fld 0) 7, O1 36 .load1 35, O2 37 (.bin .add) 34 36, O1 38 (.call 37) 37, O1 39 (.fld 2) 8, O1 40 .load1 39, O2 41 (.call 36) 38 40, O1 42 (.fld 0) 5, O1 43 .load1 42, O2 44 (.call 35) 41 43, O1 45 (.un .not) 44]) (.cond (.t 45) (.seq (.reg false [K1 10 .mv (.bool false)]) .ret) .skip)) (.seq (.reg true [O1 46 (.fld 0) 8, O1 47 .load1 46, O1 48 (.fld 0) 6, O1 49 .load1 48, O2 50 (.bin .sub) 47 49, O1 51 (.fld 1) 8, O1 52 .load1 51, O1 53 (.fld 1) 6, O1 54 .load1 53, O2 55 (.bin .sub) 52 54, O1 11 .mv 50, O1 12 .mv 55]) (.seq (.seq (.reg false [O1 56 .mv 4, O1 57 .mv 56, G1 58 (.fld 1) 7 57 false, G1 59 .load1 58 57 false, GK 60 (.bin .eql) 59 (iV 0) 57 false, ⟨(some 61), .pick, [(.t 57), (.k (.bool true)), (.t 60)], none⟩]) (.cond (.t 61) (.seq (.reg false [O1 62 .mv 11, K2 63 (.bin .eql) 62 (iV 0), O1 64 .mv 63, G1 65 .mv 12 64 true, GK 66 (.bin .eql) 65 (iV 0) 64 true, ⟨(some 67), .pick, [(.t 64), (.t 66), (.k (.bool false))], none⟩, O1 10 .mv 67]) .ret) .skip)) (.seq (.seq (.reg false [O1 68 (.fld 1) 5, O1 69 .load1 68, O1 70 (.un .neg) 69, O1 13 .mv 70]) (.block 0 (.loop x17L0))) (.seq (.reg false [K1 10 .mv (.bool false)]) .ret))))))), [(.s 10)]⟩
theorem x17_ok : xfn Tryz.prog Tryz.f17 = some x17.er := by kernel_rfl
def x36 : XFn := ⟨15, (.seq (.reg false [K1 4 .mv (iV 0)]) (.seq (.reg false [O1 6 .mv 1, O1 7 .mv 0, O2 8 (.bin .sub) 6 7, O1 9 (.call 64) 8, O1 5 .mv 9]) (.seq (.seq (.reg false [O1 10 .mv 5, K2 11 (.bin .geq) 10 (iV 128)]) (.cond (.t 11) (.reg false [O1 12 .mv 5, K2 13 (.bin .sub) 12 (iV 256), O1 5 .mv 13]) .skip)) (.seq (.reg false [O1 14 .mv 5, O1 4 .mv 14]) .ret)))), [(.s 4)]⟩
theorem x36_ok : xfn Tryz.prog Tryz.f36 = some x36.er := by kernel_rfl
def g63 : Con := fun args_ E_ nn_ => match args_ with
  | [.a [.v (.int .i64 p_X), .v (.int .i64 p_Y), .v (.int .i64 p_H)]] => some (.q (True) (.o (.a [.v (.int .i64 (p_X)), .v (.int .i64 (p_Y))])))
  | _ => none
theorem c63 : COk Tryz.prog 63 g63 := by
  refine cok_q Tryz.func63 x63_ok (by kernel_rfl) (cok_tab cok_nil) ?_
  intro args_ E_ nn_ cr_ hg_
  unfold g63 at hg_
  split at hg_
  · rename_i p_X p_Y p_H
    cases hg_
    refine ⟨_, _, rfl, 0, [], [.a [.v (.int .i64 p_X), .v (.int .i64 p_Y), .v (.int .i64 p_H)]], [], .o (.a [.v (.int .i64 (p_X)), .v (.int .i64 (p_Y))]), rfl, rfl, and3 (by simp only [push_cast, Nat.reduceLT, Nat.reduceAdd]) ⟨rfl, trivial, rfl, ?_⟩⟩
    intro hpre hlen
    refine ⟨trivial, ?_⟩
    simp (maxSteps := 9999999) only [x63, push_cast, simprocAttr]
  · cases hg_
def g34 : Con := fun args_ E_ nn_ => match args_ with
  | [.a [.v (.int .i64 p_X), .v (.int .i64 p_Y), .v (.int .i64 p_H)]] => some (.q (True) (.o (.c (.v (.bool (decide (((-1048576 ≤ p_X ∧ p_X ≤ 1048576) ∧ -1048576 ≤ p_Y ∧ p_Y ≤ 1048576) ∧ 0 ≤ p_H ∧ p_H ≤ 255)))))))
  | _ => none
theorem c34 : COk Tryz.prog 34 g34 := by
  refine cok_q Tryz.func34 x34_ok (by kernel_rfl) (cok_tab (cok_cons c62 (cok_cons c63 (cok_cons c47 cok_nil)))) ?_
  intro args_ E_ nn_ cr_ hg_
  unfold g34 at hg_
  split at hg_
  · rename_i p_X p_Y p_H
    cases hg_
    refine ⟨_, _, rfl, 0, [], [.a [.v (.int .i64 p_X), .v (.int .i64 p_Y), .v (.int .i64 p_H)]], [], .o (.c (.v (.bool (decide (((-1048576 ≤ p_X ∧ p_X ≤ 1048576) ∧ -1048576 ≤ p_Y ∧ p_Y ≤ 1048576) ∧ 0 ≤ p_H ∧ p_H ≤ 255))))), rfl, rfl, and3 (by simp only [push_cast, Nat.reduceLT, Nat.reduceAdd]) ⟨rfl, trivial, rfl, ?_⟩⟩
    intro hpre hlen
    refine ⟨trivial, ?_⟩
    simp (maxSteps := 9999999) only [x34, push_cast, simprocAttr, g62, g63, g47]
    rw [Bool.eq_iff_iff]
    simp []
    try omega
  · cases hg_
def g24 : Con := fun args_ E_ nn_ => match args_ with
  | [.a [.v (.int .i64 c_Turn), .v (.int .i64 c_Forward)]] => some (.q (True) (.o (.c (.v (.bool (decide ((-32 ≤ c_Turn ∧ c_Turn ≤ 32) ∧ 0 ≤ c_Forward ∧ c_Forward ≤ 32)))))))
  | _ => none
theorem c24 : COk Tryz.prog 24 g24 := by
  refine cok_q Tryz.func24 x24_ok (by kernel_rfl) (cok_tab (cok_cons c35 (cok_cons c47 cok_nil))) ?_
  intro args_ E_ nn_ cr_ hg_
  unfold g24 at hg_
  split at hg_
  · rename_i c_Turn c_Forward
    cases hg_
    refine ⟨_, _, rfl, 0, [], [.a [.v (.int .i64 c_Turn), .v (.int .i64 c_Forward)]], [], .o (.c (.v (.bool (decide ((-32 ≤ c_Turn ∧ c_Turn ≤ 32) ∧ 0 ≤ c_Forward ∧ c_Forward ≤ 32))))), rfl, rfl, and3 (by simp only [push_cast, Nat.reduceLT, Nat.reduceAdd]) ⟨rfl, trivial, rfl, ?_⟩⟩
    intro hpre hlen
    refine ⟨trivial, ?_⟩
    simp (maxSteps := 9999999) only [x24, push_cast, simprocAttr, g35, g47]
    rw [Bool.eq_iff_iff]
    simp []
    try omega
  · cases hg_
def g33 : Con := fun args_ E_ nn_ => match args_ with
  | [.a [.v (.int .i64 b_Turn), .v (.int .i64 b_Length), .v (.int .i64 b_Slip), .v (.int .i64 b_Range)]] => some (.q (True) (.o (.c (.v (.bool (decide ((0 ≤ b_Turn ∧ b_Turn ≤ 8) ∧ (0 ≤ b_Length ∧ b_Length ≤ 16) ∧ (0 ≤ b_Slip ∧ b_Slip ≤ 8) ∧ 1 ≤ b_Range ∧ b_Range ≤ 32)))))))
  | _ => none
theorem c33 : COk Tryz.prog 33 g33 := by
  refine cok_q Tryz.func33 x33_ok (by kernel_rfl) (cok_tab (cok_cons c47 cok_nil)) ?_
  intro args_ E_ nn_ cr_ hg_
  unfold g33 at hg_
  split at hg_
  · rename_i b_Turn b_Length b_Slip b_Range
    cases hg_
    refine ⟨_, _, rfl, 0, [], [.a [.v (.int .i64 b_Turn), .v (.int .i64 b_Length), .v (.int .i64 b_Slip), .v (.int .i64 b_Range)]], [], .o (.c (.v (.bool (decide ((0 ≤ b_Turn ∧ b_Turn ≤ 8) ∧ (0 ≤ b_Length ∧ b_Length ≤ 16) ∧ (0 ≤ b_Slip ∧ b_Slip ≤ 8) ∧ 1 ≤ b_Range ∧ b_Range ≤ 32))))), rfl, rfl, and3 (by simp only [push_cast, Nat.reduceLT, Nat.reduceAdd]) ⟨rfl, trivial, rfl, ?_⟩⟩
    intro hpre hlen
    refine ⟨trivial, ?_⟩
    simp (maxSteps := 9999999) only [x33, push_cast, simprocAttr, g47]
    rw [Bool.eq_iff_iff]
    simp []
    try omega
  · cases hg_
def g37 : Con := fun args_ E_ nn_ => match args_ with
  | [.c (.v (.int .i64 h))] => some (.q (-1000000 ≤ h ∧ h ≤ 1000000) (.o (.c (.v (.int .i64 (h % 256))))))
  | _ => none
theorem c37 : COk Tryz.prog 37 g37 := by
  refine cok_q Tryz.func37 x37_ok (by kernel_rfl) (cok_tab cok_nil) ?_
  intro args_ E_ nn_ cr_ hg_
  unfold g37 at hg_
  split at hg_
  · rename_i h
    cases hg_
    refine ⟨_, _, rfl, 0, [], [.c (.v (.int .i64 h))], [], .o (.c (.v (.int .i64 (h % 256)))), rfl, rfl, and3 (by simp only [push_cast, Nat.reduceLT, Nat.reduceAdd]) ⟨rfl, trivial, rfl, ?_⟩⟩
    intro hpre hlen
    refine ⟨trivial, ?_⟩
    simp (maxSteps := 9999999) only [x37, push_cast, simprocAttr]
    have e := Int.tmod_add_mul_tdiv h 256
    have h1 : -256 < h.tmod 256 ∧ h.tmod 256 < 256 := by rw [tmod_lit h 256 (by omega)]; split <;> omega
    rw [wrapI (by omega) (by omega), tmod_pos (by omega)]
    omega
  · cases hg_
def g38 : Con := fun args_ E_ nn_ => match args_ with
  | [.c (.v (.int .i64 h)), .c (.v (.int .i64 length))] => some (.q (-900000 ≤ length ∧ length ≤ 900000) (.o (.a [.v (.int .i64 (max 0 length * (dirV h).1 / (dirV h).2.2)), .v (.int .i64 (max 0 length * (dirV h).2.1 / (dirV h).2.2))])))
  | _ => none
theorem c38 : COk Tryz.prog 38 g38 := by
  refine cok_q Tryz.func38 x38_ok (by kernel_rfl) (cok_tab (cok_cons c65 (cok_cons c66 cok_nil))) ?_
  intro args_ E_ nn_ cr_ hg_
  unfold g38 at hg_
  split at hg_
  · rename_i h length
    cases hg_
    refine ⟨_, _, rfl, 0, [], [.c (.v (.int .i64 h)), .c (.v (.int .i64 length))], [], .o (.a [.v (.int .i64 (max 0 length * (dirV h).1 / (dirV h).2.2)), .v (.int .i64 (max 0 length * (dirV h).2.1 / (dirV h).2.2))]), rfl, rfl, and3 (by simp only [push_cast, Nat.reduceLT, Nat.reduceAdd]) ⟨rfl, trivial, rfl, ?_⟩⟩
    intro hpre hlen
    refine ⟨trivial, ?_⟩
    simp (maxSteps := 9999999) only [x38, push_cast, simprocAttr, g65, g66]
    have hb := dir_mul_bd h (max 0 length) (by omega) (by omega)
    have hd := (dirV_bd h).1
    rw [wrapI (by omega) (by omega), wrapI (by omega) (by omega)]
    exact ⟨by omega, by omega, by rfl, rfl, rfl⟩
  · cases hg_
def g78 : Con := fun args_ E_ nn_ => match args_ with
  | [.a [.v (.int .i64 at_X), .v (.int .i64 at_Y), .v (.int .i64 at_H)], .a [.v (.int .i64 c_Turn), .v (.int .i64 c_Forward)], .a [.v (.int .i64 e_Turn), .v (.int .i64 e_Length), .v (.int .i64 e_X), .v (.int .i64 e_Y)]] => some (.q (True) (.t [.a [.v (.int .i64 (nextS at_X at_Y at_H c_Turn c_Forward e_Turn e_Length e_X e_Y).1), .v (.int .i64 (nextS at_X at_Y at_H c_Turn c_Forward e_Turn e_Length e_X e_Y).2.1), .v (.int .i64 (nextS at_X at_Y at_H c_Turn c_Forward e_Turn e_Length e_X e_Y).2.2.1)], .c (.v (.int .i64 ((nextS at_X at_Y at_H c_Turn c_Forward e_Turn e_Length e_X e_Y).2.2.2)))]))
  | _ => none
theorem c78 : COk Tryz.prog 78 g78 := by
  refine cok_q Tryz.func78 x78_ok (by kernel_rfl) (cok_tab (cok_cons c34 (cok_cons c24 (cok_cons c35 (cok_cons c37 (cok_cons c38 (cok_cons c62 (cok_cons c63 cok_nil)))))))) ?_
  intro args_ E_ nn_ cr_ hg_
  unfold g78 at hg_
  split at hg_
  · rename_i at_X at_Y at_H c_Turn c_Forward e_Turn e_Length e_X e_Y
    cases hg_
    refine ⟨_, _, rfl, 0, [], [.a [.v (.int .i64 at_X), .v (.int .i64 at_Y), .v (.int .i64 at_H)], .a [.v (.int .i64 c_Turn), .v (.int .i64 c_Forward)], .a [.v (.int .i64 e_Turn), .v (.int .i64 e_Length), .v (.int .i64 e_X), .v (.int .i64 e_Y)]], [], .t [.a [.v (.int .i64 (nextS at_X at_Y at_H c_Turn c_Forward e_Turn e_Length e_X e_Y).1), .v (.int .i64 (nextS at_X at_Y at_H c_Turn c_Forward e_Turn e_Length e_X e_Y).2.1), .v (.int .i64 (nextS at_X at_Y at_H c_Turn c_Forward e_Turn e_Length e_X e_Y).2.2.1)], .c (.v (.int .i64 ((nextS at_X at_Y at_H c_Turn c_Forward e_Turn e_Length e_X e_Y).2.2.2)))], rfl, rfl, and3 (by simp only [push_cast, Nat.reduceLT, Nat.reduceAdd]) ⟨rfl, trivial, rfl, ?_⟩⟩
    intro hpre hlen
    refine ⟨trivial, ?_⟩
    simp (maxSteps := 9999999) only [x78, push_cast, simprocAttr, g34, g24, g35, g37, g38, g62, g63]
    refine ⟨fun h => ?_, fun a1 a2 a3 a4 a5 a6 a7 a8 a9 a10 => ⟨fun h => ?_, fun b1 b2 b3 b4 b5 b6 b7 b8 => ?_⟩⟩
    · rw [nextS_arg (by omega)]; exact ⟨⟨rfl, rfl, rfl⟩, rfl⟩
    · rw [nextS_range (by omega) (by omega)]; exact ⟨⟨rfl, rfl, rfl⟩, rfl⟩
    rw [wrapI (n := at_H + c_Turn) (by omega) (by omega), wrapI (n := at_H + c_Turn + e_Turn) (by omega) (by omega)]
    refine ⟨by omega, fun h3 => ?_, fun h3 => ?_⟩
    · rw [nextS_stay (by omega) (by omega) h3]; exact ⟨⟨rfl, rfl, rfl⟩, rfl⟩
    rw [wrapI (n := c_Forward + e_Length) (by omega) (by omega)]
    obtain ⟨hx, hy⟩ := dir_div_bd ((at_H + c_Turn + e_Turn) % 256) (max 0 (c_Forward + e_Length)) (by omega)
    generalize ex : max 0 (c_Forward + e_Length) * (dirV ((at_H + c_Turn + e_Turn) % 256)).1 / (dirV ((at_H + c_Turn + e_Turn) % 256)).2.2 = dx at *
    generalize ey : max 0 (c_Forward + e_Length) * (dirV ((at_H + c_Turn + e_Turn) % 256)).2.1 / (dirV ((at_H + c_Turn + e_Turn) % 256)).2.2 = dy at *
    rw [nextS_go (by omega) (by omega) h3 ex ey]
    rw [wrapI (n := dx + e_X) (by omega) (by omega), wrapI (n := dy + e_Y) (by omega) (by omega), wrapI (n := at_X + (dx + e_X)) (by omega) (by omega), wrapI (n := at_Y + (dy + e_Y)) (by omega) (by omega)]
    refine ⟨by omega, fun h4 => ?_, ?_⟩
    · rw [if_neg (by omega)]; exact ⟨⟨rfl, rfl, rfl⟩, rfl⟩
    · intros
      rw [if_pos (by omega)]; exact ⟨⟨rfl, rfl, rfl⟩, rfl⟩
  · cases hg_
def g36 : Con := fun args_ E_ nn_ => match args_ with
  | [.c (.v (.int .i64 a)), .c (.v (.int .i64 b))] => some (.q (-1000000 ≤ a ∧ a ≤ 1000000 ∧ -1000000 ≤ b ∧ b ≤ 1000000) (.o (.c (.v (.int .i64 (dlt a b))))))
  | _ => none
theorem c36 : COk Tryz.prog 36 g36 := by
  refine cok_q Tryz.func36 x36_ok (by kernel_rfl) (cok_tab (cok_cons c64 cok_nil)) ?_
  intro args_ E_ nn_ cr_ hg_
  unfold g36 at hg_
  split at hg_
  · rename_i a b
    cases hg_
    refine ⟨_, _, rfl, 0, [], [.c (.v (.int .i64 a)), .c (.v (.int .i64 b))], [], .o (.c (.v (.int .i64 (dlt a b)))), rfl, rfl, and3 (by simp only [push_cast, Nat.reduceLT, Nat.reduceAdd]) ⟨rfl, trivial, rfl, ?_⟩⟩
    intro hpre hlen
    refine ⟨trivial, ?_⟩
    simp (maxSteps := 9999999) only [x36, push_cast, simprocAttr, g64]
    rw [wrapI (n := b - a) (by omega) (by omega)]
    unfold dlt
    refine ⟨fun h => ?_, fun h => ?_⟩
    · rw [if_pos (by omega), wrapI (by omega) (by omega)]
    · rw [if_neg (by omega)]
  · cases hg_
def g76 : Con := fun args_ E_ nn_ => match args_ with
  | [.c (.v (.int .i64 n)), .c (.v (.int .i64 k))] => some (.q (-9223372036854775807 ≤ k ∧ k ≤ 9223372036854775807) (.o (.c (.v (.int .i64 (clp n k))))))
  | _ => none
theorem c76 : COk Tryz.prog 76 g76 := by
  refine cok_q Tryz.func76 x76_ok (by kernel_rfl) (cok_tab cok_nil) ?_
  intro args_ E_ nn_ cr_ hg_
  unfold g76 at hg_
  split at hg_
  · rename_i n k
    cases hg_
    refine ⟨_, _, rfl, 0, [], [.c (.v (.int .i64 n)), .c (.v (.int .i64 k))], [], .o (.c (.v (.int .i64 (clp n k)))), rfl, rfl, and3 (by simp only [push_cast, Nat.reduceLT, Nat.reduceAdd]) ⟨rfl, trivial, rfl, ?_⟩⟩
    intro hpre hlen
    refine ⟨trivial, ?_⟩
    simp (maxSteps := 9999999) only [x76, push_cast, simprocAttr]
    rw [wrapI (by omega) (by omega)]
    rfl
  · cases hg_
def g44 : Con := fun args_ E_ nn_ => match args_ with
  | [.a [.v (.int .i64 b_Turn), .v (.int .i64 b_Length), .v (.int .i64 b_Slip), .v (.int .i64 b_Range)], .a [.v (.int .i64 e_Turn), .v (.int .i64 e_Length), .v (.int .i64 e_X), .v (.int .i64 e_Y)]] => some (.q (True) (.t [.a [.v (.int .i64 (clipS b_Turn b_Length b_Slip b_Range e_Turn e_Length e_X e_Y).1), .v (.int .i64 (clipS b_Turn b_Length b_Slip b_Range e_Turn e_Length e_X e_Y).2.1), .v (.int .i64 (clipS b_Turn b_Length b_Slip b_Range e_Turn e_Length e_X e_Y).2.2.1), .v (.int .i64 (clipS b_Turn b_Length b_Slip b_Range e_Turn e_Length e_X e_Y).2.2.2.1)], .c (.v (.int .i64 ((clipS b_Turn b_Length b_Slip b_Range e_Turn e_Length e_X e_Y).2.2.2.2)))]))
  | _ => none
theorem c44 : COk Tryz.prog 44 g44 := by
  refine cok_q Tryz.func44 x44_ok (by kernel_rfl) (cok_tab (cok_cons c33 (cok_cons c76 cok_nil))) ?_
  intro args_ E_ nn_ cr_ hg_
  unfold g44 at hg_
  split at hg_
  · rename_i b_Turn b_Length b_Slip b_Range e_Turn e_Length e_X e_Y
    cases hg_
    refine ⟨_, _, rfl, 0, [], [.a [.v (.int .i64 b_Turn), .v (.int .i64 b_Length), .v (.int .i64 b_Slip), .v (.int .i64 b_Range)], .a [.v (.int .i64 e_Turn), .v (.int .i64 e_Length), .v (.int .i64 e_X), .v (.int .i64 e_Y)]], [], .t [.a [.v (.int .i64 (clipS b_Turn b_Length b_Slip b_Range e_Turn e_Length e_X e_Y).1), .v (.int .i64 (clipS b_Turn b_Length b_Slip b_Range e_Turn e_Length e_X e_Y).2.1), .v (.int .i64 (clipS b_Turn b_Length b_Slip b_Range e_Turn e_Length e_X e_Y).2.2.1), .v (.int .i64 (clipS b_Turn b_Length b_Slip b_Range e_Turn e_Length e_X e_Y).2.2.2.1)], .c (.v (.int .i64 ((clipS b_Turn b_Length b_Slip b_Range e_Turn e_Length e_X e_Y).2.2.2.2)))], rfl, rfl, and3 (by simp only [push_cast, Nat.reduceLT, Nat.reduceAdd]) ⟨rfl, trivial, rfl, ?_⟩⟩
    intro hpre hlen
    refine ⟨trivial, ?_⟩
    simp (maxSteps := 9999999) only [x44, push_cast, simprocAttr, g33, g76]
    refine ⟨fun h => ?_, fun b1 b2 b3 b4 b5 b6 b7 b8 => ?_⟩
    · rw [clipS_arg (by omega)]; exact ⟨⟨rfl, rfl, rfl, rfl⟩, rfl⟩
    · rw [clipS_go (by omega)]
      exact ⟨by omega, by omega, by omega, by omega, by rfl, ⟨rfl, rfl, rfl, rfl⟩, rfl⟩
  · cases hg_
noncomputable def g17 : Con := fun args_ E_ nn_ => match args_ with
  | [.a [.v (.int .i64 b_Turn), .v (.int .i64 b_Length), .v (.int .i64 b_Slip), .v (.int .i64 b_Range)], .a [.v (.int .i64 from_X), .v (.int .i64 from_Y), .v (.int .i64 from_H)], .a [.v (.int .i64 c_Turn), .v (.int .i64 c_Forward)], .a [.v (.int .i64 to_X), .v (.int .i64 to_Y), .v (.int .i64 to_H)], .c (.v (.bool bump))] => some (.q (True) (.o (.c (.v (.bool (withinS b_Turn b_Length b_Slip b_Range from_X from_Y from_H c_Turn c_Forward to_X to_Y to_H bump))))))
  | _ => none
theorem c17 : COk Tryz.prog 17 g17 := by
  refine cok_q Tryz.func17 x17_ok (by kernel_rfl) (cok_tab (cok_cons c33 (cok_cons c34 (cok_cons c24 (cok_cons c35 (cok_cons c37 (cok_cons c38 (cok_cons c36 cok_nil)))))))) ?_
  intro args_ E_ nn_ cr_ hg_
  unfold g17 at hg_
  split at hg_
  · rename_i b_Turn b_Length b_Slip b_Range from_X from_Y from_H c_Turn c_Forward to_X to_Y to_H bump
    cases hg_
    refine ⟨_, _, rfl, 0, [], [.a [.v (.int .i64 b_Turn), .v (.int .i64 b_Length), .v (.int .i64 b_Slip), .v (.int .i64 b_Range)], .a [.v (.int .i64 from_X), .v (.int .i64 from_Y), .v (.int .i64 from_H)], .a [.v (.int .i64 c_Turn), .v (.int .i64 c_Forward)], .a [.v (.int .i64 to_X), .v (.int .i64 to_Y), .v (.int .i64 to_H)], .c (.v (.bool bump))], [], .o (.c (.v (.bool (withinS b_Turn b_Length b_Slip b_Range from_X from_Y from_H c_Turn c_Forward to_X to_Y to_H bump)))), rfl, rfl, and3 (by simp only [push_cast, Nat.reduceLT, Nat.reduceAdd]) ⟨rfl, trivial, rfl, ?_⟩⟩
    intro hpre hlen
    refine ⟨trivial, ?_⟩
    simp (maxSteps := 9999999) only [x17, push_cast, simprocAttr, g33, g34, g24, g35, g37, g38, g36]
    refine ⟨fun h => ?_, fun b1 b2 b3 b4 b5 b6 b7 b8 f1 f2 f3 f4 f5 f6 c1 c2 c3 c4 t1 t2 t3 t4 t5 t6 => ?_⟩
    · exact (withinS_false (fun hp => by obtain ⟨h1, h2, h3, h4, _⟩ := hp; unfold vBd at h1; unfold vPs at h2 h4; unfold vCm at h3; omega)).symm
    have hb : vBd b_Turn b_Length b_Slip b_Range := by unfold vBd; omega
    have hf : vPs from_X from_Y from_H := by unfold vPs; omega
    have hc : vCm c_Turn c_Forward := by unfold vCm; omega
    have ht : vPs to_X to_Y to_H := by unfold vPs; omega
    rw [wrapI (n := from_H + c_Turn) (by omega) (by omega), wrapI (n := to_X - from_X) (by omega) (by omega), wrapI (n := to_Y - from_Y) (by omega) (by omega), wrapI (n := -b_Length) (by omega) (by omega)]
    have hd := dlt_iff (a := from_H + c_Turn) (tH := to_H) (bT := b_Turn) (by omega) (by omega) (by omega) (by omega)
    refine ⟨by omega, by omega, by omega, fun h => ?_, fun d1 d2 => ⟨fun h2 => ?_, fun h2 h2b => ?_⟩⟩
    · exact (withinS_false (fun hp => by have := hd.2 hp.2.2.2.2.1; omega)).symm
    · refine withinS_eq ?_
      unfold WithinP
      rw [if_pos h2]
      simp only [Bool.and_eq_true, beq_iff_eq]
      exact ⟨fun h3 => ⟨hb, hf, hc, ht, hd.1 ⟨d1, d2⟩, h3⟩, fun h3 => h3.2.2.2.2.2⟩
    have h2' : ¬ (bump = true ∨ c_Forward = 0) := by
      rintro (h3 | h3)
      · rw [h3] at h2; cases h2
      · exact h2b h3
    have hiff : WithinP b_Turn b_Length b_Slip b_Range from_X from_Y from_H c_Turn c_Forward to_X to_Y to_H bump ↔ anyE (fitE (to_X - from_X) (to_Y - from_Y) to_H c_Forward b_Slip) b_Length := by
      unfold WithinP
      rw [if_neg h2']
      exact ⟨fun h3 => h3.2.2.2.2.2, fun h3 => ⟨hb, hf, hc, ht, hd.1 ⟨d1, d2⟩, h3⟩⟩
    refine vcLoop_upd (α := {e : Int // -b_Length ≤ e ∧ e ≤ b_Length + 1 ∧ ∀ e2, -b_Length ≤ e2 → e2 < e → ¬ fitE (to_X - from_X) (to_Y - from_Y) to_H c_Forward b_Slip e2}) [5, 7, 8, 11, 12] 0 (fun s => [(13, .o (.c (.v (.int .i64 (s.1)))))]) (fun s => []) (fun s => (b_Length + 1 - s.1).toNat) ⟨-b_Length, by omega, by omega, fun e2 h3 h4 => by omega⟩ ?_ ?_
    · simp only [push_cast, simprocAttr, g33, g34, g24, g35, g37, g38, g36]
    rintro ⟨e, he1, he2, he3⟩
    simp only [x17L0, push_cast, simprocAttr, g33, g34, g24, g35, g37, g38, g36]
    have b1 := mv_bd to_H (c_Forward + e)
    refine ⟨fun h3 => ?_, fun h3 => ?_⟩
    · have b1 := b1 (by omega)
      rw [wrapI (n := c_Forward + e) (by omega) (by omega)]
      simp only [Bool.and_eq_false_iff, decide_eq_false_iff_not]
      simp only [mvx_def, mvy_def]
      rw [wrapI (n := to_X - from_X - mvx to_H (c_Forward + e)) (by omega) (by omega), wrapI (n := to_Y - from_Y - mvy to_H (c_Forward + e)) (by omega) (by omega), wrapI (n := e + 1) (by omega) (by omega)]
      refine ⟨by omega, by omega, fun q1 q2 => ⟨⟨q1, q2⟩, by omega⟩, fun q1 q2 q3 q4 => ?_, fun h4 => ?_⟩
      · exact (withinS_true (hiff.2 ⟨e, he1, h3, ⟨q1, q2⟩, q3, q4⟩)).symm
      · refine ⟨⟨e + 1, by omega, by omega, fun e2 h5 h6 => ?_⟩, rfl, by simp only; omega⟩
        by_cases h7 : e2 = e
        · subst h7
          intro h8
          unfold fitE at h8
          rcases h4 with q | q
          · exact q h8.1
          · exact q h8.2
        · exact he3 e2 h5 (by omega)
    · exact (withinS_false (fun hp => by
        obtain ⟨e2, h4, h5, h6⟩ := hiff.1 hp
        exact he3 e2 h4 (by omega) h6)).symm
  · cases hg_
end Go.Proofs.YtkpdofgmmpbknaaGreat
namespace Go.Proofs.YtkpdofgmmpbknaaGreat
open Go.Sx Go.Way
theorem sqD_sym (a b c d : Int) : sqD a b c d = sqD c d a b := by unfold sqD; grind
theorem sqD_nn (a b c d : Int) : 0 ≤ sqD a b c d := by have := sq_nn (a - c); have := sq_nn (b - d); unfold sqD; omega
theorem sq_zero {a : Int} (h : a * a ≤ 0) : a = 0 := by
  have := sq_le2 (a := a) (c := 0) (by omega) (by omega)
  omega
theorem segN_sym (cx cy px py qx qy k : Int) : segN cx cy px py qx qy k = segN cx cy qx qy px py k := by
  have e1 : (cx - qx) * (px - qx) + (cy - qy) * (py - qy) = sqD qx qy px py - ((cx - px) * (qx - px) + (cy - py) * (qy - py)) := by unfold sqD; grind
  have e3 : crs qx qy px py cx cy = -crs px py qx qy cx cy := by unfold crs; grind
  have nn := sqD_nn qx qy px py
  have hz : sqD qx qy px py ≤ 0 → sqD cx cy px py = sqD cx cy qx qy := by
    intro h
    have n1 := sq_nn (qx - px)
    have n2 := sq_nn (qy - py)
    unfold sqD at h
    have z1 := sq_zero (a := qx - px) (by omega)
    have z2 := sq_zero (a := qy - py) (by omega)
    rw [show qx = px by omega, show qy = py by omega]
  unfold segN
  rw [e1, e3, Int.neg_mul_neg, sqD_sym px py qx qy]
  generalize (cx - px) * (qx - px) + (cy - py) * (qy - py) = D at *
  generalize sqD qx qy px py = S at *
  by_cases h1 : D ≤ 0
  · rw [if_pos h1]
    by_cases h2 : S - D ≤ 0
    · rw [if_pos h2, hz (by omega)]
    · rw [if_neg h2, if_pos (by omega)]
  · rw [if_neg h1]
    by_cases h2 : S ≤ D
    · rw [if_pos h2, if_pos (by omega)]
    · rw [if_neg h2, if_neg (by omega), if_neg (by omega)]
theorem meetsR_sym (px py qx qy x0 y0 x1 y1 : Int) : meetsR px py qx qy x0 y0 x1 y1 = meetsR qx qy px py x0 y0 x1 y1 := by
  have e : ∀ a b, crs qx qy px py a b = -crs px py qx qy a b := by intro a b; unfold crs; grind
  unfold meetsR
  rw [e, e, e, e]
  rw [Bool.eq_iff_iff]
  simp only [Bool.and_eq_true, decide_eq_true_eq]
  omega
theorem comesB_sym (px py qx qy x0 y0 x1 y1 k : Int) : comesB px py qx qy x0 y0 x1 y1 k = comesB qx qy px py x0 y0 x1 y1 k := by
  unfold comesB
  rw [meetsR_sym, segN_sym x0 y0, segN_sym x1 y0, segN_sym x0 y1, segN_sym x1 y1]
  cases meetsR qx qy px py x0 y0 x1 y1 <;> cases decide (gapV px py x0 y0 x1 y1 ≤ k * k) <;> cases decide (gapV qx qy x0 y0 x1 y1 ≤ k * k) <;> rfl
theorem touchB_sym (px py qx qy x0 y0 x1 y1 k : Int) : touchB px py qx qy x0 y0 x1 y1 k = touchB qx qy px py x0 y0 x1 y1 k := by
  unfold touchB
  rw [comesB_sym, Bool.and_comm (sPtB px py)]
  congr 2
  rw [decide_eq_decide]
  omega
theorem blkB_sym (W H : Int) (L : List Int) (fx fy tx ty : Int) : blkB W H L fx fy tx ty = blkB W H L tx ty fx fy := by
  rw [Bool.eq_iff_iff, blk_iff, blk_iff]
  have e : wayB fx fy tx ty = wayB tx ty fx fy := by unfold wayB; rw [decide_eq_decide]; omega
  have e2 : ∀ x y, hitW W H L fx fy tx ty x y = hitW W H L tx ty fx fy x y := by intro x y; unfold hitW; rw [touchB_sym]
  rw [e]
  simp only [e2]
theorem sq_mono {a b : Int} (h : -b ≤ a ∧ a ≤ b ∨ b ≤ a ∧ a ≤ -b) : a * a ≤ b * b := by
  rcases Int.le_total 0 b with hb | hb
  · have ha : -b ≤ a ∧ a ≤ b := by omega
    rcases Int.le_total 0 a with h1 | h1
    · exact Int.mul_le_mul ha.2 ha.2 h1 hb
    · rw [← Int.neg_mul_neg a a]; exact Int.mul_le_mul (by omega) (by omega) (by omega) hb
  · have ha : b ≤ a ∧ a ≤ -b := by omega
    rw [← Int.neg_mul_neg b b]
    rcases Int.le_total 0 a with h1 | h1
    · exact Int.mul_le_mul ha.2 ha.2 h1 (by omega)
    · rw [← Int.neg_mul_neg a a]; exact Int.mul_le_mul (by omega) (by omega) (by omega) (by omega)
theorem gap_le {px py x0 y0 x1 y1 cx cy : Int} (hx : x0 ≤ cx ∧ cx ≤ x1) (hy : y0 ≤ cy ∧ cy ≤ y1) : gapV px py x0 y0 x1 y1 ≤ sqD cx cy px py := by
  have a := sq_mono (a := gapO px x0 x1) (b := cx - px) (by unfold gapO; omega)
  have b := sq_mono (a := gapO py y0 y1) (b := cy - py) (by unfold gapO; omega)
  unfold gapV sqD
  omega
theorem comes_end {px py qx qy x0 y0 x1 y1 k : Int} (hx : x0 ≤ x1) (hy : y0 ≤ y1) (h : comesB px py px py x0 y0 x1 y1 k = true) : comesB px py qx qy x0 y0 x1 y1 k = true := by
  have key : gapV px py x0 y0 x1 y1 ≤ k * k := by
    have sg : ∀ a b, (x0 ≤ a ∧ a ≤ x1) → (y0 ≤ b ∧ b ≤ y1) → segN a b px py px py k = true → gapV px py x0 y0 x1 y1 ≤ k * k := by
      intro a b ha hb hs
      unfold segN at hs
      rw [if_pos (by rw [Int.sub_self, Int.sub_self, Int.mul_zero, Int.mul_zero]; omega), decide_eq_true_eq] at hs
      exact Int.le_trans (gap_le ha hb) hs
    unfold comesB at h
    simp only [Bool.or_eq_true, decide_eq_true_eq] at h
    rcases h with (((((h | h) | h) | h) | h) | h) | h
    · unfold meetsR at h
      rw [Bool.and_eq_true, decide_eq_true_eq] at h
      rw [gap_in (by omega)]
      exact sq_nn k
    · exact h
    · exact h
    · exact sg _ _ ⟨by omega, hx⟩ ⟨by omega, hy⟩ h
    · exact sg _ _ ⟨hx, by omega⟩ ⟨by omega, hy⟩ h
    · exact sg _ _ ⟨by omega, hx⟩ ⟨hy, by omega⟩ h
    · exact sg _ _ ⟨hx, by omega⟩ ⟨hy, by omega⟩ h
  unfold comesB
  rw [decide_eq_true key]
  simp
theorem blk_end {W H : Int} {L : List Int} {fx fy tx ty : Int} (h : blkB W H L fx fy fx fy = true) : blkB W H L fx fy tx ty = true := by
  rw [blk_iff] at h ⊢
  cases hw : wayB fx fy tx ty
  · exact .inr (.inl rfl)
  · unfold wayB at hw
    rw [decide_eq_true_eq] at hw
    rcases h with h | h | ⟨x, y, h⟩
    · exact .inl h
    · exfalso
      unfold wayB at h
      rw [decide_eq_false_iff_not] at h
      omega
    · refine .inr (.inr ⟨x, y, ?_⟩)
      unfold hitW at h ⊢
      rw [Bool.and_eq_true] at h ⊢
      refine ⟨h.1, ?_⟩
      have h2 := h.2
      unfold touchB at h2 ⊢
      simp only [Bool.and_eq_true, decide_eq_true_eq] at h2 ⊢
      refine ⟨⟨⟨⟨⟨h2.1.1.1.1.1, ?_⟩, h2.1.1.1.2⟩, h2.1.1.2⟩, by omega⟩, comes_end (by omega) (by omega) h2.2⟩
      simp only [sPtB, nearB, Bool.and_eq_true, decide_eq_true_eq]; omega
theorem blk_end2 {W H : Int} {L : List Int} {fx fy tx ty : Int} (h : blkB W H L tx ty tx ty = true) : blkB W H L fx fy tx ty = true := by
  rw [blkB_sym]; exact blk_end h
theorem catF_zero (g f : Nat → Nat → SC) : catF 0 g f = f := by funext i j; simp [catF]
section
variable (W H : Int) (L : List Int) (x y h T F eT eL eX eY : Int)
noncomputable def stepS : Int × Int × Int × Bool × Int :=
  if planB W H L = false then (0, 0, 0, false, 1)
  else if buildB W H L = false then (0, 0, 0, false, 3)
  else if (nextS x y h T F eT eL eX eY).2.2.2 ≠ 0 then (0, 0, 0, false, (nextS x y h T F eT eL eX eY).2.2.2)
  else if F ≠ 0 ∧ blkB W H L x y (nextS x y h T F eT eL eX eY).1 (nextS x y h T F eT eL eX eY).2.1 = true then (x, y, (nextS x y h T F eT eL eX eY).2.2.1, true, 0)
  else ((nextS x y h T F eT eL eX eY).1, (nextS x y h T F eT eL eX eY).2.1, (nextS x y h T F eT eL eX eY).2.2.1, false, 0)
noncomputable def stX : Int := (stepS W H L x y h T F eT eL eX eY).1
noncomputable def stY : Int := (stepS W H L x y h T F eT eL eX eY).2.1
noncomputable def stH : Int := (stepS W H L x y h T F eT eL eX eY).2.2.1
noncomputable def stB : Bool := (stepS W H L x y h T F eT eL eX eY).2.2.2.1
noncomputable def stE : Int := (stepS W H L x y h T F eT eL eX eY).2.2.2.2
end
theorem step_is {W H : Int} {L : List Int} {x y h T F eT eL eX eY : Int} {r : Int × Int × Int × Bool × Int} (e : stepS W H L x y h T F eT eL eX eY = r) :
    stX W H L x y h T F eT eL eX eY = r.1 ∧ stY W H L x y h T F eT eL eX eY = r.2.1 ∧ stH W H L x y h T F eT eL eX eY = r.2.2.1 ∧ stB W H L x y h T F eT eL eX eY = r.2.2.2.1 ∧ stE W H L x y h T F eT eL eX eY = r.2.2.2.2 := by
  subst e; exact ⟨rfl, rfl, rfl, rfl, rfl⟩
theorem nextS_F {X Y H T F eT eL eX eY : Int} (h : (nextS X Y H T F eT eL eX eY).2.2.2 = 0) : 0 ≤ F := by
  by_cases h1 : ¬ (-1048576 ≤ X ∧ X ≤ 1048576 ∧ -1048576 ≤ Y ∧ Y ≤ 1048576 ∧ 0 ≤ H ∧ H ≤ 255) ∨ ¬ (-32 ≤ T ∧ T ≤ 32 ∧ 0 ≤ F ∧ F ≤ 32)
  · rw [nextS_arg h1] at h; cases h
  · omega
theorem nextS_zero {X Y H T F eT eL eX eY nx ny nh : Int} (hF : F = 0) (h : nextS X Y H T F eT eL eX eY = (nx, ny, nh, 0)) : nx = X ∧ ny = Y := by
  by_cases h1 : (-1048576 ≤ X ∧ X ≤ 1048576 ∧ -1048576 ≤ Y ∧ Y ≤ 1048576 ∧ 0 ≤ H ∧ H ≤ 255) ∧ (-32 ≤ T ∧ T ≤ 32 ∧ 0 ≤ F ∧ F ≤ 32)
  · by_cases h2 : (-64 ≤ eT ∧ eT ≤ 64) ∧ (-64 ≤ eL ∧ eL ≤ 64) ∧ (-64 ≤ eX ∧ eX ≤ 64) ∧ (-64 ≤ eY ∧ eY ≤ 64)
    · rw [nextS_stay h1 h2 hF] at h
      simp only [Prod.mk.injEq] at h
      exact ⟨h.1.symm, h.2.1.symm⟩
    · rw [nextS_range h1 h2] at h; simp at h
  · rw [nextS_arg (by omega)] at h; simp at h
def x45 : XFn := ⟨51, (.seq (.reg false [O1 4 (.box 24) 0, O1 5 (.box 28) 1, O1 6 (.box 45) 2, O1 7 (.box 62) 3, ⟨(some 8), (.alloc 28 [(iV 0), (iV 0), (iV 0)]), [], none⟩, K1 9 .mv (.bool false), K1 10 .mv (iV 0)]) (.seq (.seq (.reg false [O1 13 (.loadN 3) 4, O1 14 (.call 67) 13, O1 15 (.un .not) 14]) (.cond (.t 15) (.seq (.reg false [⟨(some 16), (.build [(iV 0), (iV 0), (iV 0)] []), [], none⟩, ⟨none, (.store 3), [(.t 8), (.t 16)], none⟩, K1 9 .mv (.bool false), K1 10 .mv (iV 1)]) .ret) .skip)) (.seq (.seq (.reg false [O1 17 (.loadN 3) 4, K2 18 (.call 77) 17 (.int .u8 0), K2 19 (.bin .gtr) 18 (iV 0)]) (.cond (.t 19) (.seq (.reg false [⟨(some 20), (.build [(iV 0), (iV 0), (iV 0)] []), [], none⟩, ⟨none, (.store 3), [(.t 8), (.t 20)], none⟩, K1 9 .mv (.bool false), K1 10 .mv (iV 3)]) .ret) .skip)) (.seq (.reg false [O1 22 (.loadN 3) 5, O1 23 (.loadN 2) 6, O1 24 (.loadN 4) 7, ⟨(some 25), (.call 78), [(.t 22), (.t 23), (.t 24)], none⟩, O1 21 .mv 25, O1 26 (.ext 0) 21, O1 27 (.ext 1) 21, ⟨(some 11), (.alloc 28 [(iV 0), (iV 0), (iV 0)]), [], none⟩, ⟨none, (.store 3), [(.t 11), (.t 26)], none⟩, O1 12 .mv 27]) (.seq (.seq (.reg false [O1 28 .mv 12, K2 29 (.bin .neq) 28 (iV 0)]) (.cond (.t 29) (.seq (.reg false [⟨(some 30), (.build [(iV 0), (iV 0), (iV 0)] []), [], none⟩, O1 31 .mv 12, ⟨none, (.store 3), [(.t 8), (.t 30)], none⟩, K1 9 .mv (.bool false), O1 10 .mv 31]) .ret) .skip)) (.seq (.seq (.reg true [O1 32 (.fld 1) 6, O1 33 .load1 32, K2 34 (.bin .gtr) 33 (iV 0), O1 35 .mv 34, G1 36 (.loadN 3) 4 35 true, G1 37 (.loadN 3) 5 35 true, G1 38 (.call 63) 37 35 true, G1 39 (.loadN 3) 11 35 true, G1 40 (.call 63) 39 35 true, ⟨(some 41), (.call 79), [(.t 36), (.t 38), (.t 40)], (some (35, true))⟩, ⟨(some 42), .pick, [(.t 35), (.t 41), (.k (.bool false))], none⟩]) (.cond (.t 42) (.seq (.reg false [O1 43 (.fld 0) 5, O1 44 .load1 43, O1 45 (.fld 1) 5, O1 46 .load1 45, O1 47 (.fld 2) 11, O1 48 .load1 47, ⟨(some 49), (.build [(iV 0), (iV 0), (iV 0)] [(0, 1), (1, 1), (2, 1)]), [(.t 44), (.t 46), (.t 48)], none⟩, ⟨none, (.store 3), [(.t 8), (.t 49)], none⟩, K1 9 .mv (.bool true), K1 10 .mv (iV 0)]) .ret) .skip)) (.seq (.reg false [O1 50 (.loadN 3) 11, ⟨none, (.store 3), [(.t 8), (.t 50)], none⟩, K1 9 .mv (.bool false), K1 10 .mv (iV 0)]) .ret))))))), [(.bn 8 3), (.s 9), (.s 10)]⟩
theorem x45_ok : xfn Tryz.prog Tryz.f45 = some x45.er := by kernel_rfl
noncomputable def g45 : Con := fun args_ E_ nn_ => match args_ with
  | [.a [.v (.int .i64 p_W), .v (.int .i64 p_H), .n p_Cells], .a [.v (.int .i64 at_X), .v (.int .i64 at_Y), .v (.int .i64 at_H)], .a [.v (.int .i64 c_Turn), .v (.int .i64 c_Forward)], .a [.v (.int .i64 e_Turn), .v (.int .i64 e_Length), .v (.int .i64 e_X), .v (.int .i64 e_Y)]] => (match rowOf E_ p_Cells with
    | some (p_Cells_n, p_Cells_s, p_Cells_f) => some (.q (isRow eU8 p_Cells_n p_Cells_s p_Cells_f ∧ u8s (decL eU8 p_Cells_n p_Cells_f)) (.t [.a [.v (.int .i64 (stX p_W p_H (decL eU8 p_Cells_n p_Cells_f) at_X at_Y at_H c_Turn c_Forward e_Turn e_Length e_X e_Y)), .v (.int .i64 (stY p_W p_H (decL eU8 p_Cells_n p_Cells_f) at_X at_Y at_H c_Turn c_Forward e_Turn e_Length e_X e_Y)), .v (.int .i64 (stH p_W p_H (decL eU8 p_Cells_n p_Cells_f) at_X at_Y at_H c_Turn c_Forward e_Turn e_Length e_X e_Y))], .c (.v (.bool (stB p_W p_H (decL eU8 p_Cells_n p_Cells_f) at_X at_Y at_H c_Turn c_Forward e_Turn e_Length e_X e_Y))), .c (.v (.int .i64 (stE p_W p_H (decL eU8 p_Cells_n p_Cells_f) at_X at_Y at_H c_Turn c_Forward e_Turn e_Length e_X e_Y)))]))
    | none => none)
  | _ => none
theorem c45 : COk Tryz.prog 45 g45 := by
  refine cok_q Tryz.func45 x45_ok (by kernel_rfl) (cok_tab (cok_cons c67 (cok_cons c77 (cok_cons c78 (cok_cons c79 (cok_cons c63 cok_nil)))))) ?_
  intro args_ E_ nn_ cr_ hg_
  unfold g45 at hg_
  split at hg_
  · rename_i p_W p_H p_Cells at_X at_Y at_H c_Turn c_Forward e_Turn e_Length e_X e_Y
    split at hg_
    · rename_i p_Cells_n p_Cells_s p_Cells_f h_p_Cells
      cases hg_
      refine ⟨_, _, rfl, 1, [p_Cells], [.a [.v (.int .i64 p_W), .v (.int .i64 p_H), .n 0], .a [.v (.int .i64 at_X), .v (.int .i64 at_Y), .v (.int .i64 at_H)], .a [.v (.int .i64 c_Turn), .v (.int .i64 c_Forward)], .a [.v (.int .i64 e_Turn), .v (.int .i64 e_Length), .v (.int .i64 e_X), .v (.int .i64 e_Y)]], [(0, .ro (decL eU8 p_Cells_n p_Cells_f).length eU8.sz (rowF eU8 (decL eU8 p_Cells_n p_Cells_f)))], .t [.a [.v (.int .i64 (stX p_W p_H (decL eU8 p_Cells_n p_Cells_f) at_X at_Y at_H c_Turn c_Forward e_Turn e_Length e_X e_Y)), .v (.int .i64 (stY p_W p_H (decL eU8 p_Cells_n p_Cells_f) at_X at_Y at_H c_Turn c_Forward e_Turn e_Length e_X e_Y)), .v (.int .i64 (stH p_W p_H (decL eU8 p_Cells_n p_Cells_f) at_X at_Y at_H c_Turn c_Forward e_Turn e_Length e_X e_Y))], .c (.v (.bool (stB p_W p_H (decL eU8 p_Cells_n p_Cells_f) at_X at_Y at_H c_Turn c_Forward e_Turn e_Length e_X e_Y))), .c (.v (.int .i64 (stE p_W p_H (decL eU8 p_Cells_n p_Cells_f) at_X at_Y at_H c_Turn c_Forward e_Turn e_Length e_X e_Y)))], rfl, rfl, and3 (by simp only [push_cast, Nat.reduceLT, Nat.reduceAdd]) ⟨rfl, ⟨inE0_row h_p_Cells, trivial⟩, rfl, ?_⟩⟩
      intro hpre hlen
      obtain ⟨i_p_Cells, hpre⟩ := hpre
      refine ⟨⟨inE_row h_p_Cells i_p_Cells, trivial⟩, ?_⟩
      have z_p_Cells := lens_row (E := eU8) hlen h_p_Cells
      clear i_p_Cells
      generalize decL eU8 p_Cells_n p_Cells_f = p_CellsL at *
      clear h_p_Cells
      simp (maxSteps := 9999999) only [x45, push_cast, simprocAttr, g67, g77, g78, g79, g63]
      refine ⟨fun h => ?_, fun h => ⟨fun h2 => ?_, fun h2 => ⟨fun h3 => ?_, fun h3 => ?_⟩⟩⟩
      · have z := step_is (show stepS p_W p_H p_CellsL at_X at_Y at_H c_Turn c_Forward e_Turn e_Length e_X e_Y = _ from if_pos h)
        exact ⟨⟨z.1.symm, z.2.1.symm, z.2.2.1.symm⟩, z.2.2.2.1.symm, z.2.2.2.2.symm⟩
      · have z := step_is (show stepS p_W p_H p_CellsL at_X at_Y at_H c_Turn c_Forward e_Turn e_Length e_X e_Y = (0, 0, 0, false, 3) by unfold stepS; rw [if_neg (by rw [h]; decide), if_pos (by rw [Bool.eq_false_iff]; exact fun q => ((build_iff hpre).1 q).2 h2)])
        exact ⟨⟨z.1.symm, z.2.1.symm, z.2.2.1.symm⟩, z.2.2.2.1.symm, z.2.2.2.2.symm⟩
      · have z := step_is (show stepS p_W p_H p_CellsL at_X at_Y at_H c_Turn c_Forward e_Turn e_Length e_X e_Y = (0, 0, 0, false, (nextS at_X at_Y at_H c_Turn c_Forward e_Turn e_Length e_X e_Y).2.2.2) by unfold stepS; rw [if_neg (by rw [h]; decide), if_neg (by rw [(build_iff hpre).2 ⟨h, h2⟩]; decide), if_pos h3])
        exact ⟨⟨z.1.symm, z.2.1.symm, z.2.2.1.symm⟩, z.2.2.2.1.symm, z.2.2.2.2.symm⟩
      have hF : nextS at_X at_Y at_H c_Turn c_Forward e_Turn e_Length e_X e_Y = nextS at_X at_Y at_H c_Turn c_Forward e_Turn e_Length e_X e_Y := rfl
      refine ⟨fun h4 => ⟨h4, hpre⟩, fun h4 h5 => ?_, fun h4 => ?_⟩
      · have z := step_is (show stepS p_W p_H p_CellsL at_X at_Y at_H c_Turn c_Forward e_Turn e_Length e_X e_Y = (at_X, at_Y, (nextS at_X at_Y at_H c_Turn c_Forward e_Turn e_Length e_X e_Y).2.2.1, true, 0) by unfold stepS; rw [if_neg (by rw [h]; decide), if_neg (by rw [(build_iff hpre).2 ⟨h, h2⟩]; decide), if_neg (by simpa using h3), if_pos ⟨by omega, h5⟩])
        exact ⟨⟨z.1.symm, z.2.1.symm, z.2.2.1.symm⟩, z.2.2.2.1.symm, z.2.2.2.2.symm⟩
      · have z := step_is (show stepS p_W p_H p_CellsL at_X at_Y at_H c_Turn c_Forward e_Turn e_Length e_X e_Y = ((nextS at_X at_Y at_H c_Turn c_Forward e_Turn e_Length e_X e_Y).1, (nextS at_X at_Y at_H c_Turn c_Forward e_Turn e_Length e_X e_Y).2.1, (nextS at_X at_Y at_H c_Turn c_Forward e_Turn e_Length e_X e_Y).2.2.1, false, 0) by unfold stepS; rw [if_neg (by rw [h]; decide), if_neg (by rw [(build_iff hpre).2 ⟨h, h2⟩]; decide), if_neg (by simpa using h3), if_neg (fun q => by rcases Int.lt_or_le 0 c_Forward with w | w; rw [decide_eq_true w, q.2] at h4; cases h4; exact absurd (nextS_F h3) (by omega))])
        exact ⟨⟨z.1.symm, z.2.1.symm, z.2.2.1.symm⟩, z.2.2.2.1.symm, z.2.2.2.2.symm⟩
    · cases hg_
  · cases hg_
end Go.Proofs.YtkpdofgmmpbknaaGreat
namespace Go.Proofs.YtkpdofgmmpbknaaGreat
open Go.Sx Go.Way
theorem pt_gap {px py x0 y0 x1 y1 k : Int} (hx : x0 ≤ x1) (hy : y0 ≤ y1) (h : comesB px py px py x0 y0 x1 y1 k = true) : gapV px py x0 y0 x1 y1 ≤ k * k := by
  have sg : ∀ a b, (x0 ≤ a ∧ a ≤ x1) → (y0 ≤ b ∧ b ≤ y1) → segN a b px py px py k = true → gapV px py x0 y0 x1 y1 ≤ k * k := by
    intro a b ha hb hs
    unfold segN at hs
    rw [if_pos (by rw [Int.sub_self, Int.sub_self, Int.mul_zero, Int.mul_zero]; omega), decide_eq_true_eq] at hs
    exact Int.le_trans (gap_le ha hb) hs
  unfold comesB at h
  simp only [Bool.or_eq_true, decide_eq_true_eq] at h
  rcases h with (((((h | h) | h) | h) | h) | h) | h
  · unfold meetsR at h
    rw [Bool.and_eq_true, decide_eq_true_eq] at h
    rw [gap_in (by omega)]
    exact sq_nn k
  · exact h
  · exact h
  · exact sg _ _ ⟨by omega, hx⟩ ⟨by omega, hy⟩ h
  · exact sg _ _ ⟨hx, by omega⟩ ⟨by omega, hy⟩ h
  · exact sg _ _ ⟨by omega, hx⟩ ⟨hy, by omega⟩ h
  · exact sg _ _ ⟨hx, by omega⟩ ⟨hy, by omega⟩ h
def ckV (W H : Int) (L : List Int) : Int := if planB W H L = false then 1 else if buildB W H L = false then 3 else 0
noncomputable def fitB (W H : Int) (L : List Int) (x y : Int) : Bool := !blkB W H L x y x y
def inPlan (W H x y : Int) : Bool := decide (0 ≤ x ∧ 0 ≤ y ∧ x ≤ W * 64 ∧ y ≤ H * 64)
theorem ib8_at {L : List Int} (hu : u8s L) : 0 ≤ ib8 L 0 ↔ (0 : Int) ∈ L := by
  have e : ib8 L 0 = Lib.indexByte (L.map fun x => UInt8.ofNat x.toNat) 0 := rfl
  rw [e]
  clear e
  induction L with
  | nil => simp [Lib.indexByte]
  | cons a L ih =>
    have ih := ih (fun x hx => hu x (by simp [hx]))
    have ha := hu a (by simp)
    have hge := Lib.indexByte_ge (L.map fun x => UInt8.ofNat x.toNat) 0
    have hz : (UInt8.ofNat a.toNat == 0) = true ↔ a = 0 := by
      rw [beq_iff_eq]
      constructor
      · intro h
        have := congrArg UInt8.toNat h
        simp at this
        omega
      · rintro rfl; rfl
    simp only [List.map_cons, Lib.indexByte, List.mem_cons]
    split
    · rename_i h; rw [hz] at h; simp [h]
    · rename_i h
      rw [hz] at h
      split
      · rename_i h2
        rw [beq_iff_eq] at h2
        rw [h2] at ih
        constructor
        · intro h3; omega
        · rintro (h3 | h3)
          · exact absurd h3.symm h
          · have := ih.2 h3; omega
      · rename_i h2
        rw [beq_iff_eq] at h2
        constructor
        · intro h3; exact .inr (ih.1 (by omega))
        · rintro (h3 | h3)
          · exact absurd h3.symm h
          · have := ih.2 h3; omega
theorem build_ib {W H : Int} {L : List Int} (hu : u8s L) (h1 : planB W H L = true) : buildB W H L = true ↔ ¬ 0 ≤ ib8 L 0 := by
  rw [ib8_at hu]
  unfold buildB
  rw [h1, Bool.true_and, List.all_eq_true]
  constructor
  · intro h h2
    have := h 0 h2
    simp at this
  · intro h x hx
    rw [bne_iff_ne]
    rintro rfl
    exact h hx
theorem hit_pt {W H : Int} {L : List Int} {x y cx cy : Int} (hx : -1048576 ≤ x ∧ x ≤ 1048576) (hy : -1048576 ≤ y ∧ y ≤ 1048576) (hcx : -20000 ≤ cx ∧ cx ≤ 20000) (hcy : -20000 ≤ cy ∧ cy ≤ 20000) :
    hitW W H L x y x y cx cy = (decide (atB W H L cx cy = 2) && decide (gapV x y (cx * 64) (cy * 64) (cx * 64 + 64) (cy * 64 + 64) ≤ 400)) := by
  unfold hitW
  congr 1
  unfold touchB
  have e1 : sPtB x y = true := by simp only [sPtB, nearB, Bool.and_eq_true, decide_eq_true_eq]; omega
  have e2 : sRectB (cx * 64) (cy * 64) (cx * 64 + 64) (cy * 64 + 64) = true := by simp only [sRectB, nearB, Bool.and_eq_true, decide_eq_true_eq]; omega
  rw [e1, e2, decide_eq_true (p := 0 ≤ (20 : Int) ∧ (20 : Int) ≤ 1024) (by omega), decide_eq_true (p := (-1024 ≤ x - x ∧ x - x ≤ 1024) ∧ -1024 ≤ y - y ∧ y - y ≤ 1024) (by omega)]
  simp only [Bool.true_and]
  rw [Bool.eq_iff_iff, decide_eq_true_eq]
  constructor
  · intro h
    exact pt_gap (by omega) (by omega) h
  · intro h
    unfold comesB
    rw [decide_eq_true (p := gapV x y (cx * 64) (cy * 64) (cx * 64 + 64) (cy * 64 + 64) ≤ 20 * 20) (by omega)]
    simp
theorem fit_iff {W H : Int} {L : List Int} {x y : Int} : fitB W H L x y = true ↔ buildB W H L = true ∧ ((-1048576 ≤ x ∧ x ≤ 1048576) ∧ -1048576 ≤ y ∧ y ≤ 1048576) ∧ ∀ cx cy, hitW W H L x y x y cx cy = false := by
  unfold fitB
  rw [Bool.not_eq_true', Bool.eq_false_iff, ne_eq, blk_iff]
  constructor
  · intro h
    refine ⟨?_, ?_, fun cx cy => ?_⟩
    · cases hb : buildB W H L
      · exact absurd (.inl hb) h
      · rfl
    · cases hw : wayB x y x y
      · exact absurd (.inr (.inl hw)) h
      · unfold wayB at hw; rw [decide_eq_true_eq] at hw; exact hw.1
    · rw [Bool.eq_false_iff]; exact fun q => h (.inr (.inr ⟨cx, cy, q⟩))
  · rintro ⟨h1, h2, h3⟩ (h | h | ⟨cx, cy, h⟩)
    · rw [h1] at h; cases h
    · unfold wayB at h; rw [decide_eq_false_iff_not] at h; omega
    · rw [h3] at h; cases h
theorem fit_no {W H : Int} {L : List Int} {x y cx cy : Int} (h : hitW W H L x y x y cx cy = true) : fitB W H L x y = false := by
  rw [Bool.eq_false_iff]; intro q
  have := (fit_iff.1 q).2.2 cx cy
  rw [h] at this; cases this
theorem fit_in {W H : Int} {L : List Int} {x y : Int} (h : fitB W H L x y = true) : inPlan W H x y = true := by
  obtain ⟨h1, h2, h3⟩ := fit_iff.1 h
  have hp : planB W H L = true := by unfold buildB at h1; rw [Bool.and_eq_true] at h1; exact h1.1
  cases hi : inPlan W H x y
  · exfalso
    have hb := planB_at hp
    unfold inPlan at hi
    rw [decide_eq_false_iff_not] at hi
    have key : ∀ cx cy, (cx * 64 ≤ x ∧ x ≤ cx * 64 + 64) → (cy * 64 ≤ y ∧ y ≤ cy * 64 + 64) → ¬ ((0 ≤ cx ∧ cx < W) ∧ 0 ≤ cy ∧ cy < H) → False := by
      intro cx cy a b c
      have := h3 cx cy
      rw [hit_pt h2.1 h2.2 (by omega) (by omega), at_out hp (by unfold insB; rw [decide_eq_false_iff_not]; exact c), gap_in (by omega)] at this
      simp at this
    by_cases a : x < 0
    · exact key (x / 64) (y / 64) (by omega) (by omega) (by omega)
    by_cases b : y < 0
    · exact key (x / 64) (y / 64) (by omega) (by omega) (by omega)
    by_cases c : W * 64 < x
    · exact key ((x - 1) / 64) (y / 64) (by omega) (by omega) (by omega)
    · exact key (x / 64) ((y - 1) / 64) (by omega) (by omega) (by omega)
  · rfl
theorem fit_end {W H : Int} {L : List Int} {x y : Int} (h1 : buildB W H L = true) (h2 : (-1048576 ≤ x ∧ x ≤ 1048576) ∧ -1048576 ≤ y ∧ y ≤ 1048576) (h3 : ∀ cx cy, (sqB cx cy && hitW W H L x y x y cx cy) = false) : fitB W H L x y = inPlan W H x y := by
  rw [Bool.eq_iff_iff]
  refine ⟨fit_in, fun hi => fit_iff.2 ⟨h1, h2, fun cx cy => ?_⟩⟩
  have hp : planB W H L = true := by unfold buildB at h1; rw [Bool.and_eq_true] at h1; exact h1.1
  have hb := planB_at hp
  rw [Bool.eq_false_iff]; intro hh
  have hr := hit_rng hh
  unfold inPlan at hi
  rw [decide_eq_true_eq] at hi
  have := h3 cx cy
  rw [hh, sq_t (by omega) (by omega) (by omega) (by omega)] at this
  cases this
theorem ckV_ok {W H : Int} {L : List Int} : ckV W H L = 0 ↔ buildB W H L = true := by
  unfold ckV
  cases h1 : planB W H L
  · rw [if_pos rfl]
    exact ⟨fun h => by omega, fun h => by unfold buildB at h; rw [h1] at h; cases h⟩
  · rw [if_neg (by decide)]
    cases h2 : buildB W H L <;> simp
theorem pPt_iff {x y : Int} : pPtB x y = true ↔ ((-1048576 ≤ x ∧ x ≤ 1048576) ∧ -1048576 ≤ y ∧ y ≤ 1048576) := by
  simp only [pPtB, Bool.and_eq_true, decide_eq_true_eq]
def g87 : Con := ibCon
theorem c87 : COk Tryz.prog 87 g87 := cok_ib fun args w => run_callFunc_extern Tryz.func87 (by kernel_rfl) (by kernel_rfl) (by kernel_rfl) (e := Extern.BytealgIndexByte.indexByte) (by kernel_rfl) args w
def x68 : XFn := ⟨8, (.seq (.reg false [K1 4 .mv (iV 0)]) (.seq (.reg false [O1 5 .mv 0, O1 6 .mv 1, O2 7 (.call 87) 5 6, O1 4 .mv 7]) .ret)), [(.s 4)]⟩
theorem x68_ok : xfn Tryz.prog Tryz.f68 = some x68.er := by kernel_rfl
def x39 : XFn := ⟨10, (.seq (.reg false [O1 1 (.box 24) 0, K1 2 .mv (iV 0)]) (.seq (.seq (.reg false [O1 3 (.loadN 3) 1, O1 4 (.call 67) 3, O1 5 (.un .not) 4]) (.cond (.t 5) (.seq (.reg false [K1 2 .mv (iV 1)]) .ret) .skip)) (.seq (.seq (.reg false [O1 6 (.fld 2) 1, O1 7 .load1 6, K2 8 (.call 68) 7 (.int .u8 0), K2 9 (.bin .geq) 8 (iV 0)]) (.cond (.t 9) (.seq (.reg false [K1 2 .mv (iV 3)]) .ret) .skip)) (.seq (.reg false [K1 2 .mv (iV 0)]) .ret)))), [(.s 2)]⟩
theorem x39_ok : xfn Tryz.prog Tryz.f39 = some x39.er := by kernel_rfl
def x70 : XFn := ⟨5, (.seq (.reg false [K1 2 .mv (iV 0)]) (.seq (.reg false [O1 3 .mv 0, K2 4 (.bin .shr) 3 (.int .u64 6), O1 2 .mv 4]) .ret)), [(.s 2)]⟩
theorem x70_ok : xfn Tryz.prog Tryz.f70 = some x70.er := by kernel_rfl
def x72 : XFn := ⟨39, (.seq (.reg false [O1 2 (.box 24) 0, O1 3 (.box 128) 1, K1 4 .mv (.int .u8 0)]) (.seq (.seq (.reg false [O1 5 (.fld 0) 3, O1 6 .load1 5, K2 7 (.bin .lss) 6 (iV 0), O1 8 .mv 7, G1 9 (.fld 0) 3 8 false, G1 10 .load1 9 8 false, G1 11 (.fld 0) 2 8 false, G1 12 .load1 11 8 false, G2 13 (.bin .geq) 10 12 8 false, ⟨(some 14), .pick, [(.t 8), (.k (.bool true)), (.t 13)], none⟩, O1 15 .mv 14, G1 16 (.fld 1) 3 15 false, G1 17 .load1 16 15 false, GK 18 (.bin .lss) 17 (iV 0) 15 false, ⟨(some 19), .pick, [(.t 15), (.k (.bool true)), (.t 18)], none⟩, O1 20 .mv 19, G1 21 (.fld 1) 3 20 false, G1 22 .load1 21 20 false, G1 23 (.fld 1) 2 20 false, G1 24 .load1 23 20 false, G2 25 (.bin .geq) 22 24 20 false, ⟨(some 26), .pick, [(.t 20), (.k (.bool true)), (.t 25)], none⟩]) (.cond (.t 26) (.seq (.reg false [K1 4 .mv (.int .u8 2)]) .ret) .skip)) (.seq (.reg false [O1 27 (.fld 2) 2, O1 28 .load1 27, O1 29 (.fld 1) 3, O1 30 .load1 29, O1 31 (.fld 0) 2, O1 32 .load1 31, O2 33 (.bin .mul) 30 32, O1 34 (.fld 0) 3, O1 35 .load1 34, O2 36 (.bin .add) 33 35, O2 37 (.ixS 1) 28 36, O1 38 .load1 37, O1 4 .mv 38]) .ret))), [(.s 4)]⟩
theorem x72_ok : xfn Tryz.prog Tryz.f72 = some x72.er := by kernel_rfl
def x74 : XFn := ⟨29, (.seq (.reg false [O1 2 (.box 24) 0, O1 3 (.box 89) 1, K1 4 .mv (.bool false)]) (.seq (.reg false [O1 5 (.fld 0) 3, O1 6 .load1 5, K2 7 (.bin .geq) 6 (iV 0), O1 8 .mv 7, G1 9 (.fld 1) 3 8 true, G1 10 .load1 9 8 true, GK 11 (.bin .geq) 10 (iV 0) 8 true, ⟨(some 12), .pick, [(.t 8), (.t 11), (.k (.bool false))], none⟩, O1 13 .mv 12, G1 14 (.fld 0) 3 13 true, G1 15 .load1 14 13 true, G1 16 (.fld 0) 2 13 true, G1 17 .load1 16 13 true, GK 18 (.bin .mul) 17 (iV 64) 13 true, G2 19 (.bin .leq) 15 18 13 true, ⟨(some 20), .pick, [(.t 13), (.t 19), (.k (.bool false))], none⟩, O1 21 .mv 20, G1 22 (.fld 1) 3 21 true, G1 23 .load1 22 21 true, G1 24 (.fld 1) 2 21 true, G1 25 .load1 24 21 true, GK 26 (.bin .mul) 25 (iV 64) 21 true, G2 27 (.bin .leq) 23 26 21 true, ⟨(some 28), .pick, [(.t 21), (.t 27), (.k (.bool false))], none⟩, O1 4 .mv 28]) .ret)), [(.s 4)]⟩
theorem x74_ok : xfn Tryz.prog Tryz.f74 = some x74.er := by kernel_rfl
def x41L0 : XC := (.seq (.seq (.reg false [O1 56 .mv 10, O1 57 (.fld 0) 4, O1 58 .load1 57, O1 59 .mv 2, O2 60 (.bin .add) 58 59, O1 61 (.call 70) 60, K2 62 (.bin .add) 61 (iV 1), O2 63 (.bin .leq) 56 62]) (.cond (.t 63) .skip (.exit 2))) (.seq (.block 3 (.seq (.reg false [O1 66 .mv 10, O1 67 .mv 9, ⟨(some 68), (.build [(iV 0), (iV 0)] [(0, 1), (1, 1)]), [(.t 66), (.t 67)], none⟩, ⟨(some 11), (.alloc 128 [(iV 0), (iV 0)]), [], none⟩, ⟨none, (.store 2), [(.t 11), (.t 68)], none⟩]) (.seq (.reg false [O1 70 (.loadN 2) 11, O1 71 (.call 71) 70, O1 69 .mv 71, O1 72 (.ext 0) 69, O1 73 (.ext 1) 69, ⟨(some 12), (.alloc 132 [(iV 0), (iV 0), (iV 0), (iV 0)]), [], none⟩, ⟨none, (.store 4), [(.t 12), (.t 72)], none⟩, O1 13 .mv 73]) (.seq (.reg false [O1 74 .mv 13, O1 75 .mv 74, G1 76 (.loadN 3) 3 75 true, G1 77 (.loadN 2) 11 75 true, G2 78 (.call 72) 76 77 75 true, GK 79 (.bin .eql) 78 (.int .u8 2) 75 true, ⟨(some 80), .pick, [(.t 75), (.t 79), (.k (.bool false))], none⟩, O1 81 .mv 80, G1 82 (.loadN 2) 4 81 true, G1 83 (.loadN 4) 12 81 true, G2 84 (.call 73) 82 83 81 true, G1 85 .mv 2 81 true, G1 86 .mv 2 81 true, G2 87 (.bin .mul) 85 86 81 true, G2 88 (.bin .leq) 84 87 81 true, ⟨(some 89), .pick, [(.t 81), (.t 88), (.k (.bool false))], none⟩]) (.cond (.t 89) (.seq (.reg false [K1 6 .mv (.bool false)]) .ret) .skip))))) (.reg false [O1 64 .mv 10, K2 65 (.bin .add) 64 (iV 1), O1 10 .mv 65])))
def x41L1 : XC := (.seq (.seq (.reg false [O1 40 .mv 9, O1 41 (.fld 1) 4, O1 42 .load1 41, O1 43 .mv 2, O2 44 (.bin .add) 42 43, O1 45 (.call 70) 44, K2 46 (.bin .add) 45 (iV 1), O2 47 (.bin .leq) 40 46]) (.cond (.t 47) .skip (.exit 0))) (.seq (.block 1 (.seq (.reg false [O1 50 (.fld 0) 4, O1 51 .load1 50, O1 52 .mv 2, O2 53 (.bin .sub) 51 52, O1 54 (.call 70) 53, K2 55 (.bin .sub) 54 (iV 1), O1 10 .mv 55]) (.block 2 (.loop x41L0)))) (.reg false [O1 48 .mv 9, K2 49 (.bin .add) 48 (iV 1), O1 9 .mv 49])))
def x41 : XFn := ⟨93, (.seq (.reg false [O1 3 (.box 24) 0, O1 4 (.box 89) 1, K1 6 .mv (.bool false)]) (.seq (.seq (.reg false [O1 15 (.loadN 2) 4, O1 16 (.call 69) 15, O1 14 .mv 16, O1 17 (.ext 0) 14, O1 18 (.ext 1) 14, ⟨(some 7), (.alloc 128 [(iV 0), (iV 0)]), [], none⟩, ⟨none, (.store 2), [(.t 7), (.t 17)], none⟩, O1 8 .mv 18]) (.seq (.reg false [O1 19 .mv 8, O1 20 (.un .not) 19, O1 21 .mv 20, G1 22 (.loadN 3) 3 21 false, G1 23 (.call 39) 22 21 false, GK 24 (.bin .neq) 23 (iV 0) 21 false, ⟨(some 25), .pick, [(.t 21), (.k (.bool true)), (.t 24)], none⟩, O1 26 .mv 25, G1 27 .mv 2 26 false, GK 28 (.bin .lss) 27 (iV 0) 26 false, ⟨(some 29), .pick, [(.t 26), (.k (.bool true)), (.t 28)], none⟩, O1 30 .mv 29, G1 31 .mv 2 30 false, GK 32 (.bin .gtr) 31 (iV 1024) 30 false, ⟨(some 33), .pick, [(.t 30), (.k (.bool true)), (.t 32)], none⟩]) (.cond (.t 33) (.seq (.reg false [K1 6 .mv (.bool false)]) .ret) .skip))) (.seq (.seq (.reg false [O1 34 (.fld 1) 4, O1 35 .load1 34, O1 36 .mv 2, O2 37 (.bin .sub) 35 36, O1 38 (.call 70) 37, K2 39 (.bin .sub) 38 (iV 1), O1 9 .mv 39]) (.block 0 (.loop x41L1))) (.seq (.reg false [O1 90 (.loadN 3) 3, O1 91 (.loadN 2) 4, O2 92 (.call 74) 90 91, O1 6 .mv 92]) .ret)))), [(.s 6)]⟩
theorem x41_ok : xfn Tryz.prog Tryz.f41 = some x41.er := by kernel_rfl
def g68 : Con := fun args_ E_ nn_ => match args_ with
  | [.c (.n b), .c (.v (.int .u8 c))] => (match rowOf E_ b with
    | some (b_n, b_s, b_f) => some (.q (isRow eU8 b_n b_s b_f ∧ True) (.o (.c (.v (.int .i64 (ib8 (decL eU8 b_n b_f) c))))))
    | none => none)
  | _ => none
theorem c68 : COk Tryz.prog 68 g68 := by
  refine cok_q Tryz.func68 x68_ok (by kernel_rfl) (cok_tab (cok_cons c87 cok_nil)) ?_
  intro args_ E_ nn_ cr_ hg_
  unfold g68 at hg_
  split at hg_
  · rename_i b c
    split at hg_
    · rename_i b_n b_s b_f h_b
      cases hg_
      refine ⟨_, _, rfl, 1, [b], [.c (.n 0), .c (.v (.int .u8 c))], [(0, .ro (decL eU8 b_n b_f).length eU8.sz (rowF eU8 (decL eU8 b_n b_f)))], .o (.c (.v (.int .i64 (ib8 (decL eU8 b_n b_f) c)))), rfl, rfl, and3 (by simp only [push_cast, Nat.reduceLT, Nat.reduceAdd]) ⟨rfl, ⟨inE0_row h_b, trivial⟩, rfl, ?_⟩⟩
      intro hpre hlen
      obtain ⟨i_b, hpre⟩ := hpre
      refine ⟨⟨inE_row h_b i_b, trivial⟩, ?_⟩
      have z_b := lens_row (E := eU8) hlen h_b
      clear i_b
      generalize decL eU8 b_n b_f = bL at *
      clear h_b
      simp (maxSteps := 9999999) only [x68, push_cast, simprocAttr, g87]
    · cases hg_
  · cases hg_
def g39 : Con := fun args_ E_ nn_ => match args_ with
  | [.a [.v (.int .i64 p_W), .v (.int .i64 p_H), .n p_Cells]] => (match rowOf E_ p_Cells with
    | some (p_Cells_n, p_Cells_s, p_Cells_f) => some (.q (isRow eU8 p_Cells_n p_Cells_s p_Cells_f ∧ u8s (decL eU8 p_Cells_n p_Cells_f)) (.o (.c (.v (.int .i64 (ckV p_W p_H (decL eU8 p_Cells_n p_Cells_f)))))))
    | none => none)
  | _ => none
theorem c39 : COk Tryz.prog 39 g39 := by
  refine cok_q Tryz.func39 x39_ok (by kernel_rfl) (cok_tab (cok_cons c67 (cok_cons c68 cok_nil))) ?_
  intro args_ E_ nn_ cr_ hg_
  unfold g39 at hg_
  split at hg_
  · rename_i p_W p_H p_Cells
    split at hg_
    · rename_i p_Cells_n p_Cells_s p_Cells_f h_p_Cells
      cases hg_
      refine ⟨_, _, rfl, 1, [p_Cells], [.a [.v (.int .i64 p_W), .v (.int .i64 p_H), .n 0]], [(0, .ro (decL eU8 p_Cells_n p_Cells_f).length eU8.sz (rowF eU8 (decL eU8 p_Cells_n p_Cells_f)))], .o (.c (.v (.int .i64 (ckV p_W p_H (decL eU8 p_Cells_n p_Cells_f))))), rfl, rfl, and3 (by simp only [push_cast, Nat.reduceLT, Nat.reduceAdd]) ⟨rfl, ⟨inE0_row h_p_Cells, trivial⟩, rfl, ?_⟩⟩
      intro hpre hlen
      obtain ⟨i_p_Cells, hpre⟩ := hpre
      refine ⟨⟨inE_row h_p_Cells i_p_Cells, trivial⟩, ?_⟩
      have z_p_Cells := lens_row (E := eU8) hlen h_p_Cells
      clear i_p_Cells
      generalize decL eU8 p_Cells_n p_Cells_f = p_CellsL at *
      clear h_p_Cells
      simp (maxSteps := 9999999) only [x39, push_cast, simprocAttr, g67, g68]
      unfold ckV
      refine ⟨fun h => by rw [if_pos h], fun h => ⟨fun h2 => ?_, fun h2 => ?_⟩⟩
      · rw [if_neg (by rw [h]; decide), if_pos (by rw [Bool.eq_false_iff]; exact fun q => (build_ib hpre h).1 q h2)]
      · rw [if_neg (by rw [h]; decide), if_neg (by rw [(build_ib hpre h).2 (by omega)]; decide)]
    · cases hg_
  · cases hg_
def g70 : Con := fun args_ E_ nn_ => match args_ with
  | [.c (.v (.int .i64 n))] => some (.q (True) (.o (.c (.v (.int .i64 (n / 64))))))
  | _ => none
theorem c70 : COk Tryz.prog 70 g70 := by
  refine cok_q Tryz.func70 x70_ok (by kernel_rfl) (cok_tab cok_nil) ?_
  intro args_ E_ nn_ cr_ hg_
  unfold g70 at hg_
  split at hg_
  · rename_i n
    cases hg_
    refine ⟨_, _, rfl, 0, [], [.c (.v (.int .i64 n))], [], .o (.c (.v (.int .i64 (n / 64)))), rfl, rfl, and3 (by simp only [push_cast, Nat.reduceLT, Nat.reduceAdd]) ⟨rfl, trivial, rfl, ?_⟩⟩
    intro hpre hlen
    refine ⟨trivial, ?_⟩
    simp (maxSteps := 9999999) only [x70, push_cast, simprocAttr]
    show n.fdiv 64 = n / 64
    exact Int.fdiv_eq_ediv_of_nonneg n (by omega)
  · cases hg_
def g72 : Con := fun args_ E_ nn_ => match args_ with
  | [.a [.v (.int .i64 p_W), .v (.int .i64 p_H), .n p_Cells], .a [.v (.int .i64 c_X), .v (.int .i64 c_Y)]] => (match rowOf E_ p_Cells with
    | some (p_Cells_n, p_Cells_s, p_Cells_f) => some (.q (isRow eU8 p_Cells_n p_Cells_s p_Cells_f ∧ planB p_W p_H (decL eU8 p_Cells_n p_Cells_f) = true) (.o (.c (.v (.int .u8 (atB p_W p_H (decL eU8 p_Cells_n p_Cells_f) c_X c_Y))))))
    | none => none)
  | _ => none
theorem c72 : COk Tryz.prog 72 g72 := by
  refine cok_q Tryz.func72 x72_ok (by kernel_rfl) (cok_tab cok_nil) ?_
  intro args_ E_ nn_ cr_ hg_
  unfold g72 at hg_
  split at hg_
  · rename_i p_W p_H p_Cells c_X c_Y
    split at hg_
    · rename_i p_Cells_n p_Cells_s p_Cells_f h_p_Cells
      cases hg_
      refine ⟨_, _, rfl, 1, [p_Cells], [.a [.v (.int .i64 p_W), .v (.int .i64 p_H), .n 0], .a [.v (.int .i64 c_X), .v (.int .i64 c_Y)]], [(0, .ro (decL eU8 p_Cells_n p_Cells_f).length eU8.sz (rowF eU8 (decL eU8 p_Cells_n p_Cells_f)))], .o (.c (.v (.int .u8 (atB p_W p_H (decL eU8 p_Cells_n p_Cells_f) c_X c_Y)))), rfl, rfl, and3 (by simp only [push_cast, Nat.reduceLT, Nat.reduceAdd]) ⟨rfl, ⟨inE0_row h_p_Cells, trivial⟩, rfl, ?_⟩⟩
      intro hpre hlen
      obtain ⟨i_p_Cells, hpre⟩ := hpre
      refine ⟨⟨inE_row h_p_Cells i_p_Cells, trivial⟩, ?_⟩
      have z_p_Cells := lens_row (E := eU8) hlen h_p_Cells
      clear i_p_Cells
      generalize decL eU8 p_Cells_n p_Cells_f = p_CellsL at *
      clear h_p_Cells
      simp (maxSteps := 9999999) only [x72, push_cast, simprocAttr]
      refine ⟨fun h => ?_, fun h1 h2 h3 h4 => ?_⟩
      · rw [at_out hpre (by unfold insB; rw [decide_eq_false_iff_not]; omega)]
      have g : insB p_W p_H c_X c_Y = true := by unfold insB; rw [decide_eq_true_eq]; omega
      have k := idx_bd hpre g
      rw [wrapI (n := c_Y * p_W) (by omega) (by omega), wrapI (by omega) (by omega), at_in hpre g]
      exact ⟨⟨by omega, by omega⟩, by omega, rfl⟩
    · cases hg_
  · cases hg_
def g74 : Con := fun args_ E_ nn_ => match args_ with
  | [.a [.v (.int .i64 p_W), .v (.int .i64 p_H), .n p_Cells], .a [.v (.int .i64 at_X), .v (.int .i64 at_Y)]] => (match rowOf E_ p_Cells with
    | some (p_Cells_n, p_Cells_s, p_Cells_f) => some (.q (isRow eU8 p_Cells_n p_Cells_s p_Cells_f ∧ planB p_W p_H (decL eU8 p_Cells_n p_Cells_f) = true) (.o (.c (.v (.bool (inPlan p_W p_H at_X at_Y))))))
    | none => none)
  | _ => none
theorem c74 : COk Tryz.prog 74 g74 := by
  refine cok_q Tryz.func74 x74_ok (by kernel_rfl) (cok_tab cok_nil) ?_
  intro args_ E_ nn_ cr_ hg_
  unfold g74 at hg_
  split at hg_
  · rename_i p_W p_H p_Cells at_X at_Y
    split at hg_
    · rename_i p_Cells_n p_Cells_s p_Cells_f h_p_Cells
      cases hg_
      refine ⟨_, _, rfl, 1, [p_Cells], [.a [.v (.int .i64 p_W), .v (.int .i64 p_H), .n 0], .a [.v (.int .i64 at_X), .v (.int .i64 at_Y)]], [(0, .ro (decL eU8 p_Cells_n p_Cells_f).length eU8.sz (rowF eU8 (decL eU8 p_Cells_n p_Cells_f)))], .o (.c (.v (.bool (inPlan p_W p_H at_X at_Y)))), rfl, rfl, and3 (by simp only [push_cast, Nat.reduceLT, Nat.reduceAdd]) ⟨rfl, ⟨inE0_row h_p_Cells, trivial⟩, rfl, ?_⟩⟩
      intro hpre hlen
      obtain ⟨i_p_Cells, hpre⟩ := hpre
      refine ⟨⟨inE_row h_p_Cells i_p_Cells, trivial⟩, ?_⟩
      have z_p_Cells := lens_row (E := eU8) hlen h_p_Cells
      clear i_p_Cells
      generalize decL eU8 p_Cells_n p_Cells_f = p_CellsL at *
      clear h_p_Cells
      simp (maxSteps := 9999999) only [x74, push_cast, simprocAttr]
      have b := planB_at hpre
      rw [wrapI (n := p_W * 64) (by omega) (by omega), wrapI (n := p_H * 64) (by omega) (by omega)]
      unfold inPlan
      rw [Bool.eq_iff_iff]
      simp only [Bool.and_eq_true, decide_eq_true_eq]
      omega
    · cases hg_
  · cases hg_
noncomputable def g41 : Con := fun args_ E_ nn_ => match args_ with
  | [.a [.v (.int .i64 p_W), .v (.int .i64 p_H), .n p_Cells], .a [.v (.int .i64 at_X), .v (.int .i64 at_Y)], .c (.v (.int .i64 radius))] => (match rowOf E_ p_Cells with
    | some (p_Cells_n, p_Cells_s, p_Cells_f) => some (.q (isRow eU8 p_Cells_n p_Cells_s p_Cells_f ∧ u8s (decL eU8 p_Cells_n p_Cells_f) ∧ radius = 20) (.o (.c (.v (.bool (fitB p_W p_H (decL eU8 p_Cells_n p_Cells_f) at_X at_Y))))))
    | none => none)
  | _ => none
theorem c41 : COk Tryz.prog 41 g41 := by
  refine cok_q Tryz.func41 x41_ok (by kernel_rfl) (cok_tab (cok_cons c69 (cok_cons c39 (cok_cons c70 (cok_cons c71 (cok_cons c72 (cok_cons c73 (cok_cons c74 cok_nil)))))))) ?_
  intro args_ E_ nn_ cr_ hg_
  unfold g41 at hg_
  split at hg_
  · rename_i p_W p_H p_Cells at_X at_Y radius
    split at hg_
    · rename_i p_Cells_n p_Cells_s p_Cells_f h_p_Cells
      cases hg_
      refine ⟨_, _, rfl, 1, [p_Cells], [.a [.v (.int .i64 p_W), .v (.int .i64 p_H), .n 0], .a [.v (.int .i64 at_X), .v (.int .i64 at_Y)], .c (.v (.int .i64 radius))], [(0, .ro (decL eU8 p_Cells_n p_Cells_f).length eU8.sz (rowF eU8 (decL eU8 p_Cells_n p_Cells_f)))], .o (.c (.v (.bool (fitB p_W p_H (decL eU8 p_Cells_n p_Cells_f) at_X at_Y)))), rfl, rfl, and3 (by simp only [push_cast, Nat.reduceLT, Nat.reduceAdd]) ⟨rfl, ⟨inE0_row h_p_Cells, trivial⟩, rfl, ?_⟩⟩
      intro hpre hlen
      obtain ⟨i_p_Cells, hpre⟩ := hpre
      refine ⟨⟨inE_row h_p_Cells i_p_Cells, trivial⟩, ?_⟩
      have z_p_Cells := lens_row (E := eU8) hlen h_p_Cells
      clear i_p_Cells
      generalize decL eU8 p_Cells_n p_Cells_f = p_CellsL at *
      clear h_p_Cells
      obtain ⟨hu, rfl⟩ := hpre
      simp (maxSteps := 9999999) only [x41, push_cast, simprocAttr, g69, g39, g70, g71, g72, g73, g74]
      refine ⟨fun h => ⟨h, hu⟩, fun h => ?_, fun h1 h2 => ?_⟩
      · symm; rw [Bool.eq_false_iff]; intro q
        obtain ⟨q1, q2, _⟩ := fit_iff.1 q
        rcases h with h | h
        · rw [pPt_iff.2 q2] at h; cases h
        · exact h (ckV_ok.2 q1)
      have hb := ckV_ok.1 h2
      have hq := pPt_iff.1 h1
      have hp : planB p_W p_H p_CellsL = true := by unfold buildB at hb; rw [Bool.and_eq_true] at hb; exact hb.1
      rw [wrapI (n := at_Y - 20) (by omega) (by omega), wrapI (n := (at_Y - 20) / 64 - 1) (by omega) (by omega)]
      have hlow : ∀ x y, (x < (at_X - 20) / 64 - 1 ∨ y < (at_Y - 20) / 64 - 1 ∨ (at_X + 20) / 64 + 1 < x ∨ (at_Y + 20) / 64 + 1 < y) → (sqB x y && hitW p_W p_H p_CellsL at_X at_Y at_X at_Y x y) = false := by
        intro x y h
        rw [Bool.eq_false_iff]; intro q
        rw [Bool.and_eq_true] at q
        have := hit_rng q.2
        omega
      have r1 : -20000 ≤ (at_X - 20) / 64 - 1 ∧ (at_X - 20) / 64 - 1 ≤ (at_X + 20) / 64 + 1 ∧ (at_X + 20) / 64 + 1 ≤ 20000 := by omega
      have r2 : -20000 ≤ (at_Y - 20) / 64 - 1 ∧ (at_Y - 20) / 64 - 1 ≤ (at_Y + 20) / 64 + 1 ∧ (at_Y + 20) / 64 + 1 ≤ 20000 := by omega
      generalize eX0 : (at_X - 20) / 64 - 1 = X0 at *
      generalize eY0 : (at_Y - 20) / 64 - 1 = Y0 at *
      generalize eX1 : (at_X + 20) / 64 + 1 = X1 at *
      generalize eY1 : (at_Y + 20) / 64 + 1 = Y1 at *
      refine vcLoop_upd (α := {k : Nat // Y0 + k ≤ Y1 + 1 ∧ ∀ x y, y < Y0 + k → (sqB x y && hitW p_W p_H p_CellsL at_X at_Y at_X at_Y x y) = false}) [2, 3, 4] 0 (fun s => [(9, .o (.c (.v (.int .i64 (Y0 + (s.1 : Nat))))))]) (fun s => []) (fun s => (Y1 + 1 - Y0).toNat - s.1) ⟨0, by omega, fun x y h => hlow x y (.inr (.inl (by omega)))⟩ ?_ ?_
      · simp only [push_cast, simprocAttr, g69, g39, g70, g71, g72, g73, g74, Int.add_zero]
      rintro ⟨k, hk, z⟩
      simp only [x41L1, push_cast, simprocAttr, g69, g39, g70, g71, g72, g73, g74]
      rw [wrapI (n := at_Y + 20) (by omega) (by omega), wrapI (n := (at_Y + 20) / 64 + 1) (by omega) (by omega), wrapI (n := at_X - 20) (by omega) (by omega), wrapI (n := (at_X - 20) / 64 - 1) (by omega) (by omega), eX0, eY1]
      refine ⟨fun hlt => ?_, fun hge => ?_⟩
      · refine vcLoop_upd (α := {i : Nat // X0 + i ≤ X1 + 1 ∧ ∀ x, x < X0 + i → (sqB x (Y0 + k) && hitW p_W p_H p_CellsL at_X at_Y at_X at_Y x (Y0 + k)) = false}) [2, 3, 4, 9] 0 (fun s => [(10, .o (.c (.v (.int .i64 (X0 + (s.1 : Nat))))))]) (fun s => []) (fun s => (X1 + 1 - X0).toNat - s.1) ⟨0, by omega, fun x h => hlow x _ (.inl (by omega))⟩ ?_ ?_
        · simp only [push_cast, simprocAttr, g69, g39, g70, g71, g72, g73, g74, Int.add_zero]
        rintro ⟨i, hi, zi⟩
        simp only [x41L0, push_cast, simprocAttr, g69, g39, g70, g71, g72, g73, g74]
        rw [wrapI (n := at_X + 20) (by omega) (by omega), wrapI (n := (at_X + 20) / 64 + 1) (by omega) (by omega), eX1]
        have h400 : IntKind.i64.wrap 400 = 400 := by decide
        rw [h400]
        have hstep : X0 + (i : Int) ≤ X1 → (sqB (X0 + (i : Int)) (Y0 + k) && hitW p_W p_H p_CellsL at_X at_Y at_X at_Y (X0 + (i : Int)) (Y0 + k)) = false → ∃ y : {i : Nat // X0 + i ≤ X1 + 1 ∧ ∀ x, x < X0 + i → (sqB x (Y0 + k) && hitW p_W p_H p_CellsL at_X at_Y at_X at_Y x (Y0 + k)) = false}, IntKind.i64.wrap (X0 + (i : Int) + 1) = X0 + (y.val : Nat) ∧ (X1 + 1 - X0).toNat - y.val < (X1 + 1 - X0).toNat - i := fun hle hz =>
          ⟨⟨i + 1, by omega, fun x hx => by rcases (by omega : x < X0 + (i : Int) ∨ x = X0 + (i : Int)) with q | q; exact zi x q; rw [q]; exact hz⟩, by rw [wrapI (by omega) (by omega)]; simp only; omega, by simp only; omega⟩
        refine ⟨fun hle => ?_, fun hgt => ⟨⟨k + 1, by omega, fun x y hy => ?_⟩, by rw [wrapI (by omega) (by omega)]; simp only; omega, by simp only; omega⟩⟩
        · have e := hit_pt (W := p_W) (H := p_H) (L := p_CellsL) hq.1 hq.2 (cx := X0 + (i : Int)) (cy := Y0 + (k : Int)) (by omega) (by omega)
          cases hs : sqB (X0 + (i : Int)) (Y0 + (k : Int))
          · exact ⟨fun h => (by cases h), fun h => (by cases h), fun h => (by cases h), fun _ => hstep hle (by rw [hs]; rfl)⟩
          · simp only [mI_t, true_implies, true_and]
            refine ⟨hp, fun h => ⟨h, by simp only [sPtB, nearB, Bool.and_eq_true, decide_eq_true_eq]; omega, by simp only [sRectB, nearB, Bool.and_eq_true, decide_eq_true_eq]; omega⟩, fun ha hg => ?_, fun hn => hstep hle ?_⟩
            · rw [fit_no (cx := X0 + (i : Int)) (cy := Y0 + (k : Int)) (by rw [e, decide_eq_true ha, decide_eq_true hg]; rfl)]
            · rw [hs, e]
              exact hn
        · rcases (by omega : y < Y0 + (k : Int) ∨ y = Y0 + (k : Int)) with q | q
          · exact z x y q
          · rcases (by omega : x < X0 + (i : Int) ∨ X1 < x) with q2 | q2
            · rw [q]; exact zi x q2
            · exact hlow x y (.inr (.inr (.inl q2)))
      refine ⟨hp, (fit_end hb hq fun x y => ?_).symm⟩
      rcases (by omega : y < Y0 + (k : Int) ∨ Y1 < y) with q | q
      · exact z x y q
      · exact hlow x y (.inr (.inr (.inr q)))
    · cases hg_
  · cases hg_
end Go.Proofs.YtkpdofgmmpbknaaGreat
