/- A part of the proof of a statement about this seat: how a function is stepped through, and plain laws. No conditions. -/
import Derived.Test.YtiijdbpncpdmdaaGreatRows
import Derived.Test.YtiijdbpncpdmdaaGreatRBSz4
import Derived.Test.YtiijdbpncpdmdaaGreatRBB3
import Derived.KernelRfl
set_option linter.unusedVariables false
set_option linter.unusedSimpArgs false
set_option maxRecDepth 20000
namespace Go.Proofs.YtiijdbpncpdmdaaGreat
open Go.Sx Go.Way
def x14 : XFn := ⟨17, (.seq (.reg false [K1 2 .mv (.pointer none)]) (.seq (.seq (.reg false [O1 4 .mv 0, ⟨(some 5), (.x (.eqP false)), [(.t 4), (.k (.pointer none))], none⟩]) (.cond (.t 5) (.seq (.reg false [K1 2 .mv (.pointer none)]) .ret) .skip)) (.seq (.reg false [O1 6 .mv 0, O1 7 .nilc 6, O1 8 (.loadN 12) 7, ⟨(some 3), (.alloc 78 [(iV 0), (iV 0), (.slice none 0 0), (iV 0), (iV 0), (iV 0), (iV 0), (iV 0), (iV 0), (iV 0), (iV 0), (iV 0)]), [], none⟩, ⟨none, (.store 12), [(.t 3), (.t 8)], none⟩]) (.seq (.reg false [O1 9 .mv 0, O1 10 .nilc 9, O1 11 (.fld 0) 10, O1 12 (.fld 2) 11, O1 13 .load1 12, O1 14 (.call 28) 13, O1 15 (.fld 0) 3, O1 16 (.fld 2) 15, ⟨none, (.store 1), [(.t 16), (.t 14)], none⟩]) (.seq (.reg false [O1 2 .mv 3]) .ret))))), [(.s 2)]⟩
theorem x14_ok : xfn Tryz.prog Tryz.f14 = some x14.er := by kernel_rfl
def x3L0 : XC := (.seq (.seq (.reg false [O1 96 .mv 10, O1 97 (.fld 2) 5, O1 98 .load1 97, O1 99 .lenS 98, O2 100 (.bin .lss) 96 99]) (.cond (.t 100) .skip (.exit 0))) (.seq (.block 1 (.reg false [O1 103 (.fld 2) 5, O1 104 .load1 103, O1 105 .mv 10, O2 106 (.ixS 1) 104 105, ⟨none, (.store 1), [(.t 106), (.k (.int .u8 2))], none⟩])) (.reg false [O1 101 .mv 10, K2 102 (.bin .add) 101 (iV 1), O1 10 .mv 102])))
def x3L1 : XC := (.seq (.seq (.reg false [O1 107 .mv 11, O1 108 .mv 1, O1 109 .lenS 108, O2 110 (.bin .lss) 107 109]) (.cond (.t 110) .skip (.exit 2))) (.seq (.opn 1 11 7 (.opn 1 11 6 (.block 3 (.seq (.reg false [O1 113 .mv 6, O1 114 (.call 14) 113, O1 12 .mv 114]) (.seq (.regD [O1 116 (.loadN 12) 8, O1 117 .mv 1, O1 118 .mv 11, O2 119 (.ixS 8) 117 118, O1 120 (.loadN 8) 119, O2 121 (.call 15) 116 120, O1 115 .mv 121, O1 122 (.ext 0) 115, O1 123 (.ext 1) 115, O1 124 (.ext 2) 115, ⟨(some 13), (.alloc 39 [(iV 0), (iV 0), (.slice none 0 0), (iV 0), (iV 0), (iV 0), (iV 0), (iV 0), (iV 0), (iV 0), (iV 0), (iV 0)]), [], none⟩, ⟨(some 14), (.alloc 50 [(iV 0), (iV 0), (iV 0), (.bool false), (.slice none 0 0)]), [], none⟩, ⟨none, (.store 12), [(.t 13), (.t 122)], none⟩, ⟨none, (.store 5), [(.t 14), (.t 123)], none⟩, O1 15 .mv 124] [[], [], [], [1, 2], [3, 1, 2], [0, 4, 3, 1, 2], [5, 0, 4, 3, 1, 2], [6, 5, 0, 4, 3, 1, 2], [6, 5, 0, 4, 3, 1, 2], [6, 5, 0, 4, 3, 1, 2], [], [], [10, 7, 6, 5, 0, 4, 3, 1, 2, 11], [11, 8, 6, 5, 0, 4, 3, 1, 2, 12, 10, 7], [9, 6, 5, 0, 4, 3, 1, 2, 13, 11, 8, 12, 10, 7]]) (.seq (.reg false [O1 126 .mv 6, O1 127 .mv 1, O1 128 .mv 11, O2 129 (.ixS 8) 127 128, O1 130 (.loadN 8) 129, O2 131 (.call 16) 126 130, O1 125 .mv 131, O1 132 (.ext 0) 125, O1 133 (.ext 1) 125, ⟨(some 16), (.alloc 50 [(iV 0), (iV 0), (iV 0), (.bool false), (.slice none 0 0)]), [], none⟩, ⟨none, (.store 5), [(.t 16), (.t 132)], none⟩, O1 17 .mv 133]) (.seq (.seq (.regD [O1 134 .mv 17, O1 135 .mv 15, O2 136 (.bin .neq) 134 135, O1 137 .mv 136, G1 138 (.loadN 5) 14 137 false, G1 139 (.loadN 5) 16 137 false, G2 140 (.call 17) 138 139 137 false, G1 141 (.un .not) 140 137 false, ⟨(some 142), .pick, [(.t 137), (.k (.bool true)), (.t 141)], none⟩, O1 143 .mv 142, G1 144 .mv 12 143 false, G1 145 (.call 11) 144 143 false, G1 146 (.fld 7) 8 143 false, G1 147 (.loadN 3) 146 143 false, ⟨(some 148), (.eqA true [(.i .i64), (.i .i64), (.i .i64)]), [(.t 145), (.t 147)], (some (143, false))⟩, ⟨(some 149), .pick, [(.t 143), (.k (.bool true)), (.t 148)], none⟩, O1 150 .mv 149, G1 151 .mv 12 150 false, G1 152 (.call 12) 151 150 false, G1 153 (.fld 10) 8 150 false, G1 154 .load1 153 150 false, G2 155 (.bin .neq) 152 154 150 false, ⟨(some 156), .pick, [(.t 150), (.k (.bool true)), (.t 155)], none⟩] [[], [], [0, 1], [2, 0, 1], [3, 2, 0, 1], [3, 2, 0, 1], [4, 3, 2, 0, 1, 5], [6, 4, 3, 2, 0, 1, 5], [3, 2, 0, 1, 7, 6, 4, 5], [8, 3, 2, 0, 1, 7, 6, 4, 5], [9, 8, 3, 2, 0, 1, 7, 6, 4, 5], [10, 9, 8, 3, 2, 0, 1, 7, 6, 4, 5], [9, 8, 3, 2, 0, 1, 7, 6, 4, 5], [12, 9, 8, 3, 2, 0, 1, 7, 6, 4, 5], [11, 10, 9, 8, 3, 2, 0, 1, 7, 6, 4, 5, 13, 12], [9, 8, 3, 2, 0, 1, 7, 6, 4, 5, 14, 11, 10, 13, 12], [15, 9, 8, 3, 2, 0, 1, 7, 6, 4, 5, 14, 11, 10, 13, 12], [16, 15, 9, 8, 3, 2, 0, 1, 7, 6, 4, 5, 14, 11, 10, 13, 12], [17, 16, 15, 9, 8, 3, 2, 0, 1, 7, 6, 4, 5, 14, 11, 10, 13, 12], [16, 15, 9, 8, 3, 2, 0, 1, 7, 6, 4, 5, 14, 11, 10, 13, 12], [19, 16, 15, 9, 8, 3, 2, 0, 1, 7, 6, 4, 5, 14, 11, 10, 13, 12], [18, 17, 16, 15, 9, 8, 3, 2, 0, 1, 7, 6, 4, 5, 14, 11, 10, 13, 12, 20, 19], [16, 15, 9, 8, 3, 2, 0, 1, 7, 6, 4, 5, 14, 11, 10, 13, 12, 21, 18, 17, 20, 19]]) (.cond (.t 156) (.seq (.reg false [K1 4 .mv (.bool false)]) .ret) .skip)) (.seq (.reg false [O1 157 (.loadN 12) 13, ⟨none, (.store 12), [(.t 8), (.t 157)], none⟩]) (.seq (.regD [O1 158 .mv 6, O1 159 (.call 11) 158, O1 160 (.fld 7) 8, O1 161 (.loadN 3) 160, ⟨(some 162), (.eqA true [(.i .i64), (.i .i64), (.i .i64)]), [(.t 159), (.t 161)], none⟩, O1 163 .mv 162, G1 164 .mv 6 163 false, G1 165 (.call 12) 164 163 false, G1 166 (.fld 10) 8 163 false, G1 167 .load1 166 163 false, G2 168 (.bin .neq) 165 167 163 false, ⟨(some 169), .pick, [(.t 163), (.k (.bool true)), (.t 168)], none⟩, O1 170 .mv 169, G1 171 .mv 6 170 false, G1 172 (.call 13) 171 170 false, G1 173 (.fld 11) 8 170 false, G1 174 .load1 173 170 false, G2 175 (.bin .neq) 172 174 170 false, ⟨(some 176), .pick, [(.t 170), (.k (.bool true)), (.t 175)], none⟩] [[], [0], [], [2], [1, 0, 3, 2], [4, 1, 0, 3, 2], [5, 4, 1, 0, 3, 2], [6, 5, 4, 1, 0, 3, 2], [5, 4, 1, 0, 3, 2], [8, 5, 4, 1, 0, 3, 2], [7, 6, 5, 4, 1, 0, 3, 2, 9, 8], [5, 4, 1, 0, 3, 2, 10, 7, 6, 9, 8], [11, 5, 4, 1, 0, 3, 2, 10, 7, 6, 9, 8], [12, 11, 5, 4, 1, 0, 3, 2, 10, 7, 6, 9, 8], [13, 12, 11, 5, 4, 1, 0, 3, 2, 10, 7, 6, 9, 8], [12, 11, 5, 4, 1, 0, 3, 2, 10, 7, 6, 9, 8], [15, 12, 11, 5, 4, 1, 0, 3, 2, 10, 7, 6, 9, 8], [14, 13, 12, 11, 5, 4, 1, 0, 3, 2, 10, 7, 6, 9, 8, 16, 15], [12, 11, 5, 4, 1, 0, 3, 2, 10, 7, 6, 9, 8, 17, 14, 13, 16, 15]]) (.cond (.t 176) (.seq (.reg false [K1 4 .mv (.bool false)]) .ret) .skip)))))))))) (.reg false [O1 111 .mv 11, K2 112 (.bin .add) 111 (iV 1), O1 11 .mv 112])))
def x3 : XFn := ⟨182, (.seq (.reg false [O1 2 (.box 30) 0, K1 4 .mv (.bool false)]) (.seq (.seq (.reg false [⟨(some 18), (.call 6), [], none⟩, O1 19 (.un .not) 18, O1 20 .mv 19, G1 21 (.loadN 10) 2 20 false, G1 22 .mv 1 20 false, G2 23 (.call 7) 21 22 20 false, G1 24 (.un .not) 23 20 false, ⟨(some 25), .pick, [(.t 20), (.k (.bool true)), (.t 24)], none⟩]) (.cond (.t 25) (.seq (.reg false [⟨(some 26), (.call 6), [], none⟩, O1 4 .mv 26]) .ret) .skip)) (.seq (.regD [O1 27 (.fld 0) 2, O1 28 (.fld 0) 27, O1 29 .load1 28, O1 30 (.fld 0) 2, O1 31 (.fld 1) 30, O1 32 .load1 31, ⟨(some 33), (.slit 5 0 1 [] []), [], none⟩, O1 34 (.fld 0) 2, O1 35 (.fld 2) 34, O1 36 .load1 35, O2 37 (.app 5 1 1) 33 36, ⟨(some 38), (.build [(iV 0), (iV 0), (.slice none 0 0)] [(0, 1), (1, 1), (2, 1)]), [(.t 29), (.t 32), (.t 37)], none⟩, ⟨(some 5), (.alloc 24 [(iV 0), (iV 0), (.slice none 0 0)]), [], none⟩, ⟨none, (.store 3), [(.t 5), (.t 38)], none⟩] [[], [0], [1, 0], [], [3], [4, 3], [], [], [7], [8, 7], [6, 9, 8, 7], [2, 1, 0, 5, 4, 3, 10, 6, 9, 8, 7], [], [12, 11, 2, 1, 0, 5, 4, 3, 10, 6, 9, 8, 7]]) (.seq (.reg false [O1 40 (.loadN 3) 5, O1 41 (.fld 3) 2, O1 42 (.loadN 4) 41, O1 43 (.fld 7) 2, O1 44 (.loadN 3) 43, ⟨(some 45), (.call 8), [(.t 40), (.t 42), (.t 44)], none⟩, O1 39 .mv 45, O1 46 (.ext 0) 39, O1 47 (.ext 1) 39, O1 6 .mv 46, O1 7 .mv 47]) (.seq (.reg false [O1 49 (.fld 0) 2, O1 50 (.loadN 3) 49, O1 51 (.fld 3) 2, O1 52 (.loadN 4) 51, O1 53 (.fld 7) 2, O1 54 (.loadN 3) 53, ⟨(some 55), (.call 9), [(.t 50), (.t 52), (.t 54)], none⟩, O1 48 .mv 55, O1 56 (.ext 0) 48, O1 57 (.ext 1) 48, ⟨(some 8), (.alloc 39 [(iV 0), (iV 0), (.slice none 0 0), (iV 0), (iV 0), (iV 0), (iV 0), (iV 0), (iV 0), (iV 0), (iV 0), (iV 0)]), [], none⟩, ⟨none, (.store 12), [(.t 8), (.t 56)], none⟩, O1 9 .mv 57]) (.seq (.seq (.reg false [O1 58 .mv 7, O1 59 .mv 9, O2 60 (.bin .neq) 58 59, O1 61 .mv 60, G1 62 .mv 6 61 false, ⟨(some 63), (.x (.eqP false)), [(.t 62), (.k (.pointer none))], (some (61, false))⟩, G1 64 .mv 9 61 false, GK 65 (.bin .neq) 64 (iV 0) 61 false, G2 66 (.binb .neq) 63 65 61 false, ⟨(some 67), .pick, [(.t 61), (.k (.bool true)), (.t 66)], none⟩, O1 68 .mv 67, G1 69 (.loadN 3) 5 68 false, G1 70 (.fld 0) 2 68 false, G1 71 (.loadN 3) 70 68 false, G2 72 (.call 10) 69 71 68 false, G1 73 (.un .not) 72 68 false, ⟨(some 74), .pick, [(.t 68), (.k (.bool true)), (.t 73)], none⟩]) (.cond (.t 74) (.seq (.reg false [K1 4 .mv (.bool false)]) .ret) .skip)) (.seq (.seq (.reg false [O1 75 .mv 9, K2 76 (.bin .neq) 75 (iV 0)]) (.cond (.t 76) (.seq (.reg false [O1 77 .mv 6, O1 78 (.call 11) 77, ⟨(some 79), (.build [(iV 0), (iV 0), (iV 0)] []), [], none⟩, ⟨(some 80), (.eqA false [(.i .i64), (.i .i64), (.i .i64)]), [(.t 78), (.t 79)], none⟩, O1 81 .mv 80, G1 82 .mv 6 81 true, G1 83 (.call 12) 82 81 true, GK 84 (.bin .eql) 83 (iV 0) 81 true, ⟨(some 85), .pick, [(.t 81), (.t 84), (.k (.bool false))], none⟩, O1 86 .mv 85, G1 87 .mv 6 86 true, G1 88 (.call 13) 87 86 true, GK 89 (.bin .eql) 88 (iV 0) 86 true, ⟨(some 90), .pick, [(.t 86), (.t 89), (.k (.bool false))], none⟩, O1 91 .mv 90, G1 92 .mv 6 91 true, G1 93 (.call 14) 92 91 true, ⟨(some 94), (.x (.eqP false)), [(.t 93), (.k (.pointer none))], (some (91, true))⟩, ⟨(some 95), .pick, [(.t 91), (.t 94), (.k (.bool false))], none⟩, O1 4 .mv 95]) .ret) .skip)) (.seq (.seq (.reg false [K1 10 .mv (iV 0)]) (.block 0 (.loop x3L0))) (.seq (.seq (.reg false [K1 11 .mv (iV 0)]) (.block 2 (.loop x3L1))) (.seq (.regD [O1 177 .mv 6, O1 178 (.call 11) 177, O1 179 (.fld 7) 8, O1 180 (.loadN 3) 179, ⟨(some 181), (.eqA false [(.i .i64), (.i .i64), (.i .i64)]), [(.t 178), (.t 180)], none⟩, O1 4 .mv 181] [[], [0], [], [2], [1, 0, 3, 2], [4, 1, 0, 3, 2]]) .ret)))))))))), [(.s 4)]⟩
theorem x3_ok : xfn Tryz.prog Tryz.f3 = some x3.er := by kernel_rfl
def g11z : Con := fun args_ E_ nn_ => match args_ with
  | [.c (.v (.pointer none))] => some (.q (True) (.o (.a [.v (.int .i64 (0)), .v (.int .i64 (0)), .v (.int .i64 (0))])))
  | _ => none
theorem c11z : COk Tryz.prog 11 g11z := by
  refine cok_q Tryz.func11 x11_ok (by kernel_rfl) (cok_tab cok_nil) ?_
  intro args_ E_ nn_ cr_ hg_
  unfold g11z at hg_
  split at hg_
  · skip
    cases hg_
    refine ⟨_, _, rfl, 0, [], [.c (.v (.pointer none))], [], .o (.a [.v (.int .i64 (0)), .v (.int .i64 (0)), .v (.int .i64 (0))]), rfl, rfl, and3 (by simp only [push_cast, simprocAttr]) ⟨rfl, trivial, rfl, ?_⟩⟩
    intro hpre hlen
    refine ⟨trivial, ?_⟩
    simp (maxSteps := 9999999) only [x11, push_cast, simprocAttr]
  · cases hg_
def g12z : Con := fun args_ E_ nn_ => match args_ with
  | [.c (.v (.pointer none))] => some (.q (True) (.o (.c (.v (.int .i64 (0))))))
  | _ => none
theorem c12z : COk Tryz.prog 12 g12z := by
  refine cok_q Tryz.func12 x12_ok (by kernel_rfl) (cok_tab cok_nil) ?_
  intro args_ E_ nn_ cr_ hg_
  unfold g12z at hg_
  split at hg_
  · skip
    cases hg_
    refine ⟨_, _, rfl, 0, [], [.c (.v (.pointer none))], [], .o (.c (.v (.int .i64 (0)))), rfl, rfl, and3 (by simp only [push_cast, simprocAttr]) ⟨rfl, trivial, rfl, ?_⟩⟩
    intro hpre hlen
    refine ⟨trivial, ?_⟩
    simp (maxSteps := 9999999) only [x12, push_cast, simprocAttr]
  · cases hg_
def g13z : Con := fun args_ E_ nn_ => match args_ with
  | [.c (.v (.pointer none))] => some (.q (True) (.o (.c (.v (.int .i64 (0))))))
  | _ => none
theorem c13z : COk Tryz.prog 13 g13z := by
  refine cok_q Tryz.func13 x13_ok (by kernel_rfl) (cok_tab cok_nil) ?_
  intro args_ E_ nn_ cr_ hg_
  unfold g13z at hg_
  split at hg_
  · skip
    cases hg_
    refine ⟨_, _, rfl, 0, [], [.c (.v (.pointer none))], [], .o (.c (.v (.int .i64 (0)))), rfl, rfl, and3 (by simp only [push_cast, simprocAttr]) ⟨rfl, trivial, rfl, ?_⟩⟩
    intro hpre hlen
    refine ⟨trivial, ?_⟩
    simp (maxSteps := 9999999) only [x13, push_cast, simprocAttr]
  · cases hg_
def g14z : Con := fun args_ E_ nn_ => match args_ with
  | [.c (.v (.pointer none))] => some (.q (True) (.o (.c (.v (.pointer none)))))
  | _ => none
theorem c14z : COk Tryz.prog 14 g14z := by
  refine cok_q Tryz.func14 x14_ok (by kernel_rfl) (cok_tab (cok_cons c28 cok_nil)) ?_
  intro args_ E_ nn_ cr_ hg_
  unfold g14z at hg_
  split at hg_
  · skip
    cases hg_
    refine ⟨_, _, rfl, 0, [], [.c (.v (.pointer none))], [], .o (.c (.v (.pointer none))), rfl, rfl, and3 (by simp only [push_cast, simprocAttr]) ⟨rfl, trivial, rfl, ?_⟩⟩
    intro hpre hlen
    refine ⟨trivial, ?_⟩
    simp (maxSteps := 9999999) only [x14, push_cast, simprocAttr, g28]
  · cases hg_
def g14 : Con := fun args_ E_ nn_ => match args_ with
  | [.c (.p r 0)] => (match E_ r with
    | some (.box [.v (.int .i64 r_plan_W), .v (.int .i64 r_plan_H), .n r_plan_Cells, .v (.int .i64 r_bounds_Turn), .v (.int .i64 r_bounds_Length), .v (.int .i64 r_bounds_Slip), .v (.int .i64 r_bounds_Range), .v (.int .i64 r_at_X), .v (.int .i64 r_at_Y), .v (.int .i64 r_at_H), .v (.int .i64 r_ticks), .v (.int .i64 r_bumps)] r_ty) => (match rowOf E_ r_plan_Cells with
    | some (r_plan_Cells_n, r_plan_Cells_s, r_plan_Cells_f) => some (.e (isRow eU8 r_plan_Cells_n r_plan_Cells_s r_plan_Cells_f ∧ ((decL eU8 r_plan_Cells_n r_plan_Cells_f)).length ≤ 100000) (.o (.c (.p (nn_ + 0) 0))) [((nn_ + 0), .box [.v (.int .i64 (((⟨r_plan_W, r_plan_H, (decL eU8 r_plan_Cells_n r_plan_Cells_f), r_bounds_Turn, r_bounds_Length, r_bounds_Slip, r_bounds_Range, r_at_X, r_at_Y, r_at_H, r_ticks, r_bumps⟩ : RobS)).W)), .v (.int .i64 (((⟨r_plan_W, r_plan_H, (decL eU8 r_plan_Cells_n r_plan_Cells_f), r_bounds_Turn, r_bounds_Length, r_bounds_Slip, r_bounds_Range, r_at_X, r_at_Y, r_at_H, r_ticks, r_bumps⟩ : RobS)).H)), .n (nn_ + 1), .v (.int .i64 (((⟨r_plan_W, r_plan_H, (decL eU8 r_plan_Cells_n r_plan_Cells_f), r_bounds_Turn, r_bounds_Length, r_bounds_Slip, r_bounds_Range, r_at_X, r_at_Y, r_at_H, r_ticks, r_bumps⟩ : RobS)).bT)), .v (.int .i64 (((⟨r_plan_W, r_plan_H, (decL eU8 r_plan_Cells_n r_plan_Cells_f), r_bounds_Turn, r_bounds_Length, r_bounds_Slip, r_bounds_Range, r_at_X, r_at_Y, r_at_H, r_ticks, r_bumps⟩ : RobS)).bL)), .v (.int .i64 (((⟨r_plan_W, r_plan_H, (decL eU8 r_plan_Cells_n r_plan_Cells_f), r_bounds_Turn, r_bounds_Length, r_bounds_Slip, r_bounds_Range, r_at_X, r_at_Y, r_at_H, r_ticks, r_bumps⟩ : RobS)).bS)), .v (.int .i64 (((⟨r_plan_W, r_plan_H, (decL eU8 r_plan_Cells_n r_plan_Cells_f), r_bounds_Turn, r_bounds_Length, r_bounds_Slip, r_bounds_Range, r_at_X, r_at_Y, r_at_H, r_ticks, r_bumps⟩ : RobS)).bR)), .v (.int .i64 (((⟨r_plan_W, r_plan_H, (decL eU8 r_plan_Cells_n r_plan_Cells_f), r_bounds_Turn, r_bounds_Length, r_bounds_Slip, r_bounds_Range, r_at_X, r_at_Y, r_at_H, r_ticks, r_bumps⟩ : RobS)).x)), .v (.int .i64 (((⟨r_plan_W, r_plan_H, (decL eU8 r_plan_Cells_n r_plan_Cells_f), r_bounds_Turn, r_bounds_Length, r_bounds_Slip, r_bounds_Range, r_at_X, r_at_Y, r_at_H, r_ticks, r_bumps⟩ : RobS)).y)), .v (.int .i64 (((⟨r_plan_W, r_plan_H, (decL eU8 r_plan_Cells_n r_plan_Cells_f), r_bounds_Turn, r_bounds_Length, r_bounds_Slip, r_bounds_Range, r_at_X, r_at_Y, r_at_H, r_ticks, r_bumps⟩ : RobS)).h)), .v (.int .i64 (((⟨r_plan_W, r_plan_H, (decL eU8 r_plan_Cells_n r_plan_Cells_f), r_bounds_Turn, r_bounds_Length, r_bounds_Slip, r_bounds_Range, r_at_X, r_at_Y, r_at_H, r_ticks, r_bumps⟩ : RobS)).ticks)), .v (.int .i64 (((⟨r_plan_W, r_plan_H, (decL eU8 r_plan_Cells_n r_plan_Cells_f), r_bounds_Turn, r_bounds_Length, r_bounds_Slip, r_bounds_Range, r_at_X, r_at_Y, r_at_H, r_ticks, r_bumps⟩ : RobS)).bumps))] 78), ((nn_ + 1), .own ((decL eU8 r_plan_Cells_n r_plan_Cells_f)).length 1 (rowF eU8 ((decL eU8 r_plan_Cells_n r_plan_Cells_f))) 5), (r, .box [.v (.int .i64 (((⟨r_plan_W, r_plan_H, (decL eU8 r_plan_Cells_n r_plan_Cells_f), r_bounds_Turn, r_bounds_Length, r_bounds_Slip, r_bounds_Range, r_at_X, r_at_Y, r_at_H, r_ticks, r_bumps⟩ : RobS)).W)), .v (.int .i64 (((⟨r_plan_W, r_plan_H, (decL eU8 r_plan_Cells_n r_plan_Cells_f), r_bounds_Turn, r_bounds_Length, r_bounds_Slip, r_bounds_Range, r_at_X, r_at_Y, r_at_H, r_ticks, r_bumps⟩ : RobS)).H)), .n r_plan_Cells, .v (.int .i64 (((⟨r_plan_W, r_plan_H, (decL eU8 r_plan_Cells_n r_plan_Cells_f), r_bounds_Turn, r_bounds_Length, r_bounds_Slip, r_bounds_Range, r_at_X, r_at_Y, r_at_H, r_ticks, r_bumps⟩ : RobS)).bT)), .v (.int .i64 (((⟨r_plan_W, r_plan_H, (decL eU8 r_plan_Cells_n r_plan_Cells_f), r_bounds_Turn, r_bounds_Length, r_bounds_Slip, r_bounds_Range, r_at_X, r_at_Y, r_at_H, r_ticks, r_bumps⟩ : RobS)).bL)), .v (.int .i64 (((⟨r_plan_W, r_plan_H, (decL eU8 r_plan_Cells_n r_plan_Cells_f), r_bounds_Turn, r_bounds_Length, r_bounds_Slip, r_bounds_Range, r_at_X, r_at_Y, r_at_H, r_ticks, r_bumps⟩ : RobS)).bS)), .v (.int .i64 (((⟨r_plan_W, r_plan_H, (decL eU8 r_plan_Cells_n r_plan_Cells_f), r_bounds_Turn, r_bounds_Length, r_bounds_Slip, r_bounds_Range, r_at_X, r_at_Y, r_at_H, r_ticks, r_bumps⟩ : RobS)).bR)), .v (.int .i64 (((⟨r_plan_W, r_plan_H, (decL eU8 r_plan_Cells_n r_plan_Cells_f), r_bounds_Turn, r_bounds_Length, r_bounds_Slip, r_bounds_Range, r_at_X, r_at_Y, r_at_H, r_ticks, r_bumps⟩ : RobS)).x)), .v (.int .i64 (((⟨r_plan_W, r_plan_H, (decL eU8 r_plan_Cells_n r_plan_Cells_f), r_bounds_Turn, r_bounds_Length, r_bounds_Slip, r_bounds_Range, r_at_X, r_at_Y, r_at_H, r_ticks, r_bumps⟩ : RobS)).y)), .v (.int .i64 (((⟨r_plan_W, r_plan_H, (decL eU8 r_plan_Cells_n r_plan_Cells_f), r_bounds_Turn, r_bounds_Length, r_bounds_Slip, r_bounds_Range, r_at_X, r_at_Y, r_at_H, r_ticks, r_bumps⟩ : RobS)).h)), .v (.int .i64 (((⟨r_plan_W, r_plan_H, (decL eU8 r_plan_Cells_n r_plan_Cells_f), r_bounds_Turn, r_bounds_Length, r_bounds_Slip, r_bounds_Range, r_at_X, r_at_Y, r_at_H, r_ticks, r_bumps⟩ : RobS)).ticks)), .v (.int .i64 (((⟨r_plan_W, r_plan_H, (decL eU8 r_plan_Cells_n r_plan_Cells_f), r_bounds_Turn, r_bounds_Length, r_bounds_Slip, r_bounds_Range, r_at_X, r_at_Y, r_at_H, r_ticks, r_bumps⟩ : RobS)).bumps))] r_ty), (r_plan_Cells, .ro ((decL eU8 r_plan_Cells_n r_plan_Cells_f)).length 1 (rowF eU8 ((decL eU8 r_plan_Cells_n r_plan_Cells_f))))] (nn_ + 2))
    | none => none)
    | _ => none)
  | _ => none
theorem c14 : COk Tryz.prog 14 g14 := by
  refine cok_d Tryz.func14 x14_ok (by kernel_rfl) (cok_tab (cok_cons c28 cok_nil)) ?_
  intro args_ E_ nn_ cr_ hg_
  unfold g14 at hg_
  split at hg_
  · rename_i r
    split at hg_
    · rename_i r_plan_W r_plan_H r_plan_Cells r_bounds_Turn r_bounds_Length r_bounds_Slip r_bounds_Range r_at_X r_at_Y r_at_H r_ticks r_bumps r_ty h_r
      split at hg_
      · rename_i r_plan_Cells_n r_plan_Cells_s r_plan_Cells_f h_r_plan_Cells
        cases hg_
        refine ⟨_, _, _, _, rfl, 2, [r, r_plan_Cells], [.c (.p 0 0)], [(0, .box [.v (.int .i64 r_plan_W), .v (.int .i64 r_plan_H), .n 1, .v (.int .i64 r_bounds_Turn), .v (.int .i64 r_bounds_Length), .v (.int .i64 r_bounds_Slip), .v (.int .i64 r_bounds_Range), .v (.int .i64 r_at_X), .v (.int .i64 r_at_Y), .v (.int .i64 r_at_H), .v (.int .i64 r_ticks), .v (.int .i64 r_bumps)] r_ty), (1, .ro (decL eU8 r_plan_Cells_n r_plan_Cells_f).length eU8.sz (rowF eU8 (decL eU8 r_plan_Cells_n r_plan_Cells_f)))], .o (.c (.p 2 0)), [(2, .box [.v (.int .i64 (((⟨r_plan_W, r_plan_H, (decL eU8 r_plan_Cells_n r_plan_Cells_f), r_bounds_Turn, r_bounds_Length, r_bounds_Slip, r_bounds_Range, r_at_X, r_at_Y, r_at_H, r_ticks, r_bumps⟩ : RobS)).W)), .v (.int .i64 (((⟨r_plan_W, r_plan_H, (decL eU8 r_plan_Cells_n r_plan_Cells_f), r_bounds_Turn, r_bounds_Length, r_bounds_Slip, r_bounds_Range, r_at_X, r_at_Y, r_at_H, r_ticks, r_bumps⟩ : RobS)).H)), .n 3, .v (.int .i64 (((⟨r_plan_W, r_plan_H, (decL eU8 r_plan_Cells_n r_plan_Cells_f), r_bounds_Turn, r_bounds_Length, r_bounds_Slip, r_bounds_Range, r_at_X, r_at_Y, r_at_H, r_ticks, r_bumps⟩ : RobS)).bT)), .v (.int .i64 (((⟨r_plan_W, r_plan_H, (decL eU8 r_plan_Cells_n r_plan_Cells_f), r_bounds_Turn, r_bounds_Length, r_bounds_Slip, r_bounds_Range, r_at_X, r_at_Y, r_at_H, r_ticks, r_bumps⟩ : RobS)).bL)), .v (.int .i64 (((⟨r_plan_W, r_plan_H, (decL eU8 r_plan_Cells_n r_plan_Cells_f), r_bounds_Turn, r_bounds_Length, r_bounds_Slip, r_bounds_Range, r_at_X, r_at_Y, r_at_H, r_ticks, r_bumps⟩ : RobS)).bS)), .v (.int .i64 (((⟨r_plan_W, r_plan_H, (decL eU8 r_plan_Cells_n r_plan_Cells_f), r_bounds_Turn, r_bounds_Length, r_bounds_Slip, r_bounds_Range, r_at_X, r_at_Y, r_at_H, r_ticks, r_bumps⟩ : RobS)).bR)), .v (.int .i64 (((⟨r_plan_W, r_plan_H, (decL eU8 r_plan_Cells_n r_plan_Cells_f), r_bounds_Turn, r_bounds_Length, r_bounds_Slip, r_bounds_Range, r_at_X, r_at_Y, r_at_H, r_ticks, r_bumps⟩ : RobS)).x)), .v (.int .i64 (((⟨r_plan_W, r_plan_H, (decL eU8 r_plan_Cells_n r_plan_Cells_f), r_bounds_Turn, r_bounds_Length, r_bounds_Slip, r_bounds_Range, r_at_X, r_at_Y, r_at_H, r_ticks, r_bumps⟩ : RobS)).y)), .v (.int .i64 (((⟨r_plan_W, r_plan_H, (decL eU8 r_plan_Cells_n r_plan_Cells_f), r_bounds_Turn, r_bounds_Length, r_bounds_Slip, r_bounds_Range, r_at_X, r_at_Y, r_at_H, r_ticks, r_bumps⟩ : RobS)).h)), .v (.int .i64 (((⟨r_plan_W, r_plan_H, (decL eU8 r_plan_Cells_n r_plan_Cells_f), r_bounds_Turn, r_bounds_Length, r_bounds_Slip, r_bounds_Range, r_at_X, r_at_Y, r_at_H, r_ticks, r_bumps⟩ : RobS)).ticks)), .v (.int .i64 (((⟨r_plan_W, r_plan_H, (decL eU8 r_plan_Cells_n r_plan_Cells_f), r_bounds_Turn, r_bounds_Length, r_bounds_Slip, r_bounds_Range, r_at_X, r_at_Y, r_at_H, r_ticks, r_bumps⟩ : RobS)).bumps))] 78), (3, .own ((decL eU8 r_plan_Cells_n r_plan_Cells_f)).length 1 (rowF eU8 ((decL eU8 r_plan_Cells_n r_plan_Cells_f))) 5), (0, .box [.v (.int .i64 (((⟨r_plan_W, r_plan_H, (decL eU8 r_plan_Cells_n r_plan_Cells_f), r_bounds_Turn, r_bounds_Length, r_bounds_Slip, r_bounds_Range, r_at_X, r_at_Y, r_at_H, r_ticks, r_bumps⟩ : RobS)).W)), .v (.int .i64 (((⟨r_plan_W, r_plan_H, (decL eU8 r_plan_Cells_n r_plan_Cells_f), r_bounds_Turn, r_bounds_Length, r_bounds_Slip, r_bounds_Range, r_at_X, r_at_Y, r_at_H, r_ticks, r_bumps⟩ : RobS)).H)), .n 1, .v (.int .i64 (((⟨r_plan_W, r_plan_H, (decL eU8 r_plan_Cells_n r_plan_Cells_f), r_bounds_Turn, r_bounds_Length, r_bounds_Slip, r_bounds_Range, r_at_X, r_at_Y, r_at_H, r_ticks, r_bumps⟩ : RobS)).bT)), .v (.int .i64 (((⟨r_plan_W, r_plan_H, (decL eU8 r_plan_Cells_n r_plan_Cells_f), r_bounds_Turn, r_bounds_Length, r_bounds_Slip, r_bounds_Range, r_at_X, r_at_Y, r_at_H, r_ticks, r_bumps⟩ : RobS)).bL)), .v (.int .i64 (((⟨r_plan_W, r_plan_H, (decL eU8 r_plan_Cells_n r_plan_Cells_f), r_bounds_Turn, r_bounds_Length, r_bounds_Slip, r_bounds_Range, r_at_X, r_at_Y, r_at_H, r_ticks, r_bumps⟩ : RobS)).bS)), .v (.int .i64 (((⟨r_plan_W, r_plan_H, (decL eU8 r_plan_Cells_n r_plan_Cells_f), r_bounds_Turn, r_bounds_Length, r_bounds_Slip, r_bounds_Range, r_at_X, r_at_Y, r_at_H, r_ticks, r_bumps⟩ : RobS)).bR)), .v (.int .i64 (((⟨r_plan_W, r_plan_H, (decL eU8 r_plan_Cells_n r_plan_Cells_f), r_bounds_Turn, r_bounds_Length, r_bounds_Slip, r_bounds_Range, r_at_X, r_at_Y, r_at_H, r_ticks, r_bumps⟩ : RobS)).x)), .v (.int .i64 (((⟨r_plan_W, r_plan_H, (decL eU8 r_plan_Cells_n r_plan_Cells_f), r_bounds_Turn, r_bounds_Length, r_bounds_Slip, r_bounds_Range, r_at_X, r_at_Y, r_at_H, r_ticks, r_bumps⟩ : RobS)).y)), .v (.int .i64 (((⟨r_plan_W, r_plan_H, (decL eU8 r_plan_Cells_n r_plan_Cells_f), r_bounds_Turn, r_bounds_Length, r_bounds_Slip, r_bounds_Range, r_at_X, r_at_Y, r_at_H, r_ticks, r_bumps⟩ : RobS)).h)), .v (.int .i64 (((⟨r_plan_W, r_plan_H, (decL eU8 r_plan_Cells_n r_plan_Cells_f), r_bounds_Turn, r_bounds_Length, r_bounds_Slip, r_bounds_Range, r_at_X, r_at_Y, r_at_H, r_ticks, r_bumps⟩ : RobS)).ticks)), .v (.int .i64 (((⟨r_plan_W, r_plan_H, (decL eU8 r_plan_Cells_n r_plan_Cells_f), r_bounds_Turn, r_bounds_Length, r_bounds_Slip, r_bounds_Range, r_at_X, r_at_Y, r_at_H, r_ticks, r_bumps⟩ : RobS)).bumps))] r_ty), (1, .ro ((decL eU8 r_plan_Cells_n r_plan_Cells_f)).length 1 (rowF eU8 ((decL eU8 r_plan_Cells_n r_plan_Cells_f))))], 4, rfl, rfl, by simp only [renE, Ent.ren, rowF_renf] <;> rfl, rfl, by decide, and4 (by simp only [push_cast, simprocAttr]) ⟨rfl, ⟨⟨_, h_r⟩, inE0_row h_r_plan_Cells, trivial⟩, by simp only [keysNodup, outN, keys] <;> decide, rfl, .inr ⟨.inl rfl, .inl rfl, trivial⟩, ?_⟩⟩
        intro hpre hlen
        obtain ⟨i_r_plan_Cells, hpre⟩ := hpre
        have hap : apartE (sg 2 nn_ [r, r_plan_Cells]) [(0, .box [.v (.int .i64 r_plan_W), .v (.int .i64 r_plan_H), .n 1, .v (.int .i64 r_bounds_Turn), .v (.int .i64 r_bounds_Length), .v (.int .i64 r_bounds_Slip), .v (.int .i64 r_bounds_Range), .v (.int .i64 r_at_X), .v (.int .i64 r_at_Y), .v (.int .i64 r_at_H), .v (.int .i64 r_ticks), .v (.int .i64 r_bumps)] r_ty), (1, .ro (decL eU8 r_plan_Cells_n r_plan_Cells_f).length eU8.sz (rowF eU8 (decL eU8 r_plan_Cells_n r_plan_Cells_f)))] [(0, .box [.v (.int .i64 r_plan_W), .v (.int .i64 r_plan_H), .n 1, .v (.int .i64 r_bounds_Turn), .v (.int .i64 r_bounds_Length), .v (.int .i64 r_bounds_Slip), .v (.int .i64 r_bounds_Range), .v (.int .i64 r_at_X), .v (.int .i64 r_at_Y), .v (.int .i64 r_at_H), .v (.int .i64 r_ticks), .v (.int .i64 r_bumps)] r_ty), (1, .ro (decL eU8 r_plan_Cells_n r_plan_Cells_f).length eU8.sz (rowF eU8 (decL eU8 r_plan_Cells_n r_plan_Cells_f)))] := by
          refine ⟨fun _ k2 e2 hm hne => ?_, ?_⟩
          · simp only [List.mem_cons, List.not_mem_nil, or_false, Prod.mk.injEq] at hm
            rcases hm with ⟨rfl, _⟩ | ⟨rfl, _⟩
            · exact absurd rfl hne
            · exact fun hh => by
                have hh2 : r_plan_Cells = r := hh
                have hh3 := h_r_plan_Cells
                rw [hh2] at hh3; unfold rowOf at hh3; rw [h_r] at hh3; cases hh3
          refine ⟨fun h => by (cases h), ?_⟩
          trivial
        refine ⟨⟨⟨_, h_r, by simp only [leE, mapEq, SC.ren, and_true, true_and, and_self] <;> rfl⟩, inE_row h_r_plan_Cells i_r_plan_Cells, trivial⟩, hap, ?_⟩
        have z_r_plan_Cells := lens_row (E := eU8) hlen h_r_plan_Cells
        clear i_r_plan_Cells
        generalize decL eU8 r_plan_Cells_n r_plan_Cells_f = r_plan_CellsL at *
        clear h_r_plan_Cells
        simp (maxSteps := 9999999) only [x14, push_cast, simprocAttr, g28]
        exact hpre
      · cases hg_
    · cases hg_
  · cases hg_
noncomputable def g11m : Con := fun args_ E_ nn_ => match args_ with
  | [.c (.v (.pointer none))] => g11z args_ E_ nn_
  | _ => g11 args_ E_ nn_
theorem c11m : COk Tryz.prog 11 g11m := by
  intro args E n h1 h2
  unfold g11m
  split
  · exact c11z _ _ _ h1 h2
  · exact c11 _ _ _ h1 h2
noncomputable def g12m : Con := fun args_ E_ nn_ => match args_ with
  | [.c (.v (.pointer none))] => g12z args_ E_ nn_
  | _ => g12 args_ E_ nn_
theorem c12m : COk Tryz.prog 12 g12m := by
  intro args E n h1 h2
  unfold g12m
  split
  · exact c12z _ _ _ h1 h2
  · exact c12 _ _ _ h1 h2
noncomputable def g13m : Con := fun args_ E_ nn_ => match args_ with
  | [.c (.v (.pointer none))] => g13z args_ E_ nn_
  | _ => g13 args_ E_ nn_
theorem c13m : COk Tryz.prog 13 g13m := by
  intro args E n h1 h2
  unfold g13m
  split
  · exact c13z _ _ _ h1 h2
  · exact c13 _ _ _ h1 h2
noncomputable def g14m : Con := fun args_ E_ nn_ => match args_ with
  | [.c (.v (.pointer none))] => g14z args_ E_ nn_
  | _ => g14 args_ E_ nn_
theorem c14m : COk Tryz.prog 14 g14m := by
  intro args E n h1 h2
  unfold g14m
  split
  · exact c14z _ _ _ h1 h2
  · exact c14 _ _ _ h1 h2
noncomputable def g4 : Con := fun args_ E_ nn_ => match args_ with
  | [.a [.v (.int .i64 s_Plan_W), .v (.int .i64 s_Plan_H), .n s_Plan_Cells, .v (.int .i64 s_Bounds_Turn), .v (.int .i64 s_Bounds_Length), .v (.int .i64 s_Bounds_Slip), .v (.int .i64 s_Bounds_Range), .v (.int .i64 s_At_X), .v (.int .i64 s_At_Y), .v (.int .i64 s_At_H)], .c (.n acts)] => (match rowOf E_ s_Plan_Cells with
    | some (s_Plan_Cells_n, s_Plan_Cells_s, s_Plan_Cells_f) => (match rowD eAct.sz E_ acts with
    | some (acts_n, acts_s, acts_f, acts_c) => some (.q (isRow eU8 s_Plan_Cells_n s_Plan_Cells_s s_Plan_Cells_f ∧ isDeep eAct acts_n acts_s acts_f acts_c ∧ u8s (decL eU8 s_Plan_Cells_n s_Plan_Cells_f)) (.o (.c (.v (.bool (true))))))
    | none => none)
    | none => none)
  | _ => none
noncomputable def g3 : Con := fun args_ E_ nn_ => match args_ with
  | [.a [.v (.int .i64 s_Plan_W), .v (.int .i64 s_Plan_H), .n s_Plan_Cells, .v (.int .i64 s_Bounds_Turn), .v (.int .i64 s_Bounds_Length), .v (.int .i64 s_Bounds_Slip), .v (.int .i64 s_Bounds_Range), .v (.int .i64 s_At_X), .v (.int .i64 s_At_Y), .v (.int .i64 s_At_H)], .c (.n acts)] => (match rowOf E_ s_Plan_Cells with
    | some (s_Plan_Cells_n, s_Plan_Cells_s, s_Plan_Cells_f) => (match rowD eAct.sz E_ acts with
    | some (acts_n, acts_s, acts_f, acts_c) => some (.q (isRow eU8 s_Plan_Cells_n s_Plan_Cells_s s_Plan_Cells_f ∧ isDeep eAct acts_n acts_s acts_f acts_c ∧ u8s (decL eU8 s_Plan_Cells_n s_Plan_Cells_f)) (.o (.c (.v (.bool (true))))))
    | none => none)
    | none => none)
  | _ => none
set_option maxHeartbeats 400000 in
theorem c3 : COk Tryz.prog 3 g3 := by
  refine cok_q Tryz.func3 x3_ok (by kernel_rfl) (cok_tab (cok_cons c6 (cok_cons c7 (cok_cons c8 (cok_cons c9 (cok_cons c10 (cok_cons c11m (cok_cons c12m (cok_cons c13m (cok_cons c14m (cok_cons c15 (cok_cons c16 (cok_cons c17 cok_nil))))))))))))) ?_
  intro args_ E_ nn_ cr_ hg_
  unfold g3 at hg_
  split at hg_
  · rename_i s_Plan_W s_Plan_H s_Plan_Cells s_Bounds_Turn s_Bounds_Length s_Bounds_Slip s_Bounds_Range s_At_X s_At_Y s_At_H acts
    split at hg_
    · rename_i s_Plan_Cells_n s_Plan_Cells_s s_Plan_Cells_f h_s_Plan_Cells
      split at hg_
      · rename_i acts_n acts_s acts_f acts_c h_acts
        cases hg_
        refine ⟨_, _, rfl, 2, [s_Plan_Cells, acts], [.a [.v (.int .i64 s_Plan_W), .v (.int .i64 s_Plan_H), .n 0, .v (.int .i64 s_Bounds_Turn), .v (.int .i64 s_Bounds_Length), .v (.int .i64 s_Bounds_Slip), .v (.int .i64 s_Bounds_Range), .v (.int .i64 s_At_X), .v (.int .i64 s_At_Y), .v (.int .i64 s_At_H)], .c (.n 1)], [(0, .ro (decL eU8 s_Plan_Cells_n s_Plan_Cells_f).length eU8.sz (rowF eU8 (decL eU8 s_Plan_Cells_n s_Plan_Cells_f))), (1, .deep none (decD eAct acts_n acts_f acts_c).length eAct.sz (deepF eAct (decD eAct acts_n acts_f acts_c) acts_f) (deepC eAct (decD eAct acts_n acts_f acts_c)) [])], .o (.c (.v (.bool (true)))), rfl, rfl, and3 (by simp only [push_cast, simprocAttr]) ⟨rfl, ⟨inE0_row h_s_Plan_Cells, inE0_deep h_acts, trivial⟩, rfl, ?_⟩⟩
        intro hpre hlen
        obtain ⟨i_s_Plan_Cells, hpre⟩ := hpre
        obtain ⟨i_acts, hpre⟩ := hpre
        refine ⟨⟨inE_row h_s_Plan_Cells i_s_Plan_Cells, inE_deep h_acts i_acts, trivial⟩, ?_⟩
        have z_s_Plan_Cells := lens_row (E := eU8) hlen h_s_Plan_Cells
        have z_acts := lens_deep (D := eAct) hlen h_acts
        clear i_s_Plan_Cells
        generalize decL eU8 s_Plan_Cells_n s_Plan_Cells_f = s_Plan_CellsL at *
        clear i_acts
        generalize decD eAct acts_n acts_f acts_c = actsL at *
        clear h_s_Plan_Cells
        clear h_acts
        by_cases hE : rnewE s_Plan_W s_Plan_H s_Plan_CellsL s_Bounds_Turn s_Bounds_Length s_Bounds_Slip s_Bounds_Range s_At_X s_At_Y s_At_H = 0
        · simp (config := {maxSteps := 10000000}) only [x3, push_cast, simprocAttr, g6, g7, g8, g9, g10, g11m, g12m, g13m, g14m, g15, g16, g17, g8, g8a, g8b, g9, g9a, g9b, g11z, g11, g12z, g12, g13z, g13, g14z, g14, hE, catF_zero]
          intro hf
          have hl := few_len hf
          refine ⟨by omega, by rfl, hpre, hpre, hpre, ?_⟩
          refine vcLoop_upd (α := {s : Nat × List Int // s.2.length = s_Plan_CellsL.length}) [1, 5, 6, 8] 0 (fun s => [(10, .o (.c (.v (.int .i64 (s.1.1 : Nat)))))]) (fun s => [(4, .own s_Plan_CellsL.length 1 (rowF eU8 s.1.2) 5)]) (fun s => s_Plan_CellsL.length - s.1.1) ⟨(0, s_Plan_CellsL), rfl⟩ ?_ ?_
          · simp only [push_cast, simprocAttr, g6, g7, g8, g9, g10, g11m, g12m, g13m, g14m, g15, g16, g17]
          rintro ⟨⟨i, L⟩, hL⟩
          simp only at hL
          simp (config := {maxSteps := 10000000}) only [x3L0, push_cast, simprocAttr, g6, g7, g8, g9, g10, g11m, g12m, g13m, g14m, g15, g16, g17, g8, g8a, g8b, g9, g9a, g9b, g11z, g11, g12z, g12, g13z, g13, g14z, g14]
          refine ⟨fun hlt => ⟨hlt, hlt, ⟨⟨(i + 1, L.set i 2), by rw [List.length_set]; exact hL⟩, ⟨wrapI (by omega) (by omega), ?_⟩, by simp only; omega⟩⟩, fun hge => ?_⟩
          · simp only
            rw [upd8 (by omega)]
            exact same_eq' rfl
          refine vcLoop_upd (α := {k : Nat // k ≤ actsL.length}) [1, 6, 8] 0 (fun s => [(11, .o (.c (.v (.int .i64 (s.1 : Nat)))))]) (fun s => [(31, .box [.v (.int .i64 (((rbK (rob0 s_Plan_W s_Plan_H s_Plan_CellsL s_Bounds_Turn s_Bounds_Length s_Bounds_Slip s_Bounds_Range s_At_X s_At_Y s_At_H) actsL s.1)).W)), .v (.int .i64 (((rbK (rob0 s_Plan_W s_Plan_H s_Plan_CellsL s_Bounds_Turn s_Bounds_Length s_Bounds_Slip s_Bounds_Range s_At_X s_At_Y s_At_H) actsL s.1)).H)), .n 32, .v (.int .i64 (((rbK (rob0 s_Plan_W s_Plan_H s_Plan_CellsL s_Bounds_Turn s_Bounds_Length s_Bounds_Slip s_Bounds_Range s_At_X s_At_Y s_At_H) actsL s.1)).bT)), .v (.int .i64 (((rbK (rob0 s_Plan_W s_Plan_H s_Plan_CellsL s_Bounds_Turn s_Bounds_Length s_Bounds_Slip s_Bounds_Range s_At_X s_At_Y s_At_H) actsL s.1)).bL)), .v (.int .i64 (((rbK (rob0 s_Plan_W s_Plan_H s_Plan_CellsL s_Bounds_Turn s_Bounds_Length s_Bounds_Slip s_Bounds_Range s_At_X s_At_Y s_At_H) actsL s.1)).bS)), .v (.int .i64 (((rbK (rob0 s_Plan_W s_Plan_H s_Plan_CellsL s_Bounds_Turn s_Bounds_Length s_Bounds_Slip s_Bounds_Range s_At_X s_At_Y s_At_H) actsL s.1)).bR)), .v (.int .i64 (((rbK (rob0 s_Plan_W s_Plan_H s_Plan_CellsL s_Bounds_Turn s_Bounds_Length s_Bounds_Slip s_Bounds_Range s_At_X s_At_Y s_At_H) actsL s.1)).x)), .v (.int .i64 (((rbK (rob0 s_Plan_W s_Plan_H s_Plan_CellsL s_Bounds_Turn s_Bounds_Length s_Bounds_Slip s_Bounds_Range s_At_X s_At_Y s_At_H) actsL s.1)).y)), .v (.int .i64 (((rbK (rob0 s_Plan_W s_Plan_H s_Plan_CellsL s_Bounds_Turn s_Bounds_Length s_Bounds_Slip s_Bounds_Range s_At_X s_At_Y s_At_H) actsL s.1)).h)), .v (.int .i64 (((rbK (rob0 s_Plan_W s_Plan_H s_Plan_CellsL s_Bounds_Turn s_Bounds_Length s_Bounds_Slip s_Bounds_Range s_At_X s_At_Y s_At_H) actsL s.1)).ticks)), .v (.int .i64 (((rbK (rob0 s_Plan_W s_Plan_H s_Plan_CellsL s_Bounds_Turn s_Bounds_Length s_Bounds_Slip s_Bounds_Range s_At_X s_At_Y s_At_H) actsL s.1)).bumps))] 78), (34, .box [.v (.int .i64 (((rbK (rob0 s_Plan_W s_Plan_H s_Plan_CellsL s_Bounds_Turn s_Bounds_Length s_Bounds_Slip s_Bounds_Range s_At_X s_At_Y s_At_H) actsL s.1)).W)), .v (.int .i64 (((rbK (rob0 s_Plan_W s_Plan_H s_Plan_CellsL s_Bounds_Turn s_Bounds_Length s_Bounds_Slip s_Bounds_Range s_At_X s_At_Y s_At_H) actsL s.1)).H)), .n 33, .v (.int .i64 (((rbK (rob0 s_Plan_W s_Plan_H s_Plan_CellsL s_Bounds_Turn s_Bounds_Length s_Bounds_Slip s_Bounds_Range s_At_X s_At_Y s_At_H) actsL s.1)).bT)), .v (.int .i64 (((rbK (rob0 s_Plan_W s_Plan_H s_Plan_CellsL s_Bounds_Turn s_Bounds_Length s_Bounds_Slip s_Bounds_Range s_At_X s_At_Y s_At_H) actsL s.1)).bL)), .v (.int .i64 (((rbK (rob0 s_Plan_W s_Plan_H s_Plan_CellsL s_Bounds_Turn s_Bounds_Length s_Bounds_Slip s_Bounds_Range s_At_X s_At_Y s_At_H) actsL s.1)).bS)), .v (.int .i64 (((rbK (rob0 s_Plan_W s_Plan_H s_Plan_CellsL s_Bounds_Turn s_Bounds_Length s_Bounds_Slip s_Bounds_Range s_At_X s_At_Y s_At_H) actsL s.1)).bR)), .v (.int .i64 (((rbK (rob0 s_Plan_W s_Plan_H s_Plan_CellsL s_Bounds_Turn s_Bounds_Length s_Bounds_Slip s_Bounds_Range s_At_X s_At_Y s_At_H) actsL s.1)).x)), .v (.int .i64 (((rbK (rob0 s_Plan_W s_Plan_H s_Plan_CellsL s_Bounds_Turn s_Bounds_Length s_Bounds_Slip s_Bounds_Range s_At_X s_At_Y s_At_H) actsL s.1)).y)), .v (.int .i64 (((rbK (rob0 s_Plan_W s_Plan_H s_Plan_CellsL s_Bounds_Turn s_Bounds_Length s_Bounds_Slip s_Bounds_Range s_At_X s_At_Y s_At_H) actsL s.1)).h)), .v (.int .i64 (((rbK (rob0 s_Plan_W s_Plan_H s_Plan_CellsL s_Bounds_Turn s_Bounds_Length s_Bounds_Slip s_Bounds_Range s_At_X s_At_Y s_At_H) actsL s.1)).ticks)), .v (.int .i64 (((rbK (rob0 s_Plan_W s_Plan_H s_Plan_CellsL s_Bounds_Turn s_Bounds_Length s_Bounds_Slip s_Bounds_Range s_At_X s_At_Y s_At_H) actsL s.1)).bumps))] 39), (32, .ro (s_Plan_CellsL).length 1 (rowF eU8 (s_Plan_CellsL))), (33, .ro (s_Plan_CellsL).length 1 (rowF eU8 (s_Plan_CellsL)))]) (fun s => actsL.length - s.1) ⟨0, by omega⟩ ?_ ?_
          · simp only [push_cast, simprocAttr, g6, g7, g8, g9, g10, g11m, g12m, g13m, g14m, g15, g16, g17]
            exact ⟨rfl, rfl, rfl, rfl, rfl, rfl, rfl, rfl, rfl, rfl, rfl⟩
          rintro ⟨k, hk⟩
          have hkk := rbK_keep (rob0 s_Plan_W s_Plan_H s_Plan_CellsL s_Bounds_Turn s_Bounds_Length s_Bounds_Slip s_Bounds_Range s_At_X s_At_Y s_At_H) actsL k
          have hc := rbK_cnt (rob0 s_Plan_W s_Plan_H s_Plan_CellsL s_Bounds_Turn s_Bounds_Length s_Bounds_Slip s_Bounds_Range s_At_X s_At_Y s_At_H) actsL k
          generalize hK : rbK (rob0 s_Plan_W s_Plan_H s_Plan_CellsL s_Bounds_Turn s_Bounds_Length s_Bounds_Slip s_Bounds_Range s_At_X s_At_Y s_At_H) actsL k = K at hkk hc
          have hcL : K.L = s_Plan_CellsL := hkk.2.2.1
          have hct : 0 ≤ K.ticks ∧ K.ticks ≤ 1000 := ⟨hc.1.1, by have := hc.1.2; simp only [rob0] at this; omega⟩
          have hcb : 0 ≤ K.bumps ∧ K.bumps ≤ 1000 := ⟨hc.2.1, by have := hc.2.2; simp only [rob0] at this; omega⟩
          clear hc
          simp only [hK]
          rw [← hcL]
          simp (config := {maxSteps := 10000000}) only [x3L1, push_cast, simprocAttr, g6, g7, g8, g9, g10, g11m, g12m, g13m, g14m, g15, g16, g17, g8, g8a, g8b, g9, g9a, g9b, g11z, g11, g12z, g12, g13z, g13, g14z, g14, catF_zero]
          refine ⟨fun hlt => ⟨hlt, hlt, by rw [hcL]; omega, hlt, hlt, ⟨by rw [hcL]; exact hpre, hct, hcb⟩, by rfl, hlt, hlt, ⟨by rw [hcL]; exact hpre, hct, hcb⟩, by rfl, by rfl, ⟨⟨k + 1, by omega⟩, ?_⟩⟩, fun _ => by rfl⟩
          simp only
          rw [rbK_succ, hcL, hK]
          exact ⟨⟨wrapI (by omega) (by omega), rfl, rfl, rfl, rfl, rfl, rfl, rfl, rfl, rfl, rfl, rfl⟩, by omega⟩
        · simp (config := {maxSteps := 10000000}) only [x3, push_cast, simprocAttr, g6, g7, g8, g9, g10, g11m, g12m, g13m, g14m, g15, g16, g17, g8, g8a, g8b, g9, g9a, g9b, g11z, g11, g12z, g12, g13z, g13, g14z, g14, hE, catF_zero]
          intro hf
          have hl := few_len hf
          have hb : true = (rnewE s_Plan_W s_Plan_H s_Plan_CellsL s_Bounds_Turn s_Bounds_Length s_Bounds_Slip s_Bounds_Range s_At_X s_At_Y s_At_H != 0) := (bne_iff_ne.2 hE).symm
          exact ⟨by omega, by rfl, hpre, hpre, fun _ => ⟨hb, hpre⟩, fun h => absurd hb h⟩
      · cases hg_
    · cases hg_
  · cases hg_
end Go.Proofs.YtiijdbpncpdmdaaGreat
