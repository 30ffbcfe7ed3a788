/- A part of the proof of a statement about this seat: how a function is stepped through, and plain laws. No conditions. -/
import Derived.Test.YtiijdbpncpdmdaaRows
import Derived.Test.YtiijdbpncpdmdaaSz4
import Derived.Test.YtiijdbpncpdmdaaB1
import Derived.KernelRfl
set_option linter.unusedVariables false
set_option linter.unusedSimpArgs false
set_option maxRecDepth 20000
namespace Go.Proofs.Ytiijdbpncpdmdaa
open Go.Sx Go.Way
def x7 : XFn := ⟨91, (.seq (.reg false [K1 0 .mv (.bool false)]) (.seq (.reg false [⟨(some 10), (.call 12), [], none⟩, ⟨(some 11), (.build [(iV 0), (iV 0), (iV 0), (iV 0)] [(3, 1)]), [(.k (iV 1))], none⟩, ⟨(some 12), (.build [(iV 0), (iV 0), (iV 0)] [(0, 1), (1, 1)]), [(.k (iV 96)), (.k (iV 96))], none⟩, ⟨(some 13), (.call 18), [(.t 10), (.t 11), (.t 12)], none⟩, O1 9 .mv 13, O1 14 (.ext 0) 9, O1 15 (.ext 1) 9, O1 1 .mv 14, O1 2 .mv 15]) (.seq (.seq (.reg false [O1 16 .mv 2, K2 17 (.bin .neq) 16 (iV 0), O1 18 .mv 17, G1 19 .mv 1 18 false, ⟨(some 20), (.x (.eqP false)), [(.t 19), (.k (.pointer none))], (some (18, false))⟩, ⟨(some 21), .pick, [(.t 18), (.k (.bool true)), (.t 20)], none⟩]) (.cond (.t 21) (.seq (.reg false [K1 0 .mv (.bool false)]) .ret) .skip)) (.seq (.reg false [O1 23 .mv 1, ⟨(some 24), (.build [(iV 0), (iV 0)] [(0, 1)]), [(.k (iV 64))], none⟩, ⟨(some 25), (.build [(iV 0), (iV 0), (iV 0), (iV 0), (iV 0), (iV 0), (.slice none 0 0), (.slice none 0 0)] [(0, 2)]), [(.t 24)], none⟩, O2 26 (.call 19) 23 25, O1 22 .mv 26, O1 27 (.ext 0) 22, O1 28 (.ext 1) 22, ⟨(some 3), (.alloc 54 [(iV 0), (iV 0), (iV 0), (.bool false), (.slice none 0 0)]), [], none⟩, ⟨none, (.store 5), [(.t 3), (.t 27)], none⟩, O1 4 .mv 28]) (.seq (.reg false [O1 30 .mv 1, ⟨(some 31), (.build [(iV 0), (iV 0)] [(0, 1), (1, 1)]), [(.k (iV 32)), (.k (iV 32))], none⟩, ⟨(some 32), (.build [(iV 0), (iV 0), (iV 0), (iV 0), (iV 0), (iV 0), (.slice none 0 0), (.slice none 0 0)] [(0, 2)]), [(.t 31)], none⟩, O2 33 (.call 19) 30 32, O1 29 .mv 33, O1 34 (.ext 0) 29, O1 35 (.ext 1) 29, ⟨(some 5), (.alloc 54 [(iV 0), (iV 0), (iV 0), (.bool false), (.slice none 0 0)]), [], none⟩, ⟨none, (.store 5), [(.t 5), (.t 34)], none⟩, O1 6 .mv 35]) (.seq (.reg false [O1 37 .mv 1, ⟨(some 38), (.build [(iV 0), (iV 0)] [(0, 1), (1, 1)]), [(.k (iV 32)), (.k (iV 32))], none⟩, ⟨(some 39), (.slit 3 1 1 [(iV 0)] [(0, 1)]), [(.k (iV 0))], none⟩, ⟨(some 40), (.build [(iV 0), (iV 0), (iV 0), (iV 0), (iV 0), (iV 0), (.slice none 0 0), (.slice none 0 0)] [(0, 2), (6, 1)]), [(.t 38), (.t 39)], none⟩, O2 41 (.call 19) 37 40, O1 36 .mv 41, O1 42 (.ext 0) 36, O1 43 (.ext 1) 36, ⟨(some 7), (.alloc 54 [(iV 0), (iV 0), (iV 0), (.bool false), (.slice none 0 0)]), [], none⟩, ⟨none, (.store 5), [(.t 7), (.t 42)], none⟩, O1 8 .mv 43]) (.seq (.reg false [O1 44 .mv 4, K2 45 (.bin .eql) 44 (iV 1), O1 46 .mv 45, G1 47 (.fld 0) 3 46 true, G1 48 .load1 47 46 true, GK 49 (.bin .eql) 48 (iV 0) 46 true, ⟨(some 50), .pick, [(.t 46), (.t 49), (.k (.bool false))], none⟩, O1 51 .mv 50, G1 52 .mv 6 51 true, GK 53 (.bin .eql) 52 (iV 0) 51 true, ⟨(some 54), .pick, [(.t 51), (.t 53), (.k (.bool false))], none⟩, O1 55 .mv 54, G1 56 (.fld 0) 5 55 true, G1 57 .load1 56 55 true, GK 58 (.bin .eql) 57 (iV 1) 55 true, ⟨(some 59), .pick, [(.t 55), (.t 58), (.k (.bool false))], none⟩, O1 60 .mv 59, G1 61 (.fld 3) 5 60 true, G1 62 .load1 61 60 true, G1 63 (.un .not) 62 60 true, ⟨(some 64), .pick, [(.t 60), (.t 63), (.k (.bool false))], none⟩, O1 65 .mv 64, G1 66 .mv 8 65 true, GK 67 (.bin .eql) 66 (iV 0) 65 true, ⟨(some 68), .pick, [(.t 65), (.t 67), (.k (.bool false))], none⟩, O1 69 .mv 68, G1 70 (.fld 0) 7 69 true, G1 71 .load1 70 69 true, GK 72 (.bin .eql) 71 (iV 2) 69 true, ⟨(some 73), .pick, [(.t 69), (.t 72), (.k (.bool false))], none⟩, O1 74 .mv 73, G1 75 (.fld 4) 7 74 true, G1 76 .load1 75 74 true, G1 77 .lenS 76 74 true, GK 78 (.bin .eql) 77 (iV 1) 74 true, ⟨(some 79), .pick, [(.t 74), (.t 78), (.k (.bool false))], none⟩, O1 80 .mv 79, G1 81 .mv 1 80 true, G1 82 (.call 20) 81 80 true, GK 83 (.bin .eql) 82 (iV 2) 80 true, ⟨(some 84), .pick, [(.t 80), (.t 83), (.k (.bool false))], none⟩, O1 85 .mv 84, G1 86 .mv 1 85 true, G1 87 (.call 21) 86 85 true, G1 88 (.part1 2) 87 85 true, GK 89 (.bin .eql) 88 (iV 64) 85 true, ⟨(some 90), .pick, [(.t 85), (.t 89), (.k (.bool false))], none⟩, O1 0 .mv 90]) .ret))))))), [(.s 0)]⟩
theorem x7_ok : xfn Try.prog Try.f7 = some x7.er := by kernel_rfl
def x3L0 : XC := (.seq (.seq (.reg false [O1 36 .mv 8, O1 37 .mv 6, O1 38 .lenS 37, O2 39 (.bin .lss) 36 38]) (.cond (.t 39) .skip (.exit 0))) (.seq (.block 1 (.seq (.reg false [O1 42 .mv 6, O1 43 .mv 8, O2 44 (.ixS 3) 42 43, O1 45 (.loadN 3) 44, ⟨(some 9), (.alloc 28 [(iV 0), (iV 0), (iV 0)]), [], none⟩, ⟨none, (.store 3), [(.t 9), (.t 45)], none⟩]) (.seq (.reg false [O1 46 (.fld 0) 2, O1 47 (.loadN 3) 46, O1 48 (.fld 0) 9, O1 49 .load1 48, O1 50 (.fld 1) 9, O1 51 .load1 50, ⟨(some 52), (.build [(iV 0), (iV 0)] [(0, 1), (1, 1)]), [(.t 49), (.t 51)], none⟩, ⟨(some 53), (.call 10), [(.t 47), (.t 52), (.k (iV 20))], none⟩, O1 54 (.un .not) 53, O1 55 .mv 54, G1 56 (.fld 2) 9 55 false, G1 57 .load1 56 55 false, GK 58 (.bin .lss) 57 (iV 0) 55 false, ⟨(some 59), .pick, [(.t 55), (.k (.bool true)), (.t 58)], none⟩, O1 60 .mv 59, G1 61 (.fld 2) 9 60 false, G1 62 .load1 61 60 false, GK 63 (.bin .geq) 62 (iV 256) 60 false, ⟨(some 64), .pick, [(.t 60), (.k (.bool true)), (.t 63)], none⟩]) (.cond (.t 64) (.seq (.reg false [K1 4 .mv (.bool false)]) .ret) .skip)))) (.reg false [O1 40 .mv 8, K2 41 (.bin .add) 40 (iV 1), O1 8 .mv 41])))
def x3 : XFn := ⟨70, (.seq (.reg false [O1 2 (.box 30) 0, K1 4 .mv (.bool false)]) (.seq (.seq (.reg false [⟨(some 10), (.call 7), [], none⟩, O1 11 (.un .not) 10, O1 12 .mv 11, G1 13 (.loadN 10) 2 12 false, G1 14 .mv 1 12 false, G2 15 (.call 8) 13 14 12 false, G1 16 (.un .not) 15 12 false, ⟨(some 17), .pick, [(.t 12), (.k (.bool true)), (.t 16)], none⟩]) (.cond (.t 17) (.seq (.reg false [⟨(some 18), (.call 7), [], none⟩, O1 4 .mv 18]) .ret) .skip)) (.seq (.reg false [O1 20 (.fld 0) 2, O1 21 (.loadN 3) 20, O1 22 (.fld 3) 2, O1 23 (.loadN 4) 22, O1 24 (.fld 7) 2, O1 25 (.loadN 3) 24, O1 26 .mv 1, ⟨(some 27), (.call 9), [(.t 21), (.t 23), (.t 25), (.t 26)], none⟩, O1 19 .mv 27, O1 28 (.ext 0) 19, O1 29 (.ext 1) 19, O1 30 (.ext 2) 19, O1 5 .mv 28, O1 6 .mv 29, O1 7 .mv 30]) (.seq (.seq (.reg false [O1 31 .mv 7, K2 32 (.bin .neq) 31 (iV 0)]) (.cond (.t 32) (.seq (.reg false [O1 33 .mv 6, O1 34 .lenS 33, K2 35 (.bin .eql) 34 (iV 0), O1 4 .mv 35]) .ret) .skip)) (.seq (.seq (.reg false [K1 8 .mv (iV 0)]) (.block 0 (.loop x3L0))) (.seq (.reg false [O1 65 .mv 6, O1 66 .lenS 65, O1 67 .mv 1, O1 68 .lenS 67, O2 69 (.bin .eql) 66 68, O1 4 .mv 69]) .ret)))))), [(.s 4)]⟩
theorem x3_ok : xfn Try.prog Try.f3 = some x3.er := by kernel_rfl
def x5L0 : XC := (.opn 1 8 6 (.opn 5 8 4 (.seq (.seq (.reg false [O1 85 .mv 9, O1 86 .mv 1, O1 87 .mv 8, O2 88 (.ixS 8) 86 87, O1 89 (.fld 6) 88, O1 90 .load1 89, O1 91 .lenS 90, O2 92 (.bin .lss) 85 91]) (.cond (.t 92) .skip (.exit 2))) (.seq (.block 3 (.seq (.reg true [O1 95 .mv 5, O1 96 .mv 8, O2 97 (.ixS 5) 95 96, O1 98 (.fld 4) 97, O1 99 .load1 98, O1 100 .mv 9, O2 101 (.ixS 2) 99 100, O1 102 (.fld 0) 101, O1 103 .load1 102, O1 104 .mv 1, O1 105 .mv 8, O2 106 (.ixS 8) 104 105, O1 107 (.fld 6) 106, O1 108 .load1 107, O1 109 .mv 9, O2 110 (.ixS 1) 108 109, O1 111 .load1 110, O2 112 (.bin .neq) 103 111]) (.cond (.t 112) (.seq (.reg false [K1 4 .mv (.bool false)]) .ret) .skip))) (.reg false [O1 93 .mv 9, K2 94 (.bin .add) 93 (iV 1), O1 9 .mv 94])))))
def x5L1 : XC := (.seq (.seq (.reg false [O1 48 .mv 8, O1 49 .mv 5, O1 50 .lenS 49, O2 51 (.bin .lss) 48 50]) (.cond (.t 51) .skip (.exit 0))) (.seq (.opn 1 8 6 (.opn 5 8 4 (.block 1 (.seq (.seq (.reg true [O1 54 .mv 5, O1 55 .mv 8, O2 56 (.ixS 5) 54 55, O1 57 (.fld 4) 56, O1 58 .load1 57, O1 59 .lenS 58, O1 60 .mv 1, O1 61 .mv 8, O2 62 (.ixS 8) 60 61, O1 63 (.fld 6) 62, O1 64 .load1 63, O1 65 .lenS 64, O2 66 (.bin .neq) 59 65, O1 67 .mv 66, G1 68 (.fld 0) 2 67 false, G1 69 (.loadN 3) 68 67 false, G1 70 .mv 6 67 false, G1 71 .mv 8 67 false, G2 72 (.ixS 3) 70 71 67 false, G1 73 (.loadN 3) 72 67 false, G1 74 .mv 5 67 false, G1 75 .mv 8 67 false, G2 76 (.ixS 5) 74 75 67 false, G1 77 (.fld 4) 76 67 false, G1 78 .load1 77 67 false, G1 79 (.fld 3) 2 67 false, G1 80 (.fld 3) 79 67 false, G1 81 .load1 80 67 false, ⟨(some 82), (.call 13), [(.t 69), (.t 73), (.t 78), (.t 81)], (some (67, false))⟩, G1 83 (.un .not) 82 67 false, ⟨(some 84), .pick, [(.t 67), (.k (.bool true)), (.t 83)], none⟩]) (.cond (.t 84) (.seq (.reg false [K1 4 .mv (.bool false)]) .ret) .skip)) (.seq (.reg false [K1 9 .mv (iV 0)]) (.block 2 (.loop x5L0))))))) (.reg false [O1 52 .mv 8, K2 53 (.bin .add) 52 (iV 1), O1 8 .mv 53])))
def x5 : XFn := ⟨113, (.seq (.reg false [O1 2 (.box 30) 0, K1 4 .mv (.bool false)]) (.seq (.seq (.reg false [⟨(some 10), (.call 7), [], none⟩, O1 11 (.un .not) 10, O1 12 .mv 11, G1 13 (.loadN 10) 2 12 false, G1 14 .mv 1 12 false, G2 15 (.call 8) 13 14 12 false, G1 16 (.un .not) 15 12 false, ⟨(some 17), .pick, [(.t 12), (.k (.bool true)), (.t 16)], none⟩]) (.cond (.t 17) (.seq (.reg false [⟨(some 18), (.call 7), [], none⟩, O1 4 .mv 18]) .ret) .skip)) (.seq (.reg false [O1 20 (.fld 0) 2, O1 21 (.loadN 3) 20, O1 22 (.fld 3) 2, O1 23 (.loadN 4) 22, O1 24 (.fld 7) 2, O1 25 (.loadN 3) 24, O1 26 .mv 1, ⟨(some 27), (.call 9), [(.t 21), (.t 23), (.t 25), (.t 26)], none⟩, O1 19 .mv 27, O1 28 (.ext 0) 19, O1 29 (.ext 1) 19, O1 30 (.ext 2) 19, O1 5 .mv 28, O1 6 .mv 29, O1 7 .mv 30]) (.seq (.seq (.reg false [O1 31 .mv 7, K2 32 (.bin .neq) 31 (iV 0)]) (.cond (.t 32) (.seq (.reg false [O1 33 .mv 5, O1 34 .lenS 33, K2 35 (.bin .eql) 34 (iV 0), O1 4 .mv 35]) .ret) .skip)) (.seq (.seq (.reg false [O1 36 .mv 5, O1 37 .lenS 36, O1 38 .mv 1, O1 39 .lenS 38, O2 40 (.bin .neq) 37 39, O1 41 .mv 40, G1 42 .mv 6 41 false, G1 43 .lenS 42 41 false, G1 44 .mv 1 41 false, G1 45 .lenS 44 41 false, G2 46 (.bin .neq) 43 45 41 false, ⟨(some 47), .pick, [(.t 41), (.k (.bool true)), (.t 46)], none⟩]) (.cond (.t 47) (.seq (.reg false [K1 4 .mv (.bool false)]) .ret) .skip)) (.seq (.seq (.reg false [K1 8 .mv (iV 0)]) (.block 0 (.loop x5L1))) (.seq (.reg false [K1 4 .mv (.bool true)]) .ret))))))), [(.s 4)]⟩
theorem x5_ok : xfn Try.prog Try.f5 = some x5.er := by kernel_rfl
def x6L0 : XC := (.seq (.seq (.reg false [O1 55 .mv 9, O1 56 .mv 5, O1 57 .lenS 56, O2 58 (.bin .lss) 55 57]) (.cond (.t 58) .skip (.exit 0))) (.seq (.block 1 (.seq (.seq (.reg true [O1 61 (.fld 3) 2, O1 62 (.loadN 4) 61, O1 63 (.loadN 3) 8, O1 64 .mv 1, O1 65 .mv 9, O2 66 (.ixS 8) 64 65, O1 67 (.fld 0) 66, O1 68 (.loadN 2) 67, O1 69 .mv 6, O1 70 .mv 9, O2 71 (.ixS 3) 69 70, O1 72 (.loadN 3) 71, O1 73 .mv 5, O1 74 .mv 9, O2 75 (.ixS 5) 73 74, O1 76 (.fld 3) 75, O1 77 .load1 76, ⟨(some 78), (.call 14), [(.t 62), (.t 63), (.t 68), (.t 72), (.t 77)], none⟩, O1 79 (.un .not) 78]) (.cond (.t 79) (.seq (.reg false [K1 4 .mv (.bool false)]) .ret) .skip)) (.seq (.regD [O1 81 (.fld 3) 2, O1 82 (.loadN 4) 81, O1 83 .mv 1, O1 84 .mv 9, O2 85 (.ixS 8) 83 84, O1 86 (.fld 2) 85, O1 87 (.loadN 4) 86, O2 88 (.call 15) 82 87, O1 80 .mv 88, O1 89 (.ext 0) 80, O1 90 (.ext 1) 80, ⟨(some 10), (.alloc 46 [(iV 0), (iV 0), (iV 0), (iV 0)]), [], none⟩, ⟨none, (.store 4), [(.t 10), (.t 89)], none⟩, O1 11 .mv 90] [[], [0], [], [], [2, 3], [4, 2, 3], [5, 4, 2, 3], [1, 0, 6, 5, 4, 2, 3], [7, 1, 0, 6, 5, 4, 2, 3], [8, 7, 1, 0, 6, 5, 4, 2, 3], [8, 7, 1, 0, 6, 5, 4, 2, 3], [], [11, 9, 8, 7, 1, 0, 6, 5, 4, 2, 3], [10, 8, 7, 1, 0, 6, 5, 4, 2, 3, 12, 11, 9]]) (.seq (.regD [O1 92 (.loadN 3) 8, O1 93 .mv 1, O1 94 .mv 9, O2 95 (.ixS 8) 93 94, O1 96 (.fld 0) 95, O1 97 (.loadN 2) 96, O1 98 (.loadN 4) 10, ⟨(some 99), (.call 16), [(.t 92), (.t 97), (.t 98)], none⟩, O1 91 .mv 99, O1 100 (.ext 0) 91, O1 101 (.ext 1) 91, ⟨(some 12), (.alloc 28 [(iV 0), (iV 0), (iV 0)]), [], none⟩, ⟨none, (.store 3), [(.t 12), (.t 100)], none⟩, O1 13 .mv 101] [[], [], [], [1, 2], [3, 1, 2], [4, 3, 1, 2], [], [0, 5, 4, 3, 1, 2, 6], [7, 0, 5, 4, 3, 1, 2, 6], [8, 7, 0, 5, 4, 3, 1, 2, 6], [8, 7, 0, 5, 4, 3, 1, 2, 6], [], [11, 9, 8, 7, 0, 5, 4, 3, 1, 2, 6], [10, 8, 7, 0, 5, 4, 3, 1, 2, 6, 12, 11, 9]]) (.seq (.seq (.reg false [O1 102 .mv 11, K2 103 (.bin .neq) 102 (iV 0), O1 104 .mv 103, G1 105 .mv 13 104 false, GK 106 (.bin .neq) 105 (iV 0) 104 false, ⟨(some 107), .pick, [(.t 104), (.k (.bool true)), (.t 106)], none⟩]) (.cond (.t 107) (.seq (.reg false [K1 4 .mv (.bool false)]) .ret) .skip)) (.seq (.reg false [O1 108 .mv 1, O1 109 .mv 9, O2 110 (.ixS 8) 108 109, O1 111 (.fld 0) 110, O1 112 (.fld 1) 111, O1 113 .load1 112, K2 114 (.bin .gtr) 113 (iV 0), O1 115 .mv 114, G1 116 (.fld 0) 2 115 true, G1 117 (.loadN 3) 116 115 true, G1 118 (.fld 0) 8 115 true, G1 119 .load1 118 115 true, G1 120 (.fld 1) 8 115 true, G1 121 .load1 120 115 true, ⟨(some 122), (.build [(iV 0), (iV 0)] [(0, 1), (1, 1)]), [(.t 119), (.t 121)], (some (115, true))⟩, G1 123 (.fld 0) 12 115 true, G1 124 .load1 123 115 true, G1 125 (.fld 1) 12 115 true, G1 126 .load1 125 115 true, ⟨(some 127), (.build [(iV 0), (iV 0)] [(0, 1), (1, 1)]), [(.t 124), (.t 126)], (some (115, true))⟩, ⟨(some 128), (.call 17), [(.t 117), (.t 122), (.t 127)], (some (115, true))⟩, ⟨(some 129), .pick, [(.t 115), (.t 128), (.k (.bool false))], none⟩, O1 14 .mv 129]) (.seq (.seq (.reg true [O1 130 .mv 5, O1 131 .mv 9, O2 132 (.ixS 5) 130 131, O1 133 (.fld 3) 132, O1 134 .load1 133, O1 135 .mv 14, O2 136 (.binb .neq) 134 135, O1 137 .mv 136, G1 138 .mv 14 137 false, G1 139 (.un .not) 138 137 false, G1 140 .mv 139 137 false, G1 141 .mv 6 140 true, G1 142 .mv 9 140 true, G2 143 (.ixS 3) 141 142 140 true, G1 144 (.loadN 3) 143 140 true, G1 145 (.loadN 3) 12 140 true, ⟨(some 146), (.eqA true [(.i .i64), (.i .i64), (.i .i64)]), [(.t 144), (.t 145)], (some (140, true))⟩, ⟨(some 147), .pick, [(.t 140), (.t 146), (.k (.bool false))], (some (137, false))⟩, ⟨(some 148), .pick, [(.t 137), (.k (.bool true)), (.t 147)], none⟩, O1 149 .mv 148, G1 150 .mv 14 149 false, G1 151 .mv 150 149 false, G1 152 .mv 6 151 true, G1 153 .mv 9 151 true, G2 154 (.ixS 3) 152 153 151 true, G1 155 (.loadN 3) 154 151 true, G1 156 (.fld 0) 8 151 true, G1 157 .load1 156 151 true, G1 158 (.fld 1) 8 151 true, G1 159 .load1 158 151 true, G1 160 (.fld 2) 12 151 true, G1 161 .load1 160 151 true, ⟨(some 162), (.build [(iV 0), (iV 0), (iV 0)] [(0, 1), (1, 1), (2, 1)]), [(.t 157), (.t 159), (.t 161)], (some (151, true))⟩, ⟨(some 163), (.eqA true [(.i .i64), (.i .i64), (.i .i64)]), [(.t 155), (.t 162)], (some (151, true))⟩, ⟨(some 164), .pick, [(.t 151), (.t 163), (.k (.bool false))], (some (149, false))⟩, ⟨(some 165), .pick, [(.t 149), (.k (.bool true)), (.t 164)], none⟩]) (.cond (.t 165) (.seq (.reg false [K1 4 .mv (.bool false)]) .ret) .skip)) (.reg false [O1 166 .mv 6, O1 167 .mv 9, O2 168 (.ixS 3) 166 167, O1 169 (.loadN 3) 168, ⟨none, (.store 3), [(.t 8), (.t 169)], none⟩])))))))) (.reg false [O1 59 .mv 9, K2 60 (.bin .add) 59 (iV 1), O1 9 .mv 60])))
def x6 : XFn := ⟨170, (.seq (.reg false [O1 2 (.box 30) 0, K1 4 .mv (.bool false)]) (.seq (.seq (.reg false [⟨(some 15), (.call 7), [], none⟩, O1 16 (.un .not) 15, O1 17 .mv 16, G1 18 (.loadN 10) 2 17 false, G1 19 .mv 1 17 false, G2 20 (.call 8) 18 19 17 false, G1 21 (.un .not) 20 17 false, ⟨(some 22), .pick, [(.t 17), (.k (.bool true)), (.t 21)], none⟩]) (.cond (.t 22) (.seq (.reg false [⟨(some 23), (.call 7), [], none⟩, O1 4 .mv 23]) .ret) .skip)) (.seq (.reg false [O1 25 (.fld 0) 2, O1 26 (.loadN 3) 25, O1 27 (.fld 3) 2, O1 28 (.loadN 4) 27, O1 29 (.fld 7) 2, O1 30 (.loadN 3) 29, O1 31 .mv 1, ⟨(some 32), (.call 9), [(.t 26), (.t 28), (.t 30), (.t 31)], none⟩, O1 24 .mv 32, O1 33 (.ext 0) 24, O1 34 (.ext 1) 24, O1 35 (.ext 2) 24, O1 5 .mv 33, O1 6 .mv 34, O1 7 .mv 35]) (.seq (.seq (.reg false [O1 36 .mv 7, K2 37 (.bin .neq) 36 (iV 0)]) (.cond (.t 37) (.seq (.reg false [O1 38 .mv 5, O1 39 .lenS 38, K2 40 (.bin .eql) 39 (iV 0), O1 4 .mv 40]) .ret) .skip)) (.seq (.seq (.reg false [O1 41 .mv 5, O1 42 .lenS 41, O1 43 .mv 1, O1 44 .lenS 43, O2 45 (.bin .neq) 42 44, O1 46 .mv 45, G1 47 .mv 6 46 false, G1 48 .lenS 47 46 false, G1 49 .mv 1 46 false, G1 50 .lenS 49 46 false, G2 51 (.bin .neq) 48 50 46 false, ⟨(some 52), .pick, [(.t 46), (.k (.bool true)), (.t 51)], none⟩]) (.cond (.t 52) (.seq (.reg false [K1 4 .mv (.bool false)]) .ret) .skip)) (.seq (.reg false [O1 53 (.fld 7) 2, O1 54 (.loadN 3) 53, ⟨(some 8), (.alloc 28 [(iV 0), (iV 0), (iV 0)]), [], none⟩, ⟨none, (.store 3), [(.t 8), (.t 54)], none⟩]) (.seq (.seq (.reg false [K1 9 .mv (iV 0)]) (.block 0 (.loop x6L0))) (.seq (.reg false [K1 4 .mv (.bool true)]) .ret)))))))), [(.s 4)]⟩
theorem x6_ok : xfn Try.prog Try.f6 = some x6.er := by kernel_rfl
/-! ### The small room -/
def roomL : List Int := [1, 1, 1, 1, 1, 1, 1, 1, 1]
theorem room_len : roomL.length = 9 := rfl
theorem room_build : buildB 3 3 roomL = true := by decide
theorem room_at {x y : Int} (hx : 0 ≤ x ∧ x ≤ 2) (hy : 0 ≤ y ∧ y ≤ 2) : atB 3 3 roomL x y = 1 := by
  rcases (by omega : x = 0 ∨ x = 1 ∨ x = 2) with rfl | rfl | rfl <;> rcases (by omega : y = 0 ∨ y = 1 ∨ y = 2) with rfl | rfl | rfl <;> decide
theorem room_hit {fx fy tx ty : Int} (h1 : 20 < fx ∧ fx < 172) (h2 : 20 < fy ∧ fy < 172) (h3 : 20 < tx ∧ tx < 172) (h4 : 20 < ty ∧ ty < 172) (x y : Int) : hitW 3 3 roomL fx fy tx ty x y = false := by
  rw [Bool.eq_false_iff]; intro h
  unfold hitW at h
  rw [Bool.and_eq_true, decide_eq_true_eq] at h
  have z := touch_rng h.2
  rw [room_at (by omega) (by omega)] at h
  exact absurd h.1 (by decide)
theorem room_blk {fx fy tx ty : Int} (h1 : 20 < fx ∧ fx < 172) (h2 : 20 < fy ∧ fy < 172) (h3 : 20 < tx ∧ tx < 172) (h4 : 20 < ty ∧ ty < 172) : blkB 3 3 roomL fx fy tx ty = false :=
  blk_no room_build (by unfold wayB; rw [decide_eq_true_eq]; omega) (room_hit h1 h2 h3 h4)
theorem room_new : rnewE 3 3 roomL 0 0 0 1 96 96 0 = 0 := by
  rw [rnew_fit (ckV_ok.2 room_build) (by omega), if_neg]
  unfold fitB
  rw [room_blk (by omega) (by omega) (by omega) (by omega)]
  decide
/-- A robot in the room. -/
def rmR (x y h t : Int) : RobS := ⟨3, 3, roomL, 0, 0, 0, 1, x, y, h, t, 0⟩
theorem room_slip (x y h t tu f : Int) (ms es : List Int) : slipO (rmR x y h t) ⟨tu, f, 0, 0, 0, 0, ms, es⟩ = (0, 0, 0, 0, 0) := by
  show clipS 0 0 0 1 0 0 0 0 = _
  rw [clipS_go (by omega)]; rfl
theorem room_do {x y h t tu f nx ny nh : Int} {ms es : List Int} (ha : actOk ⟨tu, f, 0, 0, 0, 0, ms, es⟩ = true) (h1 : 20 < x ∧ x < 172) (h2 : 20 < y ∧ y < 172) (hn : nextS x y h tu f 0 0 0 0 = (nx, ny, nh, 0)) (h3 : 20 < nx ∧ nx < 172) (h4 : 20 < ny ∧ ny < 172) :
    doR (rmR x y h t) ⟨tu, f, 0, 0, 0, 0, ms, es⟩ = rmR nx ny nh (t + 1) ∧ ∃ sc, doV (rmR x y h t) ⟨tu, f, 0, 0, 0, 0, ms, es⟩ = ⟨t + 1, tu, f, false, sc⟩ := by
  have hst : stO (rmR x y h t) ⟨tu, f, 0, 0, 0, 0, ms, es⟩ = (nx, ny, nh, false, 0) := by
    unfold stO
    rw [room_slip]
    simp only [rmR]
    unfold stepS
    have hp : planB 3 3 roomL = true := by decide
    rw [if_neg (by rw [hp]; decide), if_neg (by rw [room_build]; decide), hn]
    simp only [ne_eq, not_true_eq_false, if_false]
    rw [room_blk h1 h2 h3 h4]
    simp
  rw [doR_t ha, doV_t ha, hst]
  exact ⟨rfl, _, rfl⟩
theorem room_ok {x y h t : Int} (h1 : 20 < x ∧ x < 172) (h2 : 20 < y ∧ y < 172) (hh : 0 ≤ h ∧ h ≤ 255) : okS (rmR x y h t) := by
  unfold okS rmR
  simp only
  refine ⟨?_, hh, by omega, by omega, by omega, by omega⟩
  unfold fitB
  rw [room_blk h1 h2 h1 h2]; rfl
theorem room_a1 : actOk ⟨64, 0, 0, 0, 0, 0, [], []⟩ = false := by decide
theorem room_a2 : actOk ⟨32, 32, 0, 0, 0, 0, [], []⟩ = true := by decide
theorem room_a3 : actOk ⟨32, 32, 0, 0, 0, 0, [0], []⟩ = true := by decide
theorem room_d1 : doR (rmR 96 96 0 0) ⟨64, 0, 0, 0, 0, 0, [], []⟩ = rmR 96 96 0 0 := doR_f room_a1
theorem room_v1 : doV (rmR 96 96 0 0) ⟨64, 0, 0, 0, 0, 0, [], []⟩ = ⟨0, 0, 0, false, []⟩ := doV_f room_a1
theorem room_n2 : nextS 96 96 0 32 32 0 0 0 0 = (115, 121, 32, 0) := by decide +kernel
theorem room_n3 : nextS 115 121 32 32 32 0 0 0 0 = (115, 153, 64, 0) := by decide +kernel
theorem room_e2 : doR (rmR 96 96 0 0) ⟨32, 32, 0, 0, 0, 0, [], []⟩ = rmR 115 121 32 1 ∧ ∃ sc, doV (rmR 96 96 0 0) ⟨32, 32, 0, 0, 0, 0, [], []⟩ = ⟨1, 32, 32, false, sc⟩ := room_do room_a2 (by omega) (by omega) room_n2 (by omega) (by omega)
theorem room_e3 : doR (rmR 115 121 32 1) ⟨32, 32, 0, 0, 0, 0, [0], []⟩ = rmR 115 153 64 2 ∧ ∃ sc, doV (rmR 115 121 32 1) ⟨32, 32, 0, 0, 0, 0, [0], []⟩ = ⟨2, 32, 32, false, sc⟩ ∧ sc.length = 1 := by
  obtain ⟨h1, sc, h2⟩ := room_do (t := 1) room_a3 (x := 115) (y := 121) (h := 32) (by omega) (by omega) room_n3 (by omega) (by omega)
  refine ⟨h1, sc, h2, ?_⟩
  have := (scan_law (room_ok (x := 115) (y := 121) (h := 32) (t := 1) (by omega) (by omega) (by omega)) room_a3).1
  rw [h2] at this
  exact this
theorem room_q1 : doE ⟨64, 0, 0, 0, 0, 0, [], []⟩ = 1 := by decide
theorem room_q2 : doE ⟨32, 32, 0, 0, 0, 0, [], []⟩ = 0 := by decide
theorem room_q3 : doE ⟨32, 32, 0, 0, 0, 0, [0], []⟩ = 0 := by decide
theorem room_u8 : u8s roomL := by
  intro x hx
  simp only [roomL, List.mem_cons, List.not_mem_nil, or_false] at hx
  omega
theorem room_row (b : Bnd) : rowEq 9 1 (litF [SC.v (.int .u8 1), SC.v (.int .u8 1), SC.v (.int .u8 1), SC.v (.int .u8 1), SC.v (.int .u8 1), SC.v (.int .u8 1), SC.v (.int .u8 1), SC.v (.int .u8 1), SC.v (.int .u8 1)] 1) (rowF eU8 roomL) (SC.sub b) := by
  intro e j he hj
  obtain rfl : j = 0 := by omega
  rw [rowF_sub]
  rcases (by omega : e = 0 ∨ e = 1 ∨ e = 2 ∨ e = 3 ∨ e = 4 ∨ e = 5 ∨ e = 6 ∨ e = 7 ∨ e = 8) with rfl | rfl | rfl | rfl | rfl | rfl | rfl | rfl | rfl <;> rfl
noncomputable def g19n : Con := nilG g19
theorem c19n : COk Try.prog 19 g19n := cok_nilG c19
def x12 : XFn := ⟨3, (.seq (.reg false [⟨(some 0), (.alloc 24 [(iV 0), (iV 0), (.slice none 0 0)]), [], none⟩]) (.seq (.reg false [⟨(some 1), (.slit 5 9 1 [(.int .u8 0), (.int .u8 0), (.int .u8 0), (.int .u8 0), (.int .u8 0), (.int .u8 0), (.int .u8 0), (.int .u8 0), (.int .u8 0)] [(0, 1), (1, 1), (2, 1), (3, 1), (4, 1), (5, 1), (6, 1), (7, 1), (8, 1)]), [(.k (.int .u8 1)), (.k (.int .u8 1)), (.k (.int .u8 1)), (.k (.int .u8 1)), (.k (.int .u8 1)), (.k (.int .u8 1)), (.k (.int .u8 1)), (.k (.int .u8 1)), (.k (.int .u8 1))], none⟩, ⟨(some 2), (.build [(iV 0), (iV 0), (.slice none 0 0)] [(0, 1), (1, 1), (2, 1)]), [(.k (iV 3)), (.k (iV 3)), (.t 1)], none⟩, ⟨none, (.store 3), [(.t 0), (.t 2)], none⟩]) .ret)), [(.bn 0 3)]⟩
theorem x12_ok : xfn Try.prog Try.f12 = some x12.er := by kernel_rfl
/-- wayfinder/wayfinderlaw12.room -/
def g12 : Con := fun args_ E_ nn_ => match args_ with
  | [] => some (.e (True) (.o (.a [.v (.int .i64 (3)), .v (.int .i64 (3)), .n (nn_ + 0)])) [((nn_ + 0), .own (roomL).length 1 (rowF eU8 (roomL)) 5)] (nn_ + 1))
  | _ => none
theorem c12 : COk Try.prog 12 g12 := by
  refine cok_e Try.func12 x12_ok (by kernel_rfl) (cok_tab cok_nil) ?_
  intro args_ E_ nn_ cr_ hg_
  unfold g12 at hg_
  split at hg_
  · skip
    cases hg_
    refine ⟨_, _, _, _, rfl, 0, [], [], [], .o (.a [.v (.int .i64 (3)), .v (.int .i64 (3)), .n 0]), [(0, .own (roomL).length 1 (rowF eU8 (roomL)) 5)], 1, rfl, rfl, by simp only [renE, Ent.ren, rowF_renf] <;> rfl, rfl, by decide, by simp only [push_cast, Nat.reduceLT, Nat.reduceAdd], by simp only [push_cast, Nat.reduceLT, Nat.reduceAdd], by simp only [push_cast, Nat.reduceLT, Nat.reduceAdd], by simp only [push_cast, Nat.reduceLT, Nat.reduceAdd], rfl, trivial, by simp only [keysNodup, outN, keys] <;> decide, rfl, rfl, ?_⟩
    intro hpre hlen
    refine ⟨trivial, by simp only [apartE] <;> (first | trivial | (simp [Ent.mut]; done)), ?_⟩
    simp (config := {maxSteps := 10000000}) only [x12, push_cast, Nat.reduceAdd, Nat.reduceSub, Nat.reduceLeDiff, Nat.reduceEqDiff, Nat.reduceBEq, Nat.reduceMul, Nat.reduceLT, ↓reduceIte, reduceCtorEq, Int.reduceLE, Int.reduceLT, Int.reduceEq, Int.reduceMul, Int.reduceAdd, Int.reduceSub, Int.reduceNeg, Int.reduceToNat, Int.reduceNe]
    exact ⟨rfl, room_row _⟩
  · cases hg_
/-- wayfinder/wayfinderlaw12.awake -/
noncomputable def g7 : Con := fun args_ E_ nn_ => match args_ with
  | [] => some (.q (True) (.o (.c (.v (.bool (true))))))
  | _ => none
set_option maxHeartbeats 4000000 in
theorem c7 : COk Try.prog 7 g7 := by
  refine cok_q Try.func7 x7_ok (by kernel_rfl) (cok_tab (cok_cons c12 (cok_cons c18 (cok_cons c19n (cok_cons c20 (cok_cons c21 cok_nil)))))) ?_
  intro args_ E_ nn_ cr_ hg_
  unfold g7 at hg_
  split at hg_
  · skip
    cases hg_
    refine ⟨_, _, rfl, 0, [], [], [], .o (.c (.v (.bool (true)))), rfl, rfl, by simp only [push_cast, Nat.reduceLT, Nat.reduceAdd], by simp only [push_cast, Nat.reduceLT, Nat.reduceAdd], by simp only [push_cast, Nat.reduceLT, Nat.reduceAdd], rfl, trivial, rfl, ?_⟩
    intro hpre hlen
    refine ⟨trivial, ?_⟩
    have d1 := room_d1
    have v1 := room_v1
    obtain ⟨d2, sc2, v2⟩ := room_e2
    obtain ⟨d3, sc3, v3, l3⟩ := room_e3
    have q1 := room_q1
    have q2 := room_q2
    have q3 := room_q3
    have hn := room_new
    have m1 : isRow eI 1 1 (litF [SC.v (Value.int IntKind.i64 0)] 1) ↔ True := iff_true_intro (lits_row eI [0]).1
    have m2 : decL eI 1 (litF [SC.v (Value.int IntKind.i64 0)] 1) = [0] := (lits_row eI [0]).2
    simp only [rmR] at d1 v1 d2 v2 d3 v3
    simp (config := {maxSteps := 10000000}) only [x7, push_cast, Nat.reduceAdd, Nat.reduceSub, Nat.reduceLeDiff, Nat.reduceEqDiff, Nat.reduceBEq, Nat.reduceMul, Nat.reduceLT, ↓reduceIte, reduceCtorEq, Int.reduceLE, Int.reduceLT, Int.reduceEq, Int.reduceMul, Int.reduceAdd, Int.reduceSub, Int.reduceNeg, Int.reduceToNat, Int.reduceNe, g12, g18, g19n, g20, g21, g19, g18a, hn, d1, v1, d2, v2, d3, v3, l3, q1, q2, q3, m1, m2]
    exact room_u8
  · cases hg_
/-- wayfinder/wayfinderlaw12.RobotStands -/
noncomputable def g3 : Con := fun args_ E_ nn_ => match args_ with
  | [.a [.v (.int .i64 s_Plan_W), .v (.int .i64 s_Plan_H), .n s_Plan_Cells, .v (.int .i64 s_Bounds_Turn), .v (.int .i64 s_Bounds_Length), .v (.int .i64 s_Bounds_Slip), .v (.int .i64 s_Bounds_Range), .v (.int .i64 s_At_X), .v (.int .i64 s_At_Y), .v (.int .i64 s_At_H)], .c (.n acts)] => (match rowOf E_ s_Plan_Cells with
    | some (s_Plan_Cells_n, s_Plan_Cells_s, s_Plan_Cells_f) => (match rowD eAct.sz E_ acts with
    | some (acts_n, acts_s, acts_f, acts_c) => some (.q (isRow eU8 s_Plan_Cells_n s_Plan_Cells_s s_Plan_Cells_f ∧ isDeep eAct acts_n acts_s acts_f acts_c ∧ u8s (decL eU8 s_Plan_Cells_n s_Plan_Cells_f)) (.o (.c (.v (.bool (true))))))
    | none => none)
    | none => none)
  | _ => none
theorem c3 : COk Try.prog 3 g3 := by
  refine cok_q Try.func3 x3_ok (by kernel_rfl) (cok_tab (cok_cons c7 (cok_cons c8 (cok_cons c9 (cok_cons c10 cok_nil))))) ?_
  intro args_ E_ nn_ cr_ hg_
  unfold g3 at hg_
  split at hg_
  · rename_i s_Plan_W s_Plan_H s_Plan_Cells s_Bounds_Turn s_Bounds_Length s_Bounds_Slip s_Bounds_Range s_At_X s_At_Y s_At_H acts
    split at hg_
    · rename_i s_Plan_Cells_n s_Plan_Cells_s s_Plan_Cells_f h_s_Plan_Cells
      split at hg_
      · rename_i acts_n acts_s acts_f acts_c h_acts
        cases hg_
        refine ⟨_, _, rfl, 2, [s_Plan_Cells, acts], [.a [.v (.int .i64 s_Plan_W), .v (.int .i64 s_Plan_H), .n 0, .v (.int .i64 s_Bounds_Turn), .v (.int .i64 s_Bounds_Length), .v (.int .i64 s_Bounds_Slip), .v (.int .i64 s_Bounds_Range), .v (.int .i64 s_At_X), .v (.int .i64 s_At_Y), .v (.int .i64 s_At_H)], .c (.n 1)], [(0, .ro (decL eU8 s_Plan_Cells_n s_Plan_Cells_f).length eU8.sz (rowF eU8 (decL eU8 s_Plan_Cells_n s_Plan_Cells_f))), (1, .deep none (decD eAct acts_n acts_f acts_c).length eAct.sz (deepF eAct (decD eAct acts_n acts_f acts_c) acts_f) (deepC eAct (decD eAct acts_n acts_f acts_c)) [])], .o (.c (.v (.bool (true)))), rfl, rfl, by simp only [push_cast, Nat.reduceLT, Nat.reduceAdd], by simp only [push_cast, Nat.reduceLT, Nat.reduceAdd], by simp only [push_cast, Nat.reduceLT, Nat.reduceAdd], rfl, ⟨inE0_row h_s_Plan_Cells, inE0_deep h_acts, trivial⟩, rfl, ?_⟩
        intro hpre hlen
        obtain ⟨i_s_Plan_Cells, hpre⟩ := hpre
        obtain ⟨i_acts, hpre⟩ := hpre
        refine ⟨⟨inE_row h_s_Plan_Cells i_s_Plan_Cells, inE_deep h_acts i_acts, trivial⟩, ?_⟩
        have z_s_Plan_Cells := lens_row (E := eU8) hlen h_s_Plan_Cells
        have z_acts := lens_deep (D := eAct) hlen h_acts
        clear i_s_Plan_Cells
        generalize decL eU8 s_Plan_Cells_n s_Plan_Cells_f = s_Plan_CellsL at *
        clear i_acts
        generalize decD eAct acts_n acts_f acts_c = actsL at *
        clear h_s_Plan_Cells
        clear h_acts
        simp (config := {maxSteps := 10000000}) only [x3, push_cast, Nat.reduceAdd, Nat.reduceSub, Nat.reduceLeDiff, Nat.reduceEqDiff, Nat.reduceBEq, Nat.reduceMul, Nat.reduceLT, ↓reduceIte, reduceCtorEq, Int.reduceLE, Int.reduceLT, Int.reduceEq, Int.reduceMul, Int.reduceAdd, Int.reduceSub, Int.reduceNeg, Int.reduceToNat, Int.reduceNe, g7, g8, g9, g10]
        intro hf
        have hl := few_len hf
        refine ⟨⟨hpre, Nat.le_trans hl.2 (by omega)⟩, fun G => ⟨fun he => ?_, fun he => ?_⟩⟩
        · rw [(run_err he).2]; rfl
        have hp := runP_at he
        have hr := fun k hk => run_at he k hk
        refine vcLoop_upd (α := {k : Nat // k ≤ actsL.length}) [1, 2, 6] 0 (fun s => [(8, .o (.c (.v (.int .i64 (s.1 : Nat)))))]) (fun s => []) (fun s => actsL.length - s.1) ⟨0, by omega⟩ ?_ ?_
        · simp only [push_cast, Nat.reduceAdd, Nat.reduceSub, Nat.reduceLeDiff, Nat.reduceEqDiff, Nat.reduceBEq, Nat.reduceMul, Nat.reduceLT, ↓reduceIte, reduceCtorEq, Int.reduceLE, Int.reduceLT, Int.reduceEq, Int.reduceMul, Int.reduceAdd, Int.reduceSub, Int.reduceNeg, Int.reduceToNat, Int.reduceNe, g7, g8, g9, g10]
        rintro ⟨k, hk⟩
        simp only [x3L0, push_cast, Nat.reduceAdd, Nat.reduceSub, Nat.reduceLeDiff, Nat.reduceEqDiff, Nat.reduceBEq, Nat.reduceMul, Nat.reduceLT, ↓reduceIte, reduceCtorEq, Int.reduceLE, Int.reduceLT, Int.reduceEq, Int.reduceMul, Int.reduceAdd, Int.reduceSub, Int.reduceNeg, Int.reduceToNat, Int.reduceNe, g7, g8, g9, g10]
        rw [hp.1]
        refine ⟨fun hlt => ?_, fun hge => rfl⟩
        rw [hp.2 k hlt]
        have ho := hr (k + 1) (by omega)
        have hk2 := rbK_keep (rob0 s_Plan_W s_Plan_H s_Plan_CellsL s_Bounds_Turn s_Bounds_Length s_Bounds_Slip s_Bounds_Range s_At_X s_At_Y s_At_H) actsL (k + 1)
        generalize rbK (rob0 s_Plan_W s_Plan_H s_Plan_CellsL s_Bounds_Turn s_Bounds_Length s_Bounds_Slip s_Bounds_Range s_At_X s_At_Y s_At_H) actsL (k + 1) = K at ho hk2
        obtain ⟨e1, e2, e3, -⟩ := hk2
        have e1 : K.W = s_Plan_W := e1
        have e2 : K.H = s_Plan_H := e2
        have e3 : K.L = s_Plan_CellsL := e3
        rw [← e1, ← e2, ← e3]
        obtain ⟨q1, q2, -⟩ := ho
        simp only [poseO]
        refine ⟨hlt, hlt, by rw [e3]; exact hpre, fun h => ?_, fun _ _ _ => ⟨⟨k + 1, by omega⟩, wrapI (by omega) (by omega), by simp only; omega⟩⟩
        rw [q1] at h
        rcases h with (h | h) | h
        · cases h
        · omega
        · omega
      · cases hg_
    · cases hg_
  · cases hg_
/-- wayfinder/wayfinderlaw12.RobotSenses -/
noncomputable def g5 : Con := fun args_ E_ nn_ => match args_ with
  | [.a [.v (.int .i64 s_Plan_W), .v (.int .i64 s_Plan_H), .n s_Plan_Cells, .v (.int .i64 s_Bounds_Turn), .v (.int .i64 s_Bounds_Length), .v (.int .i64 s_Bounds_Slip), .v (.int .i64 s_Bounds_Range), .v (.int .i64 s_At_X), .v (.int .i64 s_At_Y), .v (.int .i64 s_At_H)], .c (.n acts)] => (match rowOf E_ s_Plan_Cells with
    | some (s_Plan_Cells_n, s_Plan_Cells_s, s_Plan_Cells_f) => (match rowD eAct.sz E_ acts with
    | some (acts_n, acts_s, acts_f, acts_c) => some (.q (isRow eU8 s_Plan_Cells_n s_Plan_Cells_s s_Plan_Cells_f ∧ isDeep eAct acts_n acts_s acts_f acts_c ∧ u8s (decL eU8 s_Plan_Cells_n s_Plan_Cells_f)) (.o (.c (.v (.bool (true))))))
    | none => none)
    | none => none)
  | _ => none
theorem c5 : COk Try.prog 5 g5 := by
  refine cok_q Try.func5 x5_ok (by kernel_rfl) (cok_tab (cok_cons c7 (cok_cons c8 (cok_cons c9 (cok_cons c13 cok_nil))))) ?_
  intro args_ E_ nn_ cr_ hg_
  unfold g5 at hg_
  split at hg_
  · rename_i s_Plan_W s_Plan_H s_Plan_Cells s_Bounds_Turn s_Bounds_Length s_Bounds_Slip s_Bounds_Range s_At_X s_At_Y s_At_H acts
    split at hg_
    · rename_i s_Plan_Cells_n s_Plan_Cells_s s_Plan_Cells_f h_s_Plan_Cells
      split at hg_
      · rename_i acts_n acts_s acts_f acts_c h_acts
        cases hg_
        refine ⟨_, _, rfl, 2, [s_Plan_Cells, acts], [.a [.v (.int .i64 s_Plan_W), .v (.int .i64 s_Plan_H), .n 0, .v (.int .i64 s_Bounds_Turn), .v (.int .i64 s_Bounds_Length), .v (.int .i64 s_Bounds_Slip), .v (.int .i64 s_Bounds_Range), .v (.int .i64 s_At_X), .v (.int .i64 s_At_Y), .v (.int .i64 s_At_H)], .c (.n 1)], [(0, .ro (decL eU8 s_Plan_Cells_n s_Plan_Cells_f).length eU8.sz (rowF eU8 (decL eU8 s_Plan_Cells_n s_Plan_Cells_f))), (1, .deep none (decD eAct acts_n acts_f acts_c).length eAct.sz (deepF eAct (decD eAct acts_n acts_f acts_c) acts_f) (deepC eAct (decD eAct acts_n acts_f acts_c)) [])], .o (.c (.v (.bool (true)))), rfl, rfl, by simp only [push_cast, Nat.reduceLT, Nat.reduceAdd], by simp only [push_cast, Nat.reduceLT, Nat.reduceAdd], by simp only [push_cast, Nat.reduceLT, Nat.reduceAdd], rfl, ⟨inE0_row h_s_Plan_Cells, inE0_deep h_acts, trivial⟩, rfl, ?_⟩
        intro hpre hlen
        obtain ⟨i_s_Plan_Cells, hpre⟩ := hpre
        obtain ⟨i_acts, hpre⟩ := hpre
        refine ⟨⟨inE_row h_s_Plan_Cells i_s_Plan_Cells, inE_deep h_acts i_acts, trivial⟩, ?_⟩
        have z_s_Plan_Cells := lens_row (E := eU8) hlen h_s_Plan_Cells
        have z_acts := lens_deep (D := eAct) hlen h_acts
        clear i_s_Plan_Cells
        generalize decL eU8 s_Plan_Cells_n s_Plan_Cells_f = s_Plan_CellsL at *
        clear i_acts
        generalize decD eAct acts_n acts_f acts_c = actsL at *
        clear h_s_Plan_Cells
        clear h_acts
        simp (config := {maxSteps := 10000000}) only [x5, push_cast, Nat.reduceAdd, Nat.reduceSub, Nat.reduceLeDiff, Nat.reduceEqDiff, Nat.reduceBEq, Nat.reduceMul, Nat.reduceLT, ↓reduceIte, reduceCtorEq, Int.reduceLE, Int.reduceLT, Int.reduceEq, Int.reduceMul, Int.reduceAdd, Int.reduceSub, Int.reduceNeg, Int.reduceToNat, Int.reduceNe, g7, g8, g9, g13]
        intro hf
        have hl := few_len hf
        refine ⟨⟨hpre, Nat.le_trans hl.2 (by omega)⟩, fun G => ⟨fun he => ?_, fun he => ?_⟩⟩
        · rw [(run_err he).1]; rfl
        have hp := runP_at he
        have hv := runV_at he
        have hr := fun k hk => run_at he k hk
        have hg := (run_good he).2
        refine ⟨fun h => ?_, fun h1 h2 => ?_⟩
        · rw [hp.1, hv.1] at h; omega
        refine vcLoop_upd (α := {k : Nat // k ≤ actsL.length}) [1, 2, 5, 6] 0 (fun s => [(8, .o (.c (.v (.int .i64 (s.1 : Nat)))))]) (fun s => []) (fun s => actsL.length - s.1) ⟨0, by omega⟩ ?_ ?_
        · simp only [push_cast, Nat.reduceAdd, Nat.reduceSub, Nat.reduceLeDiff, Nat.reduceEqDiff, Nat.reduceBEq, Nat.reduceMul, Nat.reduceLT, ↓reduceIte, reduceCtorEq, Int.reduceLE, Int.reduceLT, Int.reduceEq, Int.reduceMul, Int.reduceAdd, Int.reduceSub, Int.reduceNeg, Int.reduceToNat, Int.reduceNe, g7, g8, g9, g13]
        rintro ⟨k, hk⟩
        simp only [x5L1, push_cast, Nat.reduceAdd, Nat.reduceSub, Nat.reduceLeDiff, Nat.reduceEqDiff, Nat.reduceBEq, Nat.reduceMul, Nat.reduceLT, ↓reduceIte, reduceCtorEq, Int.reduceLE, Int.reduceLT, Int.reduceEq, Int.reduceMul, Int.reduceAdd, Int.reduceSub, Int.reduceNeg, Int.reduceToNat, Int.reduceNe, g7, g8, g9, g13]
        clear h1 h2
        generalize runV s_Plan_W s_Plan_H s_Plan_CellsL s_Bounds_Turn s_Bounds_Length s_Bounds_Slip s_Bounds_Range s_At_X s_At_Y s_At_H actsL = VL at *
        generalize runP s_Plan_W s_Plan_H s_Plan_CellsL s_Bounds_Turn s_Bounds_Length s_Bounds_Slip s_Bounds_Range s_At_X s_At_Y s_At_H actsL = PL at *
        intro hlt
        rw [hv.1] at hlt
        have e1 := hv.2 k hlt
        have e2 := hp.2 k hlt
        rw [rbK_succ] at e2
        have sc := scan_law (hr k (by omega)) (hg k hlt)
        have hk2 := rbK_keep (rob0 s_Plan_W s_Plan_H s_Plan_CellsL s_Bounds_Turn s_Bounds_Length s_Bounds_Slip s_Bounds_Range s_At_X s_At_Y s_At_H) actsL k
        rw [← e1] at sc
        generalize rbK (rob0 s_Plan_W s_Plan_H s_Plan_CellsL s_Bounds_Turn s_Bounds_Length s_Bounds_Slip s_Bounds_Range s_At_X s_At_Y s_At_H) actsL k = K at e2 hk2 sc
        obtain ⟨k1, k2, k3, -, -, -, k7⟩ := hk2
        have k1 : K.W = s_Plan_W := k1
        have k2 : K.H = s_Plan_H := k2
        have k3 : K.L = s_Plan_CellsL := k3
        have k7 : K.bR = s_Bounds_Range := k7
        have p1 : (PL.getD k eQ.dflt).X = (doR K (actsL.getD k eAct.dflt)).x := by rw [e2]; rfl
        have p2 : (PL.getD k eQ.dflt).Y = (doR K (actsL.getD k eAct.dflt)).y := by rw [e2]; rfl
        have p3 : (PL.getD k eQ.dflt).H = (doR K (actsL.getD k eAct.dflt)).h := by rw [e2]; rfl
        rw [k1, k2, k3, k7, ← p1, ← p2, ← p3] at sc
        obtain ⟨s1, s2, s3⟩ := sc
        have hA : k < VL.length := by rw [hv.1]; exact hlt
        have hB : k < PL.length := by rw [hp.1]; exact hlt
        refine ⟨hlt, hA, hA, hA, hlt, hlt, fun h => ⟨h, hB⟩, fun h => ⟨h, hB⟩, fun h => ⟨h, hA⟩, fun h => ⟨h, hA⟩, fun h => ?_, fun _ _ => ?_⟩
        · rcases h with h | h
          · exact h (by rw [s1])
          · rw [s3] at h; cases h
        refine vcLoop_upd (α := {i : Nat // i ≤ (actsL.getD k eAct.dflt).marks.length}) [1, 2, 5, 6, 8] 0 (fun s => [(9, .o (.c (.v (.int .i64 (s.1 : Nat)))))]) (fun s => []) (fun s => (actsL.getD k eAct.dflt).marks.length - s.1) ⟨0, by omega⟩ ?_ ?_
        · simp only [push_cast, Nat.reduceAdd, Nat.reduceSub, Nat.reduceLeDiff, Nat.reduceEqDiff, Nat.reduceBEq, Nat.reduceMul, Nat.reduceLT, ↓reduceIte, reduceCtorEq, Int.reduceLE, Int.reduceLT, Int.reduceEq, Int.reduceMul, Int.reduceAdd, Int.reduceSub, Int.reduceNeg, Int.reduceToNat, Int.reduceNe, g7, g8, g9, g13]
          exact ⟨hA, hlt⟩
        rintro ⟨i, hi⟩
        simp only [x5L0, push_cast, Nat.reduceAdd, Nat.reduceSub, Nat.reduceLeDiff, Nat.reduceEqDiff, Nat.reduceBEq, Nat.reduceMul, Nat.reduceLT, ↓reduceIte, reduceCtorEq, Int.reduceLE, Int.reduceLT, Int.reduceEq, Int.reduceMul, Int.reduceAdd, Int.reduceSub, Int.reduceNeg, Int.reduceToNat, Int.reduceNe, g7, g8, g9, g13]
        have hm := (act_cmd (hg k hlt)).2.1
        exact ⟨hlt, hA, hlt, hlt, fun hi2 => ⟨hA, hA, by rw [s1]; exact hi2, by rw [s1]; exact hi2, hlt, hlt, hi2, hi2, fun h => h (s2 i hi2), fun _ => ⟨⟨i + 1, by omega⟩, ⟨wrapI (by omega) (by omega), hA, hlt⟩, by simp only; omega⟩⟩, fun _ => ⟨⟨k + 1, by omega⟩, wrapI (by omega) (by omega), by simp only; omega⟩⟩
      · cases hg_
    · cases hg_
  · cases hg_
/-- wayfinder/wayfinderlaw12.RobotMoves -/
noncomputable def g6 : Con := fun args_ E_ nn_ => match args_ with
  | [.a [.v (.int .i64 s_Plan_W), .v (.int .i64 s_Plan_H), .n s_Plan_Cells, .v (.int .i64 s_Bounds_Turn), .v (.int .i64 s_Bounds_Length), .v (.int .i64 s_Bounds_Slip), .v (.int .i64 s_Bounds_Range), .v (.int .i64 s_At_X), .v (.int .i64 s_At_Y), .v (.int .i64 s_At_H)], .c (.n acts)] => (match rowOf E_ s_Plan_Cells with
    | some (s_Plan_Cells_n, s_Plan_Cells_s, s_Plan_Cells_f) => (match rowD eAct.sz E_ acts with
    | some (acts_n, acts_s, acts_f, acts_c) => some (.q (isRow eU8 s_Plan_Cells_n s_Plan_Cells_s s_Plan_Cells_f ∧ isDeep eAct acts_n acts_s acts_f acts_c ∧ u8s (decL eU8 s_Plan_Cells_n s_Plan_Cells_f)) (.o (.c (.v (.bool (true))))))
    | none => none)
    | none => none)
  | _ => none
theorem c6 : COk Try.prog 6 g6 := by
  refine cok_q Try.func6 x6_ok (by kernel_rfl) (cok_tab (cok_cons c7 (cok_cons c8 (cok_cons c9 (cok_cons c14 (cok_cons c15 (cok_cons c16 (cok_cons c17 cok_nil)))))))) ?_
  intro args_ E_ nn_ cr_ hg_
  unfold g6 at hg_
  split at hg_
  · rename_i s_Plan_W s_Plan_H s_Plan_Cells s_Bounds_Turn s_Bounds_Length s_Bounds_Slip s_Bounds_Range s_At_X s_At_Y s_At_H acts
    split at hg_
    · rename_i s_Plan_Cells_n s_Plan_Cells_s s_Plan_Cells_f h_s_Plan_Cells
      split at hg_
      · rename_i acts_n acts_s acts_f acts_c h_acts
        cases hg_
        refine ⟨_, _, rfl, 2, [s_Plan_Cells, acts], [.a [.v (.int .i64 s_Plan_W), .v (.int .i64 s_Plan_H), .n 0, .v (.int .i64 s_Bounds_Turn), .v (.int .i64 s_Bounds_Length), .v (.int .i64 s_Bounds_Slip), .v (.int .i64 s_Bounds_Range), .v (.int .i64 s_At_X), .v (.int .i64 s_At_Y), .v (.int .i64 s_At_H)], .c (.n 1)], [(0, .ro (decL eU8 s_Plan_Cells_n s_Plan_Cells_f).length eU8.sz (rowF eU8 (decL eU8 s_Plan_Cells_n s_Plan_Cells_f))), (1, .deep none (decD eAct acts_n acts_f acts_c).length eAct.sz (deepF eAct (decD eAct acts_n acts_f acts_c) acts_f) (deepC eAct (decD eAct acts_n acts_f acts_c)) [])], .o (.c (.v (.bool (true)))), rfl, rfl, by simp only [push_cast, Nat.reduceLT, Nat.reduceAdd], by simp only [push_cast, Nat.reduceLT, Nat.reduceAdd], by simp only [push_cast, Nat.reduceLT, Nat.reduceAdd], rfl, ⟨inE0_row h_s_Plan_Cells, inE0_deep h_acts, trivial⟩, rfl, ?_⟩
        intro hpre hlen
        obtain ⟨i_s_Plan_Cells, hpre⟩ := hpre
        obtain ⟨i_acts, hpre⟩ := hpre
        refine ⟨⟨inE_row h_s_Plan_Cells i_s_Plan_Cells, inE_deep h_acts i_acts, trivial⟩, ?_⟩
        have z_s_Plan_Cells := lens_row (E := eU8) hlen h_s_Plan_Cells
        have z_acts := lens_deep (D := eAct) hlen h_acts
        clear i_s_Plan_Cells
        generalize decL eU8 s_Plan_Cells_n s_Plan_Cells_f = s_Plan_CellsL at *
        clear i_acts
        generalize decD eAct acts_n acts_f acts_c = actsL at *
        clear h_s_Plan_Cells
        clear h_acts
        simp (config := {maxSteps := 10000000}) only [x6, push_cast, Nat.reduceAdd, Nat.reduceSub, Nat.reduceLeDiff, Nat.reduceEqDiff, Nat.reduceBEq, Nat.reduceMul, Nat.reduceLT, ↓reduceIte, reduceCtorEq, Int.reduceLE, Int.reduceLT, Int.reduceEq, Int.reduceMul, Int.reduceAdd, Int.reduceSub, Int.reduceNeg, Int.reduceToNat, Int.reduceNe, g7, g8, g9, g14, g15, g16, g17]
        intro hf
        have hl := few_len hf
        refine ⟨⟨hpre, Nat.le_trans hl.2 (by omega)⟩, fun G => ⟨fun he => ?_, fun he => ?_⟩⟩
        · rw [(run_err he).1]; rfl
        have hp := runP_at he
        have hv := runV_at he
        have hr := fun k hk => run_at he k hk
        have hg := (run_good he).2
        refine ⟨fun h => ?_, fun h1 h2 => ?_⟩
        · rw [hp.1, hv.1] at h; omega
        refine vcLoop_upd (α := {k : Nat // k ≤ actsL.length}) [1, 2, 5, 6, 8] 0 (fun s => [(9, .o (.c (.v (.int .i64 (s.1 : Nat)))))]) (fun s => [(5, .box [.v (.int .i64 ((poseO (rbK (rob0 s_Plan_W s_Plan_H s_Plan_CellsL s_Bounds_Turn s_Bounds_Length s_Bounds_Slip s_Bounds_Range s_At_X s_At_Y s_At_H) actsL s.1)).X)), .v (.int .i64 ((poseO (rbK (rob0 s_Plan_W s_Plan_H s_Plan_CellsL s_Bounds_Turn s_Bounds_Length s_Bounds_Slip s_Bounds_Range s_At_X s_At_Y s_At_H) actsL s.1)).Y)), .v (.int .i64 ((poseO (rbK (rob0 s_Plan_W s_Plan_H s_Plan_CellsL s_Bounds_Turn s_Bounds_Length s_Bounds_Slip s_Bounds_Range s_At_X s_At_Y s_At_H) actsL s.1)).H))] 28)]) (fun s => actsL.length - s.1) ⟨0, by omega⟩ ?_ ?_
        · simp only [push_cast, Nat.reduceAdd, Nat.reduceSub, Nat.reduceLeDiff, Nat.reduceEqDiff, Nat.reduceBEq, Nat.reduceMul, Nat.reduceLT, ↓reduceIte, reduceCtorEq, Int.reduceLE, Int.reduceLT, Int.reduceEq, Int.reduceMul, Int.reduceAdd, Int.reduceSub, Int.reduceNeg, Int.reduceToNat, Int.reduceNe, g7, g8, g9, g14, g15, g16, g17]
          exact ⟨rfl, rfl, rfl⟩
        rintro ⟨k, hk⟩
        simp only [x6L0, push_cast, Nat.reduceAdd, Nat.reduceSub, Nat.reduceLeDiff, Nat.reduceEqDiff, Nat.reduceBEq, Nat.reduceMul, Nat.reduceLT, ↓reduceIte, reduceCtorEq, Int.reduceLE, Int.reduceLT, Int.reduceEq, Int.reduceMul, Int.reduceAdd, Int.reduceSub, Int.reduceNeg, Int.reduceToNat, Int.reduceNe, g7, g8, g9, g14, g15, g16, g17]
        clear h1 h2
        generalize runV s_Plan_W s_Plan_H s_Plan_CellsL s_Bounds_Turn s_Bounds_Length s_Bounds_Slip s_Bounds_Range s_At_X s_At_Y s_At_H actsL = VL at *
        generalize runP s_Plan_W s_Plan_H s_Plan_CellsL s_Bounds_Turn s_Bounds_Length s_Bounds_Slip s_Bounds_Range s_At_X s_At_Y s_At_H actsL = PL at *
        intro hlt
        rw [hv.1] at hlt
        have e1 := hv.2 k hlt
        have e2 := hp.2 k hlt
        rw [rbK_succ] at e2
        have ho := hr k (by omega)
        have ha := hg k hlt
        have hk2 := rbK_keep (rob0 s_Plan_W s_Plan_H s_Plan_CellsL s_Bounds_Turn s_Bounds_Length s_Bounds_Slip s_Bounds_Range s_At_X s_At_Y s_At_H) actsL k
        have hA : k < VL.length := by rw [hv.1]; exact hlt
        have hB : k < PL.length := by rw [hp.1]; exact hlt
        have e3 : ∀ y : {k : Nat // k ≤ actsL.length}, y.1 = k + 1 → poseO (rbK (rob0 s_Plan_W s_Plan_H s_Plan_CellsL s_Bounds_Turn s_Bounds_Length s_Bounds_Slip s_Bounds_Range s_At_X s_At_Y s_At_H) actsL y.1) = poseO (doR (rbK (rob0 s_Plan_W s_Plan_H s_Plan_CellsL s_Bounds_Turn s_Bounds_Length s_Bounds_Slip s_Bounds_Range s_At_X s_At_Y s_At_H) actsL k) (actsL.getD k eAct.dflt)) := fun y hy => by rw [hy, rbK_succ]
        clear hr hg hv hp
        generalize rbK (rob0 s_Plan_W s_Plan_H s_Plan_CellsL s_Bounds_Turn s_Bounds_Length s_Bounds_Slip s_Bounds_Range s_At_X s_At_Y s_At_H) actsL k = K at *
        obtain ⟨nx, ny, nh, hn, w1, w2, hh, hcase⟩ := tick_law ho ha
        have hs := slip_is (a := actsL.getD k eAct.dflt) ho
        rw [hs] at hn
        simp only at hn
        obtain ⟨k1, k2, k3, k4, k5, k6, k7⟩ := hk2
        simp only [rob0] at k1 k2 k3 k4 k5 k6 k7
        unfold slipO at hs
        rw [k4, k5, k6, k7] at hs
        rw [k4, k5, k6] at hn
        rw [k4, k5, k6, k7] at w1 w2
        rw [k1, k2, k3] at hcase
        rw [doV_t ha] at e1
        rw [doR_t ha] at e2
        simp only [poseO] at e2
        have e4 := e3 ⟨k + 1, by omega⟩ rfl
        rw [doR_t ha] at e4
        simp only [poseO, QQ.mk.injEq] at e4
        clear e3
        rcases hcase with ⟨hst, c1, c2⟩ | ⟨hst, c1, c2⟩
        · rw [hst] at e1 e2 e4
          simp only at e1 e2 e4
          have p1 : (PL.getD k eQ.dflt).X = K.x := by rw [e2]
          have p2 : (PL.getD k eQ.dflt).Y = K.y := by rw [e2]
          have p3 : (PL.getD k eQ.dflt).H = nh := by rw [e2]
          have b1 : (VL.getD k eEvt.dflt).bump = true := by rw [e1]
          simp only [poseO, hs, hn, p1, p2, p3, b1, w2, c1, c2, decide_true, push_cast, Nat.reduceAdd, Nat.reduceSub, Nat.reduceLeDiff, Nat.reduceEqDiff, Nat.reduceBEq, Nat.reduceMul, Nat.reduceLT, ↓reduceIte, reduceCtorEq, Int.reduceLE, Int.reduceLT, Int.reduceEq, Int.reduceMul, Int.reduceAdd, Int.reduceSub, Int.reduceNeg, Int.reduceToNat, Int.reduceNe, g7, g8, g9, g14, g15, g16, g17]
          iterate 30 (first | refine ⟨hlt, ?_⟩ | refine ⟨hA, ?_⟩ | refine ⟨hB, ?_⟩ | refine ⟨hpre, ?_⟩ | refine ⟨by rfl, ?_⟩ | skip)
          exact ⟨⟨k + 1, by omega⟩, ⟨wrapI (by omega) (by omega), e4.1.symm, e4.2.1.symm, e4.2.2.symm⟩, by simp only; omega⟩
        rw [hst] at e1 e2 e4
        simp only at e1 e2 e4
        have p1 : (PL.getD k eQ.dflt).X = nx := by rw [e2]
        have p2 : (PL.getD k eQ.dflt).Y = ny := by rw [e2]
        have p3 : (PL.getD k eQ.dflt).H = nh := by rw [e2]
        have b1 : (VL.getD k eEvt.dflt).bump = false := by rw [e1]
        by_cases hf : 0 < (actsL.getD k eAct.dflt).fwd
        · have c3 : blkB s_Plan_W s_Plan_H s_Plan_CellsL K.x K.y nx ny = false := c1.resolve_left (by omega)
          simp only [poseO, hs, hn, p1, p2, p3, b1, w1, hf, c3, decide_true, push_cast, Nat.reduceAdd, Nat.reduceSub, Nat.reduceLeDiff, Nat.reduceEqDiff, Nat.reduceBEq, Nat.reduceMul, Nat.reduceLT, ↓reduceIte, reduceCtorEq, Int.reduceLE, Int.reduceLT, Int.reduceEq, Int.reduceMul, Int.reduceAdd, Int.reduceSub, Int.reduceNeg, Int.reduceToNat, Int.reduceNe, g7, g8, g9, g14, g15, g16, g17]
          iterate 30 (first | refine ⟨hlt, ?_⟩ | refine ⟨hA, ?_⟩ | refine ⟨hB, ?_⟩ | refine ⟨hpre, ?_⟩ | refine ⟨by rfl, ?_⟩ | skip)
          exact ⟨⟨k + 1, by omega⟩, ⟨wrapI (by omega) (by omega), e4.1.symm, e4.2.1.symm, e4.2.2.symm⟩, by simp only; omega⟩
        simp only [poseO, hs, hn, p1, p2, p3, b1, w1, hf, decide_false, push_cast, Nat.reduceAdd, Nat.reduceSub, Nat.reduceLeDiff, Nat.reduceEqDiff, Nat.reduceBEq, Nat.reduceMul, Nat.reduceLT, ↓reduceIte, reduceCtorEq, Int.reduceLE, Int.reduceLT, Int.reduceEq, Int.reduceMul, Int.reduceAdd, Int.reduceSub, Int.reduceNeg, Int.reduceToNat, Int.reduceNe, g7, g8, g9, g14, g15, g16, g17]
        iterate 30 (first | refine ⟨hlt, ?_⟩ | refine ⟨hA, ?_⟩ | refine ⟨hB, ?_⟩ | refine ⟨hpre, ?_⟩ | refine ⟨by rfl, ?_⟩ | skip)
        exact ⟨⟨k + 1, by omega⟩, ⟨wrapI (by omega) (by omega), e4.1.symm, e4.2.1.symm, e4.2.2.symm⟩, by simp only; omega⟩
      · cases hg_
    · cases hg_
  · cases hg_
end Go.Proofs.Ytiijdbpncpdmdaa
