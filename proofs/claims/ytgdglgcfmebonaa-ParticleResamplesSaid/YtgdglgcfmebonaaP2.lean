/- Contracts. -/
import Derived.Test.YtgdglgcfmebonaaRows
import Derived.Test.YtgdglgcfmebonaaP1
import Derived.KernelRfl
set_option linter.unusedVariables false
set_option linter.unusedSimpArgs false
set_option maxRecDepth 20000
namespace Go.Proofs.Ytgdglgcfmebonaa
open Go.Sx
def x16L0 : XC := (.seq (.seq (.reg false [⟨(some 45), .mv, [(.t 1)], none⟩, ⟨(some 46), .mv, [(.t 11)], none⟩, ⟨(some 47), (.bin .mul), [(.t 45), (.t 46)], none⟩, ⟨(some 48), .mv, [(.t 2)], none⟩, ⟨(some 49), .mv, [(.t 12)], none⟩, ⟨(some 50), .mv, [(.t 8)], none⟩, ⟨(some 51), (.bin .mul), [(.t 49), (.t 50)], none⟩, ⟨(some 52), (.bin .add), [(.t 48), (.t 51)], none⟩, ⟨(some 53), (.bin .leq), [(.t 47), (.t 52)], none⟩]) (.cond (.t 53) .skip (.exit 3))) (.block 4 (.seq (.reg false [⟨(some 54), .mv, [(.t 10)], none⟩, ⟨(some 55), (.bin .add), [(.t 54), (.k (.int .i64 1))], none⟩, ⟨(some 10), .mv, [(.t 55)], none⟩]) (.reg false [⟨(some 56), .mv, [(.t 11)], none⟩, ⟨(some 57), .mv, [(.t 0)], none⟩, ⟨(some 58), .mv, [(.t 10)], none⟩, ⟨(some 59), (.ixS 4), [(.t 57), (.t 58)], none⟩, ⟨(some 60), (.fld 3), [(.t 59)], none⟩, ⟨(some 61), .load1, [(.t 60)], none⟩, ⟨(some 62), (.bin .add), [(.t 56), (.t 61)], none⟩, ⟨(some 11), .mv, [(.t 62)], none⟩]))))
def x16L1 : XC := (.seq (.reg false [⟨(some 43), (.bin .lss), [(.t 42), (.t 41)], none⟩]) (.seq (.cond (.t 43) .skip (.exit 1)) (.seq (.block 2 (.seq (.reg false [⟨(some 44), .mv, [(.t 42)], none⟩, ⟨(some 12), .mv, [(.t 44)], none⟩]) (.seq (.block 3 (.loop x16L0)) (.reg false [⟨(some 63), .mv, [(.t 9)], none⟩, ⟨(some 64), .mv, [(.t 0)], none⟩, ⟨(some 65), .mv, [(.t 10)], none⟩, ⟨(some 66), (.ixS 4), [(.t 64), (.t 65)], none⟩, ⟨(some 67), (.fld 0), [(.t 66)], none⟩, ⟨(some 68), (.loadN 3), [(.t 67)], none⟩, ⟨(some 69), (.build [(.int .i64 0), (.int .i64 0), (.int .i64 0), (.int .i64 0)] [(0, 3), (3, 1)]), [(.t 68), (.k (.int .i64 1))], none⟩, ⟨(some 70), (.slit 35 1 4 [(.int .i64 0), (.int .i64 0), (.int .i64 0), (.int .i64 0)] [(0, 4)]), [(.t 69)], none⟩, ⟨(some 71), (.app 35 4 32), [(.t 63), (.t 70)], none⟩, ⟨(some 9), .mv, [(.t 71)], none⟩])))) (.reg false [⟨(some 72), (.bin .add), [(.t 42), (.k (.int .i64 1))], none⟩, ⟨(some 42), .mv, [(.t 72)], none⟩]))))
def x16 : XFn := ⟨74, (.seq (.reg false [⟨(some 6), .mv, [(.k (.slice none 0 0))], none⟩, ⟨(some 7), .mv, [(.k (.int .i64 0))], none⟩]) (.seq (.reg false [⟨(some 13), .mv, [(.t 0)], none⟩, ⟨(some 14), (.call 14), [(.t 13)], none⟩, ⟨(some 8), .mv, [(.t 14)], none⟩]) (.seq (.block 0 (.seq (.reg false [⟨(some 16), .mv, [(.t 0)], none⟩, ⟨(some 17), (.call 44), [(.t 16)], none⟩, ⟨(some 18), (.un .not), [(.t 17)], none⟩, ⟨(some 15), .mv, [(.t 18)], none⟩]) (.cond (.t 15) (.seq (.reg false [⟨(some 6), .mv, [(.k (.slice none 0 0))], none⟩, ⟨(some 7), .mv, [(.k (.int .i64 1))], none⟩]) .ret) (.seq (.reg false [⟨(some 20), .mv, [(.t 1)], none⟩, ⟨(some 21), (.bin .lss), [(.t 20), (.k (.int .i64 1))], none⟩, ⟨(some 22), .mv, [(.t 21)], none⟩, ⟨(some 23), .mv, [(.t 1)], (some (22, false))⟩, ⟨(some 24), (.bin .gtr), [(.t 23), (.k (.int .i64 1024))], (some (22, false))⟩, ⟨(some 25), .pick, [(.t 22), (.k (.bool true)), (.t 24)], none⟩, ⟨(some 19), .mv, [(.t 25)], none⟩]) (.cond (.t 19) (.seq (.reg false [⟨(some 6), .mv, [(.k (.slice none 0 0))], none⟩, ⟨(some 7), .mv, [(.k (.int .i64 2))], none⟩]) .ret) (.seq (.reg false [⟨(some 27), .mv, [(.t 8)], none⟩, ⟨(some 28), (.bin .eql), [(.t 27), (.k (.int .i64 0))], none⟩, ⟨(some 26), .mv, [(.t 28)], none⟩]) (.cond (.t 26) (.seq (.reg false [⟨(some 6), .mv, [(.k (.slice none 0 0))], none⟩, ⟨(some 7), .mv, [(.k (.int .i64 9))], none⟩]) .ret) (.seq (.reg false [⟨(some 30), .mv, [(.t 2)], none⟩, ⟨(some 31), (.bin .lss), [(.t 30), (.k (.int .i64 0))], none⟩, ⟨(some 32), .mv, [(.t 31)], none⟩, ⟨(some 33), .mv, [(.t 2)], (some (32, false))⟩, ⟨(some 34), .mv, [(.t 8)], (some (32, false))⟩, ⟨(some 35), (.bin .geq), [(.t 33), (.t 34)], (some (32, false))⟩, ⟨(some 36), .pick, [(.t 32), (.k (.bool true)), (.t 35)], none⟩, ⟨(some 29), .mv, [(.t 36)], none⟩]) (.cond (.t 29) (.seq (.reg false [⟨(some 6), .mv, [(.k (.slice none 0 0))], none⟩, ⟨(some 7), .mv, [(.k (.int .i64 2))], none⟩]) .ret) .skip))))))))) (.seq (.reg false [⟨(some 9), .mv, [(.k (.slice none 0 0))], none⟩]) (.seq (.reg true [⟨(some 37), .mv, [(.t 0)], none⟩, ⟨(some 38), (.ixS 4), [(.t 37), (.k (.int .i64 0))], none⟩, ⟨(some 39), (.fld 3), [(.t 38)], none⟩, ⟨(some 40), .load1, [(.t 39)], none⟩, ⟨(some 10), .mv, [(.k (.int .i64 0))], none⟩, ⟨(some 11), .mv, [(.t 40)], none⟩]) (.seq (.seq (.reg false [⟨(some 41), .mv, [(.t 1)], none⟩, ⟨(some 42), .mv, [(.k (.int .i64 0))], none⟩]) (.block 1 (.loop x16L1))) (.seq (.reg false [⟨(some 73), .mv, [(.t 9)], none⟩, ⟨(some 6), .mv, [(.t 73)], none⟩, ⟨(some 7), .mv, [(.k (.int .i64 0))], none⟩]) .ret))))))), [(.s 6), (.s 7)]⟩
theorem x16_ok : xfn Try.prog Try.f16 = some x16 := by kernel_rfl
def x12 : XFn := ⟨69, (.seq (.reg false [⟨(some 0), .mv, [(.k (.bool false))], none⟩]) (.seq (.reg false [⟨(some 8), (.build [(.int .i64 0), (.int .i64 0), (.int .i64 0)] [(0, 1)]), [(.k (.int .i64 5))], none⟩, ⟨(some 9), (.build [(.int .i64 0), (.int .i64 0), (.int .i64 0), (.int .i64 0)] [(0, 3), (3, 1)]), [(.t 8), (.k (.int .i64 1))], none⟩, ⟨(some 10), (.build [(.int .i64 0), (.int .i64 0), (.int .i64 0)] [(0, 1)]), [(.k (.int .i64 6))], none⟩, ⟨(some 11), (.build [(.int .i64 0), (.int .i64 0), (.int .i64 0), (.int .i64 0)] [(0, 3)]), [(.t 10)], none⟩, ⟨(some 12), (.build [(.int .i64 0), (.int .i64 0), (.int .i64 0)] [(0, 1)]), [(.k (.int .i64 7))], none⟩, ⟨(some 13), (.build [(.int .i64 0), (.int .i64 0), (.int .i64 0), (.int .i64 0)] [(0, 3), (3, 1)]), [(.t 12), (.k (.int .i64 3))], none⟩, ⟨(some 14), (.slit 35 3 4 [(.int .i64 0), (.int .i64 0), (.int .i64 0), (.int .i64 0), (.int .i64 0), (.int .i64 0), (.int .i64 0), (.int .i64 0), (.int .i64 0), (.int .i64 0), (.int .i64 0), (.int .i64 0)] [(0, 4), (4, 4), (8, 4)]), [(.t 9), (.t 11), (.t 13)], none⟩, ⟨(some 1), .mv, [(.t 14)], none⟩]) (.seq (.reg false [⟨(some 16), .mv, [(.t 1)], none⟩, ⟨(some 17), (.call 16), [(.t 16), (.k (.int .i64 4)), (.k (.int .i64 0))], none⟩, ⟨(some 15), .mv, [(.t 17)], none⟩, ⟨(some 18), (.ext 0), [(.t 15)], none⟩, ⟨(some 19), (.ext 1), [(.t 15)], none⟩, ⟨(some 2), .mv, [(.t 18)], none⟩, ⟨(some 3), .mv, [(.t 19)], none⟩]) (.seq (.reg false [⟨(some 21), .mv, [(.t 1)], none⟩, ⟨(some 22), (.call 17), [(.t 21)], none⟩, ⟨(some 20), .mv, [(.t 22)], none⟩, ⟨(some 23), (.ext 0), [(.t 20)], none⟩, ⟨(some 24), (.ext 1), [(.t 20)], none⟩, ⟨(some 4), (.alloc 38 [(.int .i64 0), (.int .i64 0)]), [], none⟩, ⟨none, (.store 2), [(.t 4), (.t 23)], none⟩, ⟨(some 5), .mv, [(.t 24)], none⟩]) (.seq (.reg false [⟨(some 26), (.call 27), [(.k (.int .u64 0)), (.k (.int .i64 10))], none⟩, ⟨(some 25), .mv, [(.t 26)], none⟩, ⟨(some 27), (.ext 0), [(.t 25)], none⟩, ⟨(some 28), (.ext 1), [(.t 25)], none⟩, ⟨(some 6), .mv, [(.t 27)], none⟩, ⟨(some 7), .mv, [(.t 28)], none⟩]) (.seq (.reg false [⟨(some 29), (.call 31), [(.k (.int .u64 0))], none⟩, ⟨(some 30), (.bin .eql), [(.t 29), (.k (.int .u64 1442695040888963407))], none⟩, ⟨(some 31), .mv, [(.t 30)], none⟩, ⟨(some 32), .mv, [(.t 6)], (some (31, true))⟩, ⟨(some 33), (.bin .eql), [(.t 32), (.k (.int .i64 7))], (some (31, true))⟩, ⟨(some 34), .pick, [(.t 31), (.t 33), (.k (.bool false))], none⟩, ⟨(some 35), .mv, [(.t 34)], none⟩, ⟨(some 36), .mv, [(.t 3)], (some (35, true))⟩, ⟨(some 37), (.bin .eql), [(.t 36), (.k (.int .i64 0))], (some (35, true))⟩, ⟨(some 38), .pick, [(.t 35), (.t 37), (.k (.bool false))], none⟩, ⟨(some 39), .mv, [(.t 38)], none⟩, ⟨(some 40), .mv, [(.t 2)], (some (39, true))⟩, ⟨(some 41), .lenS, [(.t 40)], (some (39, true))⟩, ⟨(some 42), (.bin .eql), [(.t 41), (.k (.int .i64 4))], (some (39, true))⟩, ⟨(some 43), .pick, [(.t 39), (.t 42), (.k (.bool false))], none⟩, ⟨(some 44), .mv, [(.t 43)], none⟩, ⟨(some 45), .mv, [(.t 2)], (some (44, true))⟩, ⟨(some 46), (.ixS 4), [(.t 45), (.k (.int .i64 0))], (some (44, true))⟩, ⟨(some 47), (.fld 0), [(.t 46)], (some (44, true))⟩, ⟨(some 48), (.fld 0), [(.t 47)], (some (44, true))⟩, ⟨(some 49), .load1, [(.t 48)], (some (44, true))⟩, ⟨(some 50), (.bin .eql), [(.t 49), (.k (.int .i64 5))], (some (44, true))⟩, ⟨(some 51), .pick, [(.t 44), (.t 50), (.k (.bool false))], none⟩, ⟨(some 52), .mv, [(.t 51)], none⟩, ⟨(some 53), .mv, [(.t 2)], (some (52, true))⟩, ⟨(some 54), (.ixS 4), [(.t 53), (.k (.int .i64 1))], (some (52, true))⟩, ⟨(some 55), (.fld 0), [(.t 54)], (some (52, true))⟩, ⟨(some 56), (.fld 0), [(.t 55)], (some (52, true))⟩, ⟨(some 57), .load1, [(.t 56)], (some (52, true))⟩, ⟨(some 58), (.bin .eql), [(.t 57), (.k (.int .i64 7))], (some (52, true))⟩, ⟨(some 59), .pick, [(.t 52), (.t 58), (.k (.bool false))], none⟩, ⟨(some 60), .mv, [(.t 59)], none⟩, ⟨(some 61), .mv, [(.t 5)], (some (60, true))⟩, ⟨(some 62), (.bin .eql), [(.t 61), (.k (.int .i64 0))], (some (60, true))⟩, ⟨(some 63), .pick, [(.t 60), (.t 62), (.k (.bool false))], none⟩, ⟨(some 64), .mv, [(.t 63)], none⟩, ⟨(some 65), (.loadN 2), [(.t 4)], (some (64, true))⟩, ⟨(some 66), (.build [(.int .i64 0), (.int .i64 0)] [(0, 1), (1, 1)]), [(.k (.int .i64 8)), (.k (.int .i64 5))], (some (64, true))⟩, ⟨(some 67), (.eqA false [(.i .i64), (.i .i64)]), [(.t 65), (.t 66)], (some (64, true))⟩, ⟨(some 68), .pick, [(.t 64), (.t 67), (.k (.bool false))], none⟩, ⟨(some 0), .mv, [(.t 68)], none⟩]) .ret)))))), [(.s 0)]⟩
theorem x12_ok : xfn Try.prog Try.f12 = some x12 := by kernel_rfl
def x4L0 : XC := (.seq (.seq (.reg false [⟨(some 26), .mv, [(.t 9)], none⟩, ⟨(some 27), .mv, [(.t 0)], none⟩, ⟨(some 28), .lenS, [(.t 27)], none⟩, ⟨(some 29), (.bin .lss), [(.t 26), (.t 28)], none⟩]) (.cond (.t 29) .skip (.exit 0))) (.seq (.block 1 (.seq (.reg false [⟨(some 32), .mv, [(.t 0)], none⟩, ⟨(some 33), .mv, [(.t 9)], none⟩, ⟨(some 34), (.ixS 1), [(.t 32), (.t 33)], none⟩, ⟨(some 35), .load1, [(.t 34)], none⟩, ⟨(some 36), (.conv .i64), [(.t 35)], none⟩, ⟨(some 10), .mv, [(.t 36)], none⟩]) (.seq (.seq (.reg false [⟨(some 37), .mv, [(.t 10)], none⟩, ⟨(some 38), (.bin .eql), [(.t 37), (.k (.int .i64 0))], none⟩]) (.cond (.t 38) (.exit 1) .skip)) (.seq (.seq (.reg false [⟨(some 39), .mv, [(.t 6)], none⟩, ⟨(some 40), (.bin .eql), [(.t 39), (.k (.int .i64 0))], none⟩]) (.cond (.t 40) (.reg false [⟨(some 41), .mv, [(.t 10)], none⟩, ⟨(some 7), .mv, [(.t 41)], none⟩]) .skip)) (.seq (.reg false [⟨(some 42), .mv, [(.t 6)], none⟩, ⟨(some 43), (.bin .add), [(.t 42), (.k (.int .i64 1))], none⟩, ⟨(some 6), .mv, [(.t 43)], none⟩]) (.reg false [⟨(some 44), .mv, [(.t 8)], none⟩, ⟨(some 45), .mv, [(.t 44)], none⟩, ⟨(some 46), .mv, [(.t 10)], (some (45, true))⟩, ⟨(some 47), .mv, [(.t 7)], (some (45, true))⟩, ⟨(some 48), (.bin .eql), [(.t 46), (.t 47)], (some (45, true))⟩, ⟨(some 49), .pick, [(.t 45), (.t 48), (.k (.bool false))], none⟩, ⟨(some 8), .mv, [(.t 49)], none⟩])))))) (.reg false [⟨(some 30), .mv, [(.t 9)], none⟩, ⟨(some 31), (.bin .add), [(.t 30), (.k (.int .i64 1))], none⟩, ⟨(some 9), .mv, [(.t 31)], none⟩])))
def x4 : XFn := ⟨93, (.seq (.reg false [⟨(some 2), .mv, [(.k (.bool false))], none⟩]) (.seq (.seq (.reg false [⟨(some 11), (.call 12), [], none⟩, ⟨(some 12), (.un .not), [(.t 11)], none⟩, ⟨(some 13), .mv, [(.t 12)], none⟩, ⟨(some 14), .mv, [(.t 0)], (some (13, false))⟩, ⟨(some 15), .lenS, [(.t 14)], (some (13, false))⟩, ⟨(some 16), (.bin .gtr), [(.t 15), (.k (.int .i64 40))], (some (13, false))⟩, ⟨(some 17), .pick, [(.t 13), (.k (.bool true)), (.t 16)], none⟩]) (.cond (.t 17) (.seq (.reg false [⟨(some 18), (.call 12), [], none⟩, ⟨(some 2), .mv, [(.t 18)], none⟩]) .ret) .skip)) (.seq (.reg false [⟨(some 19), .mv, [(.t 0)], none⟩, ⟨(some 20), (.call 13), [(.t 19)], none⟩, ⟨(some 3), .mv, [(.t 20)], none⟩]) (.seq (.reg false [⟨(some 22), .mv, [(.t 3)], none⟩, ⟨(some 23), (.call 17), [(.t 22)], none⟩, ⟨(some 21), .mv, [(.t 23)], none⟩, ⟨(some 24), (.ext 0), [(.t 21)], none⟩, ⟨(some 25), (.ext 1), [(.t 21)], none⟩, ⟨(some 4), (.alloc 38 [(.int .i64 0), (.int .i64 0)]), [], none⟩, ⟨none, (.store 2), [(.t 4), (.t 24)], none⟩, ⟨(some 5), .mv, [(.t 25)], none⟩]) (.seq (.reg false [⟨(some 6), .mv, [(.k (.int .i64 0))], none⟩, ⟨(some 7), .mv, [(.k (.int .i64 0))], none⟩, ⟨(some 8), .mv, [(.k (.bool true))], none⟩]) (.seq (.seq (.reg false [⟨(some 9), .mv, [(.k (.int .i64 0))], none⟩]) (.block 0 (.loop x4L0))) (.seq (.seq (.reg false [⟨(some 50), .mv, [(.t 6)], none⟩, ⟨(some 51), (.bin .eql), [(.t 50), (.k (.int .i64 0))], none⟩]) (.cond (.t 51) (.seq (.reg false [⟨(some 52), .mv, [(.t 5)], none⟩, ⟨(some 53), (.bin .eql), [(.t 52), (.k (.int .i64 9))], none⟩, ⟨(some 54), .mv, [(.t 53)], none⟩, ⟨(some 55), (.loadN 2), [(.t 4)], (some (54, true))⟩, ⟨(some 56), (.build [(.int .i64 0), (.int .i64 0)] []), [], (some (54, true))⟩, ⟨(some 57), (.eqA false [(.i .i64), (.i .i64)]), [(.t 55), (.t 56)], (some (54, true))⟩, ⟨(some 58), .pick, [(.t 54), (.t 57), (.k (.bool false))], none⟩, ⟨(some 2), .mv, [(.t 58)], none⟩]) .ret) .skip)) (.seq (.reg false [⟨(some 59), .mv, [(.t 5)], none⟩, ⟨(some 60), (.bin .eql), [(.t 59), (.k (.int .i64 0))], none⟩, ⟨(some 61), .mv, [(.t 60)], none⟩, ⟨(some 62), (.fld 1), [(.t 4)], (some (61, true))⟩, ⟨(some 63), .load1, [(.t 62)], (some (61, true))⟩, ⟨(some 64), (.bin .gtr), [(.t 63), (.k (.int .i64 0))], (some (61, true))⟩, ⟨(some 65), .pick, [(.t 61), (.t 64), (.k (.bool false))], none⟩, ⟨(some 66), .mv, [(.t 65)], none⟩, ⟨(some 67), (.fld 0), [(.t 4)], (some (66, true))⟩, ⟨(some 68), .load1, [(.t 67)], (some (66, true))⟩, ⟨(some 69), (.fld 1), [(.t 4)], (some (66, true))⟩, ⟨(some 70), .load1, [(.t 69)], (some (66, true))⟩, ⟨(some 71), (.bin .geq), [(.t 68), (.t 70)], (some (66, true))⟩, ⟨(some 72), .pick, [(.t 66), (.t 71), (.k (.bool false))], none⟩, ⟨(some 73), .mv, [(.t 72)], none⟩, ⟨(some 74), (.fld 0), [(.t 4)], (some (73, true))⟩, ⟨(some 75), .load1, [(.t 74)], (some (73, true))⟩, ⟨(some 76), .mv, [(.t 6)], (some (73, true))⟩, ⟨(some 77), (.fld 1), [(.t 4)], (some (73, true))⟩, ⟨(some 78), .load1, [(.t 77)], (some (73, true))⟩, ⟨(some 79), (.bin .mul), [(.t 76), (.t 78)], (some (73, true))⟩, ⟨(some 80), (.bin .leq), [(.t 75), (.t 79)], (some (73, true))⟩, ⟨(some 81), .pick, [(.t 73), (.t 80), (.k (.bool false))], none⟩, ⟨(some 82), .mv, [(.t 81)], none⟩, ⟨(some 83), (.fld 0), [(.t 4)], (some (82, true))⟩, ⟨(some 84), .load1, [(.t 83)], (some (82, true))⟩, ⟨(some 85), .mv, [(.t 6)], (some (82, true))⟩, ⟨(some 86), (.fld 1), [(.t 4)], (some (82, true))⟩, ⟨(some 87), .load1, [(.t 86)], (some (82, true))⟩, ⟨(some 88), (.bin .mul), [(.t 85), (.t 87)], (some (82, true))⟩, ⟨(some 89), (.bin .eql), [(.t 84), (.t 88)], (some (82, true))⟩, ⟨(some 90), .mv, [(.t 8)], (some (82, true))⟩, ⟨(some 91), (.binb .eql), [(.t 89), (.t 90)], (some (82, true))⟩, ⟨(some 92), .pick, [(.t 82), (.t 91), (.k (.bool false))], none⟩, ⟨(some 2), .mv, [(.t 92)], none⟩]) .ret)))))))), [(.s 2)]⟩
theorem x4_ok : xfn Try.prog Try.f4 = some x4 := by kernel_rfl
def x3L0 : XC := (.seq (.seq (.reg false [⟨(some 66), .mv, [(.t 14)], none⟩, ⟨(some 67), .mv, [(.t 1)], none⟩, ⟨(some 68), (.bin .lss), [(.t 66), (.t 67)], none⟩]) (.cond (.t 68) .skip (.exit 0))) (.seq (.block 1 (.seq (.reg false [⟨(some 71), .mv, [(.t 11)], none⟩, ⟨(some 72), .mv, [(.t 14)], none⟩, ⟨(some 73), (.ixS 4), [(.t 71), (.t 72)], none⟩, ⟨(some 74), (.fld 0), [(.t 73)], none⟩, ⟨(some 75), (.fld 0), [(.t 74)], none⟩, ⟨(some 76), .load1, [(.t 75)], none⟩, ⟨(some 15), .mv, [(.t 76)], none⟩]) (.seq (.seq (.reg false [⟨(some 77), .mv, [(.t 15)], none⟩, ⟨(some 78), (.bin .lss), [(.t 77), (.k (.int .i64 0))], none⟩, ⟨(some 79), .mv, [(.t 78)], none⟩, ⟨(some 80), .mv, [(.t 15)], (some (79, false))⟩, ⟨(some 81), .mv, [(.t 7)], (some (79, false))⟩, ⟨(some 82), .lenS, [(.t 81)], (some (79, false))⟩, ⟨(some 83), (.bin .geq), [(.t 80), (.t 82)], (some (79, false))⟩, ⟨(some 84), .pick, [(.t 79), (.k (.bool true)), (.t 83)], none⟩, ⟨(some 85), .mv, [(.t 84)], none⟩, ⟨(some 86), .mv, [(.t 11)], (some (85, false))⟩, ⟨(some 87), .mv, [(.t 14)], (some (85, false))⟩, ⟨(some 88), (.ixS 4), [(.t 86), (.t 87)], (some (85, false))⟩, ⟨(some 89), (.fld 3), [(.t 88)], (some (85, false))⟩, ⟨(some 90), .load1, [(.t 89)], (some (85, false))⟩, ⟨(some 91), (.bin .neq), [(.t 90), (.k (.int .i64 1))], (some (85, false))⟩, ⟨(some 92), .pick, [(.t 85), (.k (.bool true)), (.t 91)], none⟩, ⟨(some 93), .mv, [(.t 92)], none⟩, ⟨(some 94), .mv, [(.t 14)], (some (93, false))⟩, ⟨(some 95), (.bin .gtr), [(.t 94), (.k (.int .i64 0))], (some (93, false))⟩, ⟨(some 96), .mv, [(.t 95)], (some (93, false))⟩, ⟨(some 97), .mv, [(.t 11)], (some (96, true))⟩, ⟨(some 98), .mv, [(.t 14)], (some (96, true))⟩, ⟨(some 99), (.bin .sub), [(.t 98), (.k (.int .i64 1))], (some (96, true))⟩, ⟨(some 100), (.ixS 4), [(.t 97), (.t 99)], (some (96, true))⟩, ⟨(some 101), (.fld 0), [(.t 100)], (some (96, true))⟩, ⟨(some 102), (.fld 0), [(.t 101)], (some (96, true))⟩, ⟨(some 103), .load1, [(.t 102)], (some (96, true))⟩, ⟨(some 104), .mv, [(.t 15)], (some (96, true))⟩, ⟨(some 105), (.bin .gtr), [(.t 103), (.t 104)], (some (96, true))⟩, ⟨(some 106), .pick, [(.t 96), (.t 105), (.k (.bool false))], (some (93, false))⟩, ⟨(some 107), .pick, [(.t 93), (.k (.bool true)), (.t 106)], none⟩]) (.cond (.t 107) (.seq (.reg false [⟨(some 6), .mv, [(.k (.bool false))], none⟩]) .ret) .skip)) (.reg false [⟨(some 108), .mv, [(.t 13)], none⟩, ⟨(some 109), .mv, [(.t 15)], none⟩, ⟨(some 110), (.ixS 1), [(.t 108), (.t 109)], none⟩, ⟨(some 111), .load1, [(.t 110)], none⟩, ⟨(some 112), (.bin .add), [(.t 111), (.k (.int .i64 1))], none⟩, ⟨(some 113), (.ixS 1), [(.t 108), (.t 109)], none⟩, ⟨none, (.store 1), [(.t 113), (.t 112)], none⟩])))) (.reg false [⟨(some 69), .mv, [(.t 14)], none⟩, ⟨(some 70), (.bin .add), [(.t 69), (.k (.int .i64 1))], none⟩, ⟨(some 14), .mv, [(.t 70)], none⟩])))
def x3L1 : XC := (.seq (.seq (.reg false [⟨(some 114), .mv, [(.t 16)], none⟩, ⟨(some 115), .mv, [(.t 7)], none⟩, ⟨(some 116), .lenS, [(.t 115)], none⟩, ⟨(some 117), (.bin .lss), [(.t 114), (.t 116)], none⟩]) (.cond (.t 117) .skip (.exit 2))) (.seq (.block 3 (.seq (.reg false [⟨(some 120), .mv, [(.t 1)], none⟩, ⟨(some 121), .mv, [(.t 7)], none⟩, ⟨(some 122), .mv, [(.t 16)], none⟩, ⟨(some 123), (.ixS 4), [(.t 121), (.t 122)], none⟩, ⟨(some 124), (.fld 3), [(.t 123)], none⟩, ⟨(some 125), .load1, [(.t 124)], none⟩, ⟨(some 126), (.bin .mul), [(.t 120), (.t 125)], none⟩, ⟨(some 127), .mv, [(.t 8)], none⟩, ⟨(some 128), (.bin .quo), [(.t 126), (.t 127)], none⟩, ⟨(some 17), .mv, [(.t 128)], none⟩]) (.seq (.reg false [⟨(some 129), .mv, [(.t 13)], none⟩, ⟨(some 130), .mv, [(.t 16)], none⟩, ⟨(some 131), (.ixS 1), [(.t 129), (.t 130)], none⟩, ⟨(some 132), .load1, [(.t 131)], none⟩, ⟨(some 133), .mv, [(.t 17)], none⟩, ⟨(some 134), (.bin .lss), [(.t 132), (.t 133)], none⟩, ⟨(some 135), .mv, [(.t 134)], none⟩, ⟨(some 136), .mv, [(.t 13)], (some (135, false))⟩, ⟨(some 137), .mv, [(.t 16)], (some (135, false))⟩, ⟨(some 138), (.ixS 1), [(.t 136), (.t 137)], (some (135, false))⟩, ⟨(some 139), .load1, [(.t 138)], (some (135, false))⟩, ⟨(some 140), .mv, [(.t 17)], (some (135, false))⟩, ⟨(some 141), (.bin .add), [(.t 140), (.k (.int .i64 1))], (some (135, false))⟩, ⟨(some 142), (.bin .gtr), [(.t 139), (.t 141)], (some (135, false))⟩, ⟨(some 143), .pick, [(.t 135), (.k (.bool true)), (.t 142)], none⟩, ⟨(some 144), .mv, [(.t 143)], none⟩, ⟨(some 145), .mv, [(.t 13)], (some (144, false))⟩, ⟨(some 146), .mv, [(.t 16)], (some (144, false))⟩, ⟨(some 147), (.ixS 1), [(.t 145), (.t 146)], (some (144, false))⟩, ⟨(some 148), .load1, [(.t 147)], (some (144, false))⟩, ⟨(some 149), (.bin .gtr), [(.t 148), (.k (.int .i64 0))], (some (144, false))⟩, ⟨(some 150), .mv, [(.t 149)], (some (144, false))⟩, ⟨(some 151), .mv, [(.t 7)], (some (150, true))⟩, ⟨(some 152), .mv, [(.t 16)], (some (150, true))⟩, ⟨(some 153), (.ixS 4), [(.t 151), (.t 152)], (some (150, true))⟩, ⟨(some 154), (.fld 3), [(.t 153)], (some (150, true))⟩, ⟨(some 155), .load1, [(.t 154)], (some (150, true))⟩, ⟨(some 156), (.bin .eql), [(.t 155), (.k (.int .i64 0))], (some (150, true))⟩, ⟨(some 157), .pick, [(.t 150), (.t 156), (.k (.bool false))], (some (144, false))⟩, ⟨(some 158), .pick, [(.t 144), (.k (.bool true)), (.t 157)], none⟩]) (.cond (.t 158) (.seq (.reg false [⟨(some 6), .mv, [(.k (.bool false))], none⟩]) .ret) .skip)))) (.reg false [⟨(some 118), .mv, [(.t 16)], none⟩, ⟨(some 119), (.bin .add), [(.t 118), (.k (.int .i64 1))], none⟩, ⟨(some 16), .mv, [(.t 119)], none⟩])))
def x3 : XFn := ⟨159, (.seq (.reg false [⟨(some 6), .mv, [(.k (.bool false))], none⟩]) (.seq (.seq (.reg false [⟨(some 18), (.call 12), [], none⟩, ⟨(some 19), (.un .not), [(.t 18)], none⟩, ⟨(some 20), .mv, [(.t 19)], none⟩, ⟨(some 21), .mv, [(.t 0)], (some (20, false))⟩, ⟨(some 22), .lenS, [(.t 21)], (some (20, false))⟩, ⟨(some 23), (.bin .gtr), [(.t 22), (.k (.int .i64 40))], (some (20, false))⟩, ⟨(some 24), .pick, [(.t 20), (.k (.bool true)), (.t 23)], none⟩]) (.cond (.t 24) (.seq (.reg false [⟨(some 25), (.call 12), [], none⟩, ⟨(some 6), .mv, [(.t 25)], none⟩]) .ret) .skip)) (.seq (.reg false [⟨(some 26), .mv, [(.t 0)], none⟩, ⟨(some 27), (.call 13), [(.t 26)], none⟩, ⟨(some 7), .mv, [(.t 27)], none⟩]) (.seq (.reg false [⟨(some 28), .mv, [(.t 7)], none⟩, ⟨(some 29), (.call 14), [(.t 28)], none⟩, ⟨(some 8), .mv, [(.t 29)], none⟩]) (.seq (.reg false [⟨(some 30), .mv, [(.t 1)], none⟩, ⟨(some 31), (.call 15), [(.t 30), (.k (.int .i64 60))], none⟩, ⟨(some 32), (.bin .add), [(.k (.int .i64 1)), (.t 31)], none⟩, ⟨(some 1), .mv, [(.t 32)], none⟩]) (.seq (.seq (.reg false [⟨(some 33), .mv, [(.t 8)], none⟩, ⟨(some 34), (.bin .eql), [(.t 33), (.k (.int .i64 0))], none⟩]) (.cond (.t 34) (.seq (.reg false [⟨(some 36), .mv, [(.t 7)], none⟩, ⟨(some 37), .mv, [(.t 1)], none⟩, ⟨(some 38), .mv, [(.t 2)], none⟩, ⟨(some 39), (.call 16), [(.t 36), (.t 37), (.t 38)], none⟩, ⟨(some 35), .mv, [(.t 39)], none⟩, ⟨(some 40), (.ext 0), [(.t 35)], none⟩, ⟨(some 41), (.ext 1), [(.t 35)], none⟩, ⟨(some 9), .mv, [(.t 40)], none⟩, ⟨(some 10), .mv, [(.t 41)], none⟩]) (.seq (.reg false [⟨(some 42), .mv, [(.t 10)], none⟩, ⟨(some 43), (.bin .eql), [(.t 42), (.k (.int .i64 9))], none⟩, ⟨(some 6), .mv, [(.t 43)], none⟩]) .ret)) .skip)) (.seq (.seq (.reg false [⟨(some 44), .mv, [(.t 8)], none⟩, ⟨(some 45), (.bin .lss), [(.t 44), (.k (.int .i64 0))], none⟩]) (.cond (.t 45) (.seq (.reg false [⟨(some 6), .mv, [(.k (.bool false))], none⟩]) .ret) .skip)) (.seq (.reg false [⟨(some 47), .mv, [(.t 7)], none⟩, ⟨(some 48), .mv, [(.t 1)], none⟩, ⟨(some 49), .mv, [(.t 2)], none⟩, ⟨(some 50), .mv, [(.t 8)], none⟩, ⟨(some 51), (.call 15), [(.t 49), (.t 50)], none⟩, ⟨(some 52), (.call 16), [(.t 47), (.t 48), (.t 51)], none⟩, ⟨(some 46), .mv, [(.t 52)], none⟩, ⟨(some 53), (.ext 0), [(.t 46)], none⟩, ⟨(some 54), (.ext 1), [(.t 46)], none⟩, ⟨(some 11), .mv, [(.t 53)], none⟩, ⟨(some 12), .mv, [(.t 54)], none⟩]) (.seq (.seq (.reg false [⟨(some 55), .mv, [(.t 12)], none⟩, ⟨(some 56), (.bin .neq), [(.t 55), (.k (.int .i64 0))], none⟩, ⟨(some 57), .mv, [(.t 56)], none⟩, ⟨(some 58), .mv, [(.t 11)], (some (57, false))⟩, ⟨(some 59), .lenS, [(.t 58)], (some (57, false))⟩, ⟨(some 60), .mv, [(.t 1)], (some (57, false))⟩, ⟨(some 61), (.bin .neq), [(.t 59), (.t 60)], (some (57, false))⟩, ⟨(some 62), .pick, [(.t 57), (.k (.bool true)), (.t 61)], none⟩]) (.cond (.t 62) (.seq (.reg false [⟨(some 6), .mv, [(.k (.bool false))], none⟩]) .ret) .skip)) (.seq (.reg false [⟨(some 63), .mv, [(.t 7)], none⟩, ⟨(some 64), .lenS, [(.t 63)], none⟩, ⟨(some 65), (.mks 3 1 8 [(.int .i64 0)]), [(.t 64), (.t 64)], none⟩, ⟨(some 13), .mv, [(.t 65)], none⟩]) (.seq (.seq (.reg false [⟨(some 14), .mv, [(.k (.int .i64 0))], none⟩]) (.block 0 (.loop x3L0))) (.seq (.seq (.reg false [⟨(some 16), .mv, [(.k (.int .i64 0))], none⟩]) (.block 2 (.loop x3L1))) (.seq (.reg false [⟨(some 6), .mv, [(.k (.bool true))], none⟩]) .ret))))))))))))), [(.s 6)]⟩
theorem x3_ok : xfn Try.prog Try.f3 = some x3 := by kernel_rfl
/-- wayfinder/particle.Resample -/
def g16 : Con := fun args_ E_ nn_ => match args_ with
  | [.c (.n l), .c (.v (.int .i64 n)), .c (.v (.int .i64 u))] => (match rowOf E_ l with
    | some (l_n, l_s, l_f) => some (.e (isRow eP l_n l_s l_f ∧ -9223372036854775808 ≤ n ∧ n ≤ 9223372036854775807) (.t [.c (.n (nn_ + 0)), .c (.v (.int .i64 (resE_ (decL eP l_n l_f) n u)))]) [((nn_ + 0), .own (resL (decL eP l_n l_f) n u).length 4 (rowF eP (resL (decL eP l_n l_f) n u)) 35)] (nn_ + 1))
    | none => none)
  | _ => none
theorem c16 : COk Try.prog 16 g16 := by
  refine cok_e Try.func16 x16_ok (by kernel_rfl) (cok_tab (cok_cons c44 (cok_cons c14 cok_nil))) ?_
  intro args_ E_ nn_ cr_ hg_
  unfold g16 at hg_
  split at hg_
  · rename_i l n u
    split at hg_
    · rename_i l_n l_s l_f h_l
      cases hg_
      refine ⟨_, _, _, _, rfl, 1, [l], [.c (.n 0), .c (.v (.int .i64 n)), .c (.v (.int .i64 u))], [(0, .ro (decL eP l_n l_f).length eP.sz (rowF eP (decL eP l_n l_f)))], .t [.c (.n 1), .c (.v (.int .i64 (resE_ (decL eP l_n l_f) n u)))], [(1, .own (resL (decL eP l_n l_f) n u).length 4 (rowF eP (resL (decL eP l_n l_f) n u)) 35)], 2, rfl, rfl, by simp only [renE, Ent.ren, rowF_renf] <;> rfl, rfl, by decide, by simp only [sc1L, sc1, scL, SC.sc, scV, scEnt, scE, rowF_scT, upto, Nat.reduceLT, Nat.reduceAdd, and_self, eP_eta, eP_isRow, eP_sz, eP_0, eP_1, eP_2, eP_3, eI_isRow, eI_sz, eI_0, eU16_isRow, eU16_sz, eU16_0], by simp only [sc1L, sc1, scL, SC.sc, scV, scEnt, scE, rowF_scT, upto, Nat.reduceLT, Nat.reduceAdd, and_self, eP_eta, eP_isRow, eP_sz, eP_0, eP_1, eP_2, eP_3, eI_isRow, eI_sz, eI_0, eU16_isRow, eU16_sz, eU16_0], by simp only [sc1L, sc1, scL, SC.sc, scV, scEnt, scE, rowF_scT, upto, Nat.reduceLT, Nat.reduceAdd, and_self, eP_eta, eP_isRow, eP_sz, eP_0, eP_1, eP_2, eP_3, eI_isRow, eI_sz, eI_0, eU16_isRow, eU16_sz, eU16_0], by simp only [sc1L, sc1, scL, SC.sc, scV, scEnt, scE, rowF_scT, upto, Nat.reduceLT, Nat.reduceAdd, and_self, eP_eta, eP_isRow, eP_sz, eP_0, eP_1, eP_2, eP_3, eI_isRow, eI_sz, eI_0, eU16_isRow, eU16_sz, eU16_0], rfl, ⟨inE0_row h_l, trivial⟩, by simp only [keysNodup, outN, keys] <;> decide, rfl, rfl, ?_⟩
      intro hpre hlen
      obtain ⟨i_l, hpre⟩ := hpre
      refine ⟨⟨inE_row h_l i_l, trivial⟩, by simp only [apartE] <;> (first | trivial | (simp [Ent.mut]; done)), ?_⟩
      have z_l := lens_row (E := eP) hlen h_l
      clear i_l
      generalize decL eP l_n l_f = lL at *
      clear h_l
      simp (config := {maxSteps := 10000000}) only [x16, vcF, env0, vcC_skip, vcC_regT, vcC_regF, vcC_regD, vcC_seq, vcC_cond, vcC_block, vcC_loop, vcC_exit, vcC_ret, vcOps_nil, vcOps_cons, kSeq_norm, kSeq_ex, kSeq_ret, kBlock_norm, kBlock_ex, kBlock_ret, kRet_ex, kRet_norm, kRet_ret, kLoop_norm, kLoop_ex, kLoop_ret, fitQ_app, eqQ_app, vcOpsQ, vcOp, vcOpG, vcOp1, vcNil, vcEff, evQ, evQ0, evTup, tupOf, guardOf, rd, rds, lk, opQ, qMv, qBuild, qLoad1, qLoadN, qFld, qPart1, qPartN, qIx1, qIxN, qIxA, qIxS, qBin, qBinb, qEqA, qUn, qConv, qMin, qMax, qLenS, qNil, fin, evPick, evCR, evExt, recEff, effE, eBox, eAlloc, eStore, eCall, eSlit, eMks, eSlc, eSlcO, eApp, lims, takeI, rowV, rowOf, boxOf, reach, reachB, resE, ids1L, S1.ids, SC.ids, idsL, SV.ids, memN, pushR, pushN, usesX, readsX, slotsL, XO.slots, vcD, vcDgo, recOf, Rec.foot, nRes, keys, vcCond, tab, plain, rets, ret1, retV, St.put, constS, nth, takeAt, setAt, fillS, ups, oks, okcs, S1.ok, SC.ok, Value.oneCell', S1.cells, binI, isShift, eqCells, eqC, sc1L, sc1, scL, SC.sc, scV, scEnv, scEnt, scE, Le, LeB, bndOf, bindEnv, bindEnt, bindV, bind1, bind1L, bindL, bindC, imgB, bndOk, leEnv, leEnt, leAt, leE, nilE, imgs, outN, nodupN, mapEq, SC.sub, subL, S1.sub, sub1L, SV.sub, upto, mkI, keepS, idsEnv, keepN, rowF_scT, rowEq_rowF, rowEq_lit, okRow_rowF, okRow_lit, lit_scF, isRow_rowF, isRow_nil, decL_rowF, decL_nil, rowF_renf, List.getD_cons_zero, List.getD_cons_succ, sg, SC.ren, renL, S1.ren, ren1L, SV.ren, Ent.ren, renE, List.map_cons, List.map_nil, List.length_cons, List.length_nil, List.nil_append, List.cons_append, List.append_nil, Option.getD_none, Option.getD_some, Int.toNat_natCast, Int.toNat_zero, Nat.reduceAdd, Nat.reduceSub, Nat.reduceLeDiff, Nat.reduceEqDiff, Nat.reduceBEq, Nat.reduceMul, Nat.reduceLT, Nat.add_zero, Nat.zero_add, Nat.le_refl, Nat.zero_le, Nat.sub_zero, Nat.sub_self, Nat.lt_irrefl, Nat.add_lt_add_iff_left, Nat.add_eq_zero_iff, reduceIte, reduceCtorEq, and_true, true_and, and_self, and_false, false_and, forall_const, Bool.false_eq_true, Bool.true_eq_false, false_or, or_false, or_true, true_or, cond_true, cond_false, beq_self_eq_true, beq_true, beq_false, bne_iff_ne, bne_eq_false_iff_eq, beq_iff_eq, beq_eq_false_iff_ne, true_implies, false_implies, imp_self, implies_true, Bool.not_not, Bool.and_true, Bool.true_and, Bool.and_false, Bool.false_and, Bool.not_true, Bool.not_false, Bool.true_or, Bool.or_true, Bool.false_or, Bool.or_false, Bool.cond_false_right, Bool.cond_true_left, Bool.cond_true_right, Bool.cond_false_left, SV.o.injEq, SV.t.injEq, SV.g.injEq, S1.c.injEq, S1.a.injEq, SC.v.injEq, SC.n.injEq, SC.p.injEq, Value.bool.injEq, Value.int.injEq, List.cons.injEq, Option.some.injEq, Prod.mk.injEq, decide_eq_true_eq, gt_iff_lt, ge_iff_le, ne_eq, Int.reduceLE, Int.cast_ofNat_Int, Int.reduceLT, Int.reduceEq, Int.reduceMul, Int.reduceAdd, Int.reduceSub, Int.reduceNeg, Int.reduceToNat, Int.reduceNe, Int.natCast_nonneg, Int.ofNat_lt, Int.ofNat_le, not_false_eq_true, not_true_eq_false, Bool.not_eq_true', Bool.not_eq_false', Bool.or_eq_true, Bool.and_eq_true, Bool.or_eq_false_iff, decide_eq_false_iff_not, Int.zero_sub, and_imp, bne_self_eq_false, Bool.bne_true, Bool.bne_false, Int.sub_zero, eP_eta, eP_isRow, eP_sz, eP_0, eP_1, eP_2, eP_3, eI_isRow, eI_sz, eI_0, eU16_isRow, eU16_sz, eU16_0, g44, g14]
      unfold resL resE_
      refine ⟨fun hv => by simp [hv], fun hv => ?_⟩
      simp only [hv]
      refine ⟨fun h => by simp [h], fun h1 h2 => ?_⟩
      have h3 : ¬ (n < 1 ∨ 1024 < n) := by omega
      simp only [h3, if_false]
      refine ⟨fun h => by simp [h], fun ht => ?_⟩
      simp only [ht, if_false]
      refine ⟨fun h => by simp [h], fun h4 h5 => ?_⟩
      have h6 : ¬ (u < 0 ∨ totalL lL ≤ u) := by omega
      simp only [h6, if_false, if_true]
      have htt : totalL lL = sumW lL := by unfold totalL; rw [if_pos hv]
      rw [htt] at ht h5 h6 ⊢
      have hs := sum_bd hv
      have hl := valid_len hv
      have hpos : 0 < lL.length := by
        rcases Nat.eq_zero_or_pos lL.length with h0 | h0
        · exfalso; apply ht; unfold sumW; rw [h0]; rfl
        · exact h0
      refine ⟨by omega, hpos, ?_⟩
      refine vcLoop_upd (α := {i : Nat × Nat // (i.1 : Int) ≤ n ∧ i.2 < lL.length ∧ ∀ j, j < i.2 → n * pre lL (j + 1) ≤ u + (i.1 : Int) * sumW lL}) [0, 1, 2, 8, 41] 1 (fun s => [(9, .o (.c (.n 1))), (10, .o (.c (.v (.int .i64 (s.1.2 : Nat))))), (11, .o (.c (.v (.int .i64 (pre lL (s.1.2 + 1)))))), (42, .o (.c (.v (.int .i64 (s.1.1 : Nat)))))]) (fun s => [(1, .own (resK lL n u s.1.1).length 4 (rowF eP (resK lL n u s.1.1)) 35)]) (fun s => (n - s.1.1).toNat) ⟨(0, 0), by simp only; omega, by simp only; omega, fun j hj => by simp only at hj; omega⟩ ?_ ?_
      · simp only [vcF, env0, vcC_skip, vcC_regT, vcC_regF, vcC_regD, vcC_seq, vcC_cond, vcC_block, vcC_loop, vcC_exit, vcC_ret, vcOps_nil, vcOps_cons, kSeq_norm, kSeq_ex, kSeq_ret, kBlock_norm, kBlock_ex, kBlock_ret, kRet_ex, kRet_norm, kRet_ret, kLoop_norm, kLoop_ex, kLoop_ret, fitQ_app, eqQ_app, vcOpsQ, vcOp, vcOpG, vcOp1, vcNil, vcEff, evQ, evQ0, evTup, tupOf, guardOf, rd, rds, lk, opQ, qMv, qBuild, qLoad1, qLoadN, qFld, qPart1, qPartN, qIx1, qIxN, qIxA, qIxS, qBin, qBinb, qEqA, qUn, qConv, qMin, qMax, qLenS, qNil, fin, evPick, evCR, evExt, recEff, effE, eBox, eAlloc, eStore, eCall, eSlit, eMks, eSlc, eSlcO, eApp, lims, takeI, rowV, rowOf, boxOf, reach, reachB, resE, ids1L, S1.ids, SC.ids, idsL, SV.ids, memN, pushR, pushN, usesX, readsX, slotsL, XO.slots, vcD, vcDgo, recOf, Rec.foot, nRes, keys, vcCond, tab, plain, rets, ret1, retV, St.put, constS, nth, takeAt, setAt, fillS, ups, oks, okcs, S1.ok, SC.ok, Value.oneCell', S1.cells, binI, isShift, eqCells, eqC, sc1L, sc1, scL, SC.sc, scV, scEnv, scEnt, scE, Le, LeB, bndOf, bindEnv, bindEnt, bindV, bind1, bind1L, bindL, bindC, imgB, bndOk, leEnv, leEnt, leAt, leE, nilE, imgs, outN, nodupN, mapEq, SC.sub, subL, S1.sub, sub1L, SV.sub, upto, mkI, keepS, idsEnv, keepN, rowF_scT, rowEq_rowF, rowEq_lit, okRow_rowF, okRow_lit, lit_scF, isRow_rowF, isRow_nil, decL_rowF, decL_nil, rowF_renf, List.getD_cons_zero, List.getD_cons_succ, sg, SC.ren, renL, S1.ren, ren1L, SV.ren, Ent.ren, renE, List.map_cons, List.map_nil, List.length_cons, List.length_nil, List.nil_append, List.cons_append, List.append_nil, Option.getD_none, Option.getD_some, Int.toNat_natCast, Int.toNat_zero, Nat.reduceAdd, Nat.reduceSub, Nat.reduceLeDiff, Nat.reduceEqDiff, Nat.reduceBEq, Nat.reduceMul, Nat.reduceLT, Nat.add_zero, Nat.zero_add, Nat.le_refl, Nat.zero_le, Nat.sub_zero, Nat.sub_self, Nat.lt_irrefl, Nat.add_lt_add_iff_left, Nat.add_eq_zero_iff, reduceIte, reduceCtorEq, and_true, true_and, and_self, and_false, false_and, forall_const, Bool.false_eq_true, Bool.true_eq_false, false_or, or_false, or_true, true_or, cond_true, cond_false, beq_self_eq_true, beq_true, beq_false, bne_iff_ne, bne_eq_false_iff_eq, beq_iff_eq, beq_eq_false_iff_ne, true_implies, false_implies, imp_self, implies_true, Bool.not_not, Bool.and_true, Bool.true_and, Bool.and_false, Bool.false_and, Bool.not_true, Bool.not_false, Bool.true_or, Bool.or_true, Bool.false_or, Bool.or_false, Bool.cond_false_right, Bool.cond_true_left, Bool.cond_true_right, Bool.cond_false_left, SV.o.injEq, SV.t.injEq, SV.g.injEq, S1.c.injEq, S1.a.injEq, SC.v.injEq, SC.n.injEq, SC.p.injEq, Value.bool.injEq, Value.int.injEq, List.cons.injEq, Option.some.injEq, Prod.mk.injEq, decide_eq_true_eq, gt_iff_lt, ge_iff_le, ne_eq, Int.reduceLE, Int.cast_ofNat_Int, Int.reduceLT, Int.reduceEq, Int.reduceMul, Int.reduceAdd, Int.reduceSub, Int.reduceNeg, Int.reduceToNat, Int.reduceNe, Int.natCast_nonneg, Int.ofNat_lt, Int.ofNat_le, not_false_eq_true, not_true_eq_false, Bool.not_eq_true', Bool.not_eq_false', Bool.or_eq_true, Bool.and_eq_true, Bool.or_eq_false_iff, decide_eq_false_iff_not, Int.zero_sub, and_imp, bne_self_eq_false, Bool.bne_true, Bool.bne_false, Int.sub_zero, eP_eta, eP_isRow, eP_sz, eP_0, eP_1, eP_2, eP_3, eI_isRow, eI_sz, eI_0, eU16_isRow, eU16_sz, eU16_0, g44, g14, resK_len, List.range_zero]
        rw [pre_succ hpos, pre_zero, Int.zero_add]
      · rintro ⟨⟨i, k⟩, hi, hk, hall⟩
        simp only at hi hk hall
        simp only [x16L1, vcF, env0, vcC_skip, vcC_regT, vcC_regF, vcC_regD, vcC_seq, vcC_cond, vcC_block, vcC_loop, vcC_exit, vcC_ret, vcOps_nil, vcOps_cons, kSeq_norm, kSeq_ex, kSeq_ret, kBlock_norm, kBlock_ex, kBlock_ret, kRet_ex, kRet_norm, kRet_ret, kLoop_norm, kLoop_ex, kLoop_ret, fitQ_app, eqQ_app, vcOpsQ, vcOp, vcOpG, vcOp1, vcNil, vcEff, evQ, evQ0, evTup, tupOf, guardOf, rd, rds, lk, opQ, qMv, qBuild, qLoad1, qLoadN, qFld, qPart1, qPartN, qIx1, qIxN, qIxA, qIxS, qBin, qBinb, qEqA, qUn, qConv, qMin, qMax, qLenS, qNil, fin, evPick, evCR, evExt, recEff, effE, eBox, eAlloc, eStore, eCall, eSlit, eMks, eSlc, eSlcO, eApp, lims, takeI, rowV, rowOf, boxOf, reach, reachB, resE, ids1L, S1.ids, SC.ids, idsL, SV.ids, memN, pushR, pushN, usesX, readsX, slotsL, XO.slots, vcD, vcDgo, recOf, Rec.foot, nRes, keys, vcCond, tab, plain, rets, ret1, retV, St.put, constS, nth, takeAt, setAt, fillS, ups, oks, okcs, S1.ok, SC.ok, Value.oneCell', S1.cells, binI, isShift, eqCells, eqC, sc1L, sc1, scL, SC.sc, scV, scEnv, scEnt, scE, Le, LeB, bndOf, bindEnv, bindEnt, bindV, bind1, bind1L, bindL, bindC, imgB, bndOk, leEnv, leEnt, leAt, leE, nilE, imgs, outN, nodupN, mapEq, SC.sub, subL, S1.sub, sub1L, SV.sub, upto, mkI, keepS, idsEnv, keepN, rowF_scT, rowEq_rowF, rowEq_lit, okRow_rowF, okRow_lit, lit_scF, isRow_rowF, isRow_nil, decL_rowF, decL_nil, rowF_renf, List.getD_cons_zero, List.getD_cons_succ, sg, SC.ren, renL, S1.ren, ren1L, SV.ren, Ent.ren, renE, List.map_cons, List.map_nil, List.length_cons, List.length_nil, List.nil_append, List.cons_append, List.append_nil, Option.getD_none, Option.getD_some, Int.toNat_natCast, Int.toNat_zero, Nat.reduceAdd, Nat.reduceSub, Nat.reduceLeDiff, Nat.reduceEqDiff, Nat.reduceBEq, Nat.reduceMul, Nat.reduceLT, Nat.add_zero, Nat.zero_add, Nat.le_refl, Nat.zero_le, Nat.sub_zero, Nat.sub_self, Nat.lt_irrefl, Nat.add_lt_add_iff_left, Nat.add_eq_zero_iff, reduceIte, reduceCtorEq, and_true, true_and, and_self, and_false, false_and, forall_const, Bool.false_eq_true, Bool.true_eq_false, false_or, or_false, or_true, true_or, cond_true, cond_false, beq_self_eq_true, beq_true, beq_false, bne_iff_ne, bne_eq_false_iff_eq, beq_iff_eq, beq_eq_false_iff_ne, true_implies, false_implies, imp_self, implies_true, Bool.not_not, Bool.and_true, Bool.true_and, Bool.and_false, Bool.false_and, Bool.not_true, Bool.not_false, Bool.true_or, Bool.or_true, Bool.false_or, Bool.or_false, Bool.cond_false_right, Bool.cond_true_left, Bool.cond_true_right, Bool.cond_false_left, SV.o.injEq, SV.t.injEq, SV.g.injEq, S1.c.injEq, S1.a.injEq, SC.v.injEq, SC.n.injEq, SC.p.injEq, Value.bool.injEq, Value.int.injEq, List.cons.injEq, Option.some.injEq, Prod.mk.injEq, decide_eq_true_eq, gt_iff_lt, ge_iff_le, ne_eq, Int.reduceLE, Int.cast_ofNat_Int, Int.reduceLT, Int.reduceEq, Int.reduceMul, Int.reduceAdd, Int.reduceSub, Int.reduceNeg, Int.reduceToNat, Int.reduceNe, Int.natCast_nonneg, Int.ofNat_lt, Int.ofNat_le, not_false_eq_true, not_true_eq_false, Bool.not_eq_true', Bool.not_eq_false', Bool.or_eq_true, Bool.and_eq_true, Bool.or_eq_false_iff, decide_eq_false_iff_not, Int.zero_sub, and_imp, bne_self_eq_false, Bool.bne_true, Bool.bne_false, Int.sub_zero, eP_eta, eP_isRow, eP_sz, eP_0, eP_1, eP_2, eP_3, eI_isRow, eI_sz, eI_0, eU16_isRow, eU16_sz, eU16_0, g44, g14]
        refine ⟨fun hin => ?_, fun hin => ?_⟩
        · refine vcLoop_upd (α := {k : Nat // k < lL.length ∧ ∀ j, j < k → n * pre lL (j + 1) ≤ u + (i : Int) * sumW lL}) [0, 1, 2, 8, 9, 12, 41, 42] 0 (fun s => [(10, .o (.c (.v (.int .i64 (s.1 : Nat))))), (11, .o (.c (.v (.int .i64 (pre lL (s.1 + 1))))))]) (fun s => []) (fun s => lL.length - s.1) ⟨k, hk, hall⟩ ?_ ?_
          · simp only [vcF, env0, vcC_skip, vcC_regT, vcC_regF, vcC_regD, vcC_seq, vcC_cond, vcC_block, vcC_loop, vcC_exit, vcC_ret, vcOps_nil, vcOps_cons, kSeq_norm, kSeq_ex, kSeq_ret, kBlock_norm, kBlock_ex, kBlock_ret, kRet_ex, kRet_norm, kRet_ret, kLoop_norm, kLoop_ex, kLoop_ret, fitQ_app, eqQ_app, vcOpsQ, vcOp, vcOpG, vcOp1, vcNil, vcEff, evQ, evQ0, evTup, tupOf, guardOf, rd, rds, lk, opQ, qMv, qBuild, qLoad1, qLoadN, qFld, qPart1, qPartN, qIx1, qIxN, qIxA, qIxS, qBin, qBinb, qEqA, qUn, qConv, qMin, qMax, qLenS, qNil, fin, evPick, evCR, evExt, recEff, effE, eBox, eAlloc, eStore, eCall, eSlit, eMks, eSlc, eSlcO, eApp, lims, takeI, rowV, rowOf, boxOf, reach, reachB, resE, ids1L, S1.ids, SC.ids, idsL, SV.ids, memN, pushR, pushN, usesX, readsX, slotsL, XO.slots, vcD, vcDgo, recOf, Rec.foot, nRes, keys, vcCond, tab, plain, rets, ret1, retV, St.put, constS, nth, takeAt, setAt, fillS, ups, oks, okcs, S1.ok, SC.ok, Value.oneCell', S1.cells, binI, isShift, eqCells, eqC, sc1L, sc1, scL, SC.sc, scV, scEnv, scEnt, scE, Le, LeB, bndOf, bindEnv, bindEnt, bindV, bind1, bind1L, bindL, bindC, imgB, bndOk, leEnv, leEnt, leAt, leE, nilE, imgs, outN, nodupN, mapEq, SC.sub, subL, S1.sub, sub1L, SV.sub, upto, mkI, keepS, idsEnv, keepN, rowF_scT, rowEq_rowF, rowEq_lit, okRow_rowF, okRow_lit, lit_scF, isRow_rowF, isRow_nil, decL_rowF, decL_nil, rowF_renf, List.getD_cons_zero, List.getD_cons_succ, sg, SC.ren, renL, S1.ren, ren1L, SV.ren, Ent.ren, renE, List.map_cons, List.map_nil, List.length_cons, List.length_nil, List.nil_append, List.cons_append, List.append_nil, Option.getD_none, Option.getD_some, Int.toNat_natCast, Int.toNat_zero, Nat.reduceAdd, Nat.reduceSub, Nat.reduceLeDiff, Nat.reduceEqDiff, Nat.reduceBEq, Nat.reduceMul, Nat.reduceLT, Nat.add_zero, Nat.zero_add, Nat.le_refl, Nat.zero_le, Nat.sub_zero, Nat.sub_self, Nat.lt_irrefl, Nat.add_lt_add_iff_left, Nat.add_eq_zero_iff, reduceIte, reduceCtorEq, and_true, true_and, and_self, and_false, false_and, forall_const, Bool.false_eq_true, Bool.true_eq_false, false_or, or_false, or_true, true_or, cond_true, cond_false, beq_self_eq_true, beq_true, beq_false, bne_iff_ne, bne_eq_false_iff_eq, beq_iff_eq, beq_eq_false_iff_ne, true_implies, false_implies, imp_self, implies_true, Bool.not_not, Bool.and_true, Bool.true_and, Bool.and_false, Bool.false_and, Bool.not_true, Bool.not_false, Bool.true_or, Bool.or_true, Bool.false_or, Bool.or_false, Bool.cond_false_right, Bool.cond_true_left, Bool.cond_true_right, Bool.cond_false_left, SV.o.injEq, SV.t.injEq, SV.g.injEq, S1.c.injEq, S1.a.injEq, SC.v.injEq, SC.n.injEq, SC.p.injEq, Value.bool.injEq, Value.int.injEq, List.cons.injEq, Option.some.injEq, Prod.mk.injEq, decide_eq_true_eq, gt_iff_lt, ge_iff_le, ne_eq, Int.reduceLE, Int.cast_ofNat_Int, Int.reduceLT, Int.reduceEq, Int.reduceMul, Int.reduceAdd, Int.reduceSub, Int.reduceNeg, Int.reduceToNat, Int.reduceNe, Int.natCast_nonneg, Int.ofNat_lt, Int.ofNat_le, not_false_eq_true, not_true_eq_false, Bool.not_eq_true', Bool.not_eq_false', Bool.or_eq_true, Bool.and_eq_true, Bool.or_eq_false_iff, decide_eq_false_iff_not, Int.zero_sub, and_imp, bne_self_eq_false, Bool.bne_true, Bool.bne_false, Int.sub_zero, eP_eta, eP_isRow, eP_sz, eP_0, eP_1, eP_2, eP_3, eI_isRow, eI_sz, eI_0, eU16_isRow, eU16_sz, eU16_0, g44, g14]
          · rintro ⟨m, hm, hall2⟩
            simp only [x16L0, vcF, env0, vcC_skip, vcC_regT, vcC_regF, vcC_regD, vcC_seq, vcC_cond, vcC_block, vcC_loop, vcC_exit, vcC_ret, vcOps_nil, vcOps_cons, kSeq_norm, kSeq_ex, kSeq_ret, kBlock_norm, kBlock_ex, kBlock_ret, kRet_ex, kRet_norm, kRet_ret, kLoop_norm, kLoop_ex, kLoop_ret, fitQ_app, eqQ_app, vcOpsQ, vcOp, vcOpG, vcOp1, vcNil, vcEff, evQ, evQ0, evTup, tupOf, guardOf, rd, rds, lk, opQ, qMv, qBuild, qLoad1, qLoadN, qFld, qPart1, qPartN, qIx1, qIxN, qIxA, qIxS, qBin, qBinb, qEqA, qUn, qConv, qMin, qMax, qLenS, qNil, fin, evPick, evCR, evExt, recEff, effE, eBox, eAlloc, eStore, eCall, eSlit, eMks, eSlc, eSlcO, eApp, lims, takeI, rowV, rowOf, boxOf, reach, reachB, resE, ids1L, S1.ids, SC.ids, idsL, SV.ids, memN, pushR, pushN, usesX, readsX, slotsL, XO.slots, vcD, vcDgo, recOf, Rec.foot, nRes, keys, vcCond, tab, plain, rets, ret1, retV, St.put, constS, nth, takeAt, setAt, fillS, ups, oks, okcs, S1.ok, SC.ok, Value.oneCell', S1.cells, binI, isShift, eqCells, eqC, sc1L, sc1, scL, SC.sc, scV, scEnv, scEnt, scE, Le, LeB, bndOf, bindEnv, bindEnt, bindV, bind1, bind1L, bindL, bindC, imgB, bndOk, leEnv, leEnt, leAt, leE, nilE, imgs, outN, nodupN, mapEq, SC.sub, subL, S1.sub, sub1L, SV.sub, upto, mkI, keepS, idsEnv, keepN, rowF_scT, rowEq_rowF, rowEq_lit, okRow_rowF, okRow_lit, lit_scF, isRow_rowF, isRow_nil, decL_rowF, decL_nil, rowF_renf, List.getD_cons_zero, List.getD_cons_succ, sg, SC.ren, renL, S1.ren, ren1L, SV.ren, Ent.ren, renE, List.map_cons, List.map_nil, List.length_cons, List.length_nil, List.nil_append, List.cons_append, List.append_nil, Option.getD_none, Option.getD_some, Int.toNat_natCast, Int.toNat_zero, Nat.reduceAdd, Nat.reduceSub, Nat.reduceLeDiff, Nat.reduceEqDiff, Nat.reduceBEq, Nat.reduceMul, Nat.reduceLT, Nat.add_zero, Nat.zero_add, Nat.le_refl, Nat.zero_le, Nat.sub_zero, Nat.sub_self, Nat.lt_irrefl, Nat.add_lt_add_iff_left, Nat.add_eq_zero_iff, reduceIte, reduceCtorEq, and_true, true_and, and_self, and_false, false_and, forall_const, Bool.false_eq_true, Bool.true_eq_false, false_or, or_false, or_true, true_or, cond_true, cond_false, beq_self_eq_true, beq_true, beq_false, bne_iff_ne, bne_eq_false_iff_eq, beq_iff_eq, beq_eq_false_iff_ne, true_implies, false_implies, imp_self, implies_true, Bool.not_not, Bool.and_true, Bool.true_and, Bool.and_false, Bool.false_and, Bool.not_true, Bool.not_false, Bool.true_or, Bool.or_true, Bool.false_or, Bool.or_false, Bool.cond_false_right, Bool.cond_true_left, Bool.cond_true_right, Bool.cond_false_left, SV.o.injEq, SV.t.injEq, SV.g.injEq, S1.c.injEq, S1.a.injEq, SC.v.injEq, SC.n.injEq, SC.p.injEq, Value.bool.injEq, Value.int.injEq, List.cons.injEq, Option.some.injEq, Prod.mk.injEq, decide_eq_true_eq, gt_iff_lt, ge_iff_le, ne_eq, Int.reduceLE, Int.cast_ofNat_Int, Int.reduceLT, Int.reduceEq, Int.reduceMul, Int.reduceAdd, Int.reduceSub, Int.reduceNeg, Int.reduceToNat, Int.reduceNe, Int.natCast_nonneg, Int.ofNat_lt, Int.ofNat_le, not_false_eq_true, not_true_eq_false, Bool.not_eq_true', Bool.not_eq_false', Bool.or_eq_true, Bool.and_eq_true, Bool.or_eq_false_iff, decide_eq_false_iff_not, Int.zero_sub, and_imp, bne_self_eq_false, Bool.bne_true, Bool.bne_false, Int.sub_zero, eP_eta, eP_isRow, eP_sz, eP_0, eP_1, eP_2, eP_3, eI_isRow, eI_sz, eI_0, eU16_isRow, eU16_sz, eU16_0, g44, g14]
            have hb := pre_bd hv (k := m + 1) (by omega)
            have hn1 : n * pre lL (m + 1) ≤ 1024 * 1073741824 ∧ 0 ≤ n * pre lL (m + 1) := by
              have := mul_bd (a := n) (b := pre lL (m + 1)) (A := 1024) (B := 1073741824) (by omega) (by omega) (by omega) (by omega)
              exact ⟨this.2, this.1⟩
            have hn2 := mul_bd (a := (i : Int)) (b := sumW lL) (A := 1024) (B := 1073741824) (by omega) (by omega) hs.1 hs.2
            rw [wrapI (n := n * pre lL (m + 1)) (by omega) (by omega), wrapI (n := (i : Int) * sumW lL) (by omega) (by omega), wrapI (n := u + (i : Int) * sumW lL) (by omega) (by omega)]
            refine ⟨fun hle => ?_, fun hgt => ?_⟩
            · have hlast : m + 1 < lL.length := by
                rcases Nat.lt_or_ge (m + 1) lL.length with h7 | h7
                · exact h7
                · exfalso
                  have h8 : m + 1 = lL.length := by omega
                  have h9 : pre lL (m + 1) = sumW lL := by rw [h8]; rfl
                  rw [h9] at hle
                  have h10 : ((i : Int) + 1) * sumW lL ≤ n * sumW lL := Int.mul_le_mul_of_nonneg_right (by omega) hs.1
                  rw [Int.add_mul] at h10
                  omega
              have hw := (valid_at hv hlast).2
              have e1 : IntKind.i64.wrap ((m : Int) + 1) = ((m + 1 : Nat) : Int) := by rw [wrapI (by omega) (by omega)]; rfl
              simp only [e1, Int.toNat_natCast]
              have hb2 := pre_bd hv (k := m + 2) (by omega)
              have e2 : pre lL (m + 2) = pre lL (m + 1) + (lL.getD (m + 1) eP.dflt).W := rfl
              rw [← e2, wrapI (n := pre lL (m + 2)) (by omega) (by omega)]
              refine ⟨by omega, hlast, ⟨⟨m + 1, hlast, fun j hj => ?_⟩, ⟨rfl, rfl⟩, by simp only; omega⟩⟩
              by_cases hjm : j = m
              · subst hjm; exact hle
              · exact hall2 j (by omega)
            · have hpick : pickI lL n (u + (i : Int) * sumW lL) = m := pickI_eq hm hall2 (by omega)
              refine ⟨by omega, hm, by rw [resK_len]; omega, ⟨⟨(i + 1, m), by simp only; omega, hm, fun j hj => ?_⟩, ⟨⟨rfl, rfl, ?_⟩, ?_, ?_⟩, by simp only; omega⟩⟩
              · have := hall2 j hj
                have e3 : ((i + 1 : Nat) : Int) * sumW lL = (i : Int) * sumW lL + sumW lL := by rw [Int.natCast_add, Int.add_mul]; simp
                simp only
                rw [e3]; omega
              · rw [wrapI (by omega) (by omega)]; rfl
              · simp only [resK_len]
              · rw [resK_succ, hpick]
                exact rowEq_push1 eP (resK lL n u i) { lL.getD m eP.dflt with W := 1 } (fun _ => rfl)
        · obtain rfl : n = (i : Int) := by omega
          simp only [Int.toNat_natCast]
          exact ⟨trivial, (rowEq_rowF _ _ _ _).2 trivial⟩
    · cases hg_
  · cases hg_
/-- wayfinder/wayfinderlaw21.awake -/
def g12 : Con := fun args_ E_ nn_ => match args_ with
  | [] => some (.q (True) (.o (.c (.v (.bool (true))))))
  | _ => none
theorem c12 : COk Try.prog 12 g12 := by
  refine cok_q Try.func12 x12_ok (by kernel_rfl) (cok_tab (cok_cons c16 (cok_cons c17 (cok_cons c27 (cok_cons c31 cok_nil))))) ?_
  intro args_ E_ nn_ cr_ hg_
  unfold g12 at hg_
  split at hg_
  · skip
    cases hg_
    refine ⟨_, _, rfl, 0, [], [], [], .o (.c (.v (.bool (true)))), rfl, rfl, by simp only [sc1L, sc1, scL, SC.sc, scV, scEnt, scE, rowF_scT, upto, Nat.reduceLT, Nat.reduceAdd, and_self, eP_eta, eP_isRow, eP_sz, eP_0, eP_1, eP_2, eP_3, eI_isRow, eI_sz, eI_0, eU16_isRow, eU16_sz, eU16_0], by simp only [sc1L, sc1, scL, SC.sc, scV, scEnt, scE, rowF_scT, upto, Nat.reduceLT, Nat.reduceAdd, and_self, eP_eta, eP_isRow, eP_sz, eP_0, eP_1, eP_2, eP_3, eI_isRow, eI_sz, eI_0, eU16_isRow, eU16_sz, eU16_0], by simp only [sc1L, sc1, scL, SC.sc, scV, scEnt, scE, rowF_scT, upto, Nat.reduceLT, Nat.reduceAdd, and_self, eP_eta, eP_isRow, eP_sz, eP_0, eP_1, eP_2, eP_3, eI_isRow, eI_sz, eI_0, eU16_isRow, eU16_sz, eU16_0], rfl, trivial, rfl, ?_⟩
    intro hpre hlen
    refine ⟨trivial, ?_⟩
    have q1 : isRow eP 3 4 (litF [SC.v (Value.int IntKind.i64 5), SC.v (Value.int IntKind.i64 0), SC.v (Value.int IntKind.i64 0), SC.v (Value.int IntKind.i64 1), SC.v (Value.int IntKind.i64 6), SC.v (Value.int IntKind.i64 0), SC.v (Value.int IntKind.i64 0), SC.v (Value.int IntKind.i64 0), SC.v (Value.int IntKind.i64 7), SC.v (Value.int IntKind.i64 0), SC.v (Value.int IntKind.i64 0), SC.v (Value.int IntKind.i64 3)] 4) ↔ True := iff_true_intro (lits_row eP [(⟨5, 0, 0, 1⟩ : PP), (⟨6, 0, 0, 0⟩ : PP), (⟨7, 0, 0, 3⟩ : PP)]).1
    have q2 : decL eP 3 (litF [SC.v (Value.int IntKind.i64 5), SC.v (Value.int IntKind.i64 0), SC.v (Value.int IntKind.i64 0), SC.v (Value.int IntKind.i64 1), SC.v (Value.int IntKind.i64 6), SC.v (Value.int IntKind.i64 0), SC.v (Value.int IntKind.i64 0), SC.v (Value.int IntKind.i64 0), SC.v (Value.int IntKind.i64 7), SC.v (Value.int IntKind.i64 0), SC.v (Value.int IntKind.i64 0), SC.v (Value.int IntKind.i64 3)] 4) = [(⟨5, 0, 0, 1⟩ : PP), (⟨6, 0, 0, 0⟩ : PP), (⟨7, 0, 0, 3⟩ : PP)] := (lits_row eP [(⟨5, 0, 0, 1⟩ : PP), (⟨6, 0, 0, 0⟩ : PP), (⟨7, 0, 0, 3⟩ : PP)]).2
    simp (config := {maxSteps := 10000000}) only [x12, vcF, env0, vcC_skip, vcC_regT, vcC_regF, vcC_regD, vcC_seq, vcC_cond, vcC_block, vcC_loop, vcC_exit, vcC_ret, vcOps_nil, vcOps_cons, kSeq_norm, kSeq_ex, kSeq_ret, kBlock_norm, kBlock_ex, kBlock_ret, kRet_ex, kRet_norm, kRet_ret, kLoop_norm, kLoop_ex, kLoop_ret, fitQ_app, eqQ_app, vcOpsQ, vcOp, vcOpG, vcOp1, vcNil, vcEff, evQ, evQ0, evTup, tupOf, guardOf, rd, rds, lk, opQ, qMv, qBuild, qLoad1, qLoadN, qFld, qPart1, qPartN, qIx1, qIxN, qIxA, qIxS, qBin, qBinb, qEqA, qUn, qConv, qMin, qMax, qLenS, qNil, fin, evPick, evCR, evExt, recEff, effE, eBox, eAlloc, eStore, eCall, eSlit, eMks, eSlc, eSlcO, eApp, lims, takeI, rowV, rowOf, boxOf, reach, reachB, resE, ids1L, S1.ids, SC.ids, idsL, SV.ids, memN, pushR, pushN, usesX, readsX, slotsL, XO.slots, vcD, vcDgo, recOf, Rec.foot, nRes, keys, vcCond, tab, plain, rets, ret1, retV, St.put, constS, nth, takeAt, setAt, fillS, ups, oks, okcs, S1.ok, SC.ok, Value.oneCell', S1.cells, binI, isShift, eqCells, eqC, sc1L, sc1, scL, SC.sc, scV, scEnv, scEnt, scE, Le, LeB, bndOf, bindEnv, bindEnt, bindV, bind1, bind1L, bindL, bindC, imgB, bndOk, leEnv, leEnt, leAt, leE, nilE, imgs, outN, nodupN, mapEq, SC.sub, subL, S1.sub, sub1L, SV.sub, upto, mkI, keepS, idsEnv, keepN, rowF_scT, rowEq_rowF, rowEq_lit, okRow_rowF, okRow_lit, lit_scF, isRow_rowF, isRow_nil, decL_rowF, decL_nil, rowF_renf, List.getD_cons_zero, List.getD_cons_succ, sg, SC.ren, renL, S1.ren, ren1L, SV.ren, Ent.ren, renE, List.map_cons, List.map_nil, List.length_cons, List.length_nil, List.nil_append, List.cons_append, List.append_nil, Option.getD_none, Option.getD_some, Int.toNat_natCast, Int.toNat_zero, Nat.reduceAdd, Nat.reduceSub, Nat.reduceLeDiff, Nat.reduceEqDiff, Nat.reduceBEq, Nat.reduceMul, Nat.reduceLT, Nat.add_zero, Nat.zero_add, Nat.le_refl, Nat.zero_le, Nat.sub_zero, Nat.sub_self, Nat.lt_irrefl, Nat.add_lt_add_iff_left, Nat.add_eq_zero_iff, reduceIte, reduceCtorEq, and_true, true_and, and_self, and_false, false_and, forall_const, Bool.false_eq_true, Bool.true_eq_false, false_or, or_false, or_true, true_or, cond_true, cond_false, beq_self_eq_true, beq_true, beq_false, bne_iff_ne, bne_eq_false_iff_eq, beq_iff_eq, beq_eq_false_iff_ne, true_implies, false_implies, imp_self, implies_true, Bool.not_not, Bool.and_true, Bool.true_and, Bool.and_false, Bool.false_and, Bool.not_true, Bool.not_false, Bool.true_or, Bool.or_true, Bool.false_or, Bool.or_false, Bool.cond_false_right, Bool.cond_true_left, Bool.cond_true_right, Bool.cond_false_left, SV.o.injEq, SV.t.injEq, SV.g.injEq, S1.c.injEq, S1.a.injEq, SC.v.injEq, SC.n.injEq, SC.p.injEq, Value.bool.injEq, Value.int.injEq, List.cons.injEq, Option.some.injEq, Prod.mk.injEq, decide_eq_true_eq, gt_iff_lt, ge_iff_le, ne_eq, Int.reduceLE, Int.cast_ofNat_Int, Int.reduceLT, Int.reduceEq, Int.reduceMul, Int.reduceAdd, Int.reduceSub, Int.reduceNeg, Int.reduceToNat, Int.reduceNe, Int.natCast_nonneg, Int.ofNat_lt, Int.ofNat_le, not_false_eq_true, not_true_eq_false, Bool.not_eq_true', Bool.not_eq_false', Bool.or_eq_true, Bool.and_eq_true, Bool.or_eq_false_iff, decide_eq_false_iff_not, Int.zero_sub, and_imp, bne_self_eq_false, Bool.bne_true, Bool.bne_false, Int.sub_zero, eP_eta, eP_isRow, eP_sz, eP_0, eP_1, eP_2, eP_3, eI_isRow, eI_sz, eI_0, eU16_isRow, eU16_sz, eU16_0, g16, g17, g27, g31, q1, q2]
    have a1 : nextS 0 = 1442695040888963407 := by decide
    have a2 : (drawS 0 10).1 = 7 := by decide
    have a3 : resE_ [⟨5, 0, 0, 1⟩, ⟨6, 0, 0, 0⟩, ⟨7, 0, 0, 3⟩] 4 0 = 0 := by decide +kernel
    have a4 : resL [⟨5, 0, 0, 1⟩, ⟨6, 0, 0, 0⟩, ⟨7, 0, 0, 3⟩] 4 0 = [⟨5, 0, 0, 1⟩, ⟨7, 0, 0, 1⟩, ⟨7, 0, 0, 1⟩, ⟨7, 0, 0, 1⟩] := by rfl
    have a5 : effF [⟨5, 0, 0, 1⟩, ⟨6, 0, 0, 0⟩, ⟨7, 0, 0, 3⟩] = ((8, 5), 0) := by decide +kernel
    simp [a1, a2, a3, a4, a5]
  · cases hg_
/-! The flock -/
theorem flockL_at {ws : List Int} {k : Nat} (h : k < ws.length) : (flockL ws).getD k eP.dflt = ⟨(k : Int), 0, 0, ws.getD k eU16.dflt⟩ := by
  unfold flockL flockK
  rw [List.getD_eq_getElem?_getD, List.getElem?_map, List.getElem?_range h]
  rfl
theorem flockL_len (ws : List Int) : (flockL ws).length = ws.length := flockK_len _ _
theorem flockL_valid {ws : List Int} (hl : ws.length ≤ 40) (hw : ∀ k, k < ws.length → 0 ≤ ws.getD k eU16.dflt ∧ ws.getD k eU16.dflt ≤ 65535) : validL (flockL ws) = true := by
  unfold validL
  simp only [Bool.and_eq_true, decide_eq_true_eq, Bool.not_eq_true', List.any_eq_false]
  refine ⟨by rw [flockL_len]; omega, fun x hx => ?_⟩
  obtain ⟨i, hi, rfl⟩ := List.getElem_of_mem hx
  have hg : (flockL ws).getD i eP.dflt = (flockL ws)[i] := by rw [List.getD_eq_getElem?_getD, List.getElem?_eq_getElem hi]; rfl
  have hi' := hi
  rw [flockL_len] at hi'
  have := hw i hi'
  rw [← hg, flockL_at hi']
  have h1 : posedB (i : Int) 0 0 = true := by unfold posedB; simp only [decide_eq_true_eq]; omega
  unfold wrongP
  simp only [h1, Bool.true_and, Bool.not_eq_true', Bool.not_eq_true, Bool.not_eq_false', decide_eq_true_eq]
  have h2 : 0 ≤ ws.getD i eU16.dflt ∧ ws.getD i eU16.dflt ≤ 1048576 := by omega
  rw [decide_eq_true h2]
  simp
/-- The number of the positive weights, the first, and whether all are equal. -/
def effS (ws : List Int) : Nat → Nat × Int × Bool
  | 0 => (0, 0, true)
  | k + 1 => if ws.getD k eU16.dflt = 0 then effS ws k else ((effS ws k).1 + 1, if (effS ws k).1 = 0 then ws.getD k eU16.dflt else (effS ws k).2.1, (effS ws k).2.2 && (ws.getD k eU16.dflt == if (effS ws k).1 = 0 then ws.getD k eU16.dflt else (effS ws k).2.1))
theorem effS_zero (ws : List Int) : effS ws 0 = (0, 0, true) := rfl
theorem effS_step0 {ws : List Int} {k : Nat} (h : ws.getD k eU16.dflt = 0) : effS ws (k + 1) = effS ws k := by simp only [effS, h, if_true]
theorem effS_step1 {ws : List Int} {k : Nat} {w : Int} (hw : ws.getD k eU16.dflt = w) (h : w ≠ 0) (h1 : (effS ws k).1 = 0) : effS ws (k + 1) = ((effS ws k).1 + 1, w, (effS ws k).2.2) := by
  subst hw
  simp only [effS, h, h1, if_true, if_false, beq_self_eq_true, Bool.and_true]
theorem effS_step2 {ws : List Int} {k : Nat} {w : Int} (hw : ws.getD k eU16.dflt = w) (h : w ≠ 0) (h1 : (effS ws k).1 ≠ 0) : effS ws (k + 1) = ((effS ws k).1 + 1, (effS ws k).2.1, (effS ws k).2.2 && (w == (effS ws k).2.1)) := by
  subst hw
  simp only [effS, h, h1, if_false]
theorem cs_ring (c Q S w : Int) : (c+1)*(Q+w*w) - (S+w)*(S+w) = (c*Q - S*S) + (Q - 2*(S*w) + c*(w*w)) := by grind
theorem cs_ring2 (c f w : Int) : c*(f*f) - 2*((c*f)*w) + c*(w*w) = c*((f-w)*(f-w)) := by grind
theorem cs_ring3 (c Q S t w : Int) : (Q+w*w) - 2*((S+w)*t) + (c+1)*(t*t) = (Q - 2*(S*t) + c*(t*t)) + (w-t)*(w-t) := by grind
theorem cs_ring4 (S w : Int) : (S+w)*(S+w) = S*S + 2*(S*w) + w*w := by grind
theorem cs_ring5 (c f : Int) : c*(c*(f*f)) - (c*f)*(c*f) = 0 := by grind
theorem cs_ring6 (c f : Int) : c*f+f = (c+1)*f := by grind
theorem cs_ring7 (c f : Int) : c*(f*f)+f*f = (c+1)*(f*f) := by grind
theorem sq_nn (a : Int) : 0 ≤ a * a := by
  rcases Int.le_total 0 a with h | h
  · exact Int.mul_nonneg h h
  · have := Int.mul_nonneg (a := -a) (b := -a) (by omega) (by omega)
    rwa [Int.neg_mul_neg] at this
theorem sq_pos {a : Int} (h : a ≠ 0) : 0 < a * a := by
  rcases Int.lt_or_gt_of_ne h with h | h
  · have := Int.mul_pos (a := -a) (b := -a) (by omega) (by omega)
    rwa [Int.neg_mul_neg] at this
  · exact Int.mul_pos h h
structure EffI (c : Int) (f : Int) (eq : Bool) (S Q : Int) : Prop where
  c0 : 0 ≤ c
  f1 : 0 < c → 0 < f
  s0 : c = 0 → S = 0 ∧ Q = 0 ∧ eq = true
  s1 : c ≤ S
  sq : Q ≤ S * S
  v : ∀ t, 0 ≤ Q - 2 * (S * t) + c * (t * t)
  e1 : eq = true → S = c * f ∧ Q = c * (f * f)
  e0 : eq = false → 0 < c * Q - S * S
theorem effS_inv {ws : List Int} (hw : ∀ k, k < ws.length → 0 ≤ ws.getD k eU16.dflt ∧ ws.getD k eU16.dflt ≤ 65535) : ∀ k, k ≤ ws.length → (effS ws k).1 ≤ k ∧ EffI (effS ws k).1 (effS ws k).2.1 (effS ws k).2.2 (pre (flockL ws) k) (preS (flockL ws) k)
  | 0, _ => by
    refine ⟨Nat.le_refl _, ?_⟩
    simp only [effS_zero, pre_zero, preS_zero]
    exact ⟨by simp, by simp, by simp, by simp, by simp, fun t => by simp, by simp, by simp⟩
  | k + 1, hk => by
    obtain ⟨hc, I⟩ := effS_inv hw k (by omega)
    have hwk := hw k (by omega)
    rw [pre_succ (by rw [flockL_len]; omega), preS_succ, flockL_at (by omega)]
    simp only
    by_cases h0 : ws.getD k eU16.dflt = 0
    · rw [effS_step0 h0, h0]
      refine ⟨by omega, ?_⟩
      simp only [Int.add_zero, Int.mul_zero]
      exact I
    · obtain ⟨w, hwd⟩ : ∃ w, ws.getD k eU16.dflt = w := ⟨_, rfl⟩
      rw [hwd] at h0 hwk ⊢
      have hS : 0 ≤ pre (flockL ws) k := by have := I.s1; have := I.c0; omega
      have hsw : 0 ≤ pre (flockL ws) k * w := Int.mul_nonneg hS hwk.1
      have hq : preS (flockL ws) k + w * w ≤ (pre (flockL ws) k + w) * (pre (flockL ws) k + w) := by
        rw [cs_ring4]; have := I.sq; omega
      have hv : ∀ t, 0 ≤ preS (flockL ws) k + w * w - 2 * ((pre (flockL ws) k + w) * t) + (((effS ws k).1 : Int) + 1) * (t * t) := fun t => by
        rw [cs_ring3]; have := I.v t; have := sq_nn (w - t); omega
      by_cases h1 : (effS ws k).1 = 0
      · have hst := I.s0 (by omega)
        rw [effS_step1 hwd h0 h1]
        refine ⟨by simp only; omega, ?_⟩
        simp only
        rw [h1] at hv ⊢
        rw [hst.1, hst.2.1] at hq hv ⊢
        rw [hst.2.2]
        refine ⟨by simp, fun _ => by omega, fun h => by simp at h, by omega, by omega, hv, fun _ => ⟨by omega, ?_⟩, fun h => by simp at h⟩
        simp
      · rw [effS_step2 hwd h0 h1]
        refine ⟨by simp only; omega, ?_⟩
        simp only
        have hf := I.f1 (by omega)
        have hcp : (0 : Int) < (effS ws k).1 := by omega
        have r := cs_ring ((effS ws k).1 : Int) (preS (flockL ws) k) (pre (flockL ws) k) w
        have hvw := I.v w
        cases he : (effS ws k).2.2 with
        | false =>
          refine ⟨by omega, fun _ => hf, fun h => by omega, by have := I.s1; omega, hq, ?_, fun h => by simp at h, fun _ => ?_⟩
          · intro t; have := hv t; simpa using this
          · have := I.e0 he
            have e : ((((effS ws k).1 + 1 : Nat) : Int)) = ((effS ws k).1 : Int) + 1 := by omega
            rw [e, r]; omega
        | true =>
          obtain ⟨e1, e2⟩ := I.e1 he
          have e : ((((effS ws k).1 + 1 : Nat) : Int)) = ((effS ws k).1 : Int) + 1 := by omega
          refine ⟨by omega, fun _ => hf, fun h => by omega, by have := I.s1; omega, hq, ?_, fun h => ?_, fun h => ?_⟩
          · intro t; have := hv t; simpa using this
          · simp at h
            rw [e]
            rw [e1, e2, ← h]
            exact ⟨cs_ring6 _ _, cs_ring7 _ _⟩
          · simp at h
            rw [e, r]
            have q0 := cs_ring5 ((effS ws k).1 : Int) (effS ws k).2.1
            have q1 := cs_ring2 ((effS ws k).1 : Int) (effS ws k).2.1 w
            have q2 := Int.mul_pos hcp (sq_pos (a := (effS ws k).2.1 - w) (by omega))
            rw [e1, e2]
            omega
theorem low_facts {n d : Int} (hn : 0 < n) (hd : 0 < d) : ∃ g : Int, 0 < g ∧ n = g * (lowF n d).1 ∧ d = g * (lowF n d).2 ∧ 0 < (lowF n d).2 ∧ (lowF n d).2 ≤ d := by
  have hg : 0 < Int.gcd n d := Int.gcd_pos_of_ne_zero_left d (by omega)
  have hg' : (0 : Int) < (Int.gcd n d : Int) := by omega
  have h2 := Int.mul_ediv_cancel' (Int.gcd_dvd_right n d)
  have h3 : 0 < d / (Int.gcd n d : Int) := by
    refine Int.pos_of_mul_pos_left (a := d / (Int.gcd n d : Int)) (b := (Int.gcd n d : Int)) ?_ ?_
    all_goals first | omega | skip
    rw [Int.mul_comm]; omega
  refine ⟨Int.gcd n d, hg', (Int.mul_ediv_cancel' (Int.gcd_dvd_left n d)).symm, h2.symm, h3, ?_⟩
  exact Int.ediv_le_self _ (by omega)
theorem eff_law {ws : List Int} (hl : ws.length ≤ 40) (hw : ∀ k, k < ws.length → 0 ≤ ws.getD k eU16.dflt ∧ ws.getD k eU16.dflt ≤ 65535) :
    if (effS ws ws.length).1 = 0 then effF (flockL ws) = ((0, 0), 9) else ∃ N D : Int, effF (flockL ws) = ((N, D), 0) ∧ 0 < D ∧ D ≤ N ∧ D ≤ 1000000000000000 ∧ N ≤ (effS ws ws.length).1 * D ∧ ((N = (effS ws ws.length).1 * D) ↔ (effS ws ws.length).2.2 = true) := by
  obtain ⟨hc, I⟩ := effS_inv hw ws.length (Nat.le_refl _)
  have hv := flockL_valid hl hw
  have hsw : sumW (flockL ws) = pre (flockL ws) ws.length := by unfold sumW; rw [flockL_len]
  split
  · rename_i h0
    have := I.s0 (by omega)
    unfold effF measE totalL
    rw [hv, if_pos rfl, hsw, this.1]
    rfl
  · rename_i h0
    have hS : 0 < pre (flockL ws) ws.length := by have := I.s1; omega
    have hpb := preS_bd hv (k := ws.length) (by rw [flockL_len]; omega)
    have hQ := hpb.2.2 hS
    have hm : measE (flockL ws) = 0 := by
      unfold measE totalL
      rw [hv, if_pos rfl, hsw]
      have : pre (flockL ws) ws.length ≠ 0 := by omega
      simp [this]
    have hE : effF (flockL ws) = (lowF (pre (flockL ws) ws.length * pre (flockL ws) ws.length) (preS (flockL ws) ws.length), 0) := by
      unfold effF
      rw [if_pos hm, hsw, flockL_len]
    obtain ⟨g, hg, e1, e2, hD, hDb⟩ := low_facts (Int.mul_pos hS hS) hQ
    refine ⟨(lowF (pre (flockL ws) ws.length * pre (flockL ws) ws.length) (preS (flockL ws) ws.length)).1, (lowF (pre (flockL ws) ws.length * pre (flockL ws) ws.length) (preS (flockL ws) ws.length)).2, hE, hD, ?_, by omega, ?_, ?_⟩
    · have := I.sq
      rw [e1] at this
      have e2' := e2
      rw [← e1] at this
      refine Int.le_of_mul_le_mul_left (a := g) ?_ hg
      rw [← e1, ← e2]; exact I.sq
    · refine Int.le_of_mul_le_mul_left (a := g) ?_ hg
      rw [← e1, Int.mul_left_comm, ← e2]
      cases he : (effS ws ws.length).2.2 with
      | false => have := I.e0 he; omega
      | true =>
        obtain ⟨a1, a2⟩ := I.e1 he
        have := cs_ring5 ((effS ws ws.length).1 : Int) (effS ws ws.length).2.1
        rw [a1, a2]; omega
    · constructor
      · intro h
        have h' : pre (flockL ws) ws.length * pre (flockL ws) ws.length = (effS ws ws.length).1 * preS (flockL ws) ws.length := by
          have := congrArg (fun z => g * z) h
          rw [Int.mul_left_comm, ← e1, ← e2] at this
          exact this
        cases he : (effS ws ws.length).2.2 with
        | false => have := I.e0 he; omega
        | true => rfl
      · intro he
        obtain ⟨a1, a2⟩ := I.e1 he
        have h5 := cs_ring5 ((effS ws ws.length).1 : Int) (effS ws ws.length).2.1
        have h6 : pre (flockL ws) ws.length * pre (flockL ws) ws.length = (effS ws ws.length).1 * preS (flockL ws) ws.length := by rw [a1, a2]; omega
        refine Int.eq_of_mul_eq_mul_left (a := g) (by omega) ?_
        rw [← e1, Int.mul_left_comm, ← e2]; exact h6
/-! Shares -/
theorem pick_spec {L : List PP} {n x : Int} (h : x < n * sumW L) (h0 : 0 < L.length) : pickI L n x < L.length ∧ x < n * pre L (pickI L n x + 1) ∧ ∀ j, j < pickI L n x → n * pre L (j + 1) ≤ x := by
  have hlt : (List.range L.length).findIdx (fun k => decide (x < n * pre L (k + 1))) < (List.range L.length).length := by
    rw [List.findIdx_lt_length]
    refine ⟨L.length - 1, by simp; omega, ?_⟩
    have : L.length - 1 + 1 = L.length := by omega
    rw [this, pre_all]
    simpa using h
  have h1 := List.findIdx_getElem (w := hlt)
  refine ⟨by rw [List.length_range] at hlt; exact hlt, ?_, fun j hj => ?_⟩
  · simpa [pickI] using h1
  · have := List.not_of_lt_findIdx (i := j) hj
    simpa using this
theorem pick_mono {L : List PP} {n x y : Int} (hxy : x ≤ y) (h : y < n * sumW L) (h0 : 0 < L.length) : pickI L n x ≤ pickI L n y := by
  have hx := pick_spec (L := L) (n := n) (x := x) (by omega) h0
  have hy := pick_spec (L := L) h h0
  rcases Nat.lt_or_ge (pickI L n y) (pickI L n x) with h1 | h1
  · have := hx.2.2 _ h1; omega
  · exact h1
/-- How many of the first i marks lie below x. -/
def belowN (u t x : Int) : Nat → Nat
  | 0 => 0
  | i + 1 => belowN u t x i + if u + (i : Int) * t < x then 1 else 0
theorem below_inv {u t x : Int} (ht : 0 < t) : ∀ i, belowN u t x i ≤ i ∧ (belowN u t x i = i ∨ x ≤ u + (belowN u t x i : Int) * t) ∧ (belowN u t x i = 0 ∨ u + ((belowN u t x i : Int) - 1) * t < x)
  | 0 => by simp [belowN]
  | i + 1 => by
    obtain ⟨h0, h1, h2⟩ := below_inv (u := u) (x := x) ht i
    unfold belowN
    split
    · rename_i hlt
      have hb : belowN u t x i = i := by
        rcases h1 with h1 | h1
        · exact h1
        · exfalso
          have : (belowN u t x i : Int) * t ≤ (i : Int) * t := Int.mul_le_mul_of_nonneg_right (by omega) (by omega)
          omega
      rw [hb]
      refine ⟨by omega, Or.inl rfl, Or.inr ?_⟩
      have : (((i + 1 : Nat) : Int) - 1) = i := by omega
      rw [this]; exact hlt
    · rename_i hlt
      refine ⟨by omega, ?_, ?_⟩
      · rcases h1 with h1 | h1
        · right; rw [h1]; simp only [Nat.add_zero]; omega
        · right; simpa using h1
      · simpa using h2
theorem below_all {u t x : Int} {n : Nat} (ht : 0 < t) (hu : 0 ≤ u ∧ u < t) (hx : 0 ≤ x ∧ x ≤ (n : Int) * t) : u + ((belowN u t x n : Int) - 1) * t < x ∧ x ≤ u + (belowN u t x n : Int) * t := by
  obtain ⟨h0, h1, h2⟩ := below_inv (u := u) (x := x) ht n
  constructor
  · rcases h2 with h2 | h2
    · rw [h2]; simp; omega
    · exact h2
  · rcases h1 with h1 | h1
    · rw [h1]; omega
    · exact h1
def takN (L : List PP) (n u : Int) (i k : Nat) : Int := (belowN u (sumW L) (n * pre L (k + 1)) i : Int) - belowN u (sumW L) (n * pre L k) i
def takL (L : List PP) (n u : Int) (i : Nat) : List Int := (List.range L.length).map fun k => takN L n u i k
theorem takL_len (L : List PP) (n u : Int) (i : Nat) : (takL L n u i).length = L.length := by simp [takL]
theorem takL_at {L : List PP} {n u : Int} {i k : Nat} (h : k < L.length) : (takL L n u i).getD k eI.dflt = takN L n u i k := by
  unfold takL
  rw [List.getD_eq_getElem?_getD, List.getElem?_map, List.getElem?_range h]
  rfl
theorem takN_zero (L : List PP) (n u : Int) (k : Nat) : takN L n u 0 k = 0 := by simp [takN, belowN]
theorem takN_succ {L : List PP} {n u : Int} {i k : Nat} (hv : validL L = true) (hn : 0 ≤ n) (hk : k < L.length) (hx : u + (i : Int) * sumW L < n * sumW L) (hL : 0 < L.length) (hx0 : 0 ≤ u + (i : Int) * sumW L) :
    takN L n u (i + 1) k = takN L n u i k + if k = pickI L n (u + (i : Int) * sumW L) then 1 else 0 := by
  obtain ⟨p1, p2, p3⟩ := pick_spec hx hL
  generalize hp : pickI L n (u + (i : Int) * sumW L) = p at *
  have mono : ∀ {a b : Nat}, a ≤ b → b ≤ L.length → n * pre L a ≤ n * pre L b := fun h1 h2 => Int.mul_le_mul_of_nonneg_left (pre_mono hv h1 h2) hn
  unfold takN
  simp only [belowN]
  by_cases hkp : k = p
  · subst hkp
    have q : n * pre L k ≤ u + (i : Int) * sumW L := by
      cases k with
      | zero => rw [pre_zero]; simpa using hx0
      | succ k' => exact p3 k' (by omega)
    rw [if_pos p2, if_neg (by omega), if_pos rfl]
    omega
  · rw [if_neg hkp]
    rcases Nat.lt_or_ge k p with h | h
    · have a1 := p3 k h
      have a2 := mono (a := k) (b := k + 1) (by omega) (by omega)
      rw [if_neg (by omega), if_neg (by omega)]
      omega
    · have a1 := mono (a := p + 1) (b := k) (by omega) (by omega)
      have a2 := mono (a := k) (b := k + 1) (by omega) (by omega)
      rw [if_pos (by omega), if_pos (by omega)]
      omega
theorem takL_zero (L : List PP) (n u : Int) : takL L n u 0 = List.replicate L.length 0 := by
  apply List.ext_getElem
  · simp [takL]
  · intro i h1 h2
    simp [takL, takN_zero]
theorem takL_succ {L : List PP} {n u : Int} {i : Nat} (hv : validL L = true) (hn : 0 ≤ n) (hx : u + (i : Int) * sumW L < n * sumW L) (hL : 0 < L.length) (hx0 : 0 ≤ u + (i : Int) * sumW L) :
    takL L n u (i + 1) = (takL L n u i).set (pickI L n (u + (i : Int) * sumW L)) ((takL L n u i).getD (pickI L n (u + (i : Int) * sumW L)) eI.dflt + 1) := by
  have hp := (pick_spec hx hL).1
  rw [takL_at hp]
  apply List.ext_getElem
  · simp [takL]
  · intro k h1 h2
    rw [takL_len] at h1
    rw [List.getElem_set]
    simp only [takL, List.getElem_map, List.getElem_range]
    rw [takN_succ hv hn h1 hx hL hx0]
    by_cases hk : k = pickI L n (u + (i : Int) * sumW L)
    · subst hk; simp
    · rw [if_neg hk, if_neg (fun h => hk h.symm)]; omega
theorem below_le {u t x y : Int} (h : x ≤ y) : ∀ i, belowN u t x i ≤ belowN u t y i
  | 0 => Nat.le_refl _
  | i + 1 => by
    have := below_le (u := u) (t := t) h i
    simp only [belowN]
    split <;> split <;> omega
theorem tak_bd {L : List PP} {n u : Int} (hv : validL L = true) (hn : 0 ≤ n) {i k : Nat} (hk : k < L.length) : 0 ≤ takN L n u i k ∧ takN L n u i k ≤ i := by
  have h1 : n * pre L k ≤ n * pre L (k + 1) := Int.mul_le_mul_of_nonneg_left (pre_mono hv (by omega) (by omega)) hn
  have h2 := below_le (u := u) (t := sumW L) h1 i
  have h3 : ∀ (x : Int) i, belowN u (sumW L) x i ≤ i := by
    intro x i
    induction i with
    | zero => simp [belowN]
    | succ i ih => simp only [belowN]; split <;> omega
  have := h3 (n * pre L (k + 1)) i
  unfold takN; omega
theorem sh_r1 (a b t : Int) : (a - 1) * t - b * t = (a - b - 1) * t := by grind
theorem sh_r2 (a b t : Int) : a * t - (b - 1) * t = (a - b + 1) * t := by grind
theorem share_law {L : List PP} {n : Nat} {u : Int} (hv : validL L = true) (ht : 0 < sumW L) (hu : 0 ≤ u ∧ u < sumW L) {k : Nat} (hk : k < L.length) :
    (n : Int) * (L.getD k eP.dflt).W / sumW L ≤ takN L n u n k ∧ takN L n u n k ≤ (n : Int) * (L.getD k eP.dflt).W / sumW L + 1 ∧ ((L.getD k eP.dflt).W = 0 → takN L n u n k = 0) := by
  have b := fun j (hj : j ≤ L.length) => below_all (u := u) (t := sumW L) (x := (n : Int) * pre L j) (n := n) ht hu ⟨Int.mul_nonneg (by omega) (pre_bd hv hj).1, Int.mul_le_mul_of_nonneg_left (by have := pre_mono hv hj (Nat.le_refl _); unfold sumW; omega) (by omega)⟩
  have b1 := b k (by omega)
  have b2 := b (k + 1) (by omega)
  have ep : (n : Int) * pre L (k + 1) = (n : Int) * pre L k + (n : Int) * (L.getD k eP.dflt).W := by rw [pre_succ hk, Int.mul_add]
  unfold takN
  rw [ep] at b2 ⊢
  have r1 := sh_r1 (belowN u (sumW L) ((n : Int) * pre L k + (n : Int) * (L.getD k eP.dflt).W) n : Int) (belowN u (sumW L) ((n : Int) * pre L k) n : Int) (sumW L)
  have r2 := sh_r2 (belowN u (sumW L) ((n : Int) * pre L k + (n : Int) * (L.getD k eP.dflt).W) n : Int) (belowN u (sumW L) ((n : Int) * pre L k) n : Int) (sumW L)
  refine ⟨?_, ?_, fun hw => ?_⟩
  · refine Int.le_of_lt_add_one (Int.ediv_lt_of_lt_mul ht ?_)
    omega
  · have : (belowN u (sumW L) ((n : Int) * pre L k + (n : Int) * (L.getD k eP.dflt).W) n : Int) - (belowN u (sumW L) ((n : Int) * pre L k) n : Int) - 1 ≤ (n : Int) * (L.getD k eP.dflt).W / sumW L := by
      refine Int.le_ediv_of_mul_le ht ?_
      omega
    omega
  · rw [hw]; simp
theorem resK_at {L : List PP} {n u : Int} {N i : Nat} (h : i < N) : (resK L n u N).getD i eP.dflt = { L.getD (pickI L n (u + i * sumW L)) eP.dflt with W := 1 } := by
  unfold resK
  rw [List.getD_eq_getElem?_getD, List.getElem?_map, List.getElem?_range h]
  rfl
theorem flock_res {ws : List Int} {n u : Int} {N i : Nat} (h : i < N) (hp : pickI (flockL ws) n (u + i * sumW (flockL ws)) < ws.length) : (resK (flockL ws) n u N).getD i eP.dflt = ⟨(pickI (flockL ws) n (u + i * sumW (flockL ws)) : Nat), 0, 0, 1⟩ := by
  rw [resK_at h, flockL_at hp]
theorem mark_bd {t u : Int} {N i : Nat} (h : i < N) (hu : 0 ≤ u ∧ u < t) : 0 ≤ u + (i : Int) * t ∧ u + (i : Int) * t < (N : Int) * t := by
  have h1 : ((i : Int) + 1) * t ≤ (N : Int) * t := Int.mul_le_mul_of_nonneg_right (by omega) (by omega)
  rw [Int.add_mul] at h1
  have h2 : 0 ≤ (i : Int) * t := Int.mul_nonneg (by omega) (by omega)
  omega
/-- wayfinder/wayfinderlaw21.ParticleEffective -/
def g4 : Con := fun args_ E_ nn_ => match args_ with
  | [.c (.n weights)] => (match rowOf E_ weights with
    | some (weights_n, weights_s, weights_f) => some (.q (isRow eU16 weights_n weights_s weights_f ∧ (∀ k, k < ((decL eU16 weights_n weights_f)).length → 0 ≤ ((decL eU16 weights_n weights_f)).getD k eU16.dflt ∧ ((decL eU16 weights_n weights_f)).getD k eU16.dflt ≤ 65535)) (.o (.c (.v (.bool (true))))))
    | none => none)
  | _ => none
theorem c4 : COk Try.prog 4 g4 := by
  refine cok_q Try.func4 x4_ok (by kernel_rfl) (cok_tab (cok_cons c12 (cok_cons c13 (cok_cons c17 cok_nil)))) ?_
  intro args_ E_ nn_ cr_ hg_
  unfold g4 at hg_
  split at hg_
  · rename_i weights
    split at hg_
    · rename_i weights_n weights_s weights_f h_weights
      cases hg_
      refine ⟨_, _, rfl, 1, [weights], [.c (.n 0)], [(0, .ro (decL eU16 weights_n weights_f).length eU16.sz (rowF eU16 (decL eU16 weights_n weights_f)))], .o (.c (.v (.bool (true)))), rfl, rfl, by simp only [sc1L, sc1, scL, SC.sc, scV, scEnt, scE, rowF_scT, upto, Nat.reduceLT, Nat.reduceAdd, and_self, eP_eta, eP_isRow, eP_sz, eP_0, eP_1, eP_2, eP_3, eI_isRow, eI_sz, eI_0, eU16_isRow, eU16_sz, eU16_0], by simp only [sc1L, sc1, scL, SC.sc, scV, scEnt, scE, rowF_scT, upto, Nat.reduceLT, Nat.reduceAdd, and_self, eP_eta, eP_isRow, eP_sz, eP_0, eP_1, eP_2, eP_3, eI_isRow, eI_sz, eI_0, eU16_isRow, eU16_sz, eU16_0], by simp only [sc1L, sc1, scL, SC.sc, scV, scEnt, scE, rowF_scT, upto, Nat.reduceLT, Nat.reduceAdd, and_self, eP_eta, eP_isRow, eP_sz, eP_0, eP_1, eP_2, eP_3, eI_isRow, eI_sz, eI_0, eU16_isRow, eU16_sz, eU16_0], rfl, ⟨inE0_row h_weights, trivial⟩, rfl, ?_⟩
      intro hpre hlen
      obtain ⟨i_weights, hpre⟩ := hpre
      refine ⟨⟨inE_row h_weights i_weights, trivial⟩, ?_⟩
      have z_weights := lens_row (E := eU16) hlen h_weights
      clear i_weights
      generalize decL eU16 weights_n weights_f = weightsL at *
      clear h_weights
      simp (config := {maxSteps := 10000000}) only [x4, vcF, env0, vcC_skip, vcC_regT, vcC_regF, vcC_regD, vcC_seq, vcC_cond, vcC_block, vcC_loop, vcC_exit, vcC_ret, vcOps_nil, vcOps_cons, kSeq_norm, kSeq_ex, kSeq_ret, kBlock_norm, kBlock_ex, kBlock_ret, kRet_ex, kRet_norm, kRet_ret, kLoop_norm, kLoop_ex, kLoop_ret, fitQ_app, eqQ_app, vcOpsQ, vcOp, vcOpG, vcOp1, vcNil, vcEff, evQ, evQ0, evTup, tupOf, guardOf, rd, rds, lk, opQ, qMv, qBuild, qLoad1, qLoadN, qFld, qPart1, qPartN, qIx1, qIxN, qIxA, qIxS, qBin, qBinb, qEqA, qUn, qConv, qMin, qMax, qLenS, qNil, fin, evPick, evCR, evExt, recEff, effE, eBox, eAlloc, eStore, eCall, eSlit, eMks, eSlc, eSlcO, eApp, lims, takeI, rowV, rowOf, boxOf, reach, reachB, resE, ids1L, S1.ids, SC.ids, idsL, SV.ids, memN, pushR, pushN, usesX, readsX, slotsL, XO.slots, vcD, vcDgo, recOf, Rec.foot, nRes, keys, vcCond, tab, plain, rets, ret1, retV, St.put, constS, nth, takeAt, setAt, fillS, ups, oks, okcs, S1.ok, SC.ok, Value.oneCell', S1.cells, binI, isShift, eqCells, eqC, sc1L, sc1, scL, SC.sc, scV, scEnv, scEnt, scE, Le, LeB, bndOf, bindEnv, bindEnt, bindV, bind1, bind1L, bindL, bindC, imgB, bndOk, leEnv, leEnt, leAt, leE, nilE, imgs, outN, nodupN, mapEq, SC.sub, subL, S1.sub, sub1L, SV.sub, upto, mkI, keepS, idsEnv, keepN, rowF_scT, rowEq_rowF, rowEq_lit, okRow_rowF, okRow_lit, lit_scF, isRow_rowF, isRow_nil, decL_rowF, decL_nil, rowF_renf, List.getD_cons_zero, List.getD_cons_succ, sg, SC.ren, renL, S1.ren, ren1L, SV.ren, Ent.ren, renE, List.map_cons, List.map_nil, List.length_cons, List.length_nil, List.nil_append, List.cons_append, List.append_nil, Option.getD_none, Option.getD_some, Int.toNat_natCast, Int.toNat_zero, Nat.reduceAdd, Nat.reduceSub, Nat.reduceLeDiff, Nat.reduceEqDiff, Nat.reduceBEq, Nat.reduceMul, Nat.reduceLT, Nat.add_zero, Nat.zero_add, Nat.le_refl, Nat.zero_le, Nat.sub_zero, Nat.sub_self, Nat.lt_irrefl, Nat.add_lt_add_iff_left, Nat.add_eq_zero_iff, reduceIte, reduceCtorEq, and_true, true_and, and_self, and_false, false_and, forall_const, Bool.false_eq_true, Bool.true_eq_false, false_or, or_false, or_true, true_or, cond_true, cond_false, beq_self_eq_true, beq_true, beq_false, bne_iff_ne, bne_eq_false_iff_eq, beq_iff_eq, beq_eq_false_iff_ne, true_implies, false_implies, imp_self, implies_true, Bool.not_not, Bool.and_true, Bool.true_and, Bool.and_false, Bool.false_and, Bool.not_true, Bool.not_false, Bool.true_or, Bool.or_true, Bool.false_or, Bool.or_false, Bool.cond_false_right, Bool.cond_true_left, Bool.cond_true_right, Bool.cond_false_left, SV.o.injEq, SV.t.injEq, SV.g.injEq, S1.c.injEq, S1.a.injEq, SC.v.injEq, SC.n.injEq, SC.p.injEq, Value.bool.injEq, Value.int.injEq, List.cons.injEq, Option.some.injEq, Prod.mk.injEq, decide_eq_true_eq, gt_iff_lt, ge_iff_le, ne_eq, Int.reduceLE, Int.cast_ofNat_Int, Int.reduceLT, Int.reduceEq, Int.reduceMul, Int.reduceAdd, Int.reduceSub, Int.reduceNeg, Int.reduceToNat, Int.reduceNe, Int.natCast_nonneg, Int.ofNat_lt, Int.ofNat_le, not_false_eq_true, not_true_eq_false, Bool.not_eq_true', Bool.not_eq_false', Bool.or_eq_true, Bool.and_eq_true, Bool.or_eq_false_iff, decide_eq_false_iff_not, Int.zero_sub, and_imp, bne_self_eq_false, Bool.bne_true, Bool.bne_false, Int.sub_zero, eP_eta, eP_isRow, eP_sz, eP_0, eP_1, eP_2, eP_3, eI_isRow, eI_sz, eI_0, eU16_isRow, eU16_sz, eU16_0, g12, g13, g17]
      intro h40
      refine ⟨⟨by omega, hpre⟩, ?_⟩
      refine vcLoop_upd (α := {i : Nat // i ≤ weightsL.length}) [0, 4, 5] 0 (fun s => [(6, .o (.c (.v (.int .i64 ((effS weightsL s.1).1 : Nat))))), (7, .o (.c (.v (.int .i64 ((effS weightsL s.1).2.1))))), (8, .o (.c (.v (.bool ((effS weightsL s.1).2.2))))), (9, .o (.c (.v (.int .i64 (s.1 : Nat)))))]) (fun s => []) (fun s => weightsL.length - s.1) ⟨0, Nat.zero_le _⟩ ?_ ?_
      · simp only [effS_zero, vcF, env0, vcC_skip, vcC_regT, vcC_regF, vcC_regD, vcC_seq, vcC_cond, vcC_block, vcC_loop, vcC_exit, vcC_ret, vcOps_nil, vcOps_cons, kSeq_norm, kSeq_ex, kSeq_ret, kBlock_norm, kBlock_ex, kBlock_ret, kRet_ex, kRet_norm, kRet_ret, kLoop_norm, kLoop_ex, kLoop_ret, fitQ_app, eqQ_app, vcOpsQ, vcOp, vcOpG, vcOp1, vcNil, vcEff, evQ, evQ0, evTup, tupOf, guardOf, rd, rds, lk, opQ, qMv, qBuild, qLoad1, qLoadN, qFld, qPart1, qPartN, qIx1, qIxN, qIxA, qIxS, qBin, qBinb, qEqA, qUn, qConv, qMin, qMax, qLenS, qNil, fin, evPick, evCR, evExt, recEff, effE, eBox, eAlloc, eStore, eCall, eSlit, eMks, eSlc, eSlcO, eApp, lims, takeI, rowV, rowOf, boxOf, reach, reachB, resE, ids1L, S1.ids, SC.ids, idsL, SV.ids, memN, pushR, pushN, usesX, readsX, slotsL, XO.slots, vcD, vcDgo, recOf, Rec.foot, nRes, keys, vcCond, tab, plain, rets, ret1, retV, St.put, constS, nth, takeAt, setAt, fillS, ups, oks, okcs, S1.ok, SC.ok, Value.oneCell', S1.cells, binI, isShift, eqCells, eqC, sc1L, sc1, scL, SC.sc, scV, scEnv, scEnt, scE, Le, LeB, bndOf, bindEnv, bindEnt, bindV, bind1, bind1L, bindL, bindC, imgB, bndOk, leEnv, leEnt, leAt, leE, nilE, imgs, outN, nodupN, mapEq, SC.sub, subL, S1.sub, sub1L, SV.sub, upto, mkI, keepS, idsEnv, keepN, rowF_scT, rowEq_rowF, rowEq_lit, okRow_rowF, okRow_lit, lit_scF, isRow_rowF, isRow_nil, decL_rowF, decL_nil, rowF_renf, List.getD_cons_zero, List.getD_cons_succ, sg, SC.ren, renL, S1.ren, ren1L, SV.ren, Ent.ren, renE, List.map_cons, List.map_nil, List.length_cons, List.length_nil, List.nil_append, List.cons_append, List.append_nil, Option.getD_none, Option.getD_some, Int.toNat_natCast, Int.toNat_zero, Nat.reduceAdd, Nat.reduceSub, Nat.reduceLeDiff, Nat.reduceEqDiff, Nat.reduceBEq, Nat.reduceMul, Nat.reduceLT, Nat.add_zero, Nat.zero_add, Nat.le_refl, Nat.zero_le, Nat.sub_zero, Nat.sub_self, Nat.lt_irrefl, Nat.add_lt_add_iff_left, Nat.add_eq_zero_iff, reduceIte, reduceCtorEq, and_true, true_and, and_self, and_false, false_and, forall_const, Bool.false_eq_true, Bool.true_eq_false, false_or, or_false, or_true, true_or, cond_true, cond_false, beq_self_eq_true, beq_true, beq_false, bne_iff_ne, bne_eq_false_iff_eq, beq_iff_eq, beq_eq_false_iff_ne, true_implies, false_implies, imp_self, implies_true, Bool.not_not, Bool.and_true, Bool.true_and, Bool.and_false, Bool.false_and, Bool.not_true, Bool.not_false, Bool.true_or, Bool.or_true, Bool.false_or, Bool.or_false, Bool.cond_false_right, Bool.cond_true_left, Bool.cond_true_right, Bool.cond_false_left, SV.o.injEq, SV.t.injEq, SV.g.injEq, S1.c.injEq, S1.a.injEq, SC.v.injEq, SC.n.injEq, SC.p.injEq, Value.bool.injEq, Value.int.injEq, List.cons.injEq, Option.some.injEq, Prod.mk.injEq, decide_eq_true_eq, gt_iff_lt, ge_iff_le, ne_eq, Int.reduceLE, Int.cast_ofNat_Int, Int.reduceLT, Int.reduceEq, Int.reduceMul, Int.reduceAdd, Int.reduceSub, Int.reduceNeg, Int.reduceToNat, Int.reduceNe, Int.natCast_nonneg, Int.ofNat_lt, Int.ofNat_le, not_false_eq_true, not_true_eq_false, Bool.not_eq_true', Bool.not_eq_false', Bool.or_eq_true, Bool.and_eq_true, Bool.or_eq_false_iff, decide_eq_false_iff_not, Int.zero_sub, and_imp, bne_self_eq_false, Bool.bne_true, Bool.bne_false, Int.sub_zero, eP_eta, eP_isRow, eP_sz, eP_0, eP_1, eP_2, eP_3, eI_isRow, eI_sz, eI_0, eU16_isRow, eU16_sz, eU16_0, g12, g13, g17]
        trace_state
      · rintro ⟨i, hi⟩
        try simp only at hi
        simp only [x4L0, vcF, env0, vcC_skip, vcC_regT, vcC_regF, vcC_regD, vcC_seq, vcC_cond, vcC_block, vcC_loop, vcC_exit, vcC_ret, vcOps_nil, vcOps_cons, kSeq_norm, kSeq_ex, kSeq_ret, kBlock_norm, kBlock_ex, kBlock_ret, kRet_ex, kRet_norm, kRet_ret, kLoop_norm, kLoop_ex, kLoop_ret, fitQ_app, eqQ_app, vcOpsQ, vcOp, vcOpG, vcOp1, vcNil, vcEff, evQ, evQ0, evTup, tupOf, guardOf, rd, rds, lk, opQ, qMv, qBuild, qLoad1, qLoadN, qFld, qPart1, qPartN, qIx1, qIxN, qIxA, qIxS, qBin, qBinb, qEqA, qUn, qConv, qMin, qMax, qLenS, qNil, fin, evPick, evCR, evExt, recEff, effE, eBox, eAlloc, eStore, eCall, eSlit, eMks, eSlc, eSlcO, eApp, lims, takeI, rowV, rowOf, boxOf, reach, reachB, resE, ids1L, S1.ids, SC.ids, idsL, SV.ids, memN, pushR, pushN, usesX, readsX, slotsL, XO.slots, vcD, vcDgo, recOf, Rec.foot, nRes, keys, vcCond, tab, plain, rets, ret1, retV, St.put, constS, nth, takeAt, setAt, fillS, ups, oks, okcs, S1.ok, SC.ok, Value.oneCell', S1.cells, binI, isShift, eqCells, eqC, sc1L, sc1, scL, SC.sc, scV, scEnv, scEnt, scE, Le, LeB, bndOf, bindEnv, bindEnt, bindV, bind1, bind1L, bindL, bindC, imgB, bndOk, leEnv, leEnt, leAt, leE, nilE, imgs, outN, nodupN, mapEq, SC.sub, subL, S1.sub, sub1L, SV.sub, upto, mkI, keepS, idsEnv, keepN, rowF_scT, rowEq_rowF, rowEq_lit, okRow_rowF, okRow_lit, lit_scF, isRow_rowF, isRow_nil, decL_rowF, decL_nil, rowF_renf, List.getD_cons_zero, List.getD_cons_succ, sg, SC.ren, renL, S1.ren, ren1L, SV.ren, Ent.ren, renE, List.map_cons, List.map_nil, List.length_cons, List.length_nil, List.nil_append, List.cons_append, List.append_nil, Option.getD_none, Option.getD_some, Int.toNat_natCast, Int.toNat_zero, Nat.reduceAdd, Nat.reduceSub, Nat.reduceLeDiff, Nat.reduceEqDiff, Nat.reduceBEq, Nat.reduceMul, Nat.reduceLT, Nat.add_zero, Nat.zero_add, Nat.le_refl, Nat.zero_le, Nat.sub_zero, Nat.sub_self, Nat.lt_irrefl, Nat.add_lt_add_iff_left, Nat.add_eq_zero_iff, reduceIte, reduceCtorEq, and_true, true_and, and_self, and_false, false_and, forall_const, Bool.false_eq_true, Bool.true_eq_false, false_or, or_false, or_true, true_or, cond_true, cond_false, beq_self_eq_true, beq_true, beq_false, bne_iff_ne, bne_eq_false_iff_eq, beq_iff_eq, beq_eq_false_iff_ne, true_implies, false_implies, imp_self, implies_true, Bool.not_not, Bool.and_true, Bool.true_and, Bool.and_false, Bool.false_and, Bool.not_true, Bool.not_false, Bool.true_or, Bool.or_true, Bool.false_or, Bool.or_false, Bool.cond_false_right, Bool.cond_true_left, Bool.cond_true_right, Bool.cond_false_left, SV.o.injEq, SV.t.injEq, SV.g.injEq, S1.c.injEq, S1.a.injEq, SC.v.injEq, SC.n.injEq, SC.p.injEq, Value.bool.injEq, Value.int.injEq, List.cons.injEq, Option.some.injEq, Prod.mk.injEq, decide_eq_true_eq, gt_iff_lt, ge_iff_le, ne_eq, Int.reduceLE, Int.cast_ofNat_Int, Int.reduceLT, Int.reduceEq, Int.reduceMul, Int.reduceAdd, Int.reduceSub, Int.reduceNeg, Int.reduceToNat, Int.reduceNe, Int.natCast_nonneg, Int.ofNat_lt, Int.ofNat_le, not_false_eq_true, not_true_eq_false, Bool.not_eq_true', Bool.not_eq_false', Bool.or_eq_true, Bool.and_eq_true, Bool.or_eq_false_iff, decide_eq_false_iff_not, Int.zero_sub, and_imp, bne_self_eq_false, Bool.bne_true, Bool.bne_false, Int.sub_zero, eP_eta, eP_isRow, eP_sz, eP_0, eP_1, eP_2, eP_3, eI_isRow, eI_sz, eI_0, eU16_isRow, eU16_sz, eU16_0, g12, g13, g17]
        refine ⟨fun hin => ?_, fun hin => ?_⟩
        · have hc := (effS_inv hpre i (by omega)).1
          have hw := hpre i (by omega)
          refine ⟨by omega, by omega, ?_⟩
          have e1 : IntKind.i64.wrap ((i : Int) + 1) = ((i + 1 : Nat) : Int) := by rw [wrapI (by omega) (by omega)]; rfl
          have e2 : IntKind.i64.wrap (((effS weightsL i).1 : Int) + 1) = (((effS weightsL i).1 + 1 : Nat) : Int) := by rw [wrapI (by omega) (by omega)]; rfl
          rw [wrapI (n := weightsL.getD i eU16.dflt) (by omega) (by omega), e1, e2]
          refine ⟨fun h0 => ⟨⟨i + 1, by omega⟩, ⟨?_, ?_, ?_, rfl⟩, by simp only; omega⟩, fun h0 => ⟨fun h1 => ⟨⟨i + 1, by omega⟩, ⟨?_, ?_, ?_, rfl⟩, by simp only; omega⟩, fun h1 => ⟨⟨i + 1, by omega⟩, ⟨?_, ?_, ?_, rfl⟩, by simp only; omega⟩⟩⟩
          all_goals simp only
          · rw [effS_step0 h0]
          · rw [effS_step0 h0]
          · rw [effS_step0 h0]
          · rw [effS_step1 rfl h0 (by omega)]
          · rw [effS_step1 rfl h0 (by omega)]
          · rw [effS_step1 rfl h0 (by omega)]
          · rw [effS_step2 rfl h0 (by omega)]
          · rw [effS_step2 rfl h0 (by omega)]
          · rw [effS_step2 rfl h0 (by omega)]
        · obtain rfl : i = weightsL.length := by omega
          have hc := (effS_inv hpre weightsL.length (by omega)).1
          have hL := eff_law (ws := weightsL) (by omega) hpre
          split at hL
          · rename_i h0
            rw [hL, h0]
            simp
          · rename_i h0
            obtain ⟨N, D, e, a1, a2, a3, a4, a5⟩ := hL
            rw [e]
            have hb := mul_bd (a := ((effS weightsL weightsL.length).1 : Int)) (b := D) (A := 40) (B := 1000000000000000) (by omega) (by omega) (by omega) a3
            rw [wrapI (n := ((effS weightsL weightsL.length).1 : Int) * D) (by omega) (by omega)]
            refine ⟨fun h => by omega, fun _ => ⟨⟨⟨⟨rfl, a1⟩, a2⟩, a4⟩, ?_⟩⟩
            show (N == _) = _
            cases he : (effS weightsL weightsL.length).2.2 with
            | true => rw [beq_iff_eq]; exact a5.2 he
            | false => rw [beq_eq_false_iff_ne]; intro h; rw [a5.1 h] at he; cases he
    · cases hg_
  · cases hg_
/-- wayfinder/wayfinderlaw21.ParticleShares -/
def g3 : Con := fun args_ E_ nn_ => match args_ with
  | [.c (.n weights), .c (.v (.int .i64 n)), .c (.v (.int .i64 u))] => (match rowOf E_ weights with
    | some (weights_n, weights_s, weights_f) => some (.q (isRow eU16 weights_n weights_s weights_f ∧ (∀ k, k < ((decL eU16 weights_n weights_f)).length → 0 ≤ ((decL eU16 weights_n weights_f)).getD k eU16.dflt ∧ ((decL eU16 weights_n weights_f)).getD k eU16.dflt ≤ 65535) ∧ -9223372036854775808 ≤ n ∧ n ≤ 9223372036854775807 ∧ -9223372036854775808 ≤ u ∧ u ≤ 9223372036854775807) (.o (.c (.v (.bool (true))))))
    | none => none)
  | _ => none
theorem c3 : COk Try.prog 3 g3 := by
  refine cok_q Try.func3 x3_ok (by kernel_rfl) (cok_tab (cok_cons c12 (cok_cons c13 (cok_cons c14 (cok_cons c16 (cok_cons c15 cok_nil)))))) ?_
  intro args_ E_ nn_ cr_ hg_
  unfold g3 at hg_
  split at hg_
  · rename_i weights n u
    split at hg_
    · rename_i weights_n weights_s weights_f h_weights
      cases hg_
      refine ⟨_, _, rfl, 1, [weights], [.c (.n 0), .c (.v (.int .i64 n)), .c (.v (.int .i64 u))], [(0, .ro (decL eU16 weights_n weights_f).length eU16.sz (rowF eU16 (decL eU16 weights_n weights_f)))], .o (.c (.v (.bool (true)))), rfl, rfl, by simp only [sc1L, sc1, scL, SC.sc, scV, scEnt, scE, rowF_scT, upto, Nat.reduceLT, Nat.reduceAdd, and_self, eP_eta, eP_isRow, eP_sz, eP_0, eP_1, eP_2, eP_3, eI_isRow, eI_sz, eI_0, eU16_isRow, eU16_sz, eU16_0], by simp only [sc1L, sc1, scL, SC.sc, scV, scEnt, scE, rowF_scT, upto, Nat.reduceLT, Nat.reduceAdd, and_self, eP_eta, eP_isRow, eP_sz, eP_0, eP_1, eP_2, eP_3, eI_isRow, eI_sz, eI_0, eU16_isRow, eU16_sz, eU16_0], by simp only [sc1L, sc1, scL, SC.sc, scV, scEnt, scE, rowF_scT, upto, Nat.reduceLT, Nat.reduceAdd, and_self, eP_eta, eP_isRow, eP_sz, eP_0, eP_1, eP_2, eP_3, eI_isRow, eI_sz, eI_0, eU16_isRow, eU16_sz, eU16_0], rfl, ⟨inE0_row h_weights, trivial⟩, rfl, ?_⟩
      intro hpre hlen
      obtain ⟨i_weights, hpre⟩ := hpre
      refine ⟨⟨inE_row h_weights i_weights, trivial⟩, ?_⟩
      have z_weights := lens_row (E := eU16) hlen h_weights
      clear i_weights
      generalize decL eU16 weights_n weights_f = weightsL at *
      clear h_weights
      simp (config := {maxSteps := 10000000}) only [x3, vcF, env0, vcC_skip, vcC_regT, vcC_regF, vcC_regD, vcC_seq, vcC_cond, vcC_block, vcC_loop, vcC_exit, vcC_ret, vcOps_nil, vcOps_cons, kSeq_norm, kSeq_ex, kSeq_ret, kBlock_norm, kBlock_ex, kBlock_ret, kRet_ex, kRet_norm, kRet_ret, kLoop_norm, kLoop_ex, kLoop_ret, fitQ_app, eqQ_app, vcOpsQ, vcOp, vcOpG, vcOp1, vcNil, vcEff, evQ, evQ0, evTup, tupOf, guardOf, rd, rds, lk, opQ, qMv, qBuild, qLoad1, qLoadN, qFld, qPart1, qPartN, qIx1, qIxN, qIxA, qIxS, qBin, qBinb, qEqA, qUn, qConv, qMin, qMax, qLenS, qNil, fin, evPick, evCR, evExt, recEff, effE, eBox, eAlloc, eStore, eCall, eSlit, eMks, eSlc, eSlcO, eApp, lims, takeI, rowV, rowOf, boxOf, reach, reachB, resE, ids1L, S1.ids, SC.ids, idsL, SV.ids, memN, pushR, pushN, usesX, readsX, slotsL, XO.slots, vcD, vcDgo, recOf, Rec.foot, nRes, keys, vcCond, tab, plain, rets, ret1, retV, St.put, constS, nth, takeAt, setAt, fillS, ups, oks, okcs, S1.ok, SC.ok, Value.oneCell', S1.cells, binI, isShift, eqCells, eqC, sc1L, sc1, scL, SC.sc, scV, scEnv, scEnt, scE, Le, LeB, bndOf, bindEnv, bindEnt, bindV, bind1, bind1L, bindL, bindC, imgB, bndOk, leEnv, leEnt, leAt, leE, nilE, imgs, outN, nodupN, mapEq, SC.sub, subL, S1.sub, sub1L, SV.sub, upto, mkI, keepS, idsEnv, keepN, rowF_scT, rowEq_rowF, rowEq_lit, okRow_rowF, okRow_lit, lit_scF, isRow_rowF, isRow_nil, decL_rowF, decL_nil, rowF_renf, List.getD_cons_zero, List.getD_cons_succ, sg, SC.ren, renL, S1.ren, ren1L, SV.ren, Ent.ren, renE, List.map_cons, List.map_nil, List.length_cons, List.length_nil, List.nil_append, List.cons_append, List.append_nil, Option.getD_none, Option.getD_some, Int.toNat_natCast, Int.toNat_zero, Nat.reduceAdd, Nat.reduceSub, Nat.reduceLeDiff, Nat.reduceEqDiff, Nat.reduceBEq, Nat.reduceMul, Nat.reduceLT, Nat.add_zero, Nat.zero_add, Nat.le_refl, Nat.zero_le, Nat.sub_zero, Nat.sub_self, Nat.lt_irrefl, Nat.add_lt_add_iff_left, Nat.add_eq_zero_iff, reduceIte, reduceCtorEq, and_true, true_and, and_self, and_false, false_and, forall_const, Bool.false_eq_true, Bool.true_eq_false, false_or, or_false, or_true, true_or, cond_true, cond_false, beq_self_eq_true, beq_true, beq_false, bne_iff_ne, bne_eq_false_iff_eq, beq_iff_eq, beq_eq_false_iff_ne, true_implies, false_implies, imp_self, implies_true, Bool.not_not, Bool.and_true, Bool.true_and, Bool.and_false, Bool.false_and, Bool.not_true, Bool.not_false, Bool.true_or, Bool.or_true, Bool.false_or, Bool.or_false, Bool.cond_false_right, Bool.cond_true_left, Bool.cond_true_right, Bool.cond_false_left, SV.o.injEq, SV.t.injEq, SV.g.injEq, S1.c.injEq, S1.a.injEq, SC.v.injEq, SC.n.injEq, SC.p.injEq, Value.bool.injEq, Value.int.injEq, List.cons.injEq, Option.some.injEq, Prod.mk.injEq, decide_eq_true_eq, gt_iff_lt, ge_iff_le, ne_eq, Int.reduceLE, Int.cast_ofNat_Int, Int.reduceLT, Int.reduceEq, Int.reduceMul, Int.reduceAdd, Int.reduceSub, Int.reduceNeg, Int.reduceToNat, Int.reduceNe, Int.natCast_nonneg, Int.ofNat_lt, Int.ofNat_le, not_false_eq_true, not_true_eq_false, Bool.not_eq_true', Bool.not_eq_false', Bool.or_eq_true, Bool.and_eq_true, Bool.or_eq_false_iff, decide_eq_false_iff_not, Int.zero_sub, and_imp, bne_self_eq_false, Bool.bne_true, Bool.bne_false, Int.sub_zero, eP_eta, eP_isRow, eP_sz, eP_0, eP_1, eP_2, eP_3, eI_isRow, eI_sz, eI_0, eU16_isRow, eU16_sz, eU16_0, g12, g13, g14, g16, g15]
      intro h40
      obtain ⟨hw, hn1, hn2, hu1, hu2⟩ := hpre
      have hv := flockL_valid (ws := weightsL) (by omega) hw
      have htt : totalL (flockL weightsL) = sumW (flockL weightsL) := by unfold totalL; rw [if_pos hv]
      have hsb := sum_bd hv
      obtain ⟨N, hN1, hN2, hN3⟩ : ∃ N : Nat, IntKind.i64.wrap (1 + n % 60) = N ∧ 1 ≤ N ∧ N ≤ 60 := ⟨(1 + n % 60).toNat, by rw [wrapI (by omega) (by omega)]; omega, by omega, by omega⟩
      have hfl := flockL_len weightsL
      rw [hN1, htt]
      refine ⟨⟨by omega, hw⟩, ⟨hn1, hn2⟩, fun h0 => ⟨by omega, ?_⟩, fun h0 => ⟨fun h => by omega, fun h => ⟨by omega, by omega, ?_⟩⟩⟩
      · unfold resE_
        rw [hv, htt, h0, if_neg (by simp), if_neg (by omega), if_pos rfl]
      · obtain ⟨U, hU⟩ : ∃ U, u % sumW (flockL weightsL) = U := ⟨_, rfl⟩
        have hU0 : 0 ≤ U ∧ U < sumW (flockL weightsL) := by rw [← hU]; exact ⟨Int.emod_nonneg _ h0, Int.emod_lt_of_pos _ (by omega)⟩
        rw [hU]
        have hE : resE_ (flockL weightsL) N U = 0 := by
          unfold resE_
          rw [hv, htt, if_neg (by simp), if_neg (by omega), if_neg h0, if_neg (by omega)]
        have hL : resL (flockL weightsL) N U = resK (flockL weightsL) N U N := by unfold resL; rw [if_pos hE]; rfl
        rw [hE, hL, resK_len]
        have hpos : 0 < (flockL weightsL).length := by
          rcases Nat.eq_zero_or_pos (flockL weightsL).length with h1 | h1
          · exfalso; apply h0; unfold sumW; rw [h1]; rfl
          · exact h1
        refine ⟨fun h => by simp at h, fun _ _ => ⟨by omega, ?_⟩⟩
        refine vcLoop_upd (α := {i : Nat // i ≤ N}) [1, 7, 8, 11, 13] 0 (fun s => [(14, .o (.c (.v (.int .i64 (s.1 : Nat)))))]) (fun s => [(3, .own (takL (flockL weightsL) N U s.1).length 1 (rowF eI (takL (flockL weightsL) N U s.1)) 3)]) (fun s => N - s.1) ⟨0, Nat.zero_le _⟩ ?_ ?_
        · simp only [vcF, env0, vcC_skip, vcC_regT, vcC_regF, vcC_regD, vcC_seq, vcC_cond, vcC_block, vcC_loop, vcC_exit, vcC_ret, vcOps_nil, vcOps_cons, kSeq_norm, kSeq_ex, kSeq_ret, kBlock_norm, kBlock_ex, kBlock_ret, kRet_ex, kRet_norm, kRet_ret, kLoop_norm, kLoop_ex, kLoop_ret, fitQ_app, eqQ_app, vcOpsQ, vcOp, vcOpG, vcOp1, vcNil, vcEff, evQ, evQ0, evTup, tupOf, guardOf, rd, rds, lk, opQ, qMv, qBuild, qLoad1, qLoadN, qFld, qPart1, qPartN, qIx1, qIxN, qIxA, qIxS, qBin, qBinb, qEqA, qUn, qConv, qMin, qMax, qLenS, qNil, fin, evPick, evCR, evExt, recEff, effE, eBox, eAlloc, eStore, eCall, eSlit, eMks, eSlc, eSlcO, eApp, lims, takeI, rowV, rowOf, boxOf, reach, reachB, resE, ids1L, S1.ids, SC.ids, idsL, SV.ids, memN, pushR, pushN, usesX, readsX, slotsL, XO.slots, vcD, vcDgo, recOf, Rec.foot, nRes, keys, vcCond, tab, plain, rets, ret1, retV, St.put, constS, nth, takeAt, setAt, fillS, ups, oks, okcs, S1.ok, SC.ok, Value.oneCell', S1.cells, binI, isShift, eqCells, eqC, sc1L, sc1, scL, SC.sc, scV, scEnv, scEnt, scE, Le, LeB, bndOf, bindEnv, bindEnt, bindV, bind1, bind1L, bindL, bindC, imgB, bndOk, leEnv, leEnt, leAt, leE, nilE, imgs, outN, nodupN, mapEq, SC.sub, subL, S1.sub, sub1L, SV.sub, upto, mkI, keepS, idsEnv, keepN, rowF_scT, rowEq_rowF, rowEq_lit, okRow_rowF, okRow_lit, lit_scF, isRow_rowF, isRow_nil, decL_rowF, decL_nil, rowF_renf, List.getD_cons_zero, List.getD_cons_succ, sg, SC.ren, renL, S1.ren, ren1L, SV.ren, Ent.ren, renE, List.map_cons, List.map_nil, List.length_cons, List.length_nil, List.nil_append, List.cons_append, List.append_nil, Option.getD_none, Option.getD_some, Int.toNat_natCast, Int.toNat_zero, Nat.reduceAdd, Nat.reduceSub, Nat.reduceLeDiff, Nat.reduceEqDiff, Nat.reduceBEq, Nat.reduceMul, Nat.reduceLT, Nat.add_zero, Nat.zero_add, Nat.le_refl, Nat.zero_le, Nat.sub_zero, Nat.sub_self, Nat.lt_irrefl, Nat.add_lt_add_iff_left, Nat.add_eq_zero_iff, reduceIte, reduceCtorEq, and_true, true_and, and_self, and_false, false_and, forall_const, Bool.false_eq_true, Bool.true_eq_false, false_or, or_false, or_true, true_or, cond_true, cond_false, beq_self_eq_true, beq_true, beq_false, bne_iff_ne, bne_eq_false_iff_eq, beq_iff_eq, beq_eq_false_iff_ne, true_implies, false_implies, imp_self, implies_true, Bool.not_not, Bool.and_true, Bool.true_and, Bool.and_false, Bool.false_and, Bool.not_true, Bool.not_false, Bool.true_or, Bool.or_true, Bool.false_or, Bool.or_false, Bool.cond_false_right, Bool.cond_true_left, Bool.cond_true_right, Bool.cond_false_left, SV.o.injEq, SV.t.injEq, SV.g.injEq, S1.c.injEq, S1.a.injEq, SC.v.injEq, SC.n.injEq, SC.p.injEq, Value.bool.injEq, Value.int.injEq, List.cons.injEq, Option.some.injEq, Prod.mk.injEq, decide_eq_true_eq, gt_iff_lt, ge_iff_le, ne_eq, Int.reduceLE, Int.cast_ofNat_Int, Int.reduceLT, Int.reduceEq, Int.reduceMul, Int.reduceAdd, Int.reduceSub, Int.reduceNeg, Int.reduceToNat, Int.reduceNe, Int.natCast_nonneg, Int.ofNat_lt, Int.ofNat_le, not_false_eq_true, not_true_eq_false, Bool.not_eq_true', Bool.not_eq_false', Bool.or_eq_true, Bool.and_eq_true, Bool.or_eq_false_iff, decide_eq_false_iff_not, Int.zero_sub, and_imp, bne_self_eq_false, Bool.bne_true, Bool.bne_false, Int.sub_zero, eP_eta, eP_isRow, eP_sz, eP_0, eP_1, eP_2, eP_3, eI_isRow, eI_sz, eI_0, eU16_isRow, eU16_sz, eU16_0, g12, g13, g14, g16, g15, takL_len, takL_zero]
          refine ⟨by simp, fun e j he hj => ?_⟩
          rw [rowF_sub]
          exact replF_at eI 0 rfl he
        · rintro ⟨i, hi⟩
          try simp only at hi
          simp only [x3L0, vcF, env0, vcC_skip, vcC_regT, vcC_regF, vcC_regD, vcC_seq, vcC_cond, vcC_block, vcC_loop, vcC_exit, vcC_ret, vcOps_nil, vcOps_cons, kSeq_norm, kSeq_ex, kSeq_ret, kBlock_norm, kBlock_ex, kBlock_ret, kRet_ex, kRet_norm, kRet_ret, kLoop_norm, kLoop_ex, kLoop_ret, fitQ_app, eqQ_app, vcOpsQ, vcOp, vcOpG, vcOp1, vcNil, vcEff, evQ, evQ0, evTup, tupOf, guardOf, rd, rds, lk, opQ, qMv, qBuild, qLoad1, qLoadN, qFld, qPart1, qPartN, qIx1, qIxN, qIxA, qIxS, qBin, qBinb, qEqA, qUn, qConv, qMin, qMax, qLenS, qNil, fin, evPick, evCR, evExt, recEff, effE, eBox, eAlloc, eStore, eCall, eSlit, eMks, eSlc, eSlcO, eApp, lims, takeI, rowV, rowOf, boxOf, reach, reachB, resE, ids1L, S1.ids, SC.ids, idsL, SV.ids, memN, pushR, pushN, usesX, readsX, slotsL, XO.slots, vcD, vcDgo, recOf, Rec.foot, nRes, keys, vcCond, tab, plain, rets, ret1, retV, St.put, constS, nth, takeAt, setAt, fillS, ups, oks, okcs, S1.ok, SC.ok, Value.oneCell', S1.cells, binI, isShift, eqCells, eqC, sc1L, sc1, scL, SC.sc, scV, scEnv, scEnt, scE, Le, LeB, bndOf, bindEnv, bindEnt, bindV, bind1, bind1L, bindL, bindC, imgB, bndOk, leEnv, leEnt, leAt, leE, nilE, imgs, outN, nodupN, mapEq, SC.sub, subL, S1.sub, sub1L, SV.sub, upto, mkI, keepS, idsEnv, keepN, rowF_scT, rowEq_rowF, rowEq_lit, okRow_rowF, okRow_lit, lit_scF, isRow_rowF, isRow_nil, decL_rowF, decL_nil, rowF_renf, List.getD_cons_zero, List.getD_cons_succ, sg, SC.ren, renL, S1.ren, ren1L, SV.ren, Ent.ren, renE, List.map_cons, List.map_nil, List.length_cons, List.length_nil, List.nil_append, List.cons_append, List.append_nil, Option.getD_none, Option.getD_some, Int.toNat_natCast, Int.toNat_zero, Nat.reduceAdd, Nat.reduceSub, Nat.reduceLeDiff, Nat.reduceEqDiff, Nat.reduceBEq, Nat.reduceMul, Nat.reduceLT, Nat.add_zero, Nat.zero_add, Nat.le_refl, Nat.zero_le, Nat.sub_zero, Nat.sub_self, Nat.lt_irrefl, Nat.add_lt_add_iff_left, Nat.add_eq_zero_iff, reduceIte, reduceCtorEq, and_true, true_and, and_self, and_false, false_and, forall_const, Bool.false_eq_true, Bool.true_eq_false, false_or, or_false, or_true, true_or, cond_true, cond_false, beq_self_eq_true, beq_true, beq_false, bne_iff_ne, bne_eq_false_iff_eq, beq_iff_eq, beq_eq_false_iff_ne, true_implies, false_implies, imp_self, implies_true, Bool.not_not, Bool.and_true, Bool.true_and, Bool.and_false, Bool.false_and, Bool.not_true, Bool.not_false, Bool.true_or, Bool.or_true, Bool.false_or, Bool.or_false, Bool.cond_false_right, Bool.cond_true_left, Bool.cond_true_right, Bool.cond_false_left, SV.o.injEq, SV.t.injEq, SV.g.injEq, S1.c.injEq, S1.a.injEq, SC.v.injEq, SC.n.injEq, SC.p.injEq, Value.bool.injEq, Value.int.injEq, List.cons.injEq, Option.some.injEq, Prod.mk.injEq, decide_eq_true_eq, gt_iff_lt, ge_iff_le, ne_eq, Int.reduceLE, Int.cast_ofNat_Int, Int.reduceLT, Int.reduceEq, Int.reduceMul, Int.reduceAdd, Int.reduceSub, Int.reduceNeg, Int.reduceToNat, Int.reduceNe, Int.natCast_nonneg, Int.ofNat_lt, Int.ofNat_le, not_false_eq_true, not_true_eq_false, Bool.not_eq_true', Bool.not_eq_false', Bool.or_eq_true, Bool.and_eq_true, Bool.or_eq_false_iff, decide_eq_false_iff_not, Int.zero_sub, and_imp, bne_self_eq_false, Bool.bne_true, Bool.bne_false, Int.sub_zero, eP_eta, eP_isRow, eP_sz, eP_0, eP_1, eP_2, eP_3, eI_isRow, eI_sz, eI_0, eU16_isRow, eU16_sz, eU16_0, g12, g13, g14, g16, g15, takL_len]
          refine ⟨fun hin => ?_, fun hin => ?_⟩
          · have hm := mark_bd (t := sumW (flockL weightsL)) (u := U) hin hU0
            have hp := pick_spec (L := flockL weightsL) (n := N) hm.2 hpos
            have hre := flock_res (ws := weightsL) (n := N) (u := U) hin (by omega)
            have hset := takL_succ (L := flockL weightsL) (n := N) (u := U) (i := i) hv (by omega) hm.2 hpos hm.1
            have htb := tak_bd (L := flockL weightsL) (n := N) (u := U) (i := i) hv (by omega) hp.1
            have hup := updF_row (E := eI) (L := takL (flockL weightsL) N U i) (e0 := pickI (flockL weightsL) N (U + i * sumW (flockL weightsL))) (j0 := 0) (x := (takL (flockL weightsL) N U i).getD (pickI (flockL weightsL) N (U + i * sumW (flockL weightsL))) eI.dflt + 1) (cs := [SC.v (Value.int IntKind.i64 ((takL (flockL weightsL) N U i).getD (pickI (flockL weightsL) N (U + i * sumW (flockL weightsL))) eI.dflt + 1))]) (by rw [takL_len]; exact hp.1) rfl (by simp [eI])
            have hmono : 0 < (i : Int) → (pickI (flockL weightsL) N (U + ((i - 1 : Nat) : Int) * sumW (flockL weightsL))) ≤ pickI (flockL weightsL) N (U + i * sumW (flockL weightsL)) := fun h => by
              refine pick_mono ?_ hm.2 hpos
              have : ((i - 1 : Nat) : Int) * sumW (flockL weightsL) ≤ (i : Int) * sumW (flockL weightsL) := Int.mul_le_mul_of_nonneg_right (by omega) (by omega)
              omega
            have hre1 : 0 < (i : Int) → (resK (flockL weightsL) N U N).getD (IntKind.i64.wrap ((i : Int) - 1)).toNat eP.dflt = ⟨(pickI (flockL weightsL) N (U + ((i - 1 : Nat) : Int) * sumW (flockL weightsL)) : Nat), 0, 0, 1⟩ := fun h => by
              have e : (IntKind.i64.wrap ((i : Int) - 1)).toNat = i - 1 := by rw [wrapI (by omega) (by omega)]; omega
              rw [e]
              have hm1 := mark_bd (t := sumW (flockL weightsL)) (u := U) (i := i - 1) (N := N) (by omega) hU0
              have hp1 := pick_spec (L := flockL weightsL) (n := N) hm1.2 hpos
              exact flock_res (by omega) (by omega)
            rw [hre]
            rw [← takL_at hp.1] at htb
            generalize pickI (flockL weightsL) N (U + i * sumW (flockL weightsL)) = p at *
            simp only [Int.toNat_natCast] at *
            rw [wrapI (n := (takL (flockL weightsL) N U i).getD p eI.dflt + 1) (by omega) (by omega)]
            refine ⟨hin, hin, fun _ _ => ⟨⟨by omega, by omega⟩, hin⟩, fun _ _ => ⟨⟨by omega, by omega⟩, hin⟩, fun _ _ _ hi0 => ⟨⟨⟨⟨by omega, by omega⟩, trivial⟩, hi0⟩, by rw [wrapI (by omega) (by omega)]; omega⟩, fun _ _ _ hi0 => ⟨⟨⟨⟨by omega, by omega⟩, trivial⟩, hi0⟩, by rw [wrapI (by omega) (by omega)]; omega⟩, fun _ _ _ => ⟨⟨⟨by omega, by omega⟩, trivial⟩, fun hi0 => ⟨⟨⟨by omega, by omega⟩, trivial⟩, hi0⟩⟩, ?_, ?_⟩
            · rintro (((h | h) | h) | ⟨hi0, h⟩)
              · omega
              · omega
              · exact h trivial
              · rw [hre1 hi0] at h
                have := hmono hi0
                simp only at h
                omega
            · intro _ _ _ _
              refine ⟨⟨by omega, by omega⟩, by omega, ⟨by omega, by omega⟩, by omega, ⟨⟨i + 1, by omega⟩, ⟨by rw [wrapI (by omega) (by omega)]; rfl, ?_⟩, by simp only; omega⟩⟩
              simp only
              rw [hup, hset]
              exact (rowEq_rowF _ _ _ _).2 trivial
          · have hiN : i = N := by omega
            subst hiN
            refine vcLoop_upd (α := {i : Nat // i ≤ (flockL weightsL).length}) [1, 7, 8, 13] 0 (fun s => [(16, .o (.c (.v (.int .i64 (s.1 : Nat)))))]) (fun s => []) (fun s => (flockL weightsL).length - s.1) ⟨0, Nat.zero_le _⟩ ?_ ?_
            · simp only [vcF, env0, vcC_skip, vcC_regT, vcC_regF, vcC_regD, vcC_seq, vcC_cond, vcC_block, vcC_loop, vcC_exit, vcC_ret, vcOps_nil, vcOps_cons, kSeq_norm, kSeq_ex, kSeq_ret, kBlock_norm, kBlock_ex, kBlock_ret, kRet_ex, kRet_norm, kRet_ret, kLoop_norm, kLoop_ex, kLoop_ret, fitQ_app, eqQ_app, vcOpsQ, vcOp, vcOpG, vcOp1, vcNil, vcEff, evQ, evQ0, evTup, tupOf, guardOf, rd, rds, lk, opQ, qMv, qBuild, qLoad1, qLoadN, qFld, qPart1, qPartN, qIx1, qIxN, qIxA, qIxS, qBin, qBinb, qEqA, qUn, qConv, qMin, qMax, qLenS, qNil, fin, evPick, evCR, evExt, recEff, effE, eBox, eAlloc, eStore, eCall, eSlit, eMks, eSlc, eSlcO, eApp, lims, takeI, rowV, rowOf, boxOf, reach, reachB, resE, ids1L, S1.ids, SC.ids, idsL, SV.ids, memN, pushR, pushN, usesX, readsX, slotsL, XO.slots, vcD, vcDgo, recOf, Rec.foot, nRes, keys, vcCond, tab, plain, rets, ret1, retV, St.put, constS, nth, takeAt, setAt, fillS, ups, oks, okcs, S1.ok, SC.ok, Value.oneCell', S1.cells, binI, isShift, eqCells, eqC, sc1L, sc1, scL, SC.sc, scV, scEnv, scEnt, scE, Le, LeB, bndOf, bindEnv, bindEnt, bindV, bind1, bind1L, bindL, bindC, imgB, bndOk, leEnv, leEnt, leAt, leE, nilE, imgs, outN, nodupN, mapEq, SC.sub, subL, S1.sub, sub1L, SV.sub, upto, mkI, keepS, idsEnv, keepN, rowF_scT, rowEq_rowF, rowEq_lit, okRow_rowF, okRow_lit, lit_scF, isRow_rowF, isRow_nil, decL_rowF, decL_nil, rowF_renf, List.getD_cons_zero, List.getD_cons_succ, sg, SC.ren, renL, S1.ren, ren1L, SV.ren, Ent.ren, renE, List.map_cons, List.map_nil, List.length_cons, List.length_nil, List.nil_append, List.cons_append, List.append_nil, Option.getD_none, Option.getD_some, Int.toNat_natCast, Int.toNat_zero, Nat.reduceAdd, Nat.reduceSub, Nat.reduceLeDiff, Nat.reduceEqDiff, Nat.reduceBEq, Nat.reduceMul, Nat.reduceLT, Nat.add_zero, Nat.zero_add, Nat.le_refl, Nat.zero_le, Nat.sub_zero, Nat.sub_self, Nat.lt_irrefl, Nat.add_lt_add_iff_left, Nat.add_eq_zero_iff, reduceIte, reduceCtorEq, and_true, true_and, and_self, and_false, false_and, forall_const, Bool.false_eq_true, Bool.true_eq_false, false_or, or_false, or_true, true_or, cond_true, cond_false, beq_self_eq_true, beq_true, beq_false, bne_iff_ne, bne_eq_false_iff_eq, beq_iff_eq, beq_eq_false_iff_ne, true_implies, false_implies, imp_self, implies_true, Bool.not_not, Bool.and_true, Bool.true_and, Bool.and_false, Bool.false_and, Bool.not_true, Bool.not_false, Bool.true_or, Bool.or_true, Bool.false_or, Bool.or_false, Bool.cond_false_right, Bool.cond_true_left, Bool.cond_true_right, Bool.cond_false_left, SV.o.injEq, SV.t.injEq, SV.g.injEq, S1.c.injEq, S1.a.injEq, SC.v.injEq, SC.n.injEq, SC.p.injEq, Value.bool.injEq, Value.int.injEq, List.cons.injEq, Option.some.injEq, Prod.mk.injEq, decide_eq_true_eq, gt_iff_lt, ge_iff_le, ne_eq, Int.reduceLE, Int.cast_ofNat_Int, Int.reduceLT, Int.reduceEq, Int.reduceMul, Int.reduceAdd, Int.reduceSub, Int.reduceNeg, Int.reduceToNat, Int.reduceNe, Int.natCast_nonneg, Int.ofNat_lt, Int.ofNat_le, not_false_eq_true, not_true_eq_false, Bool.not_eq_true', Bool.not_eq_false', Bool.or_eq_true, Bool.and_eq_true, Bool.or_eq_false_iff, decide_eq_false_iff_not, Int.zero_sub, and_imp, bne_self_eq_false, Bool.bne_true, Bool.bne_false, Int.sub_zero, eP_eta, eP_isRow, eP_sz, eP_0, eP_1, eP_2, eP_3, eI_isRow, eI_sz, eI_0, eU16_isRow, eU16_sz, eU16_0, g12, g13, g14, g16, g15]
            · rintro ⟨k, hk⟩
              try simp only at hk
              simp only [x3L1, vcF, env0, vcC_skip, vcC_regT, vcC_regF, vcC_regD, vcC_seq, vcC_cond, vcC_block, vcC_loop, vcC_exit, vcC_ret, vcOps_nil, vcOps_cons, kSeq_norm, kSeq_ex, kSeq_ret, kBlock_norm, kBlock_ex, kBlock_ret, kRet_ex, kRet_norm, kRet_ret, kLoop_norm, kLoop_ex, kLoop_ret, fitQ_app, eqQ_app, vcOpsQ, vcOp, vcOpG, vcOp1, vcNil, vcEff, evQ, evQ0, evTup, tupOf, guardOf, rd, rds, lk, opQ, qMv, qBuild, qLoad1, qLoadN, qFld, qPart1, qPartN, qIx1, qIxN, qIxA, qIxS, qBin, qBinb, qEqA, qUn, qConv, qMin, qMax, qLenS, qNil, fin, evPick, evCR, evExt, recEff, effE, eBox, eAlloc, eStore, eCall, eSlit, eMks, eSlc, eSlcO, eApp, lims, takeI, rowV, rowOf, boxOf, reach, reachB, resE, ids1L, S1.ids, SC.ids, idsL, SV.ids, memN, pushR, pushN, usesX, readsX, slotsL, XO.slots, vcD, vcDgo, recOf, Rec.foot, nRes, keys, vcCond, tab, plain, rets, ret1, retV, St.put, constS, nth, takeAt, setAt, fillS, ups, oks, okcs, S1.ok, SC.ok, Value.oneCell', S1.cells, binI, isShift, eqCells, eqC, sc1L, sc1, scL, SC.sc, scV, scEnv, scEnt, scE, Le, LeB, bndOf, bindEnv, bindEnt, bindV, bind1, bind1L, bindL, bindC, imgB, bndOk, leEnv, leEnt, leAt, leE, nilE, imgs, outN, nodupN, mapEq, SC.sub, subL, S1.sub, sub1L, SV.sub, upto, mkI, keepS, idsEnv, keepN, rowF_scT, rowEq_rowF, rowEq_lit, okRow_rowF, okRow_lit, lit_scF, isRow_rowF, isRow_nil, decL_rowF, decL_nil, rowF_renf, List.getD_cons_zero, List.getD_cons_succ, sg, SC.ren, renL, S1.ren, ren1L, SV.ren, Ent.ren, renE, List.map_cons, List.map_nil, List.length_cons, List.length_nil, List.nil_append, List.cons_append, List.append_nil, Option.getD_none, Option.getD_some, Int.toNat_natCast, Int.toNat_zero, Nat.reduceAdd, Nat.reduceSub, Nat.reduceLeDiff, Nat.reduceEqDiff, Nat.reduceBEq, Nat.reduceMul, Nat.reduceLT, Nat.add_zero, Nat.zero_add, Nat.le_refl, Nat.zero_le, Nat.sub_zero, Nat.sub_self, Nat.lt_irrefl, Nat.add_lt_add_iff_left, Nat.add_eq_zero_iff, reduceIte, reduceCtorEq, and_true, true_and, and_self, and_false, false_and, forall_const, Bool.false_eq_true, Bool.true_eq_false, false_or, or_false, or_true, true_or, cond_true, cond_false, beq_self_eq_true, beq_true, beq_false, bne_iff_ne, bne_eq_false_iff_eq, beq_iff_eq, beq_eq_false_iff_ne, true_implies, false_implies, imp_self, implies_true, Bool.not_not, Bool.and_true, Bool.true_and, Bool.and_false, Bool.false_and, Bool.not_true, Bool.not_false, Bool.true_or, Bool.or_true, Bool.false_or, Bool.or_false, Bool.cond_false_right, Bool.cond_true_left, Bool.cond_true_right, Bool.cond_false_left, SV.o.injEq, SV.t.injEq, SV.g.injEq, S1.c.injEq, S1.a.injEq, SC.v.injEq, SC.n.injEq, SC.p.injEq, Value.bool.injEq, Value.int.injEq, List.cons.injEq, Option.some.injEq, Prod.mk.injEq, decide_eq_true_eq, gt_iff_lt, ge_iff_le, ne_eq, Int.reduceLE, Int.cast_ofNat_Int, Int.reduceLT, Int.reduceEq, Int.reduceMul, Int.reduceAdd, Int.reduceSub, Int.reduceNeg, Int.reduceToNat, Int.reduceNe, Int.natCast_nonneg, Int.ofNat_lt, Int.ofNat_le, not_false_eq_true, not_true_eq_false, Bool.not_eq_true', Bool.not_eq_false', Bool.or_eq_true, Bool.and_eq_true, Bool.or_eq_false_iff, decide_eq_false_iff_not, Int.zero_sub, and_imp, bne_self_eq_false, Bool.bne_true, Bool.bne_false, Int.sub_zero, eP_eta, eP_isRow, eP_sz, eP_0, eP_1, eP_2, eP_3, eI_isRow, eI_sz, eI_0, eU16_isRow, eU16_sz, eU16_0, g12, g13, g14, g16, g15, takL_len]
              intro hin
              obtain ⟨a1, a2, a3⟩ := share_law (L := flockL weightsL) (n := i) (u := U) hv (by omega) hU0 hin
              have hw' := (valid_at hv hin).2
              have hb := mul_bd (a := (i : Int)) (b := ((flockL weightsL).getD k eP.dflt).W) (A := 60) (B := 1048576) (by omega) (by omega) hw'.1 hw'.2
              have hd : 0 ≤ (i : Int) * ((flockL weightsL).getD k eP.dflt).W / sumW (flockL weightsL) ∧ (i : Int) * ((flockL weightsL).getD k eP.dflt).W / sumW (flockL weightsL) ≤ (i : Int) * ((flockL weightsL).getD k eP.dflt).W := ⟨Int.ediv_nonneg hb.1 (by omega), Int.ediv_le_self _ hb.1⟩
              rw [wrapI (n := (i : Int) * ((flockL weightsL).getD k eP.dflt).W) (by omega) (by omega), Int.tdiv_eq_ediv_of_nonneg hb.1, wrapI (n := (i : Int) * ((flockL weightsL).getD k eP.dflt).W / sumW (flockL weightsL)) (by omega) (by omega), wrapI (n := (i : Int) * ((flockL weightsL).getD k eP.dflt).W / sumW (flockL weightsL) + 1) (by omega) (by omega), takL_at hin]
              generalize (i : Int) * ((flockL weightsL).getD k eP.dflt).W / sumW (flockL weightsL) = sh at *
              have b1 : ¬ takN (flockL weightsL) i U i k < sh := by omega
              have b2 : ¬ sh + 1 < takN (flockL weightsL) i U i k := by omega
              refine ⟨hin, hin, h0, hin, hin, fun _ => ⟨b1, hin⟩, fun _ => ⟨b1, hin⟩, fun _ _ => ⟨⟨b1, b2⟩, hin⟩, fun _ _ => ⟨⟨b1, b2⟩, hin⟩, fun _ _ h => ⟨⟨⟨b1, b2⟩, h⟩, hin⟩, fun _ _ h => ⟨⟨⟨b1, b2⟩, h⟩, hin⟩, fun _ _ => ⟨⟨b1, b2⟩, fun h => ⟨⟨b1, b2⟩, h⟩⟩, ?_, fun _ _ _ => ⟨⟨k + 1, by omega⟩, by rw [wrapI (by omega) (by omega)]; rfl, by simp only; omega⟩⟩
              rintro ((h | h) | ⟨h, h'⟩)
              · exact b1 h
              · exact b2 h
              · have := a3 h'; omega
    · cases hg_
  · cases hg_
end Go.Proofs.Ytgdglgcfmebonaa
