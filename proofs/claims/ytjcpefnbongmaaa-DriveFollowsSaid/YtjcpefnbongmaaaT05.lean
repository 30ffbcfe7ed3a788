/- Contracts. -/
import Derived.Test.YtjcpefnbongmaaaRows
import Derived.Test.YtjcpefnbongmaaaSx24
import Derived.Test.YtjcpefnbongmaaaP04
import Derived.KernelRfl
set_option linter.unusedVariables false
set_option linter.unusedSimpArgs false
set_option maxRecDepth 20000
namespace Go.Proofs.Ytjcpefnbongmaaa
open Go.Sx
open Go.Way
def x43 : XFn := ⟨15, (.seq (.reg false [⟨(some 6), .mv, [(.k (.bool false))], none⟩]) (.seq (.reg false [⟨(some 7), .mv, [(.t 0)], none⟩, ⟨(some 8), .mv, [(.t 1)], none⟩, ⟨(some 9), (.bin .geq), [(.t 7), (.t 8)], none⟩, ⟨(some 10), .mv, [(.t 9)], none⟩, ⟨(some 11), .mv, [(.t 0)], (some (10, true))⟩, ⟨(some 12), .mv, [(.t 2)], (some (10, true))⟩, ⟨(some 13), (.bin .leq), [(.t 11), (.t 12)], (some (10, true))⟩, ⟨(some 14), .pick, [(.t 10), (.t 13), (.k (.bool false))], none⟩, ⟨(some 6), .mv, [(.t 14)], none⟩]) .ret)), [(.s 6)]⟩
theorem x43_ok : xfn Try.prog Try.f43 = some x43 := by kernel_rfl
def x34 : XFn := ⟨10, (.seq (.reg false [⟨(some 4), .mv, [(.k (.bool false))], none⟩]) (.seq (.reg false [⟨(some 5), .mv, [(.t 0)], none⟩, ⟨(some 6), .mv, [(.t 1)], none⟩, ⟨(some 7), (.un .neg), [(.t 6)], none⟩, ⟨(some 8), .mv, [(.t 1)], none⟩, ⟨(some 9), (.call 43), [(.t 5), (.t 7), (.t 8)], none⟩, ⟨(some 4), .mv, [(.t 9)], none⟩]) .ret)), [(.s 4)]⟩
theorem x34_ok : xfn Try.prog Try.f34 = some x34 := by kernel_rfl
def x37 : XFn := ⟨11, (.seq (.reg false [⟨(some 1), (.box 57), [(.t 0)], none⟩, ⟨(some 2), .mv, [(.k (.bool false))], none⟩]) (.seq (.reg false [⟨(some 3), (.fld 0), [(.t 1)], none⟩, ⟨(some 4), .load1, [(.t 3)], none⟩, ⟨(some 5), (.call 34), [(.t 4), (.k (.int .i64 1048576))], none⟩, ⟨(some 6), .mv, [(.t 5)], none⟩, ⟨(some 7), (.fld 1), [(.t 1)], (some (6, true))⟩, ⟨(some 8), .load1, [(.t 7)], (some (6, true))⟩, ⟨(some 9), (.call 34), [(.t 8), (.k (.int .i64 1048576))], (some (6, true))⟩, ⟨(some 10), .pick, [(.t 6), (.t 9), (.k (.bool false))], none⟩, ⟨(some 2), .mv, [(.t 10)], none⟩]) .ret)), [(.s 2)]⟩
theorem x37_ok : xfn Try.prog Try.f37 = some x37 := by kernel_rfl
def x38 : XFn := ⟨8, (.seq (.reg false [⟨(some 1), (.box 23), [(.t 0)], none⟩, ⟨(some 2), (.alloc 57 [(.int .i64 0), (.int .i64 0)]), [], none⟩]) (.seq (.reg false [⟨(some 3), (.fld 0), [(.t 1)], none⟩, ⟨(some 4), .load1, [(.t 3)], none⟩, ⟨(some 5), (.fld 1), [(.t 1)], none⟩, ⟨(some 6), .load1, [(.t 5)], none⟩, ⟨(some 7), (.build [(.int .i64 0), (.int .i64 0)] [(0, 1), (1, 1)]), [(.t 4), (.t 6)], none⟩, ⟨none, (.store 2), [(.t 2), (.t 7)], none⟩]) .ret)), [(.bn 2 2)]⟩
theorem x38_ok : xfn Try.prog Try.f38 = some x38 := by kernel_rfl
def x33 : XFn := ⟨11, (.seq (.reg false [⟨(some 1), (.box 23), [(.t 0)], none⟩, ⟨(some 2), .mv, [(.k (.bool false))], none⟩]) (.seq (.reg false [⟨(some 3), (.loadN 3), [(.t 1)], none⟩, ⟨(some 4), (.call 38), [(.t 3)], none⟩, ⟨(some 5), (.call 37), [(.t 4)], none⟩, ⟨(some 6), .mv, [(.t 5)], none⟩, ⟨(some 7), (.fld 2), [(.t 1)], (some (6, true))⟩, ⟨(some 8), .load1, [(.t 7)], (some (6, true))⟩, ⟨(some 9), (.call 43), [(.t 8), (.k (.int .i64 0)), (.k (.int .i64 255))], (some (6, true))⟩, ⟨(some 10), .pick, [(.t 6), (.t 9), (.k (.bool false))], none⟩, ⟨(some 2), .mv, [(.t 10)], none⟩]) .ret)), [(.s 2)]⟩
theorem x33_ok : xfn Try.prog Try.f33 = some x33 := by kernel_rfl
def x21 : XFn := ⟨11, (.seq (.reg false [⟨(some 1), (.box 25), [(.t 0)], none⟩, ⟨(some 2), .mv, [(.k (.bool false))], none⟩]) (.seq (.reg false [⟨(some 3), (.fld 0), [(.t 1)], none⟩, ⟨(some 4), .load1, [(.t 3)], none⟩, ⟨(some 5), (.call 34), [(.t 4), (.k (.int .i64 32))], none⟩, ⟨(some 6), .mv, [(.t 5)], none⟩, ⟨(some 7), (.fld 1), [(.t 1)], (some (6, true))⟩, ⟨(some 8), .load1, [(.t 7)], (some (6, true))⟩, ⟨(some 9), (.call 43), [(.t 8), (.k (.int .i64 0)), (.k (.int .i64 32))], (some (6, true))⟩, ⟨(some 10), .pick, [(.t 6), (.t 9), (.k (.bool false))], none⟩, ⟨(some 2), .mv, [(.t 10)], none⟩]) .ret)), [(.s 2)]⟩
theorem x21_ok : xfn Try.prog Try.f21 = some x21 := by kernel_rfl
def x19 : XFn := ⟨21, (.seq (.reg false [⟨(some 1), (.box 36), [(.t 0)], none⟩, ⟨(some 2), .mv, [(.k (.bool false))], none⟩]) (.seq (.reg false [⟨(some 3), (.fld 0), [(.t 1)], none⟩, ⟨(some 4), .load1, [(.t 3)], none⟩, ⟨(some 5), (.call 43), [(.t 4), (.k (.int .i64 0)), (.k (.int .i64 8))], none⟩, ⟨(some 6), .mv, [(.t 5)], none⟩, ⟨(some 7), (.fld 1), [(.t 1)], (some (6, true))⟩, ⟨(some 8), .load1, [(.t 7)], (some (6, true))⟩, ⟨(some 9), (.call 43), [(.t 8), (.k (.int .i64 0)), (.k (.int .i64 16))], (some (6, true))⟩, ⟨(some 10), .pick, [(.t 6), (.t 9), (.k (.bool false))], none⟩, ⟨(some 11), .mv, [(.t 10)], none⟩, ⟨(some 12), (.fld 2), [(.t 1)], (some (11, true))⟩, ⟨(some 13), .load1, [(.t 12)], (some (11, true))⟩, ⟨(some 14), (.call 43), [(.t 13), (.k (.int .i64 0)), (.k (.int .i64 8))], (some (11, true))⟩, ⟨(some 15), .pick, [(.t 11), (.t 14), (.k (.bool false))], none⟩, ⟨(some 16), .mv, [(.t 15)], none⟩, ⟨(some 17), (.fld 3), [(.t 1)], (some (16, true))⟩, ⟨(some 18), .load1, [(.t 17)], (some (16, true))⟩, ⟨(some 19), (.call 43), [(.t 18), (.k (.int .i64 1)), (.k (.int .i64 32))], (some (16, true))⟩, ⟨(some 20), .pick, [(.t 16), (.t 19), (.k (.bool false))], none⟩, ⟨(some 2), .mv, [(.t 20)], none⟩]) .ret)), [(.s 2)]⟩
theorem x19_ok : xfn Try.prog Try.f19 = some x19 := by kernel_rfl
def x56 : XFn := ⟨16, (.seq (.reg false [⟨(some 4), .mv, [(.k (.int .i64 0))], none⟩]) (.seq (.reg false [⟨(some 6), .mv, [(.t 0)], none⟩, ⟨(some 7), .mv, [(.t 1)], none⟩, ⟨(some 8), (.bin .quo), [(.t 6), (.t 7)], none⟩, ⟨(some 5), .mv, [(.t 8)], none⟩]) (.seq (.seq (.reg false [⟨(some 9), .mv, [(.t 0)], none⟩, ⟨(some 10), .mv, [(.t 1)], none⟩, ⟨(some 11), (.bin .rem), [(.t 9), (.t 10)], none⟩, ⟨(some 12), (.bin .lss), [(.t 11), (.k (.int .i64 0))], none⟩]) (.cond (.t 12) (.reg false [⟨(some 13), .mv, [(.t 5)], none⟩, ⟨(some 14), (.bin .sub), [(.t 13), (.k (.int .i64 1))], none⟩, ⟨(some 5), .mv, [(.t 14)], none⟩]) .skip)) (.seq (.reg false [⟨(some 15), .mv, [(.t 5)], none⟩, ⟨(some 4), .mv, [(.t 15)], none⟩]) .ret)))), [(.s 4)]⟩
theorem x56_ok : xfn Try.prog Try.f56 = some x56 := by kernel_rfl
def x35 : XFn := ⟨7, (.seq (.reg false [⟨(some 2), .mv, [(.k (.int .i64 0))], none⟩]) (.seq (.reg false [⟨(some 3), .mv, [(.t 0)], none⟩, ⟨(some 4), (.bin .rem), [(.t 3), (.k (.int .i64 256))], none⟩, ⟨(some 5), (.bin .add), [(.t 4), (.k (.int .i64 256))], none⟩, ⟨(some 6), (.bin .rem), [(.t 5), (.k (.int .i64 256))], none⟩, ⟨(some 2), .mv, [(.t 6)], none⟩]) .ret)), [(.s 2)]⟩
theorem x35_ok : xfn Try.prog Try.f35 = some x35 := by kernel_rfl
def x61 : XFn := ⟨5, (.seq (.reg false [⟨(some 2), .mv, [(.k (.int .i64 0))], none⟩]) (.seq (.reg false [⟨(some 3), .mv, [(.t 0)], none⟩, ⟨(some 4), (.bin .and), [(.t 3), (.k (.int .i64 255))], none⟩, ⟨(some 2), .mv, [(.t 4)], none⟩]) .ret)), [(.s 2)]⟩
theorem x61_ok : xfn Try.prog Try.f61 = some x61 := by kernel_rfl
def x41 : XFn := ⟨15, (.seq (.reg false [⟨(some 4), .mv, [(.k (.int .i64 0))], none⟩]) (.seq (.reg false [⟨(some 6), .mv, [(.t 0)], none⟩, ⟨(some 7), .mv, [(.t 1)], none⟩, ⟨(some 8), (.bin .rem), [(.t 6), (.t 7)], none⟩, ⟨(some 5), .mv, [(.t 8)], none⟩]) (.seq (.seq (.reg false [⟨(some 9), .mv, [(.t 5)], none⟩, ⟨(some 10), (.bin .lss), [(.t 9), (.k (.int .i64 0))], none⟩]) (.cond (.t 10) (.reg false [⟨(some 11), .mv, [(.t 5)], none⟩, ⟨(some 12), .mv, [(.t 1)], none⟩, ⟨(some 13), (.bin .add), [(.t 11), (.t 12)], none⟩, ⟨(some 5), .mv, [(.t 13)], none⟩]) .skip)) (.seq (.reg false [⟨(some 14), .mv, [(.t 5)], none⟩, ⟨(some 4), .mv, [(.t 14)], none⟩]) .ret)))), [(.s 4)]⟩
theorem x41_ok : xfn Try.prog Try.f41 = some x41 := by kernel_rfl
def x91 : XFn := ⟨8, (.seq (.reg false [⟨(some 2), .mv, [(.k (.int .i64 0))], none⟩]) (.seq (.seq (.reg false [⟨(some 3), .mv, [(.t 0)], none⟩, ⟨(some 4), (.bin .lss), [(.t 3), (.k (.int .i64 0))], none⟩]) (.cond (.t 4) (.seq (.reg false [⟨(some 5), .mv, [(.t 0)], none⟩, ⟨(some 6), (.un .neg), [(.t 5)], none⟩, ⟨(some 2), .mv, [(.t 6)], none⟩]) .ret) .skip)) (.seq (.reg false [⟨(some 7), .mv, [(.t 0)], none⟩, ⟨(some 2), .mv, [(.t 7)], none⟩]) .ret))), [(.s 2)]⟩
theorem x91_ok : xfn Try.prog Try.f91 = some x91 := by kernel_rfl
def x90L0 : XC := (.seq (.seq (.reg false [⟨(some 9), .mv, [(.t 1)], none⟩, ⟨(some 10), (.bin .gtr), [(.t 9), (.k (.int .i64 0))], none⟩]) (.cond (.t 10) .skip (.exit 0))) (.block 1 (.seq (.reg false [⟨(some 11), .mv, [(.t 0)], none⟩, ⟨(some 12), .mv, [(.t 1)], none⟩, ⟨(some 13), (.bin .rem), [(.t 11), (.t 12)], none⟩, ⟨(some 7), .mv, [(.t 13)], none⟩]) (.seq (.reg false [⟨(some 14), .mv, [(.t 1)], none⟩, ⟨(some 0), .mv, [(.t 14)], none⟩]) (.reg false [⟨(some 15), .mv, [(.t 7)], none⟩, ⟨(some 1), .mv, [(.t 15)], none⟩])))))
def x90L1 : XC := (.seq (.seq (.reg false [⟨(some 16), .mv, [(.t 2)], none⟩, ⟨(some 17), (.bin .gtr), [(.t 16), (.k (.int .i64 0))], none⟩]) (.cond (.t 17) .skip (.exit 2))) (.block 3 (.seq (.reg false [⟨(some 18), .mv, [(.t 0)], none⟩, ⟨(some 19), .mv, [(.t 2)], none⟩, ⟨(some 20), (.bin .rem), [(.t 18), (.t 19)], none⟩, ⟨(some 8), .mv, [(.t 20)], none⟩]) (.seq (.reg false [⟨(some 21), .mv, [(.t 2)], none⟩, ⟨(some 0), .mv, [(.t 21)], none⟩]) (.reg false [⟨(some 22), .mv, [(.t 8)], none⟩, ⟨(some 2), .mv, [(.t 22)], none⟩])))))
def x90 : XFn := ⟨24, (.seq (.reg false [⟨(some 6), .mv, [(.k (.int .i64 0))], none⟩]) (.seq (.block 0 (.loop x90L0)) (.seq (.block 2 (.loop x90L1)) (.seq (.reg false [⟨(some 23), .mv, [(.t 0)], none⟩, ⟨(some 6), .mv, [(.t 23)], none⟩]) .ret)))), [(.s 6)]⟩
theorem x90_ok : xfn Try.prog Try.f90 = some x90 := by kernel_rfl
def x50 : XFn := ⟨16, (.seq (.reg false [⟨(some 4), .mv, [(.k (.int .i64 0))], none⟩]) (.seq (.reg false [⟨(some 6), .mv, [(.t 0)], none⟩, ⟨(some 7), .mv, [(.t 1)], none⟩, ⟨(some 8), (.bin .quo), [(.t 6), (.t 7)], none⟩, ⟨(some 5), .mv, [(.t 8)], none⟩]) (.seq (.seq (.reg false [⟨(some 9), .mv, [(.t 0)], none⟩, ⟨(some 10), .mv, [(.t 1)], none⟩, ⟨(some 11), (.bin .rem), [(.t 9), (.t 10)], none⟩, ⟨(some 12), (.bin .lss), [(.t 11), (.k (.int .i64 0))], none⟩]) (.cond (.t 12) (.reg false [⟨(some 13), .mv, [(.t 5)], none⟩, ⟨(some 14), (.bin .sub), [(.t 13), (.k (.int .i64 1))], none⟩, ⟨(some 5), .mv, [(.t 14)], none⟩]) .skip)) (.seq (.reg false [⟨(some 15), .mv, [(.t 5)], none⟩, ⟨(some 4), .mv, [(.t 15)], none⟩]) .ret)))), [(.s 4)]⟩
theorem x50_ok : xfn Try.prog Try.f50 = some x50 := by kernel_rfl
def x25 : XFn := ⟨14, (.seq (.reg false [⟨(some 4), .mv, [(.k (.bool false))], none⟩]) (.seq (.reg false [⟨(some 5), .mv, [(.t 0)], none⟩, ⟨(some 6), .mv, [(.t 1)], none⟩, ⟨(some 7), (.un .neg), [(.t 6)], none⟩, ⟨(some 8), (.bin .geq), [(.t 5), (.t 7)], none⟩, ⟨(some 9), .mv, [(.t 8)], none⟩, ⟨(some 10), .mv, [(.t 0)], (some (9, true))⟩, ⟨(some 11), .mv, [(.t 1)], (some (9, true))⟩, ⟨(some 12), (.bin .leq), [(.t 10), (.t 11)], (some (9, true))⟩, ⟨(some 13), .pick, [(.t 9), (.t 12), (.k (.bool false))], none⟩, ⟨(some 4), .mv, [(.t 13)], none⟩]) .ret)), [(.s 4)]⟩
theorem x25_ok : xfn Try.prog Try.f25 = some x25 := by kernel_rfl
def x39 : XFn := ⟨21, (.seq (.reg false [⟨(some 1), (.box 23), [(.t 0)], none⟩, ⟨(some 2), .mv, [(.k (.bool false))], none⟩]) (.seq (.reg false [⟨(some 3), (.fld 0), [(.t 1)], none⟩, ⟨(some 4), .load1, [(.t 3)], none⟩, ⟨(some 5), (.call 25), [(.t 4), (.k (.int .i64 1048576))], none⟩, ⟨(some 6), .mv, [(.t 5)], none⟩, ⟨(some 7), (.fld 1), [(.t 1)], (some (6, true))⟩, ⟨(some 8), .load1, [(.t 7)], (some (6, true))⟩, ⟨(some 9), (.call 25), [(.t 8), (.k (.int .i64 1048576))], (some (6, true))⟩, ⟨(some 10), .pick, [(.t 6), (.t 9), (.k (.bool false))], none⟩, ⟨(some 11), .mv, [(.t 10)], none⟩, ⟨(some 12), (.fld 2), [(.t 1)], (some (11, true))⟩, ⟨(some 13), .load1, [(.t 12)], (some (11, true))⟩, ⟨(some 14), (.bin .geq), [(.t 13), (.k (.int .i64 0))], (some (11, true))⟩, ⟨(some 15), .pick, [(.t 11), (.t 14), (.k (.bool false))], none⟩, ⟨(some 16), .mv, [(.t 15)], none⟩, ⟨(some 17), (.fld 2), [(.t 1)], (some (16, true))⟩, ⟨(some 18), .load1, [(.t 17)], (some (16, true))⟩, ⟨(some 19), (.bin .lss), [(.t 18), (.k (.int .i64 256))], (some (16, true))⟩, ⟨(some 20), .pick, [(.t 16), (.t 19), (.k (.bool false))], none⟩, ⟨(some 2), .mv, [(.t 20)], none⟩]) .ret)), [(.s 2)]⟩
theorem x39_ok : xfn Try.prog Try.f39 = some x39 := by kernel_rfl
def x40 : XFn := ⟨16, (.seq (.reg false [⟨(some 1), (.box 25), [(.t 0)], none⟩, ⟨(some 2), .mv, [(.k (.bool false))], none⟩]) (.seq (.reg false [⟨(some 3), (.fld 0), [(.t 1)], none⟩, ⟨(some 4), .load1, [(.t 3)], none⟩, ⟨(some 5), (.call 25), [(.t 4), (.k (.int .i64 32))], none⟩, ⟨(some 6), .mv, [(.t 5)], none⟩, ⟨(some 7), (.fld 1), [(.t 1)], (some (6, true))⟩, ⟨(some 8), .load1, [(.t 7)], (some (6, true))⟩, ⟨(some 9), (.bin .geq), [(.t 8), (.k (.int .i64 0))], (some (6, true))⟩, ⟨(some 10), .pick, [(.t 6), (.t 9), (.k (.bool false))], none⟩, ⟨(some 11), .mv, [(.t 10)], none⟩, ⟨(some 12), (.fld 1), [(.t 1)], (some (11, true))⟩, ⟨(some 13), .load1, [(.t 12)], (some (11, true))⟩, ⟨(some 14), (.bin .leq), [(.t 13), (.k (.int .i64 32))], (some (11, true))⟩, ⟨(some 15), .pick, [(.t 11), (.t 14), (.k (.bool false))], none⟩, ⟨(some 2), .mv, [(.t 15)], none⟩]) .ret)), [(.s 2)]⟩
theorem x40_ok : xfn Try.prog Try.f40 = some x40 := by kernel_rfl
def x44 : XFn := ⟨41, (.seq (.reg false [⟨(some 1), (.box 36), [(.t 0)], none⟩, ⟨(some 2), .mv, [(.k (.bool false))], none⟩]) (.seq (.reg false [⟨(some 3), (.fld 0), [(.t 1)], none⟩, ⟨(some 4), .load1, [(.t 3)], none⟩, ⟨(some 5), (.bin .geq), [(.t 4), (.k (.int .i64 0))], none⟩, ⟨(some 6), .mv, [(.t 5)], none⟩, ⟨(some 7), (.fld 0), [(.t 1)], (some (6, true))⟩, ⟨(some 8), .load1, [(.t 7)], (some (6, true))⟩, ⟨(some 9), (.bin .leq), [(.t 8), (.k (.int .i64 8))], (some (6, true))⟩, ⟨(some 10), .pick, [(.t 6), (.t 9), (.k (.bool false))], none⟩, ⟨(some 11), .mv, [(.t 10)], none⟩, ⟨(some 12), (.fld 1), [(.t 1)], (some (11, true))⟩, ⟨(some 13), .load1, [(.t 12)], (some (11, true))⟩, ⟨(some 14), (.bin .geq), [(.t 13), (.k (.int .i64 0))], (some (11, true))⟩, ⟨(some 15), .pick, [(.t 11), (.t 14), (.k (.bool false))], none⟩, ⟨(some 16), .mv, [(.t 15)], none⟩, ⟨(some 17), (.fld 1), [(.t 1)], (some (16, true))⟩, ⟨(some 18), .load1, [(.t 17)], (some (16, true))⟩, ⟨(some 19), (.bin .leq), [(.t 18), (.k (.int .i64 16))], (some (16, true))⟩, ⟨(some 20), .pick, [(.t 16), (.t 19), (.k (.bool false))], none⟩, ⟨(some 21), .mv, [(.t 20)], none⟩, ⟨(some 22), (.fld 2), [(.t 1)], (some (21, true))⟩, ⟨(some 23), .load1, [(.t 22)], (some (21, true))⟩, ⟨(some 24), (.bin .geq), [(.t 23), (.k (.int .i64 0))], (some (21, true))⟩, ⟨(some 25), .pick, [(.t 21), (.t 24), (.k (.bool false))], none⟩, ⟨(some 26), .mv, [(.t 25)], none⟩, ⟨(some 27), (.fld 2), [(.t 1)], (some (26, true))⟩, ⟨(some 28), .load1, [(.t 27)], (some (26, true))⟩, ⟨(some 29), (.bin .leq), [(.t 28), (.k (.int .i64 8))], (some (26, true))⟩, ⟨(some 30), .pick, [(.t 26), (.t 29), (.k (.bool false))], none⟩, ⟨(some 31), .mv, [(.t 30)], none⟩, ⟨(some 32), (.fld 3), [(.t 1)], (some (31, true))⟩, ⟨(some 33), .load1, [(.t 32)], (some (31, true))⟩, ⟨(some 34), (.bin .geq), [(.t 33), (.k (.int .i64 1))], (some (31, true))⟩, ⟨(some 35), .pick, [(.t 31), (.t 34), (.k (.bool false))], none⟩, ⟨(some 36), .mv, [(.t 35)], none⟩, ⟨(some 37), (.fld 3), [(.t 1)], (some (36, true))⟩, ⟨(some 38), .load1, [(.t 37)], (some (36, true))⟩, ⟨(some 39), (.bin .leq), [(.t 38), (.k (.int .i64 32))], (some (36, true))⟩, ⟨(some 40), .pick, [(.t 36), (.t 39), (.k (.bool false))], none⟩, ⟨(some 2), .mv, [(.t 40)], none⟩]) .ret)), [(.s 2)]⟩
theorem x44_ok : xfn Try.prog Try.f44 = some x44 := by kernel_rfl
def x49 : XFn := ⟨11, (.seq (.reg false [⟨(some 1), (.box 57), [(.t 0)], none⟩, ⟨(some 2), .mv, [(.k (.bool false))], none⟩]) (.seq (.reg false [⟨(some 3), (.fld 0), [(.t 1)], none⟩, ⟨(some 4), .load1, [(.t 3)], none⟩, ⟨(some 5), (.call 25), [(.t 4), (.k (.int .i64 1048576))], none⟩, ⟨(some 6), .mv, [(.t 5)], none⟩, ⟨(some 7), (.fld 1), [(.t 1)], (some (6, true))⟩, ⟨(some 8), .load1, [(.t 7)], (some (6, true))⟩, ⟨(some 9), (.call 25), [(.t 8), (.k (.int .i64 1048576))], (some (6, true))⟩, ⟨(some 10), .pick, [(.t 6), (.t 9), (.k (.bool false))], none⟩, ⟨(some 2), .mv, [(.t 10)], none⟩]) .ret)), [(.s 2)]⟩
theorem x49_ok : xfn Try.prog Try.f49 = some x49 := by kernel_rfl
/-- wayfinder/drive.between -/
def sp43 : List S1 → Option (Prop × SV)
  | [.c (.v (.int .i64 n)), .c (.v (.int .i64 lo)), .c (.v (.int .i64 hi))] => some (True, .o (.c (.v (.bool (decide (lo ≤ n) && decide (n ≤ hi))))))
  | _ => none
theorem c43 : COk Try.prog 43 (plain sp43) := by
  refine cok_plain Try.func43 x43_ok (by kernel_rfl) (cok_tab cok_nil) ?_
  intro args pre res h
  unfold sp43 at h
  split at h
  · rename_i n lo hi
    cases h
    refine ⟨by simp only [sc1L, sc1, scL, SC.sc, and_self], by simp only [scV, sc1L, sc1, scL, SC.sc, and_self], fun hpre => ?_⟩
    simp only [x43, vcF, env0, vcC, vcOps, vcOpsQ, vcOp, evQ, guardOf, rd, rds, lk, opQ, qMv, qBuild, qLoad1, qLoadN, qFld, qPart1, qPartN, qIx1, qIxN, qIxA, qIxS, qBin, qBinb, qEqA, qUn, qConv, qMin, qMax, qLenS, qNil, fin, evPick, evCR, evExt, vcEff, vcBox, vcStore, vcCR, vcCond, tab, plain, kSeq, kBlock, kRet, rets, ret1, retV, St.put, constS, nth, takeAt, setAt, fillS, ups, oks, okcs, S1.ok, SC.ok, Value.oneCell', S1.cells, boxOf, rowOf, binI, isShift, eqCells, eqC, sc1L, sc1, scL, SC.sc, scV, List.map_cons, List.map_nil, List.length_cons, List.length_nil, Nat.reduceAdd, Nat.reduceLeDiff, Nat.reduceEqDiff, Nat.reduceBEq, reduceIte, reduceCtorEq, and_true, true_and, and_self, forall_const, Bool.false_eq_true, Bool.true_eq_false, false_or, or_true, true_or, Nat.add_zero, Nat.zero_add, cond_true, cond_false, beq_self_eq_true, true_implies, false_implies, imp_self, implies_true, Bool.not_not, Bool.and_true, Bool.true_and, Bool.and_false, Bool.false_and, Nat.le_refl, Nat.zero_le, Bool.not_true, Bool.not_false, evQ0, evTup, tupOf, beq_true, beq_false, Bool.cond_false_right, Bool.cond_true_left, Bool.cond_true_right, Bool.cond_false_left, SV.o.injEq, SV.t.injEq, SV.g.injEq, S1.c.injEq, S1.a.injEq, SC.v.injEq, Value.bool.injEq, Value.int.injEq, List.cons.injEq, decide_eq_true_eq, gt_iff_lt, ge_iff_le, ne_eq, Int.reduceLE, Int.cast_ofNat_Int, Int.reduceLT, Int.reduceEq, Int.reduceMul, Int.reduceAdd, Int.reduceSub, not_false_eq_true, not_true_eq_false, upto, leEnv, leEnt, Le, scEnv, scEnt, scE, kLoop, vcD, vcDgo, recOf, recEff, resE, ids1L, S1.ids, SC.ids, idsL, SV.ids, memN, usesX, readsX, slotsL, XO.slots, pushR, alN, nAl, Rec.foot, uIds, uWr, List.nil_append, List.cons_append, List.append_nil, Bool.not_eq_true', decide_eq_false_iff_not, Int.reduceNeg, Int.reduceToNat, Nat.reduceMul, Nat.reduceLT, imp_self, and_imp]

  · cases h
/-- wayfinder/drive.within -/
def sp34 : List S1 → Option (Prop × SV)
  | [.c (.v (.int .i64 n)), .c (.v (.int .i64 k))] => some (-9223372036854775807 ≤ k ∧ k ≤ 9223372036854775807, .o (.c (.v (.bool (decide (-k ≤ n) && decide (n ≤ k))))))
  | _ => none
theorem c34 : COk Try.prog 34 (plain sp34) := by
  refine cok_plain Try.func34 x34_ok (by kernel_rfl) (cok_tab (cok_cons c43 cok_nil)) ?_
  intro args pre res h
  unfold sp34 at h
  split at h
  · rename_i n k
    cases h
    refine ⟨by simp only [sc1L, sc1, scL, SC.sc, and_self], by simp only [scV, sc1L, sc1, scL, SC.sc, and_self], fun hpre => ?_⟩
    simp only [x34, vcF, env0, vcC, vcOps, vcOpsQ, vcOp, evQ, guardOf, rd, rds, lk, opQ, qMv, qBuild, qLoad1, qLoadN, qFld, qPart1, qPartN, qIx1, qIxN, qIxA, qIxS, qBin, qBinb, qEqA, qUn, qConv, qMin, qMax, qLenS, qNil, fin, evPick, evCR, evExt, vcEff, vcBox, vcStore, vcCR, vcCond, tab, plain, kSeq, kBlock, kRet, rets, ret1, retV, St.put, constS, nth, takeAt, setAt, fillS, ups, oks, okcs, S1.ok, SC.ok, Value.oneCell', S1.cells, boxOf, rowOf, binI, isShift, eqCells, eqC, sc1L, sc1, scL, SC.sc, scV, List.map_cons, List.map_nil, List.length_cons, List.length_nil, Nat.reduceAdd, Nat.reduceLeDiff, Nat.reduceEqDiff, Nat.reduceBEq, reduceIte, reduceCtorEq, and_true, true_and, and_self, forall_const, Bool.false_eq_true, Bool.true_eq_false, false_or, or_true, true_or, Nat.add_zero, Nat.zero_add, cond_true, cond_false, beq_self_eq_true, true_implies, false_implies, imp_self, implies_true, Bool.not_not, Bool.and_true, Bool.true_and, Bool.and_false, Bool.false_and, Nat.le_refl, Nat.zero_le, Bool.not_true, Bool.not_false, evQ0, evTup, tupOf, beq_true, beq_false, Bool.cond_false_right, Bool.cond_true_left, Bool.cond_true_right, Bool.cond_false_left, SV.o.injEq, SV.t.injEq, SV.g.injEq, S1.c.injEq, S1.a.injEq, SC.v.injEq, Value.bool.injEq, Value.int.injEq, List.cons.injEq, decide_eq_true_eq, gt_iff_lt, ge_iff_le, ne_eq, Int.reduceLE, Int.cast_ofNat_Int, Int.reduceLT, Int.reduceEq, Int.reduceMul, Int.reduceAdd, Int.reduceSub, not_false_eq_true, not_true_eq_false, upto, leEnv, leEnt, Le, scEnv, scEnt, scE, kLoop, vcD, vcDgo, recOf, recEff, resE, ids1L, S1.ids, SC.ids, idsL, SV.ids, memN, usesX, readsX, slotsL, XO.slots, pushR, alN, nAl, Rec.foot, uIds, uWr, List.nil_append, List.cons_append, List.append_nil, Bool.not_eq_true', decide_eq_false_iff_not, Int.reduceNeg, Int.reduceToNat, Nat.reduceMul, Nat.reduceLT, imp_self, and_imp, sp43]
    rw [wrapI (by omega) (by omega), Int.zero_sub]
  · cases h
/-- wayfinder/drive.validPoint -/
def sp37 : List S1 → Option (Prop × SV)
  | [.a [.v (.int .i64 p_X), .v (.int .i64 p_Y)]] => some (True, .o (.c (.v (.bool (decide (-1048576 ≤ p_X ∧ p_X ≤ 1048576 ∧ -1048576 ≤ p_Y ∧ p_Y ≤ 1048576))))))
  | _ => none
theorem c37 : COk Try.prog 37 (plain sp37) := by
  refine cok_plain Try.func37 x37_ok (by kernel_rfl) (cok_tab (cok_cons c34 cok_nil)) ?_
  intro args pre res h
  unfold sp37 at h
  split at h
  · rename_i p_X p_Y
    cases h
    refine ⟨by simp only [sc1L, sc1, scL, SC.sc, and_self], by simp only [scV, sc1L, sc1, scL, SC.sc, and_self], fun hpre => ?_⟩
    simp only [x37, vcF, env0, vcC, vcOps, vcOpsQ, vcOp, evQ, guardOf, rd, rds, lk, opQ, qMv, qBuild, qLoad1, qLoadN, qFld, qPart1, qPartN, qIx1, qIxN, qIxA, qIxS, qBin, qBinb, qEqA, qUn, qConv, qMin, qMax, qLenS, qNil, fin, evPick, evCR, evExt, vcEff, vcBox, vcStore, vcCR, vcCond, tab, plain, kSeq, kBlock, kRet, rets, ret1, retV, St.put, constS, nth, takeAt, setAt, fillS, ups, oks, okcs, S1.ok, SC.ok, Value.oneCell', S1.cells, boxOf, rowOf, binI, isShift, eqCells, eqC, sc1L, sc1, scL, SC.sc, scV, List.map_cons, List.map_nil, List.length_cons, List.length_nil, Nat.reduceAdd, Nat.reduceLeDiff, Nat.reduceEqDiff, Nat.reduceBEq, reduceIte, reduceCtorEq, and_true, true_and, and_self, forall_const, Bool.false_eq_true, Bool.true_eq_false, false_or, or_true, true_or, Nat.add_zero, Nat.zero_add, cond_true, cond_false, beq_self_eq_true, true_implies, false_implies, imp_self, implies_true, Bool.not_not, Bool.and_true, Bool.true_and, Bool.and_false, Bool.false_and, Nat.le_refl, Nat.zero_le, Bool.not_true, Bool.not_false, evQ0, evTup, tupOf, beq_true, beq_false, Bool.cond_false_right, Bool.cond_true_left, Bool.cond_true_right, Bool.cond_false_left, SV.o.injEq, SV.t.injEq, SV.g.injEq, S1.c.injEq, S1.a.injEq, SC.v.injEq, Value.bool.injEq, Value.int.injEq, List.cons.injEq, decide_eq_true_eq, gt_iff_lt, ge_iff_le, ne_eq, Int.reduceLE, Int.cast_ofNat_Int, Int.reduceLT, Int.reduceEq, Int.reduceMul, Int.reduceAdd, Int.reduceSub, not_false_eq_true, not_true_eq_false, upto, leEnv, leEnt, Le, scEnv, scEnt, scE, kLoop, vcD, vcDgo, recOf, recEff, resE, ids1L, S1.ids, SC.ids, idsL, SV.ids, memN, usesX, readsX, slotsL, XO.slots, pushR, alN, nAl, Rec.foot, uIds, uWr, List.nil_append, List.cons_append, List.append_nil, Bool.not_eq_true', decide_eq_false_iff_not, Int.reduceNeg, Int.reduceToNat, Nat.reduceMul, Nat.reduceLT, imp_self, and_imp, sp34]
    refine bool_ext ?_
    simp only [Bool.and_eq_true, decide_eq_true_eq]
    omega
  · cases h
/-- wayfinder/drive.place -/
def sp38 : List S1 → Option (Prop × SV)
  | [.a [.v (.int .i64 p_X), .v (.int .i64 p_Y), .v (.int .i64 p_H)]] => some (True, .o (.a [.v (.int .i64 (p_X)), .v (.int .i64 (p_Y))]))
  | _ => none
theorem c38 : COk Try.prog 38 (plain sp38) := by
  refine cok_plain Try.func38 x38_ok (by kernel_rfl) (cok_tab cok_nil) ?_
  intro args pre res h
  unfold sp38 at h
  split at h
  · rename_i p_X p_Y p_H
    cases h
    refine ⟨by simp only [sc1L, sc1, scL, SC.sc, and_self], by simp only [scV, sc1L, sc1, scL, SC.sc, and_self], fun hpre => ?_⟩
    simp only [x38, vcF, env0, vcC, vcOps, vcOpsQ, vcOp, evQ, guardOf, rd, rds, lk, opQ, qMv, qBuild, qLoad1, qLoadN, qFld, qPart1, qPartN, qIx1, qIxN, qIxA, qIxS, qBin, qBinb, qEqA, qUn, qConv, qMin, qMax, qLenS, qNil, fin, evPick, evCR, evExt, vcEff, vcBox, vcStore, vcCR, vcCond, tab, plain, kSeq, kBlock, kRet, rets, ret1, retV, St.put, constS, nth, takeAt, setAt, fillS, ups, oks, okcs, S1.ok, SC.ok, Value.oneCell', S1.cells, boxOf, rowOf, binI, isShift, eqCells, eqC, sc1L, sc1, scL, SC.sc, scV, List.map_cons, List.map_nil, List.length_cons, List.length_nil, Nat.reduceAdd, Nat.reduceLeDiff, Nat.reduceEqDiff, Nat.reduceBEq, reduceIte, reduceCtorEq, and_true, true_and, and_self, forall_const, Bool.false_eq_true, Bool.true_eq_false, false_or, or_true, true_or, Nat.add_zero, Nat.zero_add, cond_true, cond_false, beq_self_eq_true, true_implies, false_implies, imp_self, implies_true, Bool.not_not, Bool.and_true, Bool.true_and, Bool.and_false, Bool.false_and, Nat.le_refl, Nat.zero_le, Bool.not_true, Bool.not_false, evQ0, evTup, tupOf, beq_true, beq_false, Bool.cond_false_right, Bool.cond_true_left, Bool.cond_true_right, Bool.cond_false_left, SV.o.injEq, SV.t.injEq, SV.g.injEq, S1.c.injEq, S1.a.injEq, SC.v.injEq, Value.bool.injEq, Value.int.injEq, List.cons.injEq, decide_eq_true_eq, gt_iff_lt, ge_iff_le, ne_eq, Int.reduceLE, Int.cast_ofNat_Int, Int.reduceLT, Int.reduceEq, Int.reduceMul, Int.reduceAdd, Int.reduceSub, not_false_eq_true, not_true_eq_false, upto, leEnv, leEnt, Le, scEnv, scEnt, scE, kLoop, vcD, vcDgo, recOf, recEff, resE, ids1L, S1.ids, SC.ids, idsL, SV.ids, memN, usesX, readsX, slotsL, XO.slots, pushR, alN, nAl, Rec.foot, uIds, uWr, List.nil_append, List.cons_append, List.append_nil, Bool.not_eq_true', decide_eq_false_iff_not, Int.reduceNeg, Int.reduceToNat, Nat.reduceMul, Nat.reduceLT, imp_self, and_imp]

  · cases h
/-- wayfinder/drive.validPose -/
def sp33 : List S1 → Option (Prop × SV)
  | [.a [.v (.int .i64 p_X), .v (.int .i64 p_Y), .v (.int .i64 p_H)]] => some (True, .o (.c (.v (.bool (decide (-1048576 ≤ p_X ∧ p_X ≤ 1048576 ∧ -1048576 ≤ p_Y ∧ p_Y ≤ 1048576 ∧ 0 ≤ p_H ∧ p_H ≤ 255))))))
  | _ => none
theorem c33 : COk Try.prog 33 (plain sp33) := by
  refine cok_plain Try.func33 x33_ok (by kernel_rfl) (cok_tab (cok_cons c37 (cok_cons c38 (cok_cons c43 cok_nil)))) ?_
  intro args pre res h
  unfold sp33 at h
  split at h
  · rename_i p_X p_Y p_H
    cases h
    refine ⟨by simp only [sc1L, sc1, scL, SC.sc, and_self], by simp only [scV, sc1L, sc1, scL, SC.sc, and_self], fun hpre => ?_⟩
    simp only [x33, vcF, env0, vcC, vcOps, vcOpsQ, vcOp, evQ, guardOf, rd, rds, lk, opQ, qMv, qBuild, qLoad1, qLoadN, qFld, qPart1, qPartN, qIx1, qIxN, qIxA, qIxS, qBin, qBinb, qEqA, qUn, qConv, qMin, qMax, qLenS, qNil, fin, evPick, evCR, evExt, vcEff, vcBox, vcStore, vcCR, vcCond, tab, plain, kSeq, kBlock, kRet, rets, ret1, retV, St.put, constS, nth, takeAt, setAt, fillS, ups, oks, okcs, S1.ok, SC.ok, Value.oneCell', S1.cells, boxOf, rowOf, binI, isShift, eqCells, eqC, sc1L, sc1, scL, SC.sc, scV, List.map_cons, List.map_nil, List.length_cons, List.length_nil, Nat.reduceAdd, Nat.reduceLeDiff, Nat.reduceEqDiff, Nat.reduceBEq, reduceIte, reduceCtorEq, and_true, true_and, and_self, forall_const, Bool.false_eq_true, Bool.true_eq_false, false_or, or_true, true_or, Nat.add_zero, Nat.zero_add, cond_true, cond_false, beq_self_eq_true, true_implies, false_implies, imp_self, implies_true, Bool.not_not, Bool.and_true, Bool.true_and, Bool.and_false, Bool.false_and, Nat.le_refl, Nat.zero_le, Bool.not_true, Bool.not_false, evQ0, evTup, tupOf, beq_true, beq_false, Bool.cond_false_right, Bool.cond_true_left, Bool.cond_true_right, Bool.cond_false_left, SV.o.injEq, SV.t.injEq, SV.g.injEq, S1.c.injEq, S1.a.injEq, SC.v.injEq, Value.bool.injEq, Value.int.injEq, List.cons.injEq, decide_eq_true_eq, gt_iff_lt, ge_iff_le, ne_eq, Int.reduceLE, Int.cast_ofNat_Int, Int.reduceLT, Int.reduceEq, Int.reduceMul, Int.reduceAdd, Int.reduceSub, not_false_eq_true, not_true_eq_false, upto, leEnv, leEnt, Le, scEnv, scEnt, scE, kLoop, vcD, vcDgo, recOf, recEff, resE, ids1L, S1.ids, SC.ids, idsL, SV.ids, memN, usesX, readsX, slotsL, XO.slots, pushR, alN, nAl, Rec.foot, uIds, uWr, List.nil_append, List.cons_append, List.append_nil, Bool.not_eq_true', decide_eq_false_iff_not, Int.reduceNeg, Int.reduceToNat, Nat.reduceMul, Nat.reduceLT, imp_self, and_imp, sp37, sp38, sp43]
    refine bool_ext ?_
    simp only [Bool.and_eq_true, decide_eq_true_eq]
    omega
  · cases h
/-- wayfinder/drive.ValidCommand -/
def sp21 : List S1 → Option (Prop × SV)
  | [.a [.v (.int .i64 c_Turn), .v (.int .i64 c_Forward)]] => some (True, .o (.c (.v (.bool (decide (-32 ≤ c_Turn ∧ c_Turn ≤ 32 ∧ 0 ≤ c_Forward ∧ c_Forward ≤ 32))))))
  | _ => none
theorem c21 : COk Try.prog 21 (plain sp21) := by
  refine cok_plain Try.func21 x21_ok (by kernel_rfl) (cok_tab (cok_cons c34 (cok_cons c43 cok_nil))) ?_
  intro args pre res h
  unfold sp21 at h
  split at h
  · rename_i c_Turn c_Forward
    cases h
    refine ⟨by simp only [sc1L, sc1, scL, SC.sc, and_self], by simp only [scV, sc1L, sc1, scL, SC.sc, and_self], fun hpre => ?_⟩
    simp only [x21, vcF, env0, vcC, vcOps, vcOpsQ, vcOp, evQ, guardOf, rd, rds, lk, opQ, qMv, qBuild, qLoad1, qLoadN, qFld, qPart1, qPartN, qIx1, qIxN, qIxA, qIxS, qBin, qBinb, qEqA, qUn, qConv, qMin, qMax, qLenS, qNil, fin, evPick, evCR, evExt, vcEff, vcBox, vcStore, vcCR, vcCond, tab, plain, kSeq, kBlock, kRet, rets, ret1, retV, St.put, constS, nth, takeAt, setAt, fillS, ups, oks, okcs, S1.ok, SC.ok, Value.oneCell', S1.cells, boxOf, rowOf, binI, isShift, eqCells, eqC, sc1L, sc1, scL, SC.sc, scV, List.map_cons, List.map_nil, List.length_cons, List.length_nil, Nat.reduceAdd, Nat.reduceLeDiff, Nat.reduceEqDiff, Nat.reduceBEq, reduceIte, reduceCtorEq, and_true, true_and, and_self, forall_const, Bool.false_eq_true, Bool.true_eq_false, false_or, or_true, true_or, Nat.add_zero, Nat.zero_add, cond_true, cond_false, beq_self_eq_true, true_implies, false_implies, imp_self, implies_true, Bool.not_not, Bool.and_true, Bool.true_and, Bool.and_false, Bool.false_and, Nat.le_refl, Nat.zero_le, Bool.not_true, Bool.not_false, evQ0, evTup, tupOf, beq_true, beq_false, Bool.cond_false_right, Bool.cond_true_left, Bool.cond_true_right, Bool.cond_false_left, SV.o.injEq, SV.t.injEq, SV.g.injEq, S1.c.injEq, S1.a.injEq, SC.v.injEq, Value.bool.injEq, Value.int.injEq, List.cons.injEq, decide_eq_true_eq, gt_iff_lt, ge_iff_le, ne_eq, Int.reduceLE, Int.cast_ofNat_Int, Int.reduceLT, Int.reduceEq, Int.reduceMul, Int.reduceAdd, Int.reduceSub, not_false_eq_true, not_true_eq_false, upto, leEnv, leEnt, Le, scEnv, scEnt, scE, kLoop, vcD, vcDgo, recOf, recEff, resE, ids1L, S1.ids, SC.ids, idsL, SV.ids, memN, usesX, readsX, slotsL, XO.slots, pushR, alN, nAl, Rec.foot, uIds, uWr, List.nil_append, List.cons_append, List.append_nil, Bool.not_eq_true', decide_eq_false_iff_not, Int.reduceNeg, Int.reduceToNat, Nat.reduceMul, Nat.reduceLT, imp_self, and_imp, sp34, sp43]
    refine bool_ext ?_
    simp only [Bool.and_eq_true, decide_eq_true_eq]
    omega
  · cases h
/-- wayfinder/drive.ValidBounds -/
def sp19 : List S1 → Option (Prop × SV)
  | [.a [.v (.int .i64 b_Turn), .v (.int .i64 b_Length), .v (.int .i64 b_Slip), .v (.int .i64 b_Range)]] => some (True, .o (.c (.v (.bool (decide (0 ≤ b_Turn ∧ b_Turn ≤ 8 ∧ 0 ≤ b_Length ∧ b_Length ≤ 16 ∧ 0 ≤ b_Slip ∧ b_Slip ≤ 8 ∧ 1 ≤ b_Range ∧ b_Range ≤ 32))))))
  | _ => none
theorem c19 : COk Try.prog 19 (plain sp19) := by
  refine cok_plain Try.func19 x19_ok (by kernel_rfl) (cok_tab (cok_cons c43 cok_nil)) ?_
  intro args pre res h
  unfold sp19 at h
  split at h
  · rename_i b_Turn b_Length b_Slip b_Range
    cases h
    refine ⟨by simp only [sc1L, sc1, scL, SC.sc, and_self], by simp only [scV, sc1L, sc1, scL, SC.sc, and_self], fun hpre => ?_⟩
    simp only [x19, vcF, env0, vcC, vcOps, vcOpsQ, vcOp, evQ, guardOf, rd, rds, lk, opQ, qMv, qBuild, qLoad1, qLoadN, qFld, qPart1, qPartN, qIx1, qIxN, qIxA, qIxS, qBin, qBinb, qEqA, qUn, qConv, qMin, qMax, qLenS, qNil, fin, evPick, evCR, evExt, vcEff, vcBox, vcStore, vcCR, vcCond, tab, plain, kSeq, kBlock, kRet, rets, ret1, retV, St.put, constS, nth, takeAt, setAt, fillS, ups, oks, okcs, S1.ok, SC.ok, Value.oneCell', S1.cells, boxOf, rowOf, binI, isShift, eqCells, eqC, sc1L, sc1, scL, SC.sc, scV, List.map_cons, List.map_nil, List.length_cons, List.length_nil, Nat.reduceAdd, Nat.reduceLeDiff, Nat.reduceEqDiff, Nat.reduceBEq, reduceIte, reduceCtorEq, and_true, true_and, and_self, forall_const, Bool.false_eq_true, Bool.true_eq_false, false_or, or_true, true_or, Nat.add_zero, Nat.zero_add, cond_true, cond_false, beq_self_eq_true, true_implies, false_implies, imp_self, implies_true, Bool.not_not, Bool.and_true, Bool.true_and, Bool.and_false, Bool.false_and, Nat.le_refl, Nat.zero_le, Bool.not_true, Bool.not_false, evQ0, evTup, tupOf, beq_true, beq_false, Bool.cond_false_right, Bool.cond_true_left, Bool.cond_true_right, Bool.cond_false_left, SV.o.injEq, SV.t.injEq, SV.g.injEq, S1.c.injEq, S1.a.injEq, SC.v.injEq, Value.bool.injEq, Value.int.injEq, List.cons.injEq, decide_eq_true_eq, gt_iff_lt, ge_iff_le, ne_eq, Int.reduceLE, Int.cast_ofNat_Int, Int.reduceLT, Int.reduceEq, Int.reduceMul, Int.reduceAdd, Int.reduceSub, not_false_eq_true, not_true_eq_false, upto, leEnv, leEnt, Le, scEnv, scEnt, scE, kLoop, vcD, vcDgo, recOf, recEff, resE, ids1L, S1.ids, SC.ids, idsL, SV.ids, memN, usesX, readsX, slotsL, XO.slots, pushR, alN, nAl, Rec.foot, uIds, uWr, List.nil_append, List.cons_append, List.append_nil, Bool.not_eq_true', decide_eq_false_iff_not, Int.reduceNeg, Int.reduceToNat, Nat.reduceMul, Nat.reduceLT, imp_self, and_imp, sp43]
    refine bool_ext ?_
    simp only [Bool.and_eq_true, decide_eq_true_eq]
    omega
  · cases h
/-- wayfinder/drive.down -/
def sp56 : List S1 → Option (Prop × SV)
  | [.c (.v (.int .i64 a)), .c (.v (.int .i64 b))] => some (0 < b ∧ -9223372036854775808 ≤ a ∧ a ≤ 9223372036854775807, .o (.c (.v (.int .i64 (a / b)))))
  | _ => none
theorem c56 : COk Try.prog 56 (plain sp56) := by
  refine cok_plain Try.func56 x56_ok (by kernel_rfl) (cok_tab cok_nil) ?_
  intro args pre res h
  unfold sp56 at h
  split at h
  · rename_i a b
    cases h
    refine ⟨by simp only [sc1L, sc1, scL, SC.sc, and_self], by simp only [scV, sc1L, sc1, scL, SC.sc, and_self], fun hpre => ?_⟩
    simp only [x56, vcF, env0, vcC, vcOps, vcOpsQ, vcOp, evQ, guardOf, rd, rds, lk, opQ, qMv, qBuild, qLoad1, qLoadN, qFld, qPart1, qPartN, qIx1, qIxN, qIxA, qIxS, qBin, qBinb, qEqA, qUn, qConv, qMin, qMax, qLenS, qNil, fin, evPick, evCR, evExt, vcEff, vcBox, vcStore, vcCR, vcCond, tab, plain, kSeq, kBlock, kRet, rets, ret1, retV, St.put, constS, nth, takeAt, setAt, fillS, ups, oks, okcs, S1.ok, SC.ok, Value.oneCell', S1.cells, boxOf, rowOf, binI, isShift, eqCells, eqC, sc1L, sc1, scL, SC.sc, scV, List.map_cons, List.map_nil, List.length_cons, List.length_nil, Nat.reduceAdd, Nat.reduceLeDiff, Nat.reduceEqDiff, Nat.reduceBEq, reduceIte, reduceCtorEq, and_true, true_and, and_self, forall_const, Bool.false_eq_true, Bool.true_eq_false, false_or, or_true, true_or, Nat.add_zero, Nat.zero_add, cond_true, cond_false, beq_self_eq_true, true_implies, false_implies, imp_self, implies_true, Bool.not_not, Bool.and_true, Bool.true_and, Bool.and_false, Bool.false_and, Nat.le_refl, Nat.zero_le, Bool.not_true, Bool.not_false, evQ0, evTup, tupOf, beq_true, beq_false, Bool.cond_false_right, Bool.cond_true_left, Bool.cond_true_right, Bool.cond_false_left, SV.o.injEq, SV.t.injEq, SV.g.injEq, S1.c.injEq, S1.a.injEq, SC.v.injEq, Value.bool.injEq, Value.int.injEq, List.cons.injEq, decide_eq_true_eq, gt_iff_lt, ge_iff_le, ne_eq, Int.reduceLE, Int.cast_ofNat_Int, Int.reduceLT, Int.reduceEq, Int.reduceMul, Int.reduceAdd, Int.reduceSub, not_false_eq_true, not_true_eq_false, upto, leEnv, leEnt, Le, scEnv, scEnt, scE, kLoop, vcD, vcDgo, recOf, recEff, resE, ids1L, S1.ids, SC.ids, idsL, SV.ids, memN, usesX, readsX, slotsL, XO.slots, pushR, alN, nAl, Rec.foot, uIds, uWr, List.nil_append, List.cons_append, List.append_nil, Bool.not_eq_true', decide_eq_false_iff_not, Int.reduceNeg, Int.reduceToNat, Nat.reduceMul, Nat.reduceLT, imp_self, and_imp]
    have h1 := tdiv_range (a := a) (b := b) (by omega) (by omega) (by omega)
    have h2 := ediv_range (a := a) (b := b) (by omega) (by omega) (by omega)
    refine ⟨by omega, by omega, fun h => ?_, fun h => ?_⟩
    · have e := floor_neg (by omega) h
      rw [wrapI h1.1 h1.2, wrapI (by omega) (by omega), e]
    · rw [wrapI h1.1 h1.2, floor_pos (by omega) h]
  · cases h
/-- wayfinder/drive.turned -/
def sp35 : List S1 → Option (Prop × SV)
  | [.c (.v (.int .i64 h))] => some (-1000000 ≤ h ∧ h ≤ 1000000, .o (.c (.v (.int .i64 (h % 256)))))
  | _ => none
theorem c35 : COk Try.prog 35 (plain sp35) := by
  refine cok_plain Try.func35 x35_ok (by kernel_rfl) (cok_tab cok_nil) ?_
  intro args pre res h
  unfold sp35 at h
  split at h
  · rename_i h
    cases h
    refine ⟨by simp only [sc1L, sc1, scL, SC.sc, and_self], by simp only [scV, sc1L, sc1, scL, SC.sc, and_self], fun hpre => ?_⟩
    simp only [x35, vcF, env0, vcC, vcOps, vcOpsQ, vcOp, evQ, guardOf, rd, rds, lk, opQ, qMv, qBuild, qLoad1, qLoadN, qFld, qPart1, qPartN, qIx1, qIxN, qIxA, qIxS, qBin, qBinb, qEqA, qUn, qConv, qMin, qMax, qLenS, qNil, fin, evPick, evCR, evExt, vcEff, vcBox, vcStore, vcCR, vcCond, tab, plain, kSeq, kBlock, kRet, rets, ret1, retV, St.put, constS, nth, takeAt, setAt, fillS, ups, oks, okcs, S1.ok, SC.ok, Value.oneCell', S1.cells, boxOf, rowOf, binI, isShift, eqCells, eqC, sc1L, sc1, scL, SC.sc, scV, List.map_cons, List.map_nil, List.length_cons, List.length_nil, Nat.reduceAdd, Nat.reduceLeDiff, Nat.reduceEqDiff, Nat.reduceBEq, reduceIte, reduceCtorEq, and_true, true_and, and_self, forall_const, Bool.false_eq_true, Bool.true_eq_false, false_or, or_true, true_or, Nat.add_zero, Nat.zero_add, cond_true, cond_false, beq_self_eq_true, true_implies, false_implies, imp_self, implies_true, Bool.not_not, Bool.and_true, Bool.true_and, Bool.and_false, Bool.false_and, Nat.le_refl, Nat.zero_le, Bool.not_true, Bool.not_false, evQ0, evTup, tupOf, beq_true, beq_false, Bool.cond_false_right, Bool.cond_true_left, Bool.cond_true_right, Bool.cond_false_left, SV.o.injEq, SV.t.injEq, SV.g.injEq, S1.c.injEq, S1.a.injEq, SC.v.injEq, Value.bool.injEq, Value.int.injEq, List.cons.injEq, decide_eq_true_eq, gt_iff_lt, ge_iff_le, ne_eq, Int.reduceLE, Int.cast_ofNat_Int, Int.reduceLT, Int.reduceEq, Int.reduceMul, Int.reduceAdd, Int.reduceSub, not_false_eq_true, not_true_eq_false, upto, leEnv, leEnt, Le, scEnv, scEnt, scE, kLoop, vcD, vcDgo, recOf, recEff, resE, ids1L, S1.ids, SC.ids, idsL, SV.ids, memN, usesX, readsX, slotsL, XO.slots, pushR, alN, nAl, Rec.foot, uIds, uWr, List.nil_append, List.cons_append, List.append_nil, Bool.not_eq_true', decide_eq_false_iff_not, Int.reduceNeg, Int.reduceToNat, Nat.reduceMul, Nat.reduceLT, imp_self, and_imp]
    have e := Int.tmod_add_mul_tdiv h 256
    have h1 : -256 < h.tmod 256 ∧ h.tmod 256 < 256 := by rw [tmod_lit h 256 (by omega)]; split <;> omega
    rw [wrapI (by omega) (by omega), tmod_pos (by omega)]
    omega
  · cases h
/-- wayfinder/heading.mark -/
def sp61 : List S1 → Option (Prop × SV)
  | [.c (.v (.int .i64 h))] => some (True, .o (.c (.v (.int .i64 (h % 256)))))
  | _ => none
theorem c61 : COk Try.prog 61 (plain sp61) := by
  refine cok_plain Try.func61 x61_ok (by kernel_rfl) (cok_tab cok_nil) ?_
  intro args pre res h
  unfold sp61 at h
  split at h
  · rename_i h
    cases h
    refine ⟨by simp only [sc1L, sc1, scL, SC.sc, and_self], by simp only [scV, sc1L, sc1, scL, SC.sc, and_self], fun hpre => ?_⟩
    simp only [x61, vcF, env0, vcC, vcOps, vcOpsQ, vcOp, evQ, guardOf, rd, rds, lk, opQ, qMv, qBuild, qLoad1, qLoadN, qFld, qPart1, qPartN, qIx1, qIxN, qIxA, qIxS, qBin, qBinb, qEqA, qUn, qConv, qMin, qMax, qLenS, qNil, fin, evPick, evCR, evExt, vcEff, vcBox, vcStore, vcCR, vcCond, tab, plain, kSeq, kBlock, kRet, rets, ret1, retV, St.put, constS, nth, takeAt, setAt, fillS, ups, oks, okcs, S1.ok, SC.ok, Value.oneCell', S1.cells, boxOf, rowOf, binI, isShift, eqCells, eqC, sc1L, sc1, scL, SC.sc, scV, List.map_cons, List.map_nil, List.length_cons, List.length_nil, Nat.reduceAdd, Nat.reduceLeDiff, Nat.reduceEqDiff, Nat.reduceBEq, reduceIte, reduceCtorEq, and_true, true_and, and_self, forall_const, Bool.false_eq_true, Bool.true_eq_false, false_or, or_true, true_or, Nat.add_zero, Nat.zero_add, cond_true, cond_false, beq_self_eq_true, true_implies, false_implies, imp_self, implies_true, Bool.not_not, Bool.and_true, Bool.true_and, Bool.and_false, Bool.false_and, Nat.le_refl, Nat.zero_le, Bool.not_true, Bool.not_false, evQ0, evTup, tupOf, beq_true, beq_false, Bool.cond_false_right, Bool.cond_true_left, Bool.cond_true_right, Bool.cond_false_left, SV.o.injEq, SV.t.injEq, SV.g.injEq, S1.c.injEq, S1.a.injEq, SC.v.injEq, Value.bool.injEq, Value.int.injEq, List.cons.injEq, decide_eq_true_eq, gt_iff_lt, ge_iff_le, ne_eq, Int.reduceLE, Int.cast_ofNat_Int, Int.reduceLT, Int.reduceEq, Int.reduceMul, Int.reduceAdd, Int.reduceSub, not_false_eq_true, not_true_eq_false, upto, leEnv, leEnt, Le, scEnv, scEnt, scE, kLoop, vcD, vcDgo, recOf, recEff, resE, ids1L, S1.ids, SC.ids, idsL, SV.ids, memN, usesX, readsX, slotsL, XO.slots, pushR, alN, nAl, Rec.foot, uIds, uWr, List.nil_append, List.cons_append, List.append_nil, Bool.not_eq_true', decide_eq_false_iff_not, Int.reduceNeg, Int.reduceToNat, Nat.reduceMul, Nat.reduceLT, imp_self, and_imp]
    exact and_255 h
  · cases h
/-- wayfinder/wayfinderbase.Mod -/
def sp41 : List S1 → Option (Prop × SV)
  | [.c (.v (.int .i64 a)), .c (.v (.int .i64 b))] => some (0 < b ∧ -9223372036854775808 ≤ a ∧ a ≤ 9223372036854775807 ∧ -9223372036854775808 ≤ b ∧ b ≤ 9223372036854775807, .o (.c (.v (.int .i64 (a % b)))))
  | _ => none
theorem c41 : COk Try.prog 41 (plain sp41) := by
  refine cok_plain Try.func41 x41_ok (by kernel_rfl) (cok_tab cok_nil) ?_
  intro args pre res h
  unfold sp41 at h
  split at h
  · rename_i a b
    cases h
    refine ⟨by simp only [sc1L, sc1, scL, SC.sc, and_self], by simp only [scV, sc1L, sc1, scL, SC.sc, and_self], fun hpre => ?_⟩
    simp only [x41, vcF, env0, vcC, vcOps, vcOpsQ, vcOp, evQ, guardOf, rd, rds, lk, opQ, qMv, qBuild, qLoad1, qLoadN, qFld, qPart1, qPartN, qIx1, qIxN, qIxA, qIxS, qBin, qBinb, qEqA, qUn, qConv, qMin, qMax, qLenS, qNil, fin, evPick, evCR, evExt, vcEff, vcBox, vcStore, vcCR, vcCond, tab, plain, kSeq, kBlock, kRet, rets, ret1, retV, St.put, constS, nth, takeAt, setAt, fillS, ups, oks, okcs, S1.ok, SC.ok, Value.oneCell', S1.cells, boxOf, rowOf, binI, isShift, eqCells, eqC, sc1L, sc1, scL, SC.sc, scV, List.map_cons, List.map_nil, List.length_cons, List.length_nil, Nat.reduceAdd, Nat.reduceLeDiff, Nat.reduceEqDiff, Nat.reduceBEq, reduceIte, reduceCtorEq, and_true, true_and, and_self, forall_const, Bool.false_eq_true, Bool.true_eq_false, false_or, or_true, true_or, Nat.add_zero, Nat.zero_add, cond_true, cond_false, beq_self_eq_true, true_implies, false_implies, imp_self, implies_true, Bool.not_not, Bool.and_true, Bool.true_and, Bool.and_false, Bool.false_and, Nat.le_refl, Nat.zero_le, Bool.not_true, Bool.not_false, evQ0, evTup, tupOf, beq_true, beq_false, Bool.cond_false_right, Bool.cond_true_left, Bool.cond_true_right, Bool.cond_false_left, SV.o.injEq, SV.t.injEq, SV.g.injEq, S1.c.injEq, S1.a.injEq, SC.v.injEq, Value.bool.injEq, Value.int.injEq, List.cons.injEq, decide_eq_true_eq, gt_iff_lt, ge_iff_le, ne_eq, Int.reduceLE, Int.cast_ofNat_Int, Int.reduceLT, Int.reduceEq, Int.reduceMul, Int.reduceAdd, Int.reduceSub, not_false_eq_true, not_true_eq_false, upto, leEnv, leEnt, Le, scEnv, scEnt, scE, kLoop, vcD, vcDgo, recOf, recEff, resE, ids1L, S1.ids, SC.ids, idsL, SV.ids, memN, usesX, readsX, slotsL, XO.slots, pushR, alN, nAl, Rec.foot, uIds, uWr, List.nil_append, List.cons_append, List.append_nil, Bool.not_eq_true', decide_eq_false_iff_not, Int.reduceNeg, Int.reduceToNat, Nat.reduceMul, Nat.reduceLT, imp_self, and_imp]
    have h0 := emod_range (a := a) (b := b) (by omega)
    refine ⟨by omega, fun h => ?_, fun h => ?_⟩
    · rw [tmod_neg_fix (by omega) h, wrapI (by omega) (by omega)]
    · exact tmod_pos_fix (by omega) h
  · cases h
/-- wayfinder/wayfinderref04.abs -/
def sp91 : List S1 → Option (Prop × SV)
  | [.c (.v (.int .i64 n))] => some (-9223372036854775807 ≤ n ∧ n ≤ 9223372036854775807, .o (.c (.v (.int .i64 (max n (-n))))))
  | _ => none
theorem c91 : COk Try.prog 91 (plain sp91) := by
  refine cok_plain Try.func91 x91_ok (by kernel_rfl) (cok_tab cok_nil) ?_
  intro args pre res h
  unfold sp91 at h
  split at h
  · rename_i n
    cases h
    refine ⟨by simp only [sc1L, sc1, scL, SC.sc, and_self], by simp only [scV, sc1L, sc1, scL, SC.sc, and_self], fun hpre => ?_⟩
    simp only [x91, vcF, env0, vcC, vcOps, vcOpsQ, vcOp, evQ, guardOf, rd, rds, lk, opQ, qMv, qBuild, qLoad1, qLoadN, qFld, qPart1, qPartN, qIx1, qIxN, qIxA, qIxS, qBin, qBinb, qEqA, qUn, qConv, qMin, qMax, qLenS, qNil, fin, evPick, evCR, evExt, vcEff, vcBox, vcStore, vcCR, vcCond, tab, plain, kSeq, kBlock, kRet, rets, ret1, retV, St.put, constS, nth, takeAt, setAt, fillS, ups, oks, okcs, S1.ok, SC.ok, Value.oneCell', S1.cells, boxOf, rowOf, binI, isShift, eqCells, eqC, sc1L, sc1, scL, SC.sc, scV, List.map_cons, List.map_nil, List.length_cons, List.length_nil, Nat.reduceAdd, Nat.reduceLeDiff, Nat.reduceEqDiff, Nat.reduceBEq, reduceIte, reduceCtorEq, and_true, true_and, and_self, forall_const, Bool.false_eq_true, Bool.true_eq_false, false_or, or_true, true_or, Nat.add_zero, Nat.zero_add, cond_true, cond_false, beq_self_eq_true, true_implies, false_implies, imp_self, implies_true, Bool.not_not, Bool.and_true, Bool.true_and, Bool.and_false, Bool.false_and, Nat.le_refl, Nat.zero_le, Bool.not_true, Bool.not_false, evQ0, evTup, tupOf, beq_true, beq_false, Bool.cond_false_right, Bool.cond_true_left, Bool.cond_true_right, Bool.cond_false_left, SV.o.injEq, SV.t.injEq, SV.g.injEq, S1.c.injEq, S1.a.injEq, SC.v.injEq, Value.bool.injEq, Value.int.injEq, List.cons.injEq, decide_eq_true_eq, gt_iff_lt, ge_iff_le, ne_eq, Int.reduceLE, Int.cast_ofNat_Int, Int.reduceLT, Int.reduceEq, Int.reduceMul, Int.reduceAdd, Int.reduceSub, not_false_eq_true, not_true_eq_false, upto, leEnv, leEnt, Le, scEnv, scEnt, scE, kLoop, vcD, vcDgo, recOf, recEff, resE, ids1L, S1.ids, SC.ids, idsL, SV.ids, memN, usesX, readsX, slotsL, XO.slots, pushR, alN, nAl, Rec.foot, uIds, uWr, List.nil_append, List.cons_append, List.append_nil, Bool.not_eq_true', decide_eq_false_iff_not, Int.reduceNeg, Int.reduceToNat, Nat.reduceMul, Nat.reduceLT, imp_self, and_imp]
    rw [wrapI (by omega) (by omega)]
    omega
  · cases h
/-- wayfinder/wayfinderbase.Floor -/
def sp50 : List S1 → Option (Prop × SV)
  | [.c (.v (.int .i64 a)), .c (.v (.int .i64 b))] => some (0 < b ∧ -9223372036854775808 ≤ a ∧ a ≤ 9223372036854775807, .o (.c (.v (.int .i64 (a / b)))))
  | _ => none
theorem c50 : COk Try.prog 50 (plain sp50) := by
  refine cok_plain Try.func50 x50_ok (by kernel_rfl) (cok_tab cok_nil) ?_
  intro args pre res h
  unfold sp50 at h
  split at h
  · rename_i a b
    cases h
    refine ⟨by simp only [sc1L, sc1, scL, SC.sc, and_self], by simp only [scV, sc1L, sc1, scL, SC.sc, and_self], fun hpre => ?_⟩
    simp only [x50, vcF, env0, vcC, vcOps, vcOpsQ, vcOp, evQ, guardOf, rd, rds, lk, opQ, qMv, qBuild, qLoad1, qLoadN, qFld, qPart1, qPartN, qIx1, qIxN, qIxA, qIxS, qBin, qBinb, qEqA, qUn, qConv, qMin, qMax, qLenS, qNil, fin, evPick, evCR, evExt, vcEff, vcBox, vcStore, vcCR, vcCond, tab, plain, kSeq, kBlock, kRet, rets, ret1, retV, St.put, constS, nth, takeAt, setAt, fillS, ups, oks, okcs, S1.ok, SC.ok, Value.oneCell', S1.cells, boxOf, rowOf, binI, isShift, eqCells, eqC, sc1L, sc1, scL, SC.sc, scV, List.map_cons, List.map_nil, List.length_cons, List.length_nil, Nat.reduceAdd, Nat.reduceLeDiff, Nat.reduceEqDiff, Nat.reduceBEq, reduceIte, reduceCtorEq, and_true, true_and, and_self, forall_const, Bool.false_eq_true, Bool.true_eq_false, false_or, or_true, true_or, Nat.add_zero, Nat.zero_add, cond_true, cond_false, beq_self_eq_true, true_implies, false_implies, imp_self, implies_true, Bool.not_not, Bool.and_true, Bool.true_and, Bool.and_false, Bool.false_and, Nat.le_refl, Nat.zero_le, Bool.not_true, Bool.not_false, evQ0, evTup, tupOf, beq_true, beq_false, Bool.cond_false_right, Bool.cond_true_left, Bool.cond_true_right, Bool.cond_false_left, SV.o.injEq, SV.t.injEq, SV.g.injEq, S1.c.injEq, S1.a.injEq, SC.v.injEq, Value.bool.injEq, Value.int.injEq, List.cons.injEq, decide_eq_true_eq, gt_iff_lt, ge_iff_le, ne_eq, Int.reduceLE, Int.cast_ofNat_Int, Int.reduceLT, Int.reduceEq, Int.reduceMul, Int.reduceAdd, Int.reduceSub, not_false_eq_true, not_true_eq_false, upto, leEnv, leEnt, Le, scEnv, scEnt, scE, kLoop, vcD, vcDgo, recOf, recEff, resE, ids1L, S1.ids, SC.ids, idsL, SV.ids, memN, usesX, readsX, slotsL, XO.slots, pushR, alN, nAl, Rec.foot, uIds, uWr, List.nil_append, List.cons_append, List.append_nil, Bool.not_eq_true', decide_eq_false_iff_not, Int.reduceNeg, Int.reduceToNat, Nat.reduceMul, Nat.reduceLT, imp_self, and_imp]
    have h1 := tdiv_range (a := a) (b := b) (by omega) (by omega) (by omega)
    have h2 := ediv_range (a := a) (b := b) (by omega) (by omega) (by omega)
    refine ⟨by omega, by omega, fun h => ?_, fun h => ?_⟩
    · have e := floor_neg (by omega) h
      rw [wrapI h1.1 h1.2, wrapI (by omega) (by omega), e]
    · rw [wrapI h1.1 h1.2, floor_pos (by omega) h]
  · cases h
/-- wayfinder/wayfinderbase.Size -/
def sp25 : List S1 → Option (Prop × SV)
  | [.c (.v (.int .i64 n)), .c (.v (.int .i64 most))] => some (-9223372036854775807 ≤ most ∧ most ≤ 9223372036854775807, .o (.c (.v (.bool (decide (-most ≤ n) && decide (n ≤ most))))))
  | _ => none
theorem c25 : COk Try.prog 25 (plain sp25) := by
  refine cok_plain Try.func25 x25_ok (by kernel_rfl) (cok_tab cok_nil) ?_
  intro args pre res h
  unfold sp25 at h
  split at h
  · rename_i n most
    cases h
    refine ⟨by simp only [sc1L, sc1, scL, SC.sc, and_self], by simp only [scV, sc1L, sc1, scL, SC.sc, and_self], fun hpre => ?_⟩
    simp only [x25, vcF, env0, vcC, vcOps, vcOpsQ, vcOp, evQ, guardOf, rd, rds, lk, opQ, qMv, qBuild, qLoad1, qLoadN, qFld, qPart1, qPartN, qIx1, qIxN, qIxA, qIxS, qBin, qBinb, qEqA, qUn, qConv, qMin, qMax, qLenS, qNil, fin, evPick, evCR, evExt, vcEff, vcBox, vcStore, vcCR, vcCond, tab, plain, kSeq, kBlock, kRet, rets, ret1, retV, St.put, constS, nth, takeAt, setAt, fillS, ups, oks, okcs, S1.ok, SC.ok, Value.oneCell', S1.cells, boxOf, rowOf, binI, isShift, eqCells, eqC, sc1L, sc1, scL, SC.sc, scV, List.map_cons, List.map_nil, List.length_cons, List.length_nil, Nat.reduceAdd, Nat.reduceLeDiff, Nat.reduceEqDiff, Nat.reduceBEq, reduceIte, reduceCtorEq, and_true, true_and, and_self, forall_const, Bool.false_eq_true, Bool.true_eq_false, false_or, or_true, true_or, Nat.add_zero, Nat.zero_add, cond_true, cond_false, beq_self_eq_true, true_implies, false_implies, imp_self, implies_true, Bool.not_not, Bool.and_true, Bool.true_and, Bool.and_false, Bool.false_and, Nat.le_refl, Nat.zero_le, Bool.not_true, Bool.not_false, evQ0, evTup, tupOf, beq_true, beq_false, Bool.cond_false_right, Bool.cond_true_left, Bool.cond_true_right, Bool.cond_false_left, SV.o.injEq, SV.t.injEq, SV.g.injEq, S1.c.injEq, S1.a.injEq, SC.v.injEq, Value.bool.injEq, Value.int.injEq, List.cons.injEq, decide_eq_true_eq, gt_iff_lt, ge_iff_le, ne_eq, Int.reduceLE, Int.cast_ofNat_Int, Int.reduceLT, Int.reduceEq, Int.reduceMul, Int.reduceAdd, Int.reduceSub, not_false_eq_true, not_true_eq_false, upto, leEnv, leEnt, Le, scEnv, scEnt, scE, kLoop, vcD, vcDgo, recOf, recEff, resE, ids1L, S1.ids, SC.ids, idsL, SV.ids, memN, usesX, readsX, slotsL, XO.slots, pushR, alN, nAl, Rec.foot, uIds, uWr, List.nil_append, List.cons_append, List.append_nil, Bool.not_eq_true', decide_eq_false_iff_not, Int.reduceNeg, Int.reduceToNat, Nat.reduceMul, Nat.reduceLT, imp_self, and_imp]
    rw [wrapI (by omega) (by omega), Int.zero_sub]
  · cases h
/-- wayfinder/wayfinderbase.Point -/
def sp49 : List S1 → Option (Prop × SV)
  | [.a [.v (.int .i64 p_X), .v (.int .i64 p_Y)]] => some (True, .o (.c (.v (.bool (decide (-1048576 ≤ p_X ∧ p_X ≤ 1048576 ∧ -1048576 ≤ p_Y ∧ p_Y ≤ 1048576))))))
  | _ => none
theorem c49 : COk Try.prog 49 (plain sp49) := by
  refine cok_plain Try.func49 x49_ok (by kernel_rfl) (cok_tab (cok_cons c25 cok_nil)) ?_
  intro args pre res h
  unfold sp49 at h
  split at h
  · rename_i p_X p_Y
    cases h
    refine ⟨by simp only [sc1L, sc1, scL, SC.sc, and_self], by simp only [scV, sc1L, sc1, scL, SC.sc, and_self], fun hpre => ?_⟩
    simp only [x49, vcF, env0, vcC, vcOps, vcOpsQ, vcOp, evQ, guardOf, rd, rds, lk, opQ, qMv, qBuild, qLoad1, qLoadN, qFld, qPart1, qPartN, qIx1, qIxN, qIxA, qIxS, qBin, qBinb, qEqA, qUn, qConv, qMin, qMax, qLenS, qNil, fin, evPick, evCR, evExt, vcEff, vcBox, vcStore, vcCR, vcCond, tab, plain, kSeq, kBlock, kRet, rets, ret1, retV, St.put, constS, nth, takeAt, setAt, fillS, ups, oks, okcs, S1.ok, SC.ok, Value.oneCell', S1.cells, boxOf, rowOf, binI, isShift, eqCells, eqC, sc1L, sc1, scL, SC.sc, scV, List.map_cons, List.map_nil, List.length_cons, List.length_nil, Nat.reduceAdd, Nat.reduceLeDiff, Nat.reduceEqDiff, Nat.reduceBEq, reduceIte, reduceCtorEq, and_true, true_and, and_self, forall_const, Bool.false_eq_true, Bool.true_eq_false, false_or, or_true, true_or, Nat.add_zero, Nat.zero_add, cond_true, cond_false, beq_self_eq_true, true_implies, false_implies, imp_self, implies_true, Bool.not_not, Bool.and_true, Bool.true_and, Bool.and_false, Bool.false_and, Nat.le_refl, Nat.zero_le, Bool.not_true, Bool.not_false, evQ0, evTup, tupOf, beq_true, beq_false, Bool.cond_false_right, Bool.cond_true_left, Bool.cond_true_right, Bool.cond_false_left, SV.o.injEq, SV.t.injEq, SV.g.injEq, S1.c.injEq, S1.a.injEq, SC.v.injEq, Value.bool.injEq, Value.int.injEq, List.cons.injEq, decide_eq_true_eq, gt_iff_lt, ge_iff_le, ne_eq, Int.reduceLE, Int.cast_ofNat_Int, Int.reduceLT, Int.reduceEq, Int.reduceMul, Int.reduceAdd, Int.reduceSub, not_false_eq_true, not_true_eq_false, upto, leEnv, leEnt, Le, scEnv, scEnt, scE, kLoop, vcD, vcDgo, recOf, recEff, resE, ids1L, S1.ids, SC.ids, idsL, SV.ids, memN, usesX, readsX, slotsL, XO.slots, pushR, alN, nAl, Rec.foot, uIds, uWr, List.nil_append, List.cons_append, List.append_nil, Bool.not_eq_true', decide_eq_false_iff_not, Int.reduceNeg, Int.reduceToNat, Nat.reduceMul, Nat.reduceLT, imp_self, and_imp, sp25]
    refine bool_ext ?_
    simp only [Bool.and_eq_true, decide_eq_true_eq]
    omega
  · cases h
/-- wayfinder/wayfinderbase.Pose -/
def sp39 : List S1 → Option (Prop × SV)
  | [.a [.v (.int .i64 p_X), .v (.int .i64 p_Y), .v (.int .i64 p_H)]] => some (True, .o (.c (.v (.bool (decide (-1048576 ≤ p_X ∧ p_X ≤ 1048576 ∧ -1048576 ≤ p_Y ∧ p_Y ≤ 1048576 ∧ 0 ≤ p_H ∧ p_H ≤ 255))))))
  | _ => none
theorem c39 : COk Try.prog 39 (plain sp39) := by
  refine cok_plain Try.func39 x39_ok (by kernel_rfl) (cok_tab (cok_cons c25 cok_nil)) ?_
  intro args pre res h
  unfold sp39 at h
  split at h
  · rename_i p_X p_Y p_H
    cases h
    refine ⟨by simp only [sc1L, sc1, scL, SC.sc, and_self], by simp only [scV, sc1L, sc1, scL, SC.sc, and_self], fun hpre => ?_⟩
    simp only [x39, vcF, env0, vcC, vcOps, vcOpsQ, vcOp, evQ, guardOf, rd, rds, lk, opQ, qMv, qBuild, qLoad1, qLoadN, qFld, qPart1, qPartN, qIx1, qIxN, qIxA, qIxS, qBin, qBinb, qEqA, qUn, qConv, qMin, qMax, qLenS, qNil, fin, evPick, evCR, evExt, vcEff, vcBox, vcStore, vcCR, vcCond, tab, plain, kSeq, kBlock, kRet, rets, ret1, retV, St.put, constS, nth, takeAt, setAt, fillS, ups, oks, okcs, S1.ok, SC.ok, Value.oneCell', S1.cells, boxOf, rowOf, binI, isShift, eqCells, eqC, sc1L, sc1, scL, SC.sc, scV, List.map_cons, List.map_nil, List.length_cons, List.length_nil, Nat.reduceAdd, Nat.reduceLeDiff, Nat.reduceEqDiff, Nat.reduceBEq, reduceIte, reduceCtorEq, and_true, true_and, and_self, forall_const, Bool.false_eq_true, Bool.true_eq_false, false_or, or_true, true_or, Nat.add_zero, Nat.zero_add, cond_true, cond_false, beq_self_eq_true, true_implies, false_implies, imp_self, implies_true, Bool.not_not, Bool.and_true, Bool.true_and, Bool.and_false, Bool.false_and, Nat.le_refl, Nat.zero_le, Bool.not_true, Bool.not_false, evQ0, evTup, tupOf, beq_true, beq_false, Bool.cond_false_right, Bool.cond_true_left, Bool.cond_true_right, Bool.cond_false_left, SV.o.injEq, SV.t.injEq, SV.g.injEq, S1.c.injEq, S1.a.injEq, SC.v.injEq, Value.bool.injEq, Value.int.injEq, List.cons.injEq, decide_eq_true_eq, gt_iff_lt, ge_iff_le, ne_eq, Int.reduceLE, Int.cast_ofNat_Int, Int.reduceLT, Int.reduceEq, Int.reduceMul, Int.reduceAdd, Int.reduceSub, not_false_eq_true, not_true_eq_false, upto, leEnv, leEnt, Le, scEnv, scEnt, scE, kLoop, vcD, vcDgo, recOf, recEff, resE, ids1L, S1.ids, SC.ids, idsL, SV.ids, memN, usesX, readsX, slotsL, XO.slots, pushR, alN, nAl, Rec.foot, uIds, uWr, List.nil_append, List.cons_append, List.append_nil, Bool.not_eq_true', decide_eq_false_iff_not, Int.reduceNeg, Int.reduceToNat, Nat.reduceMul, Nat.reduceLT, imp_self, and_imp, sp25]
    refine bool_ext ?_
    simp only [Bool.and_eq_true, decide_eq_true_eq]
    omega
  · cases h
/-- wayfinder/wayfinderbase.Command -/
def sp40 : List S1 → Option (Prop × SV)
  | [.a [.v (.int .i64 c_Turn), .v (.int .i64 c_Forward)]] => some (True, .o (.c (.v (.bool (decide (-32 ≤ c_Turn ∧ c_Turn ≤ 32 ∧ 0 ≤ c_Forward ∧ c_Forward ≤ 32))))))
  | _ => none
theorem c40 : COk Try.prog 40 (plain sp40) := by
  refine cok_plain Try.func40 x40_ok (by kernel_rfl) (cok_tab (cok_cons c25 cok_nil)) ?_
  intro args pre res h
  unfold sp40 at h
  split at h
  · rename_i c_Turn c_Forward
    cases h
    refine ⟨by simp only [sc1L, sc1, scL, SC.sc, and_self], by simp only [scV, sc1L, sc1, scL, SC.sc, and_self], fun hpre => ?_⟩
    simp only [x40, vcF, env0, vcC, vcOps, vcOpsQ, vcOp, evQ, guardOf, rd, rds, lk, opQ, qMv, qBuild, qLoad1, qLoadN, qFld, qPart1, qPartN, qIx1, qIxN, qIxA, qIxS, qBin, qBinb, qEqA, qUn, qConv, qMin, qMax, qLenS, qNil, fin, evPick, evCR, evExt, vcEff, vcBox, vcStore, vcCR, vcCond, tab, plain, kSeq, kBlock, kRet, rets, ret1, retV, St.put, constS, nth, takeAt, setAt, fillS, ups, oks, okcs, S1.ok, SC.ok, Value.oneCell', S1.cells, boxOf, rowOf, binI, isShift, eqCells, eqC, sc1L, sc1, scL, SC.sc, scV, List.map_cons, List.map_nil, List.length_cons, List.length_nil, Nat.reduceAdd, Nat.reduceLeDiff, Nat.reduceEqDiff, Nat.reduceBEq, reduceIte, reduceCtorEq, and_true, true_and, and_self, forall_const, Bool.false_eq_true, Bool.true_eq_false, false_or, or_true, true_or, Nat.add_zero, Nat.zero_add, cond_true, cond_false, beq_self_eq_true, true_implies, false_implies, imp_self, implies_true, Bool.not_not, Bool.and_true, Bool.true_and, Bool.and_false, Bool.false_and, Nat.le_refl, Nat.zero_le, Bool.not_true, Bool.not_false, evQ0, evTup, tupOf, beq_true, beq_false, Bool.cond_false_right, Bool.cond_true_left, Bool.cond_true_right, Bool.cond_false_left, SV.o.injEq, SV.t.injEq, SV.g.injEq, S1.c.injEq, S1.a.injEq, SC.v.injEq, Value.bool.injEq, Value.int.injEq, List.cons.injEq, decide_eq_true_eq, gt_iff_lt, ge_iff_le, ne_eq, Int.reduceLE, Int.cast_ofNat_Int, Int.reduceLT, Int.reduceEq, Int.reduceMul, Int.reduceAdd, Int.reduceSub, not_false_eq_true, not_true_eq_false, upto, leEnv, leEnt, Le, scEnv, scEnt, scE, kLoop, vcD, vcDgo, recOf, recEff, resE, ids1L, S1.ids, SC.ids, idsL, SV.ids, memN, usesX, readsX, slotsL, XO.slots, pushR, alN, nAl, Rec.foot, uIds, uWr, List.nil_append, List.cons_append, List.append_nil, Bool.not_eq_true', decide_eq_false_iff_not, Int.reduceNeg, Int.reduceToNat, Nat.reduceMul, Nat.reduceLT, imp_self, and_imp, sp25]
    refine bool_ext ?_
    simp only [Bool.and_eq_true, decide_eq_true_eq]
    omega
  · cases h
/-- wayfinder/wayfinderbase.Bounds -/
def sp44 : List S1 → Option (Prop × SV)
  | [.a [.v (.int .i64 b_Turn), .v (.int .i64 b_Length), .v (.int .i64 b_Slip), .v (.int .i64 b_Range)]] => some (True, .o (.c (.v (.bool (decide (0 ≤ b_Turn ∧ b_Turn ≤ 8 ∧ 0 ≤ b_Length ∧ b_Length ≤ 16 ∧ 0 ≤ b_Slip ∧ b_Slip ≤ 8 ∧ 1 ≤ b_Range ∧ b_Range ≤ 32))))))
  | _ => none
theorem c44 : COk Try.prog 44 (plain sp44) := by
  refine cok_plain Try.func44 x44_ok (by kernel_rfl) (cok_tab cok_nil) ?_
  intro args pre res h
  unfold sp44 at h
  split at h
  · rename_i b_Turn b_Length b_Slip b_Range
    cases h
    refine ⟨by simp only [sc1L, sc1, scL, SC.sc, and_self], by simp only [scV, sc1L, sc1, scL, SC.sc, and_self], fun hpre => ?_⟩
    simp only [x44, vcF, env0, vcC, vcOps, vcOpsQ, vcOp, evQ, guardOf, rd, rds, lk, opQ, qMv, qBuild, qLoad1, qLoadN, qFld, qPart1, qPartN, qIx1, qIxN, qIxA, qIxS, qBin, qBinb, qEqA, qUn, qConv, qMin, qMax, qLenS, qNil, fin, evPick, evCR, evExt, vcEff, vcBox, vcStore, vcCR, vcCond, tab, plain, kSeq, kBlock, kRet, rets, ret1, retV, St.put, constS, nth, takeAt, setAt, fillS, ups, oks, okcs, S1.ok, SC.ok, Value.oneCell', S1.cells, boxOf, rowOf, binI, isShift, eqCells, eqC, sc1L, sc1, scL, SC.sc, scV, List.map_cons, List.map_nil, List.length_cons, List.length_nil, Nat.reduceAdd, Nat.reduceLeDiff, Nat.reduceEqDiff, Nat.reduceBEq, reduceIte, reduceCtorEq, and_true, true_and, and_self, forall_const, Bool.false_eq_true, Bool.true_eq_false, false_or, or_true, true_or, Nat.add_zero, Nat.zero_add, cond_true, cond_false, beq_self_eq_true, true_implies, false_implies, imp_self, implies_true, Bool.not_not, Bool.and_true, Bool.true_and, Bool.and_false, Bool.false_and, Nat.le_refl, Nat.zero_le, Bool.not_true, Bool.not_false, evQ0, evTup, tupOf, beq_true, beq_false, Bool.cond_false_right, Bool.cond_true_left, Bool.cond_true_right, Bool.cond_false_left, SV.o.injEq, SV.t.injEq, SV.g.injEq, S1.c.injEq, S1.a.injEq, SC.v.injEq, Value.bool.injEq, Value.int.injEq, List.cons.injEq, decide_eq_true_eq, gt_iff_lt, ge_iff_le, ne_eq, Int.reduceLE, Int.cast_ofNat_Int, Int.reduceLT, Int.reduceEq, Int.reduceMul, Int.reduceAdd, Int.reduceSub, not_false_eq_true, not_true_eq_false, upto, leEnv, leEnt, Le, scEnv, scEnt, scE, kLoop, vcD, vcDgo, recOf, recEff, resE, ids1L, S1.ids, SC.ids, idsL, SV.ids, memN, usesX, readsX, slotsL, XO.slots, pushR, alN, nAl, Rec.foot, uIds, uWr, List.nil_append, List.cons_append, List.append_nil, Bool.not_eq_true', decide_eq_false_iff_not, Int.reduceNeg, Int.reduceToNat, Nat.reduceMul, Nat.reduceLT, imp_self, and_imp]
    refine bool_ext ?_
    simp only [Bool.and_eq_true, decide_eq_true_eq]
    omega
  · cases h
/-- wayfinder/wayfinderref04.gcd -/
def sp90 : List S1 → Option (Prop × SV)
  | [.c (.v (.int .i64 a)), .c (.v (.int .i64 b)), .c (.v (.int .i64 c))] => some (0 ≤ a ∧ 0 ≤ b ∧ 0 < c ∧ a ≤ 9223372036854775807 ∧ b ≤ 9223372036854775807 ∧ c ≤ 9223372036854775807, .o (.c (.v (.int .i64 (gcd3 a b c)))))
  | _ => none
theorem c90 : COk Try.prog 90 (plain sp90) := by
  refine cok_plain Try.func90 x90_ok (by kernel_rfl) (cok_tab cok_nil) ?_
  intro args pre res h
  unfold sp90 at h
  split at h
  · rename_i a b c
    cases h
    refine ⟨by simp only [sc1L, sc1, scL, SC.sc, and_self], by simp only [scV, sc1L, sc1, scL, SC.sc, and_self], fun hpre => ?_⟩
    simp only [x90, vcF, env0, vcC, vcOps, vcOpsQ, vcOp, evQ, guardOf, rd, rds, lk, opQ, qMv, qBuild, qLoad1, qLoadN, qFld, qPart1, qPartN, qIx1, qIxN, qIxA, qIxS, qBin, qBinb, qEqA, qUn, qConv, qMin, qMax, qLenS, qNil, fin, evPick, evCR, evExt, vcEff, vcBox, vcStore, vcCR, vcCond, tab, plain, kSeq, kBlock, kRet, rets, ret1, retV, St.put, constS, nth, takeAt, setAt, fillS, ups, oks, okcs, S1.ok, SC.ok, Value.oneCell', S1.cells, boxOf, rowOf, binI, isShift, eqCells, eqC, sc1L, sc1, scL, SC.sc, scV, List.map_cons, List.map_nil, List.length_cons, List.length_nil, Nat.reduceAdd, Nat.reduceLeDiff, Nat.reduceEqDiff, Nat.reduceBEq, reduceIte, reduceCtorEq, and_true, true_and, and_self, forall_const, Bool.false_eq_true, Bool.true_eq_false, false_or, or_true, true_or, Nat.add_zero, Nat.zero_add, cond_true, cond_false, beq_self_eq_true, true_implies, false_implies, imp_self, implies_true, Bool.not_not, Bool.and_true, Bool.true_and, Bool.and_false, Bool.false_and, Nat.le_refl, Nat.zero_le, Bool.not_true, Bool.not_false, evQ0, evTup, tupOf, beq_true, beq_false, Bool.cond_false_right, Bool.cond_true_left, Bool.cond_true_right, Bool.cond_false_left, SV.o.injEq, SV.t.injEq, SV.g.injEq, S1.c.injEq, S1.a.injEq, SC.v.injEq, Value.bool.injEq, Value.int.injEq, List.cons.injEq, decide_eq_true_eq, gt_iff_lt, ge_iff_le, ne_eq, Int.reduceLE, Int.cast_ofNat_Int, Int.reduceLT, Int.reduceEq, Int.reduceMul, Int.reduceAdd, Int.reduceSub, not_false_eq_true, not_true_eq_false, upto, leEnv, leEnt, Le, scEnv, scEnt, scE, kLoop, vcD, vcDgo, recOf, recEff, resE, ids1L, S1.ids, SC.ids, idsL, SV.ids, memN, usesX, readsX, slotsL, XO.slots, pushR, alN, nAl, Rec.foot, uIds, uWr, List.nil_append, List.cons_append, List.append_nil, Bool.not_eq_true', decide_eq_false_iff_not, Int.reduceNeg, Int.reduceToNat, Nat.reduceMul, Nat.reduceLT, imp_self, and_imp]
    obtain ⟨ha, hb, hc, ha', hb', hc'⟩ := hpre
    refine vcLoop_intro (α := {p : Int × Int // 0 ≤ p.1 ∧ 0 ≤ p.2 ∧ p.1 ≤ 9223372036854775807 ∧ p.2 ≤ 9223372036854775807 ∧ Int.gcd p.1 p.2 = Int.gcd a b})
      (fun p => ⟨[(0, .o (.c (.v (.int .i64 p.1.1)))), (1, .o (.c (.v (.int .i64 p.1.2)))), (2, .o (.c (.v (.int .i64 c))))], [], 0⟩) (fun p => p.1.2.toNat) ⟨(a, b), ha, hb, ha', hb', rfl⟩ ?_ ?_
    · simp only [vcF, env0, vcC, vcOps, vcOpsQ, vcOp, evQ, guardOf, rd, rds, lk, opQ, qMv, qBuild, qLoad1, qLoadN, qFld, qPart1, qPartN, qIx1, qIxN, qIxA, qIxS, qBin, qBinb, qEqA, qUn, qConv, qMin, qMax, qLenS, qNil, fin, evPick, evCR, evExt, vcEff, vcBox, vcStore, vcCR, vcCond, tab, plain, kSeq, kBlock, kRet, rets, ret1, retV, St.put, constS, nth, takeAt, setAt, fillS, ups, oks, okcs, S1.ok, SC.ok, Value.oneCell', S1.cells, boxOf, rowOf, binI, isShift, eqCells, eqC, sc1L, sc1, scL, SC.sc, scV, List.map_cons, List.map_nil, List.length_cons, List.length_nil, Nat.reduceAdd, Nat.reduceLeDiff, Nat.reduceEqDiff, Nat.reduceBEq, reduceIte, reduceCtorEq, and_true, true_and, and_self, forall_const, Bool.false_eq_true, Bool.true_eq_false, false_or, or_true, true_or, Nat.add_zero, Nat.zero_add, cond_true, cond_false, beq_self_eq_true, true_implies, false_implies, imp_self, implies_true, Bool.not_not, Bool.and_true, Bool.true_and, Bool.and_false, Bool.false_and, Nat.le_refl, Nat.zero_le, Bool.not_true, Bool.not_false, evQ0, evTup, tupOf, beq_true, beq_false, Bool.cond_false_right, Bool.cond_true_left, Bool.cond_true_right, Bool.cond_false_left, SV.o.injEq, SV.t.injEq, SV.g.injEq, S1.c.injEq, S1.a.injEq, SC.v.injEq, Value.bool.injEq, Value.int.injEq, List.cons.injEq, decide_eq_true_eq, gt_iff_lt, ge_iff_le, ne_eq, Int.reduceLE, Int.cast_ofNat_Int, Int.reduceLT, Int.reduceEq, Int.reduceMul, Int.reduceAdd, Int.reduceSub, not_false_eq_true, not_true_eq_false, upto, leEnv, leEnt, Le, scEnv, scEnt, scE, kLoop, vcD, vcDgo, recOf, recEff, resE, ids1L, S1.ids, SC.ids, idsL, SV.ids, memN, usesX, readsX, slotsL, XO.slots, pushR, alN, nAl, Rec.foot, uIds, uWr, List.nil_append, List.cons_append, List.append_nil, Bool.not_eq_true', decide_eq_false_iff_not, Int.reduceNeg, Int.reduceToNat, Nat.reduceMul, Nat.reduceLT, imp_self, and_imp]
    · rintro ⟨⟨g, n⟩, hg, hn, hg', hn', he⟩
      simp only [x90L0, vcF, env0, vcC, vcOps, vcOpsQ, vcOp, evQ, guardOf, rd, rds, lk, opQ, qMv, qBuild, qLoad1, qLoadN, qFld, qPart1, qPartN, qIx1, qIxN, qIxA, qIxS, qBin, qBinb, qEqA, qUn, qConv, qMin, qMax, qLenS, qNil, fin, evPick, evCR, evExt, vcEff, vcBox, vcStore, vcCR, vcCond, tab, plain, kSeq, kBlock, kRet, rets, ret1, retV, St.put, constS, nth, takeAt, setAt, fillS, ups, oks, okcs, S1.ok, SC.ok, Value.oneCell', S1.cells, boxOf, rowOf, binI, isShift, eqCells, eqC, sc1L, sc1, scL, SC.sc, scV, List.map_cons, List.map_nil, List.length_cons, List.length_nil, Nat.reduceAdd, Nat.reduceLeDiff, Nat.reduceEqDiff, Nat.reduceBEq, reduceIte, reduceCtorEq, and_true, true_and, and_self, forall_const, Bool.false_eq_true, Bool.true_eq_false, false_or, or_true, true_or, Nat.add_zero, Nat.zero_add, cond_true, cond_false, beq_self_eq_true, true_implies, false_implies, imp_self, implies_true, Bool.not_not, Bool.and_true, Bool.true_and, Bool.and_false, Bool.false_and, Nat.le_refl, Nat.zero_le, Bool.not_true, Bool.not_false, evQ0, evTup, tupOf, beq_true, beq_false, Bool.cond_false_right, Bool.cond_true_left, Bool.cond_true_right, Bool.cond_false_left, SV.o.injEq, SV.t.injEq, SV.g.injEq, S1.c.injEq, S1.a.injEq, SC.v.injEq, Value.bool.injEq, Value.int.injEq, List.cons.injEq, decide_eq_true_eq, gt_iff_lt, ge_iff_le, ne_eq, Int.reduceLE, Int.cast_ofNat_Int, Int.reduceLT, Int.reduceEq, Int.reduceMul, Int.reduceAdd, Int.reduceSub, not_false_eq_true, not_true_eq_false, upto, leEnv, leEnt, Le, scEnv, scEnt, scE, kLoop, vcD, vcDgo, recOf, recEff, resE, ids1L, S1.ids, SC.ids, idsL, SV.ids, memN, usesX, readsX, slotsL, XO.slots, pushR, alN, nAl, Rec.foot, uIds, uWr, List.nil_append, List.cons_append, List.append_nil, Bool.not_eq_true', decide_eq_false_iff_not, Int.reduceNeg, Int.reduceToNat, Nat.reduceMul, Nat.reduceLT, imp_self, and_imp]
      simp only at hg hn hg' hn' he
      refine ⟨fun h => ?_, fun h => ?_⟩
      · have hm := emod_range (a := g) (b := n) h
        have hs := gcd_step g n hn hg
        rw [tmod_pos hg] at hs ⊢
        refine ⟨by omega, ⟨(n, g % n), hn, hm.1, hn', by omega, ?_⟩, by simp, by simp only; omega⟩
        simp only
        rw [hs]; exact he
      · obtain rfl : n = 0 := by omega
        simp only [Int.gcd_zero_right] at he
        refine vcLoop_intro (α := {p : Int × Int // 0 ≤ p.1 ∧ 0 ≤ p.2 ∧ p.1 ≤ 9223372036854775807 ∧ p.2 ≤ 9223372036854775807 ∧ Int.gcd p.1 p.2 = Int.gcd g c})
          (fun p => ⟨[(0, .o (.c (.v (.int .i64 p.1.1)))), (2, .o (.c (.v (.int .i64 p.1.2))))], [], 0⟩) (fun p => p.1.2.toNat) ⟨(g, c), hg, Int.le_of_lt hc, hg', hc', rfl⟩ ?_ ?_
        · simp only [vcF, env0, vcC, vcOps, vcOpsQ, vcOp, evQ, guardOf, rd, rds, lk, opQ, qMv, qBuild, qLoad1, qLoadN, qFld, qPart1, qPartN, qIx1, qIxN, qIxA, qIxS, qBin, qBinb, qEqA, qUn, qConv, qMin, qMax, qLenS, qNil, fin, evPick, evCR, evExt, vcEff, vcBox, vcStore, vcCR, vcCond, tab, plain, kSeq, kBlock, kRet, rets, ret1, retV, St.put, constS, nth, takeAt, setAt, fillS, ups, oks, okcs, S1.ok, SC.ok, Value.oneCell', S1.cells, boxOf, rowOf, binI, isShift, eqCells, eqC, sc1L, sc1, scL, SC.sc, scV, List.map_cons, List.map_nil, List.length_cons, List.length_nil, Nat.reduceAdd, Nat.reduceLeDiff, Nat.reduceEqDiff, Nat.reduceBEq, reduceIte, reduceCtorEq, and_true, true_and, and_self, forall_const, Bool.false_eq_true, Bool.true_eq_false, false_or, or_true, true_or, Nat.add_zero, Nat.zero_add, cond_true, cond_false, beq_self_eq_true, true_implies, false_implies, imp_self, implies_true, Bool.not_not, Bool.and_true, Bool.true_and, Bool.and_false, Bool.false_and, Nat.le_refl, Nat.zero_le, Bool.not_true, Bool.not_false, evQ0, evTup, tupOf, beq_true, beq_false, Bool.cond_false_right, Bool.cond_true_left, Bool.cond_true_right, Bool.cond_false_left, SV.o.injEq, SV.t.injEq, SV.g.injEq, S1.c.injEq, S1.a.injEq, SC.v.injEq, Value.bool.injEq, Value.int.injEq, List.cons.injEq, decide_eq_true_eq, gt_iff_lt, ge_iff_le, ne_eq, Int.reduceLE, Int.cast_ofNat_Int, Int.reduceLT, Int.reduceEq, Int.reduceMul, Int.reduceAdd, Int.reduceSub, not_false_eq_true, not_true_eq_false, upto, leEnv, leEnt, Le, scEnv, scEnt, scE, kLoop, vcD, vcDgo, recOf, recEff, resE, ids1L, S1.ids, SC.ids, idsL, SV.ids, memN, usesX, readsX, slotsL, XO.slots, pushR, alN, nAl, Rec.foot, uIds, uWr, List.nil_append, List.cons_append, List.append_nil, Bool.not_eq_true', decide_eq_false_iff_not, Int.reduceNeg, Int.reduceToNat, Nat.reduceMul, Nat.reduceLT, imp_self, and_imp]
        · rintro ⟨⟨g2, n2⟩, hg2, hn2, hg2', hn2', he2⟩
          simp only [x90L1, vcF, env0, vcC, vcOps, vcOpsQ, vcOp, evQ, guardOf, rd, rds, lk, opQ, qMv, qBuild, qLoad1, qLoadN, qFld, qPart1, qPartN, qIx1, qIxN, qIxA, qIxS, qBin, qBinb, qEqA, qUn, qConv, qMin, qMax, qLenS, qNil, fin, evPick, evCR, evExt, vcEff, vcBox, vcStore, vcCR, vcCond, tab, plain, kSeq, kBlock, kRet, rets, ret1, retV, St.put, constS, nth, takeAt, setAt, fillS, ups, oks, okcs, S1.ok, SC.ok, Value.oneCell', S1.cells, boxOf, rowOf, binI, isShift, eqCells, eqC, sc1L, sc1, scL, SC.sc, scV, List.map_cons, List.map_nil, List.length_cons, List.length_nil, Nat.reduceAdd, Nat.reduceLeDiff, Nat.reduceEqDiff, Nat.reduceBEq, reduceIte, reduceCtorEq, and_true, true_and, and_self, forall_const, Bool.false_eq_true, Bool.true_eq_false, false_or, or_true, true_or, Nat.add_zero, Nat.zero_add, cond_true, cond_false, beq_self_eq_true, true_implies, false_implies, imp_self, implies_true, Bool.not_not, Bool.and_true, Bool.true_and, Bool.and_false, Bool.false_and, Nat.le_refl, Nat.zero_le, Bool.not_true, Bool.not_false, evQ0, evTup, tupOf, beq_true, beq_false, Bool.cond_false_right, Bool.cond_true_left, Bool.cond_true_right, Bool.cond_false_left, SV.o.injEq, SV.t.injEq, SV.g.injEq, S1.c.injEq, S1.a.injEq, SC.v.injEq, Value.bool.injEq, Value.int.injEq, List.cons.injEq, decide_eq_true_eq, gt_iff_lt, ge_iff_le, ne_eq, Int.reduceLE, Int.cast_ofNat_Int, Int.reduceLT, Int.reduceEq, Int.reduceMul, Int.reduceAdd, Int.reduceSub, not_false_eq_true, not_true_eq_false, upto, leEnv, leEnt, Le, scEnv, scEnt, scE, kLoop, vcD, vcDgo, recOf, recEff, resE, ids1L, S1.ids, SC.ids, idsL, SV.ids, memN, usesX, readsX, slotsL, XO.slots, pushR, alN, nAl, Rec.foot, uIds, uWr, List.nil_append, List.cons_append, List.append_nil, Bool.not_eq_true', decide_eq_false_iff_not, Int.reduceNeg, Int.reduceToNat, Nat.reduceMul, Nat.reduceLT, imp_self, and_imp]
          simp only at hg2 hn2 hg2' hn2' he2
          refine ⟨fun h => ?_, fun h => ?_⟩
          · have hm := emod_range (a := g2) (b := n2) h
            have hs := gcd_step g2 n2 hn2 hg2
            rw [tmod_pos hg2] at hs ⊢
            refine ⟨by omega, ⟨(n2, g2 % n2), hn2, hm.1, hn2', by omega, ?_⟩, by simp, by simp only; omega⟩
            simp only
            rw [hs]; exact he2
          · obtain rfl : n2 = 0 := by omega
            simp only [Int.gcd_zero_right] at he2
            unfold gcd3
            rw [← he]
            have e1 : ((g.natAbs : Nat) : Int) = g := Int.natAbs_of_nonneg hg
            rw [e1, ← he2, Int.natAbs_of_nonneg hg2]
  · cases h
end Go.Proofs.Ytjcpefnbongmaaa
