/- A part of the proof of a statement about this seat: how a function is stepped through, and plain laws. No conditions. -/
import Derived.Test.YtgpbokembopapaaGreatRows
import Derived.Test.YtgpbokembopapaaGreatFLSz3
import Derived.KernelRfl
set_option linter.unusedVariables false
set_option linter.unusedSimpArgs false
set_option maxRecDepth 20000
namespace Go.Proofs.YtgpbokembopapaaGreat
open Go.Sx
def x159:XFn:=⟨9,(.seq (.reg false [K1 2 .mv (.bool false)]) (.seq (.reg false [O1 3 .mv 0,K2 4 (.bin .geq) 3 (iV (-2097152)),O1 5 .mv 4,G1 6 .mv 0 5 true,GK 7 (.bin .leq) 6 (iV 2097152) 5 true,⟨(some 8),.pick,[(.t 5),(.t 7),(.k (.bool false))],none⟩,O1 2 .mv 8]) .ret)),[(.s 2)]⟩
theorem x159_ok:xfn Tryz.prog Tryz.f159=some x159.er:=by kernel_rfl
def x160:XFn:=⟨11,(.seq (.reg false [O1 1 (.box 102) 0,K1 2 .mv (.bool false)]) (.seq (.reg false [O1 3 (.fld 0) 1,O1 4 .load1 3,O1 5 (.call 159) 4,O1 6 .mv 5,G1 7 (.fld 1) 1 6 true,G1 8 .load1 7 6 true,G1 9 (.call 159) 8 6 true,⟨(some 10),.pick,[(.t 6),(.t 9),(.k (.bool false))],none⟩,O1 2 .mv 10]) .ret)),[(.s 2)]⟩
theorem x160_ok:xfn Tryz.prog Tryz.f160=some x160.er:=by kernel_rfl
def x161:XFn:=⟨58,(.seq (.reg false [O1 1 (.box 104) 0,K1 2 .mv (.bool false)]) (.seq (.seq (.reg false [O1 3 (.fld 2) 1,O1 4 .load1 3,K2 5 (.bin .lss) 4 (iV 1),O1 6 .mv 5,G1 7 (.fld 2) 1 6 false,G1 8 .load1 7 6 false,GK 9 (.bin .gtr) 8 (iV 67108864) 6 false,⟨(some 10),.pick,[(.t 6),(.k (.bool true)),(.t 9)],none⟩,O1 11 .mv 10,G1 12 (.fld 0) 1 11 false,G1 13 .load1 12 11 false,G1 14 (.fld 2) 1 11 false,G1 15 .load1 14 11 false,G1 16 (.un .neg) 15 11 false,G2 17 (.bin .lss) 13 16 11 false,⟨(some 18),.pick,[(.t 11),(.k (.bool true)),(.t 17)],none⟩,O1 19 .mv 18,G1 20 (.fld 0) 1 19 false,G1 21 .load1 20 19 false,G1 22 (.fld 2) 1 19 false,G1 23 .load1 22 19 false,G2 24 (.bin .gtr) 21 23 19 false,⟨(some 25),.pick,[(.t 19),(.k (.bool true)),(.t 24)],none⟩,O1 26 .mv 25,G1 27 (.fld 1) 1 26 false,G1 28 .load1 27 26 false,G1 29 (.fld 2) 1 26 false,G1 30 .load1 29 26 false,G1 31 (.un .neg) 30 26 false,G2 32 (.bin .lss) 28 31 26 false,⟨(some 33),.pick,[(.t 26),(.k (.bool true)),(.t 32)],none⟩,O1 34 .mv 33,G1 35 (.fld 1) 1 34 false,G1 36 .load1 35 34 false,G1 37 (.fld 2) 1 34 false,G1 38 .load1 37 34 false,G2 39 (.bin .gtr) 36 38 34 false,⟨(some 40),.pick,[(.t 34),(.k (.bool true)),(.t 39)],none⟩]) (.cond (.t 40) (.seq (.reg false [K1 2 .mv (.bool false)]) .ret) .skip)) (.seq (.reg false [O1 41 (.fld 0) 1,O1 42 .load1 41,O1 43 (.fld 0) 1,O1 44 .load1 43,O2 45 (.bin .mul) 42 44,O1 46 (.fld 1) 1,O1 47 .load1 46,O1 48 (.fld 1) 1,O1 49 .load1 48,O2 50 (.bin .mul) 47 49,O2 51 (.bin .add) 45 50,O1 52 (.fld 2) 1,O1 53 .load1 52,O1 54 (.fld 2) 1,O1 55 .load1 54,O2 56 (.bin .mul) 53 55,O2 57 (.bin .eql) 51 56,O1 2 .mv 57]) .ret))),[(.s 2)]⟩
theorem x161_ok:xfn Tryz.prog Tryz.f161=some x161.er:=by kernel_rfl
def x144:XFn:=⟨35,(.seq (.reg false [O1 1 (.box 151) 0,K1 2 .mv (.bool false)]) (.seq (.reg false [O1 3 (.fld 0) 1,O1 4 .load1 3,O1 5 (.call 159) 4,O1 6 .mv 5,G1 7 (.fld 1) 1 6 true,G1 8 .load1 7 6 true,G1 9 (.call 159) 8 6 true,⟨(some 10),.pick,[(.t 6),(.t 9),(.k (.bool false))],none⟩,O1 11 .mv 10,G1 12 (.fld 2) 1 11 true,G1 13 .load1 12 11 true,G1 14 (.call 159) 13 11 true,⟨(some 15),.pick,[(.t 11),(.t 14),(.k (.bool false))],none⟩,O1 16 .mv 15,G1 17 (.fld 3) 1 16 true,G1 18 .load1 17 16 true,G1 19 (.call 159) 18 16 true,⟨(some 20),.pick,[(.t 16),(.t 19),(.k (.bool false))],none⟩,O1 21 .mv 20,G1 22 (.fld 0) 1 21 true,G1 23 .load1 22 21 true,G1 24 (.fld 2) 1 21 true,G1 25 .load1 24 21 true,G2 26 (.bin .leq) 23 25 21 true,⟨(some 27),.pick,[(.t 21),(.t 26),(.k (.bool false))],none⟩,O1 28 .mv 27,G1 29 (.fld 1) 1 28 true,G1 30 .load1 29 28 true,G1 31 (.fld 3) 1 28 true,G1 32 .load1 31 28 true,G2 33 (.bin .leq) 30 32 28 true,⟨(some 34),.pick,[(.t 28),(.t 33),(.k (.bool false))],none⟩,O1 2 .mv 34]) .ret)),[(.s 2)]⟩
theorem x144_ok:xfn Tryz.prog Tryz.f144=some x144.er:=by kernel_rfl
def x167:XFn:=⟨16,(.seq (.reg false [O1 2 (.box 212) 0,O1 3 (.box 212) 1,K1 4 .mv (.bool false)]) (.seq (.reg false [O1 5 (.fld 0) 2,O1 6 .load1 5,O1 7 (.fld 1) 3,O1 8 .load1 7,O2 9 (.bin .mul) 6 8,O1 10 (.fld 0) 3,O1 11 .load1 10,O1 12 (.fld 1) 2,O1 13 .load1 12,O2 14 (.bin .mul) 11 13,O2 15 (.bin .lss) 9 14,O1 4 .mv 15]) .ret)),[(.s 4)]⟩
theorem x167_ok:xfn Tryz.prog Tryz.f167=some x167.er:=by kernel_rfl
def x162:XFn:=⟨77,(.seq (.reg false [K1 10 .mv (.bool false)]) (.seq (.seq (.reg false [O1 13 .mv 2,K2 14 (.bin .eql) 13 (iV 0)]) (.cond (.t 14) (.seq (.reg false [O1 15 .mv 3,O1 16 .mv 1,O2 17 (.bin .leq) 15 16,O1 18 .mv 17,G1 19 .mv 1 18 true,G1 20 .mv 4 18 true,G2 21 (.bin .leq) 19 20 18 true,⟨(some 22),.pick,[(.t 18),(.t 21),(.k (.bool false))],none⟩,O1 10 .mv 22]) .ret) .skip)) (.seq (.reg false [O1 23 .mv 3,O1 24 .mv 1,O2 25 (.bin .sub) 23 24,O1 26 .mv 2,⟨(some 27),(.build [(iV 0),(iV 0)] [(0,1),(1,1)]),[(.t 25),(.t 26)],none⟩,O1 28 .mv 4,O1 29 .mv 1,O2 30 (.bin .sub) 28 29,O1 31 .mv 2,⟨(some 32),(.build [(iV 0),(iV 0)] [(0,1),(1,1)]),[(.t 30),(.t 31)],none⟩,⟨(some 11),(.alloc 212 [(iV 0),(iV 0)]),[],none⟩,⟨(some 12),(.alloc 212 [(iV 0),(iV 0)]),[],none⟩,⟨none,(.store 2),[(.t 11),(.t 27)],none⟩,⟨none,(.store 2),[(.t 12),(.t 32)],none⟩]) (.seq (.seq (.reg false [O1 33 .mv 2,K2 34 (.bin .lss) 33 (iV 0)]) (.cond (.t 34) (.reg false [O1 35 .mv 1,O1 36 .mv 4,O2 37 (.bin .sub) 35 36,O1 38 .mv 2,O1 39 (.un .neg) 38,⟨(some 40),(.build [(iV 0),(iV 0)] [(0,1),(1,1)]),[(.t 37),(.t 39)],none⟩,O1 41 .mv 1,O1 42 .mv 3,O2 43 (.bin .sub) 41 42,O1 44 .mv 2,O1 45 (.un .neg) 44,⟨(some 46),(.build [(iV 0),(iV 0)] [(0,1),(1,1)]),[(.t 43),(.t 45)],none⟩,⟨none,(.store 2),[(.t 11),(.t 40)],none⟩,⟨none,(.store 2),[(.t 12),(.t 46)],none⟩]) .skip)) (.seq (.seq (.reg true [O1 47 .mv 0,O1 48 .nilc 47,O1 49 (.fld 0) 48,O1 50 (.loadN 2) 49,O1 51 (.loadN 2) 11,O2 52 (.call 167) 50 51]) (.cond (.t 52) (.reg false [O1 53 .mv 0,O1 54 (.loadN 2) 11,O1 55 .nilc 53,O1 56 (.fld 0) 55,⟨none,(.store 2),[(.t 56),(.t 54)],none⟩]) .skip)) (.seq (.seq (.reg true [O1 57 (.loadN 2) 12,O1 58 .mv 0,O1 59 .nilc 58,O1 60 (.fld 2) 59,O1 61 (.loadN 2) 60,O2 62 (.call 167) 57 61]) (.cond (.t 62) (.reg false [O1 63 .mv 0,O1 64 (.loadN 2) 12,O1 65 .nilc 63,O1 66 (.fld 2) 65,⟨none,(.store 2),[(.t 66),(.t 64)],none⟩]) .skip)) (.seq (.reg true [O1 67 .mv 0,O1 68 .nilc 67,O1 69 (.fld 2) 68,O1 70 (.loadN 2) 69,O1 71 .mv 0,O1 72 .nilc 71,O1 73 (.fld 0) 72,O1 74 (.loadN 2) 73,O2 75 (.call 167) 70 74,O1 76 (.un .not) 75,O1 10 .mv 76]) .ret))))))),[(.s 10)]⟩
theorem x162_ok:xfn Tryz.prog Tryz.f162=some x162.er:=by kernel_rfl
def x145:XFn:=⟨50,(.seq (.reg false [O1 3 (.box 102) 0,O1 4 (.box 104) 1,O1 5 (.box 151) 2,⟨(some 6),(.alloc 214 [(iV 0),(iV 0),(iV 0),(iV 0)]),[],none⟩,K1 7 .mv (.bool false)]) (.seq (.seq (.reg false [O1 9 (.loadN 2) 3,O1 10 (.call 160) 9,O1 11 (.un .not) 10,O1 12 .mv 11,G1 13 (.loadN 3) 4 12 false,G1 14 (.call 161) 13 12 false,G1 15 (.un .not) 14 12 false,⟨(some 16),.pick,[(.t 12),(.k (.bool true)),(.t 15)],none⟩,O1 17 .mv 16,G1 18 (.loadN 4) 5 17 false,G1 19 (.call 144) 18 17 false,G1 20 (.un .not) 19 17 false,⟨(some 21),.pick,[(.t 17),(.k (.bool true)),(.t 20)],none⟩]) (.cond (.t 21) (.seq (.reg false [⟨(some 22),(.build [(iV 0),(iV 0),(iV 0),(iV 0)] []),[],none⟩,⟨none,(.store 4),[(.t 6),(.t 22)],none⟩,K1 7 .mv (.bool false)]) .ret) .skip)) (.seq (.reg false [⟨(some 23),(.build [(iV 0),(iV 0)] [(0,1),(1,1)]),[(.k (iV 0)),(.k (iV 1))],none⟩,⟨(some 24),(.build [(iV 0),(iV 0)] [(0,1),(1,1)]),[(.k (iV 8388608)),(.k (iV 1))],none⟩,⟨(some 25),(.build [(iV 0),(iV 0),(iV 0),(iV 0)] [(0,2),(2,2)]),[(.t 23),(.t 24)],none⟩,⟨(some 8),(.alloc 214 [(iV 0),(iV 0),(iV 0),(iV 0)]),[],none⟩,⟨none,(.store 4),[(.t 8),(.t 25)],none⟩]) (.seq (.seq (.reg false [O1 26 (.fld 0) 3,O1 27 .load1 26,O1 28 (.fld 0) 4,O1 29 .load1 28,O1 30 (.fld 0) 5,O1 31 .load1 30,O1 32 (.fld 2) 5,O1 33 .load1 32,⟨(some 34),(.call 162),[(.t 8),(.t 27),(.t 29),(.t 31),(.t 33)],none⟩,O1 35 (.un .not) 34,O1 36 .mv 35,G1 37 (.fld 1) 3 36 false,G1 38 .load1 37 36 false,G1 39 (.fld 1) 4 36 false,G1 40 .load1 39 36 false,G1 41 (.fld 1) 5 36 false,G1 42 .load1 41 36 false,G1 43 (.fld 3) 5 36 false,G1 44 .load1 43 36 false,⟨(some 45),(.call 162),[(.t 8),(.t 38),(.t 40),(.t 42),(.t 44)],(some (36,false))⟩,G1 46 (.un .not) 45 36 false,⟨(some 47),.pick,[(.t 36),(.k (.bool true)),(.t 46)],none⟩]) (.cond (.t 47) (.seq (.reg false [⟨(some 48),(.build [(iV 0),(iV 0),(iV 0),(iV 0)] []),[],none⟩,⟨none,(.store 4),[(.t 6),(.t 48)],none⟩,K1 7 .mv (.bool false)]) .ret) .skip)) (.seq (.reg false [O1 49 (.loadN 4) 8,⟨none,(.store 4),[(.t 6),(.t 49)],none⟩,K1 7 .mv (.bool true)]) .ret))))),[(.bn 6 4),(.s 7)]⟩
theorem x145_ok:xfn Tryz.prog Tryz.f145=some x145.er:=by kernel_rfl
def x127:XFn:=⟨60,(.seq (.reg false [O1 5 (.box 102) 0,O1 6 (.box 104) 1,O1 9 (.box 151) 4,K1 10 .mv (.bool false)]) (.seq (.seq (.reg false [O1 13 .mv 2,K2 14 (.bin .lss) 13 (iV 0),O1 15 .mv 14,G1 16 .mv 3 15 false,G1 17 .mv 2 15 false,G2 18 (.bin .lss) 16 17 15 false,⟨(some 19),.pick,[(.t 15),(.k (.bool true)),(.t 18)],none⟩,O1 20 .mv 19,G1 21 .mv 3 20 false,GK 22 (.bin .gtr) 21 (iV 65536) 20 false,⟨(some 23),.pick,[(.t 20),(.k (.bool true)),(.t 22)],none⟩]) (.cond (.t 23) (.seq (.reg false [K1 10 .mv (.bool false)]) .ret) .skip)) (.seq (.reg false [O1 25 (.loadN 2) 5,O1 26 (.loadN 3) 6,O1 27 (.loadN 4) 9,⟨(some 28),(.call 145),[(.t 25),(.t 26),(.t 27)],none⟩,O1 24 .mv 28,O1 29 (.ext 0) 24,O1 30 (.ext 1) 24,⟨(some 11),(.alloc 214 [(iV 0),(iV 0),(iV 0),(iV 0)]),[],none⟩,⟨none,(.store 4),[(.t 11),(.t 29)],none⟩,O1 12 .mv 30]) (.seq (.reg false [O1 31 .mv 12,O1 32 .mv 31,G1 33 .mv 2 32 true,G1 34 (.fld 2) 11 32 true,G1 35 (.fld 1) 34 32 true,G1 36 .load1 35 32 true,G2 37 (.bin .mul) 33 36 32 true,G1 38 (.fld 2) 11 32 true,G1 39 (.fld 0) 38 32 true,G1 40 .load1 39 32 true,G1 41 (.fld 2) 6 32 true,G1 42 .load1 41 32 true,G2 43 (.bin .mul) 40 42 32 true,G2 44 (.bin .leq) 37 43 32 true,⟨(some 45),.pick,[(.t 32),(.t 44),(.k (.bool false))],none⟩,O1 46 .mv 45,G1 47 (.fld 0) 11 46 true,G1 48 (.fld 0) 47 46 true,G1 49 .load1 48 46 true,G1 50 (.fld 2) 6 46 true,G1 51 .load1 50 46 true,G2 52 (.bin .mul) 49 51 46 true,G1 53 .mv 3 46 true,G1 54 (.fld 0) 11 46 true,G1 55 (.fld 1) 54 46 true,G1 56 .load1 55 46 true,G2 57 (.bin .mul) 53 56 46 true,G2 58 (.bin .leq) 52 57 46 true,⟨(some 59),.pick,[(.t 46),(.t 58),(.k (.bool false))],none⟩,O1 10 .mv 59]) .ret)))),[(.s 10)]⟩
theorem x127_ok:xfn Tryz.prog Tryz.f127=some x127.er:=by kernel_rfl
def x125:XFn:=⟨43,(.seq (.reg false [O1 2 (.box 151) 0,O1 3 (.box 151) 1,⟨(some 4),(.alloc 151 [(iV 0),(iV 0),(iV 0),(iV 0)]),[],none⟩,K1 5 .mv (.bool false)]) (.seq (.reg false [O1 7 (.fld 0) 2,O1 8 .load1 7,O1 9 (.fld 2) 3,O1 10 .load1 9,O2 11 (.bin .sub) 8 10,O1 12 (.fld 1) 2,O1 13 .load1 12,O1 14 (.fld 3) 3,O1 15 .load1 14,O2 16 (.bin .sub) 13 15,O1 17 (.fld 2) 2,O1 18 .load1 17,O1 19 (.fld 0) 3,O1 20 .load1 19,O2 21 (.bin .sub) 18 20,O1 22 (.fld 3) 2,O1 23 .load1 22,O1 24 (.fld 1) 3,O1 25 .load1 24,O2 26 (.bin .sub) 23 25,⟨(some 27),(.build [(iV 0),(iV 0),(iV 0),(iV 0)] [(0,1),(1,1),(2,1),(3,1)]),[(.t 11),(.t 16),(.t 21),(.t 26)],none⟩,⟨(some 6),(.alloc 151 [(iV 0),(iV 0),(iV 0),(iV 0)]),[],none⟩,⟨none,(.store 4),[(.t 6),(.t 27)],none⟩]) (.seq (.seq (.reg false [O1 28 (.loadN 4) 2,O1 29 (.call 144) 28,O1 30 (.un .not) 29,O1 31 .mv 30,G1 32 (.loadN 4) 3 31 false,G1 33 (.call 144) 32 31 false,G1 34 (.un .not) 33 31 false,⟨(some 35),.pick,[(.t 31),(.k (.bool true)),(.t 34)],none⟩,O1 36 .mv 35,G1 37 (.loadN 4) 6 36 false,G1 38 (.call 144) 37 36 false,G1 39 (.un .not) 38 36 false,⟨(some 40),.pick,[(.t 36),(.k (.bool true)),(.t 39)],none⟩]) (.cond (.t 40) (.seq (.reg false [⟨(some 41),(.build [(iV 0),(iV 0),(iV 0),(iV 0)] []),[],none⟩,⟨none,(.store 4),[(.t 4),(.t 41)],none⟩,K1 5 .mv (.bool false)]) .ret) .skip)) (.seq (.reg false [O1 42 (.loadN 4) 6,⟨none,(.store 4),[(.t 4),(.t 42)],none⟩,K1 5 .mv (.bool true)]) .ret)))),[(.bn 4 4),(.s 5)]⟩
theorem x125_ok:xfn Tryz.prog Tryz.f125=some x125.er:=by kernel_rfl
theorem mulB {a b A B:Int} (h1:-A≤a) (h2:a≤A) (h3:-B≤b) (h4:b≤B):-(A * B)≤a * b∧a * b≤A * B:=by
 have hA:0≤A:=by omega
 have hB:0≤B:=by omega
 have e1:0≤(A - a) * (B+b):=Int.mul_nonneg (by omega) (by omega)
 have e2:0≤(A+a) * (B - b):=Int.mul_nonneg (by omega) (by omega)
 have e3:0≤(A - a) * (B - b):=Int.mul_nonneg (by omega) (by omega)
 have e4:0≤(A+a) * (B+b):=Int.mul_nonneg (by omega) (by omega)
 rw [Int.sub_mul,Int.mul_add,Int.mul_add] at e1
 rw [Int.add_mul,Int.mul_sub,Int.mul_sub] at e2
 rw [Int.sub_mul,Int.mul_sub,Int.mul_sub] at e3
 rw [Int.add_mul,Int.mul_add,Int.mul_add] at e4
 omega
def nearB (n:Int):Bool:=decide (-2097152≤n∧n≤2097152)
def sPtB (x y:Int):Bool:=nearB x && nearB y
def vecB (x y d:Int):Bool:=decide (1≤d∧d≤67108864∧-d≤x∧x≤d∧-d≤y∧y≤d∧x * x+y * y=d * d)
def sRectB (x0 y0 x1 y1:Int):Bool:=nearB x0 && nearB y0 && nearB x1 && nearB y1 && decide (x0≤x1) && decide (y0≤y1)
def sLo (p d a b:Int):Int × Int:=if d < 0 then (p - b,-d) else (a - p,d)
def sHi (p d a b:Int):Int × Int:=if d < 0 then (p - a,-d) else (b - p,d)
def fmax (x y:Int × Int):Int × Int:=if x.1 * y.2 < y.1 * x.2 then y else x
def fmin (x y:Int × Int):Int × Int:=if y.1 * x.2 < x.1 * y.2 then y else x
def slabB (lo hi:Int × Int) (p d a b:Int):Bool:=if d=0 then decide (a≤p∧p≤b) else !decide ((fmin hi (sHi p d a b)).1 * (fmax lo (sLo p d a b)).2 < (fmax lo (sLo p d a b)).1 * (fmin hi (sHi p d a b)).2)
def slabL (lo:Int × Int) (p d a b:Int):Int × Int:=if d=0 then lo else fmax lo (sLo p d a b)
def slabH (hi:Int × Int) (p d a b:Int):Int × Int:=if d=0 then hi else fmin hi (sHi p d a b)
def bdF (x:Int × Int):Prop:=-8388608≤x.1∧x.1≤8388608∧1≤x.2∧x.2≤67108864
theorem slab_bd {lo hi:Int × Int} {p d a b:Int} (hl:bdF lo) (hh:bdF hi) (h1:-2097152≤p∧p≤2097152) (h2:-2097152≤a∧a≤2097152) (h3:-2097152≤b∧b≤2097152) (h4:-67108864≤d∧d≤67108864) :
  bdF (slabL lo p d a b)∧bdF (slabH hi p d a b):=by
 unfold bdF at *
 have hm:∀ x y:Int × Int,bdF x→bdF y→bdF (fmax x y)∧bdF (fmin x y):=by
  intro x y hx hy; unfold fmax fmin; constructor<;>split<;>assumption
 have h5:d≠0→bdF (sLo p d a b)∧bdF (sHi p d a b):=by
  intro h0; unfold sLo sHi bdF; constructor<;>split<;>simp only<;>omega
 unfold slabL slabH
 by_cases h0:d=0
 ·rw [if_pos h0,if_pos h0]; exact ⟨hl,hh⟩
 ·rw [if_neg h0,if_neg h0]; exact ⟨(hm _ _ hl (h5 h0).1).1,(hm _ _ hh (h5 h0).2).2⟩
def thrL (px py vx vy x0 y0 x1 y1:Int):Int × Int:=slabL (slabL (0,1) px vx x0 x1) py vy y0 y1
def thrH (px py vx vy x0 y0 x1 y1:Int):Int × Int:=slabH (slabH (8388608,1) px vx x0 x1) py vy y0 y1
def thrB (px py vx vy vd x0 y0 x1 y1:Int):Bool :=
 sPtB px py && vecB vx vy vd && sRectB x0 y0 x1 y1 && slabB (0,1) (8388608,1) px vx x0 x1 && slabB (slabL (0,1) px vx x0 x1) (slabH (8388608,1) px vx x0 x1) py vy y0 y1
theorem sPt_bd {x y:Int} (h:sPtB x y=true):(-2097152≤x∧x≤2097152)∧(-2097152≤y∧y≤2097152):=by
 simpa [sPtB,nearB] using h
theorem vec_bd {x y d:Int} (h:vecB x y d=true):1≤d∧d≤67108864∧(-67108864≤x∧x≤67108864)∧(-67108864≤y∧y≤67108864)∧-d≤x∧x≤d∧-d≤y∧y≤d∧x * x+y * y=d * d:=by
 unfold vecB at h; rw [decide_eq_true_eq] at h; obtain ⟨a1,a2,a3,a4,a5,a6,a7⟩:=h
 refine ⟨a1,a2,⟨by omega,by omega⟩,⟨by omega,by omega⟩,a3,a4,a5,a6,a7⟩
theorem sRect_bd {x0 y0 x1 y1:Int} (h:sRectB x0 y0 x1 y1=true):(-2097152≤x0∧x0≤2097152)∧(-2097152≤y0∧y0≤2097152)∧(-2097152≤x1∧x1≤2097152)∧(-2097152≤y1∧y1≤2097152)∧x0≤x1∧y0≤y1:=by
 simp only [sRectB,nearB,Bool.and_eq_true,decide_eq_true_eq] at h; omega
def minusB (q0 q1 q2 q3 r0 r1 r2 r3:Int):Bool:=sRectB q0 q1 q2 q3 && sRectB r0 r1 r2 r3 && sRectB (q0 - r2) (q1 - r3) (q2 - r0) (q3 - r1)
def mI (b:Bool) (n:Int):Int:=if b=true then n else 0
theorem mI_t (n:Int):mI true n=n:=rfl
def meetsB (px py vx vy vd lo hi x0 y0 x1 y1:Int):Bool :=
 decide (0≤lo∧lo≤hi∧hi≤65536) && thrB px py vx vy vd x0 y0 x1 y1 && decide (lo * (thrH px py vx vy x0 y0 x1 y1).2≤(thrH px py vx vy x0 y0 x1 y1).1 * vd) && decide ((thrL px py vx vy x0 y0 x1 y1).1 * vd≤hi * (thrL px py vx vy x0 y0 x1 y1).2)
theorem bd01:bdF (0,1):=by unfold bdF; simp
theorem bd81:bdF (8388608,1):=by unfold bdF; simp
theorem thr_bd {px py vx vy vd x0 y0 x1 y1:Int} (h:thrB px py vx vy vd x0 y0 x1 y1=true):bdF (thrL px py vx vy x0 y0 x1 y1)∧bdF (thrH px py vx vy x0 y0 x1 y1):=by
 simp only [thrB,Bool.and_eq_true] at h
 obtain ⟨⟨⟨⟨h1,h2⟩,h3⟩,h4⟩,h5⟩:=h
 have a1:=sPt_bd h1; have a2:=vec_bd h2; have a3:=sRect_bd h3
 have b:=slab_bd bd01 bd81 a1.1 (a:=x0) (b:=x1) (d:=vx) (by omega) (by omega) (by omega)
 exact slab_bd b.1 b.2 a1.2 (by omega) (by omega) (by omega)
def g159:Con:=fun args_ E_ nn_=>match args_ with
 | [.c (.v (.int .i64 n))]=>some (.q (True) (.o (.c (.v (.bool (nearB n))))))
 | _=>none
theorem c159:COk Tryz.prog 159 g159:=by
 refine cok_q Tryz.func159 x159_ok (by kernel_rfl) (cok_tab cok_nil) ?_
 intro args_ E_ nn_ cr_ hg_
 unfold g159 at hg_
 split at hg_
 ·rename_i n
  cases hg_
  refine ⟨_,_,rfl,0,[],[.c (.v (.int .i64 n))],[],.o (.c (.v (.bool (nearB n)))),rfl,rfl,and3 (by simp only [push_cast,Nat.reduceLT,Nat.reduceAdd]) ⟨rfl,trivial,rfl,?_⟩⟩
  intro hpre hlen
  refine ⟨trivial,?_⟩
  simp (maxSteps:=9999999) only [x159,push_cast,simprocAttr]
  simp [nearB]
 ·cases hg_
def g160:Con:=fun args_ E_ nn_=>match args_ with
 | [.a [.v (.int .i64 p_X),.v (.int .i64 p_Y)]]=>some (.q (True) (.o (.c (.v (.bool (sPtB p_X p_Y))))))
 | _=>none
theorem c160:COk Tryz.prog 160 g160:=by
 refine cok_q Tryz.func160 x160_ok (by kernel_rfl) (cok_tab (cok_cons c159 cok_nil)) ?_
 intro args_ E_ nn_ cr_ hg_
 unfold g160 at hg_
 split at hg_
 ·rename_i p_X p_Y
  cases hg_
  refine ⟨_,_,rfl,0,[],[.a [.v (.int .i64 p_X),.v (.int .i64 p_Y)]],[],.o (.c (.v (.bool (sPtB p_X p_Y)))),rfl,rfl,and3 (by simp only [push_cast,Nat.reduceLT,Nat.reduceAdd]) ⟨rfl,trivial,rfl,?_⟩⟩
  intro hpre hlen
  refine ⟨trivial,?_⟩
  simp (maxSteps:=9999999) only [x160,push_cast,simprocAttr,g159]
  rfl
 ·cases hg_
def g161:Con:=fun args_ E_ nn_=>match args_ with
 | [.a [.v (.int .i64 v_X),.v (.int .i64 v_Y),.v (.int .i64 v_D)]]=>some (.q (True) (.o (.c (.v (.bool (vecB v_X v_Y v_D))))))
 | _=>none
theorem c161:COk Tryz.prog 161 g161:=by
 refine cok_q Tryz.func161 x161_ok (by kernel_rfl) (cok_tab cok_nil) ?_
 intro args_ E_ nn_ cr_ hg_
 unfold g161 at hg_
 split at hg_
 ·rename_i v_X v_Y v_D
  cases hg_
  refine ⟨_,_,rfl,0,[],[.a [.v (.int .i64 v_X),.v (.int .i64 v_Y),.v (.int .i64 v_D)]],[],.o (.c (.v (.bool (vecB v_X v_Y v_D)))),rfl,rfl,and3 (by simp only [push_cast,Nat.reduceLT,Nat.reduceAdd]) ⟨rfl,trivial,rfl,?_⟩⟩
  intro hpre hlen
  refine ⟨trivial,?_⟩
  simp (maxSteps:=9999999) only [x161,push_cast,simprocAttr]
  unfold vecB
  refine ⟨fun h=>?_,fun h1 h2 h3 h4 h5 h6=>?_⟩
  ·symm; rw [decide_eq_false_iff_not]; rintro ⟨a1,a2,a3,a4,a5,a6,a7⟩
   rw [wrapI (n:=-v_D) (by omega) (by omega)] at h
   omega
  ·rw [wrapI (n:=-v_D) (by omega) (by omega)] at h3 h5
   have b1:=mulB (a:=v_X) (b:=v_X) (A:=67108864) (B:=67108864) (by omega) (by omega) (by omega) (by omega)
   have b2:=mulB (a:=v_Y) (b:=v_Y) (A:=67108864) (B:=67108864) (by omega) (by omega) (by omega) (by omega)
   have b3:=mulB (a:=v_D) (b:=v_D) (A:=67108864) (B:=67108864) (by omega) (by omega) (by omega) (by omega)
   rw [wrapI (n:=v_X * v_X) (by omega) (by omega),wrapI (n:=v_Y * v_Y) (by omega) (by omega),wrapI (n:=v_D * v_D) (by omega) (by omega),wrapI (n:=v_X * v_X+v_Y * v_Y) (by omega) (by omega)]
   rw [Bool.eq_iff_iff]; simp only [beq_iff_eq,decide_eq_true_eq]
   omega
 ·cases hg_
def g144:Con:=fun args_ E_ nn_=>match args_ with
 | [.a [.v (.int .i64 r_X0),.v (.int .i64 r_Y0),.v (.int .i64 r_X1),.v (.int .i64 r_Y1)]]=>some (.q (True) (.o (.c (.v (.bool (sRectB r_X0 r_Y0 r_X1 r_Y1))))))
 | _=>none
theorem c144:COk Tryz.prog 144 g144:=by
 refine cok_q Tryz.func144 x144_ok (by kernel_rfl) (cok_tab (cok_cons c159 cok_nil)) ?_
 intro args_ E_ nn_ cr_ hg_
 unfold g144 at hg_
 split at hg_
 ·rename_i r_X0 r_Y0 r_X1 r_Y1
  cases hg_
  refine ⟨_,_,rfl,0,[],[.a [.v (.int .i64 r_X0),.v (.int .i64 r_Y0),.v (.int .i64 r_X1),.v (.int .i64 r_Y1)]],[],.o (.c (.v (.bool (sRectB r_X0 r_Y0 r_X1 r_Y1)))),rfl,rfl,and3 (by simp only [push_cast,Nat.reduceLT,Nat.reduceAdd]) ⟨rfl,trivial,rfl,?_⟩⟩
  intro hpre hlen
  refine ⟨trivial,?_⟩
  simp (maxSteps:=9999999) only [x144,push_cast,simprocAttr,g159]
  rfl
 ·cases hg_
def g167:Con:=fun args_ E_ nn_=>match args_ with
 | [.a [.v (.int .i64 a_N),.v (.int .i64 a_D)],.a [.v (.int .i64 b_N),.v (.int .i64 b_D)]]=>some (.q (True) (.o (.c (.v (.bool (decide (IntKind.i64.wrap (a_N * b_D) < IntKind.i64.wrap (b_N * a_D))))))))
 | _=>none
theorem c167:COk Tryz.prog 167 g167:=by
 refine cok_q Tryz.func167 x167_ok (by kernel_rfl) (cok_tab cok_nil) ?_
 intro args_ E_ nn_ cr_ hg_
 unfold g167 at hg_
 split at hg_
 ·rename_i a_N a_D b_N b_D
  cases hg_
  refine ⟨_,_,rfl,0,[],[.a [.v (.int .i64 a_N),.v (.int .i64 a_D)],.a [.v (.int .i64 b_N),.v (.int .i64 b_D)]],[],.o (.c (.v (.bool (decide (IntKind.i64.wrap (a_N * b_D) < IntKind.i64.wrap (b_N * a_D)))))),rfl,rfl,and3 (by simp only [push_cast,Nat.reduceLT,Nat.reduceAdd]) ⟨rfl,trivial,rfl,?_⟩⟩
  intro hpre hlen
  refine ⟨trivial,?_⟩
  simp (maxSteps:=9999999) only [x167,push_cast,simprocAttr]
 ·cases hg_
def g162:Con:=fun args_ E_ nn_=>match args_ with
 | [.c (.p s 0),.c (.v (.int .i64 p)),.c (.v (.int .i64 d)),.c (.v (.int .i64 a)),.c (.v (.int .i64 b))]=>(match E_ s with
  | some (.box [.v (.int .i64 s_lo_N),.v (.int .i64 s_lo_D),.v (.int .i64 s_hi_N),.v (.int .i64 s_hi_D)] s_ty)=>some (.e (-2097152≤p∧p≤2097152∧-2097152≤a∧a≤2097152∧-2097152≤b∧b≤2097152∧-67108864≤d∧d≤67108864∧-8388608≤s_lo_N∧s_lo_N≤8388608∧-8388608≤s_hi_N∧s_hi_N≤8388608∧1≤s_lo_D∧s_lo_D≤67108864∧1≤s_hi_D∧s_hi_D≤67108864) (.o (.c (.v (.bool (slabB (s_lo_N,s_lo_D) (s_hi_N,s_hi_D) p d a b))))) [(s,.box [.v (.int .i64 (slabL (s_lo_N,s_lo_D) p d a b).1),.v (.int .i64 (slabL (s_lo_N,s_lo_D) p d a b).2),.v (.int .i64 (slabH (s_hi_N,s_hi_D) p d a b).1),.v (.int .i64 (slabH (s_hi_N,s_hi_D) p d a b).2)] s_ty)] (nn_+0))
  | _=>none)
 | _=>none
theorem c162:COk Tryz.prog 162 g162:=by
 refine cok_e Tryz.func162 x162_ok (by kernel_rfl) (cok_tab (cok_cons c167 cok_nil)) ?_
 intro args_ E_ nn_ cr_ hg_
 unfold g162 at hg_
 split at hg_
 ·rename_i s p d a b
  split at hg_
  ·rename_i s_lo_N s_lo_D s_hi_N s_hi_D s_ty h_s
   cases hg_
   refine ⟨_,_,_,_,rfl,1,[s],[.c (.p 0 0),.c (.v (.int .i64 p)),.c (.v (.int .i64 d)),.c (.v (.int .i64 a)),.c (.v (.int .i64 b))],[(0,.box [.v (.int .i64 s_lo_N),.v (.int .i64 s_lo_D),.v (.int .i64 s_hi_N),.v (.int .i64 s_hi_D)] s_ty)],.o (.c (.v (.bool (slabB (s_lo_N,s_lo_D) (s_hi_N,s_hi_D) p d a b)))),[(0,.box [.v (.int .i64 (slabL (s_lo_N,s_lo_D) p d a b).1),.v (.int .i64 (slabL (s_lo_N,s_lo_D) p d a b).2),.v (.int .i64 (slabH (s_hi_N,s_hi_D) p d a b).1),.v (.int .i64 (slabH (s_hi_N,s_hi_D) p d a b).2)] s_ty)],1,rfl,rfl,by simp only [renE,Ent.ren,rowF_renf]<;>rfl,rfl,by decide,and4 (by simp only [push_cast,Nat.reduceLT,Nat.reduceAdd]) ⟨rfl,⟨⟨_,h_s⟩,trivial⟩,by simp only [keysNodup,outN,keys]<;>decide,rfl,rfl,?_⟩⟩
   intro hpre hlen
   refine ⟨⟨⟨_,h_s,by simp only [leE,mapEq,SC.ren,and_true,true_and,and_self]<;>first | rfl | exact ⟨rfl,rfl⟩⟩,trivial⟩,by simp only [apartE]<;>(first | trivial | (simp [Ent.mut]; done)),?_⟩
   simp (maxSteps:=9999999) only [x162,push_cast,simprocAttr,g167]
   have key:∀ n1 n2 e:Int,-4194304≤n1→n1≤4194304→-4194304≤n2→n2≤4194304→0 < e→e≤67108864→∀ x y,-8388608≤x→x≤8388608→0 < y→y≤67108864→(-562949953421312≤x * e∧x * e≤562949953421312)∧(-562949953421312≤n1 * y∧n1 * y≤562949953421312)∧(-562949953421312≤n2 * y∧n2 * y≤562949953421312)∧(-562949953421312≤n1 * e∧n1 * e≤562949953421312)∧(-562949953421312≤n2 * e∧n2 * e≤562949953421312):=by
    intro n1 n2 e h1 h2 h3 h4 h5 h6 x y h7 h8 h9 h10
    have b1:=mulB (a:=x) (b:=e) (A:=8388608) (B:=67108864) (by omega) (by omega) (by omega) (by omega)
    have b2:=mulB (a:=n1) (b:=y) (A:=8388608) (B:=67108864) (by omega) (by omega) (by omega) (by omega)
    have b3:=mulB (a:=n2) (b:=y) (A:=8388608) (B:=67108864) (by omega) (by omega) (by omega) (by omega)
    have b4:=mulB (a:=n1) (b:=e) (A:=8388608) (B:=67108864) (by omega) (by omega) (by omega) (by omega)
    have b5:=mulB (a:=n2) (b:=e) (A:=8388608) (B:=67108864) (by omega) (by omega) (by omega) (by omega)
    omega
   have c1:=mulB (a:=s_hi_N) (b:=s_lo_D) (A:=8388608) (B:=67108864) (by omega) (by omega) (by omega) (by omega)
   have c2:=mulB (a:=s_lo_N) (b:=s_hi_D) (A:=8388608) (B:=67108864) (by omega) (by omega) (by omega) (by omega)
   refine ⟨fun h=>by simp [slabB,slabL,slabH,h],fun h0=>?_⟩
   simp only [slabB,slabL,slabH,h0,if_false]
   refine ⟨fun h1=>?_,fun h1=>?_⟩
   ·have k1:=key (p - b) (p - a) (-d) (by omega) (by omega) (by omega) (by omega) (by omega) (by omega) s_lo_N s_lo_D (by omega) (by omega) (by omega) (by omega)
    have k2:=key (p - b) (p - a) (-d) (by omega) (by omega) (by omega) (by omega) (by omega) (by omega) s_hi_N s_hi_D (by omega) (by omega) (by omega) (by omega)
    simp (disch:=omega) only [wrapI,sLo,sHi,h1,if_true,fmax,fmin]
    refine ⟨fun h=>⟨fun h2=>?_,fun h2=>?_⟩,fun h=>⟨fun h2=>?_,fun h2=>?_⟩⟩<;>simp [h,h2]
   ·have k1:=key (a - p) (b - p) d (by omega) (by omega) (by omega) (by omega) (by omega) (by omega) s_lo_N s_lo_D (by omega) (by omega) (by omega) (by omega)
    have k2:=key (a - p) (b - p) d (by omega) (by omega) (by omega) (by omega) (by omega) (by omega) s_hi_N s_hi_D (by omega) (by omega) (by omega) (by omega)
    simp (disch:=omega) only [wrapI,sLo,sHi,h1,if_false,fmax,fmin]
    refine ⟨fun h=>⟨fun h2=>?_,fun h2=>?_⟩,fun h=>⟨fun h2=>?_,fun h2=>?_⟩⟩<;>simp [h,h2]
  ·cases hg_
 ·cases hg_
def g145:Con:=fun args_ E_ nn_=>match args_ with
 | [.a [.v (.int .i64 p_X),.v (.int .i64 p_Y)],.a [.v (.int .i64 v_X),.v (.int .i64 v_Y),.v (.int .i64 v_D)],.a [.v (.int .i64 r_X0),.v (.int .i64 r_Y0),.v (.int .i64 r_X1),.v (.int .i64 r_Y1)]]=>some (.q (True) (.t [.a [.v (.int .i64 (mI (thrB p_X p_Y v_X v_Y v_D r_X0 r_Y0 r_X1 r_Y1) ((thrL p_X p_Y v_X v_Y r_X0 r_Y0 r_X1 r_Y1).1))),.v (.int .i64 (mI (thrB p_X p_Y v_X v_Y v_D r_X0 r_Y0 r_X1 r_Y1) ((thrL p_X p_Y v_X v_Y r_X0 r_Y0 r_X1 r_Y1).2))),.v (.int .i64 (mI (thrB p_X p_Y v_X v_Y v_D r_X0 r_Y0 r_X1 r_Y1) ((thrH p_X p_Y v_X v_Y r_X0 r_Y0 r_X1 r_Y1).1))),.v (.int .i64 (mI (thrB p_X p_Y v_X v_Y v_D r_X0 r_Y0 r_X1 r_Y1) ((thrH p_X p_Y v_X v_Y r_X0 r_Y0 r_X1 r_Y1).2)))],.c (.v (.bool (thrB p_X p_Y v_X v_Y v_D r_X0 r_Y0 r_X1 r_Y1)))]))
 | _=>none
theorem c145:COk Tryz.prog 145 g145:=by
 refine cok_q Tryz.func145 x145_ok (by kernel_rfl) (cok_tab (cok_cons c160 (cok_cons c161 (cok_cons c144 (cok_cons c162 cok_nil))))) ?_
 intro args_ E_ nn_ cr_ hg_
 unfold g145 at hg_
 split at hg_
 ·rename_i p_X p_Y v_X v_Y v_D r_X0 r_Y0 r_X1 r_Y1
  cases hg_
  refine ⟨_,_,rfl,0,[],[.a [.v (.int .i64 p_X),.v (.int .i64 p_Y)],.a [.v (.int .i64 v_X),.v (.int .i64 v_Y),.v (.int .i64 v_D)],.a [.v (.int .i64 r_X0),.v (.int .i64 r_Y0),.v (.int .i64 r_X1),.v (.int .i64 r_Y1)]],[],.t [.a [.v (.int .i64 (mI (thrB p_X p_Y v_X v_Y v_D r_X0 r_Y0 r_X1 r_Y1) ((thrL p_X p_Y v_X v_Y r_X0 r_Y0 r_X1 r_Y1).1))),.v (.int .i64 (mI (thrB p_X p_Y v_X v_Y v_D r_X0 r_Y0 r_X1 r_Y1) ((thrL p_X p_Y v_X v_Y r_X0 r_Y0 r_X1 r_Y1).2))),.v (.int .i64 (mI (thrB p_X p_Y v_X v_Y v_D r_X0 r_Y0 r_X1 r_Y1) ((thrH p_X p_Y v_X v_Y r_X0 r_Y0 r_X1 r_Y1).1))),.v (.int .i64 (mI (thrB p_X p_Y v_X v_Y v_D r_X0 r_Y0 r_X1 r_Y1) ((thrH p_X p_Y v_X v_Y r_X0 r_Y0 r_X1 r_Y1).2)))],.c (.v (.bool (thrB p_X p_Y v_X v_Y v_D r_X0 r_Y0 r_X1 r_Y1)))],rfl,rfl,and3 (by simp only [push_cast,Nat.reduceLT,Nat.reduceAdd]) ⟨rfl,trivial,rfl,?_⟩⟩
  intro hpre hlen
  refine ⟨trivial,?_⟩
  simp (maxSteps:=9999999) only [x145,push_cast,simprocAttr,g160,g161,g144,g162]
  cases h1:sPtB p_X p_Y
  ·simp [thrB,h1,mI]
  cases h2:vecB v_X v_Y v_D
  ·simp [thrB,h2,mI]
  cases h3:sRectB r_X0 r_Y0 r_X1 r_Y1
  ·simp [thrB,h3,mI]
  have a1:=sPt_bd h1; have a2:=vec_bd h2; have a3:=sRect_bd h3
  have b:=slab_bd bd01 bd81 a1.1 (a:=r_X0) (b:=r_X1) (d:=v_X) (by omega) (by omega) (by omega)
  have e:∀ b,(b=(slabB (0,1) (8388608,1) p_X v_X r_X0 r_X1 && slabB (slabL (0,1) p_X v_X r_X0 r_X1) (slabH (8388608,1) p_X v_X r_X0 r_X1) p_Y v_Y r_Y0 r_Y1))→b=thrB p_X p_Y v_X v_Y v_D r_X0 r_Y0 r_X1 r_Y1:=by
   intro b hb; simp only [thrB,h1,h2,h3,Bool.true_and]; exact hb
  generalize thrB p_X p_Y v_X v_Y v_D r_X0 r_Y0 r_X1 r_Y1=B at e
  obtain rfl:=e _ rfl
  clear e
  unfold bdF at b
  unfold thrL thrH
  generalize slabL (0,1) p_X v_X r_X0 r_X1=L at *
  generalize slabH (8388608,1) p_X v_X r_X0 r_X1=H at *
  cases slabB (0,1) (8388608,1) p_X v_X r_X0 r_X1
  ·simp [mI]; omega
  ·cases slabB L H p_Y v_Y r_Y0 r_Y1<;>simp [mI]<;>omega
 ·cases hg_
def g125:Con:=fun args_ E_ nn_=>match args_ with
 | [.a [.v (.int .i64 q_X0),.v (.int .i64 q_Y0),.v (.int .i64 q_X1),.v (.int .i64 q_Y1)],.a [.v (.int .i64 r_X0),.v (.int .i64 r_Y0),.v (.int .i64 r_X1),.v (.int .i64 r_Y1)]]=>some (.q (True) (.t [.a [.v (.int .i64 (mI (minusB q_X0 q_Y0 q_X1 q_Y1 r_X0 r_Y0 r_X1 r_Y1) (q_X0 - r_X1))),.v (.int .i64 (mI (minusB q_X0 q_Y0 q_X1 q_Y1 r_X0 r_Y0 r_X1 r_Y1) (q_Y0 - r_Y1))),.v (.int .i64 (mI (minusB q_X0 q_Y0 q_X1 q_Y1 r_X0 r_Y0 r_X1 r_Y1) (q_X1 - r_X0))),.v (.int .i64 (mI (minusB q_X0 q_Y0 q_X1 q_Y1 r_X0 r_Y0 r_X1 r_Y1) (q_Y1 - r_Y0)))],.c (.v (.bool (minusB q_X0 q_Y0 q_X1 q_Y1 r_X0 r_Y0 r_X1 r_Y1)))]))
 | _=>none
theorem c125:COk Tryz.prog 125 g125:=by
 refine cok_q Tryz.func125 x125_ok (by kernel_rfl) (cok_tab (cok_cons c144 cok_nil)) ?_
 intro args_ E_ nn_ cr_ hg_
 unfold g125 at hg_
 split at hg_
 ·rename_i q_X0 q_Y0 q_X1 q_Y1 r_X0 r_Y0 r_X1 r_Y1
  cases hg_
  refine ⟨_,_,rfl,0,[],[.a [.v (.int .i64 q_X0),.v (.int .i64 q_Y0),.v (.int .i64 q_X1),.v (.int .i64 q_Y1)],.a [.v (.int .i64 r_X0),.v (.int .i64 r_Y0),.v (.int .i64 r_X1),.v (.int .i64 r_Y1)]],[],.t [.a [.v (.int .i64 (mI (minusB q_X0 q_Y0 q_X1 q_Y1 r_X0 r_Y0 r_X1 r_Y1) (q_X0 - r_X1))),.v (.int .i64 (mI (minusB q_X0 q_Y0 q_X1 q_Y1 r_X0 r_Y0 r_X1 r_Y1) (q_Y0 - r_Y1))),.v (.int .i64 (mI (minusB q_X0 q_Y0 q_X1 q_Y1 r_X0 r_Y0 r_X1 r_Y1) (q_X1 - r_X0))),.v (.int .i64 (mI (minusB q_X0 q_Y0 q_X1 q_Y1 r_X0 r_Y0 r_X1 r_Y1) (q_Y1 - r_Y0)))],.c (.v (.bool (minusB q_X0 q_Y0 q_X1 q_Y1 r_X0 r_Y0 r_X1 r_Y1)))],rfl,rfl,and3 (by simp only [push_cast,Nat.reduceLT,Nat.reduceAdd]) ⟨rfl,trivial,rfl,?_⟩⟩
  intro hpre hlen
  refine ⟨trivial,?_⟩
  simp (maxSteps:=9999999) only [x125,push_cast,simprocAttr,g144]
  cases h1:sRectB q_X0 q_Y0 q_X1 q_Y1
  ·simp [minusB,h1,mI]
  cases h2:sRectB r_X0 r_Y0 r_X1 r_Y1
  ·simp [minusB,h2,mI]
  have a1:=sRect_bd h1; have a2:=sRect_bd h2
  simp (disch:=omega) only [wrapI]
  unfold minusB
  cases h3:sRectB (q_X0 - r_X1) (q_Y0 - r_Y1) (q_X1 - r_X0) (q_Y1 - r_Y0)<;>simp [mI,h1,h2]
 ·cases hg_
def g127:Con:=fun args_ E_ nn_=>match args_ with
 | [.a [.v (.int .i64 p_X),.v (.int .i64 p_Y)],.a [.v (.int .i64 v_X),.v (.int .i64 v_Y),.v (.int .i64 v_D)],.c (.v (.int .i64 lo)),.c (.v (.int .i64 hi)),.a [.v (.int .i64 r_X0),.v (.int .i64 r_Y0),.v (.int .i64 r_X1),.v (.int .i64 r_Y1)]]=>some (.q (True) (.o (.c (.v (.bool (meetsB p_X p_Y v_X v_Y v_D lo hi r_X0 r_Y0 r_X1 r_Y1))))))
 | _=>none
theorem c127:COk Tryz.prog 127 g127:=by
 refine cok_q Tryz.func127 x127_ok (by kernel_rfl) (cok_tab (cok_cons c145 cok_nil)) ?_
 intro args_ E_ nn_ cr_ hg_
 unfold g127 at hg_
 split at hg_
 ·rename_i p_X p_Y v_X v_Y v_D lo hi r_X0 r_Y0 r_X1 r_Y1
  cases hg_
  refine ⟨_,_,rfl,0,[],[.a [.v (.int .i64 p_X),.v (.int .i64 p_Y)],.a [.v (.int .i64 v_X),.v (.int .i64 v_Y),.v (.int .i64 v_D)],.c (.v (.int .i64 lo)),.c (.v (.int .i64 hi)),.a [.v (.int .i64 r_X0),.v (.int .i64 r_Y0),.v (.int .i64 r_X1),.v (.int .i64 r_Y1)]],[],.o (.c (.v (.bool (meetsB p_X p_Y v_X v_Y v_D lo hi r_X0 r_Y0 r_X1 r_Y1)))),rfl,rfl,and3 (by simp only [push_cast,Nat.reduceLT,Nat.reduceAdd]) ⟨rfl,trivial,rfl,?_⟩⟩
  intro hpre hlen
  refine ⟨trivial,?_⟩
  simp (maxSteps:=9999999) only [x127,push_cast,simprocAttr,g145]
  unfold meetsB
  cases h1:thrB p_X p_Y v_X v_Y v_D r_X0 r_Y0 r_X1 r_Y1
  ·simp
  have h2:vecB v_X v_Y v_D=true:=by simp only [thrB,Bool.and_eq_true] at h1; exact h1.1.1.1.2
  have a2:=vec_bd h2
  have b:=thr_bd h1
  unfold bdF at b
  generalize thrL p_X p_Y v_X v_Y r_X0 r_Y0 r_X1 r_Y1=L at *
  generalize thrH p_X p_Y v_X v_Y r_X0 r_Y0 r_X1 r_Y1=H at *
  refine ⟨fun h=>?_,fun h3 h4 h5=>?_⟩
  ·have:decide (0≤lo∧lo≤hi∧hi≤65536)=false:=by rw [decide_eq_false_iff_not]; omega
   simp [this]
  ·simp only [mI_t]
   have e1:=mulB (a:=lo) (b:=H.2) (A:=65536) (B:=67108864) (by omega) (by omega) (by omega) (by omega)
   have e2:=mulB (a:=H.1) (b:=v_D) (A:=8388608) (B:=67108864) (by omega) (by omega) (by omega) (by omega)
   have e3:=mulB (a:=L.1) (b:=v_D) (A:=8388608) (B:=67108864) (by omega) (by omega) (by omega) (by omega)
   have e4:=mulB (a:=hi) (b:=L.2) (A:=65536) (B:=67108864) (by omega) (by omega) (by omega) (by omega)
   simp (disch:=omega) only [wrapI]
   have:decide (0≤lo∧lo≤hi∧hi≤65536)=true:=by rw [decide_eq_true_eq]; omega
   simp [this]
 ·cases hg_
end Go.Proofs.YtgpbokembopapaaGreat
namespace Go.Proofs.YtgpbokembopapaaGreat
open Go.Sx
def x122:XFn:=⟨14,(.seq (.reg false [K1 4 .mv (.bool false)]) (.seq (.reg false [O1 5 .mv 0,O1 6 .mv 1,O1 7 (.un .neg) 6,O2 8 (.bin .geq) 5 7,O1 9 .mv 8,G1 10 .mv 0 9 true,G1 11 .mv 1 9 true,G2 12 (.bin .leq) 10 11 9 true,⟨(some 13),.pick,[(.t 9),(.t 12),(.k (.bool false))],none⟩,O1 4 .mv 13]) .ret)),[(.s 4)]⟩
theorem x122_ok:xfn Tryz.prog Tryz.f122=some x122.er:=by kernel_rfl
def x83:XFn:=⟨11,(.seq (.reg false [O1 1 (.box 102) 0,K1 2 .mv (.bool false)]) (.seq (.reg false [O1 3 (.fld 0) 1,O1 4 .load1 3,K2 5 (.call 122) 4 (iV 1048576),O1 6 .mv 5,G1 7 (.fld 1) 1 6 true,G1 8 .load1 7 6 true,GK 9 (.call 122) 8 (iV 1048576) 6 true,⟨(some 10),.pick,[(.t 6),(.t 9),(.k (.bool false))],none⟩,O1 2 .mv 10]) .ret)),[(.s 2)]⟩
theorem x83_ok:xfn Tryz.prog Tryz.f83=some x83.er:=by kernel_rfl
def x84:XFn:=⟨44,(.seq (.reg false [O1 1 (.box 104) 0,K1 2 .mv (.bool false)]) (.seq (.reg false [O1 3 (.fld 2) 1,O1 4 .load1 3,K2 5 (.bin .geq) 4 (iV 1),O1 6 .mv 5,G1 7 (.fld 2) 1 6 true,G1 8 .load1 7 6 true,GK 9 (.bin .leq) 8 (iV 67108864) 6 true,⟨(some 10),.pick,[(.t 6),(.t 9),(.k (.bool false))],none⟩,O1 11 .mv 10,G1 12 (.fld 0) 1 11 true,G1 13 .load1 12 11 true,G1 14 (.fld 2) 1 11 true,G1 15 .load1 14 11 true,G2 16 (.call 122) 13 15 11 true,⟨(some 17),.pick,[(.t 11),(.t 16),(.k (.bool false))],none⟩,O1 18 .mv 17,G1 19 (.fld 1) 1 18 true,G1 20 .load1 19 18 true,G1 21 (.fld 2) 1 18 true,G1 22 .load1 21 18 true,G2 23 (.call 122) 20 22 18 true,⟨(some 24),.pick,[(.t 18),(.t 23),(.k (.bool false))],none⟩,O1 25 .mv 24,G1 26 (.fld 0) 1 25 true,G1 27 .load1 26 25 true,G1 28 (.fld 0) 1 25 true,G1 29 .load1 28 25 true,G2 30 (.bin .mul) 27 29 25 true,G1 31 (.fld 1) 1 25 true,G1 32 .load1 31 25 true,G1 33 (.fld 1) 1 25 true,G1 34 .load1 33 25 true,G2 35 (.bin .mul) 32 34 25 true,G2 36 (.bin .add) 30 35 25 true,G1 37 (.fld 2) 1 25 true,G1 38 .load1 37 25 true,G1 39 (.fld 2) 1 25 true,G1 40 .load1 39 25 true,G2 41 (.bin .mul) 38 40 25 true,G2 42 (.bin .eql) 36 41 25 true,⟨(some 43),.pick,[(.t 25),(.t 42),(.k (.bool false))],none⟩,O1 2 .mv 43]) .ret)),[(.s 2)]⟩
theorem x84_ok:xfn Tryz.prog Tryz.f84=some x84.er:=by kernel_rfl
def x143:XFn:=⟨16,(.seq (.reg false [K1 4 .mv (iV 0)]) (.seq (.reg false [O1 6 .mv 0,O1 7 .mv 1,O2 8 (.bin .quo) 6 7,O1 5 .mv 8]) (.seq (.seq (.reg false [O1 9 .mv 0,O1 10 .mv 1,O2 11 (.bin .rem) 9 10,K2 12 (.bin .lss) 11 (iV 0)]) (.cond (.t 12) (.reg false [O1 13 .mv 5,K2 14 (.bin .sub) 13 (iV 1),O1 5 .mv 14]) .skip)) (.seq (.reg false [O1 15 .mv 5,O1 4 .mv 15]) .ret)))),[(.s 4)]⟩
theorem x143_ok:xfn Tryz.prog Tryz.f143=some x143.er:=by kernel_rfl
def x124:XFn:=⟨13,(.seq (.reg false [K1 4 .mv (iV 0),K1 5 .mv (iV 0)]) (.seq (.reg false [O1 6 .mv 0,O1 7 (.un .neg) 6,K2 8 (.call 143) 7 (iV 64),O1 9 (.un .neg) 8,K2 10 (.bin .sub) 9 (iV 1),O1 11 .mv 1,K2 12 (.call 143) 11 (iV 64),O1 4 .mv 10,O1 5 .mv 12]) .ret)),[(.s 4),(.s 5)]⟩
theorem x124_ok:xfn Tryz.prog Tryz.f124=some x124.er:=by kernel_rfl
def x126:XFn:=⟨18,(.seq (.reg false [O1 1 (.box 109) 0,⟨(some 2),(.alloc 151 [(iV 0),(iV 0),(iV 0),(iV 0)]),[],none⟩]) (.seq (.reg true [O1 5 (.fld 0) 1,O1 6 .load1 5,K2 7 (.bin .mul) 6 (iV 64),O1 8 (.fld 1) 1,O1 9 .load1 8,K2 10 (.bin .mul) 9 (iV 64),O1 3 .mv 7,O1 4 .mv 10]) (.seq (.reg false [O1 11 .mv 3,O1 12 .mv 4,O1 13 .mv 3,K2 14 (.bin .add) 13 (iV 64),O1 15 .mv 4,K2 16 (.bin .add) 15 (iV 64),⟨(some 17),(.build [(iV 0),(iV 0),(iV 0),(iV 0)] [(0,1),(1,1),(2,1),(3,1)]),[(.t 11),(.t 12),(.t 14),(.t 16)],none⟩,⟨none,(.store 4),[(.t 2),(.t 17)],none⟩]) .ret))),[(.bn 2 4)]⟩
theorem x126_ok:xfn Tryz.prog Tryz.f126=some x126.er:=by kernel_rfl
def x123:XFn:=⟨37,(.seq (.reg false [K1 12 .mv (iV 0),K1 13 .mv (iV 0)]) (.seq (.reg false [O1 14 .mv 0,O1 15 .mv 4,O1 16 .mv 2,O2 17 (.bin .mul) 15 16,O1 18 .mv 5,O1 19 .mv 2,O2 20 (.bin .mul) 18 19,O2 21 .minI 17 20,O1 22 .mv 3,O2 23 (.call 143) 21 22,O2 24 (.bin .add) 14 23,O1 25 .mv 1,O1 26 .mv 4,O1 27 .mv 2,O2 28 (.bin .mul) 26 27,O1 29 .mv 5,O1 30 .mv 2,O2 31 (.bin .mul) 29 30,O2 32 .maxI 28 31,O1 33 .mv 3,O2 34 (.call 143) 32 33,O2 35 (.bin .add) 25 34,K2 36 (.bin .add) 35 (iV 1),O1 12 .mv 24,O1 13 .mv 36]) .ret)),[(.s 12),(.s 13)]⟩
theorem x123_ok:xfn Tryz.prog Tryz.f123=some x123.er:=by kernel_rfl
theorem divB {a b A:Int} (hb:1≤b) (h1:-A≤a) (h2:a≤A):-A≤a / b∧a / b≤A:=by
 have hA:0≤A:=by omega
 constructor
 ·refine Int.le_ediv_of_mul_le (by omega) ?_
  have:A * 1≤A * b:=Int.mul_le_mul_of_nonneg_left (by omega) hA
  rw [Int.neg_mul]; omega
 ·refine Int.ediv_le_of_le_mul (by omega) ?_
  have:A * 1≤A * b:=Int.mul_le_mul_of_nonneg_left (by omega) hA
  omega
theorem vec_calc {x y d:Int} (h:1≤d∧d≤67108864∧-d≤x∧x≤d∧-d≤y∧y≤d):(IntKind.i64.wrap (IntKind.i64.wrap (x * x)+IntKind.i64.wrap (y * y)) == IntKind.i64.wrap (d * d))=decide (x * x+y * y=d * d):=by
 have b1:=mulB (a:=x) (b:=x) (A:=67108864) (B:=67108864) (by omega) (by omega) (by omega) (by omega)
 have b2:=mulB (a:=y) (b:=y) (A:=67108864) (B:=67108864) (by omega) (by omega) (by omega) (by omega)
 have b3:=mulB (a:=d) (b:=d) (A:=67108864) (B:=67108864) (by omega) (by omega) (by omega) (by omega)
 simp (disch:=omega) only [wrapI]
 rw [Bool.eq_iff_iff]; simp
def pPtB (x y:Int):Bool:=decide ((-1048576≤x∧x≤1048576)∧-1048576≤y∧y≤1048576)
def pRectB (x0 y0 x1 y1:Int):Bool:=decide (x0≤x1∧y0≤y1) && pPtB x0 y0 && pPtB x1 y1
theorem pRect_bd {x0 y0 x1 y1:Int} (h:pRectB x0 y0 x1 y1=true):(-1048576≤x0∧x0≤1048576)∧(-1048576≤y0∧y0≤1048576)∧(-1048576≤x1∧x1≤1048576)∧(-1048576≤y1∧y1≤1048576)∧x0≤x1∧y0≤y1:=by
 simp only [pRectB,pPtB,Bool.and_eq_true,decide_eq_true_eq] at h; omega
def g122:Con:=fun args_ E_ nn_=>match args_ with
 | [.c (.v (.int .i64 n)),.c (.v (.int .i64 most))]=>some (.q (-9223372036854775807≤most∧most≤9223372036854775807) (.o (.c (.v (.bool (decide (-most≤n∧n≤most)))))))
 | _=>none
theorem c122:COk Tryz.prog 122 g122:=by
 refine cok_q Tryz.func122 x122_ok (by kernel_rfl) (cok_tab cok_nil) ?_
 intro args_ E_ nn_ cr_ hg_
 unfold g122 at hg_
 split at hg_
 ·rename_i n most
  cases hg_
  refine ⟨_,_,rfl,0,[],[.c (.v (.int .i64 n)),.c (.v (.int .i64 most))],[],.o (.c (.v (.bool (decide (-most≤n∧n≤most))))),rfl,rfl,and3 (by simp only [push_cast,Nat.reduceLT,Nat.reduceAdd]) ⟨rfl,trivial,rfl,?_⟩⟩
  intro hpre hlen
  refine ⟨trivial,?_⟩
  simp (maxSteps:=9999999) only [x122,push_cast,simprocAttr]
  rw [wrapI (by omega) (by omega)]
  rw [Bool.eq_iff_iff]
  simp []
  try omega
 ·cases hg_
def g83:Con:=fun args_ E_ nn_=>match args_ with
 | [.a [.v (.int .i64 p_X),.v (.int .i64 p_Y)]]=>some (.q (True) (.o (.c (.v (.bool (pPtB p_X p_Y))))))
 | _=>none
theorem c83:COk Tryz.prog 83 g83:=by
 refine cok_q Tryz.func83 x83_ok (by kernel_rfl) (cok_tab (cok_cons c122 cok_nil)) ?_
 intro args_ E_ nn_ cr_ hg_
 unfold g83 at hg_
 split at hg_
 ·rename_i p_X p_Y
  cases hg_
  refine ⟨_,_,rfl,0,[],[.a [.v (.int .i64 p_X),.v (.int .i64 p_Y)]],[],.o (.c (.v (.bool (pPtB p_X p_Y)))),rfl,rfl,and3 (by simp only [push_cast,Nat.reduceLT,Nat.reduceAdd]) ⟨rfl,trivial,rfl,?_⟩⟩
  intro hpre hlen
  refine ⟨trivial,?_⟩
  simp (maxSteps:=9999999) only [x83,push_cast,simprocAttr,g122]
  rw [Bool.eq_iff_iff]
  simp [pPtB]
  try omega
 ·cases hg_
def g84:Con:=fun args_ E_ nn_=>match args_ with
 | [.a [.v (.int .i64 v_X),.v (.int .i64 v_Y),.v (.int .i64 v_D)]]=>some (.q (True) (.o (.c (.v (.bool (vecB v_X v_Y v_D))))))
 | _=>none
theorem c84:COk Tryz.prog 84 g84:=by
 refine cok_q Tryz.func84 x84_ok (by kernel_rfl) (cok_tab (cok_cons c122 cok_nil)) ?_
 intro args_ E_ nn_ cr_ hg_
 unfold g84 at hg_
 split at hg_
 ·rename_i v_X v_Y v_D
  cases hg_
  refine ⟨_,_,rfl,0,[],[.a [.v (.int .i64 v_X),.v (.int .i64 v_Y),.v (.int .i64 v_D)]],[],.o (.c (.v (.bool (vecB v_X v_Y v_D)))),rfl,rfl,and3 (by simp only [push_cast,Nat.reduceLT,Nat.reduceAdd]) ⟨rfl,trivial,rfl,?_⟩⟩
  intro hpre hlen
  refine ⟨trivial,?_⟩
  simp (maxSteps:=9999999) only [x84,push_cast,simprocAttr,g122]
  refine ⟨fun _ _=>by omega,fun _ _ _ _=>by omega,?_⟩
  by_cases h:1≤v_D∧v_D≤67108864∧-v_D≤v_X∧v_X≤v_D∧-v_D≤v_Y∧v_Y≤v_D
  ·rw [vec_calc h]; unfold vecB; rw [Bool.eq_iff_iff]; simp only [Bool.and_eq_true,decide_eq_true_eq]; omega
  ·have:vecB v_X v_Y v_D=false:=by unfold vecB; rw [decide_eq_false_iff_not]; omega
   rw [this,Bool.eq_false_iff]; simp only [ne_eq,Bool.and_eq_true,decide_eq_true_eq]; omega
 ·cases hg_
def g143:Con:=fun args_ E_ nn_=>match args_ with
 | [.c (.v (.int .i64 a)),.c (.v (.int .i64 b))]=>some (.q (0 < b∧-9223372036854775808≤a∧a≤9223372036854775807∧b≤9223372036854775807) (.o (.c (.v (.int .i64 (a / b))))))
 | _=>none
theorem c143:COk Tryz.prog 143 g143:=by
 refine cok_q Tryz.func143 x143_ok (by kernel_rfl) (cok_tab cok_nil) ?_
 intro args_ E_ nn_ cr_ hg_
 unfold g143 at hg_
 split at hg_
 ·rename_i a b
  cases hg_
  refine ⟨_,_,rfl,0,[],[.c (.v (.int .i64 a)),.c (.v (.int .i64 b))],[],.o (.c (.v (.int .i64 (a / b)))),rfl,rfl,and3 (by simp only [push_cast,Nat.reduceLT,Nat.reduceAdd]) ⟨rfl,trivial,rfl,?_⟩⟩
  intro hpre hlen
  refine ⟨trivial,?_⟩
  simp (maxSteps:=9999999) only [x143,push_cast,simprocAttr]
  obtain ⟨h1,h2,h3,h4⟩:=hpre
  have r:=tdiv_range h1 h2 h3
  have k:=divB (a:=a) (b:=b) (A:=9223372036854775808) (by omega) (by omega) (by omega)
  refine ⟨by omega,by omega,fun h=>?_,fun h=>?_⟩
  ·have e:=floor_neg h1 h
   rw [wrapI r.1 r.2,wrapI (by omega) (by omega),e]
  ·rw [wrapI r.1 r.2,floor_pos h1 h]
 ·cases hg_
def g124:Con:=fun args_ E_ nn_=>match args_ with
 | [.c (.v (.int .i64 a)),.c (.v (.int .i64 b))]=>some (.q ((-1099511627776≤a∧a≤1099511627776)∧-1099511627776≤b∧b≤1099511627776) (.t [.c (.v (.int .i64 (-((-a) / 64) - 1))),.c (.v (.int .i64 (b / 64)))]))
 | _=>none
theorem c124:COk Tryz.prog 124 g124:=by
 refine cok_q Tryz.func124 x124_ok (by kernel_rfl) (cok_tab (cok_cons c143 cok_nil)) ?_
 intro args_ E_ nn_ cr_ hg_
 unfold g124 at hg_
 split at hg_
 ·rename_i a b
  cases hg_
  refine ⟨_,_,rfl,0,[],[.c (.v (.int .i64 a)),.c (.v (.int .i64 b))],[],.t [.c (.v (.int .i64 (-((-a) / 64) - 1))),.c (.v (.int .i64 (b / 64)))],rfl,rfl,and3 (by simp only [push_cast,Nat.reduceLT,Nat.reduceAdd]) ⟨rfl,trivial,rfl,?_⟩⟩
  intro hpre hlen
  refine ⟨trivial,?_⟩
  simp (maxSteps:=9999999) only [x124,push_cast,simprocAttr,g143]
  simp (disch:=omega) only [wrapI]
  refine ⟨by omega,by omega,trivial⟩
 ·cases hg_
def g126:Con:=fun args_ E_ nn_=>match args_ with
 | [.a [.v (.int .i64 c_X),.v (.int .i64 c_Y)]]=>some (.q ((-1099511627776≤c_X∧c_X≤1099511627776)∧-1099511627776≤c_Y∧c_Y≤1099511627776) (.o (.a [.v (.int .i64 (c_X * 64)),.v (.int .i64 (c_Y * 64)),.v (.int .i64 (c_X * 64+64)),.v (.int .i64 (c_Y * 64+64))])))
 | _=>none
theorem c126:COk Tryz.prog 126 g126:=by
 refine cok_q Tryz.func126 x126_ok (by kernel_rfl) (cok_tab cok_nil) ?_
 intro args_ E_ nn_ cr_ hg_
 unfold g126 at hg_
 split at hg_
 ·rename_i c_X c_Y
  cases hg_
  refine ⟨_,_,rfl,0,[],[.a [.v (.int .i64 c_X),.v (.int .i64 c_Y)]],[],.o (.a [.v (.int .i64 (c_X * 64)),.v (.int .i64 (c_Y * 64)),.v (.int .i64 (c_X * 64+64)),.v (.int .i64 (c_Y * 64+64))]),rfl,rfl,and3 (by simp only [push_cast,Nat.reduceLT,Nat.reduceAdd]) ⟨rfl,trivial,rfl,?_⟩⟩
  intro hpre hlen
  refine ⟨trivial,?_⟩
  simp (maxSteps:=9999999) only [x126,push_cast,simprocAttr]
  simp (disch:=omega) only [wrapI]
  simp
 ·cases hg_
def g123:Con:=fun args_ E_ nn_=>match args_ with
 | [.c (.v (.int .i64 a)),.c (.v (.int .i64 b)),.c (.v (.int .i64 n)),.c (.v (.int .i64 d)),.c (.v (.int .i64 lo)),.c (.v (.int .i64 hi))]=>some (.q ((-2097152≤a∧a≤2097152)∧(-2097152≤b∧b≤2097152)∧(1≤d∧d≤67108864)∧(-67108864≤n∧n≤67108864)∧(0≤lo∧lo≤65536)∧0≤hi∧hi≤65536) (.t [.c (.v (.int .i64 (a+min (lo * n) (hi * n) / d))),.c (.v (.int .i64 (b+max (lo * n) (hi * n) / d+1)))]))
 | _=>none
theorem c123:COk Tryz.prog 123 g123:=by
 refine cok_q Tryz.func123 x123_ok (by kernel_rfl) (cok_tab (cok_cons c143 cok_nil)) ?_
 intro args_ E_ nn_ cr_ hg_
 unfold g123 at hg_
 split at hg_
 ·rename_i a b n d lo hi
  cases hg_
  refine ⟨_,_,rfl,0,[],[.c (.v (.int .i64 a)),.c (.v (.int .i64 b)),.c (.v (.int .i64 n)),.c (.v (.int .i64 d)),.c (.v (.int .i64 lo)),.c (.v (.int .i64 hi))],[],.t [.c (.v (.int .i64 (a+min (lo * n) (hi * n) / d))),.c (.v (.int .i64 (b+max (lo * n) (hi * n) / d+1)))],rfl,rfl,and3 (by simp only [push_cast,Nat.reduceLT,Nat.reduceAdd]) ⟨rfl,trivial,rfl,?_⟩⟩
  intro hpre hlen
  refine ⟨trivial,?_⟩
  simp (maxSteps:=9999999) only [x123,push_cast,simprocAttr,g143]
  have b1:=mulB (a:=lo) (b:=n) (A:=65536) (B:=67108864) (by omega) (by omega) (by omega) (by omega)
  have b2:=mulB (a:=hi) (b:=n) (A:=65536) (B:=67108864) (by omega) (by omega) (by omega) (by omega)
  have b3:=divB (a:=min (lo * n) (hi * n)) (b:=d) (A:=4398046511104) (by omega) (by omega) (by omega)
  have b4:=divB (a:=max (lo * n) (hi * n)) (b:=d) (A:=4398046511104) (by omega) (by omega) (by omega)
  simp (disch:=omega) only [wrapI]
  refine ⟨by omega,by omega,?_⟩
  simp
 ·cases hg_
end Go.Proofs.YtgpbokembopapaaGreat
namespace Go.Proofs.YtgpbokembopapaaGreat
open Go.Sx
def x85L0:XC:=(.seq (.seq (.reg false [O1 70 .mv 19,O1 71 .mv 14,O2 72 (.bin .leq) 70 71]) (.cond (.t 72) .skip (.exit 2))) (.seq (.block 3 (.seq (.reg false [O1 75 .mv 19,O1 76 .mv 18,⟨(some 77),(.build [(iV 0),(iV 0)] [(0,1),(1,1)]),[(.t 75),(.t 76)],none⟩,⟨(some 20),(.alloc 109 [(iV 0),(iV 0)]),[],none⟩,⟨none,(.store 2),[(.t 20),(.t 77)],none⟩]) (.seq (.regD [O1 79 (.loadN 2) 20,O1 80 (.call 126) 79,O1 81 (.loadN 4) 4,O2 82 (.call 125) 80 81,O1 78 .mv 82,O1 83 (.ext 0) 78,O1 84 (.ext 1) 78,⟨(some 21),(.alloc 151 [(iV 0),(iV 0),(iV 0),(iV 0)]),[],none⟩,⟨none,(.store 4),[(.t 21),(.t 83)],none⟩,O1 22 .mv 84] [[],[0],[],[1,0,2],[3,1,0,2],[4,3,1,0,2],[4,3,1,0,2],[],[7,5,4,3,1,0,2],[6,4,3,1,0,2,8,7,5]]) (.seq (.reg false [O1 85 .mv 22,O1 86 .mv 85,⟨(some 87),(.build [(iV 0),(iV 0)] []),[],(some (86,true))⟩,G1 88 (.loadN 3) 5 86 true,G1 89 .mv 2 86 true,G1 90 .mv 3 86 true,G1 91 (.loadN 4) 21 86 true,⟨(some 92),(.call 127),[(.t 87),(.t 88),(.t 89),(.t 90),(.t 91)],(some (86,true))⟩,⟨(some 93),.pick,[(.t 86),(.t 92),(.k (.bool false))],none⟩]) (.cond (.t 93) (.reg false [O1 94 .mv 17,O1 95 (.loadN 2) 20,⟨(some 96),(.slit 109 1 2 [(iV 0),(iV 0)] [(0,2)]),[(.t 95)],none⟩,O2 97 (.app 109 2 16) 94 96,O1 17 .mv 97]) .skip))))) (.reg false [O1 73 .mv 19,K2 74 (.bin .add) 73 (iV 1),O1 19 .mv 74])))
def x85L1:XC:=(.seq (.seq (.reg false [O1 64 .mv 18,O1 65 .mv 16,O2 66 (.bin .leq) 64 65]) (.cond (.t 66) .skip (.exit 0))) (.seq (.block 1 (.seq (.reg false [O1 69 .mv 13,O1 19 .mv 69]) (.block 2 (.loop x85L0)))) (.reg false [O1 67 .mv 18,K2 68 (.bin .add) 67 (iV 1),O1 18 .mv 68])))
def x85:XFn:=⟨99,(.seq (.reg false [O1 4 (.box 151) 0,O1 5 (.box 104) 1,K1 8 .mv (.slice none 0 0)]) (.seq (.reg false [O1 24 (.fld 0) 4,O1 25 .load1 24,O1 26 (.fld 2) 4,O1 27 .load1 26,O1 28 (.fld 0) 5,O1 29 .load1 28,O1 30 (.fld 2) 5,O1 31 .load1 30,O1 32 .mv 2,O1 33 .mv 3,⟨(some 34),(.call 123),[(.t 25),(.t 27),(.t 29),(.t 31),(.t 32),(.t 33)],none⟩,O1 23 .mv 34,O1 35 (.ext 0) 23,O1 36 (.ext 1) 23,O1 9 .mv 35,O1 10 .mv 36]) (.seq (.reg false [O1 38 (.fld 1) 4,O1 39 .load1 38,O1 40 (.fld 3) 4,O1 41 .load1 40,O1 42 (.fld 1) 5,O1 43 .load1 42,O1 44 (.fld 2) 5,O1 45 .load1 44,O1 46 .mv 2,O1 47 .mv 3,⟨(some 48),(.call 123),[(.t 39),(.t 41),(.t 43),(.t 45),(.t 46),(.t 47)],none⟩,O1 37 .mv 48,O1 49 (.ext 0) 37,O1 50 (.ext 1) 37,O1 11 .mv 49,O1 12 .mv 50]) (.seq (.reg false [O1 52 .mv 9,O1 53 .mv 10,O2 54 (.call 124) 52 53,O1 51 .mv 54,O1 55 (.ext 0) 51,O1 56 (.ext 1) 51,O1 13 .mv 55,O1 14 .mv 56]) (.seq (.reg false [O1 58 .mv 11,O1 59 .mv 12,O2 60 (.call 124) 58 59,O1 57 .mv 60,O1 61 (.ext 0) 57,O1 62 (.ext 1) 57,O1 15 .mv 61,O1 16 .mv 62]) (.seq (.reg false [K1 17 .mv (.slice none 0 0)]) (.seq (.seq (.reg false [O1 63 .mv 15,O1 18 .mv 63]) (.block 0 (.loop x85L1))) (.seq (.reg false [O1 98 .mv 17,O1 8 .mv 98]) .ret)))))))),[(.s 8)]⟩
theorem x85_ok:xfn Tryz.prog Tryz.f85=some x85.er:=by kernel_rfl
def swP (x0 y0 x1 y1 vx vy vd lo hi:Int) (x y:Int):Bool :=
 minusB (x * 64) (y * 64) (x * 64+64) (y * 64+64) x0 y0 x1 y1 && meetsB 0 0 vx vy vd lo hi (x * 64 - x1) (y * 64 - y1) (x * 64+64 - x0) (y * 64+64 - y0)
def rLo (a n d lo hi:Int):Int:=-(-(a+min (lo * n) (hi * n) / d) / 64) - 1
def rHi (b n d lo hi:Int):Int:=(b+max (lo * n) (hi * n) / d+1) / 64
def swL (x0 y0 x1 y1 vx vy vd lo hi:Int):List CC:=gridL (swP x0 y0 x1 y1 vx vy vd lo hi) (rLo x0 vx vd lo hi) (rHi x1 vx vd lo hi) (rLo y0 vy vd lo hi) (rHi y1 vy vd lo hi)
theorem frac_bd {lo hi n d:Int} (hd:1≤d) (h1:-d≤n) (h2:n≤d) (h3:0≤lo∧lo≤2048) (h4:0≤hi∧hi≤2048) :
  (-2048≤min (lo * n) (hi * n) / d∧min (lo * n) (hi * n) / d≤2048)∧-2048≤max (lo * n) (hi * n) / d∧max (lo * n) (hi * n) / d≤2048:=by
 have e1:=mulB (a:=lo) (b:=n) (A:=2048) (B:=d) (by omega) (by omega) h1 h2
 have e2:=mulB (a:=hi) (b:=n) (A:=2048) (B:=d) (by omega) (by omega) h1 h2
 have k:∀ m,-(2048 * d)≤m→m≤2048 * d→-2048≤m / d∧m / d≤2048:=fun m g1 g2=>
  ⟨Int.le_ediv_of_mul_le (by omega) (by rw [Int.neg_mul]; exact g1),Int.ediv_le_of_le_mul (by omega) g2⟩
 exact ⟨k _ (by omega) (by omega),k _ (by omega) (by omega)⟩
theorem natS (y:Int) (j:Nat) (h1:-1000000000≤y) (h2:y+j≤1000000000):IntKind.i64.wrap (y+(j:Int)+1)=y+((j+1:Nat):Int):=by rw [wrapI (by omega) (by omega)]; omega
def okR (lo hi:Int):Bool:=decide (0≤lo∧lo≤hi∧hi≤2048)
def g85:Con:=fun args_ E_ nn_=>match args_ with
 | [.a [.v (.int .i64 r_X0),.v (.int .i64 r_Y0),.v (.int .i64 r_X1),.v (.int .i64 r_Y1)],.a [.v (.int .i64 v_X),.v (.int .i64 v_Y),.v (.int .i64 v_D)],.c (.v (.int .i64 lo)),.c (.v (.int .i64 hi))]=>some (.e (pRectB r_X0 r_Y0 r_X1 r_Y1=true∧vecB v_X v_Y v_D=true∧okR lo hi=true) (.o (.c (.n (nn_+0)))) [((nn_+0),.own (swL r_X0 r_Y0 r_X1 r_Y1 v_X v_Y v_D lo hi).length 2 (rowF eC (swL r_X0 r_Y0 r_X1 r_Y1 v_X v_Y v_D lo hi)) 109)] (nn_+1))
 | _=>none
theorem c85:COk Tryz.prog 85 g85:=by
 refine cok_e Tryz.func85 x85_ok (by kernel_rfl) (cok_tab (cok_cons c123 (cok_cons c124 (cok_cons c126 (cok_cons c125 (cok_cons c127 cok_nil)))))) ?_
 intro args_ E_ nn_ cr_ hg_
 unfold g85 at hg_
 split at hg_
 ·rename_i r_X0 r_Y0 r_X1 r_Y1 v_X v_Y v_D lo hi
  cases hg_
  refine ⟨_,_,_,_,rfl,0,[],[.a [.v (.int .i64 r_X0),.v (.int .i64 r_Y0),.v (.int .i64 r_X1),.v (.int .i64 r_Y1)],.a [.v (.int .i64 v_X),.v (.int .i64 v_Y),.v (.int .i64 v_D)],.c (.v (.int .i64 lo)),.c (.v (.int .i64 hi))],[],.o (.c (.n 0)),[(0,.own (swL r_X0 r_Y0 r_X1 r_Y1 v_X v_Y v_D lo hi).length 2 (rowF eC (swL r_X0 r_Y0 r_X1 r_Y1 v_X v_Y v_D lo hi)) 109)],1,rfl,rfl,by simp only [renE,Ent.ren,rowF_renf]<;>rfl,rfl,by decide,and4 (by simp only [push_cast,Nat.reduceLT,Nat.reduceAdd]) ⟨rfl,trivial,by simp only [keysNodup,outN,keys]<;>decide,rfl,rfl,?_⟩⟩
  intro hpre hlen
  refine ⟨trivial,by simp only [apartE]<;>(first | trivial | (simp [Ent.mut]; done)),?_⟩
  simp (maxSteps:=9999999) only [x85,push_cast,simprocAttr,g123,g124,g126,g125,g127]
  obtain ⟨hr,hv,ho⟩:=hpre
  have a1:=pRect_bd hr
  have a2:=vec_bd hv
  have a3:0≤lo∧lo≤hi∧hi≤2048:=by simpa [okR] using ho
  have fx:=frac_bd (lo:=lo) (hi:=hi) (n:=v_X) (d:=v_D) (by omega) (by omega) (by omega) (by omega) (by omega)
  have fy:=frac_bd (lo:=lo) (hi:=hi) (n:=v_Y) (d:=v_D) (by omega) (by omega) (by omega) (by omega) (by omega)
  refine ⟨by omega,by omega,by omega,by omega,?_⟩
  simp only [swL,rLo,rHi]
  have b1:-20000≤-(-(r_X0+min (lo * v_X) (hi * v_X) / v_D) / 64) - 1∧-(-(r_X0+min (lo * v_X) (hi * v_X) / v_D) / 64) - 1≤20000:=by omega
  have b2:-20000≤-(-(r_Y0+min (lo * v_Y) (hi * v_Y) / v_D) / 64) - 1∧-(-(r_Y0+min (lo * v_Y) (hi * v_Y) / v_D) / 64) - 1≤20000:=by omega
  have b3:-20000≤(r_X1+max (lo * v_X) (hi * v_X) / v_D+1) / 64∧(r_X1+max (lo * v_X) (hi * v_X) / v_D+1) / 64≤20000:=by omega
  have b4:-20000≤(r_Y1+max (lo * v_Y) (hi * v_Y) / v_D+1) / 64∧(r_Y1+max (lo * v_Y) (hi * v_Y) / v_D+1) / 64≤20000:=by omega
  generalize -(-(r_X0+min (lo * v_X) (hi * v_X) / v_D) / 64) - 1=x0 at *
  generalize -(-(r_Y0+min (lo * v_Y) (hi * v_Y) / v_D) / 64) - 1=y0 at *
  generalize (r_X1+max (lo * v_X) (hi * v_X) / v_D+1) / 64=x1 at *
  generalize (r_Y1+max (lo * v_Y) (hi * v_Y) / v_D+1) / 64=y1 at *
  clear fx fy
  refine vcLoop_upd (α:={j:Nat // j≤(y1 - y0+1).toNat}) [2,3,4,5,13,14,16] 1 (fun s=>[(17,.o (.c (.n 2))),(18,.o (.c (.v (.int .i64 (y0+(s.1:Nat))))))]) (fun s=>[(2,.own ((gridUp (swP r_X0 r_Y0 r_X1 r_Y1 v_X v_Y v_D lo hi) x0 (x1 - x0+1).toNat y0 s.1)).length 2 (rowF eC ((gridUp (swP r_X0 r_Y0 r_X1 r_Y1 v_X v_Y v_D lo hi) x0 (x1 - x0+1).toNat y0 s.1))) 109)]) (fun s=>(y1 - y0+1).toNat - s.1) ⟨0,by omega⟩ ?_ ?_
  ·simp only [push_cast,simprocAttr,g123,g124,g126,g125,g127,gridUp_zero]
   omega
  ·rintro ⟨j,hj⟩
   simp only [x85L1,push_cast,simprocAttr,g123,g124,g126,g125,g127]
   refine ⟨fun hlt=>?_,fun hge=>?_⟩
   ·refine vcLoop_upd (α:={i:Nat // i≤(x1 - x0+1).toNat}) [2,3,4,5,13,14,16,18] 0 (fun s=>[(17,.o (.c (.n 2))),(19,.o (.c (.v (.int .i64 (x0+(s.1:Nat))))))]) (fun s=>[(2,.own ((gridUp (swP r_X0 r_Y0 r_X1 r_Y1 v_X v_Y v_D lo hi) x0 (x1 - x0+1).toNat y0 j++gridRow (swP r_X0 r_Y0 r_X1 r_Y1 v_X v_Y v_D lo hi) x0 (y0+j) s.1)).length 2 (rowF eC ((gridUp (swP r_X0 r_Y0 r_X1 r_Y1 v_X v_Y v_D lo hi) x0 (x1 - x0+1).toNat y0 j++gridRow (swP r_X0 r_Y0 r_X1 r_Y1 v_X v_Y v_D lo hi) x0 (y0+j) s.1))) 109)]) (fun s=>(x1 - x0+1).toNat - s.1) ⟨0,by omega⟩ ?_ ?_
    ·simp only [push_cast,simprocAttr,g123,g124,g126,g125,g127,gridRow_zero]
     omega
    ·rintro ⟨i,hi2⟩
     simp only [x85L0,push_cast,simprocAttr,g123,g124,g126,g125,g127]
     refine ⟨fun hin=>⟨by omega,by rfl,fun h1 h2=>?_,fun h=>?_⟩,fun hout=>?_⟩
     ·rw [h1] at h2
      simp only [mI_t] at h2
      have hp:swP r_X0 r_Y0 r_X1 r_Y1 v_X v_Y v_D lo hi (x0+i) (y0+j)=true:=by unfold swP; rw [h1,h2]; rfl
      refine ⟨?_,⟨i+1,by omega⟩,⟨natS _ _ (by omega) (by omega),push_eq (E:=eC) (x:=⟨x0+i,y0+j⟩) (by simp only; rw [gridRow_yes hp,List.append_assoc])⟩,by simp only; omega⟩
      rw [List.length_append]
      have g1:=gridUp_len (swP r_X0 r_Y0 r_X1 r_Y1 v_X v_Y v_D lo hi) x0 (x1 - x0+1).toNat y0 j
      have g2:=gridRow_len (swP r_X0 r_Y0 r_X1 r_Y1 v_X v_Y v_D lo hi) x0 (y0+j) i
      have g3:j * (x1 - x0+1).toNat≤100000 * 100000:=Nat.mul_le_mul (by omega) (by omega)
      omega
     ·have hp:swP r_X0 r_Y0 r_X1 r_Y1 v_X v_Y v_D lo hi (x0+i) (y0+j)=false:=by
       unfold swP
       cases hb:minusB ((x0+i) * 64) ((y0+j) * 64) ((x0+i) * 64+64) ((y0+j) * 64+64) r_X0 r_Y0 r_X1 r_Y1
       ·rfl
       ·rw [hb] at h; simpa [mI_t] using h
      exact ⟨⟨i+1,by omega⟩,⟨natS _ _ (by omega) (by omega),same_eq (by simp only; rw [gridRow_no hp])⟩,by simp only; omega⟩
     ·obtain rfl:i=(x1 - x0+1).toNat:=by omega
      exact ⟨⟨j+1,by omega⟩,⟨natS _ _ (by omega) (by omega),same_eq (by simp only; rw [gridUp_succ])⟩,by simp only; omega⟩
   ·obtain rfl:j=(y1 - y0+1).toNat:=by omega
    exact same_eq rfl
 ·cases hg_
end Go.Proofs.YtgpbokembopapaaGreat
namespace Go.Proofs.YtgpbokembopapaaGreat
open Go.Sx
def x47:XFn:=⟨42,(.seq (.reg false [O1 4 (.box 102) 0,O1 5 (.box 104) 1,K1 8 .mv (.slice none 0 0),K1 9 .mv (iV 0)]) (.seq (.seq (.reg false [O1 10 (.loadN 2) 4,O1 11 (.call 83) 10,O1 12 (.un .not) 11,O1 13 .mv 12,G1 14 (.loadN 3) 5 13 false,G1 15 (.call 84) 14 13 false,G1 16 (.un .not) 15 13 false,⟨(some 17),.pick,[(.t 13),(.k (.bool true)),(.t 16)],none⟩]) (.cond (.t 17) (.seq (.reg false [K1 8 .mv (.slice none 0 0),K1 9 .mv (iV 1)]) .ret) .skip)) (.seq (.seq (.reg false [O1 18 .mv 2,K2 19 (.bin .lss) 18 (iV 0),O1 20 .mv 19,G1 21 .mv 3 20 false,G1 22 .mv 2 20 false,G2 23 (.bin .lss) 21 22 20 false,⟨(some 24),.pick,[(.t 20),(.k (.bool true)),(.t 23)],none⟩,O1 25 .mv 24,G1 26 .mv 3 25 false,GK 27 (.bin .gtr) 26 (iV 2048) 25 false,⟨(some 28),.pick,[(.t 25),(.k (.bool true)),(.t 27)],none⟩]) (.cond (.t 28) (.seq (.reg false [K1 8 .mv (.slice none 0 0),K1 9 .mv (iV 2)]) .ret) .skip)) (.seq (.reg false [O1 29 (.fld 0) 4,O1 30 .load1 29,O1 31 (.fld 1) 4,O1 32 .load1 31,O1 33 (.fld 0) 4,O1 34 .load1 33,O1 35 (.fld 1) 4,O1 36 .load1 35,⟨(some 37),(.build [(iV 0),(iV 0),(iV 0),(iV 0)] [(0,1),(1,1),(2,1),(3,1)]),[(.t 30),(.t 32),(.t 34),(.t 36)],none⟩,O1 38 (.loadN 3) 5,O1 39 .mv 2,O1 40 .mv 3,⟨(some 41),(.call 85),[(.t 37),(.t 38),(.t 39),(.t 40)],none⟩,O1 8 .mv 41,K1 9 .mv (iV 0)]) .ret)))),[(.s 8),(.s 9)]⟩
theorem x47_ok:xfn Tryz.prog Tryz.f47=some x47.er:=by kernel_rfl
def trE (x y vx vy vd lo hi:Int):Int:=if pPtB x y=false∨vecB vx vy vd=false then 1 else if okR lo hi=false then 2 else 0
def trL (x y vx vy vd lo hi:Int):List CC:=if trE x y vx vy vd lo hi=0 then swL x y x y vx vy vd lo hi else []
theorem okR_f {lo hi:Int} (h:(lo < 0∨hi < lo)∨2048 < hi):okR lo hi=false:=by unfold okR; rw [decide_eq_false_iff_not]; omega
theorem okR_t {lo hi:Int} (h1:¬ lo < 0) (h2:¬ hi < lo) (h3:¬ 2048 < hi):okR lo hi=true:=by unfold okR; rw [decide_eq_true_eq]; omega
theorem pPt_rect {x y:Int} (h:pPtB x y=true):pRectB x y x y=true:=by unfold pRectB; rw [h]; simp
def g47:Con:=fun args_ E_ nn_=>match args_ with
 | [.a [.v (.int .i64 p_X),.v (.int .i64 p_Y)],.a [.v (.int .i64 v_X),.v (.int .i64 v_Y),.v (.int .i64 v_D)],.c (.v (.int .i64 lo)),.c (.v (.int .i64 hi))]=>some (.e (True) (.t [.c (.n (nn_+0)),.c (.v (.int .i64 (trE p_X p_Y v_X v_Y v_D lo hi)))]) [((nn_+0),.own (trL p_X p_Y v_X v_Y v_D lo hi).length 2 (rowF eC (trL p_X p_Y v_X v_Y v_D lo hi)) 109)] (nn_+1))
 | _=>none
theorem c47:COk Tryz.prog 47 g47:=by
 refine cok_e Tryz.func47 x47_ok (by kernel_rfl) (cok_tab (cok_cons c83 (cok_cons c84 (cok_cons c85 cok_nil)))) ?_
 intro args_ E_ nn_ cr_ hg_
 unfold g47 at hg_
 split at hg_
 ·rename_i p_X p_Y v_X v_Y v_D lo hi
  cases hg_
  refine ⟨_,_,_,_,rfl,0,[],[.a [.v (.int .i64 p_X),.v (.int .i64 p_Y)],.a [.v (.int .i64 v_X),.v (.int .i64 v_Y),.v (.int .i64 v_D)],.c (.v (.int .i64 lo)),.c (.v (.int .i64 hi))],[],.t [.c (.n 0),.c (.v (.int .i64 (trE p_X p_Y v_X v_Y v_D lo hi)))],[(0,.own (trL p_X p_Y v_X v_Y v_D lo hi).length 2 (rowF eC (trL p_X p_Y v_X v_Y v_D lo hi)) 109)],1,rfl,rfl,by simp only [renE,Ent.ren,rowF_renf]<;>rfl,rfl,by decide,and4 (by simp only [push_cast,Nat.reduceLT,Nat.reduceAdd]) ⟨rfl,trivial,by simp only [keysNodup,outN,keys]<;>decide,rfl,rfl,?_⟩⟩
  intro hpre hlen
  refine ⟨trivial,by simp only [apartE]<;>(first | trivial | (simp [Ent.mut]; done)),?_⟩
  simp (maxSteps:=9999999) only [x47,push_cast,simprocAttr,g83,g84,g85]
  refine ⟨fun h=>by simp [trL,trE,h],fun h1 h2=>?_⟩
  have h3:¬ (pPtB p_X p_Y=false∨vecB v_X v_Y v_D=false):=by simp [h1,h2]
  refine ⟨fun h=>by simp [trL,trE,h1,h2,okR_f h],fun g1 g2 g3=>⟨⟨pPt_rect h1,h2,okR_t g1 g2 g3⟩,by simp [trE,h1,h2,okR_t g1 g2 g3],same_eq (by simp [trL,trE,h1,h2,okR_t g1 g2 g3])⟩⟩
 ·cases hg_
end Go.Proofs.YtgpbokembopapaaGreat
