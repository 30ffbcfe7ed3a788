/- A part of the proof of a statement about this seat: how a function is stepped through, and plain laws. No conditions. -/
import Derived.Test.YtbjgaejmkhjbaaaRows
import Derived.Test.YtbjgaejmkhjbaaaSz3
import Derived.Test.YtbjgaejmkhjbaaaQ5
import Derived.KernelRfl
set_option linter.unusedVariables false
set_option linter.unusedSimpArgs false
set_option maxRecDepth 20000
namespace Go.Proofs.Ytbjgaejmkhjbaaa
open Go.Sx
/-! ### Squares and cells -/
def sqB (x y : Int) : Bool := decide ((-16384 ≤ x ∧ x ≤ 16384) ∧ -16384 ≤ y ∧ y ≤ 16384)
theorem sq_t {x y : Int} (h1 : -16384 ≤ x) (h2 : x ≤ 16384) (h3 : -16384 ≤ y) (h4 : y ≤ 16384) : sqB x y = true := by unfold sqB; rw [decide_eq_true_eq]; omega
theorem sq_f {x y : Int} (h : ¬ (-16384 ≤ x ∧ x ≤ 16384) ∨ ¬ (-16384 ≤ y ∧ y ≤ 16384)) : sqB x y = false := by unfold sqB; rw [decide_eq_false_iff_not]; omega
theorem cl_at {x y : Int} {c : CC} (h : c ∈ clL x y x y) : (c.X * 64 ≤ x ∧ x ≤ c.X * 64 + 64) ∧ c.Y * 64 ≤ y ∧ y ≤ c.Y * 64 + 64 := by
  unfold clL at h
  split at h
  · rw [gridL_mem] at h
    unfold cX0 cX1 at h
    omega
  · cases h
theorem cl_in {x y : Int} (h : pPtB x y = true) : (⟨x / 64, y / 64⟩ : CC) ∈ clL x y x y := by
  have hr := pPt_rect h
  have a := pRect_bd hr
  have k1 : 1 ≤ cX1 x - cX0 x + 1 ∧ cX1 x - cX0 x + 1 ≤ 3 := by unfold cX0 cX1; omega
  have k2 : 1 ≤ cX1 y - cX0 y + 1 ∧ cX1 y - cX0 y + 1 ≤ 3 := by unfold cX0 cX1; omega
  have m := Int.mul_le_mul k1.2 k2.2 (by omega) (by omega)
  rw [(clE0 hr (by omega)).2, gridL_mem]
  unfold cX0 cX1
  exact ⟨rfl, by simp only; omega, by simp only; omega⟩
theorem cl_len (x y : Int) : (clL x y x y).length ≤ 9 := by
  unfold clL
  split
  · rw [gridL_yesL]
    have e1 : (cX1 y - cX0 y + 1).toNat ≤ 3 := by unfold cX0 cX1; omega
    have e2 : (cX1 x - cX0 x + 1).toNat ≤ 3 := by unfold cX0 cX1; omega
    exact Nat.mul_le_mul e1 e2
  · simp
def x34 : XFn := ⟨17, (.seq (.reg false [O1 1 (.box 47) 0, ⟨(some 2), (.alloc 36 [(iV 0), (iV 0), (iV 0), (iV 0)]), [], none⟩, K1 3 .mv (.bool false)]) (.seq (.seq (.reg false [O1 4 (.fld 0) 1, O1 5 .load1 4, K2 6 (.call 68) 5 (iV 16384), O1 7 (.un .not) 6, O1 8 .mv 7, G1 9 (.fld 1) 1 8 false, G1 10 .load1 9 8 false, GK 11 (.call 68) 10 (iV 16384) 8 false, G1 12 (.un .not) 11 8 false, ⟨(some 13), .pick, [(.t 8), (.k (.bool true)), (.t 12)], none⟩]) (.cond (.t 13) (.seq (.reg false [⟨(some 14), (.build [(iV 0), (iV 0), (iV 0), (iV 0)] []), [], none⟩, ⟨none, (.store 4), [(.t 2), (.t 14)], none⟩, K1 3 .mv (.bool false)]) .ret) .skip)) (.seq (.reg false [O1 15 (.loadN 2) 1, O1 16 (.call 69) 15, ⟨none, (.store 4), [(.t 2), (.t 16)], none⟩, K1 3 .mv (.bool true)]) .ret))), [(.bn 2 4), (.s 3)]⟩
theorem x34_ok : xfn Try.prog Try.f34 = some x34.er := by kernel_rfl
def x36 : XFn := ⟨15, (.seq (.reg false [O1 1 (.box 23) 0, ⟨(some 2), (.alloc 47 [(iV 0), (iV 0)]), [], none⟩, K1 3 .mv (.bool false)]) (.seq (.seq (.reg false [O1 4 (.loadN 2) 1, O1 5 (.call 50) 4, O1 6 (.un .not) 5]) (.cond (.t 6) (.seq (.reg false [⟨(some 7), (.build [(iV 0), (iV 0)] []), [], none⟩, ⟨none, (.store 2), [(.t 2), (.t 7)], none⟩, K1 3 .mv (.bool false)]) .ret) .skip)) (.seq (.regD [O1 8 (.fld 0) 1, O1 9 .load1 8, K2 10 (.call 70) 9 (iV 64), O1 11 (.fld 1) 1, O1 12 .load1 11, K2 13 (.call 70) 12 (iV 64), ⟨(some 14), (.build [(iV 0), (iV 0)] [(0, 1), (1, 1)]), [(.t 10), (.t 13)], none⟩, ⟨none, (.store 2), [(.t 2), (.t 14)], none⟩, K1 3 .mv (.bool true)] [[], [0], [1, 0], [], [3], [4, 3, 2, 1, 0], [2, 1, 0, 5, 4, 3], [6, 2, 1, 0, 5, 4, 3], [7, 6, 2, 1, 0, 5, 4, 3]]) .ret))), [(.bn 2 2), (.s 3)]⟩
theorem x36_ok : xfn Try.prog Try.f36 = some x36.er := by kernel_rfl
def x35 : XFn := ⟨17, (.seq (.reg false [O1 1 (.box 47) 0, ⟨(some 2), (.alloc 36 [(iV 0), (iV 0), (iV 0), (iV 0)]), [], none⟩, K1 3 .mv (.bool false)]) (.seq (.seq (.reg false [O1 4 (.fld 0) 1, O1 5 .load1 4, K2 6 (.call 39) 5 (iV 16384), O1 7 (.un .not) 6, O1 8 .mv 7, G1 9 (.fld 1) 1 8 false, G1 10 .load1 9 8 false, GK 11 (.call 39) 10 (iV 16384) 8 false, G1 12 (.un .not) 11 8 false, ⟨(some 13), .pick, [(.t 8), (.k (.bool true)), (.t 12)], none⟩]) (.cond (.t 13) (.seq (.reg false [⟨(some 14), (.build [(iV 0), (iV 0), (iV 0), (iV 0)] []), [], none⟩, ⟨none, (.store 4), [(.t 2), (.t 14)], none⟩, K1 3 .mv (.bool false)]) .ret) .skip)) (.seq (.reg false [O1 15 (.loadN 2) 1, O1 16 (.call 59) 15, ⟨none, (.store 4), [(.t 2), (.t 16)], none⟩, K1 3 .mv (.bool true)]) .ret))), [(.bn 2 4), (.s 3)]⟩
theorem x35_ok : xfn Try.prog Try.f35 = some x35.er := by kernel_rfl
def x37 : XFn := ⟨15, (.seq (.reg false [O1 1 (.box 23) 0, ⟨(some 2), (.alloc 47 [(iV 0), (iV 0)]), [], none⟩, K1 3 .mv (.bool false)]) (.seq (.seq (.reg false [O1 4 (.loadN 2) 1, O1 5 (.call 71) 4, O1 6 (.un .not) 5]) (.cond (.t 6) (.seq (.reg false [⟨(some 7), (.build [(iV 0), (iV 0)] []), [], none⟩, ⟨none, (.store 2), [(.t 2), (.t 7)], none⟩, K1 3 .mv (.bool false)]) .ret) .skip)) (.seq (.regD [O1 8 (.fld 0) 1, O1 9 .load1 8, K2 10 (.call 56) 9 (iV 64), O1 11 (.fld 1) 1, O1 12 .load1 11, K2 13 (.call 56) 12 (iV 64), ⟨(some 14), (.build [(iV 0), (iV 0)] [(0, 1), (1, 1)]), [(.t 10), (.t 13)], none⟩, ⟨none, (.store 2), [(.t 2), (.t 14)], none⟩, K1 3 .mv (.bool true)] [[], [0], [1, 0], [], [3], [4, 3, 2, 1, 0], [2, 1, 0, 5, 4, 3], [6, 2, 1, 0, 5, 4, 3], [7, 6, 2, 1, 0, 5, 4, 3]]) .ret))), [(.bn 2 2), (.s 3)]⟩
theorem x37_ok : xfn Try.prog Try.f37 = some x37.er := by kernel_rfl
def x10L0 : XC := (.seq (.seq (.reg false [O1 69 .mv 15, O1 70 .mv 13, O1 71 .lenS 70, O2 72 (.bin .lss) 69 71]) (.cond (.t 72) .skip (.exit 0))) (.seq (.block 1 (.seq (.reg false [O1 76 .mv 13, O1 77 .mv 15, O2 78 (.ixS 2) 76 77, O1 79 (.loadN 2) 78, O1 80 (.call 34) 79, O1 75 .mv 80, O1 81 (.ext 0) 75, O1 82 (.ext 1) 75, ⟨(some 16), (.alloc 36 [(iV 0), (iV 0), (iV 0), (iV 0)]), [], none⟩, ⟨none, (.store 4), [(.t 16), (.t 81)], none⟩, O1 17 .mv 82]) (.seq (.seq (.reg false [O1 83 .mv 13, O1 84 .mv 15, O2 85 (.ixS 2) 83 84, O1 86 (.fld 0) 85, O1 87 .load1 86, K2 88 (.call 39) 87 (iV 16384), O1 89 .mv 88, G1 90 .mv 13 89 true, G1 91 .mv 15 89 true, G2 92 (.ixS 2) 90 91 89 true, G1 93 (.fld 1) 92 89 true, G1 94 .load1 93 89 true, GK 95 (.call 39) 94 (iV 16384) 89 true, ⟨(some 96), .pick, [(.t 89), (.t 95), (.k (.bool false))], none⟩, O1 97 .mv 96, G1 98 .mv 17 97 true, G1 99 (.un .not) 98 97 true, G1 100 .mv 99 97 true, G1 101 (.fld 0) 3 100 false, G1 102 .load1 101 100 false, G1 103 (.fld 0) 16 100 false, G1 104 .load1 103 100 false, G2 105 (.bin .lss) 102 104 100 false, ⟨(some 106), .pick, [(.t 100), (.k (.bool true)), (.t 105)], (some (97, true))⟩, G1 107 .mv 106 97 true, G1 108 (.fld 0) 3 107 false, G1 109 .load1 108 107 false, G1 110 (.fld 2) 16 107 false, G1 111 .load1 110 107 false, G2 112 (.bin .gtr) 109 111 107 false, ⟨(some 113), .pick, [(.t 107), (.k (.bool true)), (.t 112)], (some (97, true))⟩, G1 114 .mv 113 97 true, G1 115 (.fld 1) 3 114 false, G1 116 .load1 115 114 false, G1 117 (.fld 1) 16 114 false, G1 118 .load1 117 114 false, G2 119 (.bin .lss) 116 118 114 false, ⟨(some 120), .pick, [(.t 114), (.k (.bool true)), (.t 119)], (some (97, true))⟩, G1 121 .mv 120 97 true, G1 122 (.fld 1) 3 121 false, G1 123 .load1 122 121 false, G1 124 (.fld 3) 16 121 false, G1 125 .load1 124 121 false, G2 126 (.bin .gtr) 123 125 121 false, ⟨(some 127), .pick, [(.t 121), (.k (.bool true)), (.t 126)], (some (97, true))⟩, ⟨(some 128), .pick, [(.t 97), (.t 127), (.k (.bool false))], none⟩]) (.cond (.t 128) (.seq (.reg false [K1 4 .mv (.bool false)]) .ret) .skip)) (.reg true [O1 129 .mv 14, O1 130 .mv 129, G1 131 .mv 13 130 false, G1 132 .mv 15 130 false, G2 133 (.ixS 2) 131 132 130 false, G1 134 (.loadN 2) 133 130 false, G1 135 (.loadN 2) 9 130 false, ⟨(some 136), (.eqA false [(.i .i64), (.i .i64)]), [(.t 134), (.t 135)], (some (130, false))⟩, ⟨(some 137), .pick, [(.t 130), (.k (.bool true)), (.t 136)], none⟩, O1 14 .mv 137])))) (.reg false [O1 73 .mv 15, K2 74 (.bin .add) 73 (iV 1), O1 15 .mv 74])))
def x10 : XFn := ⟨139, (.seq (.reg false [O1 2 (.box 47) 0, O1 3 (.box 23) 1, K1 4 .mv (.bool false)]) (.seq (.seq (.reg false [⟨(some 18), (.call 13), [], none⟩, O1 19 (.un .not) 18]) (.cond (.t 19) (.seq (.reg false [K1 4 .mv (.bool false)]) .ret) .skip)) (.seq (.reg false [O1 21 (.loadN 2) 2, O1 22 (.call 34) 21, O1 20 .mv 22, O1 23 (.ext 0) 20, O1 24 (.ext 1) 20, ⟨(some 5), (.alloc 36 [(iV 0), (iV 0), (iV 0), (iV 0)]), [], none⟩, ⟨none, (.store 4), [(.t 5), (.t 23)], none⟩, O1 6 .mv 24]) (.seq (.reg false [O1 26 (.loadN 2) 2, O1 27 (.call 35) 26, O1 25 .mv 27, O1 28 (.ext 0) 25, O1 29 (.ext 1) 25, ⟨(some 7), (.alloc 36 [(iV 0), (iV 0), (iV 0), (iV 0)]), [], none⟩, ⟨none, (.store 4), [(.t 7), (.t 28)], none⟩, O1 8 .mv 29]) (.seq (.reg false [O1 31 (.loadN 2) 3, O1 32 (.call 36) 31, O1 30 .mv 32, O1 33 (.ext 0) 30, O1 34 (.ext 1) 30, ⟨(some 9), (.alloc 47 [(iV 0), (iV 0)]), [], none⟩, ⟨none, (.store 2), [(.t 9), (.t 33)], none⟩, O1 10 .mv 34]) (.seq (.reg false [O1 36 (.loadN 2) 3, O1 37 (.call 37) 36, O1 35 .mv 37, O1 38 (.ext 0) 35, O1 39 (.ext 1) 35, ⟨(some 11), (.alloc 47 [(iV 0), (iV 0)]), [], none⟩, ⟨none, (.store 2), [(.t 11), (.t 38)], none⟩, O1 12 .mv 39]) (.seq (.reg false [O1 40 (.loadN 2) 3, O1 41 (.call 22) 40, O1 13 .mv 41]) (.seq (.seq (.reg false [O1 42 (.loadN 4) 5, O1 43 (.loadN 4) 7, ⟨(some 44), (.eqA true [(.i .i64), (.i .i64), (.i .i64), (.i .i64)]), [(.t 42), (.t 43)], none⟩, O1 45 .mv 44, G1 46 .mv 6 45 false, G1 47 .mv 8 45 false, G2 48 (.binb .neq) 46 47 45 false, ⟨(some 49), .pick, [(.t 45), (.k (.bool true)), (.t 48)], none⟩, O1 50 .mv 49, G1 51 (.loadN 2) 9 50 false, G1 52 (.loadN 2) 11 50 false, ⟨(some 53), (.eqA true [(.i .i64), (.i .i64)]), [(.t 51), (.t 52)], (some (50, false))⟩, ⟨(some 54), .pick, [(.t 50), (.k (.bool true)), (.t 53)], none⟩, O1 55 .mv 54, G1 56 .mv 10 55 false, G1 57 .mv 12 55 false, G2 58 (.binb .neq) 56 57 55 false, ⟨(some 59), .pick, [(.t 55), (.k (.bool true)), (.t 58)], none⟩, O1 60 .mv 59, G1 61 .mv 13 60 false, G1 62 (.loadN 2) 3 60 false, G1 63 (.call 38) 62 60 false, G2 64 (.call 16) 61 63 60 false, G1 65 (.un .not) 64 60 false, ⟨(some 66), .pick, [(.t 60), (.k (.bool true)), (.t 65)], none⟩]) (.cond (.t 66) (.seq (.reg false [K1 4 .mv (.bool false)]) .ret) .skip)) (.seq (.reg false [O1 67 .mv 10, O1 68 (.un .not) 67, O1 14 .mv 68]) (.seq (.seq (.reg false [K1 15 .mv (iV 0)]) (.block 0 (.loop x10L0))) (.seq (.reg false [O1 138 .mv 14, O1 4 .mv 138]) .ret))))))))))), [(.s 4)]⟩
theorem x10_ok : xfn Try.prog Try.f10 = some x10.er := by kernel_rfl
/-- wayfinder/plan.Square -/
def g34 : Con := fun args_ E_ nn_ => match args_ with
  | [.a [.v (.int .i64 c_X), .v (.int .i64 c_Y)]] => some (.q (True) (.t [.a [.v (.int .i64 (mI (sqB c_X c_Y) (c_X * 64))), .v (.int .i64 (mI (sqB c_X c_Y) (c_Y * 64))), .v (.int .i64 (mI (sqB c_X c_Y) (c_X * 64 + 64))), .v (.int .i64 (mI (sqB c_X c_Y) (c_Y * 64 + 64)))], .c (.v (.bool (sqB c_X c_Y)))]))
  | _ => none
theorem c34 : COk Try.prog 34 g34 := by
  refine cok_q Try.func34 x34_ok (by kernel_rfl) (cok_tab (cok_cons c68 (cok_cons c69 cok_nil))) ?_
  intro args_ E_ nn_ cr_ hg_
  unfold g34 at hg_
  split at hg_
  · rename_i c_X c_Y
    cases hg_
    refine ⟨_, _, rfl, 0, [], [.a [.v (.int .i64 c_X), .v (.int .i64 c_Y)]], [], .t [.a [.v (.int .i64 (mI (sqB c_X c_Y) (c_X * 64))), .v (.int .i64 (mI (sqB c_X c_Y) (c_Y * 64))), .v (.int .i64 (mI (sqB c_X c_Y) (c_X * 64 + 64))), .v (.int .i64 (mI (sqB c_X c_Y) (c_Y * 64 + 64)))], .c (.v (.bool (sqB c_X c_Y)))], rfl, rfl, by simp only [push_cast, Nat.reduceLT, Nat.reduceAdd], by simp only [push_cast, Nat.reduceLT, Nat.reduceAdd], by simp only [push_cast, Nat.reduceLT, Nat.reduceAdd], rfl, trivial, rfl, ?_⟩
    intro hpre hlen
    refine ⟨trivial, ?_⟩
    simp (config := {maxSteps := 10000000}) only [x34, push_cast, Nat.reduceAdd, Nat.reduceSub, Nat.reduceLeDiff, Nat.reduceEqDiff, Nat.reduceBEq, Nat.reduceMul, Nat.reduceLT, reduceIte, reduceCtorEq, Int.reduceLE, Int.reduceLT, Int.reduceEq, Int.reduceMul, Int.reduceAdd, Int.reduceSub, Int.reduceNeg, Int.reduceToNat, Int.reduceNe, g68, g69]
    refine ⟨fun h => by rw [sq_f h]; simp [mI], fun h1 h2 h3 h4 => ⟨by omega, ?_⟩⟩
    rw [sq_t h1 h2 h3 h4]
    simp [mI]
  · cases hg_
/-- wayfinder/plan.Of -/
def g36 : Con := fun args_ E_ nn_ => match args_ with
  | [.a [.v (.int .i64 p_X), .v (.int .i64 p_Y)]] => some (.q (True) (.t [.a [.v (.int .i64 (mI (pPtB p_X p_Y) (p_X / 64))), .v (.int .i64 (mI (pPtB p_X p_Y) (p_Y / 64)))], .c (.v (.bool (pPtB p_X p_Y)))]))
  | _ => none
theorem c36 : COk Try.prog 36 g36 := by
  refine cok_q Try.func36 x36_ok (by kernel_rfl) (cok_tab (cok_cons c50 (cok_cons c70 cok_nil))) ?_
  intro args_ E_ nn_ cr_ hg_
  unfold g36 at hg_
  split at hg_
  · rename_i p_X p_Y
    cases hg_
    refine ⟨_, _, rfl, 0, [], [.a [.v (.int .i64 p_X), .v (.int .i64 p_Y)]], [], .t [.a [.v (.int .i64 (mI (pPtB p_X p_Y) (p_X / 64))), .v (.int .i64 (mI (pPtB p_X p_Y) (p_Y / 64)))], .c (.v (.bool (pPtB p_X p_Y)))], rfl, rfl, by simp only [push_cast, Nat.reduceLT, Nat.reduceAdd], by simp only [push_cast, Nat.reduceLT, Nat.reduceAdd], by simp only [push_cast, Nat.reduceLT, Nat.reduceAdd], rfl, trivial, rfl, ?_⟩
    intro hpre hlen
    refine ⟨trivial, ?_⟩
    simp (config := {maxSteps := 10000000}) only [x36, push_cast, Nat.reduceAdd, Nat.reduceSub, Nat.reduceLeDiff, Nat.reduceEqDiff, Nat.reduceBEq, Nat.reduceMul, Nat.reduceLT, reduceIte, reduceCtorEq, Int.reduceLE, Int.reduceLT, Int.reduceEq, Int.reduceMul, Int.reduceAdd, Int.reduceSub, Int.reduceNeg, Int.reduceToNat, Int.reduceNe, g50, g70]
    refine ⟨fun h => by rw [h]; simp [mI], fun h => ?_⟩
    have a := pRect_bd (pPt_rect h)
    refine ⟨by omega, by omega, by rfl, ?_⟩
    rw [h]
    simp [mI]
  · cases hg_
/-- wayfinder/wayfinderref08.Square -/
def g35 : Con := fun args_ E_ nn_ => match args_ with
  | [.a [.v (.int .i64 c_X), .v (.int .i64 c_Y)]] => some (.q (True) (.t [.a [.v (.int .i64 (mI (sqB c_X c_Y) (c_X * 64))), .v (.int .i64 (mI (sqB c_X c_Y) (c_Y * 64))), .v (.int .i64 (mI (sqB c_X c_Y) (c_X * 64 + 64))), .v (.int .i64 (mI (sqB c_X c_Y) (c_Y * 64 + 64)))], .c (.v (.bool (sqB c_X c_Y)))]))
  | _ => none
theorem c35 : COk Try.prog 35 g35 := by
  refine cok_q Try.func35 x35_ok (by kernel_rfl) (cok_tab (cok_cons c39 (cok_cons c59 cok_nil))) ?_
  intro args_ E_ nn_ cr_ hg_
  unfold g35 at hg_
  split at hg_
  · rename_i c_X c_Y
    cases hg_
    refine ⟨_, _, rfl, 0, [], [.a [.v (.int .i64 c_X), .v (.int .i64 c_Y)]], [], .t [.a [.v (.int .i64 (mI (sqB c_X c_Y) (c_X * 64))), .v (.int .i64 (mI (sqB c_X c_Y) (c_Y * 64))), .v (.int .i64 (mI (sqB c_X c_Y) (c_X * 64 + 64))), .v (.int .i64 (mI (sqB c_X c_Y) (c_Y * 64 + 64)))], .c (.v (.bool (sqB c_X c_Y)))], rfl, rfl, by simp only [push_cast, Nat.reduceLT, Nat.reduceAdd], by simp only [push_cast, Nat.reduceLT, Nat.reduceAdd], by simp only [push_cast, Nat.reduceLT, Nat.reduceAdd], rfl, trivial, rfl, ?_⟩
    intro hpre hlen
    refine ⟨trivial, ?_⟩
    simp (config := {maxSteps := 10000000}) only [x35, push_cast, Nat.reduceAdd, Nat.reduceSub, Nat.reduceLeDiff, Nat.reduceEqDiff, Nat.reduceBEq, Nat.reduceMul, Nat.reduceLT, reduceIte, reduceCtorEq, Int.reduceLE, Int.reduceLT, Int.reduceEq, Int.reduceMul, Int.reduceAdd, Int.reduceSub, Int.reduceNeg, Int.reduceToNat, Int.reduceNe, g39, g59]
    refine ⟨fun h => by rw [sq_f h]; simp [mI], fun h1 h2 h3 h4 => ⟨by omega, ?_⟩⟩
    rw [sq_t h1 h2 h3 h4]
    simp [mI]
  · cases hg_
/-- wayfinder/wayfinderref08.Of -/
def g37 : Con := fun args_ E_ nn_ => match args_ with
  | [.a [.v (.int .i64 p_X), .v (.int .i64 p_Y)]] => some (.q (True) (.t [.a [.v (.int .i64 (mI (pPtB p_X p_Y) (p_X / 64))), .v (.int .i64 (mI (pPtB p_X p_Y) (p_Y / 64)))], .c (.v (.bool (pPtB p_X p_Y)))]))
  | _ => none
theorem c37 : COk Try.prog 37 g37 := by
  refine cok_q Try.func37 x37_ok (by kernel_rfl) (cok_tab (cok_cons c71 (cok_cons c56 cok_nil))) ?_
  intro args_ E_ nn_ cr_ hg_
  unfold g37 at hg_
  split at hg_
  · rename_i p_X p_Y
    cases hg_
    refine ⟨_, _, rfl, 0, [], [.a [.v (.int .i64 p_X), .v (.int .i64 p_Y)]], [], .t [.a [.v (.int .i64 (mI (pPtB p_X p_Y) (p_X / 64))), .v (.int .i64 (mI (pPtB p_X p_Y) (p_Y / 64)))], .c (.v (.bool (pPtB p_X p_Y)))], rfl, rfl, by simp only [push_cast, Nat.reduceLT, Nat.reduceAdd], by simp only [push_cast, Nat.reduceLT, Nat.reduceAdd], by simp only [push_cast, Nat.reduceLT, Nat.reduceAdd], rfl, trivial, rfl, ?_⟩
    intro hpre hlen
    refine ⟨trivial, ?_⟩
    simp (config := {maxSteps := 10000000}) only [x37, push_cast, Nat.reduceAdd, Nat.reduceSub, Nat.reduceLeDiff, Nat.reduceEqDiff, Nat.reduceBEq, Nat.reduceMul, Nat.reduceLT, reduceIte, reduceCtorEq, Int.reduceLE, Int.reduceLT, Int.reduceEq, Int.reduceMul, Int.reduceAdd, Int.reduceSub, Int.reduceNeg, Int.reduceToNat, Int.reduceNe, g71, g56]
    refine ⟨fun h => by rw [h]; simp [mI], fun h => ?_⟩
    have a := pRect_bd (pPt_rect h)
    refine ⟨by omega, by omega, by rfl, ?_⟩
    rw [h]
    simp [mI]
  · cases hg_
/-- wayfinder/wayfinderlaw08.PlanSquares -/
def g10 : Con := fun args_ E_ nn_ => match args_ with
  | [.a [.v (.int .i64 c_X), .v (.int .i64 c_Y)], .a [.v (.int .i64 p_X), .v (.int .i64 p_Y)]] => some (.q (True) (.o (.c (.v (.bool (true))))))
  | _ => none
set_option maxHeartbeats 1600000 in
theorem c10 : COk Try.prog 10 g10 := by
  refine cok_q Try.func10 x10_ok (by kernel_rfl) (cok_tab (cok_cons c13 (cok_cons c34 (cok_cons c35 (cok_cons c36 (cok_cons c37 (cok_cons c22 (cok_cons c38 (cok_cons c16 (cok_cons c39 cok_nil)))))))))) ?_
  intro args_ E_ nn_ cr_ hg_
  unfold g10 at hg_
  split at hg_
  · rename_i c_X c_Y p_X p_Y
    cases hg_
    refine ⟨_, _, rfl, 0, [], [.a [.v (.int .i64 c_X), .v (.int .i64 c_Y)], .a [.v (.int .i64 p_X), .v (.int .i64 p_Y)]], [], .o (.c (.v (.bool (true)))), rfl, rfl, by simp only [push_cast, Nat.reduceLT, Nat.reduceAdd], by simp only [push_cast, Nat.reduceLT, Nat.reduceAdd], by simp only [push_cast, Nat.reduceLT, Nat.reduceAdd], rfl, trivial, rfl, ?_⟩
    intro hpre hlen
    refine ⟨trivial, ?_⟩
    simp (config := {maxSteps := 10000000}) only [x10, push_cast, Nat.reduceAdd, Nat.reduceSub, Nat.reduceLeDiff, Nat.reduceEqDiff, Nat.reduceBEq, Nat.reduceMul, Nat.reduceLT, reduceIte, reduceCtorEq, Int.reduceLE, Int.reduceLT, Int.reduceEq, Int.reduceMul, Int.reduceAdd, Int.reduceSub, Int.reduceNeg, Int.reduceToNat, Int.reduceNe, g13, g34, g35, g36, g37, g22, g38, g16, g39]
    have hl := cl_len p_X p_Y
    have hall := fun c (hc : c ∈ clL p_X p_Y p_X p_Y) => cl_at hc
    have hin : pPtB p_X p_Y = true → (⟨p_X / 64, p_Y / 64⟩ : CC) ∈ clL p_X p_Y p_X p_Y := cl_in
    generalize clL p_X p_Y p_X p_Y = L at *
    refine vcLoop_upd (α := {s : Nat × Bool // s.1 ≤ L.length ∧ (s.2 = true ↔ (pPtB p_X p_Y = false ∨ ∃ j, j < s.1 ∧ L.getD j eC.dflt = ⟨p_X / 64, p_Y / 64⟩))}) [3, 9, 13] 0 (fun s => [(14, .o (.c (.v (.bool (s.1.2))))), (15, .o (.c (.v (.int .i64 (s.1.1 : Nat)))))]) (fun s => []) (fun s => L.length - s.1.1) ⟨(0, !pPtB p_X p_Y), by simp, by simp⟩ ?_ ?_
    · simp only [push_cast, Nat.reduceAdd, Nat.reduceSub, Nat.reduceLeDiff, Nat.reduceEqDiff, Nat.reduceBEq, Nat.reduceMul, Nat.reduceLT, reduceIte, reduceCtorEq, Int.reduceLE, Int.reduceLT, Int.reduceEq, Int.reduceMul, Int.reduceAdd, Int.reduceSub, Int.reduceNeg, Int.reduceToNat, Int.reduceNe, g13, g34, g35, g36, g37, g22, g38, g16, g39]
    rintro ⟨⟨k, b⟩, hk, hb⟩
    simp only at hk hb
    by_cases hlt : k < L.length
    · have hc := hall _ (getD_in hlt)
      have st : (b || (L.getD k eC.dflt).X == mI (pPtB p_X p_Y) (p_X / 64) && (L.getD k eC.dflt).Y == mI (pPtB p_X p_Y) (p_Y / 64)) = true ↔ (pPtB p_X p_Y = false ∨ ∃ j, j < k + 1 ∧ L.getD j eC.dflt = ⟨p_X / 64, p_Y / 64⟩) := by
        cases hp : pPtB p_X p_Y
        · have : b = true := hb.2 (.inl hp)
          simp [this]
        · rw [mI_t, mI_t]
          have e := cc_eq (L.getD k eC.dflt) ⟨p_X / 64, p_Y / 64⟩
          simp only at e
          rw [e, Bool.or_eq_true, hb, decide_eq_true_eq]
          constructor
          · rintro ((h | ⟨j, hj, e⟩) | h)
            · rw [hp] at h; cases h
            · exact .inr ⟨j, by omega, e⟩
            · exact .inr ⟨k, by omega, h⟩
          · rintro (h | ⟨j, hj, e2⟩)
            · cases h
            · by_cases ejk : j = k
              · rw [ejk] at e2; exact .inr e2
              · exact .inl (.inr ⟨j, by omega, e2⟩)
      have d1 : decide (p_X < (L.getD k eC.dflt).X * 64) = false := decide_eq_false (by omega)
      have d2 : decide ((L.getD k eC.dflt).X * 64 + 64 < p_X) = false := decide_eq_false (by omega)
      have d3 : decide (p_Y < (L.getD k eC.dflt).Y * 64) = false := decide_eq_false (by omega)
      have d4 : decide ((L.getD k eC.dflt).Y * 64 + 64 < p_Y) = false := decide_eq_false (by omega)
      cases hq : sqB (L.getD k eC.dflt).X (L.getD k eC.dflt).Y
      · have hq2 : (decide (-16384 ≤ (L.getD k eC.dflt).X ∧ (L.getD k eC.dflt).X ≤ 16384) && decide (-16384 ≤ (L.getD k eC.dflt).Y ∧ (L.getD k eC.dflt).Y ≤ 16384)) = false := by
          unfold sqB at hq
          rw [decide_eq_false_iff_not] at hq
          simp only [Bool.and_eq_false_iff, decide_eq_false_iff_not]
          omega
        simp only [x10L0, hlt, hq, hq2, mI_f, push_cast, Nat.reduceAdd, Nat.reduceSub, Nat.reduceLeDiff, Nat.reduceEqDiff, Nat.reduceBEq, Nat.reduceMul, Nat.reduceLT, reduceIte, reduceCtorEq, Int.reduceLE, Int.reduceLT, Int.reduceEq, Int.reduceMul, Int.reduceAdd, Int.reduceSub, Int.reduceNeg, Int.reduceToNat, Int.reduceNe, g13, g34, g35, g36, g37, g22, g38, g16, g39]
        exact ⟨⟨(k + 1, _), by simp only; omega, st⟩, ⟨rfl, wrapI (by omega) (by omega)⟩, by simp only; omega⟩
      · have hq' := hq
        simp only [sqB, decide_eq_true_eq] at hq'
        have q1 : decide (-16384 ≤ (L.getD k eC.dflt).X ∧ (L.getD k eC.dflt).X ≤ 16384) = true := decide_eq_true (by omega)
        have q2 : decide (-16384 ≤ (L.getD k eC.dflt).Y ∧ (L.getD k eC.dflt).Y ≤ 16384) = true := decide_eq_true (by omega)
        simp only [x10L0, hlt, hq, q1, q2, d1, d2, d3, d4, mI_t, push_cast, Nat.reduceAdd, Nat.reduceSub, Nat.reduceLeDiff, Nat.reduceEqDiff, Nat.reduceBEq, Nat.reduceMul, Nat.reduceLT, reduceIte, reduceCtorEq, Int.reduceLE, Int.reduceLT, Int.reduceEq, Int.reduceMul, Int.reduceAdd, Int.reduceSub, Int.reduceNeg, Int.reduceToNat, Int.reduceNe, g13, g34, g35, g36, g37, g22, g38, g16, g39]
        exact ⟨⟨(k + 1, _), by simp only; omega, st⟩, ⟨rfl, wrapI (by omega) (by omega)⟩, by simp only; omega⟩
    · simp only [x10L0, hlt, push_cast, Nat.reduceAdd, Nat.reduceSub, Nat.reduceLeDiff, Nat.reduceEqDiff, Nat.reduceBEq, Nat.reduceMul, Nat.reduceLT, reduceIte, reduceCtorEq, Int.reduceLE, Int.reduceLT, Int.reduceEq, Int.reduceMul, Int.reduceAdd, Int.reduceSub, Int.reduceNeg, Int.reduceToNat, Int.reduceNe, g13, g34, g35, g36, g37, g22, g38, g16, g39]
      obtain rfl : k = L.length := by omega
      refine hb.2 ?_
      cases hp : pPtB p_X p_Y
      · exact .inl rfl
      · obtain ⟨j, hj, e⟩ := getD_mem (hin hp)
        exact .inr ⟨j, hj, e⟩
  · cases hg_
end Go.Proofs.Ytbjgaejmkhjbaaa
