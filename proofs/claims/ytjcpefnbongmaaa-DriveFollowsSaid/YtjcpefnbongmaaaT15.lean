/- Contracts. -/
import Derived.Test.YtjcpefnbongmaaaSx24
import Derived.Test.YtjcpefnbongmaaaP07
import Derived.Test.YtjcpefnbongmaaaT14
import Derived.KernelRfl
set_option linter.unusedVariables false
set_option linter.unusedSimpArgs false
set_option maxRecDepth 20000
namespace Go.Proofs.Ytjcpefnbongmaaa
open Go.Sx
open Go.Way
def x6 : XFn := ⟨28, (.seq (.reg false [⟨(some 3), (.box 36), [(.t 0)], none⟩, ⟨(some 4), (.box 25), [(.t 1)], none⟩, ⟨(some 5), (.box 48), [(.t 2)], none⟩, ⟨(some 6), .mv, [(.k (.bool false))], none⟩]) (.seq (.seq (.reg false [⟨(some 7), (.call 12), [], none⟩, ⟨(some 8), (.un .not), [(.t 7)], none⟩]) (.cond (.t 8) (.seq (.reg false [⟨(some 6), .mv, [(.k (.bool false))], none⟩]) .ret) .skip)) (.seq (.reg true [⟨(some 9), (.loadN 4), [(.t 3)], none⟩, ⟨(some 10), (.fld 0), [(.t 5)], none⟩, ⟨(some 11), (.loadN 3), [(.t 10)], none⟩, ⟨(some 12), (.loadN 2), [(.t 4)], none⟩, ⟨(some 13), (.fld 3), [(.t 5)], none⟩, ⟨(some 14), (.loadN 3), [(.t 13)], none⟩, ⟨(some 15), (.fld 6), [(.t 5)], none⟩, ⟨(some 16), .load1, [(.t 15)], none⟩, ⟨(some 17), (.call 23), [(.t 9), (.t 11), (.t 12), (.t 14), (.t 16)], none⟩, ⟨(some 18), (.loadN 4), [(.t 3)], none⟩, ⟨(some 19), (.fld 0), [(.t 5)], none⟩, ⟨(some 20), (.loadN 3), [(.t 19)], none⟩, ⟨(some 21), (.loadN 2), [(.t 4)], none⟩, ⟨(some 22), (.fld 3), [(.t 5)], none⟩, ⟨(some 23), (.loadN 3), [(.t 22)], none⟩, ⟨(some 24), (.fld 6), [(.t 5)], none⟩, ⟨(some 25), .load1, [(.t 24)], none⟩, ⟨(some 26), (.call 24), [(.t 18), (.t 20), (.t 21), (.t 23), (.t 25)], none⟩, ⟨(some 27), (.binb .eql), [(.t 17), (.t 26)], none⟩, ⟨(some 6), .mv, [(.t 27)], none⟩]) .ret))), [(.s 6)]⟩
theorem x6_ok : xfn Try.prog Try.f6 = some x6 := by kernel_rfl
/-- wayfinder/wayfinderlaw11.DriveWithin -/
def sp6 : List S1 → Option (Prop × SV)
  | [.a [.v (.int .i64 b_Turn), .v (.int .i64 b_Length), .v (.int .i64 b_Slip), .v (.int .i64 b_Range)], .a [.v (.int .i64 c_Turn), .v (.int .i64 c_Forward)], .a [.v (.int .i64 x_From_X), .v (.int .i64 x_From_Y), .v (.int .i64 x_From_H), .v (.int .i64 x_To_X), .v (.int .i64 x_To_Y), .v (.int .i64 x_To_H), .v (.bool x_Bump)]] => some (True, .o (.c (.v (.bool (true)))))
  | _ => none
theorem c6 : COk Try.prog 6 (plain sp6) := by
  refine cok_plain Try.func6 x6_ok (by kernel_rfl) (cok_tab (cok_cons c12 (cok_cons c23 (cok_cons c24 cok_nil)))) ?_
  intro args pre res h
  unfold sp6 at h
  split at h
  · rename_i b_Turn b_Length b_Slip b_Range c_Turn c_Forward x_From_X x_From_Y x_From_H x_To_X x_To_Y x_To_H x_Bump
    cases h
    refine ⟨by simp only [sc1L, sc1, scL, SC.sc, and_self], by simp only [scV, sc1L, sc1, scL, SC.sc, and_self], fun hpre => ?_⟩
    simp only [x6, vcF, env0, vcC, vcOps, vcOpsQ, vcOp, evQ, guardOf, rd, rds, lk, opQ, qMv, qBuild, qLoad1, qLoadN, qFld, qPart1, qPartN, qIx1, qIxN, qIxA, qIxS, qBin, qBinb, qEqA, qUn, qConv, qMin, qMax, qLenS, qNil, fin, evPick, evCR, evExt, vcEff, vcBox, vcStore, vcCR, vcCond, tab, plain, kSeq, kBlock, kRet, rets, ret1, retV, St.put, constS, nth, takeAt, setAt, fillS, ups, oks, okcs, S1.ok, SC.ok, Value.oneCell', S1.cells, boxOf, rowOf, binI, isShift, eqCells, eqC, sc1L, sc1, scL, SC.sc, scV, List.map_cons, List.map_nil, List.length_cons, List.length_nil, Nat.reduceAdd, Nat.reduceLeDiff, Nat.reduceEqDiff, Nat.reduceBEq, reduceIte, reduceCtorEq, and_true, true_and, and_self, forall_const, Bool.false_eq_true, Bool.true_eq_false, false_or, or_true, true_or, Nat.add_zero, Nat.zero_add, cond_true, cond_false, beq_self_eq_true, true_implies, false_implies, imp_self, implies_true, Bool.not_not, Bool.and_true, Bool.true_and, Bool.and_false, Bool.false_and, Nat.le_refl, Nat.zero_le, Bool.not_true, Bool.not_false, evQ0, evTup, tupOf, beq_true, beq_false, Bool.cond_false_right, Bool.cond_true_left, Bool.cond_true_right, Bool.cond_false_left, SV.o.injEq, SV.t.injEq, SV.g.injEq, S1.c.injEq, S1.a.injEq, SC.v.injEq, Value.bool.injEq, Value.int.injEq, List.cons.injEq, decide_eq_true_eq, gt_iff_lt, ge_iff_le, ne_eq, Int.reduceLE, Int.cast_ofNat_Int, Int.reduceLT, Int.reduceEq, Int.reduceMul, Int.reduceAdd, Int.reduceSub, not_false_eq_true, not_true_eq_false, upto, leEnv, leEnt, Le, scEnv, scEnt, scE, kLoop, vcD, vcDgo, recOf, recEff, resE, ids1L, S1.ids, SC.ids, idsL, SV.ids, memN, usesX, readsX, slotsL, XO.slots, pushR, alN, nAl, Rec.foot, uIds, uWr, List.nil_append, List.cons_append, List.append_nil, Bool.not_eq_true', decide_eq_false_iff_not, Int.reduceNeg, Int.reduceToNat, Nat.reduceMul, Nat.reduceLT, imp_self, and_imp, sp12, sp23, sp24]

  · cases h
end Go.Proofs.Ytjcpefnbongmaaa
