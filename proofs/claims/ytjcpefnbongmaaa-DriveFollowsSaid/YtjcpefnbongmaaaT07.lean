/- Contracts. -/
import Derived.Test.YtjcpefnbongmaaaSx24
import Derived.Test.YtjcpefnbongmaaaP04
import Derived.Test.YtjcpefnbongmaaaT06
import Derived.KernelRfl
set_option linter.unusedVariables false
set_option linter.unusedSimpArgs false
set_option maxRecDepth 20000
namespace Go.Proofs.Ytjcpefnbongmaaa
open Go.Sx
open Go.Way
/-- wayfinder/heading.Dir -/
def sp59 : List S1 → Option (Prop × SV)
  | [.c (.v (.int .i64 h))] => some (True, .o (.a [.v (.int .i64 ((dirV h).1)), .v (.int .i64 ((dirV h).2.1)), .v (.int .i64 ((dirV h).2.2))]))
  | _ => none
theorem c59 : COk Try.prog 59 (plain sp59) := by
  refine cok_plain Try.func59 x59_ok (by kernel_rfl) (cok_tab (cok_cons c61 (cok_cons c79 cok_nil))) ?_
  intro args pre res h
  unfold sp59 at h
  split at h
  · rename_i h
    cases h
    refine ⟨by simp only [sc1L, sc1, scL, SC.sc, and_self], by simp only [scV, sc1L, sc1, scL, SC.sc, and_self], fun hpre => ?_⟩
    simp only [x59, vcF, env0, vcC, vcOps, vcOpsQ, vcOp, evQ, guardOf, rd, rds, lk, opQ, qMv, qBuild, qLoad1, qLoadN, qFld, qPart1, qPartN, qIx1, qIxN, qIxA, qIxS, qBin, qBinb, qEqA, qUn, qConv, qMin, qMax, qLenS, qNil, fin, evPick, evCR, evExt, vcEff, vcBox, vcStore, vcCR, vcCond, tab, plain, kSeq, kBlock, kRet, rets, ret1, retV, St.put, constS, nth, takeAt, setAt, fillS, ups, oks, okcs, S1.ok, SC.ok, Value.oneCell', S1.cells, boxOf, rowOf, binI, isShift, eqCells, eqC, sc1L, sc1, scL, SC.sc, scV, List.map_cons, List.map_nil, List.length_cons, List.length_nil, Nat.reduceAdd, Nat.reduceLeDiff, Nat.reduceEqDiff, Nat.reduceBEq, reduceIte, reduceCtorEq, and_true, true_and, and_self, forall_const, Bool.false_eq_true, Bool.true_eq_false, false_or, or_true, true_or, Nat.add_zero, Nat.zero_add, cond_true, cond_false, beq_self_eq_true, true_implies, false_implies, imp_self, implies_true, Bool.not_not, Bool.and_true, Bool.true_and, Bool.and_false, Bool.false_and, Nat.le_refl, Nat.zero_le, Bool.not_true, Bool.not_false, evQ0, evTup, tupOf, beq_true, beq_false, Bool.cond_false_right, Bool.cond_true_left, Bool.cond_true_right, Bool.cond_false_left, SV.o.injEq, SV.t.injEq, SV.g.injEq, S1.c.injEq, S1.a.injEq, SC.v.injEq, Value.bool.injEq, Value.int.injEq, List.cons.injEq, decide_eq_true_eq, gt_iff_lt, ge_iff_le, ne_eq, Int.reduceLE, Int.cast_ofNat_Int, Int.reduceLT, Int.reduceEq, Int.reduceMul, Int.reduceAdd, Int.reduceSub, not_false_eq_true, not_true_eq_false, upto, leEnv, leEnt, Le, scEnv, scEnt, scE, kLoop, vcD, vcDgo, recOf, recEff, resE, ids1L, S1.ids, SC.ids, idsL, SV.ids, memN, usesX, readsX, slotsL, XO.slots, pushR, alN, nAl, Rec.foot, uIds, uWr, List.nil_append, List.cons_append, List.append_nil, Bool.not_eq_true', decide_eq_false_iff_not, Int.reduceNeg, Int.reduceToNat, Nat.reduceMul, Nat.reduceLT, imp_self, and_imp, sp61, sp79]
    have hs := sq64 h
    rw [show (h % 256).tmod 64 = h % 256 % 64 from Int.tmod_eq_emod_of_nonneg (by omega)]
    rw [show (h % 256).tdiv 64 = h % 256 / 64 from Int.tdiv_eq_ediv_of_nonneg (by omega), wrapI (n := h % 256 / 64) (by omega) (by omega)]
    rw [wrapI (n := h % 256 % 64 * (h % 256 % 64)) (by omega) (by omega), wrapI (n := 4096 - _) (by omega) (by omega), wrapI (n := 4096 + _) (by omega) (by omega), wrapI (n := 128 * _) (by omega) (by omega)]
    have hq : 0 ≤ h % 256 / 64 ∧ h % 256 / 64 < 4 := by omega
    refine ⟨by omega, ?_⟩
    have hb := rot_bd 8192 (dir0 h) (dir0_bd h)
    refine vcLoop_intro (α := {n : Nat // n ≤ (h % 256 / 64).toNat})
      (fun p => ⟨[(2, .o (.c (.p 0 0))), (4, .o (.c (.p 1 0))), (21, .o (.c (.v (.int .i64 (h % 256 / 64))))), (22, .o (.c (.v (.int .i64 (p.1 : Int)))))], [(1, .box [.v (.int .i64 (rot p.1 (dir0 h)).1), .v (.int .i64 (rot p.1 (dir0 h)).2.1), .v (.int .i64 (rot p.1 (dir0 h)).2.2)] 81), (0, .box [.v (.int .i64 0), .v (.int .i64 0), .v (.int .i64 0)] 81)], 2⟩) (fun p => (h % 256 / 64).toNat - p.1) ⟨0, Nat.zero_le _⟩ ?_ ?_
    · simp only [vcF, env0, vcC, vcOps, vcOpsQ, vcOp, evQ, guardOf, rd, rds, lk, opQ, qMv, qBuild, qLoad1, qLoadN, qFld, qPart1, qPartN, qIx1, qIxN, qIxA, qIxS, qBin, qBinb, qEqA, qUn, qConv, qMin, qMax, qLenS, qNil, fin, evPick, evCR, evExt, vcEff, vcBox, vcStore, vcCR, vcCond, tab, plain, kSeq, kBlock, kRet, rets, ret1, retV, St.put, constS, nth, takeAt, setAt, fillS, ups, oks, okcs, S1.ok, SC.ok, Value.oneCell', S1.cells, boxOf, rowOf, binI, isShift, eqCells, eqC, sc1L, sc1, scL, SC.sc, scV, List.map_cons, List.map_nil, List.length_cons, List.length_nil, Nat.reduceAdd, Nat.reduceLeDiff, Nat.reduceEqDiff, Nat.reduceBEq, reduceIte, reduceCtorEq, and_true, true_and, and_self, forall_const, Bool.false_eq_true, Bool.true_eq_false, false_or, or_true, true_or, Nat.add_zero, Nat.zero_add, cond_true, cond_false, beq_self_eq_true, true_implies, false_implies, imp_self, implies_true, Bool.not_not, Bool.and_true, Bool.true_and, Bool.and_false, Bool.false_and, Nat.le_refl, Nat.zero_le, Bool.not_true, Bool.not_false, evQ0, evTup, tupOf, beq_true, beq_false, Bool.cond_false_right, Bool.cond_true_left, Bool.cond_true_right, Bool.cond_false_left, SV.o.injEq, SV.t.injEq, SV.g.injEq, S1.c.injEq, S1.a.injEq, SC.v.injEq, Value.bool.injEq, Value.int.injEq, List.cons.injEq, decide_eq_true_eq, gt_iff_lt, ge_iff_le, ne_eq, Int.reduceLE, Int.cast_ofNat_Int, Int.reduceLT, Int.reduceEq, Int.reduceMul, Int.reduceAdd, Int.reduceSub, not_false_eq_true, not_true_eq_false, upto, leEnv, leEnt, Le, scEnv, scEnt, scE, kLoop, vcD, vcDgo, recOf, recEff, resE, ids1L, S1.ids, SC.ids, idsL, SV.ids, memN, usesX, readsX, slotsL, XO.slots, pushR, alN, nAl, Rec.foot, uIds, uWr, List.nil_append, List.cons_append, List.append_nil, Bool.not_eq_true', decide_eq_false_iff_not, Int.reduceNeg, Int.reduceToNat, Nat.reduceMul, Nat.reduceLT, imp_self, and_imp, sp61, sp79, dir0, rot, Int.natCast_zero]
    · rintro ⟨n, hn⟩
      simp only [x59L0, vcF, env0, vcC, vcOps, vcOpsQ, vcOp, evQ, guardOf, rd, rds, lk, opQ, qMv, qBuild, qLoad1, qLoadN, qFld, qPart1, qPartN, qIx1, qIxN, qIxA, qIxS, qBin, qBinb, qEqA, qUn, qConv, qMin, qMax, qLenS, qNil, fin, evPick, evCR, evExt, vcEff, vcBox, vcStore, vcCR, vcCond, tab, plain, kSeq, kBlock, kRet, rets, ret1, retV, St.put, constS, nth, takeAt, setAt, fillS, ups, oks, okcs, S1.ok, SC.ok, Value.oneCell', S1.cells, boxOf, rowOf, binI, isShift, eqCells, eqC, sc1L, sc1, scL, SC.sc, scV, List.map_cons, List.map_nil, List.length_cons, List.length_nil, Nat.reduceAdd, Nat.reduceLeDiff, Nat.reduceEqDiff, Nat.reduceBEq, reduceIte, reduceCtorEq, and_true, true_and, and_self, forall_const, Bool.false_eq_true, Bool.true_eq_false, false_or, or_true, true_or, Nat.add_zero, Nat.zero_add, cond_true, cond_false, beq_self_eq_true, true_implies, false_implies, imp_self, implies_true, Bool.not_not, Bool.and_true, Bool.true_and, Bool.and_false, Bool.false_and, Nat.le_refl, Nat.zero_le, Bool.not_true, Bool.not_false, evQ0, evTup, tupOf, beq_true, beq_false, Bool.cond_false_right, Bool.cond_true_left, Bool.cond_true_right, Bool.cond_false_left, SV.o.injEq, SV.t.injEq, SV.g.injEq, S1.c.injEq, S1.a.injEq, SC.v.injEq, Value.bool.injEq, Value.int.injEq, List.cons.injEq, decide_eq_true_eq, gt_iff_lt, ge_iff_le, ne_eq, Int.reduceLE, Int.cast_ofNat_Int, Int.reduceLT, Int.reduceEq, Int.reduceMul, Int.reduceAdd, Int.reduceSub, not_false_eq_true, not_true_eq_false, upto, leEnv, leEnt, Le, scEnv, scEnt, scE, kLoop, vcD, vcDgo, recOf, recEff, resE, ids1L, S1.ids, SC.ids, idsL, SV.ids, memN, usesX, readsX, slotsL, XO.slots, pushR, alN, nAl, Rec.foot, uIds, uWr, List.nil_append, List.cons_append, List.append_nil, Bool.not_eq_true', decide_eq_false_iff_not, Int.reduceNeg, Int.reduceToNat, Nat.reduceMul, Nat.reduceLT, imp_self, and_imp, sp61, sp79]
      have hb := hb n
      refine ⟨fun h1 => ⟨⟨n + 1, by omega⟩, ?_, by simp only; omega⟩, fun h1 => ?_⟩
      · rw [wrapI (by omega) (by omega), wrapI (by omega) (by omega), Int.zero_sub]
        exact ⟨rfl, rfl⟩
      · have hh : n = (h % 256 / 64).toNat := by omega
        rw [dirV_rot, ← hh]
        exact ⟨rfl, rfl, rfl⟩
  · cases h
/-- wayfinder/wayfinderref04.Dir -/
def sp60 : List S1 → Option (Prop × SV)
  | [.c (.v (.int .i64 h))] => some (-9223372036854775808 ≤ h ∧ h ≤ 9223372036854775807, .o (.a [.v (.int .i64 ((dirV h).1)), .v (.int .i64 ((dirV h).2.1)), .v (.int .i64 ((dirV h).2.2))]))
  | _ => none
theorem c60 : COk Try.prog 60 (plain sp60) := by
  refine cok_plain Try.func60 x60_ok (by kernel_rfl) (cok_tab (cok_cons c41 (cok_cons c80 cok_nil))) ?_
  intro args pre res h
  unfold sp60 at h
  split at h
  · rename_i h
    cases h
    refine ⟨by simp only [sc1L, sc1, scL, SC.sc, and_self], by simp only [scV, sc1L, sc1, scL, SC.sc, and_self], fun hpre => ?_⟩
    simp only [x60, vcF, env0, vcC, vcOps, vcOpsQ, vcOp, evQ, guardOf, rd, rds, lk, opQ, qMv, qBuild, qLoad1, qLoadN, qFld, qPart1, qPartN, qIx1, qIxN, qIxA, qIxS, qBin, qBinb, qEqA, qUn, qConv, qMin, qMax, qLenS, qNil, fin, evPick, evCR, evExt, vcEff, vcBox, vcStore, vcCR, vcCond, tab, plain, kSeq, kBlock, kRet, rets, ret1, retV, St.put, constS, nth, takeAt, setAt, fillS, ups, oks, okcs, S1.ok, SC.ok, Value.oneCell', S1.cells, boxOf, rowOf, binI, isShift, eqCells, eqC, sc1L, sc1, scL, SC.sc, scV, List.map_cons, List.map_nil, List.length_cons, List.length_nil, Nat.reduceAdd, Nat.reduceLeDiff, Nat.reduceEqDiff, Nat.reduceBEq, reduceIte, reduceCtorEq, and_true, true_and, and_self, forall_const, Bool.false_eq_true, Bool.true_eq_false, false_or, or_true, true_or, Nat.add_zero, Nat.zero_add, cond_true, cond_false, beq_self_eq_true, true_implies, false_implies, imp_self, implies_true, Bool.not_not, Bool.and_true, Bool.true_and, Bool.and_false, Bool.false_and, Nat.le_refl, Nat.zero_le, Bool.not_true, Bool.not_false, evQ0, evTup, tupOf, beq_true, beq_false, Bool.cond_false_right, Bool.cond_true_left, Bool.cond_true_right, Bool.cond_false_left, SV.o.injEq, SV.t.injEq, SV.g.injEq, S1.c.injEq, S1.a.injEq, SC.v.injEq, Value.bool.injEq, Value.int.injEq, List.cons.injEq, decide_eq_true_eq, gt_iff_lt, ge_iff_le, ne_eq, Int.reduceLE, Int.cast_ofNat_Int, Int.reduceLT, Int.reduceEq, Int.reduceMul, Int.reduceAdd, Int.reduceSub, not_false_eq_true, not_true_eq_false, upto, leEnv, leEnt, Le, scEnv, scEnt, scE, kLoop, vcD, vcDgo, recOf, recEff, resE, ids1L, S1.ids, SC.ids, idsL, SV.ids, memN, usesX, readsX, slotsL, XO.slots, pushR, alN, nAl, Rec.foot, uIds, uWr, List.nil_append, List.cons_append, List.append_nil, Bool.not_eq_true', decide_eq_false_iff_not, Int.reduceNeg, Int.reduceToNat, Nat.reduceMul, Nat.reduceLT, imp_self, and_imp, sp41, sp80]
    have hs := sq64 h
    rw [show (h % 256).tmod 64 = h % 256 % 64 from Int.tmod_eq_emod_of_nonneg (by omega)]
    rw [wrapI (n := h % 256 % 64 * (h % 256 % 64)) (by omega) (by omega), wrapI (n := 4096 - _) (by omega) (by omega), wrapI (n := 4096 + _) (by omega) (by omega), wrapI (n := 128 * _) (by omega) (by omega)]
    have hq : 0 ≤ h % 256 / 64 ∧ h % 256 / 64 < 4 := by omega
    refine ⟨hpre, by omega, ?_⟩
    have hb := rot_bd 8192 (dir0 h) (dir0_bd h)
    refine vcLoop_intro (α := {n : Nat // n ≤ (h % 256 / 64).toNat})
      (fun p => ⟨[(2, .o (.c (.p 0 0))), (4, .o (.c (.p 1 0))), (0, .o (.c (.v (.int .i64 (h % 256))))), (5, .o (.c (.v (.int .i64 (p.1 : Int)))))], [(1, .box [.v (.int .i64 (rot p.1 (dir0 h)).1), .v (.int .i64 (rot p.1 (dir0 h)).2.1), .v (.int .i64 (rot p.1 (dir0 h)).2.2)] 81), (0, .box [.v (.int .i64 0), .v (.int .i64 0), .v (.int .i64 0)] 81)], 2⟩) (fun p => (h % 256 / 64).toNat - p.1) ⟨0, Nat.zero_le _⟩ ?_ ?_
    · simp only [vcF, env0, vcC, vcOps, vcOpsQ, vcOp, evQ, guardOf, rd, rds, lk, opQ, qMv, qBuild, qLoad1, qLoadN, qFld, qPart1, qPartN, qIx1, qIxN, qIxA, qIxS, qBin, qBinb, qEqA, qUn, qConv, qMin, qMax, qLenS, qNil, fin, evPick, evCR, evExt, vcEff, vcBox, vcStore, vcCR, vcCond, tab, plain, kSeq, kBlock, kRet, rets, ret1, retV, St.put, constS, nth, takeAt, setAt, fillS, ups, oks, okcs, S1.ok, SC.ok, Value.oneCell', S1.cells, boxOf, rowOf, binI, isShift, eqCells, eqC, sc1L, sc1, scL, SC.sc, scV, List.map_cons, List.map_nil, List.length_cons, List.length_nil, Nat.reduceAdd, Nat.reduceLeDiff, Nat.reduceEqDiff, Nat.reduceBEq, reduceIte, reduceCtorEq, and_true, true_and, and_self, forall_const, Bool.false_eq_true, Bool.true_eq_false, false_or, or_true, true_or, Nat.add_zero, Nat.zero_add, cond_true, cond_false, beq_self_eq_true, true_implies, false_implies, imp_self, implies_true, Bool.not_not, Bool.and_true, Bool.true_and, Bool.and_false, Bool.false_and, Nat.le_refl, Nat.zero_le, Bool.not_true, Bool.not_false, evQ0, evTup, tupOf, beq_true, beq_false, Bool.cond_false_right, Bool.cond_true_left, Bool.cond_true_right, Bool.cond_false_left, SV.o.injEq, SV.t.injEq, SV.g.injEq, S1.c.injEq, S1.a.injEq, SC.v.injEq, Value.bool.injEq, Value.int.injEq, List.cons.injEq, decide_eq_true_eq, gt_iff_lt, ge_iff_le, ne_eq, Int.reduceLE, Int.cast_ofNat_Int, Int.reduceLT, Int.reduceEq, Int.reduceMul, Int.reduceAdd, Int.reduceSub, not_false_eq_true, not_true_eq_false, upto, leEnv, leEnt, Le, scEnv, scEnt, scE, kLoop, vcD, vcDgo, recOf, recEff, resE, ids1L, S1.ids, SC.ids, idsL, SV.ids, memN, usesX, readsX, slotsL, XO.slots, pushR, alN, nAl, Rec.foot, uIds, uWr, List.nil_append, List.cons_append, List.append_nil, Bool.not_eq_true', decide_eq_false_iff_not, Int.reduceNeg, Int.reduceToNat, Nat.reduceMul, Nat.reduceLT, imp_self, and_imp, sp41, sp80, dir0, rot, Int.natCast_zero]
    · rintro ⟨n, hn⟩
      simp only [x60L0, vcF, env0, vcC, vcOps, vcOpsQ, vcOp, evQ, guardOf, rd, rds, lk, opQ, qMv, qBuild, qLoad1, qLoadN, qFld, qPart1, qPartN, qIx1, qIxN, qIxA, qIxS, qBin, qBinb, qEqA, qUn, qConv, qMin, qMax, qLenS, qNil, fin, evPick, evCR, evExt, vcEff, vcBox, vcStore, vcCR, vcCond, tab, plain, kSeq, kBlock, kRet, rets, ret1, retV, St.put, constS, nth, takeAt, setAt, fillS, ups, oks, okcs, S1.ok, SC.ok, Value.oneCell', S1.cells, boxOf, rowOf, binI, isShift, eqCells, eqC, sc1L, sc1, scL, SC.sc, scV, List.map_cons, List.map_nil, List.length_cons, List.length_nil, Nat.reduceAdd, Nat.reduceLeDiff, Nat.reduceEqDiff, Nat.reduceBEq, reduceIte, reduceCtorEq, and_true, true_and, and_self, forall_const, Bool.false_eq_true, Bool.true_eq_false, false_or, or_true, true_or, Nat.add_zero, Nat.zero_add, cond_true, cond_false, beq_self_eq_true, true_implies, false_implies, imp_self, implies_true, Bool.not_not, Bool.and_true, Bool.true_and, Bool.and_false, Bool.false_and, Nat.le_refl, Nat.zero_le, Bool.not_true, Bool.not_false, evQ0, evTup, tupOf, beq_true, beq_false, Bool.cond_false_right, Bool.cond_true_left, Bool.cond_true_right, Bool.cond_false_left, SV.o.injEq, SV.t.injEq, SV.g.injEq, S1.c.injEq, S1.a.injEq, SC.v.injEq, Value.bool.injEq, Value.int.injEq, List.cons.injEq, decide_eq_true_eq, gt_iff_lt, ge_iff_le, ne_eq, Int.reduceLE, Int.cast_ofNat_Int, Int.reduceLT, Int.reduceEq, Int.reduceMul, Int.reduceAdd, Int.reduceSub, not_false_eq_true, not_true_eq_false, upto, leEnv, leEnt, Le, scEnv, scEnt, scE, kLoop, vcD, vcDgo, recOf, recEff, resE, ids1L, S1.ids, SC.ids, idsL, SV.ids, memN, usesX, readsX, slotsL, XO.slots, pushR, alN, nAl, Rec.foot, uIds, uWr, List.nil_append, List.cons_append, List.append_nil, Bool.not_eq_true', decide_eq_false_iff_not, Int.reduceNeg, Int.reduceToNat, Nat.reduceMul, Nat.reduceLT, imp_self, and_imp, sp41, sp80]
      have hb := hb n
      rw [show (h % 256).tdiv 64 = h % 256 / 64 from Int.tdiv_eq_ediv_of_nonneg (by omega), wrapI (n := h % 256 / 64) (by omega) (by omega)]
      refine ⟨fun h1 => ⟨⟨n + 1, by omega⟩, ?_, by simp only; omega⟩, fun h1 => ?_⟩
      · rw [wrapI (by omega) (by omega), wrapI (by omega) (by omega), Int.zero_sub]
        exact ⟨rfl, rfl⟩
      · have hh : n = (h % 256 / 64).toNat := by omega
        rw [dirV_rot, ← hh]
        exact ⟨rfl, rfl, rfl⟩
  · cases h
/-- wayfinder/drive.ahead -/
def sp36 : List S1 → Option (Prop × SV)
  | [.c (.v (.int .i64 h)), .c (.v (.int .i64 length))] => some (-900000 ≤ length ∧ length ≤ 900000, .o (.a [.v (.int .i64 (max 0 length * (dirV h).1 / (dirV h).2.2)), .v (.int .i64 (max 0 length * (dirV h).2.1 / (dirV h).2.2))]))
  | _ => none
theorem c36 : COk Try.prog 36 (plain sp36) := by
  refine cok_plain Try.func36 x36_ok (by kernel_rfl) (cok_tab (cok_cons c59 (cok_cons c56 cok_nil))) ?_
  intro args pre res h
  unfold sp36 at h
  split at h
  · rename_i h length
    cases h
    refine ⟨by simp only [sc1L, sc1, scL, SC.sc, and_self], by simp only [scV, sc1L, sc1, scL, SC.sc, and_self], fun hpre => ?_⟩
    simp only [x36, vcF, env0, vcC, vcOps, vcOpsQ, vcOp, evQ, guardOf, rd, rds, lk, opQ, qMv, qBuild, qLoad1, qLoadN, qFld, qPart1, qPartN, qIx1, qIxN, qIxA, qIxS, qBin, qBinb, qEqA, qUn, qConv, qMin, qMax, qLenS, qNil, fin, evPick, evCR, evExt, vcEff, vcBox, vcStore, vcCR, vcCond, tab, plain, kSeq, kBlock, kRet, rets, ret1, retV, St.put, constS, nth, takeAt, setAt, fillS, ups, oks, okcs, S1.ok, SC.ok, Value.oneCell', S1.cells, boxOf, rowOf, binI, isShift, eqCells, eqC, sc1L, sc1, scL, SC.sc, scV, List.map_cons, List.map_nil, List.length_cons, List.length_nil, Nat.reduceAdd, Nat.reduceLeDiff, Nat.reduceEqDiff, Nat.reduceBEq, reduceIte, reduceCtorEq, and_true, true_and, and_self, forall_const, Bool.false_eq_true, Bool.true_eq_false, false_or, or_true, true_or, Nat.add_zero, Nat.zero_add, cond_true, cond_false, beq_self_eq_true, true_implies, false_implies, imp_self, implies_true, Bool.not_not, Bool.and_true, Bool.true_and, Bool.and_false, Bool.false_and, Nat.le_refl, Nat.zero_le, Bool.not_true, Bool.not_false, evQ0, evTup, tupOf, beq_true, beq_false, Bool.cond_false_right, Bool.cond_true_left, Bool.cond_true_right, Bool.cond_false_left, SV.o.injEq, SV.t.injEq, SV.g.injEq, S1.c.injEq, S1.a.injEq, SC.v.injEq, Value.bool.injEq, Value.int.injEq, List.cons.injEq, decide_eq_true_eq, gt_iff_lt, ge_iff_le, ne_eq, Int.reduceLE, Int.cast_ofNat_Int, Int.reduceLT, Int.reduceEq, Int.reduceMul, Int.reduceAdd, Int.reduceSub, not_false_eq_true, not_true_eq_false, upto, leEnv, leEnt, Le, scEnv, scEnt, scE, kLoop, vcD, vcDgo, recOf, recEff, resE, ids1L, S1.ids, SC.ids, idsL, SV.ids, memN, usesX, readsX, slotsL, XO.slots, pushR, alN, nAl, Rec.foot, uIds, uWr, List.nil_append, List.cons_append, List.append_nil, Bool.not_eq_true', decide_eq_false_iff_not, Int.reduceNeg, Int.reduceToNat, Nat.reduceMul, Nat.reduceLT, imp_self, and_imp, sp59, sp56]
    have hb := dir_mul_bd h (max 0 length) (by omega) (by omega)
    have hd := (dirV_bd h).1
    rw [wrapI (by omega) (by omega), wrapI (by omega) (by omega)]
    refine ⟨by omega, by omega, by decide, rfl, rfl⟩
  · cases h
/-- wayfinder/wayfinderref11.moved -/
def sp42 : List S1 → Option (Prop × SV)
  | [.c (.v (.int .i64 n)), .c (.v (.int .i64 h))] => some (0 ≤ n ∧ n ≤ 900000 ∧ -9223372036854775808 ≤ h ∧ h ≤ 9223372036854775807, .o (.a [.v (.int .i64 (n * (dirV h).1 / (dirV h).2.2)), .v (.int .i64 (n * (dirV h).2.1 / (dirV h).2.2))]))
  | _ => none
theorem c42 : COk Try.prog 42 (plain sp42) := by
  refine cok_plain Try.func42 x42_ok (by kernel_rfl) (cok_tab (cok_cons c60 (cok_cons c50 cok_nil))) ?_
  intro args pre res h
  unfold sp42 at h
  split at h
  · rename_i n h
    cases h
    refine ⟨by simp only [sc1L, sc1, scL, SC.sc, and_self], by simp only [scV, sc1L, sc1, scL, SC.sc, and_self], fun hpre => ?_⟩
    simp only [x42, vcF, env0, vcC, vcOps, vcOpsQ, vcOp, evQ, guardOf, rd, rds, lk, opQ, qMv, qBuild, qLoad1, qLoadN, qFld, qPart1, qPartN, qIx1, qIxN, qIxA, qIxS, qBin, qBinb, qEqA, qUn, qConv, qMin, qMax, qLenS, qNil, fin, evPick, evCR, evExt, vcEff, vcBox, vcStore, vcCR, vcCond, tab, plain, kSeq, kBlock, kRet, rets, ret1, retV, St.put, constS, nth, takeAt, setAt, fillS, ups, oks, okcs, S1.ok, SC.ok, Value.oneCell', S1.cells, boxOf, rowOf, binI, isShift, eqCells, eqC, sc1L, sc1, scL, SC.sc, scV, List.map_cons, List.map_nil, List.length_cons, List.length_nil, Nat.reduceAdd, Nat.reduceLeDiff, Nat.reduceEqDiff, Nat.reduceBEq, reduceIte, reduceCtorEq, and_true, true_and, and_self, forall_const, Bool.false_eq_true, Bool.true_eq_false, false_or, or_true, true_or, Nat.add_zero, Nat.zero_add, cond_true, cond_false, beq_self_eq_true, true_implies, false_implies, imp_self, implies_true, Bool.not_not, Bool.and_true, Bool.true_and, Bool.and_false, Bool.false_and, Nat.le_refl, Nat.zero_le, Bool.not_true, Bool.not_false, evQ0, evTup, tupOf, beq_true, beq_false, Bool.cond_false_right, Bool.cond_true_left, Bool.cond_true_right, Bool.cond_false_left, SV.o.injEq, SV.t.injEq, SV.g.injEq, S1.c.injEq, S1.a.injEq, SC.v.injEq, Value.bool.injEq, Value.int.injEq, List.cons.injEq, decide_eq_true_eq, gt_iff_lt, ge_iff_le, ne_eq, Int.reduceLE, Int.cast_ofNat_Int, Int.reduceLT, Int.reduceEq, Int.reduceMul, Int.reduceAdd, Int.reduceSub, not_false_eq_true, not_true_eq_false, upto, leEnv, leEnt, Le, scEnv, scEnt, scE, kLoop, vcD, vcDgo, recOf, recEff, resE, ids1L, S1.ids, SC.ids, idsL, SV.ids, memN, usesX, readsX, slotsL, XO.slots, pushR, alN, nAl, Rec.foot, uIds, uWr, List.nil_append, List.cons_append, List.append_nil, Bool.not_eq_true', decide_eq_false_iff_not, Int.reduceNeg, Int.reduceToNat, Nat.reduceMul, Nat.reduceLT, imp_self, and_imp, sp60, sp50]
    have hb := dir_mul_bd h (n) (by omega) (by omega)
    have hd := (dirV_bd h).1
    rw [wrapI (by omega) (by omega), wrapI (by omega) (by omega)]
    refine ⟨by omega, by omega, by omega, by decide, rfl, rfl⟩
  · cases h
end Go.Proofs.Ytjcpefnbongmaaa
