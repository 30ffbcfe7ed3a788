/- 'wayfindertop.WholeJournal' returns true whatever the input, and the arguments read as before. No conditions. -/
import Derived.Test.YtkpdofgmmpbknaaGreatWJJ7
import Derived.Test.YtkpdofgmmpbknaaGreatWJSz4
set_option linter.unusedVariables false
set_option linter.unusedSimpArgs false
namespace Go.Proofs.YtkpdofgmmpbknaaGreat
open Go.Sx Go.ChangeShapes Go.WideShapes Go.ChangeAt Go.RowKit
theorem own : ownKnob Tryz.prog.godebug = none := by kernel_rfl
theorem laidOut : laidOutB Tryz.prog = true := by kernel_rfl
theorem uB : Tryz.prog.underlying 4 = some .bool := by kernel_rfl
set_option maxRecDepth 100000 in
theorem wholeJournal_lifted (os : Os) (started : os.Started) (H : Type) (enc : TypeId × Value → H) :
    ReturnsInHanded {} Tryz.checked os 3 .any (Rows.wholeJournalSpec.pre6 enc Tryz.prog Tryz.f3 Rows.wholeJournalRow.domain false) (Rows.wholeJournalSpec.post enc Tryz.prog Tryz.f3 false true false false) := by
  refine returnsInHanded_of_change (C := Tryz.checked) own started (by kernel_rfl) Tryz.func3
    (ChangeSpec.witness6 (enc := enc) (C := Tryz.checked) false ⟨#[], #[.agg #[.int .i64 0, .int .i64 0, .slice none 0 0, .int .i64 0, .int .i64 0, .int .i64 0, .int .i64 0, .int .i64 0, .int .i64 0, .int .i64 0], .slice none 0 0, .int .i64 0], []⟩ 8 (by kernel_rfl) (by kernel_rfl) (by kernel_rfl) (by kernel_rfl)) ?_
  intro W base args ds gs before hval0 hW hcnd _
  have hval : ∀ (j : Nat) t v, Tryz.f3.params[j]? = some t → args[j]? = some v → Value.okWide Tryz.prog W .any base t v := hval0
  have hW' := hW
  obtain ⟨p, q, hA0, hV, rfl, hfz, hnd⟩ := hW
  have hA : DataW.TrodAll enc Tryz.prog W 0 (fun _ => true) true Tryz.f3.params.toList args.toList ds p := hA0
  rw [Tryz.params3] at hA hval
  obtain ⟨v0, vs0, d0, ds0, p0, q0, hargs, rfl, rfl, h0, r0⟩ := trodAll_cons hA
  obtain ⟨v1, vs1, d1, ds1, p1, q1, rfl, rfl, rfl, h1, r1⟩ := trodAll_cons r0
  obtain ⟨v2, vs2, d2, ds2, p2, q2, rfl, rfl, rfl, h2, r2⟩ := trodAll_cons r1
  obtain ⟨rfl, rfl, rfl⟩ := trodAll_nil r2
  obtain rfl : args = #[v0, v1, v2] := by cases args; simp_all
  obtain ⟨rfl, rfl⟩ := trodVars_none hV
  obtain ⟨c0, rfl, o0_0⟩ := open_agg (ts := [3, 3, 22, 3, 3, 3, 3, 3, 3, 3]) Tryz.underlying30 (by kernel_rfl) (hval 0 30 v0 rfl rfl) h0
  obtain ⟨v0_0, c0_0, rfl, e0_0, o0_1⟩ := leafs_cons o0_0
  obtain ⟨s_Plan_W, rfl, w_s_Plan_W⟩ := leaf_int (k := .i64) (by kernel_rfl) (e0_0)
  have w_s_Plan_W : -9223372036854775808 ≤ s_Plan_W ∧ s_Plan_W ≤ 9223372036854775807 := w_s_Plan_W
  obtain ⟨v0_1, c0_1, rfl, e0_1, o0_2⟩ := leafs_cons o0_1
  obtain ⟨s_Plan_H, rfl, w_s_Plan_H⟩ := leaf_int (k := .i64) (by kernel_rfl) (e0_1)
  have w_s_Plan_H : -9223372036854775808 ≤ s_Plan_H ∧ s_Plan_H ≤ 9223372036854775807 := w_s_Plan_H
  obtain ⟨v0_2, c0_2, rfl, e0_2, o0_3⟩ := leafs_cons o0_2
  obtain ⟨s_Plan_CellsL, f_s_Plan_Cells, one_s_Plan_Cells, rel_s_Plan_Cells, blk_s_Plan_Cells⟩ := leaf_row (E := eU8) (e := 5) (by kernel_rfl) (by kernel_rfl) (by kernel_rfl) (by decide) (fun _ => rfl) (e0_2)
  obtain ⟨v0_3, c0_3, rfl, e0_3, o0_4⟩ := leafs_cons o0_3
  obtain ⟨s_Bounds_Turn, rfl, w_s_Bounds_Turn⟩ := leaf_int (k := .i64) (by kernel_rfl) (e0_3)
  have w_s_Bounds_Turn : -9223372036854775808 ≤ s_Bounds_Turn ∧ s_Bounds_Turn ≤ 9223372036854775807 := w_s_Bounds_Turn
  obtain ⟨v0_4, c0_4, rfl, e0_4, o0_5⟩ := leafs_cons o0_4
  obtain ⟨s_Bounds_Length, rfl, w_s_Bounds_Length⟩ := leaf_int (k := .i64) (by kernel_rfl) (e0_4)
  have w_s_Bounds_Length : -9223372036854775808 ≤ s_Bounds_Length ∧ s_Bounds_Length ≤ 9223372036854775807 := w_s_Bounds_Length
  obtain ⟨v0_5, c0_5, rfl, e0_5, o0_6⟩ := leafs_cons o0_5
  obtain ⟨s_Bounds_Slip, rfl, w_s_Bounds_Slip⟩ := leaf_int (k := .i64) (by kernel_rfl) (e0_5)
  have w_s_Bounds_Slip : -9223372036854775808 ≤ s_Bounds_Slip ∧ s_Bounds_Slip ≤ 9223372036854775807 := w_s_Bounds_Slip
  obtain ⟨v0_6, c0_6, rfl, e0_6, o0_7⟩ := leafs_cons o0_6
  obtain ⟨s_Bounds_Range, rfl, w_s_Bounds_Range⟩ := leaf_int (k := .i64) (by kernel_rfl) (e0_6)
  have w_s_Bounds_Range : -9223372036854775808 ≤ s_Bounds_Range ∧ s_Bounds_Range ≤ 9223372036854775807 := w_s_Bounds_Range
  obtain ⟨v0_7, c0_7, rfl, e0_7, o0_8⟩ := leafs_cons o0_7
  obtain ⟨s_At_X, rfl, w_s_At_X⟩ := leaf_int (k := .i64) (by kernel_rfl) (e0_7)
  have w_s_At_X : -9223372036854775808 ≤ s_At_X ∧ s_At_X ≤ 9223372036854775807 := w_s_At_X
  obtain ⟨v0_8, c0_8, rfl, e0_8, o0_9⟩ := leafs_cons o0_8
  obtain ⟨s_At_Y, rfl, w_s_At_Y⟩ := leaf_int (k := .i64) (by kernel_rfl) (e0_8)
  have w_s_At_Y : -9223372036854775808 ≤ s_At_Y ∧ s_At_Y ≤ 9223372036854775807 := w_s_At_Y
  obtain ⟨v0_9, c0_9, rfl, e0_9, o0_10⟩ := leafs_cons o0_9
  obtain ⟨s_At_H, rfl, w_s_At_H⟩ := leaf_int (k := .i64) (by kernel_rfl) (e0_9)
  have w_s_At_H : -9223372036854775808 ≤ s_At_H ∧ s_At_H ≤ 9223372036854775807 := w_s_At_H
  obtain rfl := leafs_nil o0_10
  obtain ⟨actsL, acts_V, one_acts, rel_acts, blk_acts⟩ := leaf_deep (D := eAct) (e := 64) (ts := [3, 3, 3, 3, 3, 3, 42, 42]) (by kernel_rfl) (by kernel_rfl) (by kernel_rfl) (by decide) (fun _ => rfl) (fun cs hcs => act_onto (ti := 3) (tm := 42) (by kernel_rfl) (by kernel_rfl) (by kernel_rfl) (by kernel_rfl) (fun _ => rfl) hcs) (open_one (by kernel_rfl) (hval 1 31 v1 rfl rfl) h1)
  obtain ⟨cut, rfl, w_cut⟩ := leaf_int (k := .i64) (by kernel_rfl) (open_one (by kernel_rfl) (hval 2 3 v2 rfl rfl) h2)
  have w_cut : -9223372036854775808 ≤ cut ∧ cut ≤ 9223372036854775807 := w_cut
  have key := row_calls (n := 2) (l := [(0, .ro s_Plan_CellsL.length eU8.sz (rowF eU8 s_Plan_CellsL)), (1, .deep none actsL.length eAct.sz (deepF eAct actsL acts_V) (deepC eAct actsL) [])]) (vs := [v0_2, v1]) c3 (by kernel_rfl) (args := [.a [.v (.int .i64 s_Plan_W), .v (.int .i64 s_Plan_H), .n 0, .v (.int .i64 s_Bounds_Turn), .v (.int .i64 s_Bounds_Length), .v (.int .i64 s_Bounds_Slip), .v (.int .i64 s_Bounds_Range), .v (.int .i64 s_At_X), .v (.int .i64 s_At_Y), .v (.int .i64 s_At_H)], .c (.n 1), .c (.v (.int .i64 cut))]) rfl (by simp only [sc1L, sc1, scL, SC.sc, scV, scEnt, scE, alSc, rowF_scT, upto, Nat.reduceLT, Nat.reduceAdd, and_self, and_true, true_and]) (by simp only [sc1L, sc1, scL, SC.sc, scV, scEnt, scE, alSc, rowF_scT, upto, Nat.reduceLT, Nat.reduceAdd, and_self, and_true, true_and]) (W := W) ⟨one_s_Plan_Cells, one_acts, trivial⟩ ⟨⟨rfl, rel_s_Plan_Cells _, footR blk_s_Plan_Cells⟩, ⟨rfl, rel_acts _, blk_acts⟩, trivial⟩ ?_
  · refine key.mono fun e W' ⟨he, hb⟩ => ?_
    subst he
    exact ⟨_, rfl, post_true laidOut rfl uB (by kernel_rfl) rfl hW' rfl hb⟩
  · refine ⟨(isRow_rowF _).2 trivial, (isDeep_deep _ _ _).2 rfl, ?_⟩
    try rw [decL_rowF s_Plan_CellsL]
    try rw [decD_deep actsL]
    exact ⟨f_s_Plan_Cells, w_cut⟩
theorem wholeJournal : Rows.WholeJournalSaid :=
  OpenClaim.holds_of_wide 3 Tryz.f3 rfl rfl rfl rfl rfl rfl rfl ⟨rfl, rfl, rfl, rfl, rfl⟩ rfl rfl rfl rfl rfl (by kernel_rfl) Tryz.func3 (by kernel_rfl)
    (of_decide_eq_true (by kernel_rfl)) (by unfold Func.isWrapper; first | (rw [if_pos (by decide +kernel)]; kernel_rfl) | (rw [if_neg (by decide +kernel)]; exact ⟨rfl, rfl⟩))
    (fun os started H enc _ => wholeJournal_lifted os started H enc)
end Go.Proofs.YtkpdofgmmpbknaaGreat
