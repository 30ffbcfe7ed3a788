/- 'wayfinderlaw24.ContractKeeps' returns true whatever the input, and the arguments read as before. No conditions. -/
import Derived.Test.YtjnelnofbpjdmaaW5
import Derived.Test.YtjnelnofbpjdmaaSz3
set_option linter.unusedVariables false
set_option linter.unusedSimpArgs false
namespace Go.Proofs.Ytjnelnofbpjdmaa
open Go.Sx Go.ChangeShapes Go.WideShapes Go.ChangeAt Go.RowKit
theorem own : ownKnob Try.prog.godebug = none := by kernel_rfl
theorem laidOut : laidOutB Try.prog = true := by kernel_rfl
theorem uB : Try.prog.underlying 4 = some .bool := by kernel_rfl

set_option maxRecDepth 100000 in
theorem contractKeeps_lifted (os : Os) (started : os.Started) (H : Type) (enc : TypeId × Value → H) :
    ReturnsInHanded {} Try.checked os 7 .any (Rows.contractKeepsSpec.pre6 enc Try.prog Try.f7 Rows.contractKeepsRow.domain false) (Rows.contractKeepsSpec.post enc Try.prog Try.f7 false true false false) := by
  refine returnsInHanded_of_change (C := Try.checked) own started (by kernel_rfl) Try.func7
    (ChangeSpec.witness6 (enc := enc) (C := Try.checked) false ⟨#[], #[.agg #[.int .i64 0, .int .i64 0, .slice none 0 0, .int .i64 0, .int .i64 0, .int .i64 0, .slice none 0 0, .slice none 0 0, .int .i64 0, .slice none 0 0], .agg #[.int .i64 0, .int .i64 0, .int .i64 0, .int .i64 0, .int .i64 0, .int .i64 0], .int .i64 0], []⟩ 8 (by kernel_rfl) (by kernel_rfl) (by kernel_rfl) (by kernel_rfl)) ?_
  intro W base args ds gs before hval0 hW hcnd _
  have hval : ∀ (j : Nat) t v, Try.f7.params[j]? = some t → args[j]? = some v → Value.okWide Try.prog W .any base t v := hval0
  have hW' := hW
  obtain ⟨p, q, hA0, hV, rfl, hfz, hnd⟩ := hW
  have hA : DataW.TrodAll enc Try.prog W 0 (fun _ => true) true Try.f7.params.toList args.toList ds p := hA0
  rw [Try.params7] at hA hval
  obtain ⟨v0, vs0, d0, ds0, p0, q0, hargs, rfl, rfl, h0, r0⟩ := trodAll_cons hA
  obtain ⟨v1, vs1, d1, ds1, p1, q1, rfl, rfl, rfl, h1, r1⟩ := trodAll_cons r0
  obtain ⟨v2, vs2, d2, ds2, p2, q2, rfl, rfl, rfl, h2, r2⟩ := trodAll_cons r1
  obtain ⟨rfl, rfl, rfl⟩ := trodAll_nil r2
  obtain rfl : args = #[v0, v1, v2] := by cases args; simp_all
  obtain ⟨rfl, rfl⟩ := trodVars_none hV
  obtain ⟨c0, rfl, o0_0⟩ := open_agg (ts := [3, 3, 22, 3, 3, 3, 37, 37, 3, 22]) Try.underlying39 (by kernel_rfl) (hval 0 39 v0 rfl rfl) h0
  obtain ⟨v0_0, c0_0, rfl, e0_0, o0_1⟩ := leafs_cons o0_0
  obtain ⟨x_Plan_W, rfl, w_x_Plan_W⟩ := leaf_int (k := .i64) (by kernel_rfl) (e0_0)
  have w_x_Plan_W : -9223372036854775808 ≤ x_Plan_W ∧ x_Plan_W ≤ 9223372036854775807 := w_x_Plan_W
  obtain ⟨v0_1, c0_1, rfl, e0_1, o0_2⟩ := leafs_cons o0_1
  obtain ⟨x_Plan_H, rfl, w_x_Plan_H⟩ := leaf_int (k := .i64) (by kernel_rfl) (e0_1)
  have w_x_Plan_H : -9223372036854775808 ≤ x_Plan_H ∧ x_Plan_H ≤ 9223372036854775807 := w_x_Plan_H
  obtain ⟨v0_2, c0_2, rfl, e0_2, o0_3⟩ := leafs_cons o0_2
  obtain ⟨x_Plan_CellsL, f_x_Plan_Cells, one_x_Plan_Cells, rel_x_Plan_Cells, blk_x_Plan_Cells⟩ := leaf_row (E := eU8) (e := 5) (by kernel_rfl) (by kernel_rfl) (by kernel_rfl) (by decide) (fun _ => rfl) (e0_2)
  obtain ⟨v0_3, c0_3, rfl, e0_3, o0_4⟩ := leafs_cons o0_3
  obtain ⟨x_At_X, rfl, w_x_At_X⟩ := leaf_int (k := .i64) (by kernel_rfl) (e0_3)
  have w_x_At_X : -9223372036854775808 ≤ x_At_X ∧ x_At_X ≤ 9223372036854775807 := w_x_At_X
  obtain ⟨v0_4, c0_4, rfl, e0_4, o0_5⟩ := leafs_cons o0_4
  obtain ⟨x_At_Y, rfl, w_x_At_Y⟩ := leaf_int (k := .i64) (by kernel_rfl) (e0_4)
  have w_x_At_Y : -9223372036854775808 ≤ x_At_Y ∧ x_At_Y ≤ 9223372036854775807 := w_x_At_Y
  obtain ⟨v0_5, c0_5, rfl, e0_5, o0_6⟩ := leafs_cons o0_5
  obtain ⟨x_At_H, rfl, w_x_At_H⟩ := leaf_int (k := .i64) (by kernel_rfl) (e0_5)
  have w_x_At_H : -9223372036854775808 ≤ x_At_H ∧ x_At_H ≤ 9223372036854775807 := w_x_At_H
  obtain ⟨v0_6, c0_6, rfl, e0_6, o0_7⟩ := leafs_cons o0_6
  obtain ⟨x_MarksL, f_x_Marks, one_x_Marks, rel_x_Marks, blk_x_Marks⟩ := leaf_row (E := eI) (e := 3) (by kernel_rfl) (by kernel_rfl) (by kernel_rfl) (by decide) (fun _ => rfl) (e0_6)
  obtain ⟨v0_7, c0_7, rfl, e0_7, o0_8⟩ := leafs_cons o0_7
  obtain ⟨x_ErrsL, f_x_Errs, one_x_Errs, rel_x_Errs, blk_x_Errs⟩ := leaf_row (E := eI) (e := 3) (by kernel_rfl) (by kernel_rfl) (by kernel_rfl) (by decide) (fun _ => rfl) (e0_7)
  obtain ⟨v0_8, c0_8, rfl, e0_8, o0_9⟩ := leafs_cons o0_8
  obtain ⟨x_Rng, rfl, w_x_Rng⟩ := leaf_int (k := .i64) (by kernel_rfl) (e0_8)
  have w_x_Rng : -9223372036854775808 ≤ x_Rng ∧ x_Rng ≤ 9223372036854775807 := w_x_Rng
  obtain ⟨v0_9, c0_9, rfl, e0_9, o0_10⟩ := leafs_cons o0_9
  obtain ⟨x_VeilL, f_x_Veil, one_x_Veil, rel_x_Veil, blk_x_Veil⟩ := leaf_row (E := eU8) (e := 5) (by kernel_rfl) (by kernel_rfl) (by kernel_rfl) (by decide) (fun _ => rfl) (e0_9)
  obtain rfl := leafs_nil o0_10
  obtain ⟨c1, rfl, o1_0⟩ := open_agg (ts := [3, 3, 3, 3, 3, 3]) Try.underlying46 (by kernel_rfl) (hval 1 46 v1 rfl rfl) h1
  obtain ⟨v1_0, c1_0, rfl, e1_0, o1_1⟩ := leafs_cons o1_0
  obtain ⟨b_X0, rfl, w_b_X0⟩ := leaf_int (k := .i64) (by kernel_rfl) (e1_0)
  have w_b_X0 : -9223372036854775808 ≤ b_X0 ∧ b_X0 ≤ 9223372036854775807 := w_b_X0
  obtain ⟨v1_1, c1_1, rfl, e1_1, o1_2⟩ := leafs_cons o1_1
  obtain ⟨b_Y0, rfl, w_b_Y0⟩ := leaf_int (k := .i64) (by kernel_rfl) (e1_1)
  have w_b_Y0 : -9223372036854775808 ≤ b_Y0 ∧ b_Y0 ≤ 9223372036854775807 := w_b_Y0
  obtain ⟨v1_2, c1_2, rfl, e1_2, o1_3⟩ := leafs_cons o1_2
  obtain ⟨b_X1, rfl, w_b_X1⟩ := leaf_int (k := .i64) (by kernel_rfl) (e1_2)
  have w_b_X1 : -9223372036854775808 ≤ b_X1 ∧ b_X1 ≤ 9223372036854775807 := w_b_X1
  obtain ⟨v1_3, c1_3, rfl, e1_3, o1_4⟩ := leafs_cons o1_3
  obtain ⟨b_Y1, rfl, w_b_Y1⟩ := leaf_int (k := .i64) (by kernel_rfl) (e1_3)
  have w_b_Y1 : -9223372036854775808 ≤ b_Y1 ∧ b_Y1 ≤ 9223372036854775807 := w_b_Y1
  obtain ⟨v1_4, c1_4, rfl, e1_4, o1_5⟩ := leafs_cons o1_4
  obtain ⟨b_From, rfl, w_b_From⟩ := leaf_int (k := .i64) (by kernel_rfl) (e1_4)
  have w_b_From : -9223372036854775808 ≤ b_From ∧ b_From ≤ 9223372036854775807 := w_b_From
  obtain ⟨v1_5, c1_5, rfl, e1_5, o1_6⟩ := leafs_cons o1_5
  obtain ⟨b_Count, rfl, w_b_Count⟩ := leaf_int (k := .i64) (by kernel_rfl) (e1_5)
  have w_b_Count : -9223372036854775808 ≤ b_Count ∧ b_Count ≤ 9223372036854775807 := w_b_Count
  obtain rfl := leafs_nil o1_6
  obtain ⟨splits, rfl, w_splits⟩ := leaf_int (k := .i64) (by kernel_rfl) (open_one (by kernel_rfl) (hval 2 3 v2 rfl rfl) h2)
  have w_splits : -9223372036854775808 ≤ splits ∧ splits ≤ 9223372036854775807 := w_splits
  have key := row_calls (n := 4) (l := [(0, .ro x_Plan_CellsL.length eU8.sz (rowF eU8 x_Plan_CellsL)), (1, .ro x_MarksL.length eI.sz (rowF eI x_MarksL)), (2, .ro x_ErrsL.length eI.sz (rowF eI x_ErrsL)), (3, .ro x_VeilL.length eU8.sz (rowF eU8 x_VeilL))]) (vs := [v0_2, v0_6, v0_7, v0_9]) c7 (by kernel_rfl) (args := [.a [.v (.int .i64 x_Plan_W), .v (.int .i64 x_Plan_H), .n 0, .v (.int .i64 x_At_X), .v (.int .i64 x_At_Y), .v (.int .i64 x_At_H), .n 1, .n 2, .v (.int .i64 x_Rng), .n 3], .a [.v (.int .i64 b_X0), .v (.int .i64 b_Y0), .v (.int .i64 b_X1), .v (.int .i64 b_Y1), .v (.int .i64 b_From), .v (.int .i64 b_Count)], .c (.v (.int .i64 splits))]) rfl (by simp only [sc1L, sc1, scL, SC.sc, scV, scEnt, scE, rowF_scT, upto, Nat.reduceLT, Nat.reduceAdd, and_self, and_true, true_and]) (by simp only [sc1L, sc1, scL, SC.sc, scV, scEnt, scE, rowF_scT, upto, Nat.reduceLT, Nat.reduceAdd, and_self, and_true, true_and]) (W := W) ⟨one_x_Plan_Cells, one_x_Marks, one_x_Errs, one_x_Veil, trivial⟩ ⟨⟨rfl, rel_x_Plan_Cells _, blk_x_Plan_Cells⟩, ⟨rfl, rel_x_Marks _, blk_x_Marks⟩, ⟨rfl, rel_x_Errs _, blk_x_Errs⟩, ⟨rfl, rel_x_Veil _, blk_x_Veil⟩, trivial⟩ ?_
  · refine key.mono fun e W' ⟨he, hb⟩ => ?_
    subst he
    exact ⟨_, rfl, post_true laidOut rfl uB (by kernel_rfl) rfl hW' rfl hb⟩
  · refine ⟨(isRow_rowF _).2 trivial, (isRow_rowF _).2 trivial, (isRow_rowF _).2 trivial, (isRow_rowF _).2 trivial, ?_⟩
    try rw [decL_rowF x_Plan_CellsL]
    try rw [decL_rowF x_MarksL]
    try rw [decL_rowF x_ErrsL]
    try rw [decL_rowF x_VeilL]
    exact w_splits

theorem contractKeeps : Rows.ContractKeepsSaid :=
  OpenClaim.holds_of_wide 7 Try.f7 rfl rfl rfl rfl rfl rfl rfl ⟨rfl, rfl, rfl, rfl, rfl⟩ rfl rfl rfl rfl rfl (by kernel_rfl) Try.func7 (by kernel_rfl)
    (of_decide_eq_true (by kernel_rfl)) (by unfold Func.isWrapper; first | (rw [if_pos (by decide +kernel)]; kernel_rfl) | (rw [if_neg (by decide +kernel)]; exact ⟨rfl, rfl⟩))
    (fun os started H enc _ => contractKeeps_lifted os started H enc)
end Go.Proofs.Ytjnelnofbpjdmaa
