/- 'wayfinderlaw24.ContractOnly' returns true whatever the input, and the arguments read as before. No conditions. -/
import Derived.Test.YtjnelnofbpjdmaaW6
import Derived.Test.YtjnelnofbpjdmaaSz3
set_option linter.unusedVariables false
set_option linter.unusedSimpArgs false
namespace Go.Proofs.Ytjnelnofbpjdmaa
open Go.Sx Go.ChangeShapes Go.WideShapes Go.ChangeAt Go.RowKit
theorem own : ownKnob Try.prog.godebug = none := by kernel_rfl
theorem laidOut : laidOutB Try.prog = true := by kernel_rfl
theorem uB : Try.prog.underlying 4 = some .bool := by kernel_rfl

set_option maxRecDepth 100000 in
theorem contractOnly_lifted (os : Os) (started : os.Started) (H : Type) (enc : TypeId × Value → H) :
    ReturnsInHanded {} Try.checked os 5 .any (Rows.contractOnlySpec.pre6 enc Try.prog Try.f5 Rows.contractOnlyRow.domain false) (Rows.contractOnlySpec.post enc Try.prog Try.f5 false true false false) := by
  refine returnsInHanded_of_change (C := Try.checked) own started (by kernel_rfl) Try.func5
    (ChangeSpec.witness6 (enc := enc) (C := Try.checked) false ⟨#[], #[.agg #[.int .i64 0, .int .i64 0, .slice none 0 0], .agg #[.int .i64 0, .int .i64 0, .int .i64 0, .int .i64 0, .int .i64 0, .int .i64 0], .agg #[.slice none 0 0, .int .i64 0, .int .i64 0, .int .i64 0, .int .i64 0]], []⟩ 8 (by kernel_rfl) (by kernel_rfl) (by kernel_rfl) (by kernel_rfl)) ?_
  intro W base args ds gs before hval0 hW hcnd _
  have hval : ∀ (j : Nat) t v, Try.f5.params[j]? = some t → args[j]? = some v → Value.okWide Try.prog W .any base t v := hval0
  have hW' := hW
  obtain ⟨p, q, hA0, hV, rfl, hfz, hnd⟩ := hW
  have hA : DataW.TrodAll enc Try.prog W 0 (fun _ => true) true Try.f5.params.toList args.toList ds p := hA0
  rw [Try.params5] at hA hval
  obtain ⟨v0, vs0, d0, ds0, p0, q0, hargs, rfl, rfl, h0, r0⟩ := trodAll_cons hA
  obtain ⟨v1, vs1, d1, ds1, p1, q1, rfl, rfl, rfl, h1, r1⟩ := trodAll_cons r0
  obtain ⟨v2, vs2, d2, ds2, p2, q2, rfl, rfl, rfl, h2, r2⟩ := trodAll_cons r1
  obtain ⟨rfl, rfl, rfl⟩ := trodAll_nil r2
  obtain rfl : args = #[v0, v1, v2] := by cases args; simp_all
  obtain ⟨rfl, rfl⟩ := trodVars_none hV
  obtain ⟨c0, rfl, o0_0⟩ := open_agg (ts := [3, 3, 22]) Try.underlying24 (by kernel_rfl) (hval 0 24 v0 rfl rfl) h0
  obtain ⟨v0_0, c0_0, rfl, e0_0, o0_1⟩ := leafs_cons o0_0
  obtain ⟨p_W, rfl, w_p_W⟩ := leaf_int (k := .i64) (by kernel_rfl) (e0_0)
  have w_p_W : -9223372036854775808 ≤ p_W ∧ p_W ≤ 9223372036854775807 := w_p_W
  obtain ⟨v0_1, c0_1, rfl, e0_1, o0_2⟩ := leafs_cons o0_1
  obtain ⟨p_H, rfl, w_p_H⟩ := leaf_int (k := .i64) (by kernel_rfl) (e0_1)
  have w_p_H : -9223372036854775808 ≤ p_H ∧ p_H ≤ 9223372036854775807 := w_p_H
  obtain ⟨v0_2, c0_2, rfl, e0_2, o0_3⟩ := leafs_cons o0_2
  obtain ⟨p_CellsL, f_p_Cells, one_p_Cells, rel_p_Cells, blk_p_Cells⟩ := leaf_row (E := eU8) (e := 5) (by kernel_rfl) (by kernel_rfl) (by kernel_rfl) (by decide) (fun _ => rfl) (e0_2)
  obtain rfl := leafs_nil o0_3
  obtain ⟨c1, rfl, o1_0⟩ := open_agg (ts := [3, 3, 3, 3, 3, 3]) Try.underlying46 (by kernel_rfl) (hval 1 46 v1 rfl rfl) h1
  obtain ⟨v1_0, c1_0, rfl, e1_0, o1_1⟩ := leafs_cons o1_0
  obtain ⟨b_X0, rfl, w_b_X0⟩ := leaf_int (k := .i64) (by kernel_rfl) (e1_0)
  have w_b_X0 : -9223372036854775808 ≤ b_X0 ∧ b_X0 ≤ 9223372036854775807 := w_b_X0
  obtain ⟨v1_1, c1_1, rfl, e1_1, o1_2⟩ := leafs_cons o1_1
  obtain ⟨b_Y0, rfl, w_b_Y0⟩ := leaf_int (k := .i64) (by kernel_rfl) (e1_1)
  have w_b_Y0 : -9223372036854775808 ≤ b_Y0 ∧ b_Y0 ≤ 9223372036854775807 := w_b_Y0
  obtain ⟨v1_2, c1_2, rfl, e1_2, o1_3⟩ := leafs_cons o1_2
  obtain ⟨b_X1, rfl, w_b_X1⟩ := leaf_int (k := .i64) (by kernel_rfl) (e1_2)
  have w_b_X1 : -9223372036854775808 ≤ b_X1 ∧ b_X1 ≤ 9223372036854775807 := w_b_X1
  obtain ⟨v1_3, c1_3, rfl, e1_3, o1_4⟩ := leafs_cons o1_3
  obtain ⟨b_Y1, rfl, w_b_Y1⟩ := leaf_int (k := .i64) (by kernel_rfl) (e1_3)
  have w_b_Y1 : -9223372036854775808 ≤ b_Y1 ∧ b_Y1 ≤ 9223372036854775807 := w_b_Y1
  obtain ⟨v1_4, c1_4, rfl, e1_4, o1_5⟩ := leafs_cons o1_4
  obtain ⟨b_From, rfl, w_b_From⟩ := leaf_int (k := .i64) (by kernel_rfl) (e1_4)
  have w_b_From : -9223372036854775808 ≤ b_From ∧ b_From ≤ 9223372036854775807 := w_b_From
  obtain ⟨v1_5, c1_5, rfl, e1_5, o1_6⟩ := leafs_cons o1_5
  obtain ⟨b_Count, rfl, w_b_Count⟩ := leaf_int (k := .i64) (by kernel_rfl) (e1_5)
  have w_b_Count : -9223372036854775808 ≤ b_Count ∧ b_Count ≤ 9223372036854775807 := w_b_Count
  obtain rfl := leafs_nil o1_6
  obtain ⟨c2, rfl, o2_0⟩ := open_agg (ts := [47, 3, 3, 3, 3]) Try.underlying49 (by kernel_rfl) (hval 2 49 v2 rfl rfl) h2
  obtain ⟨v2_0, c2_0, rfl, e2_0, o2_1⟩ := leafs_cons o2_0
  obtain ⟨x_ScanL, f_x_Scan, one_x_Scan, rel_x_Scan, blk_x_Scan⟩ := leaf_row (E := eC) (e := 28) (by kernel_rfl) (by kernel_rfl) (by kernel_rfl) (by decide) (fun _ => rfl) (e2_0)
  obtain ⟨v2_1, c2_1, rfl, e2_1, o2_2⟩ := leafs_cons o2_1
  obtain ⟨x_Rng, rfl, w_x_Rng⟩ := leaf_int (k := .i64) (by kernel_rfl) (e2_1)
  have w_x_Rng : -9223372036854775808 ≤ x_Rng ∧ x_Rng ≤ 9223372036854775807 := w_x_Rng
  obtain ⟨v2_2, c2_2, rfl, e2_2, o2_3⟩ := leafs_cons o2_2
  obtain ⟨x_At_X, rfl, w_x_At_X⟩ := leaf_int (k := .i64) (by kernel_rfl) (e2_2)
  have w_x_At_X : -9223372036854775808 ≤ x_At_X ∧ x_At_X ≤ 9223372036854775807 := w_x_At_X
  obtain ⟨v2_3, c2_3, rfl, e2_3, o2_4⟩ := leafs_cons o2_3
  obtain ⟨x_At_Y, rfl, w_x_At_Y⟩ := leaf_int (k := .i64) (by kernel_rfl) (e2_3)
  have w_x_At_Y : -9223372036854775808 ≤ x_At_Y ∧ x_At_Y ≤ 9223372036854775807 := w_x_At_Y
  obtain ⟨v2_4, c2_4, rfl, e2_4, o2_5⟩ := leafs_cons o2_4
  obtain ⟨x_At_H, rfl, w_x_At_H⟩ := leaf_int (k := .i64) (by kernel_rfl) (e2_4)
  have w_x_At_H : -9223372036854775808 ≤ x_At_H ∧ x_At_H ≤ 9223372036854775807 := w_x_At_H
  obtain rfl := leafs_nil o2_5
  have key := row_calls (n := 2) (l := [(0, .ro p_CellsL.length eU8.sz (rowF eU8 p_CellsL)), (1, .ro x_ScanL.length eC.sz (rowF eC x_ScanL))]) (vs := [v0_2, v2_0]) c5 (by kernel_rfl) (args := [.a [.v (.int .i64 p_W), .v (.int .i64 p_H), .n 0], .a [.v (.int .i64 b_X0), .v (.int .i64 b_Y0), .v (.int .i64 b_X1), .v (.int .i64 b_Y1), .v (.int .i64 b_From), .v (.int .i64 b_Count)], .a [.n 1, .v (.int .i64 x_Rng), .v (.int .i64 x_At_X), .v (.int .i64 x_At_Y), .v (.int .i64 x_At_H)]]) rfl (by simp only [sc1L, sc1, scL, SC.sc, scV, scEnt, scE, rowF_scT, upto, Nat.reduceLT, Nat.reduceAdd, and_self, and_true, true_and]) (by simp only [sc1L, sc1, scL, SC.sc, scV, scEnt, scE, rowF_scT, upto, Nat.reduceLT, Nat.reduceAdd, and_self, and_true, true_and]) (W := W) ⟨one_p_Cells, one_x_Scan, trivial⟩ ⟨⟨rfl, rel_p_Cells _, blk_p_Cells⟩, ⟨rfl, rel_x_Scan _, blk_x_Scan⟩, trivial⟩ ?_
  · refine key.mono fun e W' ⟨he, hb⟩ => ?_
    subst he
    exact ⟨_, rfl, post_true laidOut rfl uB (by kernel_rfl) rfl hW' rfl hb⟩
  · refine ⟨(isRow_rowF _).2 trivial, (isRow_rowF _).2 trivial, ?_⟩
    try rw [decL_rowF p_CellsL]
    try rw [decL_rowF x_ScanL]
    exact w_x_At_H

theorem contractOnly : Rows.ContractOnlySaid :=
  OpenClaim.holds_of_wide 5 Try.f5 rfl rfl rfl rfl rfl rfl rfl ⟨rfl, rfl, rfl, rfl, rfl⟩ rfl rfl rfl rfl rfl (by kernel_rfl) Try.func5 (by kernel_rfl)
    (of_decide_eq_true (by kernel_rfl)) (by unfold Func.isWrapper; first | (rw [if_pos (by decide +kernel)]; kernel_rfl) | (rw [if_neg (by decide +kernel)]; exact ⟨rfl, rfl⟩))
    (fun os started H enc _ => contractOnly_lifted os started H enc)
end Go.Proofs.Ytjnelnofbpjdmaa
