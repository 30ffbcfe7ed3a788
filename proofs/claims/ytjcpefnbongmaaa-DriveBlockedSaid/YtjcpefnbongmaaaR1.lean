/- 'wayfinderlaw11.DriveBlocked', 'DriveFrees', 'DriveSteps' and 'DriveKeeps' return true whatever the input, and the arguments read as before. No conditions. -/
import Derived.Test.YtjcpefnbongmaaaV3
import Derived.Test.YtjcpefnbongmaaaSz3
set_option linter.unusedVariables false
set_option linter.unusedSimpArgs false
namespace Go.Proofs.Ytjcpefnbongmaaa
open Go.Sx Go.ChangeShapes Go.WideShapes Go.ChangeAt Go.RowKit
theorem own : ownKnob Try.prog.godebug = none := by kernel_rfl
theorem laidOut : laidOutB Try.prog = true := by kernel_rfl
theorem uB : Try.prog.underlying 4 = some .bool := by kernel_rfl

set_option maxRecDepth 100000 in
theorem driveBlocked_lifted (os : Os) (started : os.Started) (H : Type) (enc : TypeId × Value → H) :
    ReturnsInHanded {} Try.checked os 8 .any (Rows.driveBlockedSpec.pre6 enc Try.prog Try.f8 Rows.driveBlockedRow.domain false) (Rows.driveBlockedSpec.post enc Try.prog Try.f8 false true false false) := by
  refine returnsInHanded_of_change (C := Try.checked) own started (by kernel_rfl) Try.func8
    (ChangeSpec.witness6 (enc := enc) (C := Try.checked) false ⟨#[], #[.agg #[.int .i64 0, .int .i64 0, .slice none 0 0], .agg #[.int .i64 0, .int .i64 0], .agg #[.int .i64 0, .int .i64 0]], []⟩ 8 (by kernel_rfl) (by kernel_rfl) (by kernel_rfl) (by kernel_rfl)) ?_
  intro W base args ds gs before hval0 hW hcnd _
  have hval : ∀ (j : Nat) t v, Try.f8.params[j]? = some t → args[j]? = some v → Value.okWide Try.prog W .any base t v := hval0
  have hW' := hW
  obtain ⟨p, q, hA0, hV, rfl, hfz, hnd⟩ := hW
  have hA : DataW.TrodAll enc Try.prog W 0 (fun _ => true) true Try.f8.params.toList args.toList ds p := hA0
  rw [Try.params8] at hA hval
  obtain ⟨v0, vs0, d0, ds0, p0, q0, hargs, rfl, rfl, h0, r0⟩ := trodAll_cons hA
  obtain ⟨v1, vs1, d1, ds1, p1, q1, rfl, rfl, rfl, h1, r1⟩ := trodAll_cons r0
  obtain ⟨v2, vs2, d2, ds2, p2, q2, rfl, rfl, rfl, h2, r2⟩ := trodAll_cons r1
  obtain ⟨rfl, rfl, rfl⟩ := trodAll_nil r2
  obtain rfl : args = #[v0, v1, v2] := by cases args; simp_all
  obtain ⟨rfl, rfl⟩ := trodVars_none hV
  obtain ⟨c0, rfl, o0_0⟩ := open_agg (ts := [3, 3, 53]) Try.underlying55 (by kernel_rfl) (hval 0 55 v0 rfl rfl) h0
  obtain ⟨v0_0, c0_0, rfl, e0_0, o0_1⟩ := leafs_cons o0_0
  obtain ⟨p_W, rfl, w_p_W⟩ := leaf_int (k := .i64) (by kernel_rfl) (e0_0)
  have w_p_W : -9223372036854775808 ≤ p_W ∧ p_W ≤ 9223372036854775807 := w_p_W
  obtain ⟨v0_1, c0_1, rfl, e0_1, o0_2⟩ := leafs_cons o0_1
  obtain ⟨p_H, rfl, w_p_H⟩ := leaf_int (k := .i64) (by kernel_rfl) (e0_1)
  have w_p_H : -9223372036854775808 ≤ p_H ∧ p_H ≤ 9223372036854775807 := w_p_H
  obtain ⟨v0_2, c0_2, rfl, e0_2, o0_3⟩ := leafs_cons o0_2
  obtain ⟨p_CellsL, f_p_Cells, one_p_Cells, rel_p_Cells, blk_p_Cells⟩ := leaf_row (E := eU8) (e := 5) (by kernel_rfl) (by kernel_rfl) (by kernel_rfl) (by decide) (fun _ => rfl) (e0_2)
  obtain rfl := leafs_nil o0_3
  obtain ⟨c1, rfl, o1_0⟩ := open_agg (ts := [3, 3]) Try.underlying57 (by kernel_rfl) (hval 1 57 v1 rfl rfl) h1
  obtain ⟨v1_0, c1_0, rfl, e1_0, o1_1⟩ := leafs_cons o1_0
  obtain ⟨from_X, rfl, w_from_X⟩ := leaf_int (k := .i64) (by kernel_rfl) (e1_0)
  have w_from_X : -9223372036854775808 ≤ from_X ∧ from_X ≤ 9223372036854775807 := w_from_X
  obtain ⟨v1_1, c1_1, rfl, e1_1, o1_2⟩ := leafs_cons o1_1
  obtain ⟨from_Y, rfl, w_from_Y⟩ := leaf_int (k := .i64) (by kernel_rfl) (e1_1)
  have w_from_Y : -9223372036854775808 ≤ from_Y ∧ from_Y ≤ 9223372036854775807 := w_from_Y
  obtain rfl := leafs_nil o1_2
  obtain ⟨c2, rfl, o2_0⟩ := open_agg (ts := [3, 3]) Try.underlying57 (by kernel_rfl) (hval 2 57 v2 rfl rfl) h2
  obtain ⟨v2_0, c2_0, rfl, e2_0, o2_1⟩ := leafs_cons o2_0
  obtain ⟨to_X, rfl, w_to_X⟩ := leaf_int (k := .i64) (by kernel_rfl) (e2_0)
  have w_to_X : -9223372036854775808 ≤ to_X ∧ to_X ≤ 9223372036854775807 := w_to_X
  obtain ⟨v2_1, c2_1, rfl, e2_1, o2_2⟩ := leafs_cons o2_1
  obtain ⟨to_Y, rfl, w_to_Y⟩ := leaf_int (k := .i64) (by kernel_rfl) (e2_1)
  have w_to_Y : -9223372036854775808 ≤ to_Y ∧ to_Y ≤ 9223372036854775807 := w_to_Y
  obtain rfl := leafs_nil o2_2
  have key := row_calls (n := 1) (l := [(0, .ro p_CellsL.length eU8.sz (rowF eU8 p_CellsL))]) (vs := [v0_2]) c8 (by kernel_rfl) (args := [.a [.v (.int .i64 p_W), .v (.int .i64 p_H), .n 0], .a [.v (.int .i64 from_X), .v (.int .i64 from_Y)], .a [.v (.int .i64 to_X), .v (.int .i64 to_Y)]]) rfl (by simp only [sc1L, sc1, scL, SC.sc, scV, scEnt, scE, rowF_scT, upto, Nat.reduceLT, Nat.reduceAdd, and_self, and_true, true_and]) (by simp only [sc1L, sc1, scL, SC.sc, scV, scEnt, scE, rowF_scT, upto, Nat.reduceLT, Nat.reduceAdd, and_self, and_true, true_and]) (W := W) ⟨one_p_Cells, trivial⟩ ⟨⟨rfl, rel_p_Cells _, blk_p_Cells⟩, trivial⟩ ?_
  · refine key.mono fun e W' ⟨he, hb⟩ => ?_
    subst he
    exact ⟨_, rfl, post_true laidOut rfl uB (by kernel_rfl) rfl hW' rfl hb⟩
  · refine ⟨(isRow_rowF _).2 trivial, ?_⟩
    try rw [decL_rowF p_CellsL]
    exact f_p_Cells

theorem driveBlocked : Rows.DriveBlockedSaid :=
  OpenClaim.holds_of_wide 8 Try.f8 rfl rfl rfl rfl rfl rfl rfl ⟨rfl, rfl, rfl, rfl, rfl⟩ rfl rfl rfl rfl rfl (by kernel_rfl) Try.func8 (by kernel_rfl)
    (of_decide_eq_true (by kernel_rfl)) (by unfold Func.isWrapper; first | (rw [if_pos (by decide +kernel)]; kernel_rfl) | (rw [if_neg (by decide +kernel)]; exact ⟨rfl, rfl⟩))
    (fun os started H enc _ => driveBlocked_lifted os started H enc)

set_option maxRecDepth 100000 in
theorem driveFrees_lifted (os : Os) (started : os.Started) (H : Type) (enc : TypeId × Value → H) :
    ReturnsInHanded {} Try.checked os 9 .any (Rows.driveFreesSpec.pre6 enc Try.prog Try.f9 Rows.driveFreesRow.domain false) (Rows.driveFreesSpec.post enc Try.prog Try.f9 false true false false) := by
  refine returnsInHanded_of_change (C := Try.checked) own started (by kernel_rfl) Try.func9
    (ChangeSpec.witness6 (enc := enc) (C := Try.checked) false ⟨#[], #[.agg #[.int .i64 0, .int .i64 0, .slice none 0 0], .agg #[.int .i64 0, .int .i64 0, .int .i64 0, .int .i64 0], .agg #[.int .i64 0, .int .i64 0]], []⟩ 8 (by kernel_rfl) (by kernel_rfl) (by kernel_rfl) (by kernel_rfl)) ?_
  intro W base args ds gs before hval0 hW hcnd _
  have hval : ∀ (j : Nat) t v, Try.f9.params[j]? = some t → args[j]? = some v → Value.okWide Try.prog W .any base t v := hval0
  have hW' := hW
  obtain ⟨p, q, hA0, hV, rfl, hfz, hnd⟩ := hW
  have hA : DataW.TrodAll enc Try.prog W 0 (fun _ => true) true Try.f9.params.toList args.toList ds p := hA0
  rw [Try.params9] at hA hval
  obtain ⟨v0, vs0, d0, ds0, p0, q0, hargs, rfl, rfl, h0, r0⟩ := trodAll_cons hA
  obtain ⟨v1, vs1, d1, ds1, p1, q1, rfl, rfl, rfl, h1, r1⟩ := trodAll_cons r0
  obtain ⟨v2, vs2, d2, ds2, p2, q2, rfl, rfl, rfl, h2, r2⟩ := trodAll_cons r1
  obtain ⟨rfl, rfl, rfl⟩ := trodAll_nil r2
  obtain rfl : args = #[v0, v1, v2] := by cases args; simp_all
  obtain ⟨rfl, rfl⟩ := trodVars_none hV
  obtain ⟨c0, rfl, o0_0⟩ := open_agg (ts := [3, 3, 53]) Try.underlying55 (by kernel_rfl) (hval 0 55 v0 rfl rfl) h0
  obtain ⟨v0_0, c0_0, rfl, e0_0, o0_1⟩ := leafs_cons o0_0
  obtain ⟨p_W, rfl, w_p_W⟩ := leaf_int (k := .i64) (by kernel_rfl) (e0_0)
  have w_p_W : -9223372036854775808 ≤ p_W ∧ p_W ≤ 9223372036854775807 := w_p_W
  obtain ⟨v0_1, c0_1, rfl, e0_1, o0_2⟩ := leafs_cons o0_1
  obtain ⟨p_H, rfl, w_p_H⟩ := leaf_int (k := .i64) (by kernel_rfl) (e0_1)
  have w_p_H : -9223372036854775808 ≤ p_H ∧ p_H ≤ 9223372036854775807 := w_p_H
  obtain ⟨v0_2, c0_2, rfl, e0_2, o0_3⟩ := leafs_cons o0_2
  obtain ⟨p_CellsL, f_p_Cells, one_p_Cells, rel_p_Cells, blk_p_Cells⟩ := leaf_row (E := eU8) (e := 5) (by kernel_rfl) (by kernel_rfl) (by kernel_rfl) (by decide) (fun _ => rfl) (e0_2)
  obtain rfl := leafs_nil o0_3
  obtain ⟨c1, rfl, o1_0⟩ := open_aggA (ts := [3, 3, 3, 3]) Try.underlying61 (by kernel_rfl) (hval 1 61 v1 rfl rfl) h1
  obtain ⟨v1_0, c1_0, rfl, e1_0, o1_1⟩ := leafs_cons o1_0
  obtain ⟨l_0_X, rfl, w_l_0_X⟩ := leaf_int (k := .i64) (by kernel_rfl) (e1_0)
  have w_l_0_X : -9223372036854775808 ≤ l_0_X ∧ l_0_X ≤ 9223372036854775807 := w_l_0_X
  obtain ⟨v1_1, c1_1, rfl, e1_1, o1_2⟩ := leafs_cons o1_1
  obtain ⟨l_0_Y, rfl, w_l_0_Y⟩ := leaf_int (k := .i64) (by kernel_rfl) (e1_1)
  have w_l_0_Y : -9223372036854775808 ≤ l_0_Y ∧ l_0_Y ≤ 9223372036854775807 := w_l_0_Y
  obtain ⟨v1_2, c1_2, rfl, e1_2, o1_3⟩ := leafs_cons o1_2
  obtain ⟨l_1_X, rfl, w_l_1_X⟩ := leaf_int (k := .i64) (by kernel_rfl) (e1_2)
  have w_l_1_X : -9223372036854775808 ≤ l_1_X ∧ l_1_X ≤ 9223372036854775807 := w_l_1_X
  obtain ⟨v1_3, c1_3, rfl, e1_3, o1_4⟩ := leafs_cons o1_3
  obtain ⟨l_1_Y, rfl, w_l_1_Y⟩ := leaf_int (k := .i64) (by kernel_rfl) (e1_3)
  have w_l_1_Y : -9223372036854775808 ≤ l_1_Y ∧ l_1_Y ≤ 9223372036854775807 := w_l_1_Y
  obtain rfl := leafs_nil o1_4
  obtain ⟨c2, rfl, o2_0⟩ := open_agg (ts := [3, 3]) Try.underlying62 (by kernel_rfl) (hval 2 62 v2 rfl rfl) h2
  obtain ⟨v2_0, c2_0, rfl, e2_0, o2_1⟩ := leafs_cons o2_0
  obtain ⟨c_X, rfl, w_c_X⟩ := leaf_int (k := .i64) (by kernel_rfl) (e2_0)
  have w_c_X : -9223372036854775808 ≤ c_X ∧ c_X ≤ 9223372036854775807 := w_c_X
  obtain ⟨v2_1, c2_1, rfl, e2_1, o2_2⟩ := leafs_cons o2_1
  obtain ⟨c_Y, rfl, w_c_Y⟩ := leaf_int (k := .i64) (by kernel_rfl) (e2_1)
  have w_c_Y : -9223372036854775808 ≤ c_Y ∧ c_Y ≤ 9223372036854775807 := w_c_Y
  obtain rfl := leafs_nil o2_2
  have key := row_calls (n := 1) (l := [(0, .ro p_CellsL.length eU8.sz (rowF eU8 p_CellsL))]) (vs := [v0_2]) c9 (by kernel_rfl) (args := [.a [.v (.int .i64 p_W), .v (.int .i64 p_H), .n 0], .a [.v (.int .i64 l_0_X), .v (.int .i64 l_0_Y), .v (.int .i64 l_1_X), .v (.int .i64 l_1_Y)], .a [.v (.int .i64 c_X), .v (.int .i64 c_Y)]]) rfl (by simp only [sc1L, sc1, scL, SC.sc, scV, scEnt, scE, rowF_scT, upto, Nat.reduceLT, Nat.reduceAdd, and_self, and_true, true_and]) (by simp only [sc1L, sc1, scL, SC.sc, scV, scEnt, scE, rowF_scT, upto, Nat.reduceLT, Nat.reduceAdd, and_self, and_true, true_and]) (W := W) ⟨one_p_Cells, trivial⟩ ⟨⟨rfl, rel_p_Cells _, blk_p_Cells⟩, trivial⟩ ?_
  · refine key.mono fun e W' ⟨he, hb⟩ => ?_
    subst he
    exact ⟨_, rfl, post_true laidOut rfl uB (by kernel_rfl) rfl hW' rfl hb⟩
  · refine ⟨(isRow_rowF _).2 trivial, ?_⟩
    try rw [decL_rowF p_CellsL]
    exact f_p_Cells

theorem driveFrees : Rows.DriveFreesSaid :=
  OpenClaim.holds_of_wide 9 Try.f9 rfl rfl rfl rfl rfl rfl rfl ⟨rfl, rfl, rfl, rfl, rfl⟩ rfl rfl rfl rfl rfl (by kernel_rfl) Try.func9 (by kernel_rfl)
    (of_decide_eq_true (by kernel_rfl)) (by unfold Func.isWrapper; first | (rw [if_pos (by decide +kernel)]; kernel_rfl) | (rw [if_neg (by decide +kernel)]; exact ⟨rfl, rfl⟩))
    (fun os started H enc _ => driveFrees_lifted os started H enc)

set_option maxRecDepth 100000 in
theorem driveSteps_lifted (os : Os) (started : os.Started) (H : Type) (enc : TypeId × Value → H) :
    ReturnsInHanded {} Try.checked os 10 .any (Rows.driveStepsSpec.pre6 enc Try.prog Try.f10 Rows.driveStepsRow.domain false) (Rows.driveStepsSpec.post enc Try.prog Try.f10 false true false false) := by
  refine returnsInHanded_of_change (C := Try.checked) own started (by kernel_rfl) Try.func10
    (ChangeSpec.witness6 (enc := enc) (C := Try.checked) false ⟨#[], #[.agg #[.int .i64 0, .int .i64 0, .slice none 0 0], .agg #[.int .i64 0, .int .i64 0, .int .i64 0], .agg #[.int .i64 0, .int .i64 0, .int .i64 0, .int .i64 0, .int .i64 0, .int .i64 0]], []⟩ 8 (by kernel_rfl) (by kernel_rfl) (by kernel_rfl) (by kernel_rfl)) ?_
  intro W base args ds gs before hval0 hW hcnd _
  have hval : ∀ (j : Nat) t v, Try.f10.params[j]? = some t → args[j]? = some v → Value.okWide Try.prog W .any base t v := hval0
  have hW' := hW
  obtain ⟨p, q, hA0, hV, rfl, hfz, hnd⟩ := hW
  have hA : DataW.TrodAll enc Try.prog W 0 (fun _ => true) true Try.f10.params.toList args.toList ds p := hA0
  rw [Try.params10] at hA hval
  obtain ⟨v0, vs0, d0, ds0, p0, q0, hargs, rfl, rfl, h0, r0⟩ := trodAll_cons hA
  obtain ⟨v1, vs1, d1, ds1, p1, q1, rfl, rfl, rfl, h1, r1⟩ := trodAll_cons r0
  obtain ⟨v2, vs2, d2, ds2, p2, q2, rfl, rfl, rfl, h2, r2⟩ := trodAll_cons r1
  obtain ⟨rfl, rfl, rfl⟩ := trodAll_nil r2
  obtain rfl : args = #[v0, v1, v2] := by cases args; simp_all
  obtain ⟨rfl, rfl⟩ := trodVars_none hV
  obtain ⟨c0, rfl, o0_0⟩ := open_agg (ts := [3, 3, 53]) Try.underlying55 (by kernel_rfl) (hval 0 55 v0 rfl rfl) h0
  obtain ⟨v0_0, c0_0, rfl, e0_0, o0_1⟩ := leafs_cons o0_0
  obtain ⟨p_W, rfl, w_p_W⟩ := leaf_int (k := .i64) (by kernel_rfl) (e0_0)
  have w_p_W : -9223372036854775808 ≤ p_W ∧ p_W ≤ 9223372036854775807 := w_p_W
  obtain ⟨v0_1, c0_1, rfl, e0_1, o0_2⟩ := leafs_cons o0_1
  obtain ⟨p_H, rfl, w_p_H⟩ := leaf_int (k := .i64) (by kernel_rfl) (e0_1)
  have w_p_H : -9223372036854775808 ≤ p_H ∧ p_H ≤ 9223372036854775807 := w_p_H
  obtain ⟨v0_2, c0_2, rfl, e0_2, o0_3⟩ := leafs_cons o0_2
  obtain ⟨p_CellsL, f_p_Cells, one_p_Cells, rel_p_Cells, blk_p_Cells⟩ := leaf_row (E := eU8) (e := 5) (by kernel_rfl) (by kernel_rfl) (by kernel_rfl) (by decide) (fun _ => rfl) (e0_2)
  obtain rfl := leafs_nil o0_3
  obtain ⟨c1, rfl, o1_0⟩ := open_agg (ts := [3, 3, 3]) Try.underlying23 (by kernel_rfl) (hval 1 23 v1 rfl rfl) h1
  obtain ⟨v1_0, c1_0, rfl, e1_0, o1_1⟩ := leafs_cons o1_0
  obtain ⟨at_X, rfl, w_at_X⟩ := leaf_int (k := .i64) (by kernel_rfl) (e1_0)
  have w_at_X : -9223372036854775808 ≤ at_X ∧ at_X ≤ 9223372036854775807 := w_at_X
  obtain ⟨v1_1, c1_1, rfl, e1_1, o1_2⟩ := leafs_cons o1_1
  obtain ⟨at_Y, rfl, w_at_Y⟩ := leaf_int (k := .i64) (by kernel_rfl) (e1_1)
  have w_at_Y : -9223372036854775808 ≤ at_Y ∧ at_Y ≤ 9223372036854775807 := w_at_Y
  obtain ⟨v1_2, c1_2, rfl, e1_2, o1_3⟩ := leafs_cons o1_2
  obtain ⟨at_H, rfl, w_at_H⟩ := leaf_int (k := .i64) (by kernel_rfl) (e1_2)
  have w_at_H : -9223372036854775808 ≤ at_H ∧ at_H ≤ 9223372036854775807 := w_at_H
  obtain rfl := leafs_nil o1_3
  obtain ⟨c2, rfl, o2_0⟩ := open_agg (ts := [3, 3, 3, 3, 3, 3]) Try.underlying29 (by kernel_rfl) (hval 2 29 v2 rfl rfl) h2
  obtain ⟨v2_0, c2_0, rfl, e2_0, o2_1⟩ := leafs_cons o2_0
  obtain ⟨g_C_Turn, rfl, w_g_C_Turn⟩ := leaf_int (k := .i64) (by kernel_rfl) (e2_0)
  have w_g_C_Turn : -9223372036854775808 ≤ g_C_Turn ∧ g_C_Turn ≤ 9223372036854775807 := w_g_C_Turn
  obtain ⟨v2_1, c2_1, rfl, e2_1, o2_2⟩ := leafs_cons o2_1
  obtain ⟨g_C_Forward, rfl, w_g_C_Forward⟩ := leaf_int (k := .i64) (by kernel_rfl) (e2_1)
  have w_g_C_Forward : -9223372036854775808 ≤ g_C_Forward ∧ g_C_Forward ≤ 9223372036854775807 := w_g_C_Forward
  obtain ⟨v2_2, c2_2, rfl, e2_2, o2_3⟩ := leafs_cons o2_2
  obtain ⟨g_E_Turn, rfl, w_g_E_Turn⟩ := leaf_int (k := .i64) (by kernel_rfl) (e2_2)
  have w_g_E_Turn : -9223372036854775808 ≤ g_E_Turn ∧ g_E_Turn ≤ 9223372036854775807 := w_g_E_Turn
  obtain ⟨v2_3, c2_3, rfl, e2_3, o2_4⟩ := leafs_cons o2_3
  obtain ⟨g_E_Length, rfl, w_g_E_Length⟩ := leaf_int (k := .i64) (by kernel_rfl) (e2_3)
  have w_g_E_Length : -9223372036854775808 ≤ g_E_Length ∧ g_E_Length ≤ 9223372036854775807 := w_g_E_Length
  obtain ⟨v2_4, c2_4, rfl, e2_4, o2_5⟩ := leafs_cons o2_4
  obtain ⟨g_E_X, rfl, w_g_E_X⟩ := leaf_int (k := .i64) (by kernel_rfl) (e2_4)
  have w_g_E_X : -9223372036854775808 ≤ g_E_X ∧ g_E_X ≤ 9223372036854775807 := w_g_E_X
  obtain ⟨v2_5, c2_5, rfl, e2_5, o2_6⟩ := leafs_cons o2_5
  obtain ⟨g_E_Y, rfl, w_g_E_Y⟩ := leaf_int (k := .i64) (by kernel_rfl) (e2_5)
  have w_g_E_Y : -9223372036854775808 ≤ g_E_Y ∧ g_E_Y ≤ 9223372036854775807 := w_g_E_Y
  obtain rfl := leafs_nil o2_6
  have key := row_calls (n := 1) (l := [(0, .ro p_CellsL.length eU8.sz (rowF eU8 p_CellsL))]) (vs := [v0_2]) c10 (by kernel_rfl) (args := [.a [.v (.int .i64 p_W), .v (.int .i64 p_H), .n 0], .a [.v (.int .i64 at_X), .v (.int .i64 at_Y), .v (.int .i64 at_H)], .a [.v (.int .i64 g_C_Turn), .v (.int .i64 g_C_Forward), .v (.int .i64 g_E_Turn), .v (.int .i64 g_E_Length), .v (.int .i64 g_E_X), .v (.int .i64 g_E_Y)]]) rfl (by simp only [sc1L, sc1, scL, SC.sc, scV, scEnt, scE, rowF_scT, upto, Nat.reduceLT, Nat.reduceAdd, and_self, and_true, true_and]) (by simp only [sc1L, sc1, scL, SC.sc, scV, scEnt, scE, rowF_scT, upto, Nat.reduceLT, Nat.reduceAdd, and_self, and_true, true_and]) (W := W) ⟨one_p_Cells, trivial⟩ ⟨⟨rfl, rel_p_Cells _, blk_p_Cells⟩, trivial⟩ ?_
  · refine key.mono fun e W' ⟨he, hb⟩ => ?_
    subst he
    exact ⟨_, rfl, post_true laidOut rfl uB (by kernel_rfl) rfl hW' rfl hb⟩
  · refine ⟨(isRow_rowF _).2 trivial, ?_⟩
    try rw [decL_rowF p_CellsL]
    exact f_p_Cells

theorem driveSteps : Rows.DriveStepsSaid :=
  OpenClaim.holds_of_wide 10 Try.f10 rfl rfl rfl rfl rfl rfl rfl ⟨rfl, rfl, rfl, rfl, rfl⟩ rfl rfl rfl rfl rfl (by kernel_rfl) Try.func10 (by kernel_rfl)
    (of_decide_eq_true (by kernel_rfl)) (by unfold Func.isWrapper; first | (rw [if_pos (by decide +kernel)]; kernel_rfl) | (rw [if_neg (by decide +kernel)]; exact ⟨rfl, rfl⟩))
    (fun os started H enc _ => driveSteps_lifted os started H enc)

set_option maxRecDepth 100000 in
theorem driveKeeps_lifted (os : Os) (started : os.Started) (H : Type) (enc : TypeId × Value → H) :
    ReturnsInHanded {} Try.checked os 11 .any (Rows.driveKeepsSpec.pre6 enc Try.prog Try.f11 Rows.driveKeepsRow.domain false) (Rows.driveKeepsSpec.post enc Try.prog Try.f11 false true false false) := by
  refine returnsInHanded_of_change (C := Try.checked) own started (by kernel_rfl) Try.func11
    (ChangeSpec.witness6 (enc := enc) (C := Try.checked) false ⟨#[], #[.agg #[.int .i64 0, .int .i64 0, .slice none 0 0], .agg #[.int .i64 0, .int .i64 0, .int .i64 0], .agg #[.int .i64 0, .int .i64 0, .int .i64 0, .int .i64 0, .int .i64 0, .int .i64 0]], []⟩ 8 (by kernel_rfl) (by kernel_rfl) (by kernel_rfl) (by kernel_rfl)) ?_
  intro W base args ds gs before hval0 hW hcnd _
  have hval : ∀ (j : Nat) t v, Try.f11.params[j]? = some t → args[j]? = some v → Value.okWide Try.prog W .any base t v := hval0
  have hW' := hW
  obtain ⟨p, q, hA0, hV, rfl, hfz, hnd⟩ := hW
  have hA : DataW.TrodAll enc Try.prog W 0 (fun _ => true) true Try.f11.params.toList args.toList ds p := hA0
  rw [Try.params11] at hA hval
  obtain ⟨v0, vs0, d0, ds0, p0, q0, hargs, rfl, rfl, h0, r0⟩ := trodAll_cons hA
  obtain ⟨v1, vs1, d1, ds1, p1, q1, rfl, rfl, rfl, h1, r1⟩ := trodAll_cons r0
  obtain ⟨v2, vs2, d2, ds2, p2, q2, rfl, rfl, rfl, h2, r2⟩ := trodAll_cons r1
  obtain ⟨rfl, rfl, rfl⟩ := trodAll_nil r2
  obtain rfl : args = #[v0, v1, v2] := by cases args; simp_all
  obtain ⟨rfl, rfl⟩ := trodVars_none hV
  obtain ⟨c0, rfl, o0_0⟩ := open_agg (ts := [3, 3, 53]) Try.underlying55 (by kernel_rfl) (hval 0 55 v0 rfl rfl) h0
  obtain ⟨v0_0, c0_0, rfl, e0_0, o0_1⟩ := leafs_cons o0_0
  obtain ⟨p_W, rfl, w_p_W⟩ := leaf_int (k := .i64) (by kernel_rfl) (e0_0)
  have w_p_W : -9223372036854775808 ≤ p_W ∧ p_W ≤ 9223372036854775807 := w_p_W
  obtain ⟨v0_1, c0_1, rfl, e0_1, o0_2⟩ := leafs_cons o0_1
  obtain ⟨p_H, rfl, w_p_H⟩ := leaf_int (k := .i64) (by kernel_rfl) (e0_1)
  have w_p_H : -9223372036854775808 ≤ p_H ∧ p_H ≤ 9223372036854775807 := w_p_H
  obtain ⟨v0_2, c0_2, rfl, e0_2, o0_3⟩ := leafs_cons o0_2
  obtain ⟨p_CellsL, f_p_Cells, one_p_Cells, rel_p_Cells, blk_p_Cells⟩ := leaf_row (E := eU8) (e := 5) (by kernel_rfl) (by kernel_rfl) (by kernel_rfl) (by decide) (fun _ => rfl) (e0_2)
  obtain rfl := leafs_nil o0_3
  obtain ⟨c1, rfl, o1_0⟩ := open_agg (ts := [3, 3, 3]) Try.underlying23 (by kernel_rfl) (hval 1 23 v1 rfl rfl) h1
  obtain ⟨v1_0, c1_0, rfl, e1_0, o1_1⟩ := leafs_cons o1_0
  obtain ⟨at_X, rfl, w_at_X⟩ := leaf_int (k := .i64) (by kernel_rfl) (e1_0)
  have w_at_X : -9223372036854775808 ≤ at_X ∧ at_X ≤ 9223372036854775807 := w_at_X
  obtain ⟨v1_1, c1_1, rfl, e1_1, o1_2⟩ := leafs_cons o1_1
  obtain ⟨at_Y, rfl, w_at_Y⟩ := leaf_int (k := .i64) (by kernel_rfl) (e1_1)
  have w_at_Y : -9223372036854775808 ≤ at_Y ∧ at_Y ≤ 9223372036854775807 := w_at_Y
  obtain ⟨v1_2, c1_2, rfl, e1_2, o1_3⟩ := leafs_cons o1_2
  obtain ⟨at_H, rfl, w_at_H⟩ := leaf_int (k := .i64) (by kernel_rfl) (e1_2)
  have w_at_H : -9223372036854775808 ≤ at_H ∧ at_H ≤ 9223372036854775807 := w_at_H
  obtain rfl := leafs_nil o1_3
  obtain ⟨c2, rfl, o2_0⟩ := open_agg (ts := [3, 3, 3, 3, 3, 3]) Try.underlying29 (by kernel_rfl) (hval 2 29 v2 rfl rfl) h2
  obtain ⟨v2_0, c2_0, rfl, e2_0, o2_1⟩ := leafs_cons o2_0
  obtain ⟨g_C_Turn, rfl, w_g_C_Turn⟩ := leaf_int (k := .i64) (by kernel_rfl) (e2_0)
  have w_g_C_Turn : -9223372036854775808 ≤ g_C_Turn ∧ g_C_Turn ≤ 9223372036854775807 := w_g_C_Turn
  obtain ⟨v2_1, c2_1, rfl, e2_1, o2_2⟩ := leafs_cons o2_1
  obtain ⟨g_C_Forward, rfl, w_g_C_Forward⟩ := leaf_int (k := .i64) (by kernel_rfl) (e2_1)
  have w_g_C_Forward : -9223372036854775808 ≤ g_C_Forward ∧ g_C_Forward ≤ 9223372036854775807 := w_g_C_Forward
  obtain ⟨v2_2, c2_2, rfl, e2_2, o2_3⟩ := leafs_cons o2_2
  obtain ⟨g_E_Turn, rfl, w_g_E_Turn⟩ := leaf_int (k := .i64) (by kernel_rfl) (e2_2)
  have w_g_E_Turn : -9223372036854775808 ≤ g_E_Turn ∧ g_E_Turn ≤ 9223372036854775807 := w_g_E_Turn
  obtain ⟨v2_3, c2_3, rfl, e2_3, o2_4⟩ := leafs_cons o2_3
  obtain ⟨g_E_Length, rfl, w_g_E_Length⟩ := leaf_int (k := .i64) (by kernel_rfl) (e2_3)
  have w_g_E_Length : -9223372036854775808 ≤ g_E_Length ∧ g_E_Length ≤ 9223372036854775807 := w_g_E_Length
  obtain ⟨v2_4, c2_4, rfl, e2_4, o2_5⟩ := leafs_cons o2_4
  obtain ⟨g_E_X, rfl, w_g_E_X⟩ := leaf_int (k := .i64) (by kernel_rfl) (e2_4)
  have w_g_E_X : -9223372036854775808 ≤ g_E_X ∧ g_E_X ≤ 9223372036854775807 := w_g_E_X
  obtain ⟨v2_5, c2_5, rfl, e2_5, o2_6⟩ := leafs_cons o2_5
  obtain ⟨g_E_Y, rfl, w_g_E_Y⟩ := leaf_int (k := .i64) (by kernel_rfl) (e2_5)
  have w_g_E_Y : -9223372036854775808 ≤ g_E_Y ∧ g_E_Y ≤ 9223372036854775807 := w_g_E_Y
  obtain rfl := leafs_nil o2_6
  have key := row_calls (n := 1) (l := [(0, .ro p_CellsL.length eU8.sz (rowF eU8 p_CellsL))]) (vs := [v0_2]) c11 (by kernel_rfl) (args := [.a [.v (.int .i64 p_W), .v (.int .i64 p_H), .n 0], .a [.v (.int .i64 at_X), .v (.int .i64 at_Y), .v (.int .i64 at_H)], .a [.v (.int .i64 g_C_Turn), .v (.int .i64 g_C_Forward), .v (.int .i64 g_E_Turn), .v (.int .i64 g_E_Length), .v (.int .i64 g_E_X), .v (.int .i64 g_E_Y)]]) rfl (by simp only [sc1L, sc1, scL, SC.sc, scV, scEnt, scE, rowF_scT, upto, Nat.reduceLT, Nat.reduceAdd, and_self, and_true, true_and]) (by simp only [sc1L, sc1, scL, SC.sc, scV, scEnt, scE, rowF_scT, upto, Nat.reduceLT, Nat.reduceAdd, and_self, and_true, true_and]) (W := W) ⟨one_p_Cells, trivial⟩ ⟨⟨rfl, rel_p_Cells _, blk_p_Cells⟩, trivial⟩ ?_
  · refine key.mono fun e W' ⟨he, hb⟩ => ?_
    subst he
    exact ⟨_, rfl, post_true laidOut rfl uB (by kernel_rfl) rfl hW' rfl hb⟩
  · refine ⟨(isRow_rowF _).2 trivial, ?_⟩
    try rw [decL_rowF p_CellsL]
    exact f_p_Cells

theorem driveKeeps : Rows.DriveKeepsSaid :=
  OpenClaim.holds_of_wide 11 Try.f11 rfl rfl rfl rfl rfl rfl rfl ⟨rfl, rfl, rfl, rfl, rfl⟩ rfl rfl rfl rfl rfl (by kernel_rfl) Try.func11 (by kernel_rfl)
    (of_decide_eq_true (by kernel_rfl)) (by unfold Func.isWrapper; first | (rw [if_pos (by decide +kernel)]; kernel_rfl) | (rw [if_neg (by decide +kernel)]; exact ⟨rfl, rfl⟩))
    (fun os started H enc _ => driveKeeps_lifted os started H enc)
end Go.Proofs.Ytjcpefnbongmaaa
