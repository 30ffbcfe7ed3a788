/- 'wayfinderlaw08.PlanPuts', 'wayfinderlaw08.PlanMerges' and 'wayfinderlaw08.PlanLeast' return true whatever the input, and the arguments read as before. No conditions. -/
import Derived.Test.YtbjgaejmkhjbaaaQ6
import Derived.Test.YtbjgaejmkhjbaaaSz3
set_option linter.unusedVariables false
set_option linter.unusedSimpArgs false
namespace Go.Proofs.Ytbjgaejmkhjbaaa
open Go.Sx Go.ChangeShapes Go.WideShapes Go.ChangeAt Go.RowKit
theorem own : ownKnob Try.prog.godebug = none := by kernel_rfl
theorem laidOut : laidOutB Try.prog = true := by kernel_rfl
theorem uB : Try.prog.underlying 4 = some .bool := by kernel_rfl

set_option maxRecDepth 100000 in
theorem planPuts_lifted (os : Os) (started : os.Started) (H : Type) (enc : TypeId × Value → H) :
    ReturnsInHanded {} Try.checked os 7 .any (Rows.planPutsSpec.pre6 enc Try.prog Try.f7 Rows.planPutsRow.domain false) (Rows.planPutsSpec.post enc Try.prog Try.f7 false true false false) := by
  refine returnsInHanded_of_change (C := Try.checked) own started (by kernel_rfl) Try.func7
    (ChangeSpec.witness6 (enc := enc) (C := Try.checked) false ⟨#[], #[.agg #[.int .i64 0, .int .i64 0, .slice none 0 0], .agg #[.int .i64 0, .int .i64 0, .int .i64 0, .int .i64 0], .int .u8 0], []⟩ 8 (by kernel_rfl) (by kernel_rfl) (by kernel_rfl) (by kernel_rfl)) ?_
  intro W base args ds gs before hval0 hW hcnd _
  have hval : ∀ (j : Nat) t v, Try.f7.params[j]? = some t → args[j]? = some v → Value.okWide Try.prog W .any base t v := hval0
  have hW' := hW
  obtain ⟨p, q, hA0, hV, rfl, hfz, hnd⟩ := hW
  have hA : DataW.TrodAll enc Try.prog W 0 (fun _ => true) true Try.f7.params.toList args.toList ds p := hA0
  rw [Try.params7] at hA hval
  obtain ⟨v0, vs0, d0, ds0, p0, q0, hargs, rfl, rfl, h0, r0⟩ := trodAll_cons hA
  obtain ⟨v1, vs1, d1, ds1, p1, q1, rfl, rfl, rfl, h1, r1⟩ := trodAll_cons r0
  obtain ⟨v2, vs2, d2, ds2, p2, q2, rfl, rfl, rfl, h2, r2⟩ := trodAll_cons r1
  obtain ⟨rfl, rfl, rfl⟩ := trodAll_nil r2
  obtain rfl : args = #[v0, v1, v2] := by cases args; simp_all
  obtain ⟨rfl, rfl⟩ := trodVars_none hV
  obtain ⟨c0, rfl, o0_0⟩ := open_agg (ts := [3, 3, 44]) Try.underlying46 (by kernel_rfl) (hval 0 46 v0 rfl rfl) h0
  obtain ⟨v0_0, c0_0, rfl, e0_0, o0_1⟩ := leafs_cons o0_0
  obtain ⟨p_W, rfl, w_p_W⟩ := leaf_int (k := .i64) (by kernel_rfl) (e0_0)
  have w_p_W : -9223372036854775808 ≤ p_W ∧ p_W ≤ 9223372036854775807 := w_p_W
  obtain ⟨v0_1, c0_1, rfl, e0_1, o0_2⟩ := leafs_cons o0_1
  obtain ⟨p_H, rfl, w_p_H⟩ := leaf_int (k := .i64) (by kernel_rfl) (e0_1)
  have w_p_H : -9223372036854775808 ≤ p_H ∧ p_H ≤ 9223372036854775807 := w_p_H
  obtain ⟨v0_2, c0_2, rfl, e0_2, o0_3⟩ := leafs_cons o0_2
  obtain ⟨p_CellsL, f_p_Cells, one_p_Cells, rel_p_Cells, blk_p_Cells⟩ := leaf_row (E := eU8) (e := 5) (by kernel_rfl) (by kernel_rfl) (by kernel_rfl) (by decide) (fun _ => rfl) (e0_2)
  obtain rfl := leafs_nil o0_3
  obtain ⟨c1, rfl, o1_0⟩ := open_aggA (ts := [3, 3, 3, 3]) Try.underlying48 (by kernel_rfl) (hval 1 48 v1 rfl rfl) h1
  obtain ⟨v1_0, c1_0, rfl, e1_0, o1_1⟩ := leafs_cons o1_0
  obtain ⟨l_0_X, rfl, w_l_0_X⟩ := leaf_int (k := .i64) (by kernel_rfl) (e1_0)
  have w_l_0_X : -9223372036854775808 ≤ l_0_X ∧ l_0_X ≤ 9223372036854775807 := w_l_0_X
  obtain ⟨v1_1, c1_1, rfl, e1_1, o1_2⟩ := leafs_cons o1_1
  obtain ⟨l_0_Y, rfl, w_l_0_Y⟩ := leaf_int (k := .i64) (by kernel_rfl) (e1_1)
  have w_l_0_Y : -9223372036854775808 ≤ l_0_Y ∧ l_0_Y ≤ 9223372036854775807 := w_l_0_Y
  obtain ⟨v1_2, c1_2, rfl, e1_2, o1_3⟩ := leafs_cons o1_2
  obtain ⟨l_1_X, rfl, w_l_1_X⟩ := leaf_int (k := .i64) (by kernel_rfl) (e1_2)
  have w_l_1_X : -9223372036854775808 ≤ l_1_X ∧ l_1_X ≤ 9223372036854775807 := w_l_1_X
  obtain ⟨v1_3, c1_3, rfl, e1_3, o1_4⟩ := leafs_cons o1_3
  obtain ⟨l_1_Y, rfl, w_l_1_Y⟩ := leaf_int (k := .i64) (by kernel_rfl) (e1_3)
  have w_l_1_Y : -9223372036854775808 ≤ l_1_Y ∧ l_1_Y ≤ 9223372036854775807 := w_l_1_Y
  obtain rfl := leafs_nil o1_4
  obtain ⟨value, rfl, w_value⟩ := leaf_int (k := .u8) (by kernel_rfl) (open_one (by kernel_rfl) (hval 2 5 v2 rfl rfl) h2)
  have w_value : 0 ≤ value ∧ value ≤ 255 := w_value
  have key := row_calls (n := 1) (l := [(0, .ro p_CellsL.length eU8.sz (rowF eU8 p_CellsL))]) (vs := [v0_2]) c7 (by kernel_rfl) (args := [.a [.v (.int .i64 p_W), .v (.int .i64 p_H), .n 0], .a [.v (.int .i64 l_0_X), .v (.int .i64 l_0_Y), .v (.int .i64 l_1_X), .v (.int .i64 l_1_Y)], .c (.v (.int .u8 value))]) rfl (by simp only [sc1L, sc1, scL, SC.sc, scV, scEnt, scE, rowF_scT, upto, Nat.reduceLT, Nat.reduceAdd, and_self, and_true, true_and]) (by simp only [sc1L, sc1, scL, SC.sc, scV, scEnt, scE, rowF_scT, upto, Nat.reduceLT, Nat.reduceAdd, and_self, and_true, true_and]) (W := W) ⟨one_p_Cells, trivial⟩ ⟨⟨rfl, rel_p_Cells _, blk_p_Cells⟩, trivial⟩ ?_
  · refine key.mono fun e W' ⟨he, hb⟩ => ?_
    subst he
    exact ⟨_, rfl, post_true laidOut rfl uB (by kernel_rfl) rfl hW' rfl hb⟩
  · refine ⟨(isRow_rowF _).2 trivial, ?_⟩
    try rw [decL_rowF p_CellsL]
    exact ⟨fun x hx => f_p_Cells x hx, w_value⟩

theorem planPuts : Rows.PlanPutsSaid :=
  OpenClaim.holds_of_wide 7 Try.f7 rfl rfl rfl rfl rfl rfl rfl ⟨rfl, rfl, rfl, rfl, rfl⟩ rfl rfl rfl rfl rfl (by kernel_rfl) Try.func7 (by kernel_rfl)
    (of_decide_eq_true (by kernel_rfl)) (by unfold Func.isWrapper; first | (rw [if_pos (by decide +kernel)]; kernel_rfl) | (rw [if_neg (by decide +kernel)]; exact ⟨rfl, rfl⟩))
    (fun os started H enc _ => planPuts_lifted os started H enc)

set_option maxRecDepth 100000 in
theorem planMerges_lifted (os : Os) (started : os.Started) (H : Type) (enc : TypeId × Value → H) :
    ReturnsInHanded {} Try.checked os 8 .any (Rows.planMergesSpec.pre6 enc Try.prog Try.f8 Rows.planMergesRow.domain false) (Rows.planMergesSpec.post enc Try.prog Try.f8 false true false false) := by
  refine returnsInHanded_of_change (C := Try.checked) own started (by kernel_rfl) Try.func8
    (ChangeSpec.witness6 (enc := enc) (C := Try.checked) false ⟨#[], #[.agg #[.int .i64 0, .int .i64 0, .slice none 0 0], .agg #[.int .i64 0, .int .i64 0, .slice none 0 0]], []⟩ 8 (by kernel_rfl) (by kernel_rfl) (by kernel_rfl) (by kernel_rfl)) ?_
  intro W base args ds gs before hval0 hW hcnd _
  have hval : ∀ (j : Nat) t v, Try.f8.params[j]? = some t → args[j]? = some v → Value.okWide Try.prog W .any base t v := hval0
  have hW' := hW
  obtain ⟨p, q, hA0, hV, rfl, hfz, hnd⟩ := hW
  have hA : DataW.TrodAll enc Try.prog W 0 (fun _ => true) true Try.f8.params.toList args.toList ds p := hA0
  rw [Try.params8] at hA hval
  obtain ⟨v0, vs0, d0, ds0, p0, q0, hargs, rfl, rfl, h0, r0⟩ := trodAll_cons hA
  obtain ⟨v1, vs1, d1, ds1, p1, q1, rfl, rfl, rfl, h1, r1⟩ := trodAll_cons r0
  obtain ⟨rfl, rfl, rfl⟩ := trodAll_nil r1
  obtain rfl : args = #[v0, v1] := by cases args; simp_all
  obtain ⟨rfl, rfl⟩ := trodVars_none hV
  obtain ⟨c0, rfl, o0_0⟩ := open_agg (ts := [3, 3, 44]) Try.underlying46 (by kernel_rfl) (hval 0 46 v0 rfl rfl) h0
  obtain ⟨v0_0, c0_0, rfl, e0_0, o0_1⟩ := leafs_cons o0_0
  obtain ⟨a_W, rfl, w_a_W⟩ := leaf_int (k := .i64) (by kernel_rfl) (e0_0)
  have w_a_W : -9223372036854775808 ≤ a_W ∧ a_W ≤ 9223372036854775807 := w_a_W
  obtain ⟨v0_1, c0_1, rfl, e0_1, o0_2⟩ := leafs_cons o0_1
  obtain ⟨a_H, rfl, w_a_H⟩ := leaf_int (k := .i64) (by kernel_rfl) (e0_1)
  have w_a_H : -9223372036854775808 ≤ a_H ∧ a_H ≤ 9223372036854775807 := w_a_H
  obtain ⟨v0_2, c0_2, rfl, e0_2, o0_3⟩ := leafs_cons o0_2
  obtain ⟨a_CellsL, f_a_Cells, one_a_Cells, rel_a_Cells, blk_a_Cells⟩ := leaf_row (E := eU8) (e := 5) (by kernel_rfl) (by kernel_rfl) (by kernel_rfl) (by decide) (fun _ => rfl) (e0_2)
  obtain rfl := leafs_nil o0_3
  obtain ⟨c1, rfl, o1_0⟩ := open_agg (ts := [3, 3, 44]) Try.underlying46 (by kernel_rfl) (hval 1 46 v1 rfl rfl) h1
  obtain ⟨v1_0, c1_0, rfl, e1_0, o1_1⟩ := leafs_cons o1_0
  obtain ⟨b_W, rfl, w_b_W⟩ := leaf_int (k := .i64) (by kernel_rfl) (e1_0)
  have w_b_W : -9223372036854775808 ≤ b_W ∧ b_W ≤ 9223372036854775807 := w_b_W
  obtain ⟨v1_1, c1_1, rfl, e1_1, o1_2⟩ := leafs_cons o1_1
  obtain ⟨b_H, rfl, w_b_H⟩ := leaf_int (k := .i64) (by kernel_rfl) (e1_1)
  have w_b_H : -9223372036854775808 ≤ b_H ∧ b_H ≤ 9223372036854775807 := w_b_H
  obtain ⟨v1_2, c1_2, rfl, e1_2, o1_3⟩ := leafs_cons o1_2
  obtain ⟨b_CellsL, f_b_Cells, one_b_Cells, rel_b_Cells, blk_b_Cells⟩ := leaf_row (E := eU8) (e := 5) (by kernel_rfl) (by kernel_rfl) (by kernel_rfl) (by decide) (fun _ => rfl) (e1_2)
  obtain rfl := leafs_nil o1_3
  have key := row_calls (n := 2) (l := [(0, .ro a_CellsL.length eU8.sz (rowF eU8 a_CellsL)), (1, .ro b_CellsL.length eU8.sz (rowF eU8 b_CellsL))]) (vs := [v0_2, v1_2]) c8 (by kernel_rfl) (args := [.a [.v (.int .i64 a_W), .v (.int .i64 a_H), .n 0], .a [.v (.int .i64 b_W), .v (.int .i64 b_H), .n 1]]) rfl (by simp only [sc1L, sc1, scL, SC.sc, scV, scEnt, scE, rowF_scT, upto, Nat.reduceLT, Nat.reduceAdd, and_self, and_true, true_and]) (by simp only [sc1L, sc1, scL, SC.sc, scV, scEnt, scE, rowF_scT, upto, Nat.reduceLT, Nat.reduceAdd, and_self, and_true, true_and]) (W := W) ⟨one_a_Cells, one_b_Cells, trivial⟩ ⟨⟨rfl, rel_a_Cells _, blk_a_Cells⟩, ⟨rfl, rel_b_Cells _, blk_b_Cells⟩, trivial⟩ ?_
  · refine key.mono fun e W' ⟨he, hb⟩ => ?_
    subst he
    exact ⟨_, rfl, post_true laidOut rfl uB (by kernel_rfl) rfl hW' rfl hb⟩
  · refine ⟨(isRow_rowF _).2 trivial, (isRow_rowF _).2 trivial, ?_⟩
    try rw [decL_rowF a_CellsL]
    try rw [decL_rowF b_CellsL]
    exact ⟨fun x hx => f_a_Cells x hx, fun x hx => f_b_Cells x hx⟩

theorem planMerges : Rows.PlanMergesSaid :=
  OpenClaim.holds_of_wide 8 Try.f8 rfl rfl rfl rfl rfl rfl rfl ⟨rfl, rfl, rfl, rfl, rfl⟩ rfl rfl rfl rfl rfl (by kernel_rfl) Try.func8 (by kernel_rfl)
    (of_decide_eq_true (by kernel_rfl)) (by unfold Func.isWrapper; first | (rw [if_pos (by decide +kernel)]; kernel_rfl) | (rw [if_neg (by decide +kernel)]; exact ⟨rfl, rfl⟩))
    (fun os started H enc _ => planMerges_lifted os started H enc)

set_option maxRecDepth 100000 in
theorem planLeast_lifted (os : Os) (started : os.Started) (H : Type) (enc : TypeId × Value → H) :
    ReturnsInHanded {} Try.checked os 9 .any (Rows.planLeastSpec.pre6 enc Try.prog Try.f9 Rows.planLeastRow.domain false) (Rows.planLeastSpec.post enc Try.prog Try.f9 false true false false) := by
  refine returnsInHanded_of_change (C := Try.checked) own started (by kernel_rfl) Try.func9
    (ChangeSpec.witness6 (enc := enc) (C := Try.checked) false ⟨#[], #[.agg #[.int .i64 0, .int .i64 0, .slice none 0 0], .agg #[.int .i64 0, .int .i64 0, .slice none 0 0], .agg #[.int .i64 0, .int .i64 0, .slice none 0 0]], []⟩ 8 (by kernel_rfl) (by kernel_rfl) (by kernel_rfl) (by kernel_rfl)) ?_
  intro W base args ds gs before hval0 hW hcnd _
  have hval : ∀ (j : Nat) t v, Try.f9.params[j]? = some t → args[j]? = some v → Value.okWide Try.prog W .any base t v := hval0
  have hW' := hW
  obtain ⟨p, q, hA0, hV, rfl, hfz, hnd⟩ := hW
  have hA : DataW.TrodAll enc Try.prog W 0 (fun _ => true) true Try.f9.params.toList args.toList ds p := hA0
  rw [Try.params9] at hA hval
  obtain ⟨v0, vs0, d0, ds0, p0, q0, hargs, rfl, rfl, h0, r0⟩ := trodAll_cons hA
  obtain ⟨v1, vs1, d1, ds1, p1, q1, rfl, rfl, rfl, h1, r1⟩ := trodAll_cons r0
  obtain ⟨v2, vs2, d2, ds2, p2, q2, rfl, rfl, rfl, h2, r2⟩ := trodAll_cons r1
  obtain ⟨rfl, rfl, rfl⟩ := trodAll_nil r2
  obtain rfl : args = #[v0, v1, v2] := by cases args; simp_all
  obtain ⟨rfl, rfl⟩ := trodVars_none hV
  obtain ⟨c0, rfl, o0_0⟩ := open_agg (ts := [3, 3, 44]) Try.underlying46 (by kernel_rfl) (hval 0 46 v0 rfl rfl) h0
  obtain ⟨v0_0, c0_0, rfl, e0_0, o0_1⟩ := leafs_cons o0_0
  obtain ⟨a_W, rfl, w_a_W⟩ := leaf_int (k := .i64) (by kernel_rfl) (e0_0)
  have w_a_W : -9223372036854775808 ≤ a_W ∧ a_W ≤ 9223372036854775807 := w_a_W
  obtain ⟨v0_1, c0_1, rfl, e0_1, o0_2⟩ := leafs_cons o0_1
  obtain ⟨a_H, rfl, w_a_H⟩ := leaf_int (k := .i64) (by kernel_rfl) (e0_1)
  have w_a_H : -9223372036854775808 ≤ a_H ∧ a_H ≤ 9223372036854775807 := w_a_H
  obtain ⟨v0_2, c0_2, rfl, e0_2, o0_3⟩ := leafs_cons o0_2
  obtain ⟨a_CellsL, f_a_Cells, one_a_Cells, rel_a_Cells, blk_a_Cells⟩ := leaf_row (E := eU8) (e := 5) (by kernel_rfl) (by kernel_rfl) (by kernel_rfl) (by decide) (fun _ => rfl) (e0_2)
  obtain rfl := leafs_nil o0_3
  obtain ⟨c1, rfl, o1_0⟩ := open_agg (ts := [3, 3, 44]) Try.underlying46 (by kernel_rfl) (hval 1 46 v1 rfl rfl) h1
  obtain ⟨v1_0, c1_0, rfl, e1_0, o1_1⟩ := leafs_cons o1_0
  obtain ⟨b_W, rfl, w_b_W⟩ := leaf_int (k := .i64) (by kernel_rfl) (e1_0)
  have w_b_W : -9223372036854775808 ≤ b_W ∧ b_W ≤ 9223372036854775807 := w_b_W
  obtain ⟨v1_1, c1_1, rfl, e1_1, o1_2⟩ := leafs_cons o1_1
  obtain ⟨b_H, rfl, w_b_H⟩ := leaf_int (k := .i64) (by kernel_rfl) (e1_1)
  have w_b_H : -9223372036854775808 ≤ b_H ∧ b_H ≤ 9223372036854775807 := w_b_H
  obtain ⟨v1_2, c1_2, rfl, e1_2, o1_3⟩ := leafs_cons o1_2
  obtain ⟨b_CellsL, f_b_Cells, one_b_Cells, rel_b_Cells, blk_b_Cells⟩ := leaf_row (E := eU8) (e := 5) (by kernel_rfl) (by kernel_rfl) (by kernel_rfl) (by decide) (fun _ => rfl) (e1_2)
  obtain rfl := leafs_nil o1_3
  obtain ⟨c2, rfl, o2_0⟩ := open_agg (ts := [3, 3, 44]) Try.underlying46 (by kernel_rfl) (hval 2 46 v2 rfl rfl) h2
  obtain ⟨v2_0, c2_0, rfl, e2_0, o2_1⟩ := leafs_cons o2_0
  obtain ⟨c_W, rfl, w_c_W⟩ := leaf_int (k := .i64) (by kernel_rfl) (e2_0)
  have w_c_W : -9223372036854775808 ≤ c_W ∧ c_W ≤ 9223372036854775807 := w_c_W
  obtain ⟨v2_1, c2_1, rfl, e2_1, o2_2⟩ := leafs_cons o2_1
  obtain ⟨c_H, rfl, w_c_H⟩ := leaf_int (k := .i64) (by kernel_rfl) (e2_1)
  have w_c_H : -9223372036854775808 ≤ c_H ∧ c_H ≤ 9223372036854775807 := w_c_H
  obtain ⟨v2_2, c2_2, rfl, e2_2, o2_3⟩ := leafs_cons o2_2
  obtain ⟨c_CellsL, f_c_Cells, one_c_Cells, rel_c_Cells, blk_c_Cells⟩ := leaf_row (E := eU8) (e := 5) (by kernel_rfl) (by kernel_rfl) (by kernel_rfl) (by decide) (fun _ => rfl) (e2_2)
  obtain rfl := leafs_nil o2_3
  have key := row_calls (n := 3) (l := [(0, .ro a_CellsL.length eU8.sz (rowF eU8 a_CellsL)), (1, .ro b_CellsL.length eU8.sz (rowF eU8 b_CellsL)), (2, .ro c_CellsL.length eU8.sz (rowF eU8 c_CellsL))]) (vs := [v0_2, v1_2, v2_2]) c9 (by kernel_rfl) (args := [.a [.v (.int .i64 a_W), .v (.int .i64 a_H), .n 0], .a [.v (.int .i64 b_W), .v (.int .i64 b_H), .n 1], .a [.v (.int .i64 c_W), .v (.int .i64 c_H), .n 2]]) rfl (by simp only [sc1L, sc1, scL, SC.sc, scV, scEnt, scE, rowF_scT, upto, Nat.reduceLT, Nat.reduceAdd, and_self, and_true, true_and]) (by simp only [sc1L, sc1, scL, SC.sc, scV, scEnt, scE, rowF_scT, upto, Nat.reduceLT, Nat.reduceAdd, and_self, and_true, true_and]) (W := W) ⟨one_a_Cells, one_b_Cells, one_c_Cells, trivial⟩ ⟨⟨rfl, rel_a_Cells _, blk_a_Cells⟩, ⟨rfl, rel_b_Cells _, blk_b_Cells⟩, ⟨rfl, rel_c_Cells _, blk_c_Cells⟩, trivial⟩ ?_
  · refine key.mono fun e W' ⟨he, hb⟩ => ?_
    subst he
    exact ⟨_, rfl, post_true laidOut rfl uB (by kernel_rfl) rfl hW' rfl hb⟩
  · refine ⟨(isRow_rowF _).2 trivial, (isRow_rowF _).2 trivial, (isRow_rowF _).2 trivial, ?_⟩
    try rw [decL_rowF a_CellsL]
    try rw [decL_rowF b_CellsL]
    try rw [decL_rowF c_CellsL]
    exact ⟨fun x hx => f_a_Cells x hx, fun x hx => f_b_Cells x hx, fun x hx => f_c_Cells x hx⟩

theorem planLeast : Rows.PlanLeastSaid :=
  OpenClaim.holds_of_wide 9 Try.f9 rfl rfl rfl rfl rfl rfl rfl ⟨rfl, rfl, rfl, rfl, rfl⟩ rfl rfl rfl rfl rfl (by kernel_rfl) Try.func9 (by kernel_rfl)
    (of_decide_eq_true (by kernel_rfl)) (by unfold Func.isWrapper; first | (rw [if_pos (by decide +kernel)]; kernel_rfl) | (rw [if_neg (by decide +kernel)]; exact ⟨rfl, rfl⟩))
    (fun os started H enc _ => planLeast_lifted os started H enc)
end Go.Proofs.Ytbjgaejmkhjbaaa
