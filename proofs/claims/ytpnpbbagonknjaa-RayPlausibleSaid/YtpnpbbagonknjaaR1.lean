/- 'wayfinderlaw10.RayMatchesReference', 'RayVectors', 'RayHits', 'RayMeasures', 'RayPlausible', 'RayBetween', 'RaySweeps' and 'RayAll' return true whatever the input, and the arguments read as before. No conditions. -/
import Derived.Test.YtpnpbbagonknjaaU4
import Derived.Test.YtpnpbbagonknjaaSz3
set_option linter.unusedVariables false
set_option linter.unusedSimpArgs false
namespace Go.Proofs.Ytpnpbbagonknjaa
open Go.Sx Go.ChangeShapes Go.WideShapes Go.ChangeAt Go.RowKit
theorem own : ownKnob Try.prog.godebug = none := by kernel_rfl
theorem laidOut : laidOutB Try.prog = true := by kernel_rfl
theorem uB : Try.prog.underlying 4 = some .bool := by kernel_rfl

set_option maxRecDepth 100000 in
theorem rayMatchesReference_lifted (os : Os) (started : os.Started) (H : Type) (enc : TypeId × Value → H) :
    ReturnsInHanded {} Try.checked os 3 .any (Rows.rayMatchesReferenceSpec.pre6 enc Try.prog Try.f3 Rows.rayMatchesReferenceRow.domain false) (Rows.rayMatchesReferenceSpec.post enc Try.prog Try.f3 false true false false) := by
  refine returnsInHanded_of_change (C := Try.checked) own started (by kernel_rfl) Try.func3
    (ChangeSpec.witness6 (enc := enc) (C := Try.checked) false ⟨#[], #[.agg #[.int .i64 0, .int .i64 0, .slice none 0 0], .agg #[.int .i64 0, .int .i64 0, .int .i64 0], .agg #[.int .i64 0, .int .i64 0]], []⟩ 8 (by kernel_rfl) (by kernel_rfl) (by kernel_rfl) (by kernel_rfl)) ?_
  intro W base args ds gs before hval0 hW hcnd _
  have hval : ∀ (j : Nat) t v, Try.f3.params[j]? = some t → args[j]? = some v → Value.okWide Try.prog W .any base t v := hval0
  have hW' := hW
  obtain ⟨p, q, hA0, hV, rfl, hfz, hnd⟩ := hW
  have hA : DataW.TrodAll enc Try.prog W 0 (fun _ => true) true Try.f3.params.toList args.toList ds p := hA0
  rw [Try.params3] at hA hval
  obtain ⟨v0, vs0, d0, ds0, p0, q0, hargs, rfl, rfl, h0, r0⟩ := trodAll_cons hA
  obtain ⟨v1, vs1, d1, ds1, p1, q1, rfl, rfl, rfl, h1, r1⟩ := trodAll_cons r0
  obtain ⟨v2, vs2, d2, ds2, p2, q2, rfl, rfl, rfl, h2, r2⟩ := trodAll_cons r1
  obtain ⟨rfl, rfl, rfl⟩ := trodAll_nil r2
  obtain rfl : args = #[v0, v1, v2] := by cases args; simp_all
  obtain ⟨rfl, rfl⟩ := trodVars_none hV
  obtain ⟨c0, rfl, o0_0⟩ := open_agg (ts := [3, 3, 22]) Try.underlying24 (by kernel_rfl) (hval 0 24 v0 rfl rfl) h0
  obtain ⟨v0_0, c0_0, rfl, e0_0, o0_1⟩ := leafs_cons o0_0
  obtain ⟨p_W, rfl, w_p_W⟩ := leaf_int (k := .i64) (by kernel_rfl) (e0_0)
  have w_p_W : -9223372036854775808 ≤ p_W ∧ p_W ≤ 9223372036854775807 := w_p_W
  obtain ⟨v0_1, c0_1, rfl, e0_1, o0_2⟩ := leafs_cons o0_1
  obtain ⟨p_H, rfl, w_p_H⟩ := leaf_int (k := .i64) (by kernel_rfl) (e0_1)
  have w_p_H : -9223372036854775808 ≤ p_H ∧ p_H ≤ 9223372036854775807 := w_p_H
  obtain ⟨v0_2, c0_2, rfl, e0_2, o0_3⟩ := leafs_cons o0_2
  obtain ⟨p_CellsL, f_p_Cells, one_p_Cells, rel_p_Cells, blk_p_Cells⟩ := leaf_row (E := eU8) (e := 5) (by kernel_rfl) (by kernel_rfl) (by kernel_rfl) (by decide) (fun _ => rfl) (e0_2)
  obtain rfl := leafs_nil o0_3
  obtain ⟨c1, rfl, o1_0⟩ := open_agg (ts := [3, 3, 3]) Try.underlying26 (by kernel_rfl) (hval 1 26 v1 rfl rfl) h1
  obtain ⟨v1_0, c1_0, rfl, e1_0, o1_1⟩ := leafs_cons o1_0
  obtain ⟨at_X, rfl, w_at_X⟩ := leaf_int (k := .i64) (by kernel_rfl) (e1_0)
  have w_at_X : -9223372036854775808 ≤ at_X ∧ at_X ≤ 9223372036854775807 := w_at_X
  obtain ⟨v1_1, c1_1, rfl, e1_1, o1_2⟩ := leafs_cons o1_1
  obtain ⟨at_Y, rfl, w_at_Y⟩ := leaf_int (k := .i64) (by kernel_rfl) (e1_1)
  have w_at_Y : -9223372036854775808 ≤ at_Y ∧ at_Y ≤ 9223372036854775807 := w_at_Y
  obtain ⟨v1_2, c1_2, rfl, e1_2, o1_3⟩ := leafs_cons o1_2
  obtain ⟨at_H, rfl, w_at_H⟩ := leaf_int (k := .i64) (by kernel_rfl) (e1_2)
  have w_at_H : -9223372036854775808 ≤ at_H ∧ at_H ≤ 9223372036854775807 := w_at_H
  obtain rfl := leafs_nil o1_3
  obtain ⟨c2, rfl, o2_0⟩ := open_agg (ts := [3, 3]) Try.underlying28 (by kernel_rfl) (hval 2 28 v2 rfl rfl) h2
  obtain ⟨v2_0, c2_0, rfl, e2_0, o2_1⟩ := leafs_cons o2_0
  obtain ⟨b_Mark, rfl, w_b_Mark⟩ := leaf_int (k := .i64) (by kernel_rfl) (e2_0)
  have w_b_Mark : -9223372036854775808 ≤ b_Mark ∧ b_Mark ≤ 9223372036854775807 := w_b_Mark
  obtain ⟨v2_1, c2_1, rfl, e2_1, o2_2⟩ := leafs_cons o2_1
  obtain ⟨b_Reading, rfl, w_b_Reading⟩ := leaf_int (k := .i64) (by kernel_rfl) (e2_1)
  have w_b_Reading : -9223372036854775808 ≤ b_Reading ∧ b_Reading ≤ 9223372036854775807 := w_b_Reading
  obtain rfl := leafs_nil o2_2
  have key := row_calls (n := 1) (l := [(0, .ro p_CellsL.length eU8.sz (rowF eU8 p_CellsL))]) (vs := [v0_2]) c3 (by kernel_rfl) (args := [.a [.v (.int .i64 p_W), .v (.int .i64 p_H), .n 0], .a [.v (.int .i64 at_X), .v (.int .i64 at_Y), .v (.int .i64 at_H)], .a [.v (.int .i64 b_Mark), .v (.int .i64 b_Reading)]]) rfl (by simp only [sc1L, sc1, scL, SC.sc, scV, scEnt, scE, rowF_scT, upto, Nat.reduceLT, Nat.reduceAdd, and_self, and_true, true_and]) (by simp only [sc1L, sc1, scL, SC.sc, scV, scEnt, scE, rowF_scT, upto, Nat.reduceLT, Nat.reduceAdd, and_self, and_true, true_and]) (W := W) ⟨one_p_Cells, trivial⟩ ⟨⟨rfl, rel_p_Cells _, blk_p_Cells⟩, trivial⟩ ?_
  · refine key.mono fun e W' ⟨he, hb⟩ => ?_
    subst he
    exact ⟨_, rfl, post_true laidOut rfl uB (by kernel_rfl) rfl hW' rfl hb⟩
  · refine ⟨(isRow_rowF _).2 trivial, ?_⟩
    try rw [decL_rowF p_CellsL]
    exact ⟨w_at_H, w_b_Mark⟩

theorem rayMatchesReference : Rows.RayMatchesReferenceSaid :=
  OpenClaim.holds_of_wide 3 Try.f3 rfl rfl rfl rfl rfl rfl rfl ⟨rfl, rfl, rfl, rfl, rfl⟩ rfl rfl rfl rfl rfl (by kernel_rfl) Try.func3 (by kernel_rfl)
    (of_decide_eq_true (by kernel_rfl)) (by unfold Func.isWrapper; first | (rw [if_pos (by decide +kernel)]; kernel_rfl) | (rw [if_neg (by decide +kernel)]; exact ⟨rfl, rfl⟩))
    (fun os started H enc _ => rayMatchesReference_lifted os started H enc)

set_option maxRecDepth 100000 in
theorem rayVectors_lifted (os : Os) (started : os.Started) (H : Type) (enc : TypeId × Value → H) :
    ReturnsInHanded {} Try.checked os 4 .any (Rows.rayVectorsSpec.pre6 enc Try.prog Try.f4 Rows.rayVectorsRow.domain false) (Rows.rayVectorsSpec.post enc Try.prog Try.f4 false true false false) := by
  refine returnsInHanded_of_change (C := Try.checked) own started (by kernel_rfl) Try.func4
    (ChangeSpec.witness6 (enc := enc) (C := Try.checked) false ⟨#[], #[.agg #[.int .i64 0, .int .i64 0, .slice none 0 0], .agg #[.int .i64 0, .int .i64 0], .agg #[.int .i64 0, .int .i64 0, .int .i64 0]], []⟩ 8 (by kernel_rfl) (by kernel_rfl) (by kernel_rfl) (by kernel_rfl)) ?_
  intro W base args ds gs before hval0 hW hcnd _
  have hval : ∀ (j : Nat) t v, Try.f4.params[j]? = some t → args[j]? = some v → Value.okWide Try.prog W .any base t v := hval0
  have hW' := hW
  obtain ⟨p, q, hA0, hV, rfl, hfz, hnd⟩ := hW
  have hA : DataW.TrodAll enc Try.prog W 0 (fun _ => true) true Try.f4.params.toList args.toList ds p := hA0
  rw [Try.params4] at hA hval
  obtain ⟨v0, vs0, d0, ds0, p0, q0, hargs, rfl, rfl, h0, r0⟩ := trodAll_cons hA
  obtain ⟨v1, vs1, d1, ds1, p1, q1, rfl, rfl, rfl, h1, r1⟩ := trodAll_cons r0
  obtain ⟨v2, vs2, d2, ds2, p2, q2, rfl, rfl, rfl, h2, r2⟩ := trodAll_cons r1
  obtain ⟨rfl, rfl, rfl⟩ := trodAll_nil r2
  obtain rfl : args = #[v0, v1, v2] := by cases args; simp_all
  obtain ⟨rfl, rfl⟩ := trodVars_none hV
  obtain ⟨c0, rfl, o0_0⟩ := open_agg (ts := [3, 3, 22]) Try.underlying24 (by kernel_rfl) (hval 0 24 v0 rfl rfl) h0
  obtain ⟨v0_0, c0_0, rfl, e0_0, o0_1⟩ := leafs_cons o0_0
  obtain ⟨p_W, rfl, w_p_W⟩ := leaf_int (k := .i64) (by kernel_rfl) (e0_0)
  have w_p_W : -9223372036854775808 ≤ p_W ∧ p_W ≤ 9223372036854775807 := w_p_W
  obtain ⟨v0_1, c0_1, rfl, e0_1, o0_2⟩ := leafs_cons o0_1
  obtain ⟨p_H, rfl, w_p_H⟩ := leaf_int (k := .i64) (by kernel_rfl) (e0_1)
  have w_p_H : -9223372036854775808 ≤ p_H ∧ p_H ≤ 9223372036854775807 := w_p_H
  obtain ⟨v0_2, c0_2, rfl, e0_2, o0_3⟩ := leafs_cons o0_2
  obtain ⟨p_CellsL, f_p_Cells, one_p_Cells, rel_p_Cells, blk_p_Cells⟩ := leaf_row (E := eU8) (e := 5) (by kernel_rfl) (by kernel_rfl) (by kernel_rfl) (by decide) (fun _ => rfl) (e0_2)
  obtain rfl := leafs_nil o0_3
  obtain ⟨c1, rfl, o1_0⟩ := open_agg (ts := [3, 3]) Try.underlying40 (by kernel_rfl) (hval 1 40 v1 rfl rfl) h1
  obtain ⟨v1_0, c1_0, rfl, e1_0, o1_1⟩ := leafs_cons o1_0
  obtain ⟨at_X, rfl, w_at_X⟩ := leaf_int (k := .i64) (by kernel_rfl) (e1_0)
  have w_at_X : -9223372036854775808 ≤ at_X ∧ at_X ≤ 9223372036854775807 := w_at_X
  obtain ⟨v1_1, c1_1, rfl, e1_1, o1_2⟩ := leafs_cons o1_1
  obtain ⟨at_Y, rfl, w_at_Y⟩ := leaf_int (k := .i64) (by kernel_rfl) (e1_1)
  have w_at_Y : -9223372036854775808 ≤ at_Y ∧ at_Y ≤ 9223372036854775807 := w_at_Y
  obtain rfl := leafs_nil o1_2
  obtain ⟨c2, rfl, o2_0⟩ := open_agg (ts := [3, 3, 3]) Try.underlying32 (by kernel_rfl) (hval 2 32 v2 rfl rfl) h2
  obtain ⟨v2_0, c2_0, rfl, e2_0, o2_1⟩ := leafs_cons o2_0
  obtain ⟨v_X, rfl, w_v_X⟩ := leaf_int (k := .i64) (by kernel_rfl) (e2_0)
  have w_v_X : -9223372036854775808 ≤ v_X ∧ v_X ≤ 9223372036854775807 := w_v_X
  obtain ⟨v2_1, c2_1, rfl, e2_1, o2_2⟩ := leafs_cons o2_1
  obtain ⟨v_Y, rfl, w_v_Y⟩ := leaf_int (k := .i64) (by kernel_rfl) (e2_1)
  have w_v_Y : -9223372036854775808 ≤ v_Y ∧ v_Y ≤ 9223372036854775807 := w_v_Y
  obtain ⟨v2_2, c2_2, rfl, e2_2, o2_3⟩ := leafs_cons o2_2
  obtain ⟨v_D, rfl, w_v_D⟩ := leaf_int (k := .i64) (by kernel_rfl) (e2_2)
  have w_v_D : -9223372036854775808 ≤ v_D ∧ v_D ≤ 9223372036854775807 := w_v_D
  obtain rfl := leafs_nil o2_3
  have key := row_calls (n := 1) (l := [(0, .ro p_CellsL.length eU8.sz (rowF eU8 p_CellsL))]) (vs := [v0_2]) c4 (by kernel_rfl) (args := [.a [.v (.int .i64 p_W), .v (.int .i64 p_H), .n 0], .a [.v (.int .i64 at_X), .v (.int .i64 at_Y)], .a [.v (.int .i64 v_X), .v (.int .i64 v_Y), .v (.int .i64 v_D)]]) rfl (by simp only [sc1L, sc1, scL, SC.sc, scV, scEnt, scE, rowF_scT, upto, Nat.reduceLT, Nat.reduceAdd, and_self, and_true, true_and]) (by simp only [sc1L, sc1, scL, SC.sc, scV, scEnt, scE, rowF_scT, upto, Nat.reduceLT, Nat.reduceAdd, and_self, and_true, true_and]) (W := W) ⟨one_p_Cells, trivial⟩ ⟨⟨rfl, rel_p_Cells _, blk_p_Cells⟩, trivial⟩ ?_
  · refine key.mono fun e W' ⟨he, hb⟩ => ?_
    subst he
    exact ⟨_, rfl, post_true laidOut rfl uB (by kernel_rfl) rfl hW' rfl hb⟩
  · refine ⟨(isRow_rowF _).2 trivial, ?_⟩
    try rw [decL_rowF p_CellsL]
    trivial

theorem rayVectors : Rows.RayVectorsSaid :=
  OpenClaim.holds_of_wide 4 Try.f4 rfl rfl rfl rfl rfl rfl rfl ⟨rfl, rfl, rfl, rfl, rfl⟩ rfl rfl rfl rfl rfl (by kernel_rfl) Try.func4 (by kernel_rfl)
    (of_decide_eq_true (by kernel_rfl)) (by unfold Func.isWrapper; first | (rw [if_pos (by decide +kernel)]; kernel_rfl) | (rw [if_neg (by decide +kernel)]; exact ⟨rfl, rfl⟩))
    (fun os started H enc _ => rayVectors_lifted os started H enc)

set_option maxRecDepth 100000 in
theorem rayHits_lifted (os : Os) (started : os.Started) (H : Type) (enc : TypeId × Value → H) :
    ReturnsInHanded {} Try.checked os 5 .any (Rows.rayHitsSpec.pre6 enc Try.prog Try.f5 Rows.rayHitsRow.domain false) (Rows.rayHitsSpec.post enc Try.prog Try.f5 false true false false) := by
  refine returnsInHanded_of_change (C := Try.checked) own started (by kernel_rfl) Try.func5
    (ChangeSpec.witness6 (enc := enc) (C := Try.checked) false ⟨#[], #[.agg #[.int .i64 0, .int .i64 0, .slice none 0 0], .agg #[.int .i64 0, .int .i64 0, .int .i64 0], .int .u8 0], []⟩ 8 (by kernel_rfl) (by kernel_rfl) (by kernel_rfl) (by kernel_rfl)) ?_
  intro W base args ds gs before hval0 hW hcnd _
  have hval : ∀ (j : Nat) t v, Try.f5.params[j]? = some t → args[j]? = some v → Value.okWide Try.prog W .any base t v := hval0
  have hW' := hW
  obtain ⟨p, q, hA0, hV, rfl, hfz, hnd⟩ := hW
  have hA : DataW.TrodAll enc Try.prog W 0 (fun _ => true) true Try.f5.params.toList args.toList ds p := hA0
  rw [Try.params5] at hA hval
  obtain ⟨v0, vs0, d0, ds0, p0, q0, hargs, rfl, rfl, h0, r0⟩ := trodAll_cons hA
  obtain ⟨v1, vs1, d1, ds1, p1, q1, rfl, rfl, rfl, h1, r1⟩ := trodAll_cons r0
  obtain ⟨v2, vs2, d2, ds2, p2, q2, rfl, rfl, rfl, h2, r2⟩ := trodAll_cons r1
  obtain ⟨rfl, rfl, rfl⟩ := trodAll_nil r2
  obtain rfl : args = #[v0, v1, v2] := by cases args; simp_all
  obtain ⟨rfl, rfl⟩ := trodVars_none hV
  obtain ⟨c0, rfl, o0_0⟩ := open_agg (ts := [3, 3, 22]) Try.underlying24 (by kernel_rfl) (hval 0 24 v0 rfl rfl) h0
  obtain ⟨v0_0, c0_0, rfl, e0_0, o0_1⟩ := leafs_cons o0_0
  obtain ⟨p_W, rfl, w_p_W⟩ := leaf_int (k := .i64) (by kernel_rfl) (e0_0)
  have w_p_W : -9223372036854775808 ≤ p_W ∧ p_W ≤ 9223372036854775807 := w_p_W
  obtain ⟨v0_1, c0_1, rfl, e0_1, o0_2⟩ := leafs_cons o0_1
  obtain ⟨p_H, rfl, w_p_H⟩ := leaf_int (k := .i64) (by kernel_rfl) (e0_1)
  have w_p_H : -9223372036854775808 ≤ p_H ∧ p_H ≤ 9223372036854775807 := w_p_H
  obtain ⟨v0_2, c0_2, rfl, e0_2, o0_3⟩ := leafs_cons o0_2
  obtain ⟨p_CellsL, f_p_Cells, one_p_Cells, rel_p_Cells, blk_p_Cells⟩ := leaf_row (E := eU8) (e := 5) (by kernel_rfl) (by kernel_rfl) (by kernel_rfl) (by decide) (fun _ => rfl) (e0_2)
  obtain rfl := leafs_nil o0_3
  obtain ⟨c1, rfl, o1_0⟩ := open_agg (ts := [3, 3, 3]) Try.underlying26 (by kernel_rfl) (hval 1 26 v1 rfl rfl) h1
  obtain ⟨v1_0, c1_0, rfl, e1_0, o1_1⟩ := leafs_cons o1_0
  obtain ⟨at_X, rfl, w_at_X⟩ := leaf_int (k := .i64) (by kernel_rfl) (e1_0)
  have w_at_X : -9223372036854775808 ≤ at_X ∧ at_X ≤ 9223372036854775807 := w_at_X
  obtain ⟨v1_1, c1_1, rfl, e1_1, o1_2⟩ := leafs_cons o1_1
  obtain ⟨at_Y, rfl, w_at_Y⟩ := leaf_int (k := .i64) (by kernel_rfl) (e1_1)
  have w_at_Y : -9223372036854775808 ≤ at_Y ∧ at_Y ≤ 9223372036854775807 := w_at_Y
  obtain ⟨v1_2, c1_2, rfl, e1_2, o1_3⟩ := leafs_cons o1_2
  obtain ⟨at_H, rfl, w_at_H⟩ := leaf_int (k := .i64) (by kernel_rfl) (e1_2)
  have w_at_H : -9223372036854775808 ≤ at_H ∧ at_H ≤ 9223372036854775807 := w_at_H
  obtain rfl := leafs_nil o1_3
  obtain ⟨mark, rfl, w_mark⟩ := leaf_int (k := .u8) (by kernel_rfl) (open_one (by kernel_rfl) (hval 2 5 v2 rfl rfl) h2)
  have w_mark : 0 ≤ mark ∧ mark ≤ 255 := w_mark
  have key := row_calls (n := 1) (l := [(0, .ro p_CellsL.length eU8.sz (rowF eU8 p_CellsL))]) (vs := [v0_2]) c5 (by kernel_rfl) (args := [.a [.v (.int .i64 p_W), .v (.int .i64 p_H), .n 0], .a [.v (.int .i64 at_X), .v (.int .i64 at_Y), .v (.int .i64 at_H)], .c (.v (.int .u8 mark))]) rfl (by simp only [sc1L, sc1, scL, SC.sc, scV, scEnt, scE, rowF_scT, upto, Nat.reduceLT, Nat.reduceAdd, and_self, and_true, true_and]) (by simp only [sc1L, sc1, scL, SC.sc, scV, scEnt, scE, rowF_scT, upto, Nat.reduceLT, Nat.reduceAdd, and_self, and_true, true_and]) (W := W) ⟨one_p_Cells, trivial⟩ ⟨⟨rfl, rel_p_Cells _, blk_p_Cells⟩, trivial⟩ ?_
  · refine key.mono fun e W' ⟨he, hb⟩ => ?_
    subst he
    exact ⟨_, rfl, post_true laidOut rfl uB (by kernel_rfl) rfl hW' rfl hb⟩
  · refine ⟨(isRow_rowF _).2 trivial, ?_⟩
    try rw [decL_rowF p_CellsL]
    exact ⟨w_at_H, w_mark⟩

theorem rayHits : Rows.RayHitsSaid :=
  OpenClaim.holds_of_wide 5 Try.f5 rfl rfl rfl rfl rfl rfl rfl ⟨rfl, rfl, rfl, rfl, rfl⟩ rfl rfl rfl rfl rfl (by kernel_rfl) Try.func5 (by kernel_rfl)
    (of_decide_eq_true (by kernel_rfl)) (by unfold Func.isWrapper; first | (rw [if_pos (by decide +kernel)]; kernel_rfl) | (rw [if_neg (by decide +kernel)]; exact ⟨rfl, rfl⟩))
    (fun os started H enc _ => rayHits_lifted os started H enc)

set_option maxRecDepth 100000 in
theorem rayMeasures_lifted (os : Os) (started : os.Started) (H : Type) (enc : TypeId × Value → H) :
    ReturnsInHanded {} Try.checked os 7 .any (Rows.rayMeasuresSpec.pre6 enc Try.prog Try.f7 Rows.rayMeasuresRow.domain false) (Rows.rayMeasuresSpec.post enc Try.prog Try.f7 false true false false) := by
  refine returnsInHanded_of_change (C := Try.checked) own started (by kernel_rfl) Try.func7
    (ChangeSpec.witness6 (enc := enc) (C := Try.checked) false ⟨#[], #[.agg #[.int .i64 0, .int .i64 0, .slice none 0 0], .agg #[.int .i64 0, .int .i64 0, .int .i64 0], .agg #[.int .i64 0, .int .i64 0, .int .i64 0, .int .i64 0]], []⟩ 8 (by kernel_rfl) (by kernel_rfl) (by kernel_rfl) (by kernel_rfl)) ?_
  intro W base args ds gs before hval0 hW hcnd _
  have hval : ∀ (j : Nat) t v, Try.f7.params[j]? = some t → args[j]? = some v → Value.okWide Try.prog W .any base t v := hval0
  have hW' := hW
  obtain ⟨p, q, hA0, hV, rfl, hfz, hnd⟩ := hW
  have hA : DataW.TrodAll enc Try.prog W 0 (fun _ => true) true Try.f7.params.toList args.toList ds p := hA0
  rw [Try.params7] at hA hval
  obtain ⟨v0, vs0, d0, ds0, p0, q0, hargs, rfl, rfl, h0, r0⟩ := trodAll_cons hA
  obtain ⟨v1, vs1, d1, ds1, p1, q1, rfl, rfl, rfl, h1, r1⟩ := trodAll_cons r0
  obtain ⟨v2, vs2, d2, ds2, p2, q2, rfl, rfl, rfl, h2, r2⟩ := trodAll_cons r1
  obtain ⟨rfl, rfl, rfl⟩ := trodAll_nil r2
  obtain rfl : args = #[v0, v1, v2] := by cases args; simp_all
  obtain ⟨rfl, rfl⟩ := trodVars_none hV
  obtain ⟨c0, rfl, o0_0⟩ := open_agg (ts := [3, 3, 22]) Try.underlying24 (by kernel_rfl) (hval 0 24 v0 rfl rfl) h0
  obtain ⟨v0_0, c0_0, rfl, e0_0, o0_1⟩ := leafs_cons o0_0
  obtain ⟨p_W, rfl, w_p_W⟩ := leaf_int (k := .i64) (by kernel_rfl) (e0_0)
  have w_p_W : -9223372036854775808 ≤ p_W ∧ p_W ≤ 9223372036854775807 := w_p_W
  obtain ⟨v0_1, c0_1, rfl, e0_1, o0_2⟩ := leafs_cons o0_1
  obtain ⟨p_H, rfl, w_p_H⟩ := leaf_int (k := .i64) (by kernel_rfl) (e0_1)
  have w_p_H : -9223372036854775808 ≤ p_H ∧ p_H ≤ 9223372036854775807 := w_p_H
  obtain ⟨v0_2, c0_2, rfl, e0_2, o0_3⟩ := leafs_cons o0_2
  obtain ⟨p_CellsL, f_p_Cells, one_p_Cells, rel_p_Cells, blk_p_Cells⟩ := leaf_row (E := eU8) (e := 5) (by kernel_rfl) (by kernel_rfl) (by kernel_rfl) (by decide) (fun _ => rfl) (e0_2)
  obtain rfl := leafs_nil o0_3
  obtain ⟨c1, rfl, o1_0⟩ := open_agg (ts := [3, 3, 3]) Try.underlying26 (by kernel_rfl) (hval 1 26 v1 rfl rfl) h1
  obtain ⟨v1_0, c1_0, rfl, e1_0, o1_1⟩ := leafs_cons o1_0
  obtain ⟨at_X, rfl, w_at_X⟩ := leaf_int (k := .i64) (by kernel_rfl) (e1_0)
  have w_at_X : -9223372036854775808 ≤ at_X ∧ at_X ≤ 9223372036854775807 := w_at_X
  obtain ⟨v1_1, c1_1, rfl, e1_1, o1_2⟩ := leafs_cons o1_1
  obtain ⟨at_Y, rfl, w_at_Y⟩ := leaf_int (k := .i64) (by kernel_rfl) (e1_1)
  have w_at_Y : -9223372036854775808 ≤ at_Y ∧ at_Y ≤ 9223372036854775807 := w_at_Y
  obtain ⟨v1_2, c1_2, rfl, e1_2, o1_3⟩ := leafs_cons o1_2
  obtain ⟨at_H, rfl, w_at_H⟩ := leaf_int (k := .i64) (by kernel_rfl) (e1_2)
  have w_at_H : -9223372036854775808 ≤ at_H ∧ at_H ≤ 9223372036854775807 := w_at_H
  obtain rfl := leafs_nil o1_3
  obtain ⟨c2, rfl, o2_0⟩ := open_agg (ts := [3, 3, 3, 3]) Try.underlying50 (by kernel_rfl) (hval 2 50 v2 rfl rfl) h2
  obtain ⟨v2_0, c2_0, rfl, e2_0, o2_1⟩ := leafs_cons o2_0
  obtain ⟨s_Turn, rfl, w_s_Turn⟩ := leaf_int (k := .i64) (by kernel_rfl) (e2_0)
  have w_s_Turn : -9223372036854775808 ≤ s_Turn ∧ s_Turn ≤ 9223372036854775807 := w_s_Turn
  obtain ⟨v2_1, c2_1, rfl, e2_1, o2_2⟩ := leafs_cons o2_1
  obtain ⟨s_Length, rfl, w_s_Length⟩ := leaf_int (k := .i64) (by kernel_rfl) (e2_1)
  have w_s_Length : -9223372036854775808 ≤ s_Length ∧ s_Length ≤ 9223372036854775807 := w_s_Length
  obtain ⟨v2_2, c2_2, rfl, e2_2, o2_3⟩ := leafs_cons o2_2
  obtain ⟨s_X, rfl, w_s_X⟩ := leaf_int (k := .i64) (by kernel_rfl) (e2_2)
  have w_s_X : -9223372036854775808 ≤ s_X ∧ s_X ≤ 9223372036854775807 := w_s_X
  obtain ⟨v2_3, c2_3, rfl, e2_3, o2_4⟩ := leafs_cons o2_3
  obtain ⟨s_Y, rfl, w_s_Y⟩ := leaf_int (k := .i64) (by kernel_rfl) (e2_3)
  have w_s_Y : -9223372036854775808 ≤ s_Y ∧ s_Y ≤ 9223372036854775807 := w_s_Y
  obtain rfl := leafs_nil o2_4
  have key := row_calls (n := 1) (l := [(0, .ro p_CellsL.length eU8.sz (rowF eU8 p_CellsL))]) (vs := [v0_2]) c7 (by kernel_rfl) (args := [.a [.v (.int .i64 p_W), .v (.int .i64 p_H), .n 0], .a [.v (.int .i64 at_X), .v (.int .i64 at_Y), .v (.int .i64 at_H)], .a [.v (.int .i64 s_Turn), .v (.int .i64 s_Length), .v (.int .i64 s_X), .v (.int .i64 s_Y)]]) rfl (by simp only [sc1L, sc1, scL, SC.sc, scV, scEnt, scE, rowF_scT, upto, Nat.reduceLT, Nat.reduceAdd, and_self, and_true, true_and]) (by simp only [sc1L, sc1, scL, SC.sc, scV, scEnt, scE, rowF_scT, upto, Nat.reduceLT, Nat.reduceAdd, and_self, and_true, true_and]) (W := W) ⟨one_p_Cells, trivial⟩ ⟨⟨rfl, rel_p_Cells _, blk_p_Cells⟩, trivial⟩ ?_
  · refine key.mono fun e W' ⟨he, hb⟩ => ?_
    subst he
    exact ⟨_, rfl, post_true laidOut rfl uB (by kernel_rfl) rfl hW' rfl hb⟩
  · refine ⟨(isRow_rowF _).2 trivial, ?_⟩
    try rw [decL_rowF p_CellsL]
    trivial

theorem rayMeasures : Rows.RayMeasuresSaid :=
  OpenClaim.holds_of_wide 7 Try.f7 rfl rfl rfl rfl rfl rfl rfl ⟨rfl, rfl, rfl, rfl, rfl⟩ rfl rfl rfl rfl rfl (by kernel_rfl) Try.func7 (by kernel_rfl)
    (of_decide_eq_true (by kernel_rfl)) (by unfold Func.isWrapper; first | (rw [if_pos (by decide +kernel)]; kernel_rfl) | (rw [if_neg (by decide +kernel)]; exact ⟨rfl, rfl⟩))
    (fun os started H enc _ => rayMeasures_lifted os started H enc)

set_option maxRecDepth 100000 in
theorem rayPlausible_lifted (os : Os) (started : os.Started) (H : Type) (enc : TypeId × Value → H) :
    ReturnsInHanded {} Try.checked os 6 .any (Rows.rayPlausibleSpec.pre6 enc Try.prog Try.f6 Rows.rayPlausibleRow.domain false) (Rows.rayPlausibleSpec.post enc Try.prog Try.f6 false true false false) := by
  refine returnsInHanded_of_change (C := Try.checked) own started (by kernel_rfl) Try.func6
    (ChangeSpec.witness6 (enc := enc) (C := Try.checked) false ⟨#[], #[.agg #[.int .i64 0, .int .i64 0, .slice none 0 0], .agg #[.int .i64 0, .int .i64 0, .int .i64 0], .agg #[.int .i64 0, .int .i64 0]], []⟩ 8 (by kernel_rfl) (by kernel_rfl) (by kernel_rfl) (by kernel_rfl)) ?_
  intro W base args ds gs before hval0 hW hcnd _
  have hval : ∀ (j : Nat) t v, Try.f6.params[j]? = some t → args[j]? = some v → Value.okWide Try.prog W .any base t v := hval0
  have hW' := hW
  obtain ⟨p, q, hA0, hV, rfl, hfz, hnd⟩ := hW
  have hA : DataW.TrodAll enc Try.prog W 0 (fun _ => true) true Try.f6.params.toList args.toList ds p := hA0
  rw [Try.params6] at hA hval
  obtain ⟨v0, vs0, d0, ds0, p0, q0, hargs, rfl, rfl, h0, r0⟩ := trodAll_cons hA
  obtain ⟨v1, vs1, d1, ds1, p1, q1, rfl, rfl, rfl, h1, r1⟩ := trodAll_cons r0
  obtain ⟨v2, vs2, d2, ds2, p2, q2, rfl, rfl, rfl, h2, r2⟩ := trodAll_cons r1
  obtain ⟨rfl, rfl, rfl⟩ := trodAll_nil r2
  obtain rfl : args = #[v0, v1, v2] := by cases args; simp_all
  obtain ⟨rfl, rfl⟩ := trodVars_none hV
  obtain ⟨c0, rfl, o0_0⟩ := open_agg (ts := [3, 3, 22]) Try.underlying24 (by kernel_rfl) (hval 0 24 v0 rfl rfl) h0
  obtain ⟨v0_0, c0_0, rfl, e0_0, o0_1⟩ := leafs_cons o0_0
  obtain ⟨p_W, rfl, w_p_W⟩ := leaf_int (k := .i64) (by kernel_rfl) (e0_0)
  have w_p_W : -9223372036854775808 ≤ p_W ∧ p_W ≤ 9223372036854775807 := w_p_W
  obtain ⟨v0_1, c0_1, rfl, e0_1, o0_2⟩ := leafs_cons o0_1
  obtain ⟨p_H, rfl, w_p_H⟩ := leaf_int (k := .i64) (by kernel_rfl) (e0_1)
  have w_p_H : -9223372036854775808 ≤ p_H ∧ p_H ≤ 9223372036854775807 := w_p_H
  obtain ⟨v0_2, c0_2, rfl, e0_2, o0_3⟩ := leafs_cons o0_2
  obtain ⟨p_CellsL, f_p_Cells, one_p_Cells, rel_p_Cells, blk_p_Cells⟩ := leaf_row (E := eU8) (e := 5) (by kernel_rfl) (by kernel_rfl) (by kernel_rfl) (by decide) (fun _ => rfl) (e0_2)
  obtain rfl := leafs_nil o0_3
  obtain ⟨c1, rfl, o1_0⟩ := open_agg (ts := [3, 3, 3]) Try.underlying26 (by kernel_rfl) (hval 1 26 v1 rfl rfl) h1
  obtain ⟨v1_0, c1_0, rfl, e1_0, o1_1⟩ := leafs_cons o1_0
  obtain ⟨at_X, rfl, w_at_X⟩ := leaf_int (k := .i64) (by kernel_rfl) (e1_0)
  have w_at_X : -9223372036854775808 ≤ at_X ∧ at_X ≤ 9223372036854775807 := w_at_X
  obtain ⟨v1_1, c1_1, rfl, e1_1, o1_2⟩ := leafs_cons o1_1
  obtain ⟨at_Y, rfl, w_at_Y⟩ := leaf_int (k := .i64) (by kernel_rfl) (e1_1)
  have w_at_Y : -9223372036854775808 ≤ at_Y ∧ at_Y ≤ 9223372036854775807 := w_at_Y
  obtain ⟨v1_2, c1_2, rfl, e1_2, o1_3⟩ := leafs_cons o1_2
  obtain ⟨at_H, rfl, w_at_H⟩ := leaf_int (k := .i64) (by kernel_rfl) (e1_2)
  have w_at_H : -9223372036854775808 ≤ at_H ∧ at_H ≤ 9223372036854775807 := w_at_H
  obtain rfl := leafs_nil o1_3
  obtain ⟨c2, rfl, o2_0⟩ := open_agg (ts := [3, 3]) Try.underlying28 (by kernel_rfl) (hval 2 28 v2 rfl rfl) h2
  obtain ⟨v2_0, c2_0, rfl, e2_0, o2_1⟩ := leafs_cons o2_0
  obtain ⟨b_Mark, rfl, w_b_Mark⟩ := leaf_int (k := .i64) (by kernel_rfl) (e2_0)
  have w_b_Mark : -9223372036854775808 ≤ b_Mark ∧ b_Mark ≤ 9223372036854775807 := w_b_Mark
  obtain ⟨v2_1, c2_1, rfl, e2_1, o2_2⟩ := leafs_cons o2_1
  obtain ⟨b_Reading, rfl, w_b_Reading⟩ := leaf_int (k := .i64) (by kernel_rfl) (e2_1)
  have w_b_Reading : -9223372036854775808 ≤ b_Reading ∧ b_Reading ≤ 9223372036854775807 := w_b_Reading
  obtain rfl := leafs_nil o2_2
  have key := row_calls (n := 1) (l := [(0, .ro p_CellsL.length eU8.sz (rowF eU8 p_CellsL))]) (vs := [v0_2]) c6 (by kernel_rfl) (args := [.a [.v (.int .i64 p_W), .v (.int .i64 p_H), .n 0], .a [.v (.int .i64 at_X), .v (.int .i64 at_Y), .v (.int .i64 at_H)], .a [.v (.int .i64 b_Mark), .v (.int .i64 b_Reading)]]) rfl (by simp only [sc1L, sc1, scL, SC.sc, scV, scEnt, scE, rowF_scT, upto, Nat.reduceLT, Nat.reduceAdd, and_self, and_true, true_and]) (by simp only [sc1L, sc1, scL, SC.sc, scV, scEnt, scE, rowF_scT, upto, Nat.reduceLT, Nat.reduceAdd, and_self, and_true, true_and]) (W := W) ⟨one_p_Cells, trivial⟩ ⟨⟨rfl, rel_p_Cells _, blk_p_Cells⟩, trivial⟩ ?_
  · refine key.mono fun e W' ⟨he, hb⟩ => ?_
    subst he
    exact ⟨_, rfl, post_true laidOut rfl uB (by kernel_rfl) rfl hW' rfl hb⟩
  · refine ⟨(isRow_rowF _).2 trivial, ?_⟩
    try rw [decL_rowF p_CellsL]
    trivial

theorem rayPlausible : Rows.RayPlausibleSaid :=
  OpenClaim.holds_of_wide 6 Try.f6 rfl rfl rfl rfl rfl rfl rfl ⟨rfl, rfl, rfl, rfl, rfl⟩ rfl rfl rfl rfl rfl (by kernel_rfl) Try.func6 (by kernel_rfl)
    (of_decide_eq_true (by kernel_rfl)) (by unfold Func.isWrapper; first | (rw [if_pos (by decide +kernel)]; kernel_rfl) | (rw [if_neg (by decide +kernel)]; exact ⟨rfl, rfl⟩))
    (fun os started H enc _ => rayPlausible_lifted os started H enc)

set_option maxRecDepth 100000 in
theorem rayBetween_lifted (os : Os) (started : os.Started) (H : Type) (enc : TypeId × Value → H) :
    ReturnsInHanded {} Try.checked os 8 .any (Rows.rayBetweenSpec.pre6 enc Try.prog Try.f8 Rows.rayBetweenRow.domain false) (Rows.rayBetweenSpec.post enc Try.prog Try.f8 false true false false) := by
  refine returnsInHanded_of_change (C := Try.checked) own started (by kernel_rfl) Try.func8
    (ChangeSpec.witness6 (enc := enc) (C := Try.checked) false ⟨#[], #[.agg #[.int .i64 0, .int .i64 0, .slice none 0 0], .agg #[.int .i64 0, .int .i64 0, .int .i64 0], .agg #[.int .i64 0, .int .i64 0]], []⟩ 8 (by kernel_rfl) (by kernel_rfl) (by kernel_rfl) (by kernel_rfl)) ?_
  intro W base args ds gs before hval0 hW hcnd _
  have hval : ∀ (j : Nat) t v, Try.f8.params[j]? = some t → args[j]? = some v → Value.okWide Try.prog W .any base t v := hval0
  have hW' := hW
  obtain ⟨p, q, hA0, hV, rfl, hfz, hnd⟩ := hW
  have hA : DataW.TrodAll enc Try.prog W 0 (fun _ => true) true Try.f8.params.toList args.toList ds p := hA0
  rw [Try.params8] at hA hval
  obtain ⟨v0, vs0, d0, ds0, p0, q0, hargs, rfl, rfl, h0, r0⟩ := trodAll_cons hA
  obtain ⟨v1, vs1, d1, ds1, p1, q1, rfl, rfl, rfl, h1, r1⟩ := trodAll_cons r0
  obtain ⟨v2, vs2, d2, ds2, p2, q2, rfl, rfl, rfl, h2, r2⟩ := trodAll_cons r1
  obtain ⟨rfl, rfl, rfl⟩ := trodAll_nil r2
  obtain rfl : args = #[v0, v1, v2] := by cases args; simp_all
  obtain ⟨rfl, rfl⟩ := trodVars_none hV
  obtain ⟨c0, rfl, o0_0⟩ := open_agg (ts := [3, 3, 22]) Try.underlying24 (by kernel_rfl) (hval 0 24 v0 rfl rfl) h0
  obtain ⟨v0_0, c0_0, rfl, e0_0, o0_1⟩ := leafs_cons o0_0
  obtain ⟨p_W, rfl, w_p_W⟩ := leaf_int (k := .i64) (by kernel_rfl) (e0_0)
  have w_p_W : -9223372036854775808 ≤ p_W ∧ p_W ≤ 9223372036854775807 := w_p_W
  obtain ⟨v0_1, c0_1, rfl, e0_1, o0_2⟩ := leafs_cons o0_1
  obtain ⟨p_H, rfl, w_p_H⟩ := leaf_int (k := .i64) (by kernel_rfl) (e0_1)
  have w_p_H : -9223372036854775808 ≤ p_H ∧ p_H ≤ 9223372036854775807 := w_p_H
  obtain ⟨v0_2, c0_2, rfl, e0_2, o0_3⟩ := leafs_cons o0_2
  obtain ⟨p_CellsL, f_p_Cells, one_p_Cells, rel_p_Cells, blk_p_Cells⟩ := leaf_row (E := eU8) (e := 5) (by kernel_rfl) (by kernel_rfl) (by kernel_rfl) (by decide) (fun _ => rfl) (e0_2)
  obtain rfl := leafs_nil o0_3
  obtain ⟨c1, rfl, o1_0⟩ := open_agg (ts := [3, 3, 3]) Try.underlying26 (by kernel_rfl) (hval 1 26 v1 rfl rfl) h1
  obtain ⟨v1_0, c1_0, rfl, e1_0, o1_1⟩ := leafs_cons o1_0
  obtain ⟨at_X, rfl, w_at_X⟩ := leaf_int (k := .i64) (by kernel_rfl) (e1_0)
  have w_at_X : -9223372036854775808 ≤ at_X ∧ at_X ≤ 9223372036854775807 := w_at_X
  obtain ⟨v1_1, c1_1, rfl, e1_1, o1_2⟩ := leafs_cons o1_1
  obtain ⟨at_Y, rfl, w_at_Y⟩ := leaf_int (k := .i64) (by kernel_rfl) (e1_1)
  have w_at_Y : -9223372036854775808 ≤ at_Y ∧ at_Y ≤ 9223372036854775807 := w_at_Y
  obtain ⟨v1_2, c1_2, rfl, e1_2, o1_3⟩ := leafs_cons o1_2
  obtain ⟨at_H, rfl, w_at_H⟩ := leaf_int (k := .i64) (by kernel_rfl) (e1_2)
  have w_at_H : -9223372036854775808 ≤ at_H ∧ at_H ≤ 9223372036854775807 := w_at_H
  obtain rfl := leafs_nil o1_3
  obtain ⟨c2, rfl, o2_0⟩ := open_agg (ts := [3, 3]) Try.underlying28 (by kernel_rfl) (hval 2 28 v2 rfl rfl) h2
  obtain ⟨v2_0, c2_0, rfl, e2_0, o2_1⟩ := leafs_cons o2_0
  obtain ⟨b_Mark, rfl, w_b_Mark⟩ := leaf_int (k := .i64) (by kernel_rfl) (e2_0)
  have w_b_Mark : -9223372036854775808 ≤ b_Mark ∧ b_Mark ≤ 9223372036854775807 := w_b_Mark
  obtain ⟨v2_1, c2_1, rfl, e2_1, o2_2⟩ := leafs_cons o2_1
  obtain ⟨b_Reading, rfl, w_b_Reading⟩ := leaf_int (k := .i64) (by kernel_rfl) (e2_1)
  have w_b_Reading : -9223372036854775808 ≤ b_Reading ∧ b_Reading ≤ 9223372036854775807 := w_b_Reading
  obtain rfl := leafs_nil o2_2
  have key := row_calls (n := 1) (l := [(0, .ro p_CellsL.length eU8.sz (rowF eU8 p_CellsL))]) (vs := [v0_2]) c8 (by kernel_rfl) (args := [.a [.v (.int .i64 p_W), .v (.int .i64 p_H), .n 0], .a [.v (.int .i64 at_X), .v (.int .i64 at_Y), .v (.int .i64 at_H)], .a [.v (.int .i64 b_Mark), .v (.int .i64 b_Reading)]]) rfl (by simp only [sc1L, sc1, scL, SC.sc, scV, scEnt, scE, rowF_scT, upto, Nat.reduceLT, Nat.reduceAdd, and_self, and_true, true_and]) (by simp only [sc1L, sc1, scL, SC.sc, scV, scEnt, scE, rowF_scT, upto, Nat.reduceLT, Nat.reduceAdd, and_self, and_true, true_and]) (W := W) ⟨one_p_Cells, trivial⟩ ⟨⟨rfl, rel_p_Cells _, blk_p_Cells⟩, trivial⟩ ?_
  · refine key.mono fun e W' ⟨he, hb⟩ => ?_
    subst he
    exact ⟨_, rfl, post_true laidOut rfl uB (by kernel_rfl) rfl hW' rfl hb⟩
  · refine ⟨(isRow_rowF _).2 trivial, ?_⟩
    try rw [decL_rowF p_CellsL]
    exact ⟨w_at_H, w_b_Mark⟩

theorem rayBetween : Rows.RayBetweenSaid :=
  OpenClaim.holds_of_wide 8 Try.f8 rfl rfl rfl rfl rfl rfl rfl ⟨rfl, rfl, rfl, rfl, rfl⟩ rfl rfl rfl rfl rfl (by kernel_rfl) Try.func8 (by kernel_rfl)
    (of_decide_eq_true (by kernel_rfl)) (by unfold Func.isWrapper; first | (rw [if_pos (by decide +kernel)]; kernel_rfl) | (rw [if_neg (by decide +kernel)]; exact ⟨rfl, rfl⟩))
    (fun os started H enc _ => rayBetween_lifted os started H enc)

set_option maxRecDepth 100000 in
theorem raySweeps_lifted (os : Os) (started : os.Started) (H : Type) (enc : TypeId × Value → H) :
    ReturnsInHanded {} Try.checked os 9 .any (Rows.raySweepsSpec.pre6 enc Try.prog Try.f9 Rows.raySweepsRow.domain false) (Rows.raySweepsSpec.post enc Try.prog Try.f9 false true false false) := by
  refine returnsInHanded_of_change (C := Try.checked) own started (by kernel_rfl) Try.func9
    (ChangeSpec.witness6 (enc := enc) (C := Try.checked) false ⟨#[], #[.agg #[.int .i64 0, .int .i64 0, .slice none 0 0], .agg #[.int .i64 0, .int .i64 0, .int .i64 0], .agg #[.int .i64 0, .int .i64 0, .int .i64 0, .int .i64 0, .int .i64 0, .int .i64 0, .slice none 0 0, .slice none 0 0]], []⟩ 8 (by kernel_rfl) (by kernel_rfl) (by kernel_rfl) (by kernel_rfl)) ?_
  intro W base args ds gs before hval0 hW hcnd _
  have hval : ∀ (j : Nat) t v, Try.f9.params[j]? = some t → args[j]? = some v → Value.okWide Try.prog W .any base t v := hval0
  have hW' := hW
  obtain ⟨p, q, hA0, hV, rfl, hfz, hnd⟩ := hW
  have hA : DataW.TrodAll enc Try.prog W 0 (fun _ => true) true Try.f9.params.toList args.toList ds p := hA0
  rw [Try.params9] at hA hval
  obtain ⟨v0, vs0, d0, ds0, p0, q0, hargs, rfl, rfl, h0, r0⟩ := trodAll_cons hA
  obtain ⟨v1, vs1, d1, ds1, p1, q1, rfl, rfl, rfl, h1, r1⟩ := trodAll_cons r0
  obtain ⟨v2, vs2, d2, ds2, p2, q2, rfl, rfl, rfl, h2, r2⟩ := trodAll_cons r1
  obtain ⟨rfl, rfl, rfl⟩ := trodAll_nil r2
  obtain rfl : args = #[v0, v1, v2] := by cases args; simp_all
  obtain ⟨rfl, rfl⟩ := trodVars_none hV
  obtain ⟨c0, rfl, o0_0⟩ := open_agg (ts := [3, 3, 22]) Try.underlying24 (by kernel_rfl) (hval 0 24 v0 rfl rfl) h0
  obtain ⟨v0_0, c0_0, rfl, e0_0, o0_1⟩ := leafs_cons o0_0
  obtain ⟨p_W, rfl, w_p_W⟩ := leaf_int (k := .i64) (by kernel_rfl) (e0_0)
  have w_p_W : -9223372036854775808 ≤ p_W ∧ p_W ≤ 9223372036854775807 := w_p_W
  obtain ⟨v0_1, c0_1, rfl, e0_1, o0_2⟩ := leafs_cons o0_1
  obtain ⟨p_H, rfl, w_p_H⟩ := leaf_int (k := .i64) (by kernel_rfl) (e0_1)
  have w_p_H : -9223372036854775808 ≤ p_H ∧ p_H ≤ 9223372036854775807 := w_p_H
  obtain ⟨v0_2, c0_2, rfl, e0_2, o0_3⟩ := leafs_cons o0_2
  obtain ⟨p_CellsL, f_p_Cells, one_p_Cells, rel_p_Cells, blk_p_Cells⟩ := leaf_row (E := eU8) (e := 5) (by kernel_rfl) (by kernel_rfl) (by kernel_rfl) (by decide) (fun _ => rfl) (e0_2)
  obtain rfl := leafs_nil o0_3
  obtain ⟨c1, rfl, o1_0⟩ := open_agg (ts := [3, 3, 3]) Try.underlying26 (by kernel_rfl) (hval 1 26 v1 rfl rfl) h1
  obtain ⟨v1_0, c1_0, rfl, e1_0, o1_1⟩ := leafs_cons o1_0
  obtain ⟨at_X, rfl, w_at_X⟩ := leaf_int (k := .i64) (by kernel_rfl) (e1_0)
  have w_at_X : -9223372036854775808 ≤ at_X ∧ at_X ≤ 9223372036854775807 := w_at_X
  obtain ⟨v1_1, c1_1, rfl, e1_1, o1_2⟩ := leafs_cons o1_1
  obtain ⟨at_Y, rfl, w_at_Y⟩ := leaf_int (k := .i64) (by kernel_rfl) (e1_1)
  have w_at_Y : -9223372036854775808 ≤ at_Y ∧ at_Y ≤ 9223372036854775807 := w_at_Y
  obtain ⟨v1_2, c1_2, rfl, e1_2, o1_3⟩ := leafs_cons o1_2
  obtain ⟨at_H, rfl, w_at_H⟩ := leaf_int (k := .i64) (by kernel_rfl) (e1_2)
  have w_at_H : -9223372036854775808 ≤ at_H ∧ at_H ≤ 9223372036854775807 := w_at_H
  obtain rfl := leafs_nil o1_3
  obtain ⟨c2, rfl, o2_0⟩ := open_agg (ts := [3, 3, 3, 3, 3, 3, 59, 59]) Try.underlying61 (by kernel_rfl) (hval 2 61 v2 rfl rfl) h2
  obtain ⟨v2_0, c2_0, rfl, e2_0, o2_1⟩ := leafs_cons o2_0
  obtain ⟨a_Command_Turn, rfl, w_a_Command_Turn⟩ := leaf_int (k := .i64) (by kernel_rfl) (e2_0)
  have w_a_Command_Turn : -9223372036854775808 ≤ a_Command_Turn ∧ a_Command_Turn ≤ 9223372036854775807 := w_a_Command_Turn
  obtain ⟨v2_1, c2_1, rfl, e2_1, o2_2⟩ := leafs_cons o2_1
  obtain ⟨a_Command_Forward, rfl, w_a_Command_Forward⟩ := leaf_int (k := .i64) (by kernel_rfl) (e2_1)
  have w_a_Command_Forward : -9223372036854775808 ≤ a_Command_Forward ∧ a_Command_Forward ≤ 9223372036854775807 := w_a_Command_Forward
  obtain ⟨v2_2, c2_2, rfl, e2_2, o2_3⟩ := leafs_cons o2_2
  obtain ⟨a_Slip_Turn, rfl, w_a_Slip_Turn⟩ := leaf_int (k := .i64) (by kernel_rfl) (e2_2)
  have w_a_Slip_Turn : -9223372036854775808 ≤ a_Slip_Turn ∧ a_Slip_Turn ≤ 9223372036854775807 := w_a_Slip_Turn
  obtain ⟨v2_3, c2_3, rfl, e2_3, o2_4⟩ := leafs_cons o2_3
  obtain ⟨a_Slip_Length, rfl, w_a_Slip_Length⟩ := leaf_int (k := .i64) (by kernel_rfl) (e2_3)
  have w_a_Slip_Length : -9223372036854775808 ≤ a_Slip_Length ∧ a_Slip_Length ≤ 9223372036854775807 := w_a_Slip_Length
  obtain ⟨v2_4, c2_4, rfl, e2_4, o2_5⟩ := leafs_cons o2_4
  obtain ⟨a_Slip_X, rfl, w_a_Slip_X⟩ := leaf_int (k := .i64) (by kernel_rfl) (e2_4)
  have w_a_Slip_X : -9223372036854775808 ≤ a_Slip_X ∧ a_Slip_X ≤ 9223372036854775807 := w_a_Slip_X
  obtain ⟨v2_5, c2_5, rfl, e2_5, o2_6⟩ := leafs_cons o2_5
  obtain ⟨a_Slip_Y, rfl, w_a_Slip_Y⟩ := leaf_int (k := .i64) (by kernel_rfl) (e2_5)
  have w_a_Slip_Y : -9223372036854775808 ≤ a_Slip_Y ∧ a_Slip_Y ≤ 9223372036854775807 := w_a_Slip_Y
  obtain ⟨v2_6, c2_6, rfl, e2_6, o2_7⟩ := leafs_cons o2_6
  obtain ⟨a_MarksL, f_a_Marks, one_a_Marks, rel_a_Marks, blk_a_Marks⟩ := leaf_row (E := eI) (e := 3) (by kernel_rfl) (by kernel_rfl) (by kernel_rfl) (by decide) (fun _ => rfl) (e2_6)
  obtain ⟨v2_7, c2_7, rfl, e2_7, o2_8⟩ := leafs_cons o2_7
  obtain ⟨a_ErrsL, f_a_Errs, one_a_Errs, rel_a_Errs, blk_a_Errs⟩ := leaf_row (E := eI) (e := 3) (by kernel_rfl) (by kernel_rfl) (by kernel_rfl) (by decide) (fun _ => rfl) (e2_7)
  obtain rfl := leafs_nil o2_8
  have key := row_calls (n := 3) (l := [(0, .ro p_CellsL.length eU8.sz (rowF eU8 p_CellsL)), (1, .ro a_MarksL.length eI.sz (rowF eI a_MarksL)), (2, .ro a_ErrsL.length eI.sz (rowF eI a_ErrsL))]) (vs := [v0_2, v2_6, v2_7]) c9 (by kernel_rfl) (args := [.a [.v (.int .i64 p_W), .v (.int .i64 p_H), .n 0], .a [.v (.int .i64 at_X), .v (.int .i64 at_Y), .v (.int .i64 at_H)], .a [.v (.int .i64 a_Command_Turn), .v (.int .i64 a_Command_Forward), .v (.int .i64 a_Slip_Turn), .v (.int .i64 a_Slip_Length), .v (.int .i64 a_Slip_X), .v (.int .i64 a_Slip_Y), .n 1, .n 2]]) rfl (by simp only [sc1L, sc1, scL, SC.sc, scV, scEnt, scE, rowF_scT, upto, Nat.reduceLT, Nat.reduceAdd, and_self, and_true, true_and]) (by simp only [sc1L, sc1, scL, SC.sc, scV, scEnt, scE, rowF_scT, upto, Nat.reduceLT, Nat.reduceAdd, and_self, and_true, true_and]) (W := W) ⟨one_p_Cells, one_a_Marks, one_a_Errs, trivial⟩ ⟨⟨rfl, rel_p_Cells _, blk_p_Cells⟩, ⟨rfl, rel_a_Marks _, blk_a_Marks⟩, ⟨rfl, rel_a_Errs _, blk_a_Errs⟩, trivial⟩ ?_
  · refine key.mono fun e W' ⟨he, hb⟩ => ?_
    subst he
    exact ⟨_, rfl, post_true laidOut rfl uB (by kernel_rfl) rfl hW' rfl hb⟩
  · refine ⟨(isRow_rowF _).2 trivial, (isRow_rowF _).2 trivial, (isRow_rowF _).2 trivial, ?_⟩
    try rw [decL_rowF p_CellsL]
    try rw [decL_rowF a_MarksL]
    try rw [decL_rowF a_ErrsL]
    trivial

theorem raySweeps : Rows.RaySweepsSaid :=
  OpenClaim.holds_of_wide 9 Try.f9 rfl rfl rfl rfl rfl rfl rfl ⟨rfl, rfl, rfl, rfl, rfl⟩ rfl rfl rfl rfl rfl (by kernel_rfl) Try.func9 (by kernel_rfl)
    (of_decide_eq_true (by kernel_rfl)) (by unfold Func.isWrapper; first | (rw [if_pos (by decide +kernel)]; kernel_rfl) | (rw [if_neg (by decide +kernel)]; exact ⟨rfl, rfl⟩))
    (fun os started H enc _ => raySweeps_lifted os started H enc)

set_option maxRecDepth 100000 in
theorem rayAll_lifted (os : Os) (started : os.Started) (H : Type) (enc : TypeId × Value → H) :
    ReturnsInHanded {} Try.checked os 10 .any (Rows.rayAllSpec.pre6 enc Try.prog Try.f10 Rows.rayAllRow.domain false) (Rows.rayAllSpec.post enc Try.prog Try.f10 false true false false) := by
  refine returnsInHanded_of_change (C := Try.checked) own started (by kernel_rfl) Try.func10
    (ChangeSpec.witness6 (enc := enc) (C := Try.checked) false ⟨#[], #[.agg #[.int .i64 0, .int .i64 0, .slice none 0 0], .agg #[.int .i64 0, .int .i64 0, .int .i64 0], .slice none 0 0], []⟩ 8 (by kernel_rfl) (by kernel_rfl) (by kernel_rfl) (by kernel_rfl)) ?_
  intro W base args ds gs before hval0 hW hcnd _
  have hval : ∀ (j : Nat) t v, Try.f10.params[j]? = some t → args[j]? = some v → Value.okWide Try.prog W .any base t v := hval0
  have hW' := hW
  obtain ⟨p, q, hA0, hV, rfl, hfz, hnd⟩ := hW
  have hA : DataW.TrodAll enc Try.prog W 0 (fun _ => true) true Try.f10.params.toList args.toList ds p := hA0
  rw [Try.params10] at hA hval
  obtain ⟨v0, vs0, d0, ds0, p0, q0, hargs, rfl, rfl, h0, r0⟩ := trodAll_cons hA
  obtain ⟨v1, vs1, d1, ds1, p1, q1, rfl, rfl, rfl, h1, r1⟩ := trodAll_cons r0
  obtain ⟨v2, vs2, d2, ds2, p2, q2, rfl, rfl, rfl, h2, r2⟩ := trodAll_cons r1
  obtain ⟨rfl, rfl, rfl⟩ := trodAll_nil r2
  obtain rfl : args = #[v0, v1, v2] := by cases args; simp_all
  obtain ⟨rfl, rfl⟩ := trodVars_none hV
  obtain ⟨c0, rfl, o0_0⟩ := open_agg (ts := [3, 3, 22]) Try.underlying24 (by kernel_rfl) (hval 0 24 v0 rfl rfl) h0
  obtain ⟨v0_0, c0_0, rfl, e0_0, o0_1⟩ := leafs_cons o0_0
  obtain ⟨p_W, rfl, w_p_W⟩ := leaf_int (k := .i64) (by kernel_rfl) (e0_0)
  have w_p_W : -9223372036854775808 ≤ p_W ∧ p_W ≤ 9223372036854775807 := w_p_W
  obtain ⟨v0_1, c0_1, rfl, e0_1, o0_2⟩ := leafs_cons o0_1
  obtain ⟨p_H, rfl, w_p_H⟩ := leaf_int (k := .i64) (by kernel_rfl) (e0_1)
  have w_p_H : -9223372036854775808 ≤ p_H ∧ p_H ≤ 9223372036854775807 := w_p_H
  obtain ⟨v0_2, c0_2, rfl, e0_2, o0_3⟩ := leafs_cons o0_2
  obtain ⟨p_CellsL, f_p_Cells, one_p_Cells, rel_p_Cells, blk_p_Cells⟩ := leaf_row (E := eU8) (e := 5) (by kernel_rfl) (by kernel_rfl) (by kernel_rfl) (by decide) (fun _ => rfl) (e0_2)
  obtain rfl := leafs_nil o0_3
  obtain ⟨c1, rfl, o1_0⟩ := open_agg (ts := [3, 3, 3]) Try.underlying26 (by kernel_rfl) (hval 1 26 v1 rfl rfl) h1
  obtain ⟨v1_0, c1_0, rfl, e1_0, o1_1⟩ := leafs_cons o1_0
  obtain ⟨at_X, rfl, w_at_X⟩ := leaf_int (k := .i64) (by kernel_rfl) (e1_0)
  have w_at_X : -9223372036854775808 ≤ at_X ∧ at_X ≤ 9223372036854775807 := w_at_X
  obtain ⟨v1_1, c1_1, rfl, e1_1, o1_2⟩ := leafs_cons o1_1
  obtain ⟨at_Y, rfl, w_at_Y⟩ := leaf_int (k := .i64) (by kernel_rfl) (e1_1)
  have w_at_Y : -9223372036854775808 ≤ at_Y ∧ at_Y ≤ 9223372036854775807 := w_at_Y
  obtain ⟨v1_2, c1_2, rfl, e1_2, o1_3⟩ := leafs_cons o1_2
  obtain ⟨at_H, rfl, w_at_H⟩ := leaf_int (k := .i64) (by kernel_rfl) (e1_2)
  have w_at_H : -9223372036854775808 ≤ at_H ∧ at_H ≤ 9223372036854775807 := w_at_H
  obtain rfl := leafs_nil o1_3
  obtain ⟨sL, f_s, one_s, rel_s, blk_s⟩ := leaf_row (E := eC) (e := 28) (by kernel_rfl) (by kernel_rfl) (by kernel_rfl) (by decide) (fun _ => rfl) (open_one (by kernel_rfl) (hval 2 62 v2 rfl rfl) h2)
  have key := row_calls (n := 2) (l := [(0, .ro p_CellsL.length eU8.sz (rowF eU8 p_CellsL)), (1, .ro sL.length eC.sz (rowF eC sL))]) (vs := [v0_2, v2]) c10 (by kernel_rfl) (args := [.a [.v (.int .i64 p_W), .v (.int .i64 p_H), .n 0], .a [.v (.int .i64 at_X), .v (.int .i64 at_Y), .v (.int .i64 at_H)], .c (.n 1)]) rfl (by simp only [sc1L, sc1, scL, SC.sc, scV, scEnt, scE, rowF_scT, upto, Nat.reduceLT, Nat.reduceAdd, and_self, and_true, true_and]) (by simp only [sc1L, sc1, scL, SC.sc, scV, scEnt, scE, rowF_scT, upto, Nat.reduceLT, Nat.reduceAdd, and_self, and_true, true_and]) (W := W) ⟨one_p_Cells, one_s, trivial⟩ ⟨⟨rfl, rel_p_Cells _, blk_p_Cells⟩, ⟨rfl, rel_s _, blk_s⟩, trivial⟩ ?_
  · refine key.mono fun e W' ⟨he, hb⟩ => ?_
    subst he
    exact ⟨_, rfl, post_true laidOut rfl uB (by kernel_rfl) rfl hW' rfl hb⟩
  · refine ⟨(isRow_rowF _).2 trivial, (isRow_rowF _).2 trivial, ?_⟩
    try rw [decL_rowF p_CellsL]
    try rw [decL_rowF sL]
    trivial

theorem rayAll : Rows.RayAllSaid :=
  OpenClaim.holds_of_wide 10 Try.f10 rfl rfl rfl rfl rfl rfl rfl ⟨rfl, rfl, rfl, rfl, rfl⟩ rfl rfl rfl rfl rfl (by kernel_rfl) Try.func10 (by kernel_rfl)
    (of_decide_eq_true (by kernel_rfl)) (by unfold Func.isWrapper; first | (rw [if_pos (by decide +kernel)]; kernel_rfl) | (rw [if_neg (by decide +kernel)]; exact ⟨rfl, rfl⟩))
    (fun os started H enc _ => rayAll_lifted os started H enc)
end Go.Proofs.Ytpnpbbagonknjaa
