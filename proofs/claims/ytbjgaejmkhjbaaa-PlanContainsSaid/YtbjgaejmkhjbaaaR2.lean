/- 'wayfinderlaw08.PlanContains' and 'wayfinderlaw08.PlanCells' return true whatever the input, and the arguments read as before. No conditions. -/
import Derived.Test.YtbjgaejmkhjbaaaQ5
import Derived.Test.YtbjgaejmkhjbaaaSz3
set_option linter.unusedVariables false
set_option linter.unusedSimpArgs false
namespace Go.Proofs.Ytbjgaejmkhjbaaa
open Go.Sx Go.ChangeShapes Go.WideShapes Go.ChangeAt Go.RowKit
theorem own : ownKnob Try.prog.godebug = none := by kernel_rfl
theorem laidOut : laidOutB Try.prog = true := by kernel_rfl
theorem uB : Try.prog.underlying 4 = some .bool := by kernel_rfl

set_option maxRecDepth 100000 in
theorem planContains_lifted (os : Os) (started : os.Started) (H : Type) (enc : TypeId × Value → H) :
    ReturnsInHanded {} Try.checked os 5 .any (Rows.planContainsSpec.pre6 enc Try.prog Try.f5 Rows.planContainsRow.domain false) (Rows.planContainsSpec.post enc Try.prog Try.f5 false true false false) := by
  refine returnsInHanded_of_change (C := Try.checked) own started (by kernel_rfl) Try.func5
    (ChangeSpec.witness6 (enc := enc) (C := Try.checked) false ⟨#[], #[.agg #[.int .i64 0, .int .i64 0, .int .i64 0, .int .i64 0, .int .i64 0, .int .i64 0, .int .i64 0], .agg #[.int .i64 0, .int .i64 0, .int .i64 0, .int .i64 0], .int .u8 0], []⟩ 8 (by kernel_rfl) (by kernel_rfl) (by kernel_rfl) (by kernel_rfl)) ?_
  intro W base args ds gs before hval0 hW hcnd _
  have hval : ∀ (j : Nat) t v, Try.f5.params[j]? = some t → args[j]? = some v → Value.okWide Try.prog W .any base t v := hval0
  have hW' := hW
  obtain ⟨p, q, hA0, hV, rfl, hfz, hnd⟩ := hW
  have hA : DataW.TrodAll enc Try.prog W 0 (fun _ => true) true Try.f5.params.toList args.toList ds p := hA0
  rw [Try.params5] at hA hval
  obtain ⟨v0, vs0, d0, ds0, p0, q0, hargs, rfl, rfl, h0, r0⟩ := trodAll_cons hA
  obtain ⟨v1, vs1, d1, ds1, p1, q1, rfl, rfl, rfl, h1, r1⟩ := trodAll_cons r0
  obtain ⟨v2, vs2, d2, ds2, p2, q2, rfl, rfl, rfl, h2, r2⟩ := trodAll_cons r1
  obtain ⟨rfl, rfl, rfl⟩ := trodAll_nil r2
  obtain rfl : args = #[v0, v1, v2] := by cases args; simp_all
  obtain ⟨rfl, rfl⟩ := trodVars_none hV
  obtain ⟨c0, rfl, o0_0⟩ := open_agg (ts := [3, 3, 3, 3, 3, 3, 3]) Try.underlying27 (by kernel_rfl) (hval 0 27 v0 rfl rfl) h0
  obtain ⟨v0_0, c0_0, rfl, e0_0, o0_1⟩ := leafs_cons o0_0
  obtain ⟨y_P_X, rfl, w_y_P_X⟩ := leaf_int (k := .i64) (by kernel_rfl) (e0_0)
  have w_y_P_X : -9223372036854775808 ≤ y_P_X ∧ y_P_X ≤ 9223372036854775807 := w_y_P_X
  obtain ⟨v0_1, c0_1, rfl, e0_1, o0_2⟩ := leafs_cons o0_1
  obtain ⟨y_P_Y, rfl, w_y_P_Y⟩ := leaf_int (k := .i64) (by kernel_rfl) (e0_1)
  have w_y_P_Y : -9223372036854775808 ≤ y_P_Y ∧ y_P_Y ≤ 9223372036854775807 := w_y_P_Y
  obtain ⟨v0_2, c0_2, rfl, e0_2, o0_3⟩ := leafs_cons o0_2
  obtain ⟨y_V_X, rfl, w_y_V_X⟩ := leaf_int (k := .i64) (by kernel_rfl) (e0_2)
  have w_y_V_X : -9223372036854775808 ≤ y_V_X ∧ y_V_X ≤ 9223372036854775807 := w_y_V_X
  obtain ⟨v0_3, c0_3, rfl, e0_3, o0_4⟩ := leafs_cons o0_3
  obtain ⟨y_V_Y, rfl, w_y_V_Y⟩ := leaf_int (k := .i64) (by kernel_rfl) (e0_3)
  have w_y_V_Y : -9223372036854775808 ≤ y_V_Y ∧ y_V_Y ≤ 9223372036854775807 := w_y_V_Y
  obtain ⟨v0_4, c0_4, rfl, e0_4, o0_5⟩ := leafs_cons o0_4
  obtain ⟨y_V_D, rfl, w_y_V_D⟩ := leaf_int (k := .i64) (by kernel_rfl) (e0_4)
  have w_y_V_D : -9223372036854775808 ≤ y_V_D ∧ y_V_D ≤ 9223372036854775807 := w_y_V_D
  obtain ⟨v0_5, c0_5, rfl, e0_5, o0_6⟩ := leafs_cons o0_5
  obtain ⟨y_Lo, rfl, w_y_Lo⟩ := leaf_int (k := .i64) (by kernel_rfl) (e0_5)
  have w_y_Lo : -9223372036854775808 ≤ y_Lo ∧ y_Lo ≤ 9223372036854775807 := w_y_Lo
  obtain ⟨v0_6, c0_6, rfl, e0_6, o0_7⟩ := leafs_cons o0_6
  obtain ⟨y_Hi, rfl, w_y_Hi⟩ := leaf_int (k := .i64) (by kernel_rfl) (e0_6)
  have w_y_Hi : -9223372036854775808 ≤ y_Hi ∧ y_Hi ≤ 9223372036854775807 := w_y_Hi
  obtain rfl := leafs_nil o0_7
  obtain ⟨c1, rfl, o1_0⟩ := open_agg (ts := [3, 3, 3, 3]) Try.underlying36 (by kernel_rfl) (hval 1 36 v1 rfl rfl) h1
  obtain ⟨v1_0, c1_0, rfl, e1_0, o1_1⟩ := leafs_cons o1_0
  obtain ⟨r_X0, rfl, w_r_X0⟩ := leaf_int (k := .i64) (by kernel_rfl) (e1_0)
  have w_r_X0 : -9223372036854775808 ≤ r_X0 ∧ r_X0 ≤ 9223372036854775807 := w_r_X0
  obtain ⟨v1_1, c1_1, rfl, e1_1, o1_2⟩ := leafs_cons o1_1
  obtain ⟨r_Y0, rfl, w_r_Y0⟩ := leaf_int (k := .i64) (by kernel_rfl) (e1_1)
  have w_r_Y0 : -9223372036854775808 ≤ r_Y0 ∧ r_Y0 ≤ 9223372036854775807 := w_r_Y0
  obtain ⟨v1_2, c1_2, rfl, e1_2, o1_3⟩ := leafs_cons o1_2
  obtain ⟨r_X1, rfl, w_r_X1⟩ := leaf_int (k := .i64) (by kernel_rfl) (e1_2)
  have w_r_X1 : -9223372036854775808 ≤ r_X1 ∧ r_X1 ≤ 9223372036854775807 := w_r_X1
  obtain ⟨v1_3, c1_3, rfl, e1_3, o1_4⟩ := leafs_cons o1_3
  obtain ⟨r_Y1, rfl, w_r_Y1⟩ := leaf_int (k := .i64) (by kernel_rfl) (e1_3)
  have w_r_Y1 : -9223372036854775808 ≤ r_Y1 ∧ r_Y1 ≤ 9223372036854775807 := w_r_Y1
  obtain rfl := leafs_nil o1_4
  obtain ⟨more, rfl, w_more⟩ := leaf_int (k := .u8) (by kernel_rfl) (open_one (by kernel_rfl) (hval 2 5 v2 rfl rfl) h2)
  have w_more : 0 ≤ more ∧ more ≤ 255 := w_more
  have key := row_calls (n := 0) (l := []) (vs := []) c5 (by kernel_rfl) (args := [.a [.v (.int .i64 y_P_X), .v (.int .i64 y_P_Y), .v (.int .i64 y_V_X), .v (.int .i64 y_V_Y), .v (.int .i64 y_V_D), .v (.int .i64 y_Lo), .v (.int .i64 y_Hi)], .a [.v (.int .i64 r_X0), .v (.int .i64 r_Y0), .v (.int .i64 r_X1), .v (.int .i64 r_Y1)], .c (.v (.int .u8 more))]) rfl (by simp only [sc1L, sc1, scL, SC.sc, scV, scEnt, scE, rowF_scT, upto, Nat.reduceLT, Nat.reduceAdd, and_self, and_true, true_and]) (by simp only [sc1L, sc1, scL, SC.sc, scV, scEnt, scE, rowF_scT, upto, Nat.reduceLT, Nat.reduceAdd, and_self, and_true, true_and]) (W := W) trivial trivial ?_
  · refine key.mono fun e W' ⟨he, hb⟩ => ?_
    subst he
    exact ⟨_, rfl, post_true laidOut rfl uB (by kernel_rfl) rfl hW' rfl hb⟩
  · refine ?_
    exact w_more

theorem planContains : Rows.PlanContainsSaid :=
  OpenClaim.holds_of_wide 5 Try.f5 rfl rfl rfl rfl rfl rfl rfl ⟨rfl, rfl, rfl, rfl, rfl⟩ rfl rfl rfl rfl rfl (by kernel_rfl) Try.func5 (by kernel_rfl)
    (of_decide_eq_true (by kernel_rfl)) (by unfold Func.isWrapper; first | (rw [if_pos (by decide +kernel)]; kernel_rfl) | (rw [if_neg (by decide +kernel)]; exact ⟨rfl, rfl⟩))
    (fun os started H enc _ => planContains_lifted os started H enc)

set_option maxRecDepth 100000 in
theorem planCells_lifted (os : Os) (started : os.Started) (H : Type) (enc : TypeId × Value → H) :
    ReturnsInHanded {} Try.checked os 6 .any (Rows.planCellsSpec.pre6 enc Try.prog Try.f6 Rows.planCellsRow.domain false) (Rows.planCellsSpec.post enc Try.prog Try.f6 false true false false) := by
  refine returnsInHanded_of_change (C := Try.checked) own started (by kernel_rfl) Try.func6
    (ChangeSpec.witness6 (enc := enc) (C := Try.checked) false ⟨#[], #[.agg #[.int .i64 0, .int .i64 0, .int .i64 0, .int .i64 0]], []⟩ 8 (by kernel_rfl) (by kernel_rfl) (by kernel_rfl) (by kernel_rfl)) ?_
  intro W base args ds gs before hval0 hW hcnd _
  have hval : ∀ (j : Nat) t v, Try.f6.params[j]? = some t → args[j]? = some v → Value.okWide Try.prog W .any base t v := hval0
  have hW' := hW
  obtain ⟨p, q, hA0, hV, rfl, hfz, hnd⟩ := hW
  have hA : DataW.TrodAll enc Try.prog W 0 (fun _ => true) true Try.f6.params.toList args.toList ds p := hA0
  rw [Try.params6] at hA hval
  obtain ⟨v0, vs0, d0, ds0, p0, q0, hargs, rfl, rfl, h0, r0⟩ := trodAll_cons hA
  obtain ⟨rfl, rfl, rfl⟩ := trodAll_nil r0
  obtain rfl : args = #[v0] := by cases args; simp_all
  obtain ⟨rfl, rfl⟩ := trodVars_none hV
  obtain ⟨c0, rfl, o0_0⟩ := open_agg (ts := [3, 3, 3, 3]) Try.underlying36 (by kernel_rfl) (hval 0 36 v0 rfl rfl) h0
  obtain ⟨v0_0, c0_0, rfl, e0_0, o0_1⟩ := leafs_cons o0_0
  obtain ⟨r_X0, rfl, w_r_X0⟩ := leaf_int (k := .i64) (by kernel_rfl) (e0_0)
  have w_r_X0 : -9223372036854775808 ≤ r_X0 ∧ r_X0 ≤ 9223372036854775807 := w_r_X0
  obtain ⟨v0_1, c0_1, rfl, e0_1, o0_2⟩ := leafs_cons o0_1
  obtain ⟨r_Y0, rfl, w_r_Y0⟩ := leaf_int (k := .i64) (by kernel_rfl) (e0_1)
  have w_r_Y0 : -9223372036854775808 ≤ r_Y0 ∧ r_Y0 ≤ 9223372036854775807 := w_r_Y0
  obtain ⟨v0_2, c0_2, rfl, e0_2, o0_3⟩ := leafs_cons o0_2
  obtain ⟨r_X1, rfl, w_r_X1⟩ := leaf_int (k := .i64) (by kernel_rfl) (e0_2)
  have w_r_X1 : -9223372036854775808 ≤ r_X1 ∧ r_X1 ≤ 9223372036854775807 := w_r_X1
  obtain ⟨v0_3, c0_3, rfl, e0_3, o0_4⟩ := leafs_cons o0_3
  obtain ⟨r_Y1, rfl, w_r_Y1⟩ := leaf_int (k := .i64) (by kernel_rfl) (e0_3)
  have w_r_Y1 : -9223372036854775808 ≤ r_Y1 ∧ r_Y1 ≤ 9223372036854775807 := w_r_Y1
  obtain rfl := leafs_nil o0_4
  have key := row_calls (n := 0) (l := []) (vs := []) c6 (by kernel_rfl) (args := [.a [.v (.int .i64 r_X0), .v (.int .i64 r_Y0), .v (.int .i64 r_X1), .v (.int .i64 r_Y1)]]) rfl (by simp only [sc1L, sc1, scL, SC.sc, scV, scEnt, scE, rowF_scT, upto, Nat.reduceLT, Nat.reduceAdd, and_self, and_true, true_and]) (by simp only [sc1L, sc1, scL, SC.sc, scV, scEnt, scE, rowF_scT, upto, Nat.reduceLT, Nat.reduceAdd, and_self, and_true, true_and]) (W := W) trivial trivial ?_
  · refine key.mono fun e W' ⟨he, hb⟩ => ?_
    subst he
    exact ⟨_, rfl, post_true laidOut rfl uB (by kernel_rfl) rfl hW' rfl hb⟩
  · refine ?_
    trivial

theorem planCells : Rows.PlanCellsSaid :=
  OpenClaim.holds_of_wide 6 Try.f6 rfl rfl rfl rfl rfl rfl rfl ⟨rfl, rfl, rfl, rfl, rfl⟩ rfl rfl rfl rfl rfl (by kernel_rfl) Try.func6 (by kernel_rfl)
    (of_decide_eq_true (by kernel_rfl)) (by unfold Func.isWrapper; first | (rw [if_pos (by decide +kernel)]; kernel_rfl) | (rw [if_neg (by decide +kernel)]; exact ⟨rfl, rfl⟩))
    (fun os started H enc _ => planCells_lifted os started H enc)
end Go.Proofs.Ytbjgaejmkhjbaaa
