/- 'wayfinderlaw08.PlanSquares' returns true whatever the input, and the arguments read as before. No conditions. -/
import Derived.Test.YtbjgaejmkhjbaaaQ7
import Derived.Test.YtbjgaejmkhjbaaaSz3
set_option linter.unusedVariables false
set_option linter.unusedSimpArgs false
namespace Go.Proofs.Ytbjgaejmkhjbaaa
open Go.Sx Go.ChangeShapes Go.WideShapes Go.ChangeAt Go.RowKit
theorem own : ownKnob Try.prog.godebug = none := by kernel_rfl
theorem laidOut : laidOutB Try.prog = true := by kernel_rfl
theorem uB : Try.prog.underlying 4 = some .bool := by kernel_rfl

set_option maxRecDepth 100000 in
theorem planSquares_lifted (os : Os) (started : os.Started) (H : Type) (enc : TypeId × Value → H) :
    ReturnsInHanded {} Try.checked os 10 .any (Rows.planSquaresSpec.pre6 enc Try.prog Try.f10 Rows.planSquaresRow.domain false) (Rows.planSquaresSpec.post enc Try.prog Try.f10 false true false false) := by
  refine returnsInHanded_of_change (C := Try.checked) own started (by kernel_rfl) Try.func10
    (ChangeSpec.witness6 (enc := enc) (C := Try.checked) false ⟨#[], #[.agg #[.int .i64 0, .int .i64 0], .agg #[.int .i64 0, .int .i64 0]], []⟩ 8 (by kernel_rfl) (by kernel_rfl) (by kernel_rfl) (by kernel_rfl)) ?_
  intro W base args ds gs before hval0 hW hcnd _
  have hval : ∀ (j : Nat) t v, Try.f10.params[j]? = some t → args[j]? = some v → Value.okWide Try.prog W .any base t v := hval0
  have hW' := hW
  obtain ⟨p, q, hA0, hV, rfl, hfz, hnd⟩ := hW
  have hA : DataW.TrodAll enc Try.prog W 0 (fun _ => true) true Try.f10.params.toList args.toList ds p := hA0
  rw [Try.params10] at hA hval
  obtain ⟨v0, vs0, d0, ds0, p0, q0, hargs, rfl, rfl, h0, r0⟩ := trodAll_cons hA
  obtain ⟨v1, vs1, d1, ds1, p1, q1, rfl, rfl, rfl, h1, r1⟩ := trodAll_cons r0
  obtain ⟨rfl, rfl, rfl⟩ := trodAll_nil r1
  obtain rfl : args = #[v0, v1] := by cases args; simp_all
  obtain ⟨rfl, rfl⟩ := trodVars_none hV
  obtain ⟨c0, rfl, o0_0⟩ := open_agg (ts := [3, 3]) Try.underlying47 (by kernel_rfl) (hval 0 47 v0 rfl rfl) h0
  obtain ⟨v0_0, c0_0, rfl, e0_0, o0_1⟩ := leafs_cons o0_0
  obtain ⟨c_X, rfl, w_c_X⟩ := leaf_int (k := .i64) (by kernel_rfl) (e0_0)
  have w_c_X : -9223372036854775808 ≤ c_X ∧ c_X ≤ 9223372036854775807 := w_c_X
  obtain ⟨v0_1, c0_1, rfl, e0_1, o0_2⟩ := leafs_cons o0_1
  obtain ⟨c_Y, rfl, w_c_Y⟩ := leaf_int (k := .i64) (by kernel_rfl) (e0_1)
  have w_c_Y : -9223372036854775808 ≤ c_Y ∧ c_Y ≤ 9223372036854775807 := w_c_Y
  obtain rfl := leafs_nil o0_2
  obtain ⟨c1, rfl, o1_0⟩ := open_agg (ts := [3, 3]) Try.underlying23 (by kernel_rfl) (hval 1 23 v1 rfl rfl) h1
  obtain ⟨v1_0, c1_0, rfl, e1_0, o1_1⟩ := leafs_cons o1_0
  obtain ⟨p_X, rfl, w_p_X⟩ := leaf_int (k := .i64) (by kernel_rfl) (e1_0)
  have w_p_X : -9223372036854775808 ≤ p_X ∧ p_X ≤ 9223372036854775807 := w_p_X
  obtain ⟨v1_1, c1_1, rfl, e1_1, o1_2⟩ := leafs_cons o1_1
  obtain ⟨p_Y, rfl, w_p_Y⟩ := leaf_int (k := .i64) (by kernel_rfl) (e1_1)
  have w_p_Y : -9223372036854775808 ≤ p_Y ∧ p_Y ≤ 9223372036854775807 := w_p_Y
  obtain rfl := leafs_nil o1_2
  have key := row_calls (n := 0) (l := []) (vs := []) c10 (by kernel_rfl) (args := [.a [.v (.int .i64 c_X), .v (.int .i64 c_Y)], .a [.v (.int .i64 p_X), .v (.int .i64 p_Y)]]) rfl (by simp only [sc1L, sc1, scL, SC.sc, scV, scEnt, scE, rowF_scT, upto, Nat.reduceLT, Nat.reduceAdd, and_self, and_true, true_and]) (by simp only [sc1L, sc1, scL, SC.sc, scV, scEnt, scE, rowF_scT, upto, Nat.reduceLT, Nat.reduceAdd, and_self, and_true, true_and]) (W := W) trivial trivial ?_
  · refine key.mono fun e W' ⟨he, hb⟩ => ?_
    subst he
    exact ⟨_, rfl, post_true laidOut rfl uB (by kernel_rfl) rfl hW' rfl hb⟩
  · refine ?_
    trivial

theorem planSquares : Rows.PlanSquaresSaid :=
  OpenClaim.holds_of_wide 10 Try.f10 rfl rfl rfl rfl rfl rfl rfl ⟨rfl, rfl, rfl, rfl, rfl⟩ rfl rfl rfl rfl rfl (by kernel_rfl) Try.func10 (by kernel_rfl)
    (of_decide_eq_true (by kernel_rfl)) (by unfold Func.isWrapper; first | (rw [if_pos (by decide +kernel)]; kernel_rfl) | (rw [if_neg (by decide +kernel)]; exact ⟨rfl, rfl⟩))
    (fun os started H enc _ => planSquares_lifted os started H enc)
end Go.Proofs.Ytbjgaejmkhjbaaa
