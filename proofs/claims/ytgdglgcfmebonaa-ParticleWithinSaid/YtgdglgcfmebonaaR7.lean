/- 'wayfinderlaw21.ParticleWithin' returns true whatever the input, and the arguments read as before. No conditions. -/
import Derived.Test.YtgdglgcfmebonaaP7
import Derived.Test.YtgdglgcfmebonaaSx30
set_option linter.unusedVariables false
set_option linter.unusedSimpArgs false
namespace Go.Proofs.Ytgdglgcfmebonaa
open Go.Sx Go.ChangeShapes Go.WideShapes Go.ChangeAt Go.RowKit
theorem own : ownKnob Try.prog.godebug = none := by kernel_rfl
theorem laidOut : laidOutB Try.prog = true := by kernel_rfl
theorem uB : Try.prog.underlying 4 = some .bool := by kernel_rfl

set_option maxRecDepth 100000 in
theorem particleWithin_lifted (os : Os) (started : os.Started) (H : Type) (enc : TypeId × Value → H) :
    ReturnsInHanded {} Try.checked os 10 .any (Rows.particleWithinSpec.pre6 enc Try.prog Try.f10 Rows.particleWithinRow.domain false) (Rows.particleWithinSpec.post enc Try.prog Try.f10 false true false false) := by
  refine returnsInHanded_of_change (C := Try.checked) own started (by kernel_rfl) Try.func10
    (ChangeSpec.witness6 (enc := enc) (C := Try.checked) false ⟨#[], #[.slice none 0 0, .agg #[.int .i64 0, .int .i64 0, .int .i64 0, .int .i64 0, .int .i64 0, .int .i64 0, .int .u64 0]], []⟩ 8 (by kernel_rfl) (by kernel_rfl) (by kernel_rfl) (by kernel_rfl)) ?_
  intro W base args ds gs before hval0 hW hcnd _
  have hval : ∀ (j : Nat) t v, Try.f10.params[j]? = some t → args[j]? = some v → Value.okWide Try.prog W .any base t v := hval0
  have hW' := hW
  obtain ⟨p, q, hA0, hV, rfl, hfz, hnd⟩ := hW
  have hA : DataW.TrodAll enc Try.prog W 0 (fun _ => true) true Try.f10.params.toList args.toList ds p := hA0
  rw [Try.params10] at hA hval
  obtain ⟨v0, vs0, d0, ds0, p0, q0, hargs, rfl, rfl, h0, r0⟩ := trodAll_cons hA
  obtain ⟨v1, vs1, d1, ds1, p1, q1, rfl, rfl, rfl, h1, r1⟩ := trodAll_cons r0
  obtain ⟨rfl, rfl, rfl⟩ := trodAll_nil r1
  obtain rfl : args = #[v0, v1] := by cases args; simp_all
  obtain ⟨rfl, rfl⟩ := trodVars_none hV
  obtain ⟨lL, f_l, one_l, rel_l, blk_l⟩ := leaf_row (E := eP) (e := 35) (by kernel_rfl) (by kernel_rfl) (by kernel_rfl) (by decide) (fun _ => rfl) (open_one (by kernel_rfl) (hval 0 24 v0 rfl rfl) h0)
  obtain ⟨c1, rfl, o1_0⟩ := open_agg (ts := [3, 3, 3, 3, 3, 3, 50]) Try.underlying67 (by kernel_rfl) (hval 1 67 v1 rfl rfl) h1
  obtain ⟨v1_0, c1_0, rfl, e1_0, o1_1⟩ := leafs_cons o1_0
  obtain ⟨x_Command_Turn, rfl, w_x_Command_Turn⟩ := leaf_int (k := .i64) (by kernel_rfl) (e1_0)
  have w_x_Command_Turn : -9223372036854775808 ≤ x_Command_Turn ∧ x_Command_Turn ≤ 9223372036854775807 := w_x_Command_Turn
  obtain ⟨v1_1, c1_1, rfl, e1_1, o1_2⟩ := leafs_cons o1_1
  obtain ⟨x_Command_Forward, rfl, w_x_Command_Forward⟩ := leaf_int (k := .i64) (by kernel_rfl) (e1_1)
  have w_x_Command_Forward : -9223372036854775808 ≤ x_Command_Forward ∧ x_Command_Forward ≤ 9223372036854775807 := w_x_Command_Forward
  obtain ⟨v1_2, c1_2, rfl, e1_2, o1_3⟩ := leafs_cons o1_2
  obtain ⟨x_Bounds_Turn, rfl, w_x_Bounds_Turn⟩ := leaf_int (k := .i64) (by kernel_rfl) (e1_2)
  have w_x_Bounds_Turn : -9223372036854775808 ≤ x_Bounds_Turn ∧ x_Bounds_Turn ≤ 9223372036854775807 := w_x_Bounds_Turn
  obtain ⟨v1_3, c1_3, rfl, e1_3, o1_4⟩ := leafs_cons o1_3
  obtain ⟨x_Bounds_Length, rfl, w_x_Bounds_Length⟩ := leaf_int (k := .i64) (by kernel_rfl) (e1_3)
  have w_x_Bounds_Length : -9223372036854775808 ≤ x_Bounds_Length ∧ x_Bounds_Length ≤ 9223372036854775807 := w_x_Bounds_Length
  obtain ⟨v1_4, c1_4, rfl, e1_4, o1_5⟩ := leafs_cons o1_4
  obtain ⟨x_Bounds_Slip, rfl, w_x_Bounds_Slip⟩ := leaf_int (k := .i64) (by kernel_rfl) (e1_4)
  have w_x_Bounds_Slip : -9223372036854775808 ≤ x_Bounds_Slip ∧ x_Bounds_Slip ≤ 9223372036854775807 := w_x_Bounds_Slip
  obtain ⟨v1_5, c1_5, rfl, e1_5, o1_6⟩ := leafs_cons o1_5
  obtain ⟨x_Bounds_Range, rfl, w_x_Bounds_Range⟩ := leaf_int (k := .i64) (by kernel_rfl) (e1_5)
  have w_x_Bounds_Range : -9223372036854775808 ≤ x_Bounds_Range ∧ x_Bounds_Range ≤ 9223372036854775807 := w_x_Bounds_Range
  obtain ⟨v1_6, c1_6, rfl, e1_6, o1_7⟩ := leafs_cons o1_6
  obtain ⟨x_State, rfl, w_x_State⟩ := leaf_int (k := .u64) (by kernel_rfl) (e1_6)
  have w_x_State : 0 ≤ x_State ∧ x_State ≤ 18446744073709551615 := w_x_State
  obtain rfl := leafs_nil o1_7
  have key := row_calls (n := 1) (l := [(0, .ro lL.length eP.sz (rowF eP lL))]) (vs := [v0]) c10 (args := [.c (.n 0), .a [.v (.int .i64 x_Command_Turn), .v (.int .i64 x_Command_Forward), .v (.int .i64 x_Bounds_Turn), .v (.int .i64 x_Bounds_Length), .v (.int .i64 x_Bounds_Slip), .v (.int .i64 x_Bounds_Range), .v (.int .u64 x_State)]]) rfl (by simp only [sc1L, sc1, scL, SC.sc, scV, scEnt, scE, rowF_scT, upto, Nat.reduceLT, Nat.reduceAdd, and_self, and_true, true_and]) (by simp only [sc1L, sc1, scL, SC.sc, scV, scEnt, scE, rowF_scT, upto, Nat.reduceLT, Nat.reduceAdd, and_self, and_true, true_and]) (W := W) ⟨one_l, trivial⟩ ⟨⟨rfl, rel_l _, blk_l⟩, trivial⟩ ?_
  · refine key.mono fun e W' ⟨he, hb⟩ => ?_
    subst he
    exact ⟨_, rfl, post_true laidOut rfl uB (by kernel_rfl) rfl hW' rfl hb⟩
  · refine ⟨(isRow_rowF _).2 trivial, ?_⟩
    try rw [decL_rowF lL]
    exact ⟨w_x_State.1, by omega⟩

theorem particleWithin : Rows.ParticleWithinSaid :=
  OpenClaim.holds_of_wide 10 Try.f10 rfl rfl rfl rfl rfl rfl rfl ⟨rfl, rfl, rfl, rfl, rfl⟩ rfl rfl rfl rfl rfl (by kernel_rfl) Try.func10 (by kernel_rfl)
    (of_decide_eq_true (by kernel_rfl)) (by unfold Func.isWrapper; first | (rw [if_pos (by decide +kernel)]; kernel_rfl) | (rw [if_neg (by decide +kernel)]; exact ⟨rfl, rfl⟩))
    (fun os started H enc _ => particleWithin_lifted os started H enc)
end Go.Proofs.Ytgdglgcfmebonaa
