/- 'wayfinderlaw39.TourLoops' returns true whatever the input, and the arguments read as before. No conditions. -/
import Derived.Test.YtnkkhmeojifckaaTBK8
import Derived.Test.YtnkkhmeojifckaaTBSz4
set_option linter.unusedVariables false
set_option linter.unusedSimpArgs false
namespace Go.Proofs.Ytnkkhmeojifckaa
open Go.Sx Go.ChangeShapes Go.WideShapes Go.ChangeAt Go.RowKit
theorem own : ownKnob Try.prog.godebug = none := by kernel_rfl
theorem laidOut : laidOutB Try.prog = true := by kernel_rfl
theorem uB : Try.prog.underlying 4 = some .bool := by kernel_rfl
set_option maxRecDepth 100000 in
theorem tourLoops_lifted (os : Os) (started : os.Started) (H : Type) (enc : TypeId × Value → H) :
    ReturnsInHanded {} Try.checked os 5 .any (Rows.tourLoopsSpec.pre6 enc Try.prog Try.f5 Rows.tourLoopsRow.domain false) (Rows.tourLoopsSpec.post enc Try.prog Try.f5 false true false false) := by
  refine returnsInHanded_of_change (C := Try.checked) own started (by kernel_rfl) Try.func5
    (ChangeSpec.witness6 (enc := enc) (C := Try.checked) false ⟨#[], #[.agg #[.int .i64 0, .int .i64 0, .slice none 0 0]], []⟩ 8 (by kernel_rfl) (by kernel_rfl) (by kernel_rfl) (by kernel_rfl)) ?_
  intro W base args ds gs before hval0 hW hcnd _
  have hval : ∀ (j : Nat) t v, Try.f5.params[j]? = some t → args[j]? = some v → Value.okWide Try.prog W .any base t v := hval0
  have hW' := hW
  obtain ⟨p, q, hA0, hV, rfl, hfz, hnd⟩ := hW
  have hA : DataW.TrodAll enc Try.prog W 0 (fun _ => true) true Try.f5.params.toList args.toList ds p := hA0
  rw [Try.params5] at hA hval
  obtain ⟨v0, vs0, d0, ds0, p0, q0, hargs, rfl, rfl, h0, r0⟩ := trodAll_cons hA
  obtain ⟨rfl, rfl, rfl⟩ := trodAll_nil r0
  obtain rfl : args = #[v0] := by cases args; simp_all
  obtain ⟨rfl, rfl⟩ := trodVars_none hV
  obtain ⟨c0, rfl, o0_0⟩ := open_agg (ts := [3, 3, 22]) Try.underlying24 (by kernel_rfl) (hval 0 24 v0 rfl rfl) h0
  obtain ⟨v0_0, c0_0, rfl, e0_0, o0_1⟩ := leafs_cons o0_0
  obtain ⟨p_W, rfl, w_p_W⟩ := leaf_int (k := .i64) (by kernel_rfl) (e0_0)
  have w_p_W : -9223372036854775808 ≤ p_W ∧ p_W ≤ 9223372036854775807 := w_p_W
  obtain ⟨v0_1, c0_1, rfl, e0_1, o0_2⟩ := leafs_cons o0_1
  obtain ⟨p_H, rfl, w_p_H⟩ := leaf_int (k := .i64) (by kernel_rfl) (e0_1)
  have w_p_H : -9223372036854775808 ≤ p_H ∧ p_H ≤ 9223372036854775807 := w_p_H
  obtain ⟨v0_2, c0_2, rfl, e0_2, o0_3⟩ := leafs_cons o0_2
  obtain ⟨p_CellsL, f_p_Cells, one_p_Cells, rel_p_Cells, blk_p_Cells⟩ := leaf_row (E := eU8) (e := 5) (by kernel_rfl) (by kernel_rfl) (by kernel_rfl) (by decide) (fun _ => rfl) (e0_2)
  obtain rfl := leafs_nil o0_3
  have key := row_calls (n := 1) (l := [(0, .ro p_CellsL.length eU8.sz (rowF eU8 p_CellsL))]) (vs := [v0_2]) c5 (by kernel_rfl) (args := [.a [.v (.int .i64 p_W), .v (.int .i64 p_H), .n 0]]) rfl (by simp only [sc1L, sc1, scL, SC.sc, scV, scEnt, scE, alSc, rowF_scT, upto, Nat.reduceLT, Nat.reduceAdd, and_self, and_true, true_and]) (by simp only [sc1L, sc1, scL, SC.sc, scV, scEnt, scE, alSc, rowF_scT, upto, Nat.reduceLT, Nat.reduceAdd, and_self, and_true, true_and]) (W := W) ⟨one_p_Cells, trivial⟩ ⟨⟨rfl, rel_p_Cells _, footR blk_p_Cells⟩, trivial⟩ ?_
  · refine key.mono fun e W' ⟨he, hb⟩ => ?_
    subst he
    exact ⟨_, rfl, post_true laidOut rfl uB (by kernel_rfl) rfl hW' rfl hb⟩
  · refine ⟨(isRow_rowF _).2 trivial, ?_⟩
    try rw [decL_rowF p_CellsL]
    trivial
theorem tourLoops : Rows.TourLoopsSaid :=
  OpenClaim.holds_of_wide 5 Try.f5 rfl rfl rfl rfl rfl rfl rfl ⟨rfl, rfl, rfl, rfl, rfl⟩ rfl rfl rfl rfl rfl (by kernel_rfl) Try.func5 (by kernel_rfl)
    (of_decide_eq_true (by kernel_rfl)) (by unfold Func.isWrapper; first | (rw [if_pos (by decide +kernel)]; kernel_rfl) | (rw [if_neg (by decide +kernel)]; exact ⟨rfl, rfl⟩))
    (fun os started H enc _ => tourLoops_lifted os started H enc)
end Go.Proofs.Ytnkkhmeojifckaa
