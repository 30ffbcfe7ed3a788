/- 'wayfinderlaw21.ParticleWeighs' returns true whatever the input, and the arguments read as before. No conditions. -/
import Derived.Test.YtibahioojjligaaGreatY3
import Derived.Test.YtibahioojjligaaGreatSz3
set_option linter.unusedVariables false
set_option linter.unusedSimpArgs false
namespace Go.Proofs.YtibahioojjligaaGreat
open Go.Sx Go.ChangeShapes Go.WideShapes Go.ChangeAt Go.RowKit
theorem own : ownKnob Tryz.prog.godebug = none := by kernel_rfl
theorem laidOut : laidOutB Tryz.prog = true := by kernel_rfl
theorem uB : Tryz.prog.underlying 4 = some .bool := by kernel_rfl

set_option maxRecDepth 100000 in
theorem particleWeighs_lifted (os : Os) (started : os.Started) (H : Type) (enc : TypeId × Value → H) :
    ReturnsInHanded {} Tryz.checked os 3 .any (Rows.particleWeighsSpec.pre6 enc Tryz.prog Tryz.f3 Rows.particleWeighsRow.domain false) (Rows.particleWeighsSpec.post enc Tryz.prog Tryz.f3 false true false false) := by
  refine returnsInHanded_of_change (C := Tryz.checked) own started (by kernel_rfl) Tryz.func3
    (ChangeSpec.witness6 (enc := enc) (C := Tryz.checked) false ⟨#[], #[.slice none 0 0, .agg #[.int .i64 0, .int .i64 0, .slice none 0 0, .slice none 0 0, .int .i64 0]], []⟩ 8 (by kernel_rfl) (by kernel_rfl) (by kernel_rfl) (by kernel_rfl)) ?_
  intro W base args ds gs before hval0 hW hcnd _
  have hval : ∀ (j : Nat) t v, Tryz.f3.params[j]? = some t → args[j]? = some v → Value.okWide Tryz.prog W .any base t v := hval0
  have hW' := hW
  obtain ⟨p, q, hA0, hV, rfl, hfz, hnd⟩ := hW
  have hA : DataW.TrodAll enc Tryz.prog W 0 (fun _ => true) true Tryz.f3.params.toList args.toList ds p := hA0
  rw [Tryz.params3] at hA hval
  obtain ⟨v0, vs0, d0, ds0, p0, q0, hargs, rfl, rfl, h0, r0⟩ := trodAll_cons hA
  obtain ⟨v1, vs1, d1, ds1, p1, q1, rfl, rfl, rfl, h1, r1⟩ := trodAll_cons r0
  obtain ⟨rfl, rfl, rfl⟩ := trodAll_nil r1
  obtain rfl : args = #[v0, v1] := by cases args; simp_all
  obtain ⟨rfl, rfl⟩ := trodVars_none hV
  obtain ⟨lL, f_l, one_l, rel_l, blk_l⟩ := leaf_row (E := eP) (e := 39) (by kernel_rfl) (by kernel_rfl) (by kernel_rfl) (by decide) (fun _ => rfl) (open_one (by kernel_rfl) (hval 0 22 v0 rfl rfl) h0)
  obtain ⟨c1, rfl, o1_0⟩ := open_agg (ts := [3, 3, 23, 26, 3]) Tryz.underlying28 (by kernel_rfl) (hval 1 28 v1 rfl rfl) h1
  obtain ⟨v1_0, c1_0, rfl, e1_0, o1_1⟩ := leafs_cons o1_0
  obtain ⟨x_Plan_W, rfl, w_x_Plan_W⟩ := leaf_int (k := .i64) (by kernel_rfl) (e1_0)
  have w_x_Plan_W : -9223372036854775808 ≤ x_Plan_W ∧ x_Plan_W ≤ 9223372036854775807 := w_x_Plan_W
  obtain ⟨v1_1, c1_1, rfl, e1_1, o1_2⟩ := leafs_cons o1_1
  obtain ⟨x_Plan_H, rfl, w_x_Plan_H⟩ := leaf_int (k := .i64) (by kernel_rfl) (e1_1)
  have w_x_Plan_H : -9223372036854775808 ≤ x_Plan_H ∧ x_Plan_H ≤ 9223372036854775807 := w_x_Plan_H
  obtain ⟨v1_2, c1_2, rfl, e1_2, o1_3⟩ := leafs_cons o1_2
  obtain ⟨x_Plan_CellsL, f_x_Plan_Cells, one_x_Plan_Cells, rel_x_Plan_Cells, blk_x_Plan_Cells⟩ := leaf_row (E := eU8) (e := 5) (by kernel_rfl) (by kernel_rfl) (by kernel_rfl) (by decide) (fun _ => rfl) (e1_2)
  obtain ⟨v1_3, c1_3, rfl, e1_3, o1_4⟩ := leafs_cons o1_3
  obtain ⟨x_ScanL, f_x_Scan, one_x_Scan, rel_x_Scan, blk_x_Scan⟩ := leaf_row (E := eC) (e := 57) (by kernel_rfl) (by kernel_rfl) (by kernel_rfl) (by decide) (fun _ => rfl) (e1_3)
  obtain ⟨v1_4, c1_4, rfl, e1_4, o1_5⟩ := leafs_cons o1_4
  obtain ⟨x_Rng, rfl, w_x_Rng⟩ := leaf_int (k := .i64) (by kernel_rfl) (e1_4)
  have w_x_Rng : -9223372036854775808 ≤ x_Rng ∧ x_Rng ≤ 9223372036854775807 := w_x_Rng
  obtain rfl := leafs_nil o1_5
  have key := row_calls (n := 3) (l := [(0, .ro lL.length eP.sz (rowF eP lL)), (1, .ro x_Plan_CellsL.length eU8.sz (rowF eU8 x_Plan_CellsL)), (2, .ro x_ScanL.length eC.sz (rowF eC x_ScanL))]) (vs := [v0, v1_2, v1_3]) c3 (by kernel_rfl) (args := [.c (.n 0), .a [.v (.int .i64 x_Plan_W), .v (.int .i64 x_Plan_H), .n 1, .n 2, .v (.int .i64 x_Rng)]]) rfl (by simp only [sc1L, sc1, scL, SC.sc, scV, scEnt, scE, rowF_scT, upto, Nat.reduceLT, Nat.reduceAdd, and_self, and_true, true_and]) (by simp only [sc1L, sc1, scL, SC.sc, scV, scEnt, scE, rowF_scT, upto, Nat.reduceLT, Nat.reduceAdd, and_self, and_true, true_and]) (W := W) ⟨one_l, one_x_Plan_Cells, one_x_Scan, trivial⟩ ⟨⟨rfl, rel_l _, blk_l⟩, ⟨rfl, rel_x_Plan_Cells _, blk_x_Plan_Cells⟩, ⟨rfl, rel_x_Scan _, blk_x_Scan⟩, trivial⟩ ?_
  · refine key.mono fun e W' ⟨he, hb⟩ => ?_
    subst he
    exact ⟨_, rfl, post_true laidOut rfl uB (by kernel_rfl) rfl hW' rfl hb⟩
  · refine ⟨(isRow_rowF _).2 trivial, (isRow_rowF _).2 trivial, (isRow_rowF _).2 trivial, ?_⟩
    try rw [decL_rowF lL]
    try rw [decL_rowF x_Plan_CellsL]
    try rw [decL_rowF x_ScanL]
    trivial

theorem particleWeighs : Rows.ParticleWeighsSaid :=
  OpenClaim.holds_of_wide 3 Tryz.f3 rfl rfl rfl rfl rfl rfl rfl ⟨rfl, rfl, rfl, rfl, rfl⟩ rfl rfl rfl rfl rfl (by kernel_rfl) Tryz.func3 (by kernel_rfl)
    (of_decide_eq_true (by kernel_rfl)) (by unfold Func.isWrapper; first | (rw [if_pos (by decide +kernel)]; kernel_rfl) | (rw [if_neg (by decide +kernel)]; exact ⟨rfl, rfl⟩))
    (fun os started H enc _ => particleWeighs_lifted os started H enc)
end Go.Proofs.YtibahioojjligaaGreat
