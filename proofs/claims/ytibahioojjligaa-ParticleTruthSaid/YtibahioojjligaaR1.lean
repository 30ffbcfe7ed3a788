/- 'wayfinderlaw21.ParticleTruth' returns true whatever the input, and the arguments read as before. No conditions. -/
import Derived.Test.YtibahioojjligaaY3
import Derived.Test.YtibahioojjligaaSz3
set_option linter.unusedVariables false
set_option linter.unusedSimpArgs false
namespace Go.Proofs.Ytibahioojjligaa
open Go.Sx Go.ChangeShapes Go.WideShapes Go.ChangeAt Go.RowKit
theorem own : ownKnob Try.prog.godebug = none := by kernel_rfl
theorem laidOut : laidOutB Try.prog = true := by kernel_rfl
theorem uB : Try.prog.underlying 4 = some .bool := by kernel_rfl

set_option maxRecDepth 100000 in
theorem particleTruth_lifted (os : Os) (started : os.Started) (H : Type) (enc : TypeId × Value → H) :
    ReturnsInHanded {} Try.checked os 3 .any (Rows.particleTruthSpec.pre6 enc Try.prog Try.f3 Rows.particleTruthRow.domain false) (Rows.particleTruthSpec.post enc Try.prog Try.f3 false true false false) := by
  refine returnsInHanded_of_change (C := Try.checked) own started (by kernel_rfl) Try.func3
    (ChangeSpec.witness6 (enc := enc) (C := Try.checked) false ⟨#[], #[.agg #[.int .i64 0, .int .i64 0, .slice none 0 0, .slice none 0 0, .int .i64 0], .agg #[.int .i64 0, .int .i64 0, .int .i64 0], .slice none 0 0], []⟩ 8 (by kernel_rfl) (by kernel_rfl) (by kernel_rfl) (by kernel_rfl)) ?_
  intro W base args ds gs before hval0 hW hcnd _
  have hval : ∀ (j : Nat) t v, Try.f3.params[j]? = some t → args[j]? = some v → Value.okWide Try.prog W .any base t v := hval0
  have hW' := hW
  obtain ⟨p, q, hA0, hV, rfl, hfz, hnd⟩ := hW
  have hA : DataW.TrodAll enc Try.prog W 0 (fun _ => true) true Try.f3.params.toList args.toList ds p := hA0
  rw [Try.params3] at hA hval
  obtain ⟨v0, vs0, d0, ds0, p0, q0, hargs, rfl, rfl, h0, r0⟩ := trodAll_cons hA
  obtain ⟨v1, vs1, d1, ds1, p1, q1, rfl, rfl, rfl, h1, r1⟩ := trodAll_cons r0
  obtain ⟨v2, vs2, d2, ds2, p2, q2, rfl, rfl, rfl, h2, r2⟩ := trodAll_cons r1
  obtain ⟨rfl, rfl, rfl⟩ := trodAll_nil r2
  obtain rfl : args = #[v0, v1, v2] := by cases args; simp_all
  obtain ⟨rfl, rfl⟩ := trodVars_none hV
  obtain ⟨c0, rfl, o0_0⟩ := open_agg (ts := [3, 3, 22, 25, 3]) Try.underlying27 (by kernel_rfl) (hval 0 27 v0 rfl rfl) h0
  obtain ⟨v0_0, c0_0, rfl, e0_0, o0_1⟩ := leafs_cons o0_0
  obtain ⟨x_Plan_W, rfl, w_x_Plan_W⟩ := leaf_int (k := .i64) (by kernel_rfl) (e0_0)
  have w_x_Plan_W : -9223372036854775808 ≤ x_Plan_W ∧ x_Plan_W ≤ 9223372036854775807 := w_x_Plan_W
  obtain ⟨v0_1, c0_1, rfl, e0_1, o0_2⟩ := leafs_cons o0_1
  obtain ⟨x_Plan_H, rfl, w_x_Plan_H⟩ := leaf_int (k := .i64) (by kernel_rfl) (e0_1)
  have w_x_Plan_H : -9223372036854775808 ≤ x_Plan_H ∧ x_Plan_H ≤ 9223372036854775807 := w_x_Plan_H
  obtain ⟨v0_2, c0_2, rfl, e0_2, o0_3⟩ := leafs_cons o0_2
  obtain ⟨x_Plan_CellsL, f_x_Plan_Cells, one_x_Plan_Cells, rel_x_Plan_Cells, blk_x_Plan_Cells⟩ := leaf_row (E := eU8) (e := 5) (by kernel_rfl) (by kernel_rfl) (by kernel_rfl) (by decide) (fun _ => rfl) (e0_2)
  obtain ⟨v0_3, c0_3, rfl, e0_3, o0_4⟩ := leafs_cons o0_3
  obtain ⟨x_ScanL, f_x_Scan, one_x_Scan, rel_x_Scan, blk_x_Scan⟩ := leaf_row (E := eC) (e := 36) (by kernel_rfl) (by kernel_rfl) (by kernel_rfl) (by decide) (fun _ => rfl) (e0_3)
  obtain ⟨v0_4, c0_4, rfl, e0_4, o0_5⟩ := leafs_cons o0_4
  obtain ⟨x_Rng, rfl, w_x_Rng⟩ := leaf_int (k := .i64) (by kernel_rfl) (e0_4)
  have w_x_Rng : -9223372036854775808 ≤ x_Rng ∧ x_Rng ≤ 9223372036854775807 := w_x_Rng
  obtain rfl := leafs_nil o0_5
  obtain ⟨c1, rfl, o1_0⟩ := open_agg (ts := [3, 3, 3]) Try.underlying29 (by kernel_rfl) (hval 1 29 v1 rfl rfl) h1
  obtain ⟨v1_0, c1_0, rfl, e1_0, o1_1⟩ := leafs_cons o1_0
  obtain ⟨at_X, rfl, w_at_X⟩ := leaf_int (k := .i64) (by kernel_rfl) (e1_0)
  have w_at_X : -9223372036854775808 ≤ at_X ∧ at_X ≤ 9223372036854775807 := w_at_X
  obtain ⟨v1_1, c1_1, rfl, e1_1, o1_2⟩ := leafs_cons o1_1
  obtain ⟨at_Y, rfl, w_at_Y⟩ := leaf_int (k := .i64) (by kernel_rfl) (e1_1)
  have w_at_Y : -9223372036854775808 ≤ at_Y ∧ at_Y ≤ 9223372036854775807 := w_at_Y
  obtain ⟨v1_2, c1_2, rfl, e1_2, o1_3⟩ := leafs_cons o1_2
  obtain ⟨at_H, rfl, w_at_H⟩ := leaf_int (k := .i64) (by kernel_rfl) (e1_2)
  have w_at_H : -9223372036854775808 ≤ at_H ∧ at_H ≤ 9223372036854775807 := w_at_H
  obtain rfl := leafs_nil o1_3
  obtain ⟨lL, f_l, one_l, rel_l, blk_l⟩ := leaf_row (E := eP) (e := 41) (by kernel_rfl) (by kernel_rfl) (by kernel_rfl) (by decide) (fun _ => rfl) (open_one (by kernel_rfl) (hval 2 30 v2 rfl rfl) h2)
  have key := row_calls (n := 3) (l := [(0, .ro x_Plan_CellsL.length eU8.sz (rowF eU8 x_Plan_CellsL)), (1, .ro x_ScanL.length eC.sz (rowF eC x_ScanL)), (2, .ro lL.length eP.sz (rowF eP lL))]) (vs := [v0_2, v0_3, v2]) c3 (by kernel_rfl) (args := [.a [.v (.int .i64 x_Plan_W), .v (.int .i64 x_Plan_H), .n 0, .n 1, .v (.int .i64 x_Rng)], .a [.v (.int .i64 at_X), .v (.int .i64 at_Y), .v (.int .i64 at_H)], .c (.n 2)]) rfl (by simp only [sc1L, sc1, scL, SC.sc, scV, scEnt, scE, rowF_scT, upto, Nat.reduceLT, Nat.reduceAdd, and_self, and_true, true_and]) (by simp only [sc1L, sc1, scL, SC.sc, scV, scEnt, scE, rowF_scT, upto, Nat.reduceLT, Nat.reduceAdd, and_self, and_true, true_and]) (W := W) ⟨one_x_Plan_Cells, one_x_Scan, one_l, trivial⟩ ⟨⟨rfl, rel_x_Plan_Cells _, blk_x_Plan_Cells⟩, ⟨rfl, rel_x_Scan _, blk_x_Scan⟩, ⟨rfl, rel_l _, blk_l⟩, trivial⟩ ?_
  · refine key.mono fun e W' ⟨he, hb⟩ => ?_
    subst he
    exact ⟨_, rfl, post_true laidOut rfl uB (by kernel_rfl) rfl hW' rfl hb⟩
  · refine ⟨(isRow_rowF _).2 trivial, (isRow_rowF _).2 trivial, (isRow_rowF _).2 trivial, ?_⟩
    try rw [decL_rowF x_Plan_CellsL]
    try rw [decL_rowF x_ScanL]
    try rw [decL_rowF lL]
    exact fun k hk => f_x_Scan _ (by rw [List.getD_eq_getElem?_getD, List.getElem?_eq_getElem hk]; exact List.getElem_mem hk)

theorem particleTruth : Rows.ParticleTruthSaid :=
  OpenClaim.holds_of_wide 3 Try.f3 rfl rfl rfl rfl rfl rfl rfl ⟨rfl, rfl, rfl, rfl, rfl⟩ rfl rfl rfl rfl rfl (by kernel_rfl) Try.func3 (by kernel_rfl)
    (of_decide_eq_true (by kernel_rfl)) (by unfold Func.isWrapper; first | (rw [if_pos (by decide +kernel)]; kernel_rfl) | (rw [if_neg (by decide +kernel)]; exact ⟨rfl, rfl⟩))
    (fun os started H enc _ => particleTruth_lifted os started H enc)
end Go.Proofs.Ytibahioojjligaa
