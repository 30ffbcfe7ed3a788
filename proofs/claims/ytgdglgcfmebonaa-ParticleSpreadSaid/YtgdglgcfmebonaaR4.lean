/- 'wayfinderlaw21.ParticleDraws' and 'wayfinderlaw21.ParticleSpread' return true whatever the input, and the arguments read as before. No conditions. -/
import Derived.Test.YtgdglgcfmebonaaP4
import Derived.Test.YtgdglgcfmebonaaSx30
set_option linter.unusedVariables false
set_option linter.unusedSimpArgs false
namespace Go.Proofs.Ytgdglgcfmebonaa
open Go.Sx Go.ChangeShapes Go.WideShapes Go.ChangeAt Go.RowKit
theorem own : ownKnob Try.prog.godebug = none := by kernel_rfl
theorem laidOut : laidOutB Try.prog = true := by kernel_rfl
theorem uB : Try.prog.underlying 4 = some .bool := by kernel_rfl

set_option maxRecDepth 100000 in
theorem particleDraws_lifted (os : Os) (started : os.Started) (H : Type) (enc : TypeId × Value → H) :
    ReturnsInHanded {} Try.checked os 7 .any (Rows.particleDrawsSpec.pre6 enc Try.prog Try.f7 Rows.particleDrawsRow.domain false) (Rows.particleDrawsSpec.post enc Try.prog Try.f7 false true false false) := by
  refine returnsInHanded_of_change (C := Try.checked) own started (by kernel_rfl) Try.func7
    (ChangeSpec.witness6 (enc := enc) (C := Try.checked) false ⟨#[], #[.int .u64 0, .agg #[.int .i64 0, .int .i64 0, .int .i64 0, .int .i64 0, .int .i64 0, .int .i64 0], .int .i64 0], []⟩ 8 (by kernel_rfl) (by kernel_rfl) (by kernel_rfl) (by kernel_rfl)) ?_
  intro W base args ds gs before hval0 hW hcnd _
  have hval : ∀ (j : Nat) t v, Try.f7.params[j]? = some t → args[j]? = some v → Value.okWide Try.prog W .any base t v := hval0
  have hW' := hW
  obtain ⟨p, q, hA0, hV, rfl, hfz, hnd⟩ := hW
  have hA : DataW.TrodAll enc Try.prog W 0 (fun _ => true) true Try.f7.params.toList args.toList ds p := hA0
  rw [Try.params7] at hA hval
  obtain ⟨v0, vs0, d0, ds0, p0, q0, hargs, rfl, rfl, h0, r0⟩ := trodAll_cons hA
  obtain ⟨v1, vs1, d1, ds1, p1, q1, rfl, rfl, rfl, h1, r1⟩ := trodAll_cons r0
  obtain ⟨v2, vs2, d2, ds2, p2, q2, rfl, rfl, rfl, h2, r2⟩ := trodAll_cons r1
  obtain ⟨rfl, rfl, rfl⟩ := trodAll_nil r2
  obtain rfl : args = #[v0, v1, v2] := by cases args; simp_all
  obtain ⟨rfl, rfl⟩ := trodVars_none hV
  obtain ⟨s, rfl, w_s⟩ := leaf_int (k := .u64) (by kernel_rfl) (open_one (by kernel_rfl) (hval 0 50 v0 rfl rfl) h0)
  have w_s : 0 ≤ s ∧ s ≤ 18446744073709551615 := w_s
  obtain ⟨c1, rfl, o1_0⟩ := open_agg (ts := [3, 3, 3, 3, 3, 3]) Try.underlying52 (by kernel_rfl) (hval 1 52 v1 rfl rfl) h1
  obtain ⟨v1_0, c1_0, rfl, e1_0, o1_1⟩ := leafs_cons o1_0
  obtain ⟨b_X0, rfl, w_b_X0⟩ := leaf_int (k := .i64) (by kernel_rfl) (e1_0)
  have w_b_X0 : -9223372036854775808 ≤ b_X0 ∧ b_X0 ≤ 9223372036854775807 := w_b_X0
  obtain ⟨v1_1, c1_1, rfl, e1_1, o1_2⟩ := leafs_cons o1_1
  obtain ⟨b_Y0, rfl, w_b_Y0⟩ := leaf_int (k := .i64) (by kernel_rfl) (e1_1)
  have w_b_Y0 : -9223372036854775808 ≤ b_Y0 ∧ b_Y0 ≤ 9223372036854775807 := w_b_Y0
  obtain ⟨v1_2, c1_2, rfl, e1_2, o1_3⟩ := leafs_cons o1_2
  obtain ⟨b_X1, rfl, w_b_X1⟩ := leaf_int (k := .i64) (by kernel_rfl) (e1_2)
  have w_b_X1 : -9223372036854775808 ≤ b_X1 ∧ b_X1 ≤ 9223372036854775807 := w_b_X1
  obtain ⟨v1_3, c1_3, rfl, e1_3, o1_4⟩ := leafs_cons o1_3
  obtain ⟨b_Y1, rfl, w_b_Y1⟩ := leaf_int (k := .i64) (by kernel_rfl) (e1_3)
  have w_b_Y1 : -9223372036854775808 ≤ b_Y1 ∧ b_Y1 ≤ 9223372036854775807 := w_b_Y1
  obtain ⟨v1_4, c1_4, rfl, e1_4, o1_5⟩ := leafs_cons o1_4
  obtain ⟨b_From, rfl, w_b_From⟩ := leaf_int (k := .i64) (by kernel_rfl) (e1_4)
  have w_b_From : -9223372036854775808 ≤ b_From ∧ b_From ≤ 9223372036854775807 := w_b_From
  obtain ⟨v1_5, c1_5, rfl, e1_5, o1_6⟩ := leafs_cons o1_5
  obtain ⟨b_Count, rfl, w_b_Count⟩ := leaf_int (k := .i64) (by kernel_rfl) (e1_5)
  have w_b_Count : -9223372036854775808 ≤ b_Count ∧ b_Count ≤ 9223372036854775807 := w_b_Count
  obtain rfl := leafs_nil o1_6
  obtain ⟨n, rfl, w_n⟩ := leaf_int (k := .i64) (by kernel_rfl) (open_one (by kernel_rfl) (hval 2 3 v2 rfl rfl) h2)
  have w_n : -9223372036854775808 ≤ n ∧ n ≤ 9223372036854775807 := w_n
  have key := row_calls (n := 0) (l := []) (vs := []) c7 (args := [.c (.v (.int .u64 s)), .a [.v (.int .i64 b_X0), .v (.int .i64 b_Y0), .v (.int .i64 b_X1), .v (.int .i64 b_Y1), .v (.int .i64 b_From), .v (.int .i64 b_Count)], .c (.v (.int .i64 n))]) rfl (by simp only [sc1L, sc1, scL, SC.sc, scV, scEnt, scE, rowF_scT, upto, Nat.reduceLT, Nat.reduceAdd, and_self, and_true, true_and]) (by simp only [sc1L, sc1, scL, SC.sc, scV, scEnt, scE, rowF_scT, upto, Nat.reduceLT, Nat.reduceAdd, and_self, and_true, true_and]) (W := W) trivial trivial ?_
  · refine key.mono fun e W' ⟨he, hb⟩ => ?_
    subst he
    exact ⟨_, rfl, post_true laidOut rfl uB (by kernel_rfl) rfl hW' rfl hb⟩
  · refine ?_
    exact ⟨w_s.1, by omega⟩

theorem particleDraws : Rows.ParticleDrawsSaid :=
  OpenClaim.holds_of_wide 7 Try.f7 rfl rfl rfl rfl rfl rfl rfl ⟨rfl, rfl, rfl, rfl, rfl⟩ rfl rfl rfl rfl rfl (by kernel_rfl) Try.func7 (by kernel_rfl)
    (of_decide_eq_true (by kernel_rfl)) (by unfold Func.isWrapper; first | (rw [if_pos (by decide +kernel)]; kernel_rfl) | (rw [if_neg (by decide +kernel)]; exact ⟨rfl, rfl⟩))
    (fun os started H enc _ => particleDraws_lifted os started H enc)

set_option maxRecDepth 100000 in
theorem particleSpread_lifted (os : Os) (started : os.Started) (H : Type) (enc : TypeId × Value → H) :
    ReturnsInHanded {} Try.checked os 8 .any (Rows.particleSpreadSpec.pre6 enc Try.prog Try.f8 Rows.particleSpreadRow.domain false) (Rows.particleSpreadSpec.post enc Try.prog Try.f8 false true false false) := by
  refine returnsInHanded_of_change (C := Try.checked) own started (by kernel_rfl) Try.func8
    (ChangeSpec.witness6 (enc := enc) (C := Try.checked) false ⟨#[], #[.agg #[.int .i64 0, .int .i64 0, .int .i64 0, .int .i64 0, .int .i64 0, .int .i64 0], .int .i64 0, .int .u64 0], []⟩ 8 (by kernel_rfl) (by kernel_rfl) (by kernel_rfl) (by kernel_rfl)) ?_
  intro W base args ds gs before hval0 hW hcnd _
  have hval : ∀ (j : Nat) t v, Try.f8.params[j]? = some t → args[j]? = some v → Value.okWide Try.prog W .any base t v := hval0
  have hW' := hW
  obtain ⟨p, q, hA0, hV, rfl, hfz, hnd⟩ := hW
  have hA : DataW.TrodAll enc Try.prog W 0 (fun _ => true) true Try.f8.params.toList args.toList ds p := hA0
  rw [Try.params8] at hA hval
  obtain ⟨v0, vs0, d0, ds0, p0, q0, hargs, rfl, rfl, h0, r0⟩ := trodAll_cons hA
  obtain ⟨v1, vs1, d1, ds1, p1, q1, rfl, rfl, rfl, h1, r1⟩ := trodAll_cons r0
  obtain ⟨v2, vs2, d2, ds2, p2, q2, rfl, rfl, rfl, h2, r2⟩ := trodAll_cons r1
  obtain ⟨rfl, rfl, rfl⟩ := trodAll_nil r2
  obtain rfl : args = #[v0, v1, v2] := by cases args; simp_all
  obtain ⟨rfl, rfl⟩ := trodVars_none hV
  obtain ⟨c0, rfl, o0_0⟩ := open_agg (ts := [3, 3, 3, 3, 3, 3]) Try.underlying52 (by kernel_rfl) (hval 0 52 v0 rfl rfl) h0
  obtain ⟨v0_0, c0_0, rfl, e0_0, o0_1⟩ := leafs_cons o0_0
  obtain ⟨b_X0, rfl, w_b_X0⟩ := leaf_int (k := .i64) (by kernel_rfl) (e0_0)
  have w_b_X0 : -9223372036854775808 ≤ b_X0 ∧ b_X0 ≤ 9223372036854775807 := w_b_X0
  obtain ⟨v0_1, c0_1, rfl, e0_1, o0_2⟩ := leafs_cons o0_1
  obtain ⟨b_Y0, rfl, w_b_Y0⟩ := leaf_int (k := .i64) (by kernel_rfl) (e0_1)
  have w_b_Y0 : -9223372036854775808 ≤ b_Y0 ∧ b_Y0 ≤ 9223372036854775807 := w_b_Y0
  obtain ⟨v0_2, c0_2, rfl, e0_2, o0_3⟩ := leafs_cons o0_2
  obtain ⟨b_X1, rfl, w_b_X1⟩ := leaf_int (k := .i64) (by kernel_rfl) (e0_2)
  have w_b_X1 : -9223372036854775808 ≤ b_X1 ∧ b_X1 ≤ 9223372036854775807 := w_b_X1
  obtain ⟨v0_3, c0_3, rfl, e0_3, o0_4⟩ := leafs_cons o0_3
  obtain ⟨b_Y1, rfl, w_b_Y1⟩ := leaf_int (k := .i64) (by kernel_rfl) (e0_3)
  have w_b_Y1 : -9223372036854775808 ≤ b_Y1 ∧ b_Y1 ≤ 9223372036854775807 := w_b_Y1
  obtain ⟨v0_4, c0_4, rfl, e0_4, o0_5⟩ := leafs_cons o0_4
  obtain ⟨b_From, rfl, w_b_From⟩ := leaf_int (k := .i64) (by kernel_rfl) (e0_4)
  have w_b_From : -9223372036854775808 ≤ b_From ∧ b_From ≤ 9223372036854775807 := w_b_From
  obtain ⟨v0_5, c0_5, rfl, e0_5, o0_6⟩ := leafs_cons o0_5
  obtain ⟨b_Count, rfl, w_b_Count⟩ := leaf_int (k := .i64) (by kernel_rfl) (e0_5)
  have w_b_Count : -9223372036854775808 ≤ b_Count ∧ b_Count ≤ 9223372036854775807 := w_b_Count
  obtain rfl := leafs_nil o0_6
  obtain ⟨n, rfl, w_n⟩ := leaf_int (k := .i64) (by kernel_rfl) (open_one (by kernel_rfl) (hval 1 3 v1 rfl rfl) h1)
  have w_n : -9223372036854775808 ≤ n ∧ n ≤ 9223372036854775807 := w_n
  obtain ⟨s, rfl, w_s⟩ := leaf_int (k := .u64) (by kernel_rfl) (open_one (by kernel_rfl) (hval 2 50 v2 rfl rfl) h2)
  have w_s : 0 ≤ s ∧ s ≤ 18446744073709551615 := w_s
  have key := row_calls (n := 0) (l := []) (vs := []) c8 (args := [.a [.v (.int .i64 b_X0), .v (.int .i64 b_Y0), .v (.int .i64 b_X1), .v (.int .i64 b_Y1), .v (.int .i64 b_From), .v (.int .i64 b_Count)], .c (.v (.int .i64 n)), .c (.v (.int .u64 s))]) rfl (by simp only [sc1L, sc1, scL, SC.sc, scV, scEnt, scE, rowF_scT, upto, Nat.reduceLT, Nat.reduceAdd, and_self, and_true, true_and]) (by simp only [sc1L, sc1, scL, SC.sc, scV, scEnt, scE, rowF_scT, upto, Nat.reduceLT, Nat.reduceAdd, and_self, and_true, true_and]) (W := W) trivial trivial ?_
  · refine key.mono fun e W' ⟨he, hb⟩ => ?_
    subst he
    exact ⟨_, rfl, post_true laidOut rfl uB (by kernel_rfl) rfl hW' rfl hb⟩
  · refine ?_
    exact ⟨⟨w_s.1, by omega⟩, w_n.1, w_n.2⟩

theorem particleSpread : Rows.ParticleSpreadSaid :=
  OpenClaim.holds_of_wide 8 Try.f8 rfl rfl rfl rfl rfl rfl rfl ⟨rfl, rfl, rfl, rfl, rfl⟩ rfl rfl rfl rfl rfl (by kernel_rfl) Try.func8 (by kernel_rfl)
    (of_decide_eq_true (by kernel_rfl)) (by unfold Func.isWrapper; first | (rw [if_pos (by decide +kernel)]; kernel_rfl) | (rw [if_neg (by decide +kernel)]; exact ⟨rfl, rfl⟩))
    (fun os started H enc _ => particleSpread_lifted os started H enc)
end Go.Proofs.Ytgdglgcfmebonaa
