/- 'wayfinderlaw12.RobotExact' returns true whatever the input, and the arguments read as before. No conditions. -/
import Derived.Test.YtiijdbpncpdmdaaB3
import Derived.Test.YtiijdbpncpdmdaaSz4
set_option linter.unusedVariables false
set_option linter.unusedSimpArgs false
namespace Go.Proofs.Ytiijdbpncpdmdaa
open Go.Sx Go.ChangeShapes Go.WideShapes Go.ChangeAt Go.RowKit
theorem own : ownKnob Try.prog.godebug = none := by kernel_rfl
theorem laidOut : laidOutB Try.prog = true := by kernel_rfl
theorem uB : Try.prog.underlying 4 = some .bool := by kernel_rfl

set_option maxRecDepth 100000 in
theorem robotExact_lifted (os : Os) (started : os.Started) (H : Type) (enc : TypeId × Value → H) :
    ReturnsInHanded {} Try.checked os 4 .any (Rows.robotExactSpec.pre6 enc Try.prog Try.f4 Rows.robotExactRow.domain false) (Rows.robotExactSpec.post enc Try.prog Try.f4 false true false false) := by
  refine returnsInHanded_of_change (C := Try.checked) own started (by kernel_rfl) Try.func4
    (ChangeSpec.witness6 (enc := enc) (C := Try.checked) false ⟨#[], #[.int .i64 0, .int .i64 0], []⟩ 8 (by kernel_rfl) (by kernel_rfl) (by kernel_rfl) (by kernel_rfl)) ?_
  intro W base args ds gs before hval0 hW hcnd _
  have hval : ∀ (j : Nat) t v, Try.f4.params[j]? = some t → args[j]? = some v → Value.okWide Try.prog W .any base t v := hval0
  have hW' := hW
  obtain ⟨p, q, hA0, hV, rfl, hfz, hnd⟩ := hW
  have hA : DataW.TrodAll enc Try.prog W 0 (fun _ => true) true Try.f4.params.toList args.toList ds p := hA0
  rw [Try.params4] at hA hval
  obtain ⟨v0, vs0, d0, ds0, p0, q0, hargs, rfl, rfl, h0, r0⟩ := trodAll_cons hA
  obtain ⟨v1, vs1, d1, ds1, p1, q1, rfl, rfl, rfl, h1, r1⟩ := trodAll_cons r0
  obtain ⟨rfl, rfl, rfl⟩ := trodAll_nil r1
  obtain rfl : args = #[v0, v1] := by cases args; simp_all
  obtain ⟨rfl, rfl⟩ := trodVars_none hV
  obtain ⟨turn, rfl, w_turn⟩ := leaf_int (k := .i64) (by kernel_rfl) (open_one (by kernel_rfl) (hval 0 3 v0 rfl rfl) h0)
  have w_turn : -9223372036854775808 ≤ turn ∧ turn ≤ 9223372036854775807 := w_turn
  obtain ⟨forward, rfl, w_forward⟩ := leaf_int (k := .i64) (by kernel_rfl) (open_one (by kernel_rfl) (hval 1 3 v1 rfl rfl) h1)
  have w_forward : -9223372036854775808 ≤ forward ∧ forward ≤ 9223372036854775807 := w_forward
  have key := row_calls (n := 0) (l := []) (vs := []) c4 (by kernel_rfl) (args := [.c (.v (.int .i64 turn)), .c (.v (.int .i64 forward))]) rfl (by simp only [sc1L, sc1, scL, SC.sc, scV, scEnt, scE, alSc, rowF_scT, upto, Nat.reduceLT, Nat.reduceAdd, and_self, and_true, true_and]) (by simp only [sc1L, sc1, scL, SC.sc, scV, scEnt, scE, alSc, rowF_scT, upto, Nat.reduceLT, Nat.reduceAdd, and_self, and_true, true_and]) (W := W) trivial trivial ?_
  · refine key.mono fun e W' ⟨he, hb⟩ => ?_
    subst he
    exact ⟨_, rfl, post_true laidOut rfl uB (by kernel_rfl) rfl hW' rfl hb⟩
  · refine ?_
    exact ⟨w_turn, w_forward⟩

theorem robotExact : Rows.RobotExactSaid :=
  OpenClaim.holds_of_wide 4 Try.f4 rfl rfl rfl rfl rfl rfl rfl ⟨rfl, rfl, rfl, rfl, rfl⟩ rfl rfl rfl rfl rfl (by kernel_rfl) Try.func4 (by kernel_rfl)
    (of_decide_eq_true (by kernel_rfl)) (by unfold Func.isWrapper; first | (rw [if_pos (by decide +kernel)]; kernel_rfl) | (rw [if_neg (by decide +kernel)]; exact ⟨rfl, rfl⟩))
    (fun os started H enc _ => robotExact_lifted os started H enc)
end Go.Proofs.Ytiijdbpncpdmdaa
