/- 'wayfinderlaw11.DriveFollows' returns true whatever the input, and the arguments read as before. No conditions. -/
import Derived.Test.YtjcpefnbongmaaaT16
import Derived.Test.YtjcpefnbongmaaaSx25
set_option linter.unusedVariables false
set_option linter.unusedSimpArgs false
namespace Go.Proofs.Ytjcpefnbongmaaa
open Go.Sx Go.ChangeShapes Go.WideShapes Go.ChangeAt Go.RowKit
theorem own : ownKnob Try.prog.godebug = none := by kernel_rfl
theorem laidOut : laidOutB Try.prog = true := by kernel_rfl
theorem uB : Try.prog.underlying 4 = some .bool := by kernel_rfl

set_option maxRecDepth 100000 in
theorem driveFollows_lifted (os : Os) (started : os.Started) (H : Type) (enc : TypeId × Value → H) :
    ReturnsInHanded {} Try.checked os 7 .any (Rows.driveFollowsSpec.pre6 enc Try.prog Try.f7 Rows.driveFollowsRow.domain false) (Rows.driveFollowsSpec.post enc Try.prog Try.f7 false true false false) := by
  refine returnsInHanded_of_change (C := Try.checked) own started (by kernel_rfl) Try.func7
    (ChangeSpec.witness6 (enc := enc) (C := Try.checked) false ⟨#[], #[.agg #[.int .i64 0, .int .i64 0, .int .i64 0, .int .i64 0], .agg #[.int .i64 0, .int .i64 0, .int .i64 0], .agg #[.int .i64 0, .int .i64 0, .int .i64 0, .int .i64 0, .int .i64 0, .int .i64 0]], []⟩ 8 (by kernel_rfl) (by kernel_rfl) (by kernel_rfl) (by kernel_rfl)) ?_
  intro W base args ds gs before hval0 hW hcnd _
  have hval : ∀ (j : Nat) t v, Try.f7.params[j]? = some t → args[j]? = some v → Value.okWide Try.prog W .any base t v := hval0
  have hW' := hW
  obtain ⟨p, q, hA0, hV, rfl, hfz, hnd⟩ := hW
  have hA : DataW.TrodAll enc Try.prog W 0 (fun _ => true) true Try.f7.params.toList args.toList ds p := hA0
  rw [Try.params7] at hA hval
  obtain ⟨v0, vs0, d0, ds0, p0, q0, hargs, rfl, rfl, h0, r0⟩ := trodAll_cons hA
  obtain ⟨v1, vs1, d1, ds1, p1, q1, rfl, rfl, rfl, h1, r1⟩ := trodAll_cons r0
  obtain ⟨v2, vs2, d2, ds2, p2, q2, rfl, rfl, rfl, h2, r2⟩ := trodAll_cons r1
  obtain ⟨rfl, rfl, rfl⟩ := trodAll_nil r2
  obtain rfl : args = #[v0, v1, v2] := by cases args; simp_all
  obtain ⟨rfl, rfl⟩ := trodVars_none hV
  obtain ⟨c0, rfl, o0⟩ := open_flat (L := [.i .i64, .i .i64, .i .i64, .i .i64]) Try.underlying36 (by kernel_rfl) (by kernel_rfl) (hval 0 36 v0 rfl rfl)
  obtain ⟨_, _, rfl, ⟨b_Turn, rfl, wb_Turn⟩, _, _, rfl, ⟨b_Length, rfl, wb_Length⟩, _, _, rfl, ⟨b_Slip, rfl, wb_Slip⟩, _, _, rfl, ⟨b_Range, rfl, wb_Range⟩, rfl⟩ := o0
  obtain ⟨c1, rfl, o1⟩ := open_flat (L := [.i .i64, .i .i64, .i .i64]) Try.underlying23 (by kernel_rfl) (by kernel_rfl) (hval 1 23 v1 rfl rfl)
  obtain ⟨_, _, rfl, ⟨at_X, rfl, wat_X⟩, _, _, rfl, ⟨at_Y, rfl, wat_Y⟩, _, _, rfl, ⟨at_H, rfl, wat_H⟩, rfl⟩ := o1
  obtain ⟨c2, rfl, o2⟩ := open_flat (L := [.i .i64, .i .i64, .i .i64, .i .i64, .i .i64, .i .i64]) Try.underlying29 (by kernel_rfl) (by kernel_rfl) (hval 2 29 v2 rfl rfl)
  obtain ⟨_, _, rfl, ⟨g_C_Turn, rfl, wg_C_Turn⟩, _, _, rfl, ⟨g_C_Forward, rfl, wg_C_Forward⟩, _, _, rfl, ⟨g_E_Turn, rfl, wg_E_Turn⟩, _, _, rfl, ⟨g_E_Length, rfl, wg_E_Length⟩, _, _, rfl, ⟨g_E_X, rfl, wg_E_X⟩, _, _, rfl, ⟨g_E_Y, rfl, wg_E_Y⟩, rfl⟩ := o2
  have key := plain_calls c7 (args := [.a [.v (.int .i64 b_Turn), .v (.int .i64 b_Length), .v (.int .i64 b_Slip), .v (.int .i64 b_Range)], .a [.v (.int .i64 at_X), .v (.int .i64 at_Y), .v (.int .i64 at_H)], .a [.v (.int .i64 g_C_Turn), .v (.int .i64 g_C_Forward), .v (.int .i64 g_E_Turn), .v (.int .i64 g_E_Length), .v (.int .i64 g_E_X), .v (.int .i64 g_E_Y)]]) rfl (by simp only [sc1L, sc1, scL, SC.sc, and_self]) trivial W
  refine key.mono fun e W' ⟨he, hb⟩ => ?_
  subst he
  exact ⟨_, rfl, post_true laidOut rfl uB (by kernel_rfl) rfl hW' rfl hb⟩

theorem driveFollows : Rows.DriveFollowsSaid :=
  OpenClaim.holds_of_wide 7 Try.f7 rfl rfl rfl rfl rfl rfl rfl ⟨rfl, rfl, rfl, rfl, rfl⟩ rfl rfl rfl rfl rfl (by kernel_rfl) Try.func7 (by kernel_rfl)
    (of_decide_eq_true (by kernel_rfl)) (by unfold Func.isWrapper; first | (rw [if_pos (by decide +kernel)]; kernel_rfl) | (rw [if_neg (by decide +kernel)]; exact ⟨rfl, rfl⟩))
    (fun os started H enc _ => driveFollows_lifted os started H enc)

end Go.Proofs.Ytjcpefnbongmaaa
