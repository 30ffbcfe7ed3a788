/- 'wayfinderlaw11.DriveNext' returns true whatever the input. -/
import Derived.Test.YtjcpefnbongmaaaT10
import Derived.Test.YtjcpefnbongmaaaSx25
set_option linter.unusedVariables false
set_option linter.unusedSimpArgs false
namespace Go.Proofs.Ytjcpefnbongmaaa
open Go.Sx Go.ChangeShapes Go.WideShapes Go.ChangeAt Go.RowKit
theorem own : ownKnob Try.prog.godebug = none := by kernel_rfl
theorem laidOut : laidOutB Try.prog = true := by kernel_rfl
theorem uB : Try.prog.underlying 4 = some .bool := by kernel_rfl

set_option maxRecDepth 100000 in
theorem driveNext_lifted (os : Os) (started : os.Started) (H : Type) (enc : TypeId × Value → H) :
    ReturnsInHanded {} Try.checked os 3 .any (Rows.driveNextSpec.pre6 enc Try.prog Try.f3 Rows.driveNextRow.domain false) (Rows.driveNextSpec.post enc Try.prog Try.f3 false true false false) := by
  refine returnsInHanded_of_change (C := Try.checked) own started (by kernel_rfl) Try.func3
    (ChangeSpec.witness6 (enc := enc) (C := Try.checked) false ⟨#[], #[.agg #[.int .i64 0, .int .i64 0, .int .i64 0], .agg #[.int .i64 0, .int .i64 0, .int .i64 0, .int .i64 0, .int .i64 0, .int .i64 0]], []⟩ 8 (by kernel_rfl) (by kernel_rfl) (by kernel_rfl) (by kernel_rfl)) ?_
  intro W base args ds gs before hval0 hW hcnd _
  have hval : ∀ (j : Nat) t v, Try.f3.params[j]? = some t → args[j]? = some v → Value.okWide Try.prog W .any base t v := hval0
  have hW' := hW
  obtain ⟨p, q, hA0, hV, rfl, hfz, hnd⟩ := hW
  have hA : DataW.TrodAll enc Try.prog W 0 (fun _ => true) true Try.f3.params.toList args.toList ds p := hA0
  rw [Try.params3] at hA hval
  obtain ⟨v0, vs0, d0, ds0, p0, q0, hargs, rfl, rfl, h0, r0⟩ := trodAll_cons hA
  obtain ⟨v1, vs1, d1, ds1, p1, q1, rfl, rfl, rfl, h1, r1⟩ := trodAll_cons r0
  obtain ⟨rfl, rfl, rfl⟩ := trodAll_nil r1
  obtain rfl : args = #[v0, v1] := by cases args; simp_all
  obtain ⟨rfl, rfl⟩ := trodVars_none hV
  obtain ⟨c0, rfl, o0⟩ := open_flat (L := [.i .i64, .i .i64, .i .i64]) Try.underlying23 (by kernel_rfl) (by kernel_rfl) (hval 0 23 v0 rfl rfl)
  obtain ⟨c1, rfl, o1⟩ := open_flat (L := [.i .i64, .i .i64, .i .i64, .i .i64, .i .i64, .i .i64]) Try.underlying29 (by kernel_rfl) (by kernel_rfl) (hval 1 29 v1 rfl rfl)
  obtain ⟨_, _, rfl, ⟨x0, rfl, wx0⟩, _, _, rfl, ⟨x1, rfl, wx1⟩, _, _, rfl, ⟨x2, rfl, wx2⟩, rfl⟩ := o0
  obtain ⟨_, _, rfl, ⟨y0, rfl, wy0⟩, _, _, rfl, ⟨y1, rfl, wy1⟩, _, _, rfl, ⟨y2, rfl, wy2⟩, _, _, rfl, ⟨y3, rfl, wy3⟩, _, _, rfl, ⟨y4, rfl, wy4⟩, _, _, rfl, ⟨y5, rfl, wy5⟩, rfl⟩ := o1
  have key := plain_calls c3 (args := [.a [.v (.int .i64 x0), .v (.int .i64 x1), .v (.int .i64 x2)], .a [.v (.int .i64 y0), .v (.int .i64 y1), .v (.int .i64 y2), .v (.int .i64 y3), .v (.int .i64 y4), .v (.int .i64 y5)]]) rfl (by simp only [sc1L, sc1, scL, SC.sc, and_self]) trivial W
  refine key.mono fun e W' ⟨he, hb⟩ => ?_
  subst he
  exact ⟨_, rfl, post_true laidOut rfl uB (by kernel_rfl) rfl hW' rfl hb⟩

theorem driveNext : Rows.DriveNextSaid :=
  OpenClaim.holds_of_wide 3 Try.f3 rfl rfl rfl rfl rfl rfl rfl ⟨rfl, rfl, rfl, rfl, rfl⟩ rfl rfl rfl rfl rfl (by kernel_rfl) Try.func3 (by kernel_rfl)
    (of_decide_eq_true (by kernel_rfl)) (by unfold Func.isWrapper; first | (rw [if_pos (by decide +kernel)]; kernel_rfl) | (rw [if_neg (by decide +kernel)]; exact ⟨rfl, rfl⟩))
    (fun os started H enc _ => driveNext_lifted os started H enc)

end Go.Proofs.Ytjcpefnbongmaaa
