/- 'wayfindertop.WholeMap' returns true whatever the input, and the arguments read as before. No conditions. -/
import Derived.Test.YtgpbokembopapaaGreatMAMB
import Derived.Test.YtgpbokembopapaaGreatMASz4
set_option linter.unusedVariables false
set_option linter.unusedSimpArgs false
namespace Go.Proofs.YtgpbokembopapaaGreat
open Go.Sx Go.ChangeShapes Go.WideShapes Go.ChangeAt Go.RowKit
theorem own : ownKnob Tryz.prog.godebug = none := by kernel_rfl
theorem laidOut : laidOutB Tryz.prog = true := by kernel_rfl
theorem uB : Tryz.prog.underlying 4 = some .bool := by kernel_rfl
section
variable {H : Type} {enc : TypeId × Value → H} {P : Program} {w : World} {base : Nat} {sp : Nat → Bool} {held : Bool}
theorem nt_onto {ti tb tm te : TypeId} {cs : List Value} (hti : P.underlying ti = some (.int .i64)) (htb : P.underlying tb = some .bool) (htm : P.underlying tm = some (.slice te)) (hk : kinds P te = some eC.ks) (hc : P.cellsOf te = eC.sz) (hsp : ∀ b, sp b = true)
    (h : leafOk enc P w base sp held [tb, ti, tm, ti, tb, ti, ti, ti] cs) : ∃ x : NT, OnTo eNt w x cs := by
  obtain ⟨v0, c0, rfl, e0, h⟩ := leafs_cons h
  obtain ⟨v1, c1, rfl, e1, h⟩ := leafs_cons h
  obtain ⟨v2, c2, rfl, e2, h⟩ := leafs_cons h
  obtain ⟨v3, c3, rfl, e3, h⟩ := leafs_cons h
  obtain ⟨v4, c4, rfl, e4, h⟩ := leafs_cons h
  obtain ⟨v5, c5, rfl, e5, h⟩ := leafs_cons h
  obtain ⟨v6, c6, rfl, e6, h⟩ := leafs_cons h
  obtain ⟨v7, c7, rfl, e7, h⟩ := leafs_cons h
  obtain rfl := leafs_nil h
  obtain ⟨n0, rfl⟩ := leaf_bool htb e0
  obtain ⟨n1, rfl, _⟩ := leaf_int hti e1
  obtain ⟨M, _, _, m1, m2⟩ := leaf_row (E := eC) htm hk hc (by decide) hsp e2
  obtain ⟨n3, rfl, _⟩ := leaf_int hti e3
  obtain ⟨n4, rfl⟩ := leaf_bool htb e4
  obtain ⟨n5, rfl, _⟩ := leaf_int hti e5
  obtain ⟨n6, rfl, _⟩ := leaf_int hti e6
  obtain ⟨n7, rfl, _⟩ := leaf_int hti e7
  refine ⟨⟨n0, n1, M, ⟨n3, n4, n5, n6, n7⟩⟩, fun j v hj hv => ?_, fun j n s g hj hg => ?_⟩
  · have hj : j < 8 := hj
    rcases (by omega : j = 0 ∨ j = 1 ∨ j = 2 ∨ j = 3 ∨ j = 4 ∨ j = 5 ∨ j = 6 ∨ j = 7) with rfl | rfl | rfl | rfl | rfl | rfl | rfl | rfl <;> first | exact hv | cases hv
  · have hj : j < 8 := hj
    rcases (by omega : j = 0 ∨ j = 1 ∨ j = 2 ∨ j = 3 ∨ j = 4 ∨ j = 5 ∨ j = 6 ∨ j = 7) with rfl | rfl | rfl | rfl | rfl | rfl | rfl | rfl
    · cases hg
    · cases hg
    · cases hg; exact ⟨v2, rfl, ro_rowIs m1, m2⟩
    · cases hg
    · cases hg
    · cases hg
    · cases hg
    · cases hg
end
set_option maxRecDepth 100000 in
theorem wholeMap_lifted (os : Os) (started : os.Started) (H : Type) (enc : TypeId × Value → H) :
    ReturnsInHanded {} Tryz.checked os 3 .any (Rows.wholeMapSpec.pre6 enc Tryz.prog Tryz.f3 Rows.wholeMapRow.domain false) (Rows.wholeMapSpec.post enc Tryz.prog Tryz.f3 false true false false) := by
  refine returnsInHanded_of_change (C := Tryz.checked) own started (by kernel_rfl) Tryz.func3
    (ChangeSpec.witness6 (enc := enc) (C := Tryz.checked) false ⟨#[], #[.slice none 0 0, .slice none 0 0, .int .i64 0], []⟩ 8 (by kernel_rfl) (by kernel_rfl) (by kernel_rfl) (by kernel_rfl)) ?_
  intro W base args ds gs before hval0 hW hcnd _
  have hval : ∀ (j : Nat) t v, Tryz.f3.params[j]? = some t → args[j]? = some v → Value.okWide Tryz.prog W .any base t v := hval0
  have hW' := hW
  obtain ⟨p, q, hA0, hV, rfl, hfz, hnd⟩ := hW
  have hA : DataW.TrodAll enc Tryz.prog W 0 (fun _ => true) true Tryz.f3.params.toList args.toList ds p := hA0
  rw [Tryz.params3] at hA hval
  obtain ⟨v0, vs0, d0, ds0, p0, q0, hargs, rfl, rfl, h0, r0⟩ := trodAll_cons hA
  obtain ⟨v1, vs1, d1, ds1, p1, q1, rfl, rfl, rfl, h1, r1⟩ := trodAll_cons r0
  obtain ⟨v2, vs2, d2, ds2, p2, q2, rfl, rfl, rfl, h2, r2⟩ := trodAll_cons r1
  obtain ⟨rfl, rfl, rfl⟩ := trodAll_nil r2
  obtain rfl : args = #[v0, v1, v2] := by cases args; simp_all
  obtain ⟨rfl, rfl⟩ := trodVars_none hV
  obtain ⟨lL, l_V, one_l, rel_l, blk_l⟩ := leaf_deep (D := eNt) (e := 34) (ts := [4, 3, 28, 3, 4, 3, 3, 3]) (by kernel_rfl) (by kernel_rfl) (by kernel_rfl) (by decide) (fun _ => rfl) (fun cs hcs => nt_onto (ti := 3) (tb := 4) (tm := 28) (te := 89) (by kernel_rfl) (by kernel_rfl) (by kernel_rfl) (by kernel_rfl) (by kernel_rfl) (fun _ => rfl) hcs) (open_one (by kernel_rfl) (hval 0 22 v0 rfl rfl) h0)
  obtain ⟨choicesL, f_choices, one_choices, rel_choices, blk_choices⟩ := leaf_row (E := eU8) (e := 5) (by kernel_rfl) (by kernel_rfl) (by kernel_rfl) (by decide) (fun _ => rfl) (open_one (by kernel_rfl) (hval 1 23 v1 rfl rfl) h1)
  obtain ⟨level, rfl, w_level⟩ := leaf_int (k := .i64) (by kernel_rfl) (open_one (by kernel_rfl) (hval 2 3 v2 rfl rfl) h2)
  have w_level : -9223372036854775808 ≤ level ∧ level ≤ 9223372036854775807 := w_level
  have key := row_calls (n := 2) (l := [(0, .deep none lL.length eNt.sz (deepF eNt lL l_V) (deepC eNt lL) []), (1, .ro choicesL.length eU8.sz (rowF eU8 choicesL))]) (vs := [v0, v1]) c3 (by kernel_rfl) (args := [.c (.n 0), .c (.n 1), .c (.v (.int .i64 level))]) rfl (by simp only [sc1L, sc1, scL, SC.sc, scV, scEnt, scE, alSc, rowF_scT, upto, Nat.reduceLT, Nat.reduceAdd, and_self, and_true, true_and]) (by simp only [sc1L, sc1, scL, SC.sc, scV, scEnt, scE, alSc, rowF_scT, upto, Nat.reduceLT, Nat.reduceAdd, and_self, and_true, true_and]) (W := W) ⟨one_l, one_choices, trivial⟩ ⟨⟨rfl, rel_l _, blk_l⟩, ⟨rfl, rel_choices _, footR blk_choices⟩, trivial⟩ ?_
  · refine key.mono fun e W' ⟨he, hb⟩ => ?_
    subst he
    exact ⟨_, rfl, post_true laidOut rfl uB (by kernel_rfl) rfl hW' rfl hb.below⟩
  · refine ⟨(isDeep_deep _ _ _).2 rfl, (isRow_rowF _).2 trivial, ?_⟩
    try rw [decD_deep lL]
    try rw [decL_rowF choicesL]
    exact ⟨f_choices, w_level⟩
theorem wholeMap : Rows.WholeMapSaid :=
  OpenClaim.holds_of_wide 3 Tryz.f3 rfl rfl rfl rfl rfl rfl rfl ⟨rfl, rfl, rfl, rfl, rfl⟩ rfl rfl rfl rfl rfl (by kernel_rfl) Tryz.func3 (by kernel_rfl)
    (of_decide_eq_true (by kernel_rfl)) (by unfold Func.isWrapper; first | (rw [if_pos (by decide +kernel)]; kernel_rfl) | (rw [if_neg (by decide +kernel)]; exact ⟨rfl, rfl⟩))
    (fun os started H enc _ => wholeMap_lifted os started H enc)
end Go.Proofs.YtgpbokembopapaaGreat
