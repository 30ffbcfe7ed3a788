/- A part of the proof of a statement about this seat: how a function is stepped through, and plain laws. No conditions. -/
import Derived.Test.YtgdglgcfmebonaaP07
set_option linter.unusedVariables false
namespace Go.Way

/-- What Next does at errors within the bounds is within and reached. -/
theorem follows {bT bL bS bR X Y H T F cT cL cX cY : Int} (hb : 0 ≤ bT ∧ bT ≤ 8 ∧ 0 ≤ bL ∧ bL ≤ 16 ∧ 0 ≤ bS ∧ bS ≤ 8 ∧ 1 ≤ bR ∧ bR ≤ 32)
    (k1 : -bT ≤ cT ∧ cT ≤ bT) (k2 : -bL ≤ cL ∧ cL ≤ bL) (k3 : -bS ≤ cX ∧ cX ≤ bS) (k4 : -bS ≤ cY ∧ cY ≤ bS) :
    (∃ e, nextS X Y H T F cT cL cX cY = (0, 0, 0, e) ∧ e ≠ 0) ∨
    ∃ x y h r0 r1 r2 r3, nextS X Y H T F cT cL cX cY = (x, y, h, 0) ∧ reachS T F bT bL bS bR h = (r0, r1, r2, r3, 0) ∧
      withinS bT bL bS bR X Y H T F x y h false = true ∧ withinS bT bL bS bR X Y H T F X Y h true = true ∧ r0 ≤ x - X ∧ x - X ≤ r2 ∧ r1 ≤ y - Y ∧ y - Y ≤ r3 ∧ -10000000 ≤ x - X ∧ x - X ≤ 10000000 ∧ -10000000 ≤ y - Y ∧ y - Y ≤ 10000000 := by
  by_cases h1 : (-1048576 ≤ X ∧ X ≤ 1048576 ∧ -1048576 ≤ Y ∧ Y ≤ 1048576 ∧ 0 ≤ H ∧ H ≤ 255) ∧ (-32 ≤ T ∧ T ≤ 32 ∧ 0 ≤ F ∧ F ≤ 32)
  · have hT : ∃ t, -bT ≤ t ∧ t ≤ bT ∧ (H + T + t) % 256 = (H + T + cT) % 256 := ⟨cT, k1.1, k1.2, rfl⟩
    have hh : 0 ≤ (H + T + cT) % 256 ∧ (H + T + cT) % 256 ≤ 255 := by omega
    by_cases h3 : F = 0
    · refine .inr ⟨X, Y, (H + T + cT) % 256, 0, 0, 0, 0, nextS_stay h1 (by omega) h3, reachS_zero ⟨h1.2, hb⟩ hh h3, withinS_true ⟨hb, h1.1, h1.2, ⟨by omega, by omega, by omega, by omega, hh.1, hh.2⟩, hT, ?_⟩, withinS_true ⟨hb, h1.1, h1.2, ⟨by omega, by omega, by omega, by omega, hh.1, hh.2⟩, hT, ?_⟩, by omega, by omega, by omega, by omega, by omega, by omega, by omega, by omega⟩
      · rw [if_pos (.inr h3)]; omega
      · rw [if_pos (.inl rfl)]; omega
    · have e := nextS_go (eT := cT) (eL := cL) (eX := cX) (eY := cY) h1 (by omega) h3 (mvx_def _ _) (mvy_def _ _)
      have m1 := mvx_mono ((H + T + cT) % 256) (show F - bL ≤ F + cL by omega) (show F + cL ≤ F + bL by omega)
      have m2 := mvy_mono ((H + T + cT) % 256) (show F - bL ≤ F + cL by omega) (show F + cL ≤ F + bL by omega)
      by_cases h4 : -1048576 ≤ X + (mvx ((H + T + cT) % 256) (F + cL) + cX) ∧ X + (mvx ((H + T + cT) % 256) (F + cL) + cX) ≤ 1048576 ∧ -1048576 ≤ Y + (mvy ((H + T + cT) % 256) (F + cL) + cY) ∧ Y + (mvy ((H + T + cT) % 256) (F + cL) + cY) ≤ 1048576
      · rw [if_pos h4] at e
        refine .inr ⟨_, _, _, _, _, _, _, e, reachS_go ⟨h1.2, hb⟩ hh h3, withinS_true ⟨hb, h1.1, h1.2, ⟨h4.1, h4.2.1, h4.2.2.1, h4.2.2.2, hh.1, hh.2⟩, hT, ?_⟩, withinS_true ⟨hb, h1.1, h1.2, ⟨by omega, by omega, by omega, by omega, hh.1, hh.2⟩, hT, ?_⟩, by omega, by omega, by omega, by omega, by omega, by omega, by omega, by omega⟩
        · rw [if_neg (fun h5 => h5.elim (fun h6 => absurd h6 (by decide)) h3)]
          refine ⟨cL, k2.1, k2.2, ?_⟩
          unfold fitE
          omega
        · rw [if_pos (.inl rfl)]; omega
      · rw [if_neg h4] at e
        exact .inl ⟨2, e, by decide⟩
  · exact .inl ⟨1, nextS_arg (by omega), by decide⟩
end Go.Way
