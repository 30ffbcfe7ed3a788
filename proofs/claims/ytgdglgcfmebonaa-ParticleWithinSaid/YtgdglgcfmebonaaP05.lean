/- A part of the proof of a statement about this seat: how a function is stepped through, and plain laws. No conditions. -/
import Derived.Test.YtgdglgcfmebonaaP04
set_option linter.unusedVariables false
namespace Go.Way

def vBd (bT bL bS bR : Int) : Prop := 0 ≤ bT ∧ bT ≤ 8 ∧ 0 ≤ bL ∧ bL ≤ 16 ∧ 0 ≤ bS ∧ bS ≤ 8 ∧ 1 ≤ bR ∧ bR ≤ 32
instance (bT bL bS bR : Int) : Decidable (vBd bT bL bS bR) := inferInstanceAs (Decidable (_ ∧ _))
def vCm (T F : Int) : Prop := -32 ≤ T ∧ T ≤ 32 ∧ 0 ≤ F ∧ F ≤ 32
instance (T F : Int) : Decidable (vCm T F) := inferInstanceAs (Decidable (_ ∧ _))
def vPs (X Y H : Int) : Prop := -1048576 ≤ X ∧ X ≤ 1048576 ∧ -1048576 ≤ Y ∧ Y ≤ 1048576 ∧ 0 ≤ H ∧ H ≤ 255
instance (X Y H : Int) : Decidable (vPs X Y H) := inferInstanceAs (Decidable (_ ∧ _))

/-- The displacement of a length. -/
def mvx (h n : Int) : Int := max 0 n * (dirV h).1 / (dirV h).2.2
def mvy (h n : Int) : Int := max 0 n * (dirV h).2.1 / (dirV h).2.2

theorem mv_bd (h n : Int) (hn : n ≤ 1000000) : (-1000000 ≤ mvx h n ∧ mvx h n ≤ 1000000) ∧ (-1000000 ≤ mvy h n ∧ mvy h n ≤ 1000000) := by
  obtain ⟨h1, h2⟩ := dir_div_bd h (max 0 n) (by omega)
  unfold mvx mvy
  omega

theorem mono_aux (x d a b c : Int) (hd : 0 < d) (h1 : a ≤ b) (h2 : b ≤ c) : min (a * x / d) (c * x / d) ≤ b * x / d ∧ b * x / d ≤ max (a * x / d) (c * x / d) := by
  rcases Int.le_total 0 x with hx | hx
  · have e1 := Int.ediv_le_ediv hd (Int.mul_le_mul_of_nonneg_right h1 hx)
    have e2 := Int.ediv_le_ediv hd (Int.mul_le_mul_of_nonneg_right h2 hx)
    omega
  · have e1 := Int.ediv_le_ediv hd (Int.mul_le_mul_of_nonpos_right h1 hx)
    have e2 := Int.ediv_le_ediv hd (Int.mul_le_mul_of_nonpos_right h2 hx)
    omega

theorem mvx_mono (h : Int) {a b c : Int} (h1 : a ≤ b) (h2 : b ≤ c) : min (mvx h a) (mvx h c) ≤ mvx h b ∧ mvx h b ≤ max (mvx h a) (mvx h c) :=
  mono_aux _ _ _ _ _ (by have := (dirV_bd h).1; omega) (by omega) (by omega)
theorem mvy_mono (h : Int) {a b c : Int} (h1 : a ≤ b) (h2 : b ≤ c) : min (mvy h a) (mvy h c) ≤ mvy h b ∧ mvy h b ≤ max (mvy h a) (mvy h c) :=
  mono_aux _ _ _ _ _ (by have := (dirV_bd h).1; omega) (by omega) (by omega)

/-- The least rectangle of all displacements, and the error. -/
def reachS (T F bT bL bS bR h : Int) : Int × Int × Int × Int × Int :=
  if ¬ (vCm T F ∧ vBd bT bL bS bR) then (0, 0, 0, 0, 1)
  else if ¬ (0 ≤ h ∧ h ≤ 255) then (0, 0, 0, 0, 2)
  else if F = 0 then (0, 0, 0, 0, 0)
  else (min (mvx h (F - bL)) (mvx h (F + bL)) - bS, min (mvy h (F - bL)) (mvy h (F + bL)) - bS, max (mvx h (F - bL)) (mvx h (F + bL)) + bS, max (mvy h (F - bL)) (mvy h (F + bL)) + bS, 0)

section
variable {T F bT bL bS bR h : Int}
theorem reachS_arg (hp : ¬ (-32 ≤ T ∧ T ≤ 32 ∧ 0 ≤ F ∧ F ≤ 32) ∨ ¬ (0 ≤ bT ∧ bT ≤ 8 ∧ 0 ≤ bL ∧ bL ≤ 16 ∧ 0 ≤ bS ∧ bS ≤ 8 ∧ 1 ≤ bR ∧ bR ≤ 32)) : reachS T F bT bL bS bR h = (0, 0, 0, 0, 1) := by
  unfold reachS; exact if_pos (by unfold vCm vBd; omega)
theorem reachS_range (hp : (-32 ≤ T ∧ T ≤ 32 ∧ 0 ≤ F ∧ F ≤ 32) ∧ (0 ≤ bT ∧ bT ≤ 8 ∧ 0 ≤ bL ∧ bL ≤ 16 ∧ 0 ≤ bS ∧ bS ≤ 8 ∧ 1 ≤ bR ∧ bR ≤ 32)) (h2 : ¬ (0 ≤ h ∧ h ≤ 255)) : reachS T F bT bL bS bR h = (0, 0, 0, 0, 2) := by
  unfold reachS; rw [if_neg (by unfold vCm vBd; omega)]; exact if_pos h2
theorem reachS_zero (hp : (-32 ≤ T ∧ T ≤ 32 ∧ 0 ≤ F ∧ F ≤ 32) ∧ (0 ≤ bT ∧ bT ≤ 8 ∧ 0 ≤ bL ∧ bL ≤ 16 ∧ 0 ≤ bS ∧ bS ≤ 8 ∧ 1 ≤ bR ∧ bR ≤ 32)) (h2 : 0 ≤ h ∧ h ≤ 255) (h3 : F = 0) : reachS T F bT bL bS bR h = (0, 0, 0, 0, 0) := by
  unfold reachS; rw [if_neg (by unfold vCm vBd; omega), if_neg (by omega)]; exact if_pos h3
theorem reachS_go (hp : (-32 ≤ T ∧ T ≤ 32 ∧ 0 ≤ F ∧ F ≤ 32) ∧ (0 ≤ bT ∧ bT ≤ 8 ∧ 0 ≤ bL ∧ bL ≤ 16 ∧ 0 ≤ bS ∧ bS ≤ 8 ∧ 1 ≤ bR ∧ bR ≤ 32)) (h2 : 0 ≤ h ∧ h ≤ 255) (h3 : ¬ F = 0) : reachS T F bT bL bS bR h = (min (mvx h (F - bL)) (mvx h (F + bL)) - bS, min (mvy h (F - bL)) (mvy h (F + bL)) - bS, max (mvx h (F - bL)) (mvx h (F + bL)) + bS, max (mvy h (F - bL)) (mvy h (F + bL)) + bS, 0) := by
  unfold reachS; rw [if_neg (by unfold vCm vBd; omega), if_neg (by omega)]; exact if_neg h3
end

theorem mvx_def (h n : Int) : max 0 n * (dirV h).1 / (dirV h).2.2 = mvx h n := rfl
theorem mvy_def (h n : Int) : max 0 n * (dirV h).2.1 / (dirV h).2.2 = mvy h n := rfl
/-- Moved into the bounds. -/
def clp (n k : Int) : Int := max (-k) (min n k)
end Go.Way
