/- A part of the proof of a statement about this seat: how a function is stepped through, and plain laws. No conditions. -/
import Derived.Test.YtgdglgcfmebonaaP05
set_option linter.unusedVariables false
namespace Go.Way

/-- Errors moved into the bounds, and the error. -/
def clipS (bT bL bS bR eT eL eX eY : Int) : Int × Int × Int × Int × Int :=
  if vBd bT bL bS bR then (clp eT bT, clp eL bL, clp eX bS, clp eY bS, 0) else (0, 0, 0, 0, 1)
theorem clipS_arg {bT bL bS bR eT eL eX eY : Int} (h : ¬ (0 ≤ bT ∧ bT ≤ 8 ∧ 0 ≤ bL ∧ bL ≤ 16 ∧ 0 ≤ bS ∧ bS ≤ 8 ∧ 1 ≤ bR ∧ bR ≤ 32)) : clipS bT bL bS bR eT eL eX eY = (0, 0, 0, 0, 1) := if_neg h
theorem clipS_go {bT bL bS bR eT eL eX eY : Int} (h : 0 ≤ bT ∧ bT ≤ 8 ∧ 0 ≤ bL ∧ bL ≤ 16 ∧ 0 ≤ bS ∧ bS ≤ 8 ∧ 1 ≤ bR ∧ bR ≤ 32) : clipS bT bL bS bR eT eL eX eY = (clp eT bT, clp eL bL, clp eX bS, clp eY bS, 0) := if_pos h

/-- The shortest way round. -/
def dlt (a b : Int) : Int := if 128 ≤ (b - a) % 256 then (b - a) % 256 - 256 else (b - a) % 256

/-- Some error of the length fits. -/
def anyE (f : Int → Prop) (L : Int) : Prop := ∃ e, -L ≤ e ∧ e ≤ L ∧ f e
def fitE (dx dy tH F bS e : Int) : Prop := (-bS ≤ dx - mvx tH (F + e) ∧ dx - mvx tH (F + e) ≤ bS) ∧ (-bS ≤ dy - mvy tH (F + e) ∧ dy - mvy tH (F + e) ≤ bS)

/-- Whether a pose can follow from another one. -/
def WithinP (bT bL bS bR fX fY fH T F tX tY tH : Int) (bump : Bool) : Prop :=
  vBd bT bL bS bR ∧ vPs fX fY fH ∧ vCm T F ∧ vPs tX tY tH ∧ (∃ t, -bT ≤ t ∧ t ≤ bT ∧ (fH + T + t) % 256 = tH) ∧
    (if bump = true ∨ F = 0 then tX - fX = 0 ∧ tY - fY = 0 else anyE (fitE (tX - fX) (tY - fY) tH F bS) bL)
open Classical in
/-- The same as a bool. -/
noncomputable def withinS (bT bL bS bR fX fY fH T F tX tY tH : Int) (bump : Bool) : Bool := decide (WithinP bT bL bS bR fX fY fH T F tX tY tH bump)

theorem withinS_true {bT bL bS bR fX fY fH T F tX tY tH : Int} {bump : Bool} (h : WithinP bT bL bS bR fX fY fH T F tX tY tH bump) : withinS bT bL bS bR fX fY fH T F tX tY tH bump = true := by
  unfold withinS; exact @decide_eq_true _ (Classical.propDecidable _) h
theorem withinS_false {bT bL bS bR fX fY fH T F tX tY tH : Int} {bump : Bool} (h : ¬ WithinP bT bL bS bR fX fY fH T F tX tY tH bump) : withinS bT bL bS bR fX fY fH T F tX tY tH bump = false := by
  unfold withinS; exact @decide_eq_false _ (Classical.propDecidable _) h

/-- The turn that is needed is near if some error of the turn fits. -/
theorem dlt_iff {a tH bT : Int} (h0 : 0 ≤ bT) (h1 : bT ≤ 8) (h2 : 0 ≤ tH) (h3 : tH ≤ 255) : (-bT ≤ dlt (a % 256) tH ∧ dlt (a % 256) tH ≤ bT) ↔ ∃ t, -bT ≤ t ∧ t ≤ bT ∧ (a + t) % 256 = tH := by
  unfold dlt
  constructor
  · intro h
    split at h
    · exact ⟨(tH - a % 256) % 256 - 256, by omega, by omega, by omega⟩
    · exact ⟨(tH - a % 256) % 256, by omega, by omega, by omega⟩
  · rintro ⟨t, ht1, ht2, ht3⟩
    split <;> omega

end Go.Way
