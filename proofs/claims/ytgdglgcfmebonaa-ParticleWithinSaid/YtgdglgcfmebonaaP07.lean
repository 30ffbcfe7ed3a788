/- A part of the proof of a statement about this seat: how a function is stepped through, and plain laws. No conditions. -/
import Derived.Test.YtgdglgcfmebonaaP06
set_option linter.unusedVariables false
namespace Go.Way
theorem withinS_eq {bT bL bS bR fX fY fH T F tX tY tH : Int} {bump b : Bool} (h : b = true ↔ WithinP bT bL bS bR fX fY fH T F tX tY tH bump) : b = withinS bT bL bS bR fX fY fH T F tX tY tH bump := by
  by_cases hp : WithinP bT bL bS bR fX fY fH T F tX tY tH bump
  · rw [withinS_true hp]; exact h.2 hp
  · rw [withinS_false hp]; cases b
    · rfl
    · exact absurd (h.1 rfl) hp

end Go.Way
