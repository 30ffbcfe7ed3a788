/- A part of the proof of a statement about this seat: how a function is stepped through, and plain laws. No conditions. -/
import Derived.Test.YtgdglgcfmebonaaSx28
set_option linter.unusedVariables false
namespace Go.Sx
def intC : SC → Int
  | .v (.int _ n) => n
  | _ => 0
def boolC : SC → Bool
  | .v (.bool b) => b
  | _ => false
theorem kind_i {k : IntKind} {ks : List LK} {cs : List Value} (h : kindOk (.i k :: ks) cs) : ∃ n cs', cs = .int k n :: cs' ∧ k.min ≤ n ∧ n ≤ k.max ∧ kindOk ks cs' := by
  cases cs with
  | nil => exact h.elim
  | cons v cs =>
    cases v <;> first | exact h.elim | skip
    obtain ⟨rfl, h1, h2, h3⟩ := h
    exact ⟨_, _, rfl, h1, h2, h3⟩
theorem kind_b {ks : List LK} {cs : List Value} (h : kindOk (.b :: ks) cs) : ∃ n cs', cs = .bool n :: cs' ∧ kindOk ks cs' := by
  cases cs with
  | nil => exact h.elim
  | cons v cs =>
    cases v <;> first | exact h.elim | skip
    exact ⟨_, _, rfl, h⟩
theorem kind_n {cs : List Value} (h : kindOk [] cs) : cs = [] := by
  cases cs with
  | nil => rfl
  | cons v cs => exact h.elim
end Go.Sx
namespace Go.Sx
open Go.RowKit
/-- The elements' cells, one behind the other. -/
def encs {α : Type} (E : Enc α) : List α → List SC
  | [] => []
  | x :: l => E.enc x ++ encs E l
theorem encs_len {α : Type} (E : Enc α) : ∀ l : List α, (encs E l).length = l.length * E.sz
  | [] => by simp [encs]
  | x :: l => by simp [encs, encs_len E l, E.len, Nat.succ_mul]; omega
theorem encs_at {α : Type} (E : Enc α) : ∀ (l : List α) (e j : Nat) (he : e < l.length), j < E.sz → (encs E l)[e * E.sz + j]? = (E.enc l[e])[j]?
  | [], e, j, he, _ => by simp at he
  | x :: l, 0, j, _, hj => by simp only [encs, Nat.zero_mul, Nat.zero_add]; rw [List.getElem?_append_left (by rw [E.len]; exact hj)]; rfl
  | x :: l, e + 1, j, he, hj => by
    simp only [encs]
    rw [List.getElem?_append_right (by rw [E.len, Nat.succ_mul]; omega), E.len]
    have e1 : (e + 1) * E.sz + j - E.sz = e * E.sz + j := by rw [Nat.succ_mul]; omega
    rw [e1, encs_at E l e j (by simpa using he) hj]
    rfl
theorem lits_at {α : Type} (E : Enc α) (xs : List α) (e j : Nat) (he : e < xs.length) (hj : j < E.sz) : litF (encs E xs) E.sz e j = rowF E xs e j := by
  rw [rowF_get he]
  unfold litF cellAt
  rw [nth_eq, nth_eq, encs_at E xs e j he hj]
  cases (E.enc xs[e])[j]? <;> rfl
/-- A slice literal is a row. -/
theorem lits_row {α : Type} (E : Enc α) (xs : List α) : isRow E xs.length E.sz (litF (encs E xs) E.sz) ∧ decL E xs.length (litF (encs E xs) E.sz) = xs :=
  ⟨isRow_of rfl (.inr rfl) fun e j he hj => lits_at E xs e j he hj, decL_eq rfl fun e j he hj => lits_at E xs e j he hj⟩
theorem isRow_len {α : Type} {E : Enc α} (L : List α) {n sz : Nat} (hn : n = L.length) (hs : sz = E.sz) : isRow E n sz (rowF E L) ↔ True := by
  subst hn; subst hs; exact isRow_rowF L
theorem decL_lenD {α : Type} {E : Enc α} (L : List α) {n : Nat} (hn : n = L.length) : decL E n (rowF E L) = L := by subst hn; exact decL_rowF L
theorem bool_ext2 {a b : Bool} (h : a = true ↔ b = true) : a = b := Bool.eq_iff_iff.2 h
end Go.Sx
