/- A part of the proof of a statement about this seat: how a function is stepped through, and plain laws. No conditions. -/
import Derived.Test.YtgdglgcfmebonaaSx3
set_option linter.unusedVariables false
set_option linter.unusedSimpArgs false
namespace Go.Sx
open Go.RowKit

section
variable {P : Program} {base : World} {M : Scp} {r : Rho} {E : Nat → Option Ent} {w : World}

theorem fillPlain (place : Nat → Option (Nat × Nat)) : True := trivial

/-- One part laid into the cells, as the model lays it. -/
theorem lay_eq (off : Nat) : ∀ (vs : List Value) (k : Nat) (cells : Array Value), off + k + vs.length ≤ cells.size →
    ((vs.zipIdx k).foldl (fun (cs : Array Value) (x : Value × Nat) => cs.setIfInBounds (off + x.2) x.1) cells) = (setAt cells.toList (off + k) vs).toArray
  | [], k, cells, h => by
    simp
    rw [setAt_eq _ _ _ (by simp at h ⊢; omega)]
    simp
  | v :: vs, k, cells, h => by
    simp only [List.zipIdx_cons, List.foldl_cons]
    have ih := lay_eq off vs (k + 1) (cells.setIfInBounds (off + k) v) (by simp at h ⊢; omega)
    rw [ih]
    congr 1
    simp at h
    rw [setAt_eq _ _ _ (by simp; omega), setAt_eq _ _ _ (by simp; omega)]
    simp only [Array.toList_setIfInBounds]
    apply List.ext_getElem?
    intro i
    simp only [List.getElem?_append, List.getElem?_take, List.getElem?_drop, List.getElem?_set, List.length_append, List.length_take, List.length_set, List.length_cons, Array.length_toList, List.length_drop]
    have e : off + (k + 1) = off + k + 1 := by omega
    rw [e]
    by_cases h1 : i < off + k
    · have m1 : min (off + k + 1) cells.size = off + k + 1 := by omega
      have m2 : min (off + k) cells.size = off + k := by omega
      rw [m1, m2]
      rw [if_pos (by omega), if_pos (by omega), if_pos (by omega), if_neg (by omega), if_pos (by omega), if_pos (by omega), if_pos (by omega)]
    · by_cases h2 : i = off + k
      · subst h2
        have m1 : min (off + k + 1) cells.size = off + k + 1 := by omega
        have m2 : min (off + k) cells.size = off + k := by omega
        rw [m1, m2]
        rw [if_pos (by omega), if_pos (by omega), if_pos (by omega), if_pos rfl, if_pos (by omega), if_pos (by omega), if_neg (by omega)]
        simp
      · have m1 : min (off + k + 1) cells.size = off + k + 1 := by omega
        have m2 : min (off + k) cells.size = off + k := by omega
        rw [m1, m2]
        by_cases h3 : i < off + k + 1 + vs.length
        · rw [if_pos (by omega), if_neg (by omega), if_pos (by omega), if_neg (by omega)]
          have : i - (off + k) = (i - (off + k + 1)) + 1 := by omega
          rw [this, List.getElem?_cons_succ]
        · rw [if_neg (by omega), if_neg (by omega), if_neg (by omega)]
          congr 1; omega

theorem fill_den (place : Nat → Option (Nat × Nat)) (hr : ∀ i, (r i).oneCell' = true) : ∀ (ix : List Nat) (pl : List (Nat × Nat)) (xs : List S1) (cs cs' : List SC),
    ix.map place = pl.map some → (∀ x ∈ xs, ∀ v, x = .c (.v v) → v.oneCell' = true) → fillS cs pl xs = some cs' → xs.length = ix.length →
    Instr.fill place (cs.map (SC.den r)).toArray (ix.zip (xs.map (S1.den r))) = some (cs'.map (SC.den r)).toArray
  | [], pl, xs, cs, cs', hp, _, hf, hl => by
    have : pl = [] := by simpa using hp.symm
    subst this
    have : xs = [] := List.eq_nil_of_length_eq_zero (by simpa using hl)
    subst this
    simp only [fillS, Option.some.injEq] at hf
    subst hf
    rfl
  | i :: ix, [], xs, cs, cs', hp, _, hf, hl => by simp at hp
  | i :: ix, (o, n) :: pl, [], cs, cs', hp, _, hf, hl => by simp at hl
  | i :: ix, (o, n) :: pl, x :: xs, cs, cs', hp, hone, hf, hl => by
    simp only [List.map_cons, List.cons.injEq] at hp
    simp only [fillS] at hf
    split at hf
    · rename_i hc
      obtain ⟨hc1, hc2⟩ := hc
      have hcell := S1.cells_den r x (fun v hv => hone x (by simp) v hv) hr
      have hsz : (x.den r).cells.size = n := by rw [← Array.length_toList, hcell, List.length_map, hc1]
      simp only [List.zip_cons_cons, List.map_cons, Instr.fill, hp.1]
      rw [if_neg (by rw [hsz]; simp; omega)]
      rw [← fill_den place hr ix pl xs (setAt cs o x.cells) cs' hp.2 (fun y hy => hone y (List.mem_cons_of_mem _ hy)) hf (by simpa using hl)]
      congr 1
      rw [← Array.foldl_toList, Array.toList_zipIdx, hcell]
      have := lay_eq o (x.cells.map (SC.den r)) 0 (cs.map (SC.den r)).toArray (by simp; omega)
      simp only [Nat.add_zero] at this
      refine this.trans ?_
      congr 1
      rw [setAt_eq _ _ _ (by simp; omega), setAt_eq _ _ _ (by omega)]
      simp
    · cases hf

end
end Go.Sx
