/- A part of the proof of a statement about this seat: how a function is stepped through, and plain laws. No conditions. -/
import Derived.Test.YtgdglgcfmebonaaSx5
set_option linter.unusedVariables false
set_option linter.unusedSimpArgs false
namespace Go.Sx
open Go.RowKit

section
variable {P : Program} {base : World} {M : Scp} {r : Rho} {E : Nat → Option Ent} {w : World}

theorem map1 {a : Act} {x : XO} {ys : List S1} (h : [x].map (XO.val a) = ys.map (S1.den r)) : ∃ y, ys = [y] ∧ x.val a = y.den r := by
  cases ys with
  | nil => simp at h
  | cons y ys => cases ys with
    | nil => simp at h; exact ⟨y, rfl, h⟩
    | cons y' ys => simp at h

theorem map2 {a : Act} {x x' : XO} {ys : List S1} (h : [x, x'].map (XO.val a) = ys.map (S1.den r)) : ∃ y y', ys = [y, y'] ∧ x.val a = y.den r ∧ x'.val a = y'.den r := by
  cases ys with
  | nil => simp at h
  | cons y ys => cases ys with
    | nil => simp at h
    | cons y' ys => cases ys with
      | nil => simp at h; exact ⟨y, y', rfl, h.1, h.2⟩
      | cons y2 ys => simp at h

theorem sound_load1 {o : Oper} {a : Act} {t : TypeId} {x : Operand} {xs : List XO} {ys : List S1} {p : Prop} {y : S1} {d : TypeDesc} (hE : HeapRel base M r E w)
    (ho : o.op = .load t x) (hu : P.underlying t = some d) (hd : isAggD d = false) (hv : a.eval x = (S1.den r (ys.headD (.a []))))
    (hq : opQ E .load1 ys = some (p, y)) (hp : p) : Yields P o a w (y.den r) := by
  unfold Yields
  simp only [execOp, ho]
  refine run_val ?_
  simp only [opQ] at hq
  unfold qLoad1 at hq
  split at hq <;> first | cases hq | skip
  · split at hq
    · rename_i cs hb
      split at hq
      · rename_i x' hx'
        cases hq
        simp only [List.headD_cons] at hv
        rw [hv]
        simp only [S1.den, SC.den, Instr.loadAt, Instr.sureAddr, Sem.run_bind, Sem.run_pure, Result.andThen_ok]
        exact run_loadVar1 hu hd (box_cell hE hb (by rw [← nth_eq]; exact hx'))
      · cases hq
    · cases hq
  · split at hq
    · rename_i n sz' f hb
      cases hq
      obtain ⟨rfl, h1, h2⟩ := hp
      simp only [List.headD_cons] at hv
      rw [hv]
      simp only [S1.den, SC.den, Instr.loadAt, Instr.sureAddr, Sem.run_bind, Sem.run_pure, Result.andThen_ok]
      exact run_loadVar1 hu hd (row_cell hE hb h1 h2)
    · cases hq

theorem sound_loadN {o : Oper} {a : Act} {t : TypeId} {x : Operand} {ys : List S1} {p : Prop} {y : S1} {d : TypeDesc} {i : TypeInfo} (hE : HeapRel base M r E w)
    (ho : o.op = .load t x) (hu : P.underlying t = some d) (hd : isAggD d = true) (hi : P.info? t = some i) (hv : a.eval x = (S1.den r (ys.headD (.a []))))
    (hq : opQ E (.loadN i.size) ys = some (p, y)) (hp : p) : Yields P o a w (y.den r) := by
  unfold Yields
  simp only [execOp, ho]
  refine run_val ?_
  simp only [opQ] at hq
  unfold qLoadN at hq
  split at hq <;> first | cases hq | skip
  · split at hq
    · rename_i cs hb
      cases hq
      simp only [List.headD_cons] at hv
      rw [hv]
      simp only [S1.den, SC.den, Instr.loadAt, Instr.sureAddr, Sem.run_bind, Sem.run_pure, Result.andThen_ok]
      refine run_loadVarN hu hd hi (by rw [takeAt_eq]; simp; omega) fun m v hm => ?_
      rw [Addr.add_plain, takeAt_eq] at *
      simp only [List.getElem?_map, Option.map_eq_some_iff] at hm
      obtain ⟨x', hx', rfl⟩ := hm
      rw [List.getElem?_take] at hx'
      split at hx'
      · rw [List.getElem?_drop] at hx'
        have := box_cell hE hb hx'
        rw [Nat.add_assoc]; exact this
      · cases hx'
    · cases hq
  · rename_i k sz e j
    split at hq
    · rename_i n sz' f hb
      cases hq
      obtain ⟨rfl, h1, h2⟩ := hp
      simp only [List.headD_cons] at hv
      rw [hv]
      simp only [S1.den, SC.den, Instr.loadAt, Instr.sureAddr, Sem.run_bind, Sem.run_pure, Result.andThen_ok]
      refine run_loadVarN hu hd hi (by simp [ups_length]) fun m v hm => ?_
      rw [Addr.add_plain]
      simp only [List.getElem?_map, Option.map_eq_some_iff] at hm
      obtain ⟨x', hx', rfl⟩ := hm
      have hlt : m < i.size := by
        have := (List.getElem?_eq_some_iff.1 hx').1
        rw [ups_length] at this; exact this
      rw [ups_get f e _ j m hlt] at hx'
      cases hx'
      have := row_cell hE hb h1 (show j + m < sz by omega)
      rw [Nat.add_assoc, Nat.add_assoc]; exact this
    · cases hq

end
end Go.Sx
