/- A part of the proof of a statement about this seat: how a function is stepped through, and plain laws. No conditions. -/
import Derived.Test.YtgdglgcfmebonaaSx2
set_option linter.unusedVariables false
set_option linter.unusedSimpArgs false
namespace Go.Sx
open Go.RowKit

theorem nth_eq {α : Type} : ∀ (l : List α) (j : Nat), nth l j = l[j]?
  | [], j => by simp [nth]
  | c :: cs, 0 => by simp [nth]
  | c :: cs, j + 1 => by simp [nth, nth_eq cs j]

theorem takeAt_eq {α : Type} : ∀ (l : List α) (j m : Nat), takeAt l j m = (l.drop j).take m
  | l, j, 0 => by cases l <;> simp [takeAt]
  | [], j, m + 1 => by simp [takeAt]
  | c :: cs, 0, m + 1 => by simp [takeAt, takeAt_eq cs 0 m]
  | c :: cs, j + 1, m + 1 => by simp [takeAt, takeAt_eq cs j (m + 1)]

theorem setAt_eq {α : Type} : ∀ (l : List α) (o : Nat) (xs : List α), o + xs.length ≤ l.length → setAt l o xs = l.take o ++ xs ++ l.drop (o + xs.length)
  | l, 0, [], _ => by cases l <;> simp [setAt]
  | [], 0, x :: xs, h => by simp at h
  | c :: cs, 0, x :: xs, h => by
    have := setAt_eq cs 0 xs (by simp at h ⊢; omega)
    simp at this
    simp [setAt, this]
  | [], o + 1, xs, h => by simp at h
  | c :: cs, o + 1, xs, h => by
    have := setAt_eq cs o xs (by simp at h; omega)
    have e : o + 1 + xs.length = (o + xs.length) + 1 := by omega
    cases xs with
    | nil => simp [setAt, this]
    | cons x xs => simp only [setAt, this, e, List.take_succ_cons, List.drop_succ_cons, List.cons_append]

theorem setAt_length {α : Type} (l : List α) (o : Nat) (xs : List α) (h : o + xs.length ≤ l.length) : (setAt l o xs).length = l.length := by
  rw [setAt_eq l o xs h]; simp; omega

theorem ups_length (f : Nat → Nat → SC) (e j : Nat) : ∀ m, (ups f e j m).length = m := by
  intro m
  induction m generalizing j with
  | zero => rfl
  | succ m ih => simp [ups, ih]

theorem ups_get (f : Nat → Nat → SC) (e : Nat) : ∀ (m j i : Nat), i < m → (ups f e j m)[i]? = some (f e (j + i))
  | 0, _, _, h => by omega
  | m + 1, j, 0, _ => by simp [ups]
  | m + 1, j, i + 1, h => by
    simp only [ups, List.getElem?_cons_succ]
    rw [ups_get f e m (j + 1) i (by omega)]
    congr 2; omega

section
variable {P : Program} {w : World}

theorem run_val {s : Sem Value} {v : Value} (h : s.run P w = .ok v w) : (do pure (.value (← s)) : Sem Next).run P w = .ok (.value v) w := by simp [h]

theorem run_typeInfo' {t : TypeId} {i : TypeInfo} (h : P.info? t = some i) : (typeInfo t).run P w = .ok i w := by simp [typeInfo, h]
theorem run_sizeOf' {t : TypeId} {i : TypeInfo} (h : P.info? t = some i) : (sizeOf t).run P w = .ok i.size w := by simp [sizeOf, run_typeInfo' h]
theorem cellsOf_eq {t : TypeId} {i : TypeInfo} (h : P.info? t = some i) : P.cellsOf t = i.size := by simp [Program.cellsOf, h]
theorem run_isAgg' {t : TypeId} {d : TypeDesc} (h : P.underlying t = some d) : (isAgg t).run P w = .ok (isAggD d) w := by
  simp only [isAgg, Sem.run_bind, run_underlying h, Result.andThen_ok]
  cases d <;> rfl

theorem run_loadVar1 {t : TypeId} {d : TypeDesc} {a : Addr} {v : Value} (h : P.underlying t = some d) (hd : isAggD d = false) (hc : w.cell? a = some v) : (loadVar t a).run P w = .ok v w := by
  simp [loadVar, run_isAgg' h, hd, hc]

theorem run_loadVarN {t : TypeId} {d : TypeDesc} {i : TypeInfo} {a : Addr} {cs : List Value} (h : P.underlying t = some d) (hd : isAggD d = true) (hi : P.info? t = some i)
    (hl : cs.length = i.size) (hc : ∀ j v, cs[j]? = some v → w.cell? (a.add j) = some v) : (loadVar t a).run P w = .ok (.agg cs.toArray) w := by
  simp [loadVar, run_isAgg' h, hd, run_sizeOf' hi, ← hl, run_loadCells_list w a cs hc]

theorem Addr.add_plain (b o n : Nat) : (⟨b, o, none⟩ : Addr).add n = ⟨b, o + n, none⟩ := by unfold Addr.add; split <;> simp_all

end

/-! What the memory holds -/
section
variable {base : World} {M : Scp} {r : Rho} {E : Nat → Option Ent} {w : World}

theorem boxOf_eq {i : Nat} {cs : List SC} (h : boxOf E i = some cs) : ∃ ty, E i = some (.box cs ty) := by
  unfold boxOf at h
  split at h
  · rename_i cs' ty he; cases h; exact ⟨ty, he⟩
  · cases h

theorem box_at (h : HeapRel base M r E w) {i : Nat} {cs : List SC} (hb : boxOf E i = some cs) :
    ∃ b ty, r i = .pointer (some ⟨b, 0, none⟩) ∧ w.heap[b]? = some (.cells (cs.map (SC.den r)).toArray ty (0, 0)) := by
  obtain ⟨ty, he⟩ := boxOf_eq hb
  obtain ⟨b, h1, h2⟩ := h.ent i _ he
  exact ⟨b, ty, h1, h2⟩

theorem box_cell (h : HeapRel base M r E w) {i j : Nat} {cs : List SC} {x : SC} (hb : boxOf E i = some cs) (hx : cs[j]? = some x) :
    w.cell? ⟨(addrOf (r i)).block, (addrOf (r i)).off + j, none⟩ = some (x.den r) := by
  obtain ⟨b, ty, h1, h2⟩ := box_at h hb
  rw [h1]
  simp only [addrOf, Nat.zero_add]
  rw [cell_of_row w b j _ ty (0, 0) h2]
  simp [hx]

theorem row_cell (h : HeapRel base M r E w) {i e j n sz : Nat} {f : Nat → Nat → SC} (hb : rowOf E i = some (n, sz, f)) (he : e < n) (hj : j < sz) :
    w.cell? ⟨(addrOf (r i)).block, (addrOf (r i)).off + (e * sz + j), none⟩ = some ((f e j).den r) := by
  unfold rowOf at hb
  split at hb
  · rename_i n' sz' f' hE
    cases hb
    obtain ⟨a, cap, h1, h2, hm, h3⟩ := h.ent i _ hE
    obtain ⟨b, o, rfl, h4, h5⟩ := h3 (by omega)
    rw [h1]; exact h5 e j he hj
  · rename_i n' sz' f' ty hE
    cases hb
    rcases (h.ent i _ hE).2 with ⟨b, o, cap, cur, h1, h2, h3, h4, h5, h6⟩ | ⟨_, _, h0⟩
    · rw [h1]
      simp only [addrOf]
      rw [cell_of_row w b _ _ ty (0, 0) h2]
      exact h6 e j he hj
    · omega
  · cases hb; omega
  · cases hb

theorem row_val (h : HeapRel base M r E w) {i n sz : Nat} {f : Nat → Nat → SC} (hb : rowOf E i = some (n, sz, f)) :
    ∃ a cap, r i = .slice a n cap ∧ n ≤ cap ∧ (0 < n → ∃ b o, a = some ⟨b, o, none⟩ ∧ b < w.heap.size) := by
  unfold rowOf at hb
  split at hb
  · rename_i n' sz' f' hE
    cases hb
    obtain ⟨a, cap, h1, h2, hm, h3⟩ := h.ent i _ hE
    exact ⟨a, cap, h1, h2, fun hn => by obtain ⟨b, o, h4, h5, _⟩ := h3 hn; exact ⟨b, o, h4, h5⟩⟩
  · rename_i n' sz' f' ty hE
    cases hb
    rcases (h.ent i _ hE).2 with ⟨b, o, cap, cur, h1, h2, h3, h4⟩ | ⟨a, h1, h0⟩
    · exact ⟨_, cap, h1, h3, fun _ => ⟨b, o, rfl, (Array.getElem?_eq_some_iff.1 h2).1⟩⟩
    · exact ⟨a, 0, by rw [h1, h0], by omega, fun hn => by omega⟩
  · rename_i hE
    cases hb
    obtain ⟨a, h1⟩ := h.ent i _ hE
    exact ⟨a, 0, h1, by omega, fun hn => by omega⟩
  · cases hb

/-- What a slice's value is. -/
theorem rowV_val (h : HeapRel base M r E w) {x : S1} {n sz : Nat} {f : Nat → Nat → SC} (hb : rowV E x = some (n, sz, f)) :
    ∃ a cap, x.den r = .slice a n cap ∧ n ≤ cap ∧ (0 < n → ∃ b o, a = some ⟨b, o, none⟩ ∧ b < w.heap.size) := by
  unfold rowV at hb
  split at hb
  · rename_i i
    exact row_val h hb
  · cases hb; exact ⟨none, 0, rfl, by omega, fun hn => by omega⟩
  · cases hb

theorem rowV_cells (h : HeapRel base M r E w) {x : S1} {n sz cap b o : Nat} {f : Nat → Nat → SC} (hb : rowV E x = some (n, sz, f)) (hx : x.den r = .slice (some ⟨b, o, none⟩) n cap) {e j : Nat} (he : e < n) (hj : j < sz) :
    w.cell? ⟨b, o + (e * sz + j), none⟩ = some ((f e j).den r) := by
  unfold rowV at hb
  split at hb
  · rename_i i
    have := row_cell h hb he hj
    simp only [S1.den, SC.den] at hx
    rw [hx] at this
    exact this
  · cases hb; omega
  · cases hb

end

theorem S1.cells_den (r : Rho) (x : S1) (h : ∀ v, x = .c (.v v) → v.oneCell' = true) (hr : ∀ i, (r i).oneCell' = true) : (x.den r).cells.toList = x.cells.map (SC.den r) := by
  cases x with
  | a cs => simp [S1.den, Value.cells, S1.cells]
  | c x =>
    have : (x.den r).oneCell' = true := by
      cases x with
      | v v => exact h v rfl
      | n i => exact hr i
      | p i j => rfl
      | q i sz e j => rfl
    simp only [S1.den, S1.cells, List.map_cons, List.map_nil]
    clear h hr
    generalize x.den r = v at this ⊢
    cases v <;> first | rfl | (simp [Value.oneCell'] at this)

end Go.Sx
