/- A part of the proof of a statement about this seat: how a function is stepped through, and plain laws. No conditions. -/
import Derived.Test.YtgdglgcfmebonaaSx28
import Derived.Test.YtgdglgcfmebonaaSx29
set_option linter.unusedVariables false
set_option linter.unusedSimpArgs false
namespace Go.Sx
open Go.ChangeShapes Go.WideShapes Go.ChangeAt Go.RowKit

section
variable {H : Type} {enc : TypeId × Value → H} {P : Program} {w : World} {base : Nat} {sp : Nat → Bool} {held : Bool}
/-- One cell of its own. -/
def oneT (P : Program) (t : TypeId) : Bool :=
  match P.underlying t with
  | some (.int _) | some .bool | some .string | some (.slice _) => true
  | _ => false
theorem open_one {r : Reach} {b0 : Nat} {t : TypeId} {v : Value} {d : DataW H} {ps : List MemPlace} (ho : oneT P t = true) (hv : Value.okWide P w r b0 t v) (hd : DataW.Trod enc P w base sp held t v d ps) :
    ∃ fuel x, DataW.trod enc P w base sp held fuel t [v] = some x := by
  obtain ⟨fuel, hx⟩ := hd
  have : v.cells.toList = [v] := by
    unfold oneT at ho
    unfold Value.okWide at hv
    cases v <;> first | rfl | skip
    split at ho
    all_goals first | (cases ho; done) | skip
    all_goals
      rename_i hu
      rw [hu] at hv
      simp [Cell.okWide, Cell.ok, hu] at hv
  rw [this] at hx
  exact ⟨fuel, _, hx⟩
theorem open_agg {r : Reach} {b0 : Nat} {t : TypeId} {ts : List TypeId} {fs : Array Field} {v : Value} {d : DataW H} {ps : List MemPlace} (hu : P.underlying t = some (.struct fs)) (ht : lvT P 20 t = some ts) (hv : Value.okWide P w r b0 t v) (hd : DataW.Trod enc P w base sp held t v d ps) :
    ∃ cs : List Value, v = .agg cs.toArray ∧ leafOk enc P w base sp held ts cs := by
  obtain ⟨fuel, hx⟩ := hd
  unfold Value.okWide at hv
  rw [hu] at hv
  obtain ⟨cs, rfl, hsz, _⟩ := hv
  exact ⟨cs.toList, by simp, lvT_ok 20 t ts ht fuel _ _ (by simpa [Value.cells] using hsz) hx⟩
theorem open_aggA {r : Reach} {b0 : Nat} {t e : TypeId} {n : Nat} {ts : List TypeId} {v : Value} {d : DataW H} {ps : List MemPlace} (hu : P.underlying t = some (.array n e)) (ht : lvT P 20 t = some ts) (hv : Value.okWide P w r b0 t v) (hd : DataW.Trod enc P w base sp held t v d ps) :
    ∃ cs : List Value, v = .agg cs.toArray ∧ leafOk enc P w base sp held ts cs := by
  obtain ⟨fuel, hx⟩ := hd
  unfold Value.okWide at hv
  rw [hu] at hv
  obtain ⟨cs, rfl, hsz, _⟩ := hv
  exact ⟨cs.toList, by simp, lvT_ok 20 t ts ht fuel _ _ (by simpa [Value.cells] using hsz) hx⟩
theorem leafs_cons {t : TypeId} {ts : List TypeId} {cs : List Value} (h : leafOk enc P w base sp held (t :: ts) cs) : ∃ c cs', cs = c :: cs' ∧ (∃ fuel x, DataW.trod enc P w base sp held fuel t [c] = some x) ∧ leafOk enc P w base sp held ts cs' := by
  cases cs with
  | nil => exact h.elim
  | cons c cs => exact ⟨c, cs, rfl, h.1, h.2⟩
theorem leafs_nil {cs : List Value} (h : leafOk enc P w base sp held [] cs) : cs = [] := by
  cases cs with
  | nil => rfl
  | cons c cs => exact h.elim
end

def rhoL (l : List Value) : Rho := fun i => match l[i]? with
  | some v => v
  | none => .bool true
/-- The rows of the arguments. -/
def rowsIn (W : World) (r : Rho) : List (Nat × Ent) → Prop
  | [] => True
  | (i, e) :: l => (e.mut = false ∧ e.rel r W (r i) ∧ ∀ b, blkOf (r i) = some b → b < W.heap.size) ∧ rowsIn W r l
theorem rowsIn_lk {W : World} {r : Rho} : ∀ {l : List (Nat × Ent)}, rowsIn W r l → ∀ i e, lk l i = some e → e.mut = false ∧ e.rel r W (r i) ∧ ∀ b, blkOf (r i) = some b → b < W.heap.size
  | [], _, i, e, h => by cases h
  | (j, x) :: l, hl, i, e, h => by
    simp only [lk] at h
    split at h
    · rename_i hj; cases hj; cases h; exact hl.1
    · exact rowsIn_lk hl.2 i e h
def onesL : List Value → Prop
  | [] => True
  | v :: l => v.oneCell' = true ∧ onesL l
theorem onesL_at : ∀ {l : List Value}, onesL l → ∀ i, (rhoL l i).oneCell' = true
  | [], _, i => rfl
  | v :: l, h, 0 => h.1
  | v :: l, h, i + 1 => onesL_at (l := l) h.2 i
theorem rows_rel {W : World} {l : List (Nat × Ent)} {vs : List Value} (h1 : onesL vs) (h : rowsIn W (rhoL vs) l) : HeapRel W ⟨fun _ => False, fun _ => True⟩ (rhoL vs) (lk l) W where
  size := Nat.le_refl _
  one := onesL_at h1
  os := rfl
  tape := rfl
  output := rfl
  frame := fun _ _ _ => rfl
  ent := fun i e he => (rowsIn_lk h i e he).2.1
  apart := fun i j e e' _ hi _ hm => by rw [(rowsIn_lk h i e hi).1] at hm; cases hm
  mine := fun i e he hm => by rw [(rowsIn_lk h i e he).1] at hm; cases hm
  src := fun i e he _ b hb => ⟨(rowsIn_lk h i e he).2.2 b hb, .inr trivial⟩
/-- What a contract says of a call of a law. -/
theorem row_calls {P : Program} {f : Nat} {g : Con} {args : List S1} {n : Nat} {l : List (Nat × Ent)} {pre : Prop} {res : SV} (h : COk P f g) (hs : g args (lk l) n = some (.q pre res)) (ha : sc1L (upto n) args) (hE : scEnt (upto n) l) {W : World} {vs : List Value} (h1 : onesL vs) (hr : rowsIn W (rhoL vs) l) (hp : pre) :
    Calls P f (args.map (S1.den (rhoL vs))).toArray W (fun e w' => e = .returned (res.den (rhoL vs)) ∧ Below W.heap.size W w') := by
  have := h args (lk l) n (sc1L_sound ha) (fun i e h => scEnt_sound hE i e h)
  rw [hs] at this
  exact (this.2 hp).2 W _ _ W (rows_rel h1 hr)
theorem getD_wf {α : Type} {E : Enc α} {L : List α} (h : ∀ x ∈ L, E.wf x) (k : Nat) (hk : k < L.length) : E.wf (L.getD k E.dflt) := by
  rw [List.getD_eq_getElem?_getD, List.getElem?_eq_getElem hk]
  exact h _ (List.getElem_mem hk)
end Go.Sx
