/- A part of the proof of a statement about this seat: how a function is stepped through, and plain laws. No conditions. -/
import Derived.Test.YtgdglgcfmebonaaSx18b
set_option linter.unusedVariables false
set_option linter.unusedSimpArgs false
namespace Go.Sx
open Go.RowKit

/-- How the elements of a slice lie in cells. -/
def kindOk : List LK → List Value → Prop
  | [], [] => True
  | .i k :: ks, .int k' n :: vs => k' = k ∧ k.min ≤ n ∧ n ≤ k.max ∧ kindOk ks vs
  | .b :: ks, .bool _ :: vs => kindOk ks vs
  | _, _ => False
structure Enc (α : Type) where
  sz : Nat
  ks : List LK
  wf : α → Prop
  enc : α → List SC
  dec : (Nat → SC) → α
  dflt : α
  flat : ∀ x, ∀ c ∈ enc x, ∃ v, c = .v v ∧ v.oneCell' = true
  len : ∀ x, (enc x).length = sz
  onto : ∀ cs, kindOk ks cs → ∃ x, enc x = cs.map SC.v ∧ wf x
  de : ∀ x f, (∀ j, j < sz → f j = (match nth (enc x) j with | some c => c | none => noC)) → dec f = x

def cellAt (cs : List SC) (j : Nat) : SC := match nth cs j with | some c => c | none => noC
def rowF {α : Type} (E : Enc α) (L : List α) : Nat → Nat → SC := fun e j => cellAt (E.enc (L.getD e E.dflt)) j
def decL {α : Type} (E : Enc α) (n : Nat) (f : Nat → Nat → SC) : List α := (List.range n).map fun e => E.dec (f e)
/-- The row holds what the decoding says. -/
def isRow {α : Type} (E : Enc α) (n sz : Nat) (f : Nat → Nat → SC) : Prop := (n = 0 ∨ sz = E.sz) ∧ ∀ e j, e < n → j < E.sz → f e j = rowF E (decL E n f) e j

section
variable {α : Type} {E : Enc α}

theorem cellAt_flat (x : α) (j : Nat) : ∃ v, cellAt (E.enc x) j = .v v ∧ v.oneCell' = true := by
  unfold cellAt
  split
  · rename_i c hc; exact E.flat x c (nth_mem hc)
  · exact ⟨_, rfl, rfl⟩
theorem rowF_flat (L : List α) (e j : Nat) : ∃ v, rowF E L e j = .v v ∧ v.oneCell' = true := cellAt_flat _ _
theorem rowF_sub (L : List α) (e j : Nat) (b : Bnd) : (rowF E L e j).sub b = rowF E L e j := by obtain ⟨v, h, _⟩ := rowF_flat (E := E) L e j; rw [h]; rfl
theorem rowF_ren (L : List α) (e j : Nat) (σ : Nat → Nat) : (rowF E L e j).ren σ = rowF E L e j := by obtain ⟨v, h, _⟩ := rowF_flat (E := E) L e j; rw [h]; rfl
theorem rowF_renf (L : List α) (σ : Nat → Nat) : (fun e j => (rowF E L e j).ren σ) = rowF E L := by funext e j; exact rowF_ren L e j σ
theorem rowF_sc (L : List α) (m : Nat → Prop) : scF m (rowF E L) := fun e j => by obtain ⟨v, h, _⟩ := rowF_flat (E := E) L e j; rw [h]; trivial
theorem rowF_scT (L : List α) (m : Nat → Prop) : scF m (rowF E L) ↔ True := iff_true_intro (rowF_sc L m)
theorem okRow_rowF (m sz : Nat) (L : List α) : okRow m sz (rowF E L) ↔ True := iff_true_intro fun e j _ _ => by obtain ⟨v, h, h1⟩ := rowF_flat (E := E) L e j; rw [h]; exact h1
theorem decL_len (n : Nat) (f : Nat → Nat → SC) : (decL E n f).length = n := by simp [decL]
theorem decL_getD (n : Nat) (f : Nat → Nat → SC) (e : Nat) (h : e < n) : (decL E n f).getD e E.dflt = E.dec (f e) := by
  unfold decL
  rw [List.getD_eq_getElem?_getD, List.getElem?_map, List.getElem?_range h]
  rfl
theorem decL_eq {n : Nat} {f : Nat → Nat → SC} {L : List α} (hn : n = L.length) (h : ∀ e j, e < n → j < E.sz → f e j = rowF E L e j) : decL E n f = L := by
  subst hn
  apply List.ext_getElem (by simp [decL])
  intro i h1 h2
  have := decL_getD (E := E) L.length f i h2
  rw [List.getD_eq_getElem?_getD, List.getElem?_eq_getElem h1] at this
  simp only [Option.getD_some] at this
  rw [this]
  refine E.de _ _ fun j hj => ?_
  rw [h i j h2 hj]
  unfold rowF cellAt
  rw [List.getD_eq_getElem?_getD, List.getElem?_eq_getElem h2]
  rfl
theorem decL_rowF (L : List α) : decL E L.length (rowF E L) = L := decL_eq rfl fun _ _ _ _ => rfl
theorem isRow_of {n sz : Nat} {f : Nat → Nat → SC} {L : List α} (hn : n = L.length) (hs : n = 0 ∨ sz = E.sz) (h : ∀ e j, e < n → j < E.sz → f e j = rowF E L e j) : isRow E n sz f := by
  refine ⟨hs, fun e j he hj => ?_⟩
  rw [decL_eq hn h]; exact h e j he hj
theorem isRow_rowF (L : List α) : isRow E L.length E.sz (rowF E L) ↔ True := iff_true_intro (isRow_of rfl (.inr rfl) fun _ _ _ _ => rfl)
theorem isRow_sz (L : List α) (sz : Nat) (h : sz = E.sz) : isRow E L.length sz (rowF E L) ↔ True := by subst h; exact isRow_rowF L
theorem isRow_nil (sz : Nat) (f : Nat → Nat → SC) : isRow E 0 sz f ↔ True := iff_true_intro ⟨.inl rfl, fun e j he => by omega⟩
theorem decL_nil (f : Nat → Nat → SC) : decL E 0 f = [] := rfl

theorem inE_row {Et : Nat → Option Ent} {l n s : Nat} {f : Nat → Nat → SC} {σ : Nat → Nat} (hl : rowOf Et l = some (n, s, f)) (h : isRow E n s f) :
    ∃ e0, Et l = some e0 ∧ leE (SC.ren σ) e0 (.ro (decL E n f).length E.sz (rowF E (decL E n f))) := by
  obtain ⟨h1, h2⟩ := h
  rw [decL_len]
  have hr : rowEq n s f (rowF E (decL E n f)) (SC.ren σ) := by
    intro e j he hj
    obtain rfl : s = E.sz := by omega
    rw [rowF_ren]; exact h2 e j he hj
  unfold rowOf at hl
  split at hl
  · rename_i n' s' f' he
    cases hl
    exact ⟨_, he, rfl, h1, hr⟩
  · rename_i n' s' f' ty he
    cases hl
    exact ⟨_, he, rfl, h1, hr⟩
  · rename_i he
    cases hl
    exact ⟨_, he, rfl⟩
  · cases hl
theorem inE0_row {Et : Nat → Option Ent} {l n s : Nat} {f : Nat → Nat → SC} (hl : rowOf Et l = some (n, s, f)) : ∃ e0, Et l = some e0 := by
  unfold rowOf at hl
  split at hl
  · rename_i he; exact ⟨_, he⟩
  · rename_i he; exact ⟨_, he⟩
  · rename_i he; exact ⟨_, he⟩
  · cases hl
theorem lens_row {Et : Nat → Option Ent} {l n s : Nat} {f : Nat → Nat → SC} (hL : Lens Et) (hl : rowOf Et l = some (n, s, f)) : (decL E n f).length ≤ 9223372036854775807 := by
  rw [decL_len]
  unfold rowOf at hl
  split at hl
  · rename_i he; cases hl; exact hL _ _ he
  · rename_i he; cases hl; exact hL _ _ he
  · cases hl; omega
  · cases hl

/-! ### Rows made and turned -/

theorem rowF_get {L : List α} {e : Nat} (h : e < L.length) (j : Nat) : rowF E L e j = cellAt (E.enc L[e]) j := by
  unfold rowF
  rw [List.getD_eq_getElem?_getD, List.getElem?_eq_getElem h]; rfl
theorem litF_one (cs : List SC) (sz j : Nat) : litF cs sz 0 j = cellAt cs j := by unfold litF cellAt; rw [Nat.zero_mul, Nat.zero_add]; cases nth cs j <;> rfl

/-- One more element. -/
theorem rowEq_push (E : Enc α) (L : List α) (x : α) {sz : Nat} {n : Nat} {b : Bnd} : rowEq n sz (catF L.length (rowF E L) (litF (E.enc x) sz)) (rowF E (L ++ [x])) (SC.sub b) ∨ L.length + 1 < n := by
  by_cases hn : n ≤ L.length + 1
  · refine .inl fun e j he hj => ?_
    rw [rowF_sub]
    unfold catF
    split
    · rename_i h
      rw [rowF_get h, rowF_get (by simp; omega), List.getElem_append_left h]
    · rename_i h
      have he : e = L.length := by omega
      subst he
      rw [Nat.sub_self, litF_one, rowF_get (by simp)]
      simp
  · exact .inr (by omega)
theorem rowEq_push1 (E : Enc α) (L : List α) (x : α) {sz : Nat} {τ : SC → SC} (hτ : ∀ v, τ (.v v) = .v v) : rowEq (L.length + 1) sz (catF L.length (rowF E L) (litF (E.enc x) sz)) (rowF E (L ++ [x])) τ := by
  intro e j he hj
  obtain ⟨v, hv, _⟩ := rowF_flat (E := E) (L ++ [x]) e j
  rw [hv, hτ, ← hv]
  unfold catF
  split
  · rename_i h
    rw [rowF_get h, rowF_get (by simp; omega), List.getElem_append_left h]
  · rename_i h
    have he : e = L.length := by omega
    subst he
    rw [Nat.sub_self, litF_one, rowF_get (by simp)]
    simp
/-- One list behind another. -/
theorem catF_at (E : Enc α) (L K : List α) {e j : Nat} (he : e < L.length + K.length) : catF L.length (rowF E L) (rowF E K) e j = rowF E (L ++ K) e j := by
  unfold catF
  split
  · rename_i h
    rw [rowF_get h, rowF_get (by simp; omega), List.getElem_append_left h]
  · rename_i h
    rw [rowF_get (by omega), rowF_get (by simp; omega), List.getElem_append_right (by omega)]
/-- A run of a list. -/
theorem shF_at (E : Enc α) (L : List α) (k : Nat) {e j : Nat} (he : e + k < L.length) : shF k (rowF E L) e j = rowF E (L.drop k) e j := by
  unfold shF
  rw [rowF_get he, rowF_get (by simp; omega)]
  congr 2
  simp [Nat.add_comm]
/-- An element turned. -/
theorem updF_row {L : List α} {e0 j0 : Nat} {cs : List SC} {x : α} (h : e0 < L.length) (hx : E.enc x = setAt (E.enc (L.getD e0 E.dflt)) j0 cs) (hc : j0 + cs.length ≤ E.sz) : updF (rowF E L) e0 j0 cs = rowF E (L.set e0 x) := by
  funext e j
  unfold updF
  by_cases he : e = e0
  · subst he
    have e0 : rowF E (L.set e x) e j = cellAt (E.enc x) j := by rw [rowF_get (by simpa using h)]; simp
    rw [e0]
    have hr : rowF E L e j = cellAt (E.enc (L.getD e E.dflt)) j := rfl
    rw [hr]
    have hl := E.len (L.getD e E.dflt)
    generalize E.enc (L.getD e E.dflt) = K at hx hl ⊢
    unfold cellAt
    rw [hx, setAt_eq _ _ _ (by omega), nth_eq, nth_eq, nth_eq]
    by_cases hj : j0 ≤ j
    · rw [if_pos ⟨rfl, hj⟩]
      by_cases hj2 : j < j0 + cs.length
      · rw [List.getElem?_append_left (by simp; omega), List.getElem?_append_right (by simp; omega)]
        have : min j0 K.length = j0 := by omega
        rw [List.length_take, this, List.getElem?_eq_getElem (by omega)]
      · rw [List.getElem?_eq_none (by omega)]
        rw [List.getElem?_append_right (by simp; omega)]
        simp only [List.length_append, List.length_take]
        have : min j0 K.length = j0 := by omega
        rw [this, List.getElem?_drop]
        have e1 : j0 + cs.length + (j - (j0 + cs.length)) = j := by omega
        rw [e1]
    · rw [if_neg (by omega), List.append_assoc, List.getElem?_append_left (by simp; omega), List.getElem?_take, if_pos (by omega)]
  · rw [if_neg (by omega)]
    unfold rowF
    congr 2
    simp only [List.getD_eq_getElem?_getD]
    rw [List.getElem?_set_ne (Ne.symm he)]
theorem replF_at (E : Enc α) (x : α) {zs : List Value} (hx : E.enc x = zs.map .v) {n e j : Nat} (he : e < n) : replF zs e j = rowF E (List.replicate n x) e j := by
  rw [rowF_get (by simpa using he)]
  simp only [List.getElem_replicate]
  unfold replF cellAt
  rw [hx, nth_eq, nth_eq, List.getElem?_map]
  cases zs[j]? <;> rfl

theorem okRow_lit {cs : List SC} (h : okcs cs = true) (m sz sz' : Nat) : okRow m sz' (litF cs sz) ↔ True := iff_true_intro fun e j _ _ => by
  unfold litF
  split
  · rename_i x hx; exact okcs_all h x (nth_mem hx)
  · rfl
theorem lit_scF {m : Nat → Prop} {cs : List SC} (h : scL m cs) (sz : Nat) : scF m (litF cs sz) ↔ True := iff_true_intro fun e j => by
  unfold litF
  split
  · rename_i x hx; exact scL_sound h x (nth_mem hx)
  · trivial

end
end Go.Sx
