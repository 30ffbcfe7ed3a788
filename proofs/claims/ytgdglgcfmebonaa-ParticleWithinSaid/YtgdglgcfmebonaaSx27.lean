/- A part of the proof of a statement about this seat: how a function is stepped through, and plain laws. No conditions. -/
import Derived.Test.YtgdglgcfmebonaaSx24
import Derived.Test.YtgdglgcfmebonaaSx26
set_option linter.unusedVariables false
set_option linter.unusedSimpArgs false
namespace Go.Sx
open Go.RowKit

def keepS (env : List (Nat × SV)) : List Nat → List (Nat × SV)
  | [] => []
  | s :: l => match lk env s with
    | some v => (s, v) :: keepS env l
    | none => keepS env l
def idsEnv : List (Nat × SV) → List Nat
  | [] => []
  | (_, v) :: l => v.ids ++ idsEnv l
def keepN (names : List Nat) : List Nat → List (Nat × Ent) → List (Nat × Ent)
  | _, [] => []
  | seen, (i, e) :: l => if memN i seen = true then keepN names seen l else if memN i names = true then (match e with
    | .dead => keepN names (i :: seen) l
    | _ => (i, e) :: keepN names (i :: seen) l) else keepN names seen l
/-- The loop's state: what turns, and what stays of what is read. -/
def mkI (S : St) (live : List Nat) (k : Nat) (env : List (Nat × SV)) (ents : List (Nat × Ent)) : St :=
  ⟨env ++ keepS S.env live, ents ++ keepN (reach (lk (ents ++ S.ents)) (idsEnv (env ++ keepS S.env live))) (keys ents) S.ents, S.next + k⟩

theorem vcLoop_upd {α : Type} {n0 : Nat} {B : Kont → St → Prop} {S : St} {K : Kont} (live : List Nat) (k : Nat) (f : α → List (Nat × SV)) (g : α → List (Nat × Ent)) (μ : α → Nat) (x0 : α)
    (h0 : Le n0 S (mkI S live k (f x0) (g x0))) (h : ∀ x, B (kLoop n0 (fun x => mkI S live k (f x) (g x)) μ x K) (mkI S live k (f x) (g x))) : vcLoop n0 B S K :=
  ⟨α, fun x => mkI S live k (f x) (g x), μ, x0, h0, h⟩

theorem rowEq_rowF {α : Type} {E : Enc α} (n sz : Nat) (L : List α) (b : Bnd) : rowEq n sz (rowF E L) (rowF E L) (SC.sub b) ↔ True := iff_true_intro fun e j _ _ => (rowF_sub L e j b).symm
theorem rowEq_ren {α : Type} {E : Enc α} (n sz : Nat) (L : List α) (σ : Nat → Nat) : rowEq n sz (rowF E L) (rowF E L) (SC.ren σ) ↔ True := iff_true_intro fun e j _ _ => (rowF_ren L e j σ).symm
theorem litF_sub {cs : List SC} {sz : Nat} {b : Bnd} (h : subL b cs = cs) (e j : Nat) : (litF cs sz e j).sub b = litF cs sz e j := by
  unfold litF
  split
  · rename_i x hx
    rw [nth_eq] at hx
    have h2 : (subL b cs)[e * sz + j]? = some (x.sub b) := by rw [subL_eq, List.getElem?_map, hx]; rfl
    rw [h, hx] at h2
    exact (Option.some.inj h2).symm
  · rfl
theorem rowEq_lit {n sz sz' : Nat} {cs : List SC} {b : Bnd} (h : subL b cs = cs) : rowEq n sz (litF cs sz') (litF cs sz') (SC.sub b) ↔ True := iff_true_intro fun e j _ _ => (litF_sub h e j).symm

/-- A row that has grown by one is a row. -/
theorem leE_push {α : Type} (E : Enc α) (L : List α) (x : α) (b : Bnd) (ty : TypeId) : leE (SC.sub b) (.own (L.length + 1) E.sz (catF L.length (rowF E L) (litF (E.enc x) E.sz)) ty) (.own (L ++ [x]).length E.sz (rowF E (L ++ [x])) ty) :=
  ⟨by simp, rfl, rfl, rowEq_push1 E L x fun _ => rfl⟩
theorem isRow_lit1 {α : Type} {E : Enc α} (x : α) {sz : Nat} (h : sz = E.sz) : isRow E 1 sz (litF (E.enc x) sz) := by
  refine isRow_of (L := [x]) rfl (.inr h) fun e j he hj => ?_
  have : e = 0 := by omega
  subst this
  rw [litF_one, rowF_get (by simp)]; simp
theorem decL_lit1 {α : Type} {E : Enc α} (x : α) {sz : Nat} : decL E 1 (litF (E.enc x) sz) = [x] := by
  refine decL_eq rfl fun e j he hj => ?_
  have : e = 0 := by omega
  subst this
  rw [litF_one, rowF_get (by simp)]; simp
theorem isRow_cat {α : Type} {E : Enc α} {n m sz : Nat} {f g : Nat → Nat → SC} (hf : isRow E n sz f) (hg : isRow E m sz g) : isRow E (n + m) sz (catF n f g) ∧ decL E (n + m) (catF n f g) = decL E n f ++ decL E m g := by
  have key : ∀ e j, e < n + m → j < E.sz → catF n f g e j = rowF E (decL E n f ++ decL E m g) e j := by
    intro e j he hj
    have hl : (decL E n f).length = n := decL_len n f
    have hl2 : (decL E m g).length = m := decL_len m g
    unfold catF
    split
    · rename_i h
      rw [hf.2 e j h hj, rowF_get (by omega), rowF_get (by simp; omega), List.getElem_append_left (by omega)]
    · rename_i h
      rw [hg.2 (e - n) j (by omega) hj, rowF_get (by omega), rowF_get (by simp; omega), List.getElem_append_right (by omega)]
      simp only [hl]
  have hlen : n + m = (decL E n f ++ decL E m g).length := by simp [decL_len]
  exact ⟨isRow_of hlen (by have := hf.1; have := hg.1; omega) key, decL_eq hlen key⟩
end Go.Sx
