/- A part of the proof of a statement about this seat: how a function is stepped through, and plain laws. No conditions. -/
import Derived.Test.YtnkkhmeojifckaaTBSz3
import Derived.Shelf.Bytes.SlCountOne
import Derived.Lib.Bytealg
import Derived.Shelf.Bytes.SlIndexAt
import Derived.Lib.BytesEntry
set_option linter.unusedVariables false
set_option linter.unusedSimpArgs false
namespace Go.Sx
def eC : Enc CC where
  sz := 2
  ks := [.i .i64, .i .i64]
  wf := fun x => ((-9223372036854775808) ≤ x.X ∧ x.X ≤ 9223372036854775807) ∧ ((-9223372036854775808) ≤ x.Y ∧ x.Y ≤ 9223372036854775807)
  enc := fun x => [.v (.int .i64 x.X), .v (.int .i64 x.Y)]
  dec := fun f => ⟨intC (f 0), intC (f 1)⟩
  dflt := ⟨0, 0⟩
  flat := by
    intro x c hc
    simp only [List.mem_cons, List.not_mem_nil, or_false] at hc
    rcases hc with rfl | rfl <;> exact ⟨_, rfl, rfl⟩
  len := fun x => rfl
  onto := by
    intro cs h
    obtain ⟨n0, cs0, rfl, a0, b0, h0⟩ := kind_i h
    obtain ⟨n1, cs1, rfl, a1, b1, h1⟩ := kind_i h0
    obtain rfl := kind_n h1
    exact ⟨⟨n0, n1⟩, rfl, ⟨a0, b0⟩, ⟨a1, b1⟩⟩
  de := by
    intro x f h
    have h0 := h 0 (by decide)
    simp only [nth] at h0
    have h1 := h 1 (by decide)
    simp only [nth] at h1
    simp only [h0, h1, intC, boolC]
theorem eC_sz : eC.sz = 2 := rfl
theorem eC_0 (L : List CC) (e : Nat) : rowF eC L e 0 = .v (.int .i64 (L.getD e eC.dflt).X) := rfl
theorem eC_1 (L : List CC) (e : Nat) : rowF eC L e 1 = .v (.int .i64 (L.getD e eC.dflt).Y) := rfl
theorem eC_eta (x : CC) : CC.mk x.X x.Y = x := rfl
theorem eC_isRow (L : List CC) : isRow eC L.length 2 (rowF eC L) ↔ True := isRow_rowF L
attribute [push_cast] eC_eta eC_isRow eC_sz eC_0 eC_1
def O1 (d : Nat) (op : XOp) (s : Nat) : XOper := ⟨some d, op, [.t s], none⟩
def O2 (d : Nat) (op : XOp) (s r : Nat) : XOper := ⟨some d, op, [.t s, .t r], none⟩
def K1 (d : Nat) (op : XOp) (v : Value) : XOper := ⟨some d, op, [.k v], none⟩
def K2 (d : Nat) (op : XOp) (s : Nat) (v : Value) : XOper := ⟨some d, op, [.t s, .k v], none⟩
def G1 (d : Nat) (op : XOp) (s g : Nat) (b : Bool) : XOper := ⟨some d, op, [.t s], some (g, b)⟩
def G2 (d : Nat) (op : XOp) (s r g : Nat) (b : Bool) : XOper := ⟨some d, op, [.t s, .t r], some (g, b)⟩
def GK (d : Nat) (op : XOp) (s : Nat) (v : Value) (g : Nat) (b : Bool) : XOper := ⟨some d, op, [.t s, .k v], some (g, b)⟩
def iV (n : Int) : Value := .int .i64 n
attribute [push_cast] O1 O2 K1 K2 G1 G2 GK iV
theorem push_eq {α : Type} {E : Enc α} {L L' : List α} {x : α} {sz : Nat} {b : Bnd} (h : L' = L ++ [x]) : L.length + 1 = L'.length ∧ rowEq (L.length + 1) sz (catF L.length (rowF E L) (litF (E.enc x) sz)) (rowF E L') (SC.sub b) := by
  subst h
  exact ⟨by simp, rowEq_push1 E L x (fun _ => rfl)⟩
theorem same_eq {α : Type} {E : Enc α} {L L' : List α} {n sz : Nat} {b : Bnd} (h : L' = L) : L.length = L'.length ∧ rowEq n sz (rowF E L) (rowF E L') (SC.sub b) := by
  subst h
  exact ⟨rfl, (rowEq_rowF _ _ _ _).2 trivial⟩
end Go.Sx
namespace Go.Sx
instance : DecidableEq CC := fun a b => if h : a.X = b.X ∧ a.Y = b.Y then isTrue (by cases a; cases b; simp only at h; rw [h.1, h.2]) else isFalse (fun e => h (by rw [e]; exact ⟨rfl, rfl⟩))
end Go.Sx
namespace Go.Sx
open Go.RowKit
section
variable {P : Program} {base : World} {M : Scp} {r : Rho} {w : World}
end
end Go.Sx
namespace Go.Sx
open Go.RowKit
def sameCon : Con := fun args _ _ => match args with
  | [x] => some (.q True (.o x))
  | _ => none
attribute [push_cast] sameCon
end Go.Sx
namespace Go.Sx
theorem decL_one {α : Type} {E : Enc α} (x : α) : decL E 1 (rowF E [x]) = [x] := decL_rowF [x]
theorem isRow_one (x : Int) : isRow eU8 1 1 (rowF eU8 [x]) ↔ True := isRow_rowF (E := eU8) [x]
attribute [push_cast] decL_one isRow_one
end Go.Sx
namespace Go.Sx
open Go.RowKit
def cnt8 (L : List Int) (c : Int) : Int := (Lib.countByte (Lib.bytesOf L) c.toNat.toUInt8 : Nat)
def cntCon : Con := fun args E _ => match args with
  | [.c (.n i), .c (.v (.int .u8 c))] => match rowOf E i with
    | some (n, s, f) => some (.q (isRow eU8 n s f) (.o (.c (.v (.int .i64 (cnt8 (decL eU8 n f) c))))))
    | none => none
  | _ => none
attribute [push_cast] cntCon
theorem cok_count {P : Program} {k : Nat} (h : ∀ (args : Array Value) (w : World), (callFunc k args).run P w = ((Extern.BytealgCount.count args).run P w).andThen fun v w' => .ok (.value v) w') : COk P k cntCon := by
  intro args E m hargs hE
  unfold cntCon
  split
  · rename_i i c
    split
    · rename_i n s f hrow
      refine ⟨fun _ _ _ => trivial, fun hr base M r w hh => .inr ⟨.int .i64 (cnt8 (decL eU8 n f) c), ?_, rfl, Below.refl _ _⟩⟩
      rw [h]
      show Result.andThen ((Extern.BytealgCount.count #[r i, .int .u8 c]).run P w) _ = _
      have hlen : (decL eU8 n f).length = n := decL_len n f
      have hcell : ∀ e, e < n → f e 0 = .v (.int .u8 ((decL eU8 n f).getD e 0)) := fun e he => by
        rw [hr.2 e 0 he (by decide)]; rfl
      have key : (Extern.BytealgCount.count #[r i, .int .u8 c]).run P w = .ok (.int .i64 (cnt8 (decL eU8 n f) c)) w := by
        unfold rowOf at hrow
        split at hrow
        · rename_i n' s' f' he
          cases hrow
          obtain ⟨a, cap, hV, _, _, hc⟩ := hh.ent i _ he
          rw [hV]
          rcases Nat.eq_zero_or_pos n with hz | hz
          · subst hz
            cases a with
            | none => exact Lib.run_countNil w 0 cap c
            | some a => exact Lib.run_countAt w a 0 cap (decL eU8 0 f) hlen (fun j hj => absurd hj (by omega)) c
          · obtain ⟨b, o, rfl, _, hx⟩ := hc hz
            have hs : s = 1 := by rcases hr.1 with q | q; omega; exact q
            subst hs
            exact Lib.run_countSlice w b o n cap (decL eU8 n f) hlen (fun j hj => by have := hx j 0 hj (by omega); rw [hcell j hj, Nat.mul_one, Nat.add_zero] at this; exact this) c
        · rename_i n' s' f' ty he
          cases hrow
          obtain ⟨_, hq⟩ := hh.ent i _ he
          rcases hq with ⟨b, o, cap, cur, hV, hb, _, _, _, hx⟩ | ⟨a, hV, hz⟩
          · rw [hV]
            rcases Nat.eq_zero_or_pos n with hz | hz
            · subst hz; exact Lib.run_countAt w _ 0 cap (decL eU8 0 f) hlen (fun j hj => absurd hj (by omega)) c
            · have hs : s = 1 := by rcases hr.1 with q | q; omega; exact q
              subst hs
              exact Lib.run_countSlice w b o n cap (decL eU8 n f) hlen (fun j hj => by
                have := hx j 0 hj (by omega)
                rw [hcell j hj, Nat.mul_one, Nat.add_zero] at this
                simp only [World.cell?, hb, this]; rfl) c
          · subst hz
            rw [hV]
            cases a with
            | none => exact Lib.run_countNil w 0 0 c
            | some a => exact Lib.run_countAt w a 0 0 (decL eU8 0 f) hlen (fun j hj => absurd hj (by omega)) c
        · rename_i he
          cases hrow
          obtain ⟨a, hV⟩ := hh.ent i _ he
          rw [hV]
          cases a with
          | none => exact Lib.run_countNil w 0 0 c
          | some a => exact Lib.run_countAt w a 0 0 (decL eU8 0 _) hlen (fun j hj => absurd hj (by omega)) c
        · rename_i o' n' s' f' c' al' he
          cases hrow
          obtain ⟨a, cap, hV, _, _, hc⟩ := deep_row (hh.ent i _ he)
          rw [hV]
          rcases Nat.eq_zero_or_pos n with hz | hz
          · subst hz
            cases a with
            | none => exact Lib.run_countNil w 0 cap c
            | some a => exact Lib.run_countAt w a 0 cap (decL eU8 0 _) hlen (fun j hj => absurd hj (by omega)) c
          · obtain ⟨b, o, rfl, _, hx⟩ := hc hz
            have hs : s = 1 := by rcases hr.1 with q | q; omega; exact q
            subst hs
            exact Lib.run_countSlice w b o n cap (decL eU8 n _) hlen (fun j hj => by
              have := hx j 0 hj (by omega)
              have h9 := hcell j hj
              have h10 := alF_den (e := j) (j := 0) (hh.ent i _ he).2.2
              rw [h9] at h10
              rw [← h10, Nat.mul_one, Nat.add_zero] at this; exact this) c
        · cases hrow
      rw [key]
      rfl
    · trivial
  · trivial
end Go.Sx
namespace Go.Sx
open Go.RowKit
def idxS (s : ByteArray) (c : Int) : Int := Lib.indexByte s.data.toList c.toNat.toUInt8
def idxCon : Con := fun args _ _ => match args with
  | [.c (.v (.string s)), .c (.v (.int .u8 c))] => some (.q True (.o (.c (.v (.int .i64 (idxS s c))))))
  | _ => none
attribute [push_cast] idxCon
end Go.Sx
namespace Go.Sx
def setM (K : List CC) : List (Int × Int × SC) := K.map (fun c => (c.X, c.Y, .v (.bool true)))
def insC (K : List CC) (x y : Int) : List CC := if (⟨x, y⟩ : CC) ∈ K then K else K ++ [⟨x, y⟩]
theorem getM_set (K : List CC) (x y : Int) :
    getM (setM K) x y (.v (.bool false)) = .v (.bool (decide ((⟨x, y⟩ : CC) ∈ K))) := by
  induction K with
  | nil => simp [setM, getM]
  | cons c l ih =>
    obtain ⟨a, b⟩ := c
    simp only [setM, List.map_cons, getM] at ih ⊢
    by_cases h : a = x ∧ b = y
    · obtain ⟨rfl, rfl⟩ := h
      simp
    · rw [if_neg h]
      have hne : ¬ ((⟨x, y⟩ : CC) = ⟨a, b⟩) := by
        intro e
        injection e with e1 e2
        exact h ⟨e1.symm, e2.symm⟩
      rw [ih]
      simp only [List.mem_cons, hne, false_or]
theorem updM_set (K : List CC) (x y : Int) :
    updM (setM K) x y (.v (.bool true)) = setM (insC K x y) := by
  induction K with
  | nil => simp [setM, updM, insC]
  | cons c l ih =>
    obtain ⟨a, b⟩ := c
    by_cases h : a = x ∧ b = y
    · obtain ⟨rfl, rfl⟩ := h
      simp [setM, updM, insC]
    · have hne : ¬ ((⟨x, y⟩ : CC) = ⟨a, b⟩) := by
        intro e
        injection e with e1 e2
        exact h ⟨e1.symm, e2.symm⟩
      have h1 : insC (⟨a, b⟩ :: l) x y = ⟨a, b⟩ :: insC l x y := by
        unfold insC
        by_cases hm : (⟨x, y⟩ : CC) ∈ l
        · rw [if_pos hm, if_pos (List.mem_cons_of_mem _ hm)]
        · rw [if_neg hm, if_neg (by simp only [List.mem_cons, hne, hm, or_self, not_false_eq_true])]
          rfl
      rw [h1]
      simp only [setM, List.map_cons, updM] at ih ⊢
      rw [if_neg h, ih]
theorem setM_len (K : List CC) : (setM K).length = K.length := by simp [setM]
theorem scM_set (m : Nat → Prop) (K : List CC) : scM m (setM K) ↔ True := by
  refine iff_true_intro ?_
  induction K with
  | nil => exact trivial
  | cons c l ih => exact ⟨trivial, ih⟩
theorem renM_set (σ : Nat → Nat) (K : List CC) : renM σ (setM K) = setM K := by
  induction K with
  | nil => rfl
  | cons c l ih => exact congrArg (List.cons _) ih
theorem idsM_set (K : List CC) : idsM (setM K) = [] := by
  induction K with
  | nil => rfl
  | cons c l ih => exact ih
theorem leM_set (τ : SC → SC) (hτ : ∀ b, τ (.v (.bool b)) = .v (.bool b)) (K L : List CC) :
    leM τ (setM K) (setM L) ↔ K = L := by
  induction K generalizing L with
  | nil => cases L with
    | nil => exact ⟨fun _ => rfl, fun _ => trivial⟩
    | cons c l => exact ⟨fun h => h.elim, fun h => by cases h⟩
  | cons c l ih => cases L with
    | nil => exact ⟨fun h => h.elim, fun h => by cases h⟩
    | cons d k =>
      obtain ⟨a, b⟩ := c
      obtain ⟨a', b'⟩ := d
      constructor
      · rintro ⟨rfl, rfl, -, h⟩
        rw [(ih k).mp h]
      · intro h
        injection h with h1 h2
        injection h1 with h3 h4
        exact ⟨h3, h4, (hτ true).symm, (ih k).mpr h2⟩
theorem bindM_set (K : List CC) (l : List (Int × Int × SC)) : bindM (setM K) l = [] := by
  induction K generalizing l with
  | nil => rfl
  | cons c k ih =>
    cases l with
    | nil => rfl
    | cons e l =>
      obtain ⟨x, y, v⟩ := e
      simp only [setM, List.map_cons, bindM, bindC, List.nil_append] at ih ⊢
      exact ih l
attribute [push_cast] bindM_set getM_set updM_set setM_len scM_set renM_set idsM_set
end Go.Sx
namespace Go.Sx
open Go.RowKit
def nilC : Nat → SC → SC × Nat
  | n, .v (.slice none 0 0) => (.n n, n + 1)
  | n, x => (x, n)
def nilCs : Nat → List SC → List SC × Nat
  | n, [] => ([], n)
  | n, x :: l => ((nilC n x).1 :: (nilCs (nilC n x).2 l).1, (nilCs (nilC n x).2 l).2)
def nilA1 : Nat → S1 → S1 × Nat
  | n, .c x => (.c (nilC n x).1, (nilC n x).2)
  | n, .a l => (.a (nilCs n l).1, (nilCs n l).2)
def nilA : Nat → List S1 → List S1 × Nat
  | n, [] => ([], n)
  | n, x :: l => ((nilA1 n x).1 :: (nilA (nilA1 n x).2 l).1, (nilA (nilA1 n x).2 l).2)
def nilL (n : Nat) : Nat → List (Nat × Ent)
  | 0 => []
  | k + 1 => (n, .nils) :: nilL (n + 1) k
def nilR (n m : Nat) : Option CR → Option CR
  | some (.q pre res) => some (.e pre res (nilL n (m - n)) m)
  | some (.e pre res ents next) => some (.e pre res (ents ++ nilL n (m - n)) next)
  | some (.d pre res ents next) => some (.d pre res (fun G => ents G ++ nilL n (m - n)) next)
  | none => none
def nilG (g : Con) : Con := fun args E n => nilR n (nilA n args).2 (g (nilA n args).1 (upd (nilL n ((nilA n args).2 - n)) E) (nilA n args).2)
def nilRho (n m : Nat) (r : Rho) : Rho := fun i => if n ≤ i ∧ i < m then .slice none 0 0 else r i
section
variable {P : Program} {base : World} {M : Scp} {r : Rho} {w : World}
theorem nilL_lk : ∀ (k n i : Nat) (e : Ent), lk (nilL n k) i = some e → n ≤ i ∧ i < n + k ∧ e = .nils
  | 0, n, i, e, h => by cases h
  | k + 1, n, i, e, h => by
    simp only [nilL, lk] at h
    split at h
    · rename_i hh; cases h; exact ⟨by omega, by omega, rfl⟩
    · obtain ⟨h1, h2, h3⟩ := nilL_lk k (n + 1) i e h
      exact ⟨by omega, by omega, h3⟩
theorem HeapRel.nils {E : Nat → Option Ent} {n k : Nat} (h : HeapRel base M r E w) (hE : ∀ i e, E i = some e → i < n ∧ e.sc (upto n)) : HeapRel base M (nilRho n (n + k) r) (upd (nilL n k) E) w := by
  have hold : ∀ i, i < n → nilRho n (n + k) r i = r i := fun i hi => if_neg (by omega)
  have hcase : ∀ i e, upd (nilL n k) E i = some e → (e = .nils ∧ nilRho n (n + k) r i = .slice none 0 0) ∨ (E i = some e ∧ nilRho n (n + k) r i = r i) := by
    intro i e he
    unfold upd at he
    split at he
    · rename_i x hx
      cases he
      obtain ⟨h1, h2, h3⟩ := nilL_lk k n i _ hx
      exact .inl ⟨h3, if_pos ⟨h1, h2⟩⟩
    · exact .inr ⟨he, hold i (hE i e he).1⟩
  refine ⟨h.size, fun i => ?_, h.os, h.tape, h.output, h.frame, ?_, ?_, ?_, ?_⟩
  · unfold nilRho; split
    · rfl
    · exact h.one i
  · intro i e he
    rcases hcase i e he with ⟨rfl, h1⟩ | ⟨h1, h2⟩
    · exact ⟨none, h1⟩
    · rw [h2]
      exact Ent.rel_ext (m := upto n) hold (hE i e h1).2 (h.ent i e h1)
  · intro i j e e' hij he he' hm hl b hb hb'
    rcases hcase i e he with ⟨rfl, h1⟩ | ⟨h1, h2⟩
    · cases hm
    · rw [h2] at hb
      rcases hcase j e' he' with ⟨rfl, h1'⟩ | ⟨h1', h2'⟩
      · rw [h1'] at hb'
        rcases hb' with hb' | hb'
        · cases hb'
        · exact hb'
      · rw [h2'] at hb'
        exact h.apart i j e e' hij h1 h1' hm hl b hb hb'
  · intro i e he hm b hb
    rcases hcase i e he with ⟨rfl, h1⟩ | ⟨h1, h2⟩
    · cases hm
    · rw [h2] at hb; exact h.mine i e h1 hm b hb
  · intro i e he hl b hb
    rcases hcase i e he with ⟨rfl, h1⟩ | ⟨h1, h2⟩
    · rw [h1] at hb
      rcases hb with hb | hb
      · cases hb
      · exact hb.elim
    · rw [h2] at hb; exact h.src i e h1 hl b hb
end
end Go.Sx
namespace Go.Sx
open Go.RowKit
def rowG {α : Type} (E : Enc α) (L : List α) : Nat → Nat → Value := fun a b => vOf (rowF E L a b)
theorem rowG_v {α : Type} (E : Enc α) (L : List α) (a b : Nat) : SC.v (rowG E L a b) = rowF E L a b := by
  obtain ⟨v, h, _⟩ := rowF_flat (E := E) L a b
  unfold rowG; rw [h]; rfl
theorem rowG_f {α : Type} (E : Enc α) (L : List α) : vF (rowG E L) = rowF E L := funext fun a => funext fun b => rowG_v E L a b
def inL {α : Type} (E : Enc α) (L : List α) : Option (Nat × Nat × (Nat → Nat → Value)) := some (L.length, E.sz, rowG E L)
def decO {α : Type} (E : Enc α) : Option (Nat × Nat × (Nat → Nat → Value)) → List α
  | some (n, _, g) => decL E n (fun a b => .v (g a b))
  | none => []
theorem decO_in {α : Type} {E : Enc α} {L : List α} {x : Option (Nat × Nat × (Nat → Nat → Value))} (h : cEq x (inL E L)) : decO E x = L := by
  cases x with
  | none => exact h.elim
  | some x =>
    obtain ⟨n, s, g⟩ := x
    obtain ⟨h1, h2, h3⟩ := h
    subst h1
    refine decL_eq rfl fun e j he hj => ?_
    have h4 : s = E.sz := h2.resolve_left (by omega)
    subst h4
    rw [← h3 e j he hj, rowG_v]
structure DEnc (α : Type) where
  sz : Nat
  cell : α → Nat → Option Value
  inr : α → Nat → Option (Nat × Nat × (Nat → Nat → Value))
  dflt : α
  dec : (Nat → Value) → (Nat → Option (Nat × Nat × (Nat → Nat → Value))) → α
  de : ∀ x f c, (∀ j v, j < sz → cell x j = some v → f j = v) → (∀ j, j < sz → cEq (c j) (inr x j)) → dec f c = x
section
variable {α : Type} (D : DEnc α)
def deepF (L : List α) (V : Nat → Nat → Value) (e j : Nat) : Value := match D.cell (L.getD e D.dflt) j with | some v => v | none => V e j
def deepC (L : List α) (e j : Nat) : Option (Nat × Nat × (Nat → Nat → Value)) := D.inr (L.getD e D.dflt) j
def decD (n : Nat) (f : Nat → Nat → Value) (c : Nat → Nat → Option (Nat × Nat × (Nat → Nat → Value))) : List α := (List.range n).map fun e => D.dec (f e) (c e)
def isD (n : Nat) (L : List α) (f : Nat → Nat → Value) (c : Nat → Nat → Option (Nat × Nat × (Nat → Nat → Value))) : Prop :=
  n = L.length ∧ ∀ e j, e < n → j < D.sz → (∀ v, D.cell (L.getD e D.dflt) j = some v → f e j = v) ∧ cEq (c e j) (D.inr (L.getD e D.dflt) j)
def isDeep (n sz : Nat) (f : Nat → Nat → Value) (c : Nat → Nat → Option (Nat × Nat × (Nat → Nat → Value))) : Prop := sz = D.sz ∧ isD D n (decD D n f c) f c
end
def rowD (k : Nat) (E : Nat → Option Ent) (i : Nat) : Option (Nat × Nat × (Nat → Nat → Value) × (Nat → Nat → Option (Nat × Nat × (Nat → Nat → Value)))) :=
  match E i with
  | some (.deep _ n sz f c _) => some (n, sz, f, c)
  | some .nils => some (0, k, fun _ _ => .bool false, fun _ _ => none)
  | _ => none
section
variable {α : Type} {D : DEnc α}
theorem decD_is {n : Nat} {L : List α} {f : Nat → Nat → Value} {c : Nat → Nat → Option (Nat × Nat × (Nat → Nat → Value))} (h : isD D n L f c) : decD D n f c = L := by
  obtain ⟨h1, h2⟩ := h
  subst h1
  apply List.ext_getElem (by simp [decD])
  intro i g1 g2
  simp only [decD, List.getElem_map, List.getElem_range]
  refine D.de _ _ _ (fun j v hj hv => (h2 i j g2 hj).1 v ?_) (fun j hj => ?_)
  · rw [List.getD_eq_getElem?_getD, List.getElem?_eq_getElem g2]; exact hv
  · have := (h2 i j g2 hj).2
    rw [List.getD_eq_getElem?_getD, List.getElem?_eq_getElem g2] at this
    exact this
theorem isD_own (L : List α) (V : Nat → Nat → Value) : isD D L.length L (deepF D L V) (deepC D L) :=
  ⟨rfl, fun e j he hj => ⟨fun v hv => by unfold deepF; rw [hv], cEq_refl _⟩⟩
theorem isDeep_deep (L : List α) (V : Nat → Nat → Value) (sz : Nat) : isDeep D L.length sz (deepF D L V) (deepC D L) ↔ sz = D.sz := by
  unfold isDeep
  rw [decD_is (isD_own L V)]
  exact ⟨fun h => h.1, fun h => ⟨h, isD_own L V⟩⟩
theorem decD_deep (L : List α) (V : Nat → Nat → Value) : decD D L.length (deepF D L V) (deepC D L) = L := decD_is (isD_own L V)
theorem isDeep_nil (sz : Nat) (f : Nat → Nat → Value) (c : Nat → Nat → Option (Nat × Nat × (Nat → Nat → Value))) : isDeep D 0 sz f c ↔ sz = D.sz := by
  unfold isDeep
  exact ⟨fun h => h.1, fun h => ⟨h, rfl, fun e j he => by omega⟩⟩
theorem decD_nil (f : Nat → Nat → Value) (c : Nat → Nat → Option (Nat × Nat × (Nat → Nat → Value))) : decD D 0 f c = [] := rfl
theorem deepEq_rfl (n sz : Nat) (f : Nat → Nat → Value) (c : Nat → Nat → Option (Nat × Nat × (Nat → Nat → Value))) : deepEq n sz f c f c ↔ True := iff_true_intro fun _ _ _ _ => ⟨rfl, cEq_refl _⟩
end
structure ActL where
  turn : Int
  fwd : Int
  sT : Int
  sL : Int
  sX : Int
  sY : Int
  marks : List Int
  errs : List Int
structure EvtL where
  tick : Int
  turn : Int
  fwd : Int
  bump : Bool
  scan : List CC
def intV : Value → Int
  | .int _ n => n
  | _ => 0
def boolV : Value → Bool
  | .bool b => b
  | _ => false
def eAct : DEnc ActL where
  sz := 8
  cell := fun x j => match j with
    | 0 => some (.int .i64 x.turn)
    | 1 => some (.int .i64 x.fwd)
    | 2 => some (.int .i64 x.sT)
    | 3 => some (.int .i64 x.sL)
    | 4 => some (.int .i64 x.sX)
    | 5 => some (.int .i64 x.sY)
    | _ => none
  inr := fun x j => match j with
    | 6 => inL eI x.marks
    | 7 => inL eI x.errs
    | _ => none
  dflt := ⟨0, 0, 0, 0, 0, 0, [], []⟩
  dec := fun f c => ⟨intV (f 0), intV (f 1), intV (f 2), intV (f 3), intV (f 4), intV (f 5), decO eI (c 6), decO eI (c 7)⟩
  de := by
    intro x f c h1 h2
    have a0 := h1 0 _ (by decide) rfl
    have a1 := h1 1 _ (by decide) rfl
    have a2 := h1 2 _ (by decide) rfl
    have a3 := h1 3 _ (by decide) rfl
    have a4 := h1 4 _ (by decide) rfl
    have a5 := h1 5 _ (by decide) rfl
    have a6 := decO_in (h2 6 (by decide))
    have a7 := decO_in (h2 7 (by decide))
    simp only [a0, a1, a2, a3, a4, a5, a6, a7, intV]
def eEvt : DEnc EvtL where
  sz := 5
  cell := fun x j => match j with
    | 0 => some (.int .i64 x.tick)
    | 1 => some (.int .i64 x.turn)
    | 2 => some (.int .i64 x.fwd)
    | 3 => some (.bool x.bump)
    | _ => none
  inr := fun x j => match j with
    | 4 => inL eC x.scan
    | _ => none
  dflt := ⟨0, 0, 0, false, []⟩
  dec := fun f c => ⟨intV (f 0), intV (f 1), intV (f 2), boolV (f 3), decO eC (c 4)⟩
  de := by
    intro x f c h1 h2
    have a0 := h1 0 _ (by decide) rfl
    have a1 := h1 1 _ (by decide) rfl
    have a2 := h1 2 _ (by decide) rfl
    have a3 := h1 3 _ (by decide) rfl
    have a4 := decO_in (h2 4 (by decide))
    simp only [a0, a1, a2, a3, a4, intV, boolV]
theorem eAct_sz : eAct.sz = 8 := rfl
theorem eEvt_sz : eEvt.sz = 5 := rfl
section
variable (L : List ActL) (V : Nat → Nat → Value) (e : Nat)
theorem eAct_0 : deepF eAct L V e 0 = .int .i64 (L.getD e eAct.dflt).turn := rfl
theorem eAct_1 : deepF eAct L V e 1 = .int .i64 (L.getD e eAct.dflt).fwd := rfl
theorem eAct_2 : deepF eAct L V e 2 = .int .i64 (L.getD e eAct.dflt).sT := rfl
theorem eAct_3 : deepF eAct L V e 3 = .int .i64 (L.getD e eAct.dflt).sL := rfl
theorem eAct_4 : deepF eAct L V e 4 = .int .i64 (L.getD e eAct.dflt).sX := rfl
theorem eAct_5 : deepF eAct L V e 5 = .int .i64 (L.getD e eAct.dflt).sY := rfl
theorem eAct_6 : deepC eAct L e 6 = some ((L.getD e eAct.dflt).marks.length, 1, rowG eI (L.getD e eAct.dflt).marks) := rfl
theorem eAct_7 : deepC eAct L e 7 = some ((L.getD e eAct.dflt).errs.length, 1, rowG eI (L.getD e eAct.dflt).errs) := rfl
end
section
variable (L : List EvtL) (V : Nat → Nat → Value) (e : Nat)
theorem eEvt_0 : deepF eEvt L V e 0 = .int .i64 (L.getD e eEvt.dflt).tick := rfl
theorem eEvt_1 : deepF eEvt L V e 1 = .int .i64 (L.getD e eEvt.dflt).turn := rfl
theorem eEvt_2 : deepF eEvt L V e 2 = .int .i64 (L.getD e eEvt.dflt).fwd := rfl
theorem eEvt_3 : deepF eEvt L V e 3 = .bool (L.getD e eEvt.dflt).bump := rfl
theorem eEvt_4 : deepC eEvt L e 4 = some ((L.getD e eEvt.dflt).scan.length, 2, rowG eC (L.getD e eEvt.dflt).scan) := rfl
end
attribute [push_cast] deepEq_rfl eAct_sz eEvt_sz eAct_0 eAct_1 eAct_2 eAct_3 eAct_4 eAct_5 eAct_6 eAct_7 eEvt_0 eEvt_1 eEvt_2 eEvt_3 eEvt_4 rowG_f isDeep_deep decD_deep isDeep_nil decD_nil rowD upd nilG nilA nilA1 nilCs nilC nilR nilL
end Go.Sx
namespace Go.Sx
open Go.RowKit
def ib8 (L : List Int) (c : Int) : Int := Lib.indexByte (Lib.bytesOf L) c.toNat.toUInt8
def ibCon : Con := fun args E _ => match args with
  | [.c (.n i), .c (.v (.int .u8 c))] => match rowOf E i with
    | some (n, s, f) => some (.q (isRow eU8 n s f) (.o (.c (.v (.int .i64 (ib8 (decL eU8 n f) c))))))
    | none => none
  | _ => none
attribute [push_cast] ibCon
end Go.Sx
namespace Go.Sx
open Go.ChangeShapes Go.WideShapes Go.ChangeAt Go.RowKit
section
variable {H : Type} {enc : TypeId × Value → H} {P : Program} {w : World} {base : Nat} {sp : Nat → Bool} {held : Bool}
end
end Go.Sx
namespace Go.Sx
open Go.RowKit
def qM (q : List QE) : List (Int × Int × SC) := q.map fun e => (e.x, e.y, .v e.v)
def hasM : List (Int × Int × SC) → Int → Int → Bool
  | [], _, _ => false
  | (a, b, _) :: l, x, y => if a = x ∧ b = y then true else hasM l x y
section
variable {l : List (Int × Int × SC)} {q : List QE} {x y x' y' : Int} {u u' z : SC} {V V' : Value} {L L' : List CC}
theorem qF_rowF (L : List CC) : qF L = rowF eC L := by
  funext e j
  match j with
  | 0 => rfl
  | 1 => rfl
  | j + 2 => rfl
theorem hasM_qM : ∀ (q : List QE) (x y : Int), hasM (qM q) x y = qHas q x y
  | [], _, _ => rfl
  | e :: q, x, y => by
    simp only [qM, List.map_cons, hasM, qHas]
    have := hasM_qM q x y
    unfold qM at this
    rw [this]
theorem getM_qM1 : ∀ {q : List QE}, qHas q x y = true → getM (qM q) x y z = .v (qVal q x y)
  | [], h => by cases h
  | e :: q, h => by
    simp only [qM, List.map_cons, getM, qVal, qHas] at h ⊢
    by_cases g : e.x = x ∧ e.y = y
    · rw [if_pos g, if_pos g]
    · rw [if_neg g] at h ⊢
      rw [if_neg g]
      exact getM_qM1 h
theorem getM_none : ∀ {l : List (Int × Int × SC)}, hasM l x y = false → getM l x y z = z
  | [], h => rfl
  | (a, b, c) :: l, h => by
    simp only [hasM, getM] at h ⊢
    by_cases g : a = x ∧ b = y
    · rw [if_pos g] at h; cases h
    · rw [if_neg g] at h ⊢
      exact getM_none h
theorem getM_qM0 (h : qHas q x y = false) : getM (qM q) x y z = z := getM_none (by rw [hasM_qM]; exact h)
theorem getM_upd_eq : ∀ {l : List (Int × Int × SC)}, getM (updM l x y u) x y z = u
  | [] => by simp [updM, getM]
  | (a, b, c) :: l => by
    by_cases g : a = x ∧ b = y
    · simp [updM, getM, g]
    · simp [updM, getM, g, getM_upd_eq (l := l)]
theorem getM_upd_ne (h : ¬ (x = x' ∧ y = y')) : ∀ {l : List (Int × Int × SC)}, getM (updM l x y u) x' y' z = getM l x' y' z
  | [] => by simp [updM, getM, h]
  | (a, b, c) :: l => by
    by_cases g : a = x ∧ b = y
    · obtain ⟨rfl, rfl⟩ := g
      simp [updM, getM, h]
    · by_cases g' : a = x' ∧ b = y'
      · obtain ⟨rfl, rfl⟩ := g'
        simp [updM, getM, g]
      · simp [updM, getM, g, g', getM_upd_ne h (l := l)]
theorem updM_updM : ∀ {l : List (Int × Int × SC)}, updM (updM l x y u) x y u' = updM l x y u'
  | [] => by simp [updM]
  | (a, b, c) :: l => by
    by_cases g : a = x ∧ b = y
    · simp [updM, g]
    · simp [updM, g, updM_updM (l := l)]
theorem hasM_upd_eq : ∀ {l : List (Int × Int × SC)}, hasM (updM l x y u) x y = true
  | [] => by simp [updM, hasM]
  | (a, b, c) :: l => by
    by_cases g : a = x ∧ b = y
    · simp [updM, hasM, g]
    · simp [updM, hasM, g, hasM_upd_eq (l := l)]
theorem hasM_upd_ne (h : ¬ (x = x' ∧ y = y')) : ∀ {l : List (Int × Int × SC)}, hasM (updM l x y u) x' y' = hasM l x' y'
  | [] => by simp [updM, hasM, h]
  | (a, b, c) :: l => by
    by_cases g : a = x ∧ b = y
    · obtain ⟨rfl, rfl⟩ := g
      simp [updM, hasM, h]
    · by_cases g' : a = x' ∧ b = y'
      · obtain ⟨rfl, rfl⟩ := g'
        simp [updM, hasM, g]
      · simp [updM, hasM, g, g', hasM_upd_ne h (l := l)]
theorem entM_has : ∀ {l : List (Int × Int × SC)}, hasM l x y = true → entM l x y z = l
  | [], h => by cases h
  | (a, b, c) :: l, h => by
    simp only [hasM, entM] at h ⊢
    by_cases g : a = x ∧ b = y
    · simp [g]
    · rw [if_neg g] at h
      simp [g, entM_has h]
theorem entM_not : ∀ {l : List (Int × Int × SC)}, hasM l x y = false → entM l x y z = updM l x y z
  | [], h => rfl
  | (a, b, c) :: l, h => by
    simp only [hasM, entM, updM] at h ⊢
    by_cases g : a = x ∧ b = y
    · rw [if_pos g] at h; cases h
    · rw [if_neg g] at h
      simp [g, entM_not h]
theorem entM_upd : entM (updM l x y u) x y z = updM l x y u := entM_has hasM_upd_eq
theorem entM_qM0 (h : qHas q x y = false) : entM (qM q) x y z = updM (qM q) x y z := entM_not (by rw [hasM_qM]; exact h)
theorem entM_upd0 (h : ¬ (x = x' ∧ y = y')) (hh : qHas q x' y' = false) : entM (updM (qM q) x y u) x' y' z = updM (updM (qM q) x y u) x' y' z := entM_not (by rw [hasM_upd_ne h, hasM_qM]; exact hh)
theorem idxM_upd : ∀ {l : List (Int × Int × SC)}, idxM (updM l x y u) x y = idxM l x y
  | [] => by simp [updM, idxM]
  | (a, b, c) :: l => by
    by_cases g : a = x ∧ b = y
    · simp [updM, idxM, g]
    · simp [updM, idxM, g, idxM_upd (l := l)]
theorem putM_upd : ∀ {l : List (Int × Int × SC)}, putM (updM l x y u) (idxM l x y) u' = updM l x y u'
  | [] => by simp [updM, idxM, putM]
  | (a, b, c) :: l => by
    by_cases g : a = x ∧ b = y
    · obtain ⟨rfl, rfl⟩ := g
      simp [updM, idxM, putM]
    · simp [updM, idxM, g, putM, putM_upd (l := l)]
theorem idxM_lt : ∀ {l : List (Int × Int × SC)}, idxM l x y < (updM l x y u).length
  | [] => by simp [updM, idxM]
  | (a, b, c) :: l => by
    by_cases g : a = x ∧ b = y
    · simp [updM, idxM, g]
    · simp [updM, idxM, g, idxM_lt (l := l)]
theorem idxM_ltI : (((idxM l x y : Nat) : Int) < ((updM l x y u).length : Nat)) = True := eq_true (by have := idxM_lt (l := l) (x := x) (y := y) (u := u); omega)
theorem qM_set : ∀ {q : List QE}, qM (qSet q x y V L) = updM (qM q) x y (.v V)
  | [] => rfl
  | e :: q => by
    by_cases g : e.x = x ∧ e.y = y
    · obtain ⟨rfl, rfl⟩ := g
      simp [qSet, qM, updM]
    · have := qM_set (q := q)
      unfold qM at this
      simp [qSet, qM, updM, g, this]
theorem qHas_set_eq : ∀ {q : List QE}, qHas (qSet q x y V L) x y = true
  | [] => by simp [qSet, qHas]
  | e :: q => by
    by_cases g : e.x = x ∧ e.y = y
    · simp [qSet, qHas, g]
    · simp [qSet, qHas, g, qHas_set_eq (q := q)]
theorem qHas_set_ne (h : ¬ (x = x' ∧ y = y')) : ∀ {q : List QE}, qHas (qSet q x y V L) x' y' = qHas q x' y'
  | [] => by simp [qSet, qHas, h]
  | e :: q => by
    by_cases g : e.x = x ∧ e.y = y
    · obtain ⟨rfl, rfl⟩ := g
      simp [qSet, qHas, h]
    · by_cases g' : e.x = x' ∧ e.y = y'
      · obtain ⟨rfl, rfl⟩ := g'
        simp [qSet, qHas, g]
      · simp [qSet, qHas, g, g', qHas_set_ne h (q := q)]
theorem qGet_set_eq : ∀ {q : List QE}, qGet (qSet q x y V L) x y = L
  | [] => by simp [qSet, qGet]
  | e :: q => by
    by_cases g : e.x = x ∧ e.y = y
    · simp [qSet, qGet, g]
    · simp [qSet, qGet, g, qGet_set_eq (q := q)]
theorem qGet_set_ne (h : ¬ (x = x' ∧ y = y')) : ∀ {q : List QE}, qGet (qSet q x y V L) x' y' = qGet q x' y'
  | [] => by simp [qSet, qGet, h]
  | e :: q => by
    by_cases g : e.x = x ∧ e.y = y
    · obtain ⟨rfl, rfl⟩ := g
      simp [qSet, qGet, h]
    · by_cases g' : e.x = x' ∧ e.y = y'
      · obtain ⟨rfl, rfl⟩ := g'
        simp [qSet, qGet, g]
      · simp [qSet, qGet, g, g', qGet_set_ne h (q := q)]
theorem qVal_set_ne (h : ¬ (x = x' ∧ y = y')) : ∀ {q : List QE}, qVal (qSet q x y V L) x' y' = qVal q x' y'
  | [] => by simp [qSet, qVal, h]
  | e :: q => by
    by_cases g : e.x = x ∧ e.y = y
    · obtain ⟨rfl, rfl⟩ := g
      simp [qSet, qVal, h]
    · by_cases g' : e.x = x' ∧ e.y = y'
      · obtain ⟨rfl, rfl⟩ := g'
        simp [qSet, qVal, g]
      · simp [qSet, qVal, g, g', qVal_set_ne h (q := q)]
theorem qM_len (q : List QE) : (qM q).length = q.length := by simp [qM]
theorem bindM_qM : ∀ (q : List QE) (l : List (Int × Int × SC)), bindM (qM q) l = []
  | [], l => by simp [qM, bindM]
  | e :: q, [] => by simp [qM, bindM]
  | e :: q, (a, b, c) :: l => by
    have := bindM_qM q l
    unfold qM at this
    simp [qM, bindM, this, bindC]
theorem scM_qM (m : Nat → Prop) : ∀ (q : List QE), scM m (qM q) = True
  | [] => rfl
  | e :: q => by
    have := scM_qM m q
    unfold qM at this
    simp [qM, scM, this, SC.sc]
theorem renM_qM (σ : Nat → Nat) : ∀ (q : List QE), renM σ (qM q) = qM q
  | [] => rfl
  | e :: q => by
    have := renM_qM σ q
    unfold qM at this
    simp [qM, renM, this, SC.ren]
theorem idsM_qM : ∀ (q : List QE), idsM (qM q) = []
  | [] => rfl
  | e :: q => by
    have := idsM_qM q
    unfold qM at this
    simp [qM, idsM, this, SC.ids]
theorem idsM_upd_qM : ∀ (q : List QE), idsM (updM (qM q) x y u) = u.ids
  | [] => by simp [qM, updM, idsM]
  | e :: q => by
    have h1 := idsM_upd_qM q
    have h2 := idsM_qM q
    unfold qM at h1 h2
    by_cases g : e.x = x ∧ e.y = y
    · simp [qM, updM, idsM, g, h2]
    · simp [qM, updM, idsM, g, h1, SC.ids]
theorem leM_qM_sub (b : Bnd) : ∀ (l : List (Int × Int × SC)) (q : List QE), leM (SC.sub b) l (qM q) = (l = qM q)
  | [], [] => by simp [qM, leM]
  | [], e :: q => by simp [qM, leM]
  | a :: l, [] => by simp [qM, leM]
  | (a, b', c) :: l, e :: q => by
    have := leM_qM_sub b l q
    unfold qM at this
    simp only [qM, List.map_cons, leM, this, SC.sub, List.cons.injEq, Prod.mk.injEq]
    apply propext
    constructor
    · rintro ⟨h1, h2, h3, h4⟩; exact ⟨⟨h1, h2, h3⟩, h4⟩
    · rintro ⟨⟨h1, h2, h3⟩, h4⟩; exact ⟨h1, h2, h3, h4⟩
theorem leM_qM_ren (σ : Nat → Nat) : ∀ (l : List (Int × Int × SC)) (q : List QE), leM (SC.ren σ) l (qM q) = (l = qM q)
  | [], [] => by simp [qM, leM]
  | [], e :: q => by simp [qM, leM]
  | a :: l, [] => by simp [qM, leM]
  | (a, b', c) :: l, e :: q => by
    have := leM_qM_ren σ l q
    unfold qM at this
    simp only [qM, List.map_cons, leM, this, SC.ren, List.cons.injEq, Prod.mk.injEq]
    apply propext
    constructor
    · rintro ⟨h1, h2, h3, h4⟩; exact ⟨⟨h1, h2, h3⟩, h4⟩
    · rintro ⟨⟨h1, h2, h3⟩, h4⟩; exact ⟨h1, h2, h3, h4⟩
end
attribute [push_cast] qF_rowF getM_upd_eq updM_updM entM_upd idxM_upd putM_upd idxM_ltI bindM_qM scM_qM renM_qM idsM_qM idsM_upd_qM leM_qM_sub leM_qM_ren qM_len
end Go.Sx
