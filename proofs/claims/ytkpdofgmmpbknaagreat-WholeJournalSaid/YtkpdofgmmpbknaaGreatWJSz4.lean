/- A part of the proof of a statement about this seat: how a function is stepped through, and plain laws. No conditions. -/
import Derived.Test.YtkpdofgmmpbknaaGreatWJSz3
import Derived.Shelf.Bytes.SlCountOne
import Derived.Lib.Bytealg
import Derived.Shelf.Bytes.SlIndexAt
import Derived.Lib.BytesEntry
set_option linter.unusedVariables false
set_option linter.unusedSimpArgs false
namespace Go.Sx
def eC : Enc CC where
  sz := 2
  ks := [.i .i64, .i .i64]
  wf := fun x => ((-9223372036854775808) ≤ x.X ∧ x.X ≤ 9223372036854775807) ∧ ((-9223372036854775808) ≤ x.Y ∧ x.Y ≤ 9223372036854775807)
  enc := fun x => [.v (.int .i64 x.X), .v (.int .i64 x.Y)]
  dec := fun f => ⟨intC (f 0), intC (f 1)⟩
  dflt := ⟨0, 0⟩
  flat := by
    intro x c hc
    simp only [List.mem_cons, List.not_mem_nil, or_false] at hc
    rcases hc with rfl | rfl <;> exact ⟨_, rfl, rfl⟩
  len := fun x => rfl
  onto := by
    intro cs h
    obtain ⟨n0, cs0, rfl, a0, b0, h0⟩ := kind_i h
    obtain ⟨n1, cs1, rfl, a1, b1, h1⟩ := kind_i h0
    obtain rfl := kind_n h1
    exact ⟨⟨n0, n1⟩, rfl, ⟨a0, b0⟩, ⟨a1, b1⟩⟩
  de := by
    intro x f h
    have h0 := h 0 (by decide)
    simp only [nth] at h0
    have h1 := h 1 (by decide)
    simp only [nth] at h1
    simp only [h0, h1, intC, boolC]
theorem eC_sz : eC.sz = 2 := rfl
theorem eC_0 (L : List CC) (e : Nat) : rowF eC L e 0 = .v (.int .i64 (L.getD e eC.dflt).X) := rfl
theorem eC_1 (L : List CC) (e : Nat) : rowF eC L e 1 = .v (.int .i64 (L.getD e eC.dflt).Y) := rfl
theorem eC_eta (x : CC) : CC.mk x.X x.Y = x := rfl
theorem eC_isRow (L : List CC) : isRow eC L.length 2 (rowF eC L) ↔ True := isRow_rowF L
attribute [push_cast] eC_eta eC_isRow eC_sz eC_0 eC_1
def O1 (d : Nat) (op : XOp) (s : Nat) : XOper := ⟨some d, op, [.t s], none⟩
def O2 (d : Nat) (op : XOp) (s r : Nat) : XOper := ⟨some d, op, [.t s, .t r], none⟩
def K1 (d : Nat) (op : XOp) (v : Value) : XOper := ⟨some d, op, [.k v], none⟩
def K2 (d : Nat) (op : XOp) (s : Nat) (v : Value) : XOper := ⟨some d, op, [.t s, .k v], none⟩
def G1 (d : Nat) (op : XOp) (s g : Nat) (b : Bool) : XOper := ⟨some d, op, [.t s], some (g, b)⟩
def G2 (d : Nat) (op : XOp) (s r g : Nat) (b : Bool) : XOper := ⟨some d, op, [.t s, .t r], some (g, b)⟩
def GK (d : Nat) (op : XOp) (s : Nat) (v : Value) (g : Nat) (b : Bool) : XOper := ⟨some d, op, [.t s, .k v], some (g, b)⟩
def iV (n : Int) : Value := .int .i64 n
attribute [push_cast] O1 O2 K1 K2 G1 G2 GK iV
def ltC (a b : CC) : Prop := a.Y < b.Y ∨ a.Y = b.Y ∧ a.X < b.X
theorem ltC_irrefl (a : CC) : ¬ ltC a a := by unfold ltC; omega
theorem ltC_trans {a b c : CC} (h1 : ltC a b) (h2 : ltC b c) : ltC a c := by unfold ltC at *; omega
def gridRow (p : Int → Int → Bool) (x0 y : Int) (n : Nat) : List CC := ((List.range n).filter fun i : Nat => p (x0 + i) y).map fun i : Nat => (⟨x0 + i, y⟩ : CC)
def gridUp (p : Int → Int → Bool) (x0 : Int) (w : Nat) (y0 : Int) (h : Nat) : List CC := (List.range h).flatMap fun j : Nat => gridRow p x0 (y0 + j) w
def gridL (p : Int → Int → Bool) (x0 x1 y0 y1 : Int) : List CC := gridUp p x0 (x1 - x0 + 1).toNat y0 (y1 - y0 + 1).toNat
theorem gridRow_zero (p : Int → Int → Bool) (x0 y : Int) : gridRow p x0 y 0 = [] := rfl
theorem gridUp_zero (p : Int → Int → Bool) (x0 : Int) (w : Nat) (y0 : Int) : gridUp p x0 w y0 0 = [] := rfl
theorem gridRow_yes {p : Int → Int → Bool} {x0 y : Int} {n : Nat} (h : p (x0 + n) y = true) : gridRow p x0 y (n + 1) = gridRow p x0 y n ++ [⟨x0 + n, y⟩] := by
  simp [gridRow, List.range_succ, List.filter_append, h]
theorem gridRow_no {p : Int → Int → Bool} {x0 y : Int} {n : Nat} (h : p (x0 + n) y = false) : gridRow p x0 y (n + 1) = gridRow p x0 y n := by
  simp [gridRow, List.range_succ, List.filter_append, h]
theorem gridUp_succ (p : Int → Int → Bool) (x0 : Int) (w : Nat) (y0 : Int) (h : Nat) : gridUp p x0 w y0 (h + 1) = gridUp p x0 w y0 h ++ gridRow p x0 (y0 + h) w := by
  simp [gridUp, List.range_succ, List.flatMap_append]
theorem gridRow_len (p : Int → Int → Bool) (x0 y : Int) (n : Nat) : (gridRow p x0 y n).length ≤ n := by
  unfold gridRow; rw [List.length_map]
  exact Nat.le_trans (List.length_filter_le _ _) (by simp)
theorem gridUp_len (p : Int → Int → Bool) (x0 : Int) (w : Nat) (y0 : Int) : ∀ h, (gridUp p x0 w y0 h).length ≤ h * w
  | 0 => by simp [gridUp_zero]
  | h + 1 => by
    rw [gridUp_succ, List.length_append, Nat.succ_mul]
    have := gridUp_len p x0 w y0 h
    have := gridRow_len p x0 (y0 + h) w
    omega
theorem gridRow_mem {p : Int → Int → Bool} {x0 y : Int} {n : Nat} {c : CC} : c ∈ gridRow p x0 y n ↔ p c.X c.Y = true ∧ x0 ≤ c.X ∧ c.X < x0 + n ∧ c.Y = y := by
  simp only [gridRow, List.mem_map, List.mem_filter, List.mem_range]
  constructor
  · rintro ⟨i, ⟨h1, h2⟩, rfl⟩; exact ⟨h2, by simp only; omega, by simp only; omega, rfl⟩
  · rintro ⟨h1, h2, h3, h4⟩
    have e : x0 + ((c.X - x0).toNat : Int) = c.X := by omega
    refine ⟨(c.X - x0).toNat, ⟨by omega, ?_⟩, ?_⟩
    · rw [e, ← h4]; exact h1
    · rw [e, ← h4]
theorem gridUp_mem {p : Int → Int → Bool} {x0 y0 : Int} {w h : Nat} {c : CC} : c ∈ gridUp p x0 w y0 h ↔ p c.X c.Y = true ∧ (x0 ≤ c.X ∧ c.X < x0 + w) ∧ y0 ≤ c.Y ∧ c.Y < y0 + h := by
  simp only [gridUp, List.mem_flatMap, List.mem_range, gridRow_mem]
  constructor
  · rintro ⟨j, h1, h2, h3, h4, h5⟩; exact ⟨h2, ⟨h3, h4⟩, by omega, by omega⟩
  · rintro ⟨h1, ⟨h2, h3⟩, h4, h5⟩; exact ⟨(c.Y - y0).toNat, by omega, h1, h2, h3, by omega⟩
theorem gridL_mem {p : Int → Int → Bool} {x0 x1 y0 y1 : Int} {c : CC} : c ∈ gridL p x0 x1 y0 y1 ↔ p c.X c.Y = true ∧ (x0 ≤ c.X ∧ c.X ≤ x1) ∧ y0 ≤ c.Y ∧ c.Y ≤ y1 := by
  unfold gridL; rw [gridUp_mem]
  constructor
  · rintro ⟨h1, ⟨h2, h3⟩, h4, h5⟩; exact ⟨h1, ⟨h2, by omega⟩, h4, by omega⟩
  · rintro ⟨h1, ⟨h2, h3⟩, h4, h5⟩; exact ⟨h1, ⟨h2, by omega⟩, h4, by omega⟩
theorem gridRow_sorted (p : Int → Int → Bool) (x0 y : Int) : ∀ n, (gridRow p x0 y n).Pairwise ltC
  | 0 => List.Pairwise.nil
  | n + 1 => by
    cases h : p (x0 + n) y
    · rw [gridRow_no h]; exact gridRow_sorted p x0 y n
    · rw [gridRow_yes h, List.pairwise_append]
      refine ⟨gridRow_sorted p x0 y n, List.pairwise_singleton _ _, fun a ha b hb => ?_⟩
      rw [List.mem_singleton] at hb; subst hb
      have := gridRow_mem.1 ha
      unfold ltC; simp only; omega
theorem gridUp_sorted (p : Int → Int → Bool) (x0 : Int) (w : Nat) (y0 : Int) : ∀ h, (gridUp p x0 w y0 h).Pairwise ltC
  | 0 => List.Pairwise.nil
  | h + 1 => by
    rw [gridUp_succ, List.pairwise_append]
    refine ⟨gridUp_sorted p x0 w y0 h, gridRow_sorted _ _ _ _, fun a ha b hb => ?_⟩
    have h1 := gridUp_mem.1 ha
    have h2 := gridRow_mem.1 hb
    unfold ltC; omega
theorem gridL_sorted (p : Int → Int → Bool) (x0 x1 y0 y1 : Int) : (gridL p x0 x1 y0 y1).Pairwise ltC := gridUp_sorted _ _ _ _ _
theorem push_eq {α : Type} {E : Enc α} {L L' : List α} {x : α} {sz : Nat} {b : Bnd} (h : L' = L ++ [x]) : L.length + 1 = L'.length ∧ rowEq (L.length + 1) sz (catF L.length (rowF E L) (litF (E.enc x) sz)) (rowF E L') (SC.sub b) := by
  subst h
  exact ⟨by simp, rowEq_push1 E L x (fun _ => rfl)⟩
theorem same_eq {α : Type} {E : Enc α} {L L' : List α} {n sz : Nat} {b : Bnd} (h : L' = L) : L.length = L'.length ∧ rowEq n sz (rowF E L) (rowF E L') (SC.sub b) := by
  subst h
  exact ⟨rfl, (rowEq_rowF _ _ _ _).2 trivial⟩
end Go.Sx
namespace Go.Sx
instance : DecidableEq CC := fun a b => if h : a.X = b.X ∧ a.Y = b.Y then isTrue (by cases a; cases b; simp only at h; rw [h.1, h.2]) else isFalse (fun e => h (by rw [e]; exact ⟨rfl, rfl⟩))
theorem getD_ext {α : Type} {L K : List α} (d : α) (hl : L.length = K.length) (h : ∀ i, i < L.length → L.getD i d = K.getD i d) : L = K := by
  refine List.ext_getElem hl fun i h1 h2 => ?_
  have := h i h1
  rw [List.getD_eq_getElem?_getD, List.getD_eq_getElem?_getD, List.getElem?_eq_getElem h1, List.getElem?_eq_getElem h2] at this
  exact this
theorem cc_eq (a b : CC) : (a.X == b.X && a.Y == b.Y) = decide (a = b) := by
  rw [Bool.eq_iff_iff]; simp only [Bool.and_eq_true, beq_iff_eq, decide_eq_true_eq]
  constructor
  · intro h; cases a; cases b; simp only at h; rw [h.1, h.2]
  · intro h; rw [h]; exact ⟨rfl, rfl⟩
end Go.Sx
namespace Go.Sx
open Go.RowKit
section
variable {P : Program} {base : World} {M : Scp} {r : Rho} {w : World}
end
end Go.Sx
namespace Go.Sx
open Go.RowKit
theorem inE_own {α : Type} {E : Enc α} {Et : Nat → Option Ent} {l n s ty : Nat} {f : Nat → Nat → SC} {σ : Nat → Nat} (hl : Et l = some (.own n s f ty)) (h : isRow E n s f) (hs : s = E.sz) :
    ∃ e0, Et l = some e0 ∧ leE (SC.ren σ) e0 (.own (decL E n f).length E.sz (rowF E (decL E n f)) ty) := by
  obtain ⟨h1, h2⟩ := h
  refine ⟨_, hl, (decL_len n f).symm, hs, rfl, ?_⟩
  intro e j he hj
  subst hs
  rw [rowF_ren]; exact h2 e j he hj
def sameCon : Con := fun args _ _ => match args with
  | [x] => some (.q True (.o x))
  | _ => none
attribute [push_cast] sameCon
end Go.Sx
namespace Go.Sx
theorem decL_one {α : Type} {E : Enc α} (x : α) : decL E 1 (rowF E [x]) = [x] := decL_rowF [x]
theorem isRow_one (x : Int) : isRow eU8 1 1 (rowF eU8 [x]) ↔ True := isRow_rowF (E := eU8) [x]
attribute [push_cast] decL_one isRow_one
end Go.Sx
namespace Go.Sx
open Go.RowKit
def cnt8 (L : List Int) (c : Int) : Int := (Lib.countByte (Lib.bytesOf L) c.toNat.toUInt8 : Nat)
def cntCon : Con := fun args E _ => match args with
  | [.c (.n i), .c (.v (.int .u8 c))] => match rowOf E i with
    | some (n, s, f) => some (.q (isRow eU8 n s f) (.o (.c (.v (.int .i64 (cnt8 (decL eU8 n f) c))))))
    | none => none
  | _ => none
attribute [push_cast] cntCon
theorem cok_count {P : Program} {k : Nat} (h : ∀ (args : Array Value) (w : World), (callFunc k args).run P w = ((Extern.BytealgCount.count args).run P w).andThen fun v w' => .ok (.value v) w') : COk P k cntCon := by
  intro args E m hargs hE
  unfold cntCon
  split
  · rename_i i c
    split
    · rename_i n s f hrow
      refine ⟨fun _ _ _ => trivial, fun hr base M r w hh => .inr ⟨.int .i64 (cnt8 (decL eU8 n f) c), ?_, rfl, Below.refl _ _⟩⟩
      rw [h]
      show Result.andThen ((Extern.BytealgCount.count #[r i, .int .u8 c]).run P w) _ = _
      have hlen : (decL eU8 n f).length = n := decL_len n f
      have hcell : ∀ e, e < n → f e 0 = .v (.int .u8 ((decL eU8 n f).getD e 0)) := fun e he => by
        rw [hr.2 e 0 he (by decide)]; rfl
      have key : (Extern.BytealgCount.count #[r i, .int .u8 c]).run P w = .ok (.int .i64 (cnt8 (decL eU8 n f) c)) w := by
        unfold rowOf at hrow
        split at hrow
        · rename_i n' s' f' he
          cases hrow
          obtain ⟨a, cap, hV, _, _, hc⟩ := hh.ent i _ he
          rw [hV]
          rcases Nat.eq_zero_or_pos n with hz | hz
          · subst hz
            cases a with
            | none => exact Lib.run_countNil w 0 cap c
            | some a => exact Lib.run_countAt w a 0 cap (decL eU8 0 f) hlen (fun j hj => absurd hj (by omega)) c
          · obtain ⟨b, o, rfl, _, hx⟩ := hc hz
            have hs : s = 1 := by rcases hr.1 with q | q; omega; exact q
            subst hs
            exact Lib.run_countSlice w b o n cap (decL eU8 n f) hlen (fun j hj => by have := hx j 0 hj (by omega); rw [hcell j hj, Nat.mul_one, Nat.add_zero] at this; exact this) c
        · rename_i n' s' f' ty he
          cases hrow
          obtain ⟨_, hq⟩ := hh.ent i _ he
          rcases hq with ⟨b, o, cap, cur, hV, hb, _, _, _, hx⟩ | ⟨a, hV, hz⟩
          · rw [hV]
            rcases Nat.eq_zero_or_pos n with hz | hz
            · subst hz; exact Lib.run_countAt w _ 0 cap (decL eU8 0 f) hlen (fun j hj => absurd hj (by omega)) c
            · have hs : s = 1 := by rcases hr.1 with q | q; omega; exact q
              subst hs
              exact Lib.run_countSlice w b o n cap (decL eU8 n f) hlen (fun j hj => by
                have := hx j 0 hj (by omega)
                rw [hcell j hj, Nat.mul_one, Nat.add_zero] at this
                rw [hb.cell, this]; rfl) c
          · subst hz
            rw [hV]
            cases a with
            | none => exact Lib.run_countNil w 0 0 c
            | some a => exact Lib.run_countAt w a 0 0 (decL eU8 0 f) hlen (fun j hj => absurd hj (by omega)) c
        · rename_i he
          cases hrow
          obtain ⟨a, hV⟩ := hh.ent i _ he
          rw [hV]
          cases a with
          | none => exact Lib.run_countNil w 0 0 c
          | some a => exact Lib.run_countAt w a 0 0 (decL eU8 0 _) hlen (fun j hj => absurd hj (by omega)) c
        · rename_i o' n' s' f' c' al' he
          cases hrow
          obtain ⟨a, cap, hV, _, _, hc⟩ := deep_row (hh.ent i _ he)
          rw [hV]
          rcases Nat.eq_zero_or_pos n with hz | hz
          · subst hz
            cases a with
            | none => exact Lib.run_countNil w 0 cap c
            | some a => exact Lib.run_countAt w a 0 cap (decL eU8 0 _) hlen (fun j hj => absurd hj (by omega)) c
          · obtain ⟨b, o, rfl, _, hx⟩ := hc hz
            have hs : s = 1 := by rcases hr.1 with q | q; omega; exact q
            subst hs
            exact Lib.run_countSlice w b o n cap (decL eU8 n _) hlen (fun j hj => by
              have := hx j 0 hj (by omega)
              have h9 := hcell j hj
              have h10 := alF_den (e := j) (j := 0) (hh.ent i _ he).2.2
              rw [h9] at h10
              rw [← h10, Nat.mul_one, Nat.add_zero] at this; exact this) c
        · cases hrow
      rw [key]
      rfl
    · trivial
  · trivial
end Go.Sx
namespace Go.Sx
open Go.RowKit
def idxS (s : ByteArray) (c : Int) : Int := Lib.indexByte s.data.toList c.toNat.toUInt8
def idxCon : Con := fun args _ _ => match args with
  | [.c (.v (.string s)), .c (.v (.int .u8 c))] => some (.q True (.o (.c (.v (.int .i64 (idxS s c))))))
  | _ => none
attribute [push_cast] idxCon
end Go.Sx
namespace Go.Sx
end Go.Sx
namespace Go.Sx
open Go.RowKit
def nilC : Nat → SC → SC × Nat
  | n, .v (.slice none 0 0) => (.n n, n + 1)
  | n, x => (x, n)
def nilCs : Nat → List SC → List SC × Nat
  | n, [] => ([], n)
  | n, x :: l => ((nilC n x).1 :: (nilCs (nilC n x).2 l).1, (nilCs (nilC n x).2 l).2)
def nilA1 : Nat → S1 → S1 × Nat
  | n, .c x => (.c (nilC n x).1, (nilC n x).2)
  | n, .a l => (.a (nilCs n l).1, (nilCs n l).2)
def nilA : Nat → List S1 → List S1 × Nat
  | n, [] => ([], n)
  | n, x :: l => ((nilA1 n x).1 :: (nilA (nilA1 n x).2 l).1, (nilA (nilA1 n x).2 l).2)
def nilL (n : Nat) : Nat → List (Nat × Ent)
  | 0 => []
  | k + 1 => (n, .nils) :: nilL (n + 1) k
def nilR (n m : Nat) : Option CR → Option CR
  | some (.q pre res) => some (.e pre res (nilL n (m - n)) m)
  | some (.e pre res ents next) => some (.e pre res (ents ++ nilL n (m - n)) next)
  | some (.d pre res ents next) => some (.d pre res (fun G => ents G ++ nilL n (m - n)) next)
  | none => none
def nilG (g : Con) : Con := fun args E n => nilR n (nilA n args).2 (g (nilA n args).1 (upd (nilL n ((nilA n args).2 - n)) E) (nilA n args).2)
def nilRho (n m : Nat) (r : Rho) : Rho := fun i => if n ≤ i ∧ i < m then .slice none 0 0 else r i
section
variable {P : Program} {base : World} {M : Scp} {r : Rho} {w : World}
theorem nilL_lk : ∀ (k n i : Nat) (e : Ent), lk (nilL n k) i = some e → n ≤ i ∧ i < n + k ∧ e = .nils
  | 0, n, i, e, h => by cases h
  | k + 1, n, i, e, h => by
    simp only [nilL, lk] at h
    split at h
    · rename_i hh; cases h; exact ⟨by omega, by omega, rfl⟩
    · obtain ⟨h1, h2, h3⟩ := nilL_lk k (n + 1) i e h
      exact ⟨by omega, by omega, h3⟩
theorem upd_app (l m : List (Nat × Ent)) (E : Nat → Option Ent) : upd (l ++ m) E = upd l (upd m E) := by
  funext i
  have := lk_append l m i
  unfold upd at this ⊢
  rw [this]
  cases lk l i <;> rfl
theorem HeapRel.nils {E : Nat → Option Ent} {n k : Nat} (h : HeapRel base M r E w) (hE : ∀ i e, E i = some e → i < n ∧ e.sc (upto n)) : HeapRel base M (nilRho n (n + k) r) (upd (nilL n k) E) w := by
  have hold : ∀ i, i < n → nilRho n (n + k) r i = r i := fun i hi => if_neg (by omega)
  have hcase : ∀ i e, upd (nilL n k) E i = some e → (e = .nils ∧ nilRho n (n + k) r i = .slice none 0 0) ∨ (E i = some e ∧ nilRho n (n + k) r i = r i) := by
    intro i e he
    unfold upd at he
    split at he
    · rename_i x hx
      cases he
      obtain ⟨h1, h2, h3⟩ := nilL_lk k n i _ hx
      exact .inl ⟨h3, if_pos ⟨h1, h2⟩⟩
    · exact .inr ⟨he, hold i (hE i e he).1⟩
  refine ⟨h.size, fun i => ?_, h.os, h.tape, h.output, h.frame, ?_, ?_, ?_, ?_⟩
  · unfold nilRho; split
    · rfl
    · exact h.one i
  · intro i e he
    rcases hcase i e he with ⟨rfl, h1⟩ | ⟨h1, h2⟩
    · exact ⟨none, h1⟩
    · rw [h2]
      exact Ent.rel_ext (m := upto n) hold (hE i e h1).2 (h.ent i e h1)
  · intro i j e e' hij he he' hm hl b hb hb'
    rcases hcase i e he with ⟨rfl, h1⟩ | ⟨h1, h2⟩
    · cases hm
    · rw [h2] at hb
      rcases hcase j e' he' with ⟨rfl, h1'⟩ | ⟨h1', h2'⟩
      · rw [h1'] at hb'
        rcases hb' with hb' | hb'
        · cases hb'
        · exact hb'
      · rw [h2'] at hb'
        exact h.apart i j e e' hij h1 h1' hm hl b hb hb'
  · intro i e he hm b hb
    rcases hcase i e he with ⟨rfl, h1⟩ | ⟨h1, h2⟩
    · cases hm
    · rw [h2] at hb; exact h.mine i e h1 hm b hb
  · intro i e he hl b hb
    rcases hcase i e he with ⟨rfl, h1⟩ | ⟨h1, h2⟩
    · rw [h1] at hb
      rcases hb with hb | hb
      · cases hb
      · exact hb.elim
    · rw [h2] at hb; exact h.src i e h1 hl b hb
end
end Go.Sx
namespace Go.Sx
open Go.RowKit
def rowG {α : Type} (E : Enc α) (L : List α) : Nat → Nat → Value := fun a b => vOf (rowF E L a b)
theorem rowG_v {α : Type} (E : Enc α) (L : List α) (a b : Nat) : SC.v (rowG E L a b) = rowF E L a b := by
  obtain ⟨v, h, _⟩ := rowF_flat (E := E) L a b
  unfold rowG; rw [h]; rfl
theorem rowG_f {α : Type} (E : Enc α) (L : List α) : vF (rowG E L) = rowF E L := funext fun a => funext fun b => rowG_v E L a b
theorem okM_rowF {α : Type} (E : Enc α) (L : List α) (a b : Nat) : rowF E L a b = .v (vOf (rowF E L a b)) := (rowG_v E L a b).symm
def inL {α : Type} (E : Enc α) (L : List α) : Option (Nat × Nat × (Nat → Nat → Value)) := some (L.length, E.sz, rowG E L)
def decO {α : Type} (E : Enc α) : Option (Nat × Nat × (Nat → Nat → Value)) → List α
  | some (n, _, g) => decL E n (fun a b => .v (g a b))
  | none => []
theorem decO_in {α : Type} {E : Enc α} {L : List α} {x : Option (Nat × Nat × (Nat → Nat → Value))} (h : cEq x (inL E L)) : decO E x = L := by
  cases x with
  | none => exact h.elim
  | some x =>
    obtain ⟨n, s, g⟩ := x
    obtain ⟨h1, h2, h3⟩ := h
    subst h1
    refine decL_eq rfl fun e j he hj => ?_
    have h4 : s = E.sz := h2.resolve_left (by omega)
    subst h4
    rw [← h3 e j he hj, rowG_v]
structure DEnc (α : Type) where
  sz : Nat
  cell : α → Nat → Option Value
  inr : α → Nat → Option (Nat × Nat × (Nat → Nat → Value))
  dflt : α
  dec : (Nat → Value) → (Nat → Option (Nat × Nat × (Nat → Nat → Value))) → α
  de : ∀ x f c, (∀ j v, j < sz → cell x j = some v → f j = v) → (∀ j, j < sz → cEq (c j) (inr x j)) → dec f c = x
section
variable {α : Type} (D : DEnc α)
def deepF (L : List α) (V : Nat → Nat → Value) (e j : Nat) : Value := match D.cell (L.getD e D.dflt) j with | some v => v | none => V e j
def deepC (L : List α) (e j : Nat) : Option (Nat × Nat × (Nat → Nat → Value)) := D.inr (L.getD e D.dflt) j
def decD (n : Nat) (f : Nat → Nat → Value) (c : Nat → Nat → Option (Nat × Nat × (Nat → Nat → Value))) : List α := (List.range n).map fun e => D.dec (f e) (c e)
def isD (n : Nat) (L : List α) (f : Nat → Nat → Value) (c : Nat → Nat → Option (Nat × Nat × (Nat → Nat → Value))) : Prop :=
  n = L.length ∧ ∀ e j, e < n → j < D.sz → (∀ v, D.cell (L.getD e D.dflt) j = some v → f e j = v) ∧ cEq (c e j) (D.inr (L.getD e D.dflt) j)
def isDeep (n sz : Nat) (f : Nat → Nat → Value) (c : Nat → Nat → Option (Nat × Nat × (Nat → Nat → Value))) : Prop := sz = D.sz ∧ isD D n (decD D n f c) f c
end
def rowD (k : Nat) (E : Nat → Option Ent) (i : Nat) : Option (Nat × Nat × (Nat → Nat → Value) × (Nat → Nat → Option (Nat × Nat × (Nat → Nat → Value)))) :=
  match E i with
  | some (.deep _ n sz f c _) => some (n, sz, f, c)
  | some .nils => some (0, k, fun _ _ => .bool false, fun _ _ => none)
  | _ => none
section
variable {α : Type} {D : DEnc α}
theorem decD_len (n : Nat) (f : Nat → Nat → Value) (c : Nat → Nat → Option (Nat × Nat × (Nat → Nat → Value))) : (decD D n f c).length = n := by simp [decD]
theorem decD_is {n : Nat} {L : List α} {f : Nat → Nat → Value} {c : Nat → Nat → Option (Nat × Nat × (Nat → Nat → Value))} (h : isD D n L f c) : decD D n f c = L := by
  obtain ⟨h1, h2⟩ := h
  subst h1
  apply List.ext_getElem (by simp [decD])
  intro i g1 g2
  simp only [decD, List.getElem_map, List.getElem_range]
  refine D.de _ _ _ (fun j v hj hv => (h2 i j g2 hj).1 v ?_) (fun j hj => ?_)
  · rw [List.getD_eq_getElem?_getD, List.getElem?_eq_getElem g2]; exact hv
  · have := (h2 i j g2 hj).2
    rw [List.getD_eq_getElem?_getD, List.getElem?_eq_getElem g2] at this
    exact this
theorem isD_own (L : List α) (V : Nat → Nat → Value) : isD D L.length L (deepF D L V) (deepC D L) :=
  ⟨rfl, fun e j he hj => ⟨fun v hv => by unfold deepF; rw [hv], cEq_refl _⟩⟩
theorem isDeep_deep (L : List α) (V : Nat → Nat → Value) (sz : Nat) : isDeep D L.length sz (deepF D L V) (deepC D L) ↔ sz = D.sz := by
  unfold isDeep
  rw [decD_is (isD_own L V)]
  exact ⟨fun h => h.1, fun h => ⟨h, isD_own L V⟩⟩
theorem decD_deep (L : List α) (V : Nat → Nat → Value) : decD D L.length (deepF D L V) (deepC D L) = L := decD_is (isD_own L V)
theorem isD_sub (L : List α) (V : Nat → Nat → Value) {l n : Nat} (h : l + n ≤ L.length) : isD D n ((L.drop l).take n) (fun e j => deepF D L V (e + l) j) (fun e j => deepC D L (e + l) j) := by
  refine ⟨by simp; omega, fun e j he hj => ?_⟩
  have e1 : ((L.drop l).take n).getD e D.dflt = L.getD (e + l) D.dflt := by
    rw [List.getD_eq_getElem?_getD, List.getD_eq_getElem?_getD, List.getElem?_take_of_lt he, List.getElem?_drop, Nat.add_comm]
  rw [e1]
  exact ⟨fun v hv => by unfold deepF; simp only [hv], cEq_refl _⟩
theorem isDeep_nil (sz : Nat) (f : Nat → Nat → Value) (c : Nat → Nat → Option (Nat × Nat × (Nat → Nat → Value))) : isDeep D 0 sz f c ↔ sz = D.sz := by
  unfold isDeep
  exact ⟨fun h => h.1, fun h => ⟨h, rfl, fun e j he => by omega⟩⟩
theorem decD_nil (f : Nat → Nat → Value) (c : Nat → Nat → Option (Nat × Nat × (Nat → Nat → Value))) : decD D 0 f c = [] := rfl
theorem isD_deepEq {n : Nat} {L : List α} {f : Nat → Nat → Value} {c : Nat → Nat → Option (Nat × Nat × (Nat → Nat → Value))} (h : isD D n L f c) : deepEq n D.sz f c (deepF D L f) (deepC D L) := by
  intro e j he hj
  obtain ⟨h1, h2⟩ := h.2 e j he hj
  refine ⟨?_, h2⟩
  unfold deepF
  split
  · rename_i v hv; exact (h1 v hv).symm
  · rfl
theorem inE_deep {Et : Nat → Option Ent} {l n s : Nat} {f : Nat → Nat → Value} {c : Nat → Nat → Option (Nat × Nat × (Nat → Nat → Value))} {σ : Nat → Nat} (hl : rowD D.sz Et l = some (n, s, f, c)) (h : isDeep D n s f c) :
    ∃ e0, Et l = some e0 ∧ leE (SC.ren σ) e0 (.deep none (decD D n f c).length D.sz (deepF D (decD D n f c) f) (deepC D (decD D n f c)) []) := by
  obtain ⟨rfl, h2⟩ := h
  unfold rowD at hl
  split at hl
  · rename_i o n' sz' f' c' al he
    cases hl
    refine ⟨_, he, .inr rfl, (decD_len _ _ _).symm, rfl, ?_, trivial, trivial⟩
    exact isD_deepEq h2
  · rename_i he
    cases hl
    exact ⟨_, he, decD_len _ _ _, rfl⟩
  · cases hl
theorem inE0_deep {k : Nat} {Et : Nat → Option Ent} {l n s : Nat} {f : Nat → Nat → Value} {c : Nat → Nat → Option (Nat × Nat × (Nat → Nat → Value))} (hl : rowD k Et l = some (n, s, f, c)) : ∃ e0, Et l = some e0 := by
  unfold rowD at hl
  split at hl
  · rename_i he; exact ⟨_, he⟩
  · rename_i he; exact ⟨_, he⟩
  · cases hl
theorem lens_deep {k : Nat} {Et : Nat → Option Ent} {l n s : Nat} {f : Nat → Nat → Value} {c : Nat → Nat → Option (Nat × Nat × (Nat → Nat → Value))} (hL : Lens Et) (hl : rowD k Et l = some (n, s, f, c)) : (decD D n f c).length ≤ 9223372036854775807 := by
  rw [decD_len]
  unfold rowD at hl
  split at hl
  · rename_i he; cases hl; exact hL _ _ he
  · cases hl; omega
  · cases hl
theorem deepEq_rfl (n sz : Nat) (f : Nat → Nat → Value) (c : Nat → Nat → Option (Nat × Nat × (Nat → Nat → Value))) : deepEq n sz f c f c ↔ True := iff_true_intro fun _ _ _ _ => ⟨rfl, cEq_refl _⟩
def pushC (D : DEnc α) (E : Nat → Option Ent) (x : α) (g : Nat → SC) : Prop :=
  ∀ j, j < D.sz → (match D.cell x j with | some v => g j = .v v | none => True) ∧ cEq (mrg1 E (g j)) (D.inr x j)
theorem deep_push {L X : List α} {V F' : Nat → Nat → Value} {g : Nat → Nat → SC} {E : Nat → Option Ent} {m : Nat} (hm : m = X.length) (hF : ∀ e j v, catF L.length (fun e j => .v (deepF D L V e j)) g e j = .v v → F' e j = v)
    (hx : ∀ i, i < m → pushC D E (X.getD i D.dflt) (g i)) :
    deepEq (L.length + m) D.sz F' (mrgC E L.length (deepC D L) (catF L.length (fun e j => .v (deepF D L V e j)) g)) (deepF D (L ++ X) F') (deepC D (L ++ X)) := by
  intro e j he hj
  by_cases hlt : e < L.length
  · have e1 : (L ++ X).getD e D.dflt = L.getD e D.dflt := by
      rw [List.getD_eq_getElem?_getD, List.getD_eq_getElem?_getD, List.getElem?_append_left hlt]
    have h1 : F' e j = deepF D L V e j := hF e j _ (by unfold catF; rw [if_pos hlt])
    unfold deepF deepC mrgC
    rw [e1, if_pos hlt]
    refine ⟨?_, cEq_refl _⟩
    split
    · rename_i v hv
      rw [h1]; unfold deepF; rw [hv]
    · rfl
  · have e1 : (L ++ X).getD e D.dflt = X.getD (e - L.length) D.dflt := by
      rw [List.getD_eq_getElem?_getD, List.getD_eq_getElem?_getD, List.getElem?_append_right (by omega)]
    have hcat : catF L.length (fun e j => .v (deepF D L V e j)) g e j = g (e - L.length) j := by unfold catF; rw [if_neg hlt]
    obtain ⟨h1, h2⟩ := hx (e - L.length) (by omega) j hj
    have h3 : mrgC E L.length (deepC D L) (catF L.length (fun e j => .v (deepF D L V e j)) g) e j = mrg1 E (g (e - L.length) j) := by unfold mrgC; rw [if_neg hlt, hcat]
    rw [h3]
    refine ⟨?_, by unfold deepC; rw [e1]; exact h2⟩
    show (match D.cell ((L ++ X).getD e D.dflt) j with | some v => v | none => F' e j) = F' e j
    rw [e1]
    split
    · rename_i v hv
      rw [hv] at h1
      exact (hF e j v (by rw [hcat]; exact h1)).symm
    · rfl
theorem mrgOk_push {L : List α} {V : Nat → Nat → Value} {g : Nat → Nat → SC} {E : Nat → Option Ent} {n sz : Nat} (h : ∀ e j, e < n - L.length → j < sz → okM E (g e j)) : mrgOk E L.length n sz (deepF D L V) (catF L.length (fun e j => .v (deepF D L V e j)) g) := by
  refine ⟨fun e j he hj => by unfold catF; rw [if_pos he], fun e j h1 h2 h3 => ?_⟩
  unfold catF
  rw [if_neg (by omega)]
  exact h _ j (by omega) h3
end
theorem mrg1_ro {ents : List (Nat × Ent)} {i m sz : Nat} {α : Type} {E : Enc α} {L : List α} (h : lk ents i = some (.ro m sz (rowF E L))) (hm : m = L.length) (hs : sz = E.sz) : cEq (mrg1 (lkE ents) (.n i)) (inL E L) := by
  subst hm; subst hs
  unfold mrg1 lkE
  simp only [h]
  exact ⟨rfl, .inr rfl, fun _ _ _ _ => rfl⟩
theorem okM_ro {ents : List (Nat × Ent)} {i m sz : Nat} {α : Type} {E : Enc α} {L : List α} (h : lk ents i = some (.ro m sz (rowF E L))) : okM (lkE ents) (.n i) := by
  unfold okM lkE
  simp only [h]
  exact fun a b _ _ => okM_rowF E L a b
theorem deep_push' {α : Type} {D : DEnc α} {L X L' : List α} {V F' : Nat → Nat → Value} {g : Nat → Nat → SC} {E : Nat → Option Ent} {n0 m : Nat} (hn : n0 = L.length) (hm : m = X.length) (hL : L' = L ++ X) (hF : ∀ e j v, catF n0 (fun e j => .v (deepF D L V e j)) g e j = .v v → F' e j = v)
    (hx : ∀ i, i < m → pushC D E (X.getD i D.dflt) (g i)) :
    deepEq (n0 + m) D.sz F' (mrgC E n0 (deepC D L) (catF n0 (fun e j => .v (deepF D L V e j)) g)) (deepF D L' F') (deepC D L') := by
  subst hn; subst hL
  exact deep_push hm hF hx
theorem mrgOk_push' {α : Type} {D : DEnc α} {L : List α} {V : Nat → Nat → Value} {g : Nat → Nat → SC} {E : Nat → Option Ent} {n0 n sz : Nat} (hn : n0 = L.length) (h : ∀ e j, e < n - n0 → j < sz → okM E (g e j)) : mrgOk E n0 n sz (deepF D L V) (catF n0 (fun e j => .v (deepF D L V e j)) g) := by
  subst hn
  exact mrgOk_push h
theorem okM_lit {E : Nat → Option Ent} {cs : List SC} {sz : Nat} (h : ∀ c ∈ cs, okM E c) (e j : Nat) : okM E (litF cs sz e j) := by
  unfold litF
  split
  · rename_i x hx
    exact h x (nth_mem hx)
  · trivial
structure ActL where
  turn : Int
  fwd : Int
  sT : Int
  sL : Int
  sX : Int
  sY : Int
  marks : List Int
  errs : List Int
structure EvtL where
  tick : Int
  turn : Int
  fwd : Int
  bump : Bool
  scan : List CC
def intV : Value → Int
  | .int _ n => n
  | _ => 0
def boolV : Value → Bool
  | .bool b => b
  | _ => false
def eAct : DEnc ActL where
  sz := 8
  cell := fun x j => match j with
    | 0 => some (.int .i64 x.turn)
    | 1 => some (.int .i64 x.fwd)
    | 2 => some (.int .i64 x.sT)
    | 3 => some (.int .i64 x.sL)
    | 4 => some (.int .i64 x.sX)
    | 5 => some (.int .i64 x.sY)
    | _ => none
  inr := fun x j => match j with
    | 6 => inL eI x.marks
    | 7 => inL eI x.errs
    | _ => none
  dflt := ⟨0, 0, 0, 0, 0, 0, [], []⟩
  dec := fun f c => ⟨intV (f 0), intV (f 1), intV (f 2), intV (f 3), intV (f 4), intV (f 5), decO eI (c 6), decO eI (c 7)⟩
  de := by
    intro x f c h1 h2
    have a0 := h1 0 _ (by decide) rfl
    have a1 := h1 1 _ (by decide) rfl
    have a2 := h1 2 _ (by decide) rfl
    have a3 := h1 3 _ (by decide) rfl
    have a4 := h1 4 _ (by decide) rfl
    have a5 := h1 5 _ (by decide) rfl
    have a6 := decO_in (h2 6 (by decide))
    have a7 := decO_in (h2 7 (by decide))
    simp only [a0, a1, a2, a3, a4, a5, a6, a7, intV]
def eEvt : DEnc EvtL where
  sz := 5
  cell := fun x j => match j with
    | 0 => some (.int .i64 x.tick)
    | 1 => some (.int .i64 x.turn)
    | 2 => some (.int .i64 x.fwd)
    | 3 => some (.bool x.bump)
    | _ => none
  inr := fun x j => match j with
    | 4 => inL eC x.scan
    | _ => none
  dflt := ⟨0, 0, 0, false, []⟩
  dec := fun f c => ⟨intV (f 0), intV (f 1), intV (f 2), boolV (f 3), decO eC (c 4)⟩
  de := by
    intro x f c h1 h2
    have a0 := h1 0 _ (by decide) rfl
    have a1 := h1 1 _ (by decide) rfl
    have a2 := h1 2 _ (by decide) rfl
    have a3 := h1 3 _ (by decide) rfl
    have a4 := decO_in (h2 4 (by decide))
    simp only [a0, a1, a2, a3, a4, intV, boolV]
theorem eAct_sz : eAct.sz = 8 := rfl
theorem eEvt_sz : eEvt.sz = 5 := rfl
section
variable (L : List ActL) (V : Nat → Nat → Value) (e : Nat)
theorem eAct_0 : deepF eAct L V e 0 = .int .i64 (L.getD e eAct.dflt).turn := rfl
theorem eAct_1 : deepF eAct L V e 1 = .int .i64 (L.getD e eAct.dflt).fwd := rfl
theorem eAct_2 : deepF eAct L V e 2 = .int .i64 (L.getD e eAct.dflt).sT := rfl
theorem eAct_3 : deepF eAct L V e 3 = .int .i64 (L.getD e eAct.dflt).sL := rfl
theorem eAct_4 : deepF eAct L V e 4 = .int .i64 (L.getD e eAct.dflt).sX := rfl
theorem eAct_5 : deepF eAct L V e 5 = .int .i64 (L.getD e eAct.dflt).sY := rfl
theorem eAct_6 : deepC eAct L e 6 = some ((L.getD e eAct.dflt).marks.length, 1, rowG eI (L.getD e eAct.dflt).marks) := rfl
theorem eAct_7 : deepC eAct L e 7 = some ((L.getD e eAct.dflt).errs.length, 1, rowG eI (L.getD e eAct.dflt).errs) := rfl
end
section
variable (L : List EvtL) (V : Nat → Nat → Value) (e : Nat)
theorem eEvt_0 : deepF eEvt L V e 0 = .int .i64 (L.getD e eEvt.dflt).tick := rfl
theorem eEvt_1 : deepF eEvt L V e 1 = .int .i64 (L.getD e eEvt.dflt).turn := rfl
theorem eEvt_2 : deepF eEvt L V e 2 = .int .i64 (L.getD e eEvt.dflt).fwd := rfl
theorem eEvt_3 : deepF eEvt L V e 3 = .bool (L.getD e eEvt.dflt).bump := rfl
theorem eEvt_4 : deepC eEvt L e 4 = some ((L.getD e eEvt.dflt).scan.length, 2, rowG eC (L.getD e eEvt.dflt).scan) := rfl
end
theorem push_evt {E : Nat → Option Ent} {x : EvtL} {c : SC} (h : cEq (mrg1 E c) (inL eC x.scan)) (i : Nat) (hi : i < 1) : pushC eEvt E ([x].getD i eEvt.dflt) (litF [.v (.int .i64 x.tick), .v (.int .i64 x.turn), .v (.int .i64 x.fwd), .v (.bool x.bump), c] 5 i) := by
  obtain rfl : i = 0 := by omega
  intro j hj
  have hj : j < 5 := hj
  rcases (by omega : j = 0 ∨ j = 1 ∨ j = 2 ∨ j = 3 ∨ j = 4) with rfl | rfl | rfl | rfl | rfl
  · exact ⟨rfl, trivial⟩
  · exact ⟨rfl, trivial⟩
  · exact ⟨rfl, trivial⟩
  · exact ⟨rfl, trivial⟩
  · exact ⟨trivial, h⟩
attribute [push_cast] deepEq_rfl eAct_sz eEvt_sz eAct_0 eAct_1 eAct_2 eAct_3 eAct_4 eAct_5 eAct_6 eAct_7 eEvt_0 eEvt_1 eEvt_2 eEvt_3 eEvt_4 rowG_f isDeep_deep decD_deep isDeep_nil decD_nil rowD upd nilG nilA nilA1 nilCs nilC nilR nilL
end Go.Sx
namespace Go.Sx
open Go.RowKit
def ib8 (L : List Int) (c : Int) : Int := Lib.indexByte (Lib.bytesOf L) c.toNat.toUInt8
def ibCon : Con := fun args E _ => match args with
  | [.c (.n i), .c (.v (.int .u8 c))] => match rowOf E i with
    | some (n, s, f) => some (.q (isRow eU8 n s f) (.o (.c (.v (.int .i64 (ib8 (decL eU8 n f) c))))))
    | none => none
  | _ => none
attribute [push_cast] ibCon
theorem cok_ib {P : Program} {k : Nat} (h : ∀ (args : Array Value) (w : World), (callFunc k args).run P w = ((Extern.BytealgIndexByte.indexByte args).run P w).andThen fun v w' => .ok (.value v) w') : COk P k ibCon := by
  intro args E m hargs hE
  unfold ibCon
  split
  · rename_i i c
    split
    · rename_i n s f hrow
      refine ⟨fun _ _ _ => trivial, fun hr base M r w hh => .inr ⟨.int .i64 (ib8 (decL eU8 n f) c), ?_, rfl, Below.refl _ _⟩⟩
      rw [h]
      show Result.andThen ((Extern.BytealgIndexByte.indexByte #[r i, .int .u8 c]).run P w) _ = _
      have hlen : (decL eU8 n f).length = n := decL_len n f
      have hcell : ∀ e, e < n → f e 0 = .v (.int .u8 ((decL eU8 n f).getD e 0)) := fun e he => by
        rw [hr.2 e 0 he (by decide)]; rfl
      have key : (Extern.BytealgIndexByte.indexByte #[r i, .int .u8 c]).run P w = .ok (.int .i64 (ib8 (decL eU8 n f) c)) w := by
        unfold rowOf at hrow
        split at hrow
        · rename_i n' s' f' he
          cases hrow
          obtain ⟨a, cap, hV, _, _, hc⟩ := hh.ent i _ he
          rw [hV]
          rcases Nat.eq_zero_or_pos n with hz | hz
          · subst hz
            cases a with
            | none => exact Lib.run_indexByteNil w 0 cap c
            | some a => exact Lib.run_indexByteAt w a 0 cap (decL eU8 0 f) hlen (fun j hj => absurd hj (by omega)) c
          · obtain ⟨b, o, rfl, _, hx⟩ := hc hz
            have hs : s = 1 := by rcases hr.1 with q | q; omega; exact q
            subst hs
            exact Lib.run_indexByteSlice w b o n cap (decL eU8 n f) hlen (fun j hj => by have := hx j 0 hj (by omega); rw [hcell j hj, Nat.mul_one, Nat.add_zero] at this; exact this) c
        · rename_i n' s' f' ty he
          cases hrow
          obtain ⟨_, hq⟩ := hh.ent i _ he
          rcases hq with ⟨b, o, cap, cur, hV, hb, _, _, _, hx⟩ | ⟨a, hV, hz⟩
          · rw [hV]
            rcases Nat.eq_zero_or_pos n with hz | hz
            · subst hz; exact Lib.run_indexByteAt w _ 0 cap (decL eU8 0 f) hlen (fun j hj => absurd hj (by omega)) c
            · have hs : s = 1 := by rcases hr.1 with q | q; omega; exact q
              subst hs
              exact Lib.run_indexByteSlice w b o n cap (decL eU8 n f) hlen (fun j hj => by
                have := hx j 0 hj (by omega)
                rw [hcell j hj, Nat.mul_one, Nat.add_zero] at this
                rw [hb.cell, this]; rfl) c
          · subst hz
            rw [hV]
            cases a with
            | none => exact Lib.run_indexByteNil w 0 0 c
            | some a => exact Lib.run_indexByteAt w a 0 0 (decL eU8 0 f) hlen (fun j hj => absurd hj (by omega)) c
        · rename_i he
          cases hrow
          obtain ⟨a, hV⟩ := hh.ent i _ he
          rw [hV]
          cases a with
          | none => exact Lib.run_indexByteNil w 0 0 c
          | some a => exact Lib.run_indexByteAt w a 0 0 (decL eU8 0 _) hlen (fun j hj => absurd hj (by omega)) c
        · rename_i o' n' s' f' c' al' he
          cases hrow
          obtain ⟨a, cap, hV, _, _, hc⟩ := deep_row (hh.ent i _ he)
          rw [hV]
          rcases Nat.eq_zero_or_pos n with hz | hz
          · subst hz
            cases a with
            | none => exact Lib.run_indexByteNil w 0 cap c
            | some a => exact Lib.run_indexByteAt w a 0 cap (decL eU8 0 _) hlen (fun j hj => absurd hj (by omega)) c
          · obtain ⟨b, o, rfl, _, hx⟩ := hc hz
            have hs : s = 1 := by rcases hr.1 with q | q; omega; exact q
            subst hs
            exact Lib.run_indexByteSlice w b o n cap (decL eU8 n _) hlen (fun j hj => by
              have := hx j 0 hj (by omega)
              have h9 := hcell j hj
              have h10 := alF_den (e := j) (j := 0) (hh.ent i _ he).2.2
              rw [h9] at h10
              rw [← h10, Nat.mul_one, Nat.add_zero] at this; exact this) c
        · cases hrow
      rw [key]
      rfl
    · trivial
  · trivial
end Go.Sx
namespace Go.Sx
open Go.ChangeShapes Go.WideShapes Go.ChangeAt Go.RowKit
section
variable {H : Type} {enc : TypeId × Value → H} {P : Program} {w : World} {base : Nat} {sp : Nat → Bool} {held : Bool}
theorem ro_rowIs {α : Type} {E : Enc α} {L : List α} {V : Value} (h : ∀ r, (Ent.ro L.length E.sz (rowF E L)).rel r w V) : rowIs w V L.length E.sz (rowG E L) := by
  obtain ⟨a, cap, h1, h2, h3, h4⟩ := h (fun _ => .bool true)
  refine ⟨a, cap, h1, h2, h3, fun hn => ?_⟩
  obtain ⟨b, o, k1, k2, k3⟩ := h4 hn
  refine ⟨b, o, k1, k2, fun e j he hj => ?_⟩
  rw [k3 e j he hj, ← rowG_v]; rfl
def OnTo {α : Type} (D : DEnc α) (w : World) (x : α) (cs : List Value) : Prop :=
  (∀ j v, j < D.sz → D.cell x j = some v → cs[j]? = some v) ∧ ∀ j n s g, j < D.sz → D.inr x j = some (n, s, g) → ∃ v, cs[j]? = some v ∧ rowIs w v n s g ∧ ∀ b, blkOf v = some b → b < w.heap.size
theorem leaf_deep {α : Type} {D : DEnc α} {t e : TypeId} {c : Value} {ts : List TypeId} (hu : P.underlying t = some (.slice e)) (hts : lvT P 20 e = some ts) (hc : P.cellsOf e = D.sz) (hpos : 0 < D.sz)
    (hsp : ∀ b, sp b = true) (honto : ∀ cs, leafOk enc P w base sp held ts cs → ∃ x : α, OnTo D w x cs) (h : ∃ fuel x, DataW.trod enc P w base sp held fuel t [c] = some x) :
    ∃ (L : List α) (V : Nat → Nat → Value), c.oneCell' = true ∧ (∀ r, (Ent.deep none L.length D.sz (deepF D L V) (deepC D L) []).rel r w c) ∧ ∀ b, foot (.deep none L.length D.sz (deepF D L V) (deepC D L) []) c b → b < w.heap.size := by
  obtain ⟨fuel, x, hx⟩ := h
  rcases Deep.open_slice hu hx with ⟨h1, _⟩ | ⟨a, len, cap, m, n, Dd, Pl, h1, hb, hl, hm, hmm, _, hel⟩
  · cases h1
    refine ⟨[], fun _ _ => .bool false, rfl, fun r => deep_nil, fun b hb => ?_⟩
    rcases hb with hb | hb
    · cases hb
    · exact (innerB_zero hb).elim
  · cases h1
    have hcell : ∀ i, i < m → ∃ y : α, ∃ cs', w.cells? base (a.add (i * P.cellsOf e)) (P.cellsOf e) = some cs' ∧ OnTo D w y cs' := by
      intro i hi
      obtain ⟨cs', h2, h3⟩ := hel i hi
      have hlen := (World.cells?_some h2).2.1
      obtain ⟨y, hy⟩ := honto cs' (lvT_ok 20 e ts hts n cs' _ hlen h3)
      exact ⟨y, cs', h2, hy⟩
    have hlem : len ≤ m := by rw [hmm]; split <;> omega
    have hlist : ∀ k, k ≤ len → ∃ L : List α, L.length = k ∧ ∀ i (hi : i < L.length), ∃ cs', w.cells? base (a.add (i * P.cellsOf e)) (P.cellsOf e) = some cs' ∧ OnTo D w L[i] cs' := by
      intro k
      induction k with
      | zero => intro _; exact ⟨[], rfl, fun i hi => by simp at hi⟩
      | succ k ih =>
        intro hk
        obtain ⟨L, h1, h3⟩ := ih (by omega)
        obtain ⟨y, cs', g2, g3⟩ := hcell k (by omega)
        refine ⟨L ++ [y], by simp [h1], fun i hi => ?_⟩
        by_cases hik : i < L.length
        · rw [List.getElem_append_left hik]; exact h3 i hik
        · simp only [List.length_append, List.length_singleton] at hi
          have : i = k := by omega
          subst this
          rw [List.getElem_append_right (by omega)]
          simp only [h1, Nat.sub_self, List.getElem_cons_zero]
          exact ⟨cs', g2, g3⟩
    obtain ⟨L, hL1, hL3⟩ := hlist len (Nat.le_refl _)
    obtain ⟨V, hV⟩ : ∃ V : Nat → Nat → Value, ∀ i, V i = fun j => (w.cell? (a.add (i * D.sz + j))).getD (.bool false) := ⟨_, fun _ => rfl⟩
    have hfact : ∀ i, i < L.length → ∀ j, j < D.sz → ∃ v, w.cell? (a.add (i * D.sz + j)) = some v ∧ deepF D L V i j = v ∧ ∀ n s g, deepC D L i j = some (n, s, g) → rowIs w v n s g ∧ ∀ b, blkOf v = some b → b < w.heap.size := by
      intro i hi j hj
      obtain ⟨cs', g1, g2, g2'⟩ := hL3 i hi
      rw [hc] at g1
      obtain ⟨g3, g4, g5⟩ := World.cells?_some g1
      have hcj := g5 j (by omega)
      rw [Deep.add_add, List.getElem?_eq_getElem (by omega)] at hcj
      have hget : L.getD i D.dflt = L[i] := by rw [List.getD_eq_getElem?_getD, List.getElem?_eq_getElem hi]; rfl
      refine ⟨_, hcj, ?_, fun n s g hin => ?_⟩
      · unfold deepF
        rw [hget]
        split
        · rename_i v hv
          have := g2 j v hj hv
          rw [List.getElem?_eq_getElem (by omega)] at this
          exact (Option.some.inj this).symm
        · rw [hV]
          simp only [hcj, Option.getD_some]
      · unfold deepC at hin
        rw [hget] at hin
        obtain ⟨v, k1, k2, k3⟩ := g2' j n s g hj hin
        rw [List.getElem?_eq_getElem (by omega)] at k1
        cases k1
        exact ⟨k2, k3⟩
    have hplain : 0 < len → ∃ b o, a = ⟨b, o, none⟩ ∧ b < w.heap.size := by
      intro h0
      obtain ⟨v, this, _⟩ := hfact 0 (by omega) 0 hpos
      simp only [Nat.zero_mul, Nat.zero_add, Addr.add, if_true] at this
      unfold World.cell? at this
      split at this
      · rename_i c e' fr hb'
        split at this
        · cases this
        · rename_i hs
          obtain ⟨b, o, s⟩ := a
          simp only [Bool.not_eq_true, Option.isSome_eq_false_iff, Option.isNone_iff_eq_none] at hs
          simp only at hs hb'
          subst hs
          exact ⟨b, o, rfl, (Array.getElem?_eq_some_iff.1 hb').1⟩
      · cases this
    refine ⟨L, V, rfl, fun r => ⟨⟨some a, cap, by rw [hL1], by omega, by simp [maxLen] at hm; omega, fun h0 => ?_⟩, fun i j n' s' g hi hj hin => ?_, trivial⟩, fun b hb' => ?_⟩
    · obtain ⟨b, o, rfl, hlt⟩ := hplain (by omega)
      refine ⟨b, o, rfl, hlt, fun i j hi hj => ?_⟩
      obtain ⟨v, k1, k2, _⟩ := hfact i hi j hj
      rw [Addr.add_plain] at k1
      rw [k1, k2]
    · obtain ⟨v, k1, k2, k3⟩ := hfact i hi j hj
      rw [k2]
      exact (k3 n' s' g hin).1
    · rcases hb' with hb' | ⟨i, j, hi, hj, hin, hbv⟩
      · simp only [blkOf] at hb'
        split at hb'
        · cases hb'
        · cases hb'
          obtain ⟨y, cs', g2, g3⟩ := hcell 0 (by rw [hmm, hsp]; simp; omega)
          rw [hc] at g2
          obtain ⟨_, g4, g5⟩ := World.cells?_some g2
          have := g5 0 (by omega)
          rw [List.getElem?_eq_getElem (by omega)] at this
          unfold World.cell? at this
          split at this
          · rename_i c e' fr hb'
            have h2 := (Array.getElem?_eq_some_iff.1 hb').1
            simp only [Nat.zero_mul, Addr.add, if_true] at h2
            exact h2
          · cases this
      · obtain ⟨v, k1, k2, k3⟩ := hfact i hi j hj
        rw [k2] at hbv
        obtain ⟨⟨n', s', g⟩, hcc⟩ := Option.isSome_iff_exists.1 hin
        exact (k3 n' s' g hcc).2 b hbv
theorem act_onto {ti tm : TypeId} {cs : List Value} (hti : P.underlying ti = some (.int .i64)) (htm : P.underlying tm = some (.slice ti)) (hk : kinds P ti = some eI.ks) (hc : P.cellsOf ti = eI.sz) (hsp : ∀ b, sp b = true)
    (h : leafOk enc P w base sp held [ti, ti, ti, ti, ti, ti, tm, tm] cs) : ∃ x : ActL, OnTo eAct w x cs := by
  obtain ⟨v0, c0, rfl, e0, h⟩ := leafs_cons h
  obtain ⟨v1, c1, rfl, e1, h⟩ := leafs_cons h
  obtain ⟨v2, c2, rfl, e2, h⟩ := leafs_cons h
  obtain ⟨v3, c3, rfl, e3, h⟩ := leafs_cons h
  obtain ⟨v4, c4, rfl, e4, h⟩ := leafs_cons h
  obtain ⟨v5, c5, rfl, e5, h⟩ := leafs_cons h
  obtain ⟨v6, c6, rfl, e6, h⟩ := leafs_cons h
  obtain ⟨v7, c7, rfl, e7, h⟩ := leafs_cons h
  obtain rfl := leafs_nil h
  obtain ⟨n0, rfl, _⟩ := leaf_int hti e0
  obtain ⟨n1, rfl, _⟩ := leaf_int hti e1
  obtain ⟨n2, rfl, _⟩ := leaf_int hti e2
  obtain ⟨n3, rfl, _⟩ := leaf_int hti e3
  obtain ⟨n4, rfl, _⟩ := leaf_int hti e4
  obtain ⟨n5, rfl, _⟩ := leaf_int hti e5
  obtain ⟨M, _, _, m1, m2⟩ := leaf_row (E := eI) htm hk hc (by decide) hsp e6
  obtain ⟨R, _, _, r1, r2⟩ := leaf_row (E := eI) htm hk hc (by decide) hsp e7
  refine ⟨⟨n0, n1, n2, n3, n4, n5, M, R⟩, fun j v hj hv => ?_, fun j n s g hj hg => ?_⟩
  · have hj : j < 8 := hj
    rcases (by omega : j = 0 ∨ j = 1 ∨ j = 2 ∨ j = 3 ∨ j = 4 ∨ j = 5 ∨ j = 6 ∨ j = 7) with rfl | rfl | rfl | rfl | rfl | rfl | rfl | rfl <;> first | exact hv | cases hv
  · have hj : j < 8 := hj
    rcases (by omega : j = 0 ∨ j = 1 ∨ j = 2 ∨ j = 3 ∨ j = 4 ∨ j = 5 ∨ j = 6 ∨ j = 7) with rfl | rfl | rfl | rfl | rfl | rfl | rfl | rfl
    · cases hg
    · cases hg
    · cases hg
    · cases hg
    · cases hg
    · cases hg
    · cases hg; exact ⟨v6, rfl, ro_rowIs m1, m2⟩
    · cases hg; exact ⟨v7, rfl, ro_rowIs r1, r2⟩
end
end Go.Sx
namespace Go.Sx
open Go.RowKit
section
variable {l : List (Int × Int × SC)} {q : List QE} {x y x' y' : Int} {u u' z : SC} {V V' : Value} {L L' : List CC}
end
end Go.Sx
