/- A part of the proof of a statement about this seat: how a function is stepped through, and plain laws. No conditions. -/
import Derived.Deep.Quiet
import Derived.Below
import Derived.WalkKit
import Derived.WalkSpells
set_option linter.unusedVariables false
set_option linter.unusedSimpArgs false
namespace Go.Sx
open Go.RowKit

abbrev Rho := Nat → Value

/-- The address that a pointer or a slice holds. -/
def addrOf : Value → Addr
  | .pointer (some a) => a
  | .slice (some a) _ _ => a
  | _ => ⟨0, 0, none⟩

/-- The block that a pointer or a slice leads to. -/
def blkOf : Value → Option Nat
  | .pointer (some a) => some a.block
  | .slice (some a) _ cap => if cap = 0 then none else some a.block
  | _ => none

/-- One cell, symbolically: a plain value; cell j of box i; the slice value named i; cell j of element e of the row i. -/
inductive SC where
  | v (x : Value)
  | p (i j : Nat)
  | n (i : Nat)
  | q (i sz e j : Nat)

def SC.den (r : Rho) : SC → Value
  | .v x => x
  | .p i j => .pointer (some ⟨(addrOf (r i)).block, (addrOf (r i)).off + j, none⟩)
  | .n i => r i
  | .q i sz e j => .pointer (some ⟨(addrOf (r i)).block, (addrOf (r i)).off + (e * sz + j), none⟩)

/-- The names below a number. -/
def upto (n : Nat) (i : Nat) : Prop := i < n

def SC.sc (m : Nat → Prop) : SC → Prop
  | .v _ => True
  | .p i _ => m i
  | .n i => m i
  | .q i _ _ _ => m i

inductive S1 where
  | c (x : SC)
  | a (cs : List SC)

def S1.den (r : Rho) : S1 → Value
  | .c x => x.den r
  | .a cs => .agg (cs.map (SC.den r)).toArray

def S1.sc (m : Nat → Prop) : S1 → Prop
  | .c x => x.sc m
  | .a cs => ∀ x ∈ cs, x.sc m

def S1.cells : S1 → List SC
  | .c x => [x]
  | .a cs => cs

inductive SV where
  | o (x : S1)
  | t (xs : List S1)
  | g (b : Bool) (x : S1)

def SV.den (r : Rho) : SV → Value
  | .o x => x.den r
  | .t xs => .tuple (xs.map (S1.den r)).toArray
  | .g b x => if b then x.den r else undef

def SV.sc (m : Nat → Prop) : SV → Prop
  | .o x => x.sc m
  | .t xs => ∀ x ∈ xs, x.sc m
  | .g _ x => x.sc m

/-- What is known of one piece of memory: a variable; a row that is read; a row of the call's own; a slice without a place; what is known no longer. -/
inductive Ent where
  | box (cs : List SC) (ty : TypeId)
  | ro (n sz : Nat) (f : Nat → Nat → SC)
  | own (n sz : Nat) (f : Nat → Nat → SC) (ty : TypeId)
  | nils
  | dead

def Ent.sc (m : Nat → Prop) : Ent → Prop
  | .box cs _ => ∀ x ∈ cs, x.sc m
  | .ro _ _ f => ∀ e j, (f e j).sc m
  | .own _ _ f _ => ∀ e j, (f e j).sc m
  | .nils => True
  | .dead => True

def Ent.mut : Ent → Bool
  | .box .. => true
  | .ro .. => false
  | .own .. => true
  | .nils => false
  | .dead => false
def Ent.live : Ent → Bool
  | .dead => false
  | _ => true

def Ent.rel (r : Rho) (w : World) (V : Value) : Ent → Prop
  | .box cs ty => ∃ b, V = .pointer (some ⟨b, 0, none⟩) ∧ w.heap[b]? = some (.cells (cs.map (SC.den r)).toArray ty (0, 0))
  | .ro n sz f => ∃ a cap, V = .slice a n cap ∧ n ≤ cap ∧ n ≤ 9223372036854775807 ∧ (0 < n → ∃ b o, a = some ⟨b, o, none⟩ ∧ b < w.heap.size ∧ ∀ e j, e < n → j < sz → w.cell? ⟨b, o + (e * sz + j), none⟩ = some ((f e j).den r))
  | .own n sz f ty => n ≤ 9223372036854775807 ∧ ((∃ b o cap cur, V = .slice (some ⟨b, o, none⟩) n cap ∧ w.heap[b]? = some (.cells cur ty (0, 0)) ∧ n ≤ cap ∧ 0 < cap ∧ o + cap * sz ≤ cur.size ∧ ∀ e j, e < n → j < sz → cur[o + (e * sz + j)]? = some ((f e j).den r)) ∨ (∃ a, V = .slice a 0 0 ∧ n = 0))
  | .nils => ∃ a, V = .slice a 0 0
  | .dead => True

theorem SC.den_ext {r r' : Rho} {m : Nat → Prop} (h : ∀ i, m i → r' i = r i) : ∀ {x : SC}, x.sc m → x.den r' = x.den r
  | .v _, _ => rfl
  | .p i j, hs => by simp only [SC.den]; rw [h i hs]
  | .n i, hs => by simp only [SC.den]; rw [h i hs]
  | .q i sz e j, hs => by simp only [SC.den]; rw [h i hs]

theorem SC.map_den_ext {r r' : Rho} {m : Nat → Prop} (h : ∀ i, m i → r' i = r i) {cs : List SC} (hs : ∀ x ∈ cs, x.sc m) : cs.map (SC.den r') = cs.map (SC.den r) :=
  List.map_congr_left fun x hx => SC.den_ext h (hs x hx)

theorem S1.den_ext {r r' : Rho} {m : Nat → Prop} (h : ∀ i, m i → r' i = r i) : ∀ {x : S1}, x.sc m → x.den r' = x.den r
  | .c _, hs => SC.den_ext h hs
  | .a cs, hs => by simp only [S1.den]; rw [SC.map_den_ext h hs]

theorem SV.den_ext {r r' : Rho} {m : Nat → Prop} (h : ∀ i, m i → r' i = r i) : ∀ {x : SV}, x.sc m → x.den r' = x.den r
  | .o _, hs => S1.den_ext h hs
  | .t xs, hs => by
    simp only [SV.den]; congr 2
    exact List.map_congr_left fun x hx => S1.den_ext h (hs x hx)
  | .g b x, hs => by simp only [SV.den]; rw [S1.den_ext h hs]

theorem SC.sc_mono {m m' : Nat → Prop} (h : ∀ i, m i → m' i) : ∀ {x : SC}, x.sc m → x.sc m'
  | .v _, _ => trivial
  | .p i j, hs => h _ hs
  | .n i, hs => h _ hs
  | .q i sz e j, hs => h _ hs
theorem S1.sc_mono {m m' : Nat → Prop} (h : ∀ i, m i → m' i) : ∀ {x : S1}, x.sc m → x.sc m'
  | .c _, hs => SC.sc_mono h hs
  | .a _, hs => fun x hx => SC.sc_mono h (hs x hx)
theorem SV.sc_mono {m m' : Nat → Prop} (h : ∀ i, m i → m' i) : ∀ {x : SV}, x.sc m → x.sc m'
  | .o _, hs => S1.sc_mono h hs
  | .t _, hs => fun x hx => S1.sc_mono h (hs x hx)
  | .g _ _, hs => S1.sc_mono h hs
theorem Ent.sc_mono {m m' : Nat → Prop} (h : ∀ i, m i → m' i) : ∀ {x : Ent}, x.sc m → x.sc m'
  | .box _ _, hs => fun x hx => SC.sc_mono h (hs x hx)
  | .ro _ _ _, hs => fun e j => SC.sc_mono h (hs e j)
  | .own _ _ _ _, hs => fun e j => SC.sc_mono h (hs e j)
  | .nils, _ => trivial
  | .dead, _ => trivial

theorem Ent.rel_ext {r r' : Rho} {m : Nat → Prop} (h : ∀ i, m i → r' i = r i) {w : World} {V : Value} : ∀ {e : Ent}, e.sc m → e.rel r w V → e.rel r' w V
  | .box cs ty, hs, ⟨b, h1, h2⟩ => ⟨b, h1, by rw [SC.map_den_ext h hs]; exact h2⟩
  | .ro n sz f, hs, ⟨a, cap, h1, h2, hm, h3⟩ => ⟨a, cap, h1, h2, hm, fun hn => by
      obtain ⟨b, o, h4, h5, h6⟩ := h3 hn
      exact ⟨b, o, h4, h5, fun e j he hj => by rw [SC.den_ext h (hs e j)]; exact h6 e j he hj⟩⟩
  | .own n sz f ty, hs, ⟨hm, hr⟩ => ⟨hm, by
    rcases hr with ⟨b, o, cap, cur, h1, h2, h3, h4, h5, h6⟩ | hr
    · exact .inl ⟨b, o, cap, cur, h1, h2, h3, h4, h5, fun e j he hj => by rw [SC.den_ext h (hs e j)]; exact h6 e j he hj⟩
    · exact .inr hr⟩
  | .nils, _, h => h
  | .dead, _, _ => trivial

theorem blkOf_slice {b o n cap : Nat} (h : 0 < cap) : blkOf (.slice (some ⟨b, o, none⟩) n cap) = some b := by
  simp [blkOf]; omega

/-- What an entity says hangs on its own block alone. -/
theorem Ent.rel_block {r : Rho} {w w' : World} {V : Value} (hz : w.heap.size ≤ w'.heap.size) : ∀ {e : Ent}, (∀ b, e.live = true → blkOf V = some b → b < w.heap.size → w'.heap[b]? = w.heap[b]?) → e.rel r w V → e.rel r w' V
  | .box cs ty, h, ⟨b, h1, h2⟩ => ⟨b, h1, by
      have hb : b < w.heap.size := (Array.getElem?_eq_some_iff.1 h2).1
      rw [h b rfl (by rw [h1]; rfl) hb]; exact h2⟩
  | .ro n sz f, h, ⟨a, cap, h1, h2, hm, h3⟩ => ⟨a, cap, h1, h2, hm, fun hn => by
      obtain ⟨b, o, h4, h5, h6⟩ := h3 hn
      exact ⟨b, o, h4, Nat.lt_of_lt_of_le h5 hz, fun e j he hj => by
        rw [World.cell?_of_block (w := w) (a := ⟨b, o + (e * sz + j), none⟩) (h b rfl (by rw [h1, h4]; exact blkOf_slice (by omega)) h5)]; exact h6 e j he hj⟩⟩
  | .own n sz f ty, h, ⟨hm, hr⟩ => ⟨hm, by
    rcases hr with ⟨b, o, cap, cur, h1, h2, h3⟩ | hr
    · have hb : b < w.heap.size := (Array.getElem?_eq_some_iff.1 h2).1
      exact .inl ⟨b, o, cap, cur, h1, by rw [h b rfl (by rw [h1]; exact blkOf_slice h3.2.1) hb]; exact h2, h3⟩
    · exact .inr hr⟩
  | .nils, _, h => h
  | .dead, _, _ => trivial

theorem Ent.rel_lt {r : Rho} {w : World} {V : Value} : ∀ {e : Ent}, e.mut = true → e.rel r w V → ∀ b, blkOf V = some b → b < w.heap.size
  | .box cs ty, _, ⟨b, h1, h2⟩, b', hb => by
    rw [h1] at hb; cases hb; exact (Array.getElem?_eq_some_iff.1 h2).1
  | .own n sz f ty, _, ⟨hm, hr⟩, b', hb => by
    rcases hr with ⟨b, o, cap, cur, h1, h2, h3⟩ | ⟨a, h1, _⟩
    · rw [h1, blkOf_slice h3.2.1] at hb; cases hb; exact (Array.getElem?_eq_some_iff.1 h2).1
    · rw [h1] at hb; cases a <;> simp [blkOf] at hb
  | .nils, h, _, _, _ => by cases h
  | .dead, h, _, _, _ => by cases h
  | .ro _ _ _, h, _, _, _ => by cases h

/-- Which old blocks may be written, and which may be named. -/
structure Scp where
  mu : Nat → Prop
  all : Nat → Prop

/-- The memory as the symbolic state has it. base: the world in which the call began; M: the old blocks that may be written, and that may be named. -/
structure HeapRel (base : World) (M : Scp) (r : Rho) (E : Nat → Option Ent) (w : World) : Prop where
  size : base.heap.size ≤ w.heap.size
  one : ∀ i, (r i).oneCell' = true
  os : w.os = base.os
  tape : w.tape = base.tape
  output : w.output = base.output
  frame : ∀ b, b < base.heap.size → ¬ M.mu b → w.heap[b]? = base.heap[b]?
  ent : ∀ i e, E i = some e → e.rel r w (r i)
  apart : ∀ i j e e', i ≠ j → E i = some e → E j = some e' → e.mut = true → e'.live = true → ∀ b, blkOf (r i) = some b → blkOf (r j) ≠ some b
  mine : ∀ i e, E i = some e → e.mut = true → ∀ b, blkOf (r i) = some b → base.heap.size ≤ b ∨ M.mu b
  src : ∀ i e, E i = some e → e.live = true → ∀ b, blkOf (r i) = some b → b < w.heap.size ∧ (base.heap.size ≤ b ∨ M.all b)

theorem Ent.mut_live {e : Ent} (h : e.mut = true) : e.live = true := by cases e <;> first | rfl | cases h

theorem HeapRel.below {base : World} {M : Scp} {r : Rho} {E : Nat → Option Ent} {w w' : World} (h : HeapRel base M r E w) (hb : Below w.heap.size w w') : HeapRel base M r E w' where
  size := Nat.le_trans h.size hb.size
  one := h.one
  os := hb.os.trans h.os
  tape := hb.tape.trans h.tape
  output := hb.output.trans h.output
  frame := fun b hlt hm => (hb.block b (Nat.lt_of_lt_of_le hlt h.size)).trans (h.frame b hlt hm)
  ent := fun i e he => Ent.rel_block hb.size (fun b _ _ hlt => hb.block b hlt) (h.ent i e he)
  apart := h.apart
  mine := h.mine
  src := fun i e he hl b hbb => ⟨Nat.lt_of_lt_of_le (h.src i e he hl b hbb).1 hb.size, (h.src i e he hl b hbb).2⟩

/-- A state, symbolically. -/
structure St where
  env : List (Nat × SV)
  ents : List (Nat × Ent)
  next : Nat

def lk {α : Type} : List (Nat × α) → Nat → Option α
  | [], _ => none
  | (i, x) :: l, s => if i = s then some x else lk l s

structure Rel (base : World) (M : Scp) (N n0 : Nat) (r0 r : Rho) (S : St) (a : Act) (w : World) : Prop where
  defers : a.defers = []
  tmps : a.tmps.size = N
  slot : ∀ s v, lk S.env s = some v → a.tmps.getD s undef = v.den r
  heap : HeapRel base M r (lk S.ents) w
  scE : ∀ s v, lk S.env s = some v → v.sc (upto S.next)
  scH : ∀ i e, lk S.ents i = some e → i < S.next ∧ e.sc (upto S.next)
  low : n0 ≤ S.next
  keep : ∀ i, i < n0 → r i = r0 i

def St.put (S : St) (d : Option Nat) (v : SV) : St :=
  match d with
  | some s => ⟨(s, v) :: S.env, S.ents, S.next⟩
  | none => S

theorem Act.put_getD (a : Act) (d : Nat) (v : Value) (s : Nat) (h : d < a.tmps.size) : (a.put (some d) v).tmps.getD s undef = if d = s then v else a.tmps.getD s undef := by
  simp only [Act.put]
  by_cases hds : d = s
  · subst hds
    simp [h]
  · rw [if_neg hds]
    simp only [Array.getD_eq_getD_getElem?]
    rw [Array.getElem?_setIfInBounds_ne hds]

theorem Rel.put {base : World} {M : Scp} {N n0 : Nat} {r0 r : Rho} {S : St} {a : Act} {w : World} (h : Rel base M N n0 r0 r S a w) {d : Option Nat} {v : SV} (hd : ∀ s, d = some s → s < N) (hv : v.sc (upto S.next)) :
    Rel base M N n0 r0 r (S.put d v) (a.put d (v.den r)) w := by
  cases d with
  | none => exact h
  | some s =>
    have hs := hd s rfl
    refine ⟨h.defers, ?_, ?_, h.heap, ?_, h.scH, h.low, h.keep⟩
    · simp [Act.put, h.tmps]
    · intro s' v' hl
      rw [Act.put_getD a s _ s' (by rw [h.tmps]; exact hs)]
      simp only [St.put, lk] at hl
      split at hl
      · rename_i e; rw [if_pos e]; cases hl; rfl
      · rename_i e; rw [if_neg e]; exact h.slot _ _ hl
    · intro s' v' hl
      simp only [St.put, lk] at hl
      split at hl
      · cases hl; exact hv
      · exact h.scE _ _ hl

theorem Rel.world {base : World} {M : Scp} {N n0 : Nat} {r0 r : Rho} {S : St} {a : Act} {w w' : World} (h : Rel base M N n0 r0 r S a w) (hw : HeapRel base M r (lk S.ents) w') : Rel base M N n0 r0 r S a w' :=
  ⟨h.defers, h.tmps, h.slot, hw, h.scE, h.scH, h.low, h.keep⟩

/-- The state and the memory, the names turned: what is known of old names stays. -/
theorem HeapRel.ext {base : World} {M : Scp} {r r' : Rho} {E : Nat → Option Ent} {w : World} {m : Nat → Prop} (h : HeapRel base M r E w) (hs : ∀ i e, E i = some e → m i ∧ e.sc m)
    (hr : ∀ i, m i → r' i = r i) (h1 : ∀ i, (r' i).oneCell' = true) : HeapRel base M r' E w where
  size := h.size
  one := h1
  os := h.os
  tape := h.tape
  output := h.output
  frame := h.frame
  ent := fun i e he => by
    obtain ⟨hi, hsc⟩ := hs i e he
    rw [hr i hi]
    exact Ent.rel_ext hr hsc (h.ent i e he)
  apart := fun i j e e' hij he he' hm hl b hb => by
    rw [hr i (hs i e he).1] at hb
    rw [hr j (hs j e' he').1]
    exact h.apart i j e e' hij he he' hm hl b hb
  mine := fun i e he hm b hb => by
    rw [hr i (hs i e he).1] at hb
    exact h.mine i e he hm b hb
  src := fun i e he hl b hb => by
    rw [hr i (hs i e he).1] at hb
    exact h.src i e he hl b hb

end Go.Sx
