/- A part of the proof of a statement about this seat: how a function is stepped through, and plain laws. No conditions. -/
import Derived.Test.YtjcpefnbongmaaaSx16
set_option linter.unusedVariables false
set_option linter.unusedSimpArgs false
namespace Go.Sx
open Go.RowKit

/-- What one operation of a region whose order is open does, as the lexical run has it. -/
structure Rec where
  d : Option Nat
  v : SV
  u : Option (Nat × List SC × TypeId)
  al : Option Nat
  uses : List Nat
  rd : List Nat

def XO.slots : XO → List Nat
  | .t i => [i]
  | .k _ => []
def slotsL : List XO → List Nat
  | [] => []
  | x :: l => x.slots ++ slotsL l
def usesX (x : XOper) : List Nat :=
  (match x.guard with | some (s, _) => [s] | none => []) ++ slotsL x.args

def readsX (x : XOper) (S : St) : List Nat :=
  match rds S.env x.args with
  | some (_, ys) => ids1L ys
  | none => []

def pushR (t : Rec) (S : St) : St :=
  ⟨(match t.d with | some s => (s, t.v) :: S.env | none => S.env), (match t.u with | some (i, cs, ty) => (i, .box cs ty) :: S.ents | none => S.ents), S.next⟩

def recEff (c : Nat) (x : XOper) (S : St) : Option (Prop × Rec) :=
  match x.guard with
  | some _ => none
  | none =>
    match x.op with
    | .box ty => match rds S.env x.args with
      | some (p, [z]) => some (p ∧ okcs z.cells = true, ⟨x.dst, .o (.c (.p c 0)), some (c, z.cells, ty), some c, usesX x, []⟩)
      | _ => none
    | .alloc ty z => some (okcs (z.map .v) = true, ⟨x.dst, .o (.c (.p c 0)), some (c, z.map .v, ty), some c, usesX x, []⟩)
    | .store n => match rds S.env x.args with
      | some (p, [.c (.p i j), z]) => match lk S.ents i with
        | some (.box cs ty) => some (p ∧ z.cells.length = n ∧ j + n ≤ cs.length ∧ okcs z.cells = true, ⟨x.dst, .t [], some (i, setAt cs j z.cells, ty), none, usesX x, [i]⟩)
        | _ => none
      | _ => none
    | _ => none

def recOf (Γ : Nat → Con) (c : Nat) (x : XOper) (S : St) : Option (Prop × Rec) :=
  match evQ Γ x S with
  | some (p, v) => some (p, ⟨x.dst, v, none, none, usesX x, readsX x S⟩)
  | none => recEff c x S

def alN : Option Nat → Nat
  | some _ => 1
  | none => 0

/-- The footprint of an operation: the slot that it writes; the slots that it looks at; the boxes that it reads; the box that it writes; the box that it makes; the names in what it gives. -/
structure Foot where
  d : Option Nat
  uses : List Nat
  rd : List Nat
  wr : Option Nat
  al : Option Nat
  ids : List Nat

def uIds : Option (Nat × List SC × TypeId) → List Nat
  | some (_, cs, _) => idsL cs
  | none => []
def uWr : Option (Nat × List SC × TypeId) → Option Nat
  | some (i, _, _) => some i
  | none => none

def Rec.foot (t : Rec) : Foot := ⟨t.d, t.uses, t.rd, uWr t.u, t.al, t.v.ids ++ uIds t.u⟩

def inO : Option Nat → List Nat → Bool
  | some i, l => memN i l
  | none, _ => false
def eqO : Option Nat → Option Nat → Bool
  | some i, some j => i == j
  | _, _ => false

/-- Two operations that must stand in one order. -/
def clash (x y : Foot) : Bool :=
  inO x.d y.uses || inO y.d x.uses || eqO x.d y.d || inO x.wr y.rd || inO y.wr x.rd || eqO x.wr y.wr || inO x.al y.ids

/-- Every two operations that clash stand in order: the earlier among those that the later waits for. -/
def indepAt (y : Foot) (pre : List Nat) : Nat → List Foot → Bool
  | _, [] => true
  | k, x :: l => ((!inO y.al x.ids && !eqO x.wr y.al) && (!clash x y || memN k pre)) && indepAt y pre (k + 1) l

def indep : List Foot → List Foot → List (List Nat) → Bool
  | _, [], _ => true
  | done, y :: l, pre :: ps => indepAt y pre 0 done && indep (done ++ [y]) l ps
  | _, _ :: _, [] => false

def nAl : List XOper → Nat
  | [] => 0
  | x :: l => (match x.op with | .box _ => 1 | .alloc _ _ => 1 | _ => 0) + nAl l

def vcDgo (Γ : Nat → Con) (preds : List (List Nat)) : List XOper → Nat → St → List Foot → (St → Prop) → Prop
  | [], _, S, acc, K => indep [] acc preds = true ∧ K S
  | x :: l, c, S, acc, K => match recOf Γ c x S with
    | some (p, t) => p ∧ vcDgo Γ preds l (c + alN t.al) (pushR t S) (acc ++ [t.foot]) K
    | none => False

/-- A region whose order is open, with writes. -/
def vcD (Γ : Nat → Con) (preds : List (List Nat)) (l : List XOper) (S : St) (K : St → Prop) : Prop :=
  vcDgo Γ preds l S.next ⟨S.env, S.ents, S.next + nAl l⟩ [] K

/-! ### What the lexical run shows -/

def stL : List Rec → (Nat → Bool) → Nat → St → St
  | [], _, _, S => S
  | t :: ts, L, k, S => stL ts L (k + 1) (if L k = true then pushR t S else S)

inductive Run (Γ : Nat → Con) : List XOper → Nat → St → List Rec → St → Prop where
  | nil {c : Nat} {S : St} : Run Γ [] c S [] S
  | cons {x : XOper} {l : List XOper} {c : Nat} {S S' : St} {p : Prop} {t : Rec} {ts : List Rec} : recOf Γ c x S = some (p, t) → p → Run Γ l (c + alN t.al) (pushR t S) ts S' → Run Γ (x :: l) c S (t :: ts) S'

theorem run_of_vcDgo {Γ : Nat → Con} {preds : List (List Nat)} {K : St → Prop} : ∀ {l : List XOper} {c : Nat} {S : St} {acc : List Foot}, vcDgo Γ preds l c S acc K →
    ∃ ts S', Run Γ l c S ts S' ∧ indep [] (acc ++ ts.map Rec.foot) preds = true ∧ K S'
  | [], c, S, acc, h => ⟨[], S, .nil, by simpa using h.1, h.2⟩
  | x :: l, c, S, acc, h => by
    simp only [vcDgo] at h
    split at h
    · rename_i p t ht
      obtain ⟨ts, S', hr, hi, hk⟩ := run_of_vcDgo h.2
      exact ⟨t :: ts, S', .cons ht h.1 hr, by simpa using hi, hk⟩
    · exact h.elim

theorem Run.final {Γ : Nat → Con} {l : List XOper} {c : Nat} {S S' : St} {ts : List Rec} (h : Run Γ l c S ts S') : ∀ (L : Nat → Bool) (k : Nat), (∀ i, k ≤ i → i < k + ts.length → L i = true) → stL ts L k S = S' := by
  induction h with
  | nil => intro L k _; rfl
  | cons ht hp hr ih =>
    intro L k hL
    simp only [stL]
    rw [if_pos (hL k (Nat.le_refl _) (by simp))]
    exact ih L (k + 1) (fun i h1 h2 => hL i (by omega) (by simp; omega))

theorem Run.len {Γ : Nat → Con} {l : List XOper} {c : Nat} {S S' : St} {ts : List Rec} (h : Run Γ l c S ts S') : ts.length = l.length := by
  induction h with
  | nil => rfl
  | cons _ _ _ ih => simp [ih]

theorem Run.at {Γ : Nat → Con} {l : List XOper} {c : Nat} {S S' : St} {ts : List Rec} (h : Run Γ l c S ts S') : ∀ (k j : Nat) (t : Rec) (x : XOper), ts[j]? = some t → l[j]? = some x →
    ∃ p c', c ≤ c' ∧ recOf Γ c' x (stL ts (fun i => decide (i < k + j)) k S) = some (p, t) ∧ p ∧ (t.al.isSome = true → c' < c + nAl l) := by
  induction h with
  | nil => intro k j t x h; simp at h
  | @cons x0 l c S S' p0 t0 ts ht hp hr ih =>
    intro k j t x h1 h2
    have halle : ∀ {c : Nat} {x : XOper} {S : St} {p : Prop} {t : Rec}, recOf Γ c x S = some (p, t) → alN t.al ≤ nAl [x] := by
      intro c x S p t h
      unfold recOf at h
      split at h
      · cases h; simp [alN]
      · unfold recEff at h
        split at h
        · cases h
        · split at h
          · rename_i heq
            split at h
            · cases h; simp [alN, nAl, heq]
            · cases h
          · rename_i heq; cases h; simp [alN, nAl, heq]
          · split at h
            · split at h <;> cases h; simp [alN]
            · cases h
          · cases h
    have hal0 := halle ht
    cases j with
    | zero =>
      simp only [List.getElem?_cons_zero, Option.some.injEq] at h1 h2
      subst h1; subst h2
      have e : stL (t0 :: ts) (fun i => decide (i < k + 0)) k S = S := by
        simp only [stL]
        rw [if_neg (by simp)]
        clear ih hr ht
        have : ∀ (ts : List Rec) (m : Nat) (S : St), k ≤ m → stL ts (fun i => decide (i < k + 0)) m S = S := by
          intro ts
          induction ts with
          | nil => intro m S _; rfl
          | cons t ts ih => intro m S hm; simp only [stL]; rw [if_neg (by simp; omega)]; exact ih (m + 1) S (by omega)
        exact this ts (k + 1) S (by omega)
      refine ⟨p0, c, Nat.le_refl _, by rw [e]; exact ht, hp, fun ha => ?_⟩
      have hh : alN t0.al = 1 := by cases hh : t0.al <;> simp_all [alN]
      simp only [nAl] at hal0 ⊢
      omega
    | succ j =>
      simp only [List.getElem?_cons_succ] at h1 h2
      obtain ⟨p, c', hc, h3, h4, h5⟩ := ih (k + 1) j t x h1 h2
      refine ⟨p, c', by omega, ?_, h4, fun ha => ?_⟩
      · simp only [stL]
        rw [if_pos (by simp)]
        have e : (fun i => decide (i < k + 1 + j)) = (fun i => decide (i < k + (j + 1))) := by funext i; congr 1; simp; omega
        rw [← e]; exact h3
      · have := h5 ha
        simp only [nAl] at hal0 this ⊢
        omega

end Go.Sx
