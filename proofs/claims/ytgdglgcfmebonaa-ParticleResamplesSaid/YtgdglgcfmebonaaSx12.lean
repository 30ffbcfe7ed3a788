/- A part of the proof of a statement about this seat: how a function is stepped through, and plain laws. No conditions. -/
import Derived.Test.YtgdglgcfmebonaaSx11
set_option linter.unusedVariables false
set_option linter.unusedSimpArgs false
namespace Go.Sx
open Go.RowKit

/-- What a call comes to: quiet (nothing that was known turns), or with pieces of memory new or turned. -/
inductive CR where
  | q (pre : Prop) (res : SV)
  | e (pre : Prop) (res : SV) (ents : List (Nat × Ent)) (next : Nat)

abbrev Con := List S1 → (Nat → Option Ent) → Nat → Option CR

def tab (l : List (Nat × Con)) (f : Nat) (args : List S1) (E : Nat → Option Ent) (n : Nat) : Option CR :=
  match lk l f with
  | some g => g args E n
  | none => none

def upd (l : List (Nat × Ent)) (E : Nat → Option Ent) (i : Nat) : Option Ent :=
  match lk l i with
  | some e => some e
  | none => E i

/-- The function has a body of its own. -/
def bodied (P : Program) (f : Nat) : Bool :=
  match P.funcs[f]? with
  | some fn => fn.body.isSome && !(fn.name == "runtime.NumGoroutine")
  | none => false

def CROk (P : Program) (f : Nat) (args : List S1) (E : Nat → Option Ent) (n : Nat) : Option CR → Prop
  | none => True
  | some (.q pre res) => (∀ m : Nat → Prop, (∀ x ∈ args, S1.sc m x) → (∀ i e, E i = some e → m i ∧ e.sc m) → res.sc m) ∧ (pre → bodied P f = true ∧ ∀ base M r w, HeapRel base M r E w →
        Calls P f (args.map (S1.den r)).toArray w (fun e w' => e = .returned (res.den r) ∧ Below w.heap.size w w'))
  | some (.e pre res ents next) => pre → bodied P f = true ∧ n ≤ next ∧
      (∀ m : Nat → Prop, (∀ x ∈ args, S1.sc m x) → (∀ i e, E i = some e → m i ∧ e.sc m) → (∀ i, n ≤ i → i < next → m i) → res.sc m ∧ ∀ i e, lk ents i = some e → m i ∧ e.sc m) ∧
      (∀ i e, lk ents i = some e → E i ≠ none ∨ (n ≤ i ∧ i < next)) ∧ ∀ base M r w, HeapRel base M r E w →
        Calls P f (args.map (S1.den r)).toArray w (fun e w' => ∃ r', (∀ i, i < n → r' i = r i) ∧ e = .returned (res.den r') ∧ HeapRel base M r' (upd ents E) w')

/-- The contract 'g' of function 'f' holds. -/
def COk (P : Program) (f : Nat) (g : Con) : Prop :=
  ∀ args E n, (∀ x ∈ args, S1.sc (upto n) x) → (∀ i e, E i = some e → i < n ∧ e.sc (upto n)) → CROk P f args E n (g args E n)

def constS : Value → S1
  | .agg cs => .a (cs.toList.map .v)
  | v => .c (.v v)

theorem constS_den (r : Rho) (v : Value) : (constS v).den r = v := by
  cases v <;> try rfl
  rename_i cs
  simp only [constS, S1.den, List.map_map]
  congr 1
  have : (SC.den r ∘ SC.v) = id := rfl
  rw [this, List.map_id]

theorem constS_sc (m : Nat → Prop) (v : Value) : (constS v).sc m := by
  cases v <;> try trivial
  intro x hx
  simp only [List.mem_map] at hx
  obtain ⟨y, _, rfl⟩ := hx
  trivial

def rd (env : List (Nat × SV)) : XO → Option (Prop × S1)
  | .t i => match lk env i with
    | some (.o x) => some (True, x)
    | some (.g b x) => some (b = true, x)
    | _ => none
  | .k v => some (True, constS v)

def rds (env : List (Nat × SV)) : List XO → Option (Prop × List S1)
  | [] => some (True, [])
  | x :: xs => match rd env x with
    | some (p, y) => match rds env xs with
      | some (q, ys) => some (p ∧ q, y :: ys)
      | none => none
    | none => none

def guardOf (env : List (Nat × SV)) : Option (Nat × Bool) → Option (Option Bool)
  | none => some none
  | some (s, want) => match lk env s with
    | some (.o (.c (.v (.bool b)))) => some (some (b == want))
    | some (.g a (.c (.v (.bool b)))) => some (some (a && (b == want)))
    | _ => none

def gdB : Option Bool → Bool
  | none => true
  | some c => c

def fin (gd : Option Bool) (p : Prop) (x : S1) : Option (Prop × SV) :=
  match gd with
  | none => some (p, .o x)
  | some c => some (c = true → p, .g c x)

def evPick (gd : Option Bool) : Option (Prop × S1) → Option (Prop × S1) → Option (Prop × S1) → Option (Prop × SV)
  | some (pc, .c (.v (.bool bc))), some (px, .c (.v (.bool bx))), some (py, .c (.v (.bool b))) =>
    fin gd (pc ∧ (bc = true → px) ∧ (bc = false → py)) (.c (.v (.bool (bif bc then bx else b))))
  | _, _, _ => none

def evCR (gd : Option Bool) (p : Prop) : Option CR → Option (Prop × SV)
  | some (.q pre (.o x)) => fin gd (p ∧ pre) x
  | some (.q pre (.t xs)) => match gd with
    | none => some (p ∧ pre, .t xs)
    | some _ => none
  | _ => none

def evExt (env : List (Nat × SV)) (gd : Option Bool) (i : Nat) : List XO → Option (Prop × SV)
  | [.t s] => match lk env s with
    | some (.t xs) => match nth xs i with
      | some x => fin gd True x
      | none => none
    | _ => none
  | _ => none

def SC.ids : SC → List Nat
  | .v _ => []
  | .p i _ => [i]
  | .n i => [i]
  | .q i _ _ _ => [i]
def idsL : List SC → List Nat
  | [] => []
  | x :: l => x.ids ++ idsL l
def S1.ids : S1 → List Nat
  | .c x => x.ids
  | .a cs => idsL cs
def ids1L : List S1 → List Nat
  | [] => []
  | x :: l => x.ids ++ ids1L l
def SV.ids : SV → List Nat
  | .o x => x.ids
  | .t xs => ids1L xs
  | .g _ x => x.ids
def memN (i : Nat) : List Nat → Bool
  | [] => false
  | j :: l => if i = j then true else memN i l
/-- What the arguments name, and what the variables hold that they name. -/
def reachB (E : Nat → Option Ent) : List Nat → List Nat
  | [] => []
  | i :: l => (match E i with | some (.box cs _) => idsL cs | _ => []) ++ reachB E l
def reach (E : Nat → Option Ent) (l : List Nat) : List Nat := l ++ reachB E l
def resE (l : List Nat) (E : Nat → Option Ent) (i : Nat) : Option Ent := if memN i l = true then E i else none

/-- A tuple, whole. -/
def tupOf (env : List (Nat × SV)) : XO → Option (List S1)
  | .t s => match lk env s with
    | some (.t xs) => some xs
    | _ => none
  | _ => none
def evTup (o : XOper) (S : St) : Option (List S1) :=
  match o.guard with
  | some _ => none
  | none => match o.op with
    | .mv => match o.args with
      | [x] => tupOf S.env x
      | _ => none
    | _ => none

/-- An operation that leaves all that is known as it is: what it asks, and what it gives. -/
def evQ0 (Γ : Nat → Con) (o : XOper) (S : St) : Option (Prop × SV) :=
  match guardOf S.env o.guard with
  | none => none
  | some gd =>
    match o.op with
    | .pick => match o.args with
      | [c, x, y] => evPick gd (rd S.env c) (rd S.env x) (rd S.env y)
      | _ => none
    | .ext i => evExt S.env gd i o.args
    | .call f => match rds S.env o.args with
      | some (p, ys) => evCR gd p (Γ f ys (resE (reach (lk S.ents) (ids1L ys)) (lk S.ents)) S.next)
      | none => none
    | .callv => match rds S.env o.args with
      | some (p, .c (.v (.func (.func f) fs cs)) :: ys) => evCR gd (p ∧ fs = #[] ∧ cs = #[]) (Γ f ys (resE (reach (lk S.ents) (ids1L ys)) (lk S.ents)) S.next)
      | _ => none
    | .box _ => none
    | .alloc _ _ => none
    | .store _ => none
    | .slit .. => none
    | .mks .. => none
    | .slc .. => none
    | .app .. => none
    | op => match rds S.env o.args with
      | some (p, ys) => match opQ (lk S.ents) op ys with
        | some (q, z) => fin gd (p ∧ q) z
        | none => none
      | none => none

/-- An operation that leaves all that is known as it is, also the move of a tuple. -/
def evQ (Γ : Nat → Con) (o : XOper) (S : St) : Option (Prop × SV) :=
  match evTup o S with
  | some xs => some (True, .t xs)
  | none => evQ0 Γ o S

/-- What one operation does, as the lexical run has it: the slot and the value, the pieces of memory new or turned, how many names are new, the slots that it looks at, the names that it reads. -/
structure Rec where
  d : Option Nat
  v : SV
  us : List (Nat × Ent)
  c : Nat
  al : Nat
  uses : List Nat
  rd : List Nat

/-- No cell. -/
def noC : SC := .v (.bool false)
def litF (cs : List SC) (sz : Nat) : Nat → Nat → SC := fun e j => match nth cs (e * sz + j) with | some x => x | none => noC
def replF (z : List Value) : Nat → Nat → SC := fun _ j => match nth z j with | some v => .v v | none => noC
def catF (n : Nat) (f g : Nat → Nat → SC) : Nat → Nat → SC := fun e j => if e < n then f e j else g (e - n) j
def shF (k : Nat) (f : Nat → Nat → SC) : Nat → Nat → SC := fun e j => f (e + k) j
def updF (f : Nat → Nat → SC) (e0 j0 : Nat) (cs : List SC) : Nat → Nat → SC := fun e j => if e = e0 ∧ j0 ≤ j then (match nth cs (j - j0) with | some x => x | none => f e j) else f e j

abbrev EffR := Option (Prop × SV × List (Nat × Ent) × Nat)

def eBox (c : Nat) (ty : TypeId) : List S1 → EffR
  | [z] => some (okcs z.cells = true, .o (.c (.p c 0)), [(c, .box z.cells ty)], 1)
  | _ => none
def eAlloc (c : Nat) (ty : TypeId) (z : List Value) : EffR := some (okcs (z.map .v) = true, .o (.c (.p c 0)), [(c, .box (z.map .v) ty)], 1)
def eStore (n : Nat) (E : Nat → Option Ent) : List S1 → EffR
  | [.c (.p i j), z] => match E i with
    | some (.box cs ty) => some (z.cells.length = n ∧ j + n ≤ cs.length ∧ okcs z.cells = true, .t [], [(i, .box (setAt cs j z.cells) ty)], 0)
    | _ => none
  | [.c (.q i sz e j), z] => match E i with
    | some (.own m sz' f ty) => some (sz = sz' ∧ e < m ∧ z.cells.length = n ∧ j + n ≤ sz ∧ okcs z.cells = true, .t [], [(i, .own m sz' (updF f e j z.cells) ty)], 0)
    | _ => none
  | _ => none
def eCall (c : Nat) : Option CR → EffR
  | some (.e pre res ents next) => some (pre, res, ents, next - c)
  | _ => none
def eSlit (c : Nat) (ty : TypeId) (len sz : Nat) (z : List Value) (pl : List (Nat × Nat)) (ys : List S1) : EffR :=
  match fillS (z.map .v) pl ys with
  | some cs => some (oks ys = true ∧ okcs cs = true, .o (.c (.n c)), [(c, .own len sz (litF cs sz) ty)], 1)
  | none => none
def eMks (c : Nat) (ty : TypeId) (sz bytes : Nat) (z : List Value) : List S1 → EffR
  | [.c (.v (.int .i64 l)), .c (.v (.int .i64 m))] => some (l = m ∧ 0 ≤ l ∧ l * bytes ≤ 281474976710656 ∧ l ≤ 9223372036854775807 ∧ okcs (z.map .v) = true, .o (.c (.n c)), [(c, .own l.toNat sz (replF z) ty)], 1)
  | _ => none
/-- The limits of a slice expression. -/
def takeI : Bool → List S1 → Option (Option Int × List S1)
  | false, l => some (none, l)
  | true, .c (.v (.int _ n)) :: l => some (some n, l)
  | true, _ => none
def lims (lo hi mx : Bool) (ys : List S1) : Option (Option Int × Option Int × Option Int) :=
  match takeI lo ys with
  | some (l, ys1) => match takeI hi ys1 with
    | some (h, ys2) => match takeI mx ys2 with
      | some (m, []) => some (l, h, m)
      | _ => none
    | none => none
  | none => none
def eSlcO (c sz : Nat) (l : Int) (h : Option Int) (E : Nat → Option Ent) (x : S1) : EffR :=
  match x with
  | .c (.n i) => match E i with
    | some (.ro n sz' f) => some (sz = sz' ∧ 0 ≤ l ∧ l ≤ h.getD n ∧ h.getD n ≤ n, .o (.c (.n c)), [(c, .ro (h.getD n - l).toNat sz (shF l.toNat f))], 1)
    | some (.own n sz' f ty) => some (sz = sz' ∧ 0 ≤ l ∧ l ≤ h.getD n ∧ h.getD n ≤ n, .o (.c (.n c)), [(c, .own (h.getD n - l).toNat sz (shF l.toNat f) ty), (i, .dead)], 1)
    | _ => none
  | _ => none
def eSlc (c sz : Nat) (lo hi mx : Bool) (E : Nat → Option Ent) : List S1 → EffR
  | x :: ys => match lims lo hi mx ys with
    | some (l, h, some m) => match rowV E x with
      | some _ => some (l.getD 0 = 0 ∧ h = some 0 ∧ m = 0, .o (.c (.n c)), [(c, .nils)], 1)
      | none => none
    | some (l, h, none) => eSlcO c sz (l.getD 0) h E x
    | none => none
  | [] => none
/-- Every cell is one cell. -/
def okRow (m sz : Nat) (g : Nat → Nat → SC) : Prop := ∀ e j, e < m → j < sz → (g e j).ok = true
def eApp (c : Nat) (ty : TypeId) (sz bytes : Nat) (E : Nat → Option Ent) : List S1 → EffR
  | [.c (.n i), x] => match E i with
    | some (.own n sz' f ty') => match rowV E x with
      | some (m, sz2, g) => some (sz' = sz ∧ ty' = ty ∧ (m = 0 ∨ sz2 = sz) ∧ okRow m sz g ∧ n + m ≤ 281474976710, .o (.c (.n c)), [(c, .own (n + m) sz (catF n f g) ty), (i, .dead)], 1)
      | none => none
    | some .nils => match rowV E x with
      | some (m, sz2, g) => some ((m = 0 ∨ sz2 = sz) ∧ okRow m sz g ∧ m ≤ 281474976710, .o (.c (.n c)), [(c, .own m sz g ty), (i, .dead)], 1)
      | none => none
    | _ => none
  | [.c (.v (.slice none 0 0)), x] => match rowV E x with
    | some (m, sz2, g) => some ((m = 0 ∨ sz2 = sz) ∧ okRow m sz g ∧ m ≤ 281474976710, .o (.c (.n c)), [(c, .own m sz g ty)], 1)
    | none => none
  | _ => none

def effE (Γ : Nat → Con) (c : Nat) (op : XOp) (E : Nat → Option Ent) (ys : List S1) : EffR :=
  match op with
  | .box ty => eBox c ty ys
  | .alloc ty z => eAlloc c ty z
  | .store n => eStore n E ys
  | .call f => eCall c (Γ f ys (resE (reach E (ids1L ys)) E) c)
  | .slit ty len sz z pl => eSlit c ty len sz z pl ys
  | .mks ty sz bytes z => eMks c ty sz bytes z ys
  | .slc sz lo hi mx => eSlc c sz lo hi mx E ys
  | .app ty sz bytes => eApp c ty sz bytes E ys
  | _ => none

def XO.slots : XO → List Nat
  | .t i => [i]
  | .k _ => []
def slotsL : List XO → List Nat
  | [] => []
  | x :: l => x.slots ++ slotsL l
def usesX (x : XOper) : List Nat :=
  (match x.guard with | some (s, _) => [s] | none => []) ++ slotsL x.args

/-- An operation that makes or turns memory. -/
def recEff (Γ : Nat → Con) (c : Nat) (x : XOper) (S : St) : Option (Prop × Rec) :=
  match x.guard with
  | some _ => none
  | none => match rds S.env x.args with
    | some (p, ys) => match effE Γ c x.op (lk S.ents) ys with
      | some (q, v, us, al) => some (p ∧ q, ⟨x.dst, v, us, c, al, usesX x, reach (lk S.ents) (ids1L ys)⟩)
      | none => none
    | none => none

def pushR (t : Rec) (S : St) : St :=
  ⟨(match t.d with | some s => (s, t.v) :: S.env | none => S.env), t.us ++ S.ents, S.next⟩
def pushN (t : Rec) (S : St) : St :=
  ⟨(match t.d with | some s => (s, t.v) :: S.env | none => S.env), t.us ++ S.ents, S.next + t.al⟩

def vcEff (K : St → Prop) (S : St) : Option (Prop × Rec) → Prop
  | some (p, t) => p ∧ K (pushN t S)
  | none => False

def vcOp1 (Γ : Nat → Con) (o : XOper) (S : St) (K : St → Prop) : Prop :=
  match evQ Γ o S with
  | some (p, v) => p ∧ K (S.put o.dst v)
  | none => vcEff K S (recEff Γ S.next o S)
/-- A guarded operation that makes or turns memory: it is done, or it is not. -/
def vcOpG (Γ : Nat → Con) (o : XOper) (S : St) (K : St → Prop) : Prop :=
  match o.guard with
  | none => vcOp1 Γ o S K
  | some g => match evQ Γ o S with
    | some (p, v) => p ∧ K (S.put o.dst v)
    | none => match guardOf S.env (some g) with
      | some (some c) => (c = true → vcOp1 Γ ⟨o.dst, o.op, o.args, none⟩ S K) ∧ (c = false → K (S.put o.dst (.g false (.c (.v (.bool true))))))
      | _ => False
/-- A slice held against nil: nothing is known of the answer but that what is nil is empty. -/
def vcNil (d : Option Nat) (S : St) (neg : Bool) (K : St → Prop) : Option (Prop × List S1) → Prop
  | some (p, [x]) => match rowV (lk S.ents) x with
    | some (n, _, _) => p ∧ ∀ b : Bool, (b = true → n = 0) → K (S.put d (.o (.c (.v (.bool (b != neg))))))
    | none => False
  | _ => False
def vcOp (Γ : Nat → Con) (o : XOper) (S : St) (K : St → Prop) : Prop :=
  match o.op with
  | .isnil neg => match o.guard with
    | none => vcNil o.dst S neg K (rds S.env o.args)
    | some _ => False
  | _ => vcOpG Γ o S K

/-- (The continuation stands ahead of the state, so that what is still to come stays as it is.) -/
def vcOpK (Γ : Nat → Con) (o : XOper) (K : St → Prop) (S : St) : Prop := vcOp Γ o S K
def vcOps (Γ : Nat → Con) : List XOper → (St → Prop) → St → Prop
  | [], K, S => K S
  | o :: l, K, S => vcOpK Γ o (vcOps Γ l K) S

def dstOk (N : Nat) : Option Nat → Bool
  | none => true
  | some d => d < N

def xopsL (P : Program) (all : Array Oper) (N : Nat) : List Oper → Option (List XOper)
  | [] => some []
  | o :: l => match xop P all o with
    | some x => if dstOk N x.dst then (match xopsL P all N l with
      | some xs => some (x :: xs)
      | none => none) else none
    | none => none

end Go.Sx
