/- A part of the proof of a statement about this seat: how a function is stepped through, and plain laws. No conditions. -/
import Derived.Test.YtjcpefnbongmaaaSx11
set_option linter.unusedVariables false
set_option linter.unusedSimpArgs false
namespace Go.Sx
open Go.RowKit

/-- What a call comes to: quiet (nothing that was known turns), or with pieces of memory new or turned. -/
inductive CR where
  | q (pre : Prop) (res : SV)
  | e (pre : Prop) (res : SV) (ents : List (Nat × Ent)) (next : Nat)

abbrev Con := List S1 → (Nat → Option Ent) → Nat → Option CR

def tab (l : List (Nat × Con)) (f : Nat) (args : List S1) (E : Nat → Option Ent) (n : Nat) : Option CR :=
  match lk l f with
  | some g => g args E n
  | none => none

def upd (l : List (Nat × Ent)) (E : Nat → Option Ent) (i : Nat) : Option Ent :=
  match lk l i with
  | some e => some e
  | none => E i

/-- The function has a body of its own. -/
def bodied (P : Program) (f : Nat) : Bool :=
  match P.funcs[f]? with
  | some fn => fn.body.isSome && !(fn.name == "runtime.NumGoroutine")
  | none => false

def CROk (P : Program) (f : Nat) (args : List S1) (E : Nat → Option Ent) (n : Nat) : Option CR → Prop
  | none => True
  | some (.q pre res) => res.sc (upto n) ∧ (pre → bodied P f = true ∧ ∀ base M r w, HeapRel base M r E w →
        Calls P f (args.map (S1.den r)).toArray w (fun e w' => e = .returned (res.den r) ∧ Below w.heap.size w w'))
  | some (.e pre res ents next) => pre → bodied P f = true ∧ n ≤ next ∧ res.sc (upto next) ∧ (∀ i e, lk ents i = some e → i < next ∧ e.sc (upto next)) ∧ ∀ base M r w, HeapRel base M r E w →
        Calls P f (args.map (S1.den r)).toArray w (fun e w' => ∃ r', (∀ i, i < n → r' i = r i) ∧ e = .returned (res.den r') ∧ HeapRel base M r' (upd ents E) w')

/-- The contract 'g' of function 'f' holds. -/
def COk (P : Program) (f : Nat) (g : Con) : Prop :=
  ∀ args E n, (∀ x ∈ args, S1.sc (upto n) x) → (∀ i e, E i = some e → i < n ∧ e.sc (upto n)) → CROk P f args E n (g args E n)

def constS : Value → S1
  | .agg cs => .a (cs.toList.map .v)
  | v => .c (.v v)

theorem constS_den (r : Rho) (v : Value) : (constS v).den r = v := by
  cases v <;> try rfl
  rename_i cs
  simp only [constS, S1.den, List.map_map]
  congr 1
  have : (SC.den r ∘ SC.v) = id := rfl
  rw [this, List.map_id]

theorem constS_sc (m : Nat → Prop) (v : Value) : (constS v).sc m := by
  cases v <;> try trivial
  intro x hx
  simp only [List.mem_map] at hx
  obtain ⟨y, _, rfl⟩ := hx
  trivial

def rd (env : List (Nat × SV)) : XO → Option (Prop × S1)
  | .t i => match lk env i with
    | some (.o x) => some (True, x)
    | some (.g b x) => some (b = true, x)
    | _ => none
  | .k v => some (True, constS v)

def rds (env : List (Nat × SV)) : List XO → Option (Prop × List S1)
  | [] => some (True, [])
  | x :: xs => match rd env x with
    | some (p, y) => match rds env xs with
      | some (q, ys) => some (p ∧ q, y :: ys)
      | none => none
    | none => none

def guardOf (env : List (Nat × SV)) : Option (Nat × Bool) → Option (Option Bool)
  | none => some none
  | some (s, want) => match lk env s with
    | some (.o (.c (.v (.bool b)))) => some (some (b == want))
    | some (.g a (.c (.v (.bool b)))) => some (some (a && (b == want)))
    | _ => none

def gdB : Option Bool → Bool
  | none => true
  | some c => c

def fin (gd : Option Bool) (p : Prop) (x : S1) : Option (Prop × SV) :=
  match gd with
  | none => some (p, .o x)
  | some c => some (c = true → p, .g c x)

def evPick (gd : Option Bool) : Option (Prop × S1) → Option (Prop × S1) → Option (Prop × S1) → Option (Prop × SV)
  | some (pc, .c (.v (.bool bc))), some (px, .c (.v (.bool bx))), some (py, .c (.v (.bool b))) =>
    fin gd (pc ∧ (bc = true → px) ∧ (bc = false → py)) (.c (.v (.bool (bif bc then bx else b))))
  | _, _, _ => none

def evCR (gd : Option Bool) (p : Prop) : Option CR → Option (Prop × SV)
  | some (.q pre (.o x)) => fin gd (p ∧ pre) x
  | some (.q pre (.t xs)) => match gd with
    | none => some (p ∧ pre, .t xs)
    | some _ => none
  | _ => none

def evExt (env : List (Nat × SV)) (gd : Option Bool) (i : Nat) : List XO → Option (Prop × SV)
  | [.t s] => match lk env s with
    | some (.t xs) => match nth xs i with
      | some x => fin gd True x
      | none => none
    | _ => none
  | _ => none

def SC.ids : SC → List Nat
  | .v _ => []
  | .p i _ => [i]
  | .n i => [i]
  | .q i _ _ _ => [i]
def idsL : List SC → List Nat
  | [] => []
  | x :: l => x.ids ++ idsL l
def S1.ids : S1 → List Nat
  | .c x => x.ids
  | .a cs => idsL cs
def ids1L : List S1 → List Nat
  | [] => []
  | x :: l => x.ids ++ ids1L l
def SV.ids : SV → List Nat
  | .o x => x.ids
  | .t xs => ids1L xs
  | .g _ x => x.ids
def memN (i : Nat) : List Nat → Bool
  | [] => false
  | j :: l => if i = j then true else memN i l
/-- Only what the arguments name. -/
def resE (l : List Nat) (E : Nat → Option Ent) (i : Nat) : Option Ent := if memN i l = true then E i else none

/-- A tuple, whole. -/
def tupOf (env : List (Nat × SV)) : XO → Option (List S1)
  | .t s => match lk env s with
    | some (.t xs) => some xs
    | _ => none
  | _ => none
def evTup (o : XOper) (S : St) : Option (List S1) :=
  match o.guard with
  | some _ => none
  | none => match o.op with
    | .mv => match o.args with
      | [x] => tupOf S.env x
      | _ => none
    | _ => none

/-- An operation that leaves all that is known as it is: what it asks, and what it gives. -/
def evQ0 (Γ : Nat → Con) (o : XOper) (S : St) : Option (Prop × SV) :=
  match guardOf S.env o.guard with
  | none => none
  | some gd =>
    match o.op with
    | .pick => match o.args with
      | [c, x, y] => evPick gd (rd S.env c) (rd S.env x) (rd S.env y)
      | _ => none
    | .ext i => evExt S.env gd i o.args
    | .call f => match rds S.env o.args with
      | some (p, ys) => evCR gd p (Γ f ys (resE (ids1L ys) (lk S.ents)) S.next)
      | none => none
    | .callv => match rds S.env o.args with
      | some (p, .c (.v (.func (.func f) fs cs)) :: ys) => evCR gd (p ∧ fs = #[] ∧ cs = #[]) (Γ f ys (resE (ids1L ys) (lk S.ents)) S.next)
      | _ => none
    | .box _ => none
    | .alloc _ _ => none
    | .store _ => none
    | op => match rds S.env o.args with
      | some (p, ys) => match opQ (lk S.ents) op ys with
        | some (q, z) => fin gd (p ∧ q) z
        | none => none
      | none => none

/-- An operation that leaves all that is known as it is, also the move of a tuple. -/
def evQ (Γ : Nat → Con) (o : XOper) (S : St) : Option (Prop × SV) :=
  match evTup o S with
  | some xs => some (True, .t xs)
  | none => evQ0 Γ o S

def vcBox (d : Option Nat) (S : St) (ty : TypeId) (p : Prop) (cs : List SC) (K : St → Prop) : Prop :=
  (p ∧ okcs cs = true) ∧ K ((⟨S.env, (S.next, .box cs ty) :: S.ents, S.next + 1⟩ : St).put d (.o (.c (.p S.next 0))))

def vcStore (d : Option Nat) (S : St) (n : Nat) (p : Prop) (K : St → Prop) : List S1 → Prop
  | [.c (.p i j), x] => match lk S.ents i with
    | some (.box cs ty) => (p ∧ x.cells.length = n ∧ j + n ≤ cs.length ∧ okcs x.cells = true) ∧ K ((⟨S.env, (i, .box (setAt cs j x.cells) ty) :: S.ents, S.next⟩ : St).put d (.t []))
    | _ => False
  | _ => False

def vcCR (d : Option Nat) (S : St) (p : Prop) (K : St → Prop) : Option CR → Prop
  | some (.e pre res ents next) => (p ∧ pre) ∧ K ((⟨S.env, ents ++ S.ents, next⟩ : St).put d res)
  | _ => False

/-- An operation that makes or turns memory. -/
def vcEff (Γ : Nat → Con) (o : XOper) (S : St) (K : St → Prop) : Prop :=
  match o.guard with
  | some _ => False
  | none =>
    match o.op with
    | .call f => match rds S.env o.args with
      | some (p, ys) => vcCR o.dst S p K (Γ f ys (lk S.ents) S.next)
      | none => False
    | .box ty => match rds S.env o.args with
      | some (p, [x]) => vcBox o.dst S ty p x.cells K
      | _ => False
    | .alloc ty z => vcBox o.dst S ty True (z.map .v) K
    | .store n => match rds S.env o.args with
      | some (p, ys) => vcStore o.dst S n p K ys
      | none => False
    | _ => False

def vcOp (Γ : Nat → Con) (o : XOper) (S : St) (K : St → Prop) : Prop :=
  match evQ Γ o S with
  | some (p, v) => p ∧ K (S.put o.dst v)
  | none => vcEff Γ o S K

def vcOps (Γ : Nat → Con) : List XOper → St → (St → Prop) → Prop
  | [], S, K => K S
  | o :: l, S, K => vcOp Γ o S (fun S' => vcOps Γ l S' K)

def dstOk (N : Nat) : Option Nat → Bool
  | none => true
  | some d => d < N

def xopsL (P : Program) (all : Array Oper) (N : Nat) : List Oper → Option (List XOper)
  | [] => some []
  | o :: l => match xop P all o with
    | some x => if dstOk N x.dst then (match xopsL P all N l with
      | some xs => some (x :: xs)
      | none => none) else none
    | none => none

end Go.Sx
