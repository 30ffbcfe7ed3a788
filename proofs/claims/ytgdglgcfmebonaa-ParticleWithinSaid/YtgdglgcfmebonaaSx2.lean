/- A part of the proof of a statement about this seat: how a function is stepped through, and plain laws. No conditions. -/
import Derived.Test.YtgdglgcfmebonaaSx1
import Derived.Laws.StructEq
set_option linter.unusedVariables false
set_option linter.unusedSimpArgs false
namespace Go.Sx
open Go.RowKit

/-- An operand. -/
inductive XO where
  | t (i : Nat)
  | k (v : Value)

def XO.val (a : Act) : XO → Value
  | .t i => a.tmps.getD i undef
  | .k v => v

def xo : Operand → XO
  | .tmp i => .t i
  | .const v => .k v
  | .global g => .k (.pointer (some ⟨g, 0, none⟩))
  | .func f => .k (.func (.func f) #[] #[])

theorem xo_val (a : Act) (x : Operand) : (xo x).val a = a.eval x := by cases x <;> rfl

/-- The kinds of the cells of a type that '==' compares cell by cell. -/
inductive LK where
  | i (k : IntKind)
  | b
  deriving DecidableEq

inductive XOp where
  | mv
  | pick
  | box (ty : TypeId)
  | alloc (ty : TypeId) (z : List Value)
  | build (z : List Value) (pl : List (Nat × Nat))
  | load1
  | loadN (n : Nat)
  | store (n : Nat)
  | fld (off : Nat)
  | part1 (off : Nat)
  | partN (off n : Nat)
  | ix1 (len sz : Nat)
  | ixN (len sz : Nat)
  | ixA (len sz : Nat)
  | ixS (sz : Nat)
  | bin (op : BinOp)
  | binb (op : BinOp)
  | eqA (neg : Bool) (ks : List LK)
  | un (op : UnOp)
  | conv (k : IntKind)
  | ext (i : Nat)
  | call (f : Nat)
  | callv
  | minI
  | maxI
  | lenS
  | nilc
  | slit (ty : TypeId) (len sz : Nat) (z : List Value) (pl : List (Nat × Nat))
  | mks (ty : TypeId) (sz bytes : Nat) (z : List Value)
  | slc (sz : Nat) (lo hi mx : Bool)
  | app (ty : TypeId) (sz bytes : Nat)
  | isnil (neg : Bool)
  | other

structure XOper where
  dst : Option Nat
  op : XOp
  args : List XO
  guard : Option (Nat × Bool)

def isAggD : TypeDesc → Bool
  | .struct _ => true
  | .array _ _ => true
  | _ => false

def leavesFs (P : Program) (rc : TypeId → Option (List LK)) : List Field → Nat → Option (List LK)
  | [], _ => some []
  | f :: fs, off =>
    if f.name = "_" ∨ f.offset ≠ off then none else
    match rc f.type, P.info? f.type with
    | some l, some i => if i.size = l.length ∧ 0 < l.length then (match leavesFs P rc fs (off + l.length) with
      | some ls => some (l ++ ls)
      | none => none) else none
    | _, _ => none

/-- The leaves of a type that is compared cell by cell. -/
def leaves (P : Program) : Nat → TypeId → Option (List LK)
  | 0, _ => none
  | d + 1, t =>
    match P.underlying t with
    | some (.int k) => some [.i k]
    | some .bool => some [.b]
    | some (.struct fs) => if P.stoodInHeld t then none else leavesFs P (leaves P d) fs.toList 0
    | _ => none

def zrep (z : List Value) (n : Nat) : List Value := (List.range n).map fun i => z.toArray[i % z.length]!

def xop1 (P : Program) (op : Op) : Option (XOp × List XO) :=
  match op with
  | .move x => some (.mv, [xo x])
  | .assign x => some (.mv, [xo x])
  | .pick c a b => some (.pick, [xo c, xo a, xo b])
  | .box ty x => some (.box ty, [xo x])
  | .alloc ty => match (P.info? ty).bind (·.zero) with
    | some z => some (.alloc ty z.cells.toList, [])
    | none => none
  | .load t x => match P.underlying t with
    | some d => if isAggD d then (match P.info? t with | some i => some (.loadN i.size, [xo x]) | none => none) else some (.load1, [xo x])
    | none => none
  | .store t x y => match P.info? t with
    | some i => some (.store i.size, [xo x, xo y])
    | none => none
  | .fieldAddr s x f => match P.underlying s with
    | some (.struct fs) => match fs[f]? with
      | some fd => match P.info? fd.type with
        | some i => if i.size = 0 then none else some (.fld fd.offset, [xo x])
        | none => none
      | none => none
    | _ => none
  | .field s x f => match P.underlying s with
    | some (.struct fs) => match fs[f]? with
      | some fd => match P.underlying fd.type with
        | some d => if isAggD d then (match P.info? fd.type with | some i => some (.partN fd.offset i.size, [xo x]) | none => none) else some (.part1 fd.offset, [xo x])
        | none => none
      | none => none
    | _ => none
  | .index t x i => match P.underlying t with
    | some (.array len e) => match P.underlying e, P.info? e with
      | some d, some inf => if isAggD d then some (.ixN len inf.size, [xo x, xo i]) else some (.ix1 len inf.size, [xo x, xo i])
      | _, _ => none
    | _ => none
  | .indexAddr t x i => match P.underlying t with
    | some (.array len e) => match P.info? e with
      | some inf => some (.ixA len inf.size, [xo x, xo i])
      | none => none
    | some (.slice e) => match P.info? e with
      | some inf => some (.ixS inf.size, [xo x, xo i])
      | none => none
    | _ => none
  | .build t parts => match P.underlying t, (P.info? t).bind (·.zero) with
    | some (.struct fs), some z =>
      if fs.all (fun f => (P.info? f.type).isSome) then
        if parts.all (fun p => p.1 < fs.size) then
          some (.build z.cells.toList (parts.toList.map fun p => ((fs.getD p.1 default).offset, P.cellsOf (fs.getD p.1 default).type)), parts.toList.map fun p => xo p.2)
        else none
      else none
    | some (.array _ e), some z =>
      if (P.info? e).isSome then some (.build z.cells.toList (parts.toList.map fun p => (p.1 * P.cellsOf e, P.cellsOf e)), parts.toList.map fun p => xo p.2) else none
    | _, _ => none
  | .binOp op t x y _ => match P.underlying t with
    | some (.int _) => some (.bin op, [xo x, xo y])
    | some .bool => some (.binb op, [xo x, xo y])
    | some (.slice _) => match op, y with
      | .eql, .const (.slice none 0 0) => some (.isnil false, [xo x])
      | .neq, .const (.slice none 0 0) => some (.isnil true, [xo x])
      | _, _ => none
    | some (.struct _) => match leaves P 20 t with
      | some ks => if P.eqGuardType P.depth t then none else match op with
        | .eql => some (.eqA false ks, [xo x, xo y])
        | .neq => some (.eqA true ks, [xo x, xo y])
        | _ => none
      | none => none
    | _ => none
  | .unOp op _ x => some (.un op, [xo x])
  | .convert s t x => match P.underlying s, P.underlying t with
    | some (.int _), some (.int k) => some (.conv k, [xo x])
    | _, _ => none
  | .extract x i => some (.ext i, [xo x])
  | .nilCheck x => some (.nilc, [xo x])
  | .call c => match c.callee with
    | .value (.func f) => match P.funcs[f]? with
      | some fn => if fn.body.isSome && !(fn.name == "runtime.NumGoroutine") then some (.call f, c.args.toList.map xo) else none
      | none => none
    | .value (.tmp i) => some (.callv, .t i :: c.args.toList.map xo)
    | .builtin .min => some (.minI, c.args.toList.map xo)
    | .builtin .max => some (.maxI, c.args.toList.map xo)
    | .builtin .len => match c.argTypes.toList, c.args.toList with
      | [t], [x] => match P.underlying t with
        | some (.slice _) => some (.lenS, [xo x])
        | _ => none
      | _, _ => none
    | .builtin .append => match c.argTypes.toList, c.args.toList with
      | [t, tx], [s, x] => match P.underlying t, P.underlying tx with
        | some (.slice e), some (.slice _) => match P.info? e with
          | some i => if 0 < i.bytes ∧ i.bytes ≤ 256 ∧ 0 < i.size then (match i.zero with
            | some z => if z.cells.size = i.size then some (.app e i.size i.bytes, [xo s, xo x]) else none
            | none => none) else none
          | none => none
        | _, _ => none
      | _, _ => none
    | _ => none
  | .buildSlice t len parts => match P.underlying t with
    | some (.slice e) => match P.info? e with
      | some i => match i.zero with
        | some z => if len * i.size ≤ 16777216 ∧ 0 < i.size then some (.slit e len i.size (zrep z.cells.toList (len * i.size)) (parts.toList.map fun p => (p.1 * i.size, i.size)), parts.toList.map fun p => xo p.2) else none
        | none => none
      | none => none
    | _ => none
  | .makeSlice t l c => match P.underlying t with
    | some (.slice e) => match P.info? e with
      | some i => match i.zero with
        | some z => if z.cells.size = i.size ∧ 0 < i.size then some (.mks e i.size i.bytes z.cells.toList, [xo l, xo c]) else none
        | none => none
      | none => none
    | _ => none
  | .slice t x lo hi mx => match P.underlying t with
    | some (.slice e) => match P.info? e with
      | some i => some (.slc i.size lo.isSome hi.isSome mx.isSome, xo x :: (lo.toList ++ hi.toList ++ mx.toList).map xo)
      | none => none
    | _ => none
  | .panic _ => some (.other, [])
  | .makeInterface _ _ => some (.other, [])
  | _ => none

def xop (P : Program) (ops : Array Oper) (o : Oper) : Option XOper :=
  match xop1 P o.op with
  | none => none
  | some (op, args) =>
    match o.guard with
    | none => some ⟨o.dst, op, args, none⟩
    | some (j, want) => match (ops[j]?).bind (·.dst) with
      | some d => some ⟨o.dst, op, args, some (d, want)⟩
      | none => none

/-- Cells written over others from place 'o' on. -/
def setAt {α : Type} : List α → Nat → List α → List α
  | cs, 0, [] => cs
  | [], 0, _ :: _ => []
  | _ :: cs, 0, x :: xs => x :: setAt cs 0 xs
  | [], _ + 1, _ => []
  | c :: cs, o + 1, xs => c :: setAt cs o xs

def fillS : List SC → List (Nat × Nat) → List S1 → Option (List SC)
  | cs, [], [] => some cs
  | cs, (o, n) :: pl, x :: xs => if x.cells.length = n ∧ o + n ≤ cs.length then fillS (setAt cs o x.cells) pl xs else none
  | _, _, _ => none

/-- The cells j .. j+m-1 of element e. -/
def ups (f : Nat → Nat → SC) (e j : Nat) : Nat → List SC
  | 0 => []
  | m + 1 => f e j :: ups f e (j + 1) m

def takeAt {α : Type} : List α → Nat → Nat → List α
  | _, _, 0 => []
  | [], _, _ + 1 => []
  | c :: cs, 0, m + 1 => c :: takeAt cs 0 m
  | _ :: cs, j + 1, m + 1 => takeAt cs j (m + 1)

def nth {α : Type} : List α → Nat → Option α
  | [], _ => none
  | c :: _, 0 => some c
  | _ :: cs, j + 1 => nth cs j

def bitI (op : BinOp) (k : IntKind) (x y : Int) : Int :=
  match op with
  | .and => k.wrap ((BitVec.ofInt k.bits x &&& BitVec.ofInt k.bits y).toNat)
  | .or => k.wrap ((BitVec.ofInt k.bits x ||| BitVec.ofInt k.bits y).toNat)
  | .xor => k.wrap ((BitVec.ofInt k.bits x ^^^ BitVec.ofInt k.bits y).toNat)
  | _ => k.wrap ((BitVec.ofInt k.bits x &&& ~~~ BitVec.ofInt k.bits y).toNat)

def binI (op : BinOp) (k : IntKind) (x y : Int) : Option (Prop × Value) :=
  match op with
  | .add => some (True, .int k (k.wrap (x + y)))
  | .sub => some (True, .int k (k.wrap (x - y)))
  | .mul => some (True, .int k (k.wrap (x * y)))
  | .quo => some (y ≠ 0, .int k (k.wrap (x.tdiv y)))
  | .rem => some (y ≠ 0, .int k (x.tmod y))
  | .eql => some (True, .bool (x == y))
  | .neq => some (True, .bool (x != y))
  | .lss => some (True, .bool (decide (x < y)))
  | .leq => some (True, .bool (decide (x ≤ y)))
  | .gtr => some (True, .bool (decide (y < x)))
  | .geq => some (True, .bool (decide (y ≤ x)))
  | .shl => some (0 ≤ y, .int k (k.wrap (x * 2 ^ (min y.toNat k.bits))))
  | .shr => some (0 ≤ y, .int k (x.fdiv (2 ^ (min y.toNat k.bits))))
  | .and => some (True, .int k (bitI .and k x y))
  | .or => some (True, .int k (bitI .or k x y))
  | .xor => some (True, .int k (bitI .xor k x y))
  | .andNot => some (True, .int k (bitI .andNot k x y))

def eqC : LK → SC → SC → Option Bool
  | .i k, .v (.int k1 x), .v (.int k2 y) => if k1 = k ∧ k2 = k then some (x == y) else none
  | .b, .v (.bool x), .v (.bool y) => some (x == y)
  | _, _, _ => none

def eqCells : List LK → List SC → List SC → Option Bool
  | [], [], [] => some true
  | k :: ks, x :: xs, y :: ys => match eqC k x y with
    | some b1 => match eqCells ks xs ys with
      | some b => some (b1 && b)
      | none => none
    | none => none
  | _, _, _ => none

def isShift : BinOp → Bool
  | .shl => true
  | .shr => true
  | _ => false

def boxOf (E : Nat → Option Ent) (i : Nat) : Option (List SC) :=
  match E i with
  | some (.box cs _) => some cs
  | _ => none
def rowOf (E : Nat → Option Ent) (i : Nat) : Option (Nat × Nat × (Nat → Nat → SC)) :=
  match E i with
  | some (.ro n sz f) => some (n, sz, f)
  | some (.own n sz f _) => some (n, sz, f)
  | some .nils => some (0, 0, fun _ _ => .v (.bool false))
  | _ => none
/-- A slice's length and cells; also of the slice without a place. -/
def rowV (E : Nat → Option Ent) : S1 → Option (Nat × Nat × (Nat → Nat → SC))
  | .c (.n i) => rowOf E i
  | .c (.v (.slice none 0 0)) => some (0, 0, fun _ _ => .v (.bool false))
  | _ => none

def SC.ok : SC → Bool
  | .v x => x.oneCell'
  | _ => true
def S1.ok : S1 → Bool
  | .c x => x.ok
  | .a _ => true
def oks : List S1 → Bool
  | [] => true
  | x :: xs => x.ok && oks xs
def okcs : List SC → Bool
  | [] => true
  | x :: xs => x.ok && okcs xs

def qMv : List S1 → Option (Prop × S1)
  | [x] => some (True, x)
  | _ => none
def qBuild (z : List Value) (pl : List (Nat × Nat)) (xs : List S1) : Option (Prop × S1) :=
  match fillS (z.map .v) pl xs with
  | some cs => some (oks xs = true, .a cs)
  | none => none
def qLoad1 (E : Nat → Option Ent) : List S1 → Option (Prop × S1)
  | [.c (.p i j)] => match boxOf E i with
    | some cs => match nth cs j with
      | some x => some (True, .c x)
      | none => none
    | none => none
  | [.c (.q i sz e j)] => match rowOf E i with
    | some (n, sz', f) => some (sz = sz' ∧ e < n ∧ j < sz, .c (f e j))
    | none => none
  | _ => none
def qLoadN (E : Nat → Option Ent) (m : Nat) : List S1 → Option (Prop × S1)
  | [.c (.p i j)] => match boxOf E i with
    | some cs => some (j + m ≤ cs.length, .a (takeAt cs j m))
    | none => none
  | [.c (.q i sz e j)] => match rowOf E i with
    | some (n, sz', f) => some (sz = sz' ∧ e < n ∧ j + m ≤ sz, .a (ups f e j m))
    | none => none
  | _ => none
def qFld (off : Nat) : List S1 → Option (Prop × S1)
  | [.c (.p i j)] => some (True, .c (.p i (j + off)))
  | [.c (.q i sz e j)] => some (True, .c (.q i sz e (j + off)))
  | _ => none
def qPart1 (off : Nat) : List S1 → Option (Prop × S1)
  | [.a cs] => match nth cs off with
    | some x => some (True, .c x)
    | none => none
  | _ => none
def qPartN (off n : Nat) : List S1 → Option (Prop × S1)
  | [.a cs] => some (off + n ≤ cs.length, .a (takeAt cs off n))
  | _ => none
def qIx1 (len sz : Nat) : List S1 → Option (Prop × S1)
  | [.a cs, .c (.v (.int _ i))] => match nth cs (i.toNat * sz) with
    | some x => some (0 ≤ i ∧ i < len, .c x)
    | none => none
  | _ => none
def qIxN (len sz : Nat) : List S1 → Option (Prop × S1)
  | [.a cs, .c (.v (.int _ i))] => some (0 ≤ i ∧ i < len ∧ i.toNat * sz + sz ≤ cs.length, .a (takeAt cs (i.toNat * sz) sz))
  | _ => none
def qIxA (len sz : Nat) : List S1 → Option (Prop × S1)
  | [.c (.p i j), .c (.v (.int _ x))] => some (0 ≤ x ∧ x < len, .c (.p i (j + x.toNat * sz)))
  | _ => none
def qIxS (E : Nat → Option Ent) (sz : Nat) : List S1 → Option (Prop × S1)
  | [.c (.n i), .c (.v (.int _ x))] => match rowOf E i with
    | some (n, sz', _) => some (sz = sz' ∧ 0 ≤ x ∧ x < n, .c (.q i sz x.toNat 0))
    | none => none
  | _ => none
def qBin (op : BinOp) : List S1 → Option (Prop × S1)
  | [.c (.v (.int k x)), .c (.v (.int k' y))] => if isShift op = true ∨ k = k' then (match binI op k x y with
    | some (p, v) => some (p, .c (.v v))
    | none => none) else none
  | _ => none
def qBinb (op : BinOp) : List S1 → Option (Prop × S1)
  | [.c (.v (.bool x)), .c (.v (.bool y))] => match op with
    | .eql => some (True, .c (.v (.bool (x == y))))
    | .neq => some (True, .c (.v (.bool (!(x == y)))))
    | _ => none
  | _ => none
def qEqA (neg : Bool) (ks : List LK) : List S1 → Option (Prop × S1)
  | [.a xs, .a ys] => match eqCells ks xs ys with
    | some b => some (True, .c (.v (.bool (if neg then !b else b))))
    | none => none
  | _ => none
def qUn (op : UnOp) : List S1 → Option (Prop × S1)
  | [.c (.v (.int k n))] => match op with
    | .neg => some (True, .c (.v (.int k (k.wrap (0 - n)))))
    | _ => none
  | [.c (.v (.bool b))] => match op with
    | .not => some (True, .c (.v (.bool (!b))))
    | _ => none
  | _ => none
def qConv (k : IntKind) : List S1 → Option (Prop × S1)
  | [.c (.v (.int _ n))] => some (True, .c (.v (.int k (k.wrap n))))
  | _ => none
def qMin : List S1 → Option (Prop × S1)
  | [.c (.v (.int k x)), .c (.v (.int _ y))] => some (True, .c (.v (.int k (min x y))))
  | _ => none
def qMax : List S1 → Option (Prop × S1)
  | [.c (.v (.int k x)), .c (.v (.int _ y))] => some (True, .c (.v (.int k (max x y))))
  | _ => none
def qLenS (E : Nat → Option Ent) : List S1 → Option (Prop × S1)
  | [x] => match rowV E x with
    | some (n, _, _) => some (True, .c (.v (.int .i64 n)))
    | none => none
  | _ => none
def qNil : List S1 → Option (Prop × S1)
  | [.c (.p i j)] => some (True, .c (.p i j))
  | [.c (.q i sz e j)] => some (True, .c (.q i sz e j))
  | [.c (.v (.func (.func f) x y))] => some (True, .c (.v (.func (.func f) x y)))
  | _ => none

/-- The operations that neither write nor call. -/
def opQ (E : Nat → Option Ent) : XOp → List S1 → Option (Prop × S1)
  | .mv => qMv
  | .build z pl => qBuild z pl
  | .load1 => qLoad1 E
  | .loadN m => qLoadN E m
  | .fld off => qFld off
  | .part1 off => qPart1 off
  | .partN off n => qPartN off n
  | .ix1 len sz => qIx1 len sz
  | .ixN len sz => qIxN len sz
  | .ixA len sz => qIxA len sz
  | .ixS sz => qIxS E sz
  | .bin op => qBin op
  | .binb op => qBinb op
  | .eqA neg ks => qEqA neg ks
  | .un op => qUn op
  | .conv k => qConv k
  | .minI => qMin
  | .maxI => qMax
  | .lenS => qLenS E
  | .nilc => qNil
  | .pick => fun _ => none
  | .box _ => fun _ => none
  | .alloc _ _ => fun _ => none
  | .store _ => fun _ => none
  | .ext _ => fun _ => none
  | .call _ => fun _ => none
  | .callv => fun _ => none
  | .slit .. => fun _ => none
  | .mks .. => fun _ => none
  | .slc .. => fun _ => none
  | .app .. => fun _ => none
  | .isnil _ => fun _ => none
  | .other => fun _ => none

end Go.Sx
