/- A part of the proof of a statement about this seat: how a function is stepped through, and plain laws. No conditions. -/
import Derived.Test.YtgdglgcfmebonaaSx23
import Derived.Deep.LoopGhost
set_option linter.unusedVariables false
set_option linter.unusedSimpArgs false
namespace Go.Sx
open Go.RowKit

inductive XC where
  | skip
  | reg (draw : Bool) (ops : List XOper)
  | regD (ops : List XOper) (preds : List (List Nat))
  | seq (x y : XC)
  | cond (c : XO) (x y : XC)
  | block (id : Nat) (x : XC)
  | loop (x : XC)
  | exit (id : Nat)
  | ret

def addN (l : List Nat) (m : List Nat) : List Nat := l.foldl (fun m i => if memN i m then m else m ++ [i]) m
def predsGo : List Oper → List (List Nat) → List (List Nat)
  | [], acc => acc
  | o :: l, acc => predsGo l (acc ++ [o.after.toList.foldl (fun m e => if Region.binds .any e then addN (e.on :: acc.getD e.on []) m else m) []])

/-- A cell of such a type leads to memory ('res': also a slice counts). -/
def leafRef (P : Program) (res : Bool) (t : TypeId) : Bool :=
  match P.underlying t with
  | some (.int _) => false
  | some .bool => false
  | some .string => false
  | some (.slice _) => res
  | some (.func ..) => false
  | _ => true
def refT (P : Program) (res : Bool) (t : TypeId) : Bool :=
  match P.cellTypes P.depth t with
  | some ts => ts.any (leafRef P res)
  | none => true
/-- By its types the function neither writes nor makes memory that stays. -/
def quietC (P : Program) (f : Nat) : Bool :=
  match P.funcs[f]? with
  | some fn => !(fn.params.any (refT P false)) && !(fn.resultTypes.any (refT P true))
  | none => false
def quietX (P : Program) (x : XOper) : Bool :=
  match x.op with
  | .box _ => false
  | .alloc _ _ => false
  | .store _ => false
  | .slit .. => false
  | .mks .. => false
  | .slc .. => false
  | .app .. => false
  | .call f => quietC P f
  | _ => true

def xcode (P : Program) (N : Nat) : Code → Option XC
  | .skip => some .skip
  | .region _ ops draw => match xopsL P ops N ops.toList with
    | some l => if draw then (if l.all (quietX P) then (if P.follows .mixedOrders && Region.lexB .any ops then some (.reg true l) else none)
      else (if P.follows .mixedOrders && (predsOk ops (predsGo ops.toList []) && edgesOk ops) then some (.regD l (predsGo ops.toList [])) else none)) else some (.reg false l)
    | none => none
  | .seq a b => match xcode P N a with
    | some x => match xcode P N b with
      | some y => some (.seq x y)
      | none => none
    | none => none
  | .cond c a b => match xcode P N a with
    | some x => match xcode P N b with
      | some y => some (.cond (xo c) x y)
      | none => none
    | none => none
  | .block id a => match xcode P N a with
    | some x => some (.block id x)
    | none => none
  | .loop a => match xcode P N a with
    | some x => some (.loop x)
    | none => none
  | .exit id => some (.exit id)
  | .ret => some .ret
  | _ => none

inductive XE where
  | norm
  | ex (id : Nat)
  | ret

/-- How the code goes on. -/
abbrev Kont := XE → St → Prop

def XE.ofExit : Exit → Option XE
  | .normal => some .norm
  | .exit id => some (.ex id)
  | .ret => some .ret
  | _ => none

/-- The operations of a region whose order is open: all quiet. -/
def vcOpsQ (Γ : Nat → Con) : List XOper → St → (St → Prop) → Prop
  | [], S, K => K S
  | o :: l, S, K => match evQ Γ o S with
    | some (p, v) => p ∧ vcOpsQ Γ l (S.put o.dst v) K
    | none => False

def kSeq (k : St → Prop) (K : Kont) : Kont
  | .norm, S => k S
  | .ex i, S => K (.ex i) S
  | .ret, S => K .ret S

def kBlock (id : Nat) (K : Kont) : Kont
  | .ex j, S => if j = id then K .norm S else K (.ex j) S
  | .norm, S => K .norm S
  | .ret, S => K .ret S

def scL (m : Nat → Prop) : List SC → Prop
  | [] => True
  | x :: l => x.sc m ∧ scL m l
def sc1 (m : Nat → Prop) : S1 → Prop
  | .c x => x.sc m
  | .a cs => scL m cs
def sc1L (m : Nat → Prop) : List S1 → Prop
  | [] => True
  | x :: l => sc1 m x ∧ sc1L m l
def scV (m : Nat → Prop) : SV → Prop
  | .o x => sc1 m x
  | .t xs => sc1L m xs
  | .g _ x => sc1 m x
def scEnv (m : Nat → Prop) : List (Nat × SV) → Prop
  | [] => True
  | (_, v) :: l => scV m v ∧ scEnv m l
def scF (m : Nat → Prop) (f : Nat → Nat → SC) : Prop := ∀ e j, (f e j).sc m
def scE (m : Nat → Prop) : Ent → Prop
  | .box cs _ => scL m cs
  | .ro _ _ f => scF m f
  | .own _ _ f _ => scF m f
  | .nils => True
  | .dead => True
def scEnt (m : Nat → Prop) : List (Nat × Ent) → Prop
  | [] => True
  | (i, v) :: l => m i ∧ scE m v ∧ scEnt m l

/-! ### A state that says less, under other names -/

abbrev Bnd := List (Nat × SC)
def SC.sub (b : Bnd) : SC → SC
  | .v x => .v x
  | .n i => match lk b i with
    | some c => c
    | none => .n i
  | .p i j => match lk b i with
    | some (.n k) => .p k j
    | some (.v V) => .v (.pointer (some ⟨(addrOf V).block, (addrOf V).off + j, none⟩))
    | _ => .p i j
  | .q i sz e j => match lk b i with
    | some (.n k) => .q k sz e j
    | some (.v V) => .v (.pointer (some ⟨(addrOf V).block, (addrOf V).off + (e * sz + j), none⟩))
    | _ => .q i sz e j
def subL (b : Bnd) : List SC → List SC
  | [] => []
  | x :: l => x.sub b :: subL b l
def S1.sub (b : Bnd) : S1 → S1
  | .c x => .c (x.sub b)
  | .a cs => .a (subL b cs)
def sub1L (b : Bnd) : List S1 → List S1
  | [] => []
  | x :: l => x.sub b :: sub1L b l
def SV.sub (b : Bnd) : SV → SV
  | .o x => .o (x.sub b)
  | .t xs => .t (sub1L b xs)
  | .g c x => .g c (x.sub b)

def bindC : SC → SC → Bnd
  | .n i, .n k => [(i, .n k)]
  | .n i, .v x => [(i, .v x)]
  | .p i _, .p k _ => [(i, .n k)]
  | .q i _ _ _, .q k _ _ _ => [(i, .n k)]
  | _, _ => []
def bindL : List SC → List SC → Bnd
  | x :: l, y :: k => bindC x y ++ bindL l k
  | _, _ => []
def bind1 : S1 → S1 → Bnd
  | .c x, .c y => bindC x y
  | .a xs, .a ys => bindL xs ys
  | _, _ => []
def bind1L : List S1 → List S1 → Bnd
  | x :: l, y :: k => bind1 x y ++ bind1L l k
  | _, _ => []
def bindV : SV → SV → Bnd
  | .o x, .o y => bind1 x y
  | .t xs, .t ys => bind1L xs ys
  | .g _ x, .g _ y => bind1 x y
  | _, _ => []
def bindEnv (env : List (Nat × SV)) : List (Nat × SV) → Bnd
  | [] => []
  | (s, v) :: l => (match lk env s with | some x => bindV v x | none => []) ++ bindEnv env l
def imgB (b : Bnd) (i : Nat) : Option Nat :=
  match lk b i with
  | some (.n k) => some k
  | some _ => none
  | none => some i
def bindEnt (ents : List (Nat × Ent)) (b : Bnd) : List (Nat × Ent) → Bnd
  | [] => []
  | (i, .box cs _) :: l => (match imgB b i with
    | some k => match lk ents k with
      | some (.box cs' _) => bindL cs cs'
      | _ => []
    | none => []) ++ bindEnt ents b l
  | _ :: l => bindEnt ents b l
/-- The names that are old stay; the others stand for names, or for values. -/
def bndOk (n0 : Nat) : Bnd → Prop
  | [] => True
  | (i, .n k) :: l => (i < n0 → k = i) ∧ bndOk n0 l
  | (i, .v V) :: l => n0 ≤ i ∧ V.oneCell' = true ∧ bndOk n0 l
  | _ :: _ => False

def rowEq (n sz : Nat) (f f' : Nat → Nat → SC) (τ : SC → SC) : Prop := ∀ e j, e < n → j < sz → f e j = τ (f' e j)
def mapEq (τ : SC → SC) : List SC → List SC → Prop
  | [], [] => True
  | x :: l, y :: k => x = τ y ∧ mapEq τ l k
  | _, _ => False
/-- The second says less than the first, its names turned. -/
def leE (τ : SC → SC) : Ent → Ent → Prop
  | .box cs ty, .box cs' ty' => ty = ty' ∧ mapEq τ cs cs'
  | .ro n sz f, .ro n' sz' f' => n = n' ∧ (n = 0 ∨ sz = sz') ∧ rowEq n sz f f' τ
  | .own n sz f ty, .own n' sz' f' ty' => n = n' ∧ sz = sz' ∧ ty = ty' ∧ rowEq n sz f f' τ
  | .own n sz f _, .ro n' sz' f' => n = n' ∧ (n = 0 ∨ sz = sz') ∧ rowEq n sz f f' τ
  | .nils, .own n' _ _ _ => n' = 0
  | .nils, .ro n' _ _ => n' = 0
  | .nils, .nils => True
  | _, .dead => True
  | _, _ => False
def nilE : Ent → Prop
  | .own n _ _ _ => n = 0
  | .ro n _ _ => n = 0
  | .nils => True
  | .dead => True
  | _ => False
def leEnv (b : Bnd) (env : List (Nat × SV)) : List (Nat × SV) → Prop
  | [] => True
  | (s, v) :: l => lk env s = some (v.sub b) ∧ leEnv b env l
def leAt (b : Bnd) (ents : List (Nat × Ent)) (i : Nat) (e' : Ent) : Prop :=
  match lk b i with
  | some (.v (.slice none 0 0)) => nilE e'
  | _ => match imgB b i with
    | some k => match lk ents k with
      | some e => leE (SC.sub b) e e'
      | none => False
    | none => False
def leEnt (b : Bnd) (ents : List (Nat × Ent)) : List (Nat × Ent) → Prop
  | [] => True
  | (i, e') :: l => leAt b ents i e' ∧ leEnt b ents l
def outN (i : Nat) : List Nat → Prop
  | [] => True
  | j :: l => j ≠ i ∧ outN i l
/-- The pieces' images are apart. -/
def imgs (b : Bnd) : List (Nat × Ent) → List Nat
  | [] => []
  | (_, .dead) :: l => imgs b l
  | (i, _) :: l => (match imgB b i with | some k => [k] | none => []) ++ imgs b l
def nodupN : List Nat → Prop
  | [] => True
  | i :: l => outN i l ∧ nodupN l

/-- The second state says less than the first. -/
def LeB (n0 : Nat) (S S' : St) (b : Bnd) : Prop :=
  bndOk n0 b ∧ leEnv b S.env S'.env ∧ leEnt b S.ents S'.ents ∧ nodupN (imgs b S'.ents) ∧ n0 ≤ S'.next ∧ scEnv (upto S'.next) S'.env ∧ scEnt (upto S'.next) S'.ents
def bndOf (S S' : St) : Bnd := bindEnv S.env S'.env ++ bindEnt S.ents (bindEnv S.env S'.env) S'.ents
def Le (n0 : Nat) (S S' : St) : Prop := LeB n0 S S' (bndOf S S')

def kLoop {α : Type} (n0 : Nat) (I : α → St) (μ : α → Nat) (x : α) (K : Kont) : Kont
  | .norm, S => ∃ y, Le n0 S (I y) ∧ μ y < μ x
  | .ex i, S => K (.ex i) S
  | .ret, S => K .ret S

def vcLoop (n0 : Nat) (B : Kont → St → Prop) (S : St) (K : Kont) : Prop :=
  ∃ (α : Type) (I : α → St) (μ : α → Nat) (x : α), Le n0 S (I x) ∧ ∀ x, B (kLoop n0 I μ x K) (I x)

def vcCond (S : St) (x y : Prop) : Option (Prop × S1) → Prop
  | some (p, .c (.v (.bool b))) => p ∧ (b = true → x) ∧ (b = false → y)
  | _ => False

def vcC (Γ : Nat → Con) (n0 : Nat) : XC → Kont → St → Prop
  | .skip, K, S => K .norm S
  | .reg d l, K, S => match d with
    | true => vcOpsQ Γ l S (K .norm)
    | false => vcOps Γ l (K .norm) S
  | .regD l ps, K, S => vcD Γ ps l S (K .norm)
  | .seq x y, K, S => vcC Γ n0 x (kSeq (vcC Γ n0 y K) K) S
  | .cond c x y, K, S => vcCond S (vcC Γ n0 x K S) (vcC Γ n0 y K S) (rd S.env c)
  | .block id x, K, S => vcC Γ n0 x (kBlock id K) S
  | .loop x, K, S => vcLoop n0 (vcC Γ n0 x) S K
  | .exit id, K, S => K (.ex id) S
  | .ret, K, S => K .ret S

section
variable {P : Program} {base : World} {M : Scp} {N n0 : Nat} {r0 r : Rho} {S : St} {a : Act} {w : World}

variable (P base M N n0 r0) in
/-- The post: one of the ways that the symbolic run knows. -/
def Post (K : Kont) : Exit → Act → World → Prop :=
  fun e a' w' => ∃ x r' S', XE.ofExit e = some x ∧ K x S' ∧ Rel base M N n0 r0 r' S' a' w'

theorem replFalse (m j : Nat) : (Array.replicate m false).getD j false = false := by
  rcases Nat.lt_or_ge j m with h | h
  · simp [h]
  · simp [h]

theorem xl_at {Γ : Nat → Con} {l : List XOper} {c c' : Nat} {S S' : St} {ts : List Rec} (h : Run Γ l c S ts c' S') {k : Nat} {t : Rec} (ht : ts[k]? = some t) : ∃ x, l[k]? = some x := by
  have hlen := h.len
  have hk := (List.getElem?_eq_some_iff.1 ht).1
  exact ⟨l[k]'(by omega), List.getElem?_eq_getElem (by omega)⟩

theorem HeapRel.drew {E : Nat → Option Ent} (h : HeapRel base M r E w) : HeapRel base M r E { w with drawn := w.drawn + 1 } :=
  h.below ⟨rfl, rfl, rfl, Nat.le_refl _, fun _ _ => rfl⟩

theorem quiet_list {Γ : Nat → Con} {ops : Array Oper} (hΓ : ∀ f, COk P f (Γ f)) : ∀ (l : List Oper) (xl : List XOper) (S : St) (a : Act) (K : St → Prop), xopsL P ops N l = some xl → vcOpsQ Γ xl S K →
    Rel base M N n0 r0 r S a w → wpQuiet P ops (HeapRel base M r (lk S.ents)) (fun a' => ∃ S', K S' ∧ S'.ents = S.ents ∧ Rel base M N n0 r0 r S' a' w) l a
  | [], xl, S, a, K, hx, h, hr => by
    simp only [xopsL, Option.some.injEq] at hx
    subst hx
    exact ⟨S, h, rfl, hr⟩
  | o :: l, xl, S, a, K, hx, h, hr => by
    simp only [xopsL] at hx
    split at hx
    · rename_i x hxo
      split at hx
      · rename_i hd
        split at hx
        · rename_i xs hxs
          cases hx
          simp only [vcOpsQ] at h
          split at h
          · rename_i p v he
            obtain ⟨gd, hg, hq⟩ := evQ_sound hΓ hxo he h.1 hr
            have hdo := (xop_parts hxo).2
            have hd' : ∀ s, o.dst = some s → s < N := by
              intro s hs
              rw [hdo, hs] at hd
              simpa [dstOk] using hd
            have hput := hr.put (d := o.dst) (v := v) hd' hq.sc
            rw [hdo] at h
            have ih := quiet_list hΓ l xs (S.put o.dst v) (a.put o.dst (v.den r)) K hxs h.2 hput
            have hents : (S.put o.dst v).ents = S.ents := by unfold St.put; split <;> rfl
            rw [hents] at ih
            unfold wpQuiet
            rw [hg]
            split
            · rename_i hgt
              exact ⟨v.den r, fun w' hw' => hq.yes hgt w' hw', ih⟩
            · rename_i hgt
              rw [hq.no (by simpa using hgt)] at ih
              exact ih
          · exact h.elim
        · cases hx
      · cases hx
    · cases hx

theorem seq_list {Γ : Nat → Con} {ops : Array Oper} (hΓ : ∀ f, COk P f (Γ f)) {K : Kont} : ∀ (l : List Oper) (xl : List XOper) (S : St) (r : Rho) (a : Act) (w : World), xopsL P ops N l = some xl → vcOps Γ xl (K .norm) S →
    Rel base M N n0 r0 r S a w → wpList P ops (Post base M N n0 r0 K) l a w
  | [], xl, S, r, a, w, hx, h, hr => by
    simp only [xopsL, Option.some.injEq] at hx
    subst hx
    exact ⟨.norm, r, S, rfl, h, hr⟩
  | o :: l, xl, S, r, a, w, hx, h, hr => by
    simp only [xopsL] at hx
    split at hx
    · rename_i x hxo
      split at hx
      · rename_i hd
        split at hx
        · rename_i xs hxs
          cases hx
          simp only [vcOps, vcOpK] at h
          have hd' : ∀ s, x.dst = some s → s < N := by
            intro s hs
            rw [hs] at hd
            simpa [dstOk] using hd
          have := vcOp_sound (Q := Post base M N n0 r0 K) (Next := wpList P ops (Post base M N n0 r0 K) l) hΓ hxo hd' h hr
            (fun r' S' a' w' hK hr' => seq_list hΓ l xs S' r' a' w' hxs hK hr')
          unfold wpList
          split
          · rename_i hg; rw [if_pos hg] at this; exact .inl this
          · rename_i hg; rw [if_neg hg] at this; exact this
        · cases hx
      · cases hx
    · cases hx

theorem wpQuiet_mono {ops : Array Oper} {C : World → Prop} {Q Q' : Act → Prop} (h : ∀ a, Q a → Q' a) : ∀ {l : List Oper} {a : Act}, wpQuiet P ops C Q l a → wpQuiet P ops C Q' l a
  | [], a, hq => h a hq
  | o :: l, a, hq => by
    unfold wpQuiet at hq ⊢
    split
    · rename_i hg; rw [if_pos hg] at hq; exact Oper.quiet_mono (fun a' ha' => wpQuiet_mono h ha') hq
    · rename_i hg; rw [if_neg hg] at hq; exact wpQuiet_mono h hq

theorem scL_sound {m : Nat → Prop} : ∀ {l : List SC}, scL m l → ∀ x ∈ l, x.sc m
  | [], _, x, h => by cases h
  | y :: l, hl, x, h => by
    cases h with
    | head => exact hl.1
    | tail _ hm => exact scL_sound hl.2 x hm
theorem sc1_sound {m : Nat → Prop} {x : S1} (h : sc1 m x) : x.sc m := by
  cases x with
  | c x => exact h
  | a cs => exact scL_sound h
theorem sc1L_sound {m : Nat → Prop} : ∀ {l : List S1}, sc1L m l → ∀ y ∈ l, y.sc m
  | [], _, y, hy => by cases hy
  | z :: l, hl, y, hy => by
    cases hy with
    | head => exact sc1_sound hl.1
    | tail _ hm => exact sc1L_sound hl.2 y hm
theorem scV_sound {m : Nat → Prop} {x : SV} (h : scV m x) : x.sc m := by
  cases x with
  | o x => exact sc1_sound h
  | g b x => exact sc1_sound h
  | t xs => exact sc1L_sound h
theorem scEnv_sound {m : Nat → Prop} : ∀ {l : List (Nat × SV)}, scEnv m l → ∀ s v, lk l s = some v → v.sc m
  | [], _, s, v, h => by cases h
  | (i, x) :: l, hl, s, v, h => by
    simp only [lk] at h
    split at h
    · cases h; exact scV_sound hl.1
    · exact scEnv_sound hl.2 s v h
theorem scE_sound {m : Nat → Prop} {x : Ent} (h : scE m x) : x.sc m := by
  cases x with
  | box cs ty => exact scL_sound h
  | ro n sz f => exact h
  | own n sz f ty => exact h
  | nils => trivial
  | dead => trivial
theorem scEnt_sound {m : Nat → Prop} : ∀ {l : List (Nat × Ent)}, scEnt m l → ∀ s v, lk l s = some v → m s ∧ v.sc m
  | [], _, s, v, h => by cases h
  | (i, x) :: l, hl, s, v, h => by
    simp only [lk] at h
    split at h
    · rename_i e; subst e; cases h; exact ⟨hl.1, scE_sound hl.2.1⟩
    · exact scEnt_sound hl.2.2 s v h

/-- The names' values, bound. -/
def subR (b : Bnd) (r : Rho) : Rho := fun i => match lk b i with | some c => c.den r | none => r i

theorem bndOk_at {n0 : Nat} : ∀ {b : Bnd}, bndOk n0 b → ∀ i c, lk b i = some c → (∃ k, c = .n k ∧ (i < n0 → k = i)) ∨ (∃ V, c = .v V ∧ n0 ≤ i ∧ V.oneCell' = true)
  | [], _, i, c, h => by cases h
  | (j, .n k) :: b, hb, i, c, h => by
    simp only [lk] at h
    split at h
    · rename_i e; subst e; cases h; exact .inl ⟨k, rfl, hb.1⟩
    · exact bndOk_at hb.2 i c h
  | (j, .v V) :: b, hb, i, c, h => by
    simp only [lk] at h
    split at h
    · rename_i e; subst e; cases h; exact .inr ⟨V, rfl, hb.1, hb.2.1⟩
    · exact bndOk_at hb.2.2 i c h
  | (j, .p _ _) :: b, hb, i, c, h => hb.elim
  | (j, .q _ _ _ _) :: b, hb, i, c, h => hb.elim

theorem SC.den_sub {n0 : Nat} {b : Bnd} (hb : bndOk n0 b) (r : Rho) (x : SC) : x.den (subR b r) = (x.sub b).den r := by
  cases x with
  | v x => rfl
  | n i =>
    simp only [SC.den, SC.sub, subR]
    cases lk b i with
    | none => rfl
    | some c => rfl
  | p i j =>
    simp only [SC.den, SC.sub, subR]
    cases h : lk b i with
    | none => rfl
    | some c => rcases bndOk_at hb i c h with ⟨k, rfl, _⟩ | ⟨V, rfl, _⟩ <;> rfl
  | q i sz e j =>
    simp only [SC.den, SC.sub, subR]
    cases h : lk b i with
    | none => rfl
    | some c => rcases bndOk_at hb i c h with ⟨k, rfl, _⟩ | ⟨V, rfl, _⟩ <;> rfl
theorem subL_eq (b : Bnd) : ∀ (l : List SC), subL b l = l.map (SC.sub b)
  | [] => rfl
  | x :: l => by simp [subL, subL_eq b l]
theorem sub1L_eq (b : Bnd) : ∀ (l : List S1), sub1L b l = l.map (S1.sub b)
  | [] => rfl
  | x :: l => by simp [sub1L, sub1L_eq b l]
theorem S1.den_sub {n0 : Nat} {b : Bnd} (hb : bndOk n0 b) (r : Rho) (x : S1) : x.den (subR b r) = (x.sub b).den r := by
  cases x with
  | c x => exact SC.den_sub hb r x
  | a cs =>
    simp only [S1.den, S1.sub, subL_eq, List.map_map]
    congr 2
    exact List.map_congr_left fun x _ => SC.den_sub hb r x
theorem SV.den_sub {n0 : Nat} {b : Bnd} (hb : bndOk n0 b) (r : Rho) (x : SV) : x.den (subR b r) = (x.sub b).den r := by
  cases x with
  | o x => exact S1.den_sub hb r x
  | g c x => simp only [SV.den, SV.sub]; rw [S1.den_sub hb r x]
  | t xs =>
    simp only [SV.den, SV.sub, sub1L_eq, List.map_map]
    congr 2
    exact List.map_congr_left fun x _ => S1.den_sub hb r x

theorem mapEq_map {τ : SC → SC} : ∀ {l k : List SC}, mapEq τ l k → l = k.map τ
  | [], [], _ => rfl
  | x :: l, y :: k, h => by rw [List.map_cons, h.1, mapEq_map h.2]
  | [], _ :: _, h => h.elim
  | _ :: _, [], h => h.elim

/-- What says less holds where what says more does. -/
theorem leE_rel {τ : SC → SC} {r' : Rho} {V : Value} (hτ : ∀ x, (τ x).den r = x.den r') : ∀ {e e' : Ent}, leE τ e e' → e.rel r w V → e'.rel r' w V
  | .box cs ty, .box cs' ty', ⟨h1, h2⟩, ⟨b, h3, h4⟩ => ⟨b, h3, by
      rw [mapEq_map h2, List.map_map] at h4
      rw [← h1]
      have : cs'.map (SC.den r') = cs'.map (SC.den r ∘ τ) := List.map_congr_left fun x _ => (hτ x).symm
      rw [this]; exact h4⟩
  | .ro n sz f, .ro n' sz' f', ⟨h1, h2, h3⟩, ⟨a, cap, g1, g2, g3, g4⟩ => by
    subst h1
    refine ⟨a, cap, g1, g2, g3, fun hn => ?_⟩
    obtain rfl : sz = sz' := h2.resolve_left (Nat.ne_of_gt hn)
    obtain ⟨b, o, k1, k2, k3⟩ := g4 hn
    exact ⟨b, o, k1, k2, fun e j he hj => by rw [k3 e j he hj, h3 e j he hj, hτ]⟩
  | .own n sz f ty, .own n' sz' f' ty', ⟨h1, h2, h0, h3⟩, ⟨g0, g⟩ => by
    subst h1; subst h2; subst h0
    refine ⟨g0, ?_⟩
    rcases g with ⟨b, o, cap, cur, k1, k2, k3, k4, k5, k6⟩ | g
    · exact .inl ⟨b, o, cap, cur, k1, k2, k3, k4, k5, fun e j he hj => by rw [k6 e j he hj, h3 e j he hj, hτ]⟩
    · exact .inr g
  | .own n sz f ty, .ro n' sz' f', ⟨h1, h2, h3⟩, ⟨g0, g⟩ => by
    subst h1
    rcases g with ⟨b, o, cap, cur, k1, k2, k3, k4, k5, k6⟩ | ⟨a, k1, k2⟩
    · refine ⟨_, cap, k1, k3, g0, fun hn => ?_⟩
      obtain rfl : sz = sz' := h2.resolve_left (Nat.ne_of_gt hn)
      exact ⟨b, o, rfl, (Array.getElem?_eq_some_iff.1 k2).1, fun e j he hj => by rw [cell_of_row w b _ cur ty (0, 0) k2, k6 e j he hj, h3 e j he hj, hτ]⟩
    · exact ⟨a, 0, by rw [k1, k2], by omega, g0, fun hn => by omega⟩
  | .nils, .own n' sz' f' ty', h, ⟨a, g⟩ => by
    have h : n' = 0 := h
    subst h
    exact ⟨by omega, .inr ⟨a, g, rfl⟩⟩
  | .nils, .ro n' sz' f', h, ⟨a, g⟩ => by
    have h : n' = 0 := h
    subst h
    exact ⟨a, 0, g, by omega, by omega, fun hn => by omega⟩
  | .nils, .nils, _, h => h
  | .box _ _, .dead, _, _ => trivial
  | .ro _ _ _, .dead, _, _ => trivial
  | .own _ _ _ _, .dead, _, _ => trivial
  | .nils, .dead, _, _ => trivial
  | .dead, .dead, _, _ => trivial
  | .box _ _, .ro _ _ _, h, _ => h.elim
  | .box _ _, .own _ _ _ _, h, _ => h.elim
  | .box _ _, .nils, h, _ => h.elim
  | .ro _ _ _, .box _ _, h, _ => h.elim
  | .ro _ _ _, .own _ _ _ _, h, _ => h.elim
  | .ro _ _ _, .nils, h, _ => h.elim
  | .own _ _ _ _, .box _ _, h, _ => h.elim
  | .own _ _ _ _, .nils, h, _ => h.elim
  | .nils, .box _ _, h, _ => h.elim
  | .dead, .box _ _, h, _ => h.elim
  | .dead, .ro _ _ _, h, _ => h.elim
  | .dead, .own _ _ _ _, h, _ => h.elim
  | .dead, .nils, h, _ => h.elim

theorem leE_live {τ : SC → SC} {e e' : Ent} (h : leE τ e e') (hl : e'.live = true) : e.live = true := by
  cases e <;> cases e' <;> first | rfl | exact h.elim | cases hl
theorem leE_mut {τ : SC → SC} {e e' : Ent} (h : leE τ e e') (hm : e'.mut = true) : e.mut = true ∨ e = .nils := by
  cases e <;> cases e' <;> first | exact .inl rfl | exact .inr rfl | exact h.elim | cases hm

theorem nilE_rel {r' : Rho} : ∀ {e' : Ent}, nilE e' → e'.rel r' w (.slice none 0 0)
  | .own n _ _ _, h => by have h : n = 0 := h; subst h; exact ⟨by omega, .inr ⟨none, rfl, rfl⟩⟩
  | .ro n _ _, h => by have h : n = 0 := h; subst h; exact ⟨none, 0, rfl, by omega, by omega, fun hn => by omega⟩
  | .nils, _ => ⟨none, rfl⟩
  | .dead, _ => trivial
  | .box _ _, h => h.elim

theorem leEnv_sound {b : Bnd} {env : List (Nat × SV)} : ∀ {l : List (Nat × SV)}, leEnv b env l → ∀ s v, lk l s = some v → lk env s = some (v.sub b)
  | [], _, s, v, h => by cases h
  | (i, x) :: l, hl, s, v, h => by
    simp only [lk] at h
    split at h
    · rename_i e; subst e; cases h; exact hl.1
    · exact leEnv_sound hl.2 s v h
theorem leEnt_sound {b : Bnd} {ents : List (Nat × Ent)} : ∀ {l : List (Nat × Ent)}, leEnt b ents l → ∀ i e, lk l i = some e → leAt b ents i e
  | [], _, s, v, h => by cases h
  | (i, x) :: l, hl, s, v, h => by
    simp only [lk] at h
    split at h
    · rename_i e; subst e; cases h; exact hl.1
    · exact leEnt_sound hl.2 s v h
theorem outN_mem {i : Nat} : ∀ {l : List Nat}, outN i l → i ∉ l
  | [], _ => by simp
  | j :: l, h => by simp only [List.mem_cons, not_or]; exact ⟨fun e => h.1 e.symm, outN_mem h.2⟩
theorem imgs_mem {b : Bnd} {i k : Nat} {e : Ent} (hk : imgB b i = some k) (hl : e.live = true) : ∀ {l : List (Nat × Ent)}, lk l i = some e → k ∈ imgs b l
  | (j, e') :: l, h => by
    simp only [lk] at h
    split at h
    · rename_i hj
      subst hj
      cases h
      cases e <;> first | (cases hl; done) | simp [imgs, hk]
    · have := imgs_mem hk hl h
      cases e' <;> simp only [imgs, List.mem_append] <;> first | exact this | exact .inr this
/-- Two pieces have not one image. -/
theorem imgs_apart {b : Bnd} {i j k : Nat} {e e' : Ent} (hij : i ≠ j) (hi : imgB b i = some k) (hj : imgB b j = some k) (hl : e.live = true) (hl' : e'.live = true) : ∀ {l : List (Nat × Ent)}, nodupN (imgs b l) → lk l i = some e → lk l j = some e' → False
  | (m, x) :: l, hn, h1, h2 => by
    have hx : x.live = true → ∃ rest, imgs b ((m, x) :: l) = (match imgB b m with | some k => [k] | none => []) ++ rest ∧ rest = imgs b l := by
      intro hx
      cases x <;> first | (cases hx; done) | exact ⟨_, rfl, rfl⟩
    have hrest : nodupN (imgs b l) := by
      cases x <;> simp only [imgs] at hn <;> first | exact hn | (cases hm : imgB b m <;> rw [hm] at hn <;> simp only [List.nil_append, List.singleton_append] at hn <;> first | exact hn | exact hn.2)
    simp only [lk] at h1 h2
    by_cases hmi : m = i
    · rw [if_pos hmi] at h1
      cases h1
      subst hmi
      rw [if_neg hij] at h2
      obtain ⟨rest, g1, g2⟩ := hx hl
      rw [g1, hi, g2] at hn
      exact outN_mem hn.1 (imgs_mem hj hl' h2)
    · rw [if_neg hmi] at h1
      by_cases hmj : m = j
      · rw [if_pos hmj] at h2
        cases h2
        subst hmj
        obtain ⟨rest, g1, g2⟩ := hx hl'
        rw [g1, hj, g2] at hn
        exact outN_mem hn.1 (imgs_mem hi hl h1)
      · rw [if_neg hmj] at h2
        exact imgs_apart hij hi hj hl hl' hrest h1 h2

theorem leAt_cases {b : Bnd} {ents : List (Nat × Ent)} {i : Nat} {e' : Ent} (h : leAt b ents i e') : (lk b i = some (.v (.slice none 0 0)) ∧ nilE e') ∨ ∃ k e, imgB b i = some k ∧ lk ents k = some e ∧ leE (SC.sub b) e e' := by
  unfold leAt at h
  split at h
  · rename_i hb; exact .inl ⟨hb, h⟩
  · split at h
    · rename_i k hk
      split at h
      · rename_i e he; exact .inr ⟨k, e, hk, he, h⟩
      · exact h.elim
    · exact h.elim

theorem subR_img {b : Bnd} {i k : Nat} (h : imgB b i = some k) : subR b r i = r k := by
  unfold imgB at h
  unfold subR
  split at h
  · rename_i hb; rw [hb]; cases h; rfl
  · cases h
  · rename_i hb; rw [hb]; cases h; rfl

theorem HeapRel.le {b : Bnd} {ents ents' : List (Nat × Ent)} (h : HeapRel base M r (lk ents) w) (hb : bndOk n0 b) (hl : leEnt b ents ents') (hn : nodupN (imgs b ents')) : HeapRel base M (subR b r) (lk ents') w := by
  have hrel : ∀ i e', lk ents' i = some e' → e'.rel (subR b r) w (subR b r i) := by
    intro i e' he
    rcases leAt_cases (leEnt_sound hl i e' he) with ⟨h1, h2⟩ | ⟨k, e, h1, h2, h3⟩
    · have : subR b r i = .slice none 0 0 := by unfold subR; rw [h1]; rfl
      rw [this]; exact nilE_rel h2
    · rw [subR_img h1]
      exact leE_rel (fun x => (SC.den_sub hb r x).symm) h3 (h.ent k e h2)
  have hblk : ∀ i e', lk ents' i = some e' → e'.live = true → ∀ bb, blkOf (subR b r i) = some bb → ∃ k e, imgB b i = some k ∧ lk ents k = some e ∧ e.live = true ∧ blkOf (r k) = some bb ∧ (e'.mut = true → e.mut = true) := by
    intro i e' he hlv bb hbb
    rcases leAt_cases (leEnt_sound hl i e' he) with ⟨h1, h2⟩ | ⟨k, e, h1, h2, h3⟩
    · have : subR b r i = .slice none 0 0 := by unfold subR; rw [h1]; rfl
      rw [this] at hbb
      cases hbb
    · rw [subR_img h1] at hbb
      refine ⟨k, e, h1, h2, leE_live h3 hlv, hbb, fun hm => ?_⟩
      rcases leE_mut h3 hm with g | rfl
      · exact g
      · obtain ⟨a, ha⟩ := h.ent k _ h2
        rw [ha] at hbb
        cases a <;> simp [blkOf] at hbb
  refine ⟨h.size, fun i => ?_, h.os, h.tape, h.output, h.frame, hrel, ?_, ?_, ?_⟩
  · unfold subR
    split
    · rename_i c hc
      rcases bndOk_at hb i c hc with ⟨k, rfl, _⟩ | ⟨V, rfl, _, hV⟩
      · exact h.one k
      · exact hV
    · exact h.one i
  · intro i j e e' hij he he' hm hlv bb h1 h2
    obtain ⟨k, x, g1, g2, g3, g4, g5⟩ := hblk i e he (Ent.mut_live hm) bb h1
    obtain ⟨k', x', g1', g2', g3', g4', _⟩ := hblk j e' he' hlv bb h2
    by_cases hk : k = k'
    · subst hk
      exact imgs_apart hij g1 g1' (Ent.mut_live hm) hlv hn he he'
    · exact h.apart k k' x x' hk g2 g2' (g5 hm) g3' bb g4 g4'
  · intro i e he hm bb h1
    obtain ⟨k, x, g1, g2, g3, g4, g5⟩ := hblk i e he (Ent.mut_live hm) bb h1
    exact h.mine k x g2 (g5 hm) bb g4
  · intro i e he hlv bb h1
    obtain ⟨k, x, g1, g2, g3, g4, _⟩ := hblk i e he hlv bb h1
    exact h.src k x g2 g3 bb g4

theorem Rel.leB {S S' : St} {b : Bnd} (hr : Rel base M N n0 r0 r S a w) (h : LeB n0 S S' b) : Rel base M N n0 r0 (subR b r) S' a w := by
  obtain ⟨hb, h1, h2, h3, h4, h5, h6⟩ := h
  refine ⟨hr.defers, hr.tmps, fun s v hl => ?_, hr.heap.le hb h2 h3, scEnv_sound h5, scEnt_sound h6, h4, fun i hi => ?_⟩
  · rw [SV.den_sub hb]; exact hr.slot s _ (leEnv_sound h1 s v hl)
  · unfold subR
    split
    · rename_i c hc
      rcases bndOk_at hb i c hc with ⟨k, rfl, hk⟩ | ⟨V, rfl, hn, _⟩
      · rw [hk hi]; exact hr.keep i hi
      · omega
    · exact hr.keep i hi

theorem Rel.le {S S' : St} (hr : Rel base M N n0 r0 r S a w) (h : Le n0 S S') : ∃ r', Rel base M N n0 r0 r' S' a w := ⟨_, hr.leB h⟩

theorem vcC_sound {Γ : Nat → Con} (hΓ : ∀ f, COk P f (Γ f)) : ∀ (c : Code) (x : XC) (S : St) (K : Kont), xcode P N c = some x → vcC Γ n0 x K S →
    ∀ r a w, Rel base M N n0 r0 r S a w → c.wp P (Post base M N n0 r0 K) a w
  | .skip, x, S, K, hx, h, r, a, w, hr => by
    simp only [xcode, Option.some.injEq] at hx; subst hx
    exact wp_skip ⟨.norm, r, S, rfl, h, hr⟩
  | .region id ops draw, x, S, K, hx, h, r, a, w, hr => by
    simp only [xcode] at hx
    split at hx
    · rename_i l hl
      split at hx
      · rename_i hdraw
        subst hdraw
        split at hx
        · split at hx
          · rename_i hB
            cases hx
            simp only [Bool.and_eq_true] at hB
            have hq := quiet_list hΓ ops.toList l S a (K .norm) hl h hr
            refine wp_region_quiet (C := HeapRel base M r (lk S.ents)) hB.1 hB.2 hr.heap.drew ?_
            refine wpQuiet_mono (fun a' ⟨S', hK, he, hr'⟩ w' hw' => ⟨.norm, r, S', rfl, hK, hr'.world (by rw [he]; exact hw')⟩) hq
          · cases hx
        · split at hx
          · rename_i hB
            cases hx
            simp only [Bool.and_eq_true] at hB
            obtain ⟨ts, c', S', hrun, hc', hind, hK⟩ := run_of_vcDgo h
            refine wp_region_any hB.1 ?_
            have hrel0 : Rel base M N n0 r0 r ⟨S.env, S.ents, S.next + nRes l⟩ a { w with drawn := w.drawn + 1 } :=
              ⟨hr.defers, hr.tmps, hr.slot, hr.heap.drew, fun s v hv => SV.sc_mono (upto_mono (Nat.le_add_right _ _)) (hr.scE s v hv),
                fun i e hie => ⟨Nat.lt_of_lt_of_le (hr.scH i e hie).1 (Nat.le_add_right _ _), Ent.sc_mono (upto_mono (Nat.le_add_right _ _)) (hr.scH i e hie).2⟩, Nat.le_trans hr.low (Nat.le_add_right _ _), hr.keep⟩
            have hsc0 : InSc (upto S.next) ⟨S.env, S.ents, S.next + nRes l⟩ := ⟨hr.scE, hr.scH⟩
            have hst0 : ∀ (ts : List Rec) (k : Nat) (S : St), stL ts (fun i => (Array.replicate ops.size false).getD i false) k S = S := by
              intro ts
              induction ts with
              | nil => intro k S; rfl
              | cons t ts ih => intro k S; simp only [stL]; rw [if_neg (by rw [replFalse]; simp)]; exact ih _ _
            refine wpAny_drawn (preds := predsGo ops.toList []) hΓ hl hrun (Nat.le_add_right _ _) hc' (by simpa using hind) hB.2.1 hB.2.2 hr.low hsc0 (fun r' a' w' hr' => ⟨.norm, r', S', rfl, hK, hr'⟩) ops.size _ r a _ (by simp) ?_ ?_ ?_ ?_
            · unfold unl
              exact Nat.le_trans (List.length_filter_le _ _) (by simp)
            · intro j hj
              rw [replFalse] at hj
              cases hj
            · rw [hst0]
              exact hrel0
            · intro k t ht _
              rw [hst0]
              obtain ⟨_, h1, _⟩ := hrun.at hΓ 0 k t (xl_at hrun ht).choose hsc0 hc' ht (xl_at hrun ht).choose_spec
              exact hsc0.mono (fun i hi => by have : i < S.next := hi; unfold nw; omega)
          · cases hx
      · rename_i hdraw
        have : draw = false := by simpa using hdraw
        subst this
        cases hx
        exact wp_region_list (seq_list hΓ ops.toList l S r a w hl h hr)
    · cases hx
  | .seq c d, x, S, K, hx, h, r, a, w, hr => by
    simp only [xcode] at hx
    split at hx
    · rename_i x1 h1
      split at hx
      · rename_i x2 h2
        cases hx
        refine wp_seq (wp_mono (vcC_sound hΓ c x1 S _ h1 h r a w hr) ?_)
        rintro e a' w' ⟨xe, r', S', hxe, hK, hr'⟩
        cases e <;> simp only [XE.ofExit, Option.some.injEq, reduceCtorEq] at hxe
        · subst hxe; exact vcC_sound hΓ d x2 S' K h2 hK r' a' w' hr'
        · subst hxe; exact ⟨_, r', S', rfl, hK, hr'⟩
        · subst hxe; exact ⟨_, r', S', rfl, hK, hr'⟩
      · cases hx
    · cases hx
  | .cond c y z, x, S, K, hx, h, r, a, w, hr => by
    simp only [xcode] at hx
    split at hx
    · rename_i x1 h1
      split at hx
      · rename_i x2 h2
        cases hx
        simp only [vcC] at h
        unfold vcCond at h
        split at h
        · rename_i p b hrd
          have := rd_sound hr hrd h.1
          rw [xo_val] at this
          refine wp_cond_split (t := b) this (fun hb => vcC_sound hΓ y x1 S K h1 (h.2.1 hb) r a w hr) (fun hb => vcC_sound hΓ z x2 S K h2 (h.2.2 hb) r a w hr)
        · exact h.elim
      · cases hx
    · cases hx
  | .block id c, x, S, K, hx, h, r, a, w, hr => by
    simp only [xcode] at hx
    split at hx
    · rename_i x1 h1
      cases hx
      refine wp_block (wp_mono (vcC_sound hΓ c x1 S _ h1 h r a w hr) ?_)
      rintro e a' w' ⟨xe, r', S', hxe, hK, hr'⟩
      cases e <;> simp only [XE.ofExit, Option.some.injEq, reduceCtorEq] at hxe
      · subst hxe; exact ⟨.norm, r', S', rfl, hK, hr'⟩
      · rename_i j
        subst hxe
        simp only [kBlock] at hK
        simp only [Exit.inBlock]
        split
        · rename_i e; rw [if_pos e] at hK; exact ⟨.norm, r', S', rfl, hK, hr'⟩
        · rename_i e; rw [if_neg e] at hK; exact ⟨_, r', S', rfl, hK, hr'⟩
      · subst hxe; exact ⟨_, r', S', rfl, hK, hr'⟩
    · cases hx
  | .loop c, x, S, K, hx, h, r, a, w, hr => by
    simp only [xcode] at hx
    split at hx
    · rename_i x1 h1
      cases hx
      simp only [vcC] at h
      obtain ⟨α, I, μ, x0, hle, hround⟩ := h
      refine wp_loop_ghost (fun n a w => ∃ y r, μ y = n ∧ Rel base M N n0 r0 r (I y) a w) (μ x0) ?_ ?_
      · obtain ⟨r1, hr1⟩ := hr.le hle
        exact ⟨x0, r1, rfl, hr1⟩
      rintro n a' w' ⟨y, r', rfl, hr'⟩
      refine wp_mono (vcC_sound hΓ c x1 (I y) _ h1 (hround y) r' a' w' hr') ?_
      rintro e a2 w2 ⟨xe, r2, S2, hxe, hK, hr2⟩
      cases e <;> simp only [XE.ofExit, Option.some.injEq, reduceCtorEq] at hxe
      · subst hxe
        obtain ⟨z, hz1, hz2⟩ := hK
        obtain ⟨r3, hr3⟩ := hr2.le hz1
        exact ⟨μ z, hz2, z, r3, rfl, hr3⟩
      · subst hxe; exact ⟨_, r2, S2, rfl, hK, hr2⟩
      · subst hxe; exact ⟨_, r2, S2, rfl, hK, hr2⟩
    · cases hx
  | .exit id, x, S, K, hx, h, r, a, w, hr => by
    simp only [xcode, Option.some.injEq] at hx; subst hx
    exact wp_exit ⟨.ex id, r, S, rfl, h, hr⟩
  | .ret, x, S, K, hx, h, r, a, w, hr => by
    simp only [xcode, Option.some.injEq] at hx; subst hx
    exact wp_ret ⟨.ret, r, S, rfl, h, hr⟩
  | .rangeFunc _ _ _ _, x, S, K, hx, h, r, a, w, hr => by simp [xcode] at hx
  | .scope _, x, S, K, hx, h, r, a, w, hr => by simp [xcode] at hx
  | .label _, x, S, K, hx, h, r, a, w, hr => by simp [xcode] at hx
  | .goto _, x, S, K, hx, h, r, a, w, hr => by simp [xcode] at hx
  | .refuse _, x, S, K, hx, h, r, a, w, hr => by simp [xcode] at hx

end
end Go.Sx
