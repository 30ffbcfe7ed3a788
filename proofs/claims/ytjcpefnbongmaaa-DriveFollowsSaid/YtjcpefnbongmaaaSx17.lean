/- A part of the proof of a statement about this seat: how a function is stepped through, and plain laws. No conditions. -/
import Derived.Test.YtjcpefnbongmaaaSx23
import Derived.Deep.LoopGhost
set_option linter.unusedVariables false
set_option linter.unusedSimpArgs false
namespace Go.Sx
open Go.RowKit

inductive XC where
  | skip
  | reg (draw : Bool) (ops : List XOper)
  | regD (ops : List XOper) (preds : List (List Nat))
  | seq (x y : XC)
  | cond (c : XO) (x y : XC)
  | block (id : Nat) (x : XC)
  | loop (x : XC)
  | exit (id : Nat)
  | ret

def addN (l : List Nat) (m : List Nat) : List Nat := l.foldl (fun m i => if memN i m then m else m ++ [i]) m
def predsGo : List Oper → List (List Nat) → List (List Nat)
  | [], acc => acc
  | o :: l, acc => predsGo l (acc ++ [o.after.toList.foldl (fun m e => if Region.binds .any e then addN (e.on :: acc.getD e.on []) m else m) []])

def quietX (x : XOper) : Bool :=
  match x.op with
  | .box _ => false
  | .alloc _ _ => false
  | .store _ => false
  | _ => true

def xcode (P : Program) (N : Nat) : Code → Option XC
  | .skip => some .skip
  | .region _ ops draw => match xopsL P ops N ops.toList with
    | some l => if draw then (if l.all quietX then (if P.follows .mixedOrders && Region.lexB .any ops then some (.reg true l) else none)
      else (if P.follows .mixedOrders && (predsOk ops (predsGo ops.toList []) && edgesOk ops) then some (.regD l (predsGo ops.toList [])) else none)) else some (.reg false l)
    | none => none
  | .seq a b => match xcode P N a with
    | some x => match xcode P N b with
      | some y => some (.seq x y)
      | none => none
    | none => none
  | .cond c a b => match xcode P N a with
    | some x => match xcode P N b with
      | some y => some (.cond (xo c) x y)
      | none => none
    | none => none
  | .block id a => match xcode P N a with
    | some x => some (.block id x)
    | none => none
  | .loop a => match xcode P N a with
    | some x => some (.loop x)
    | none => none
  | .exit id => some (.exit id)
  | .ret => some .ret
  | _ => none

inductive XE where
  | norm
  | ex (id : Nat)
  | ret

/-- How the code goes on. -/
abbrev Kont := XE → St → Prop

def XE.ofExit : Exit → Option XE
  | .normal => some .norm
  | .exit id => some (.ex id)
  | .ret => some .ret
  | _ => none

/-- The operations of a region whose order is open: all quiet. -/
def vcOpsQ (Γ : Nat → Con) : List XOper → St → (St → Prop) → Prop
  | [], S, K => K S
  | o :: l, S, K => match evQ Γ o S with
    | some (p, v) => p ∧ vcOpsQ Γ l (S.put o.dst v) K
    | none => False

def kSeq (k : St → Prop) (K : Kont) : Kont
  | .norm, S => k S
  | .ex i, S => K (.ex i) S
  | .ret, S => K .ret S

def kBlock (id : Nat) (K : Kont) : Kont
  | .ex j, S => if j = id then K .norm S else K (.ex j) S
  | .norm, S => K .norm S
  | .ret, S => K .ret S

def leEnv (env : List (Nat × SV)) : List (Nat × SV) → Prop
  | [] => True
  | (s, v) :: l => lk env s = some v ∧ leEnv env l
def leEnt (ents : List (Nat × Ent)) : List (Nat × Ent) → Prop
  | [] => True
  | (s, v) :: l => lk ents s = some v ∧ leEnt ents l
def scL (m : Nat → Prop) : List SC → Prop
  | [] => True
  | x :: l => x.sc m ∧ scL m l
def sc1 (m : Nat → Prop) : S1 → Prop
  | .c x => x.sc m
  | .a cs => scL m cs
def sc1L (m : Nat → Prop) : List S1 → Prop
  | [] => True
  | x :: l => sc1 m x ∧ sc1L m l
def scV (m : Nat → Prop) : SV → Prop
  | .o x => sc1 m x
  | .t xs => sc1L m xs
  | .g _ x => sc1 m x
def scEnv (m : Nat → Prop) : List (Nat × SV) → Prop
  | [] => True
  | (_, v) :: l => scV m v ∧ scEnv m l
def scE (m : Nat → Prop) : Ent → Prop
  | .box cs _ => scL m cs
  | .ro _ _ f => ∀ e j, (f e j).sc m
  | .own _ _ f _ => ∀ e j, (f e j).sc m
def scEnt (m : Nat → Prop) : List (Nat × Ent) → Prop
  | [] => True
  | (i, v) :: l => m i ∧ scE m v ∧ scEnt m l

/-- The second state says less than the first. -/
def Le (n0 : Nat) (S S' : St) : Prop := leEnv S.env S'.env ∧ leEnt S.ents S'.ents ∧ n0 ≤ S'.next ∧ S'.next ≤ S.next ∧ scEnv (upto S'.next) S'.env ∧ scEnt (upto S'.next) S'.ents

def kLoop {α : Type} (n0 : Nat) (I : α → St) (μ : α → Nat) (x : α) (K : Kont) : Kont
  | .norm, S => ∃ y, Le n0 S (I y) ∧ μ y < μ x
  | .ex i, S => K (.ex i) S
  | .ret, S => K .ret S

def vcLoop (n0 : Nat) (B : St → Kont → Prop) (S : St) (K : Kont) : Prop :=
  ∃ (α : Type) (I : α → St) (μ : α → Nat) (x : α), Le n0 S (I x) ∧ ∀ x, B (I x) (kLoop n0 I μ x K)

def vcCond (S : St) (x y : Prop) : Option (Prop × S1) → Prop
  | some (p, .c (.v (.bool b))) => p ∧ (b = true → x) ∧ (b = false → y)
  | _ => False

def vcC (Γ : Nat → Con) (n0 : Nat) : XC → St → Kont → Prop
  | .skip, S, K => K .norm S
  | .reg d l, S, K => match d with
    | true => vcOpsQ Γ l S (K .norm)
    | false => vcOps Γ l S (K .norm)
  | .regD l ps, S, K => vcD Γ ps l S (K .norm)
  | .seq x y, S, K => vcC Γ n0 x S (kSeq (fun S' => vcC Γ n0 y S' K) K)
  | .cond c x y, S, K => vcCond S (vcC Γ n0 x S K) (vcC Γ n0 y S K) (rd S.env c)
  | .block id x, S, K => vcC Γ n0 x S (kBlock id K)
  | .loop x, S, K => vcLoop n0 (vcC Γ n0 x) S K
  | .exit id, S, K => K (.ex id) S
  | .ret, S, K => K .ret S

section
variable {P : Program} {base : World} {M : Nat → Prop} {N n0 : Nat} {r0 r : Rho} {S : St} {a : Act} {w : World}

variable (P base M N n0 r0) in
/-- The post: one of the ways that the symbolic run knows. -/
def Post (K : Kont) : Exit → Act → World → Prop :=
  fun e a' w' => ∃ x r' S', XE.ofExit e = some x ∧ K x S' ∧ Rel base M N n0 r0 r' S' a' w'

theorem replF (m j : Nat) : (Array.replicate m false).getD j false = false := by
  rcases Nat.lt_or_ge j m with h | h
  · simp [h]
  · simp [h]

theorem HeapRel.drew {E : Nat → Option Ent} (h : HeapRel base M r E w) : HeapRel base M r E { w with drawn := w.drawn + 1 } :=
  h.below ⟨rfl, rfl, rfl, Nat.le_refl _, fun _ _ => rfl⟩

theorem quiet_list {Γ : Nat → Con} {ops : Array Oper} (hΓ : ∀ f, COk P f (Γ f)) : ∀ (l : List Oper) (xl : List XOper) (S : St) (a : Act) (K : St → Prop), xopsL P ops N l = some xl → vcOpsQ Γ xl S K →
    Rel base M N n0 r0 r S a w → wpQuiet P ops (HeapRel base M r (lk S.ents)) (fun a' => ∃ S', K S' ∧ S'.ents = S.ents ∧ Rel base M N n0 r0 r S' a' w) l a
  | [], xl, S, a, K, hx, h, hr => by
    simp only [xopsL, Option.some.injEq] at hx
    subst hx
    exact ⟨S, h, rfl, hr⟩
  | o :: l, xl, S, a, K, hx, h, hr => by
    simp only [xopsL] at hx
    split at hx
    · rename_i x hxo
      split at hx
      · rename_i hd
        split at hx
        · rename_i xs hxs
          cases hx
          simp only [vcOpsQ] at h
          split at h
          · rename_i p v he
            obtain ⟨gd, hg, hq⟩ := evQ_sound hΓ hxo he h.1 hr
            have hdo := (xop_parts hxo).2
            have hd' : ∀ s, o.dst = some s → s < N := by
              intro s hs
              rw [hdo, hs] at hd
              simpa [dstOk] using hd
            have hput := hr.put (d := o.dst) (v := v) hd' hq.sc
            rw [hdo] at h
            have ih := quiet_list hΓ l xs (S.put o.dst v) (a.put o.dst (v.den r)) K hxs h.2 hput
            have hents : (S.put o.dst v).ents = S.ents := by unfold St.put; split <;> rfl
            rw [hents] at ih
            unfold wpQuiet
            rw [hg]
            split
            · rename_i hgt
              exact ⟨v.den r, fun w' hw' => hq.yes hgt w' hw', ih⟩
            · rename_i hgt
              rw [hq.no (by simpa using hgt)] at ih
              exact ih
          · exact h.elim
        · cases hx
      · cases hx
    · cases hx

theorem seq_list {Γ : Nat → Con} {ops : Array Oper} (hΓ : ∀ f, COk P f (Γ f)) {K : Kont} : ∀ (l : List Oper) (xl : List XOper) (S : St) (r : Rho) (a : Act) (w : World), xopsL P ops N l = some xl → vcOps Γ xl S (K .norm) →
    Rel base M N n0 r0 r S a w → wpList P ops (Post base M N n0 r0 K) l a w
  | [], xl, S, r, a, w, hx, h, hr => by
    simp only [xopsL, Option.some.injEq] at hx
    subst hx
    exact ⟨.norm, r, S, rfl, h, hr⟩
  | o :: l, xl, S, r, a, w, hx, h, hr => by
    simp only [xopsL] at hx
    split at hx
    · rename_i x hxo
      split at hx
      · rename_i hd
        split at hx
        · rename_i xs hxs
          cases hx
          simp only [vcOps] at h
          have hd' : ∀ s, x.dst = some s → s < N := by
            intro s hs
            rw [hs] at hd
            simpa [dstOk] using hd
          have := vcOp_sound (Q := Post base M N n0 r0 K) (Next := wpList P ops (Post base M N n0 r0 K) l) hΓ hxo hd' h hr
            (fun r' S' a' w' hK hr' => seq_list hΓ l xs S' r' a' w' hxs hK hr')
          unfold wpList
          split
          · rename_i hg; rw [if_pos hg] at this; exact .inl this
          · rename_i hg; rw [if_neg hg] at this; exact this
        · cases hx
      · cases hx
    · cases hx

theorem wpQuiet_mono {ops : Array Oper} {C : World → Prop} {Q Q' : Act → Prop} (h : ∀ a, Q a → Q' a) : ∀ {l : List Oper} {a : Act}, wpQuiet P ops C Q l a → wpQuiet P ops C Q' l a
  | [], a, hq => h a hq
  | o :: l, a, hq => by
    unfold wpQuiet at hq ⊢
    split
    · rename_i hg; rw [if_pos hg] at hq; exact Oper.quiet_mono (fun a' ha' => wpQuiet_mono h ha') hq
    · rename_i hg; rw [if_neg hg] at hq; exact wpQuiet_mono h hq

theorem leEnv_sound {env : List (Nat × SV)} : ∀ {l : List (Nat × SV)}, leEnv env l → ∀ s v, lk l s = some v → lk env s = some v
  | [], _, s, v, h => by cases h
  | (i, x) :: l, hl, s, v, h => by
    simp only [lk] at h
    split at h
    · rename_i e; subst e; cases h; exact hl.1
    · exact leEnv_sound hl.2 s v h
theorem leEnt_sound {ents : List (Nat × Ent)} : ∀ {l : List (Nat × Ent)}, leEnt ents l → ∀ s v, lk l s = some v → lk ents s = some v
  | [], _, s, v, h => by cases h
  | (i, x) :: l, hl, s, v, h => by
    simp only [lk] at h
    split at h
    · rename_i e; subst e; cases h; exact hl.1
    · exact leEnt_sound hl.2 s v h
theorem scL_sound {m : Nat → Prop} : ∀ {l : List SC}, scL m l → ∀ x ∈ l, x.sc m
  | [], _, x, h => by cases h
  | y :: l, hl, x, h => by
    cases h with
    | head => exact hl.1
    | tail _ hm => exact scL_sound hl.2 x hm
theorem sc1_sound {m : Nat → Prop} {x : S1} (h : sc1 m x) : x.sc m := by
  cases x with
  | c x => exact h
  | a cs => exact scL_sound h
theorem scV_sound {m : Nat → Prop} {x : SV} (h : scV m x) : x.sc m := by
  cases x with
  | o x => exact sc1_sound h
  | g b x => exact sc1_sound h
  | t xs =>
    intro y hy
    have : ∀ {l : List S1}, sc1L m l → ∀ y ∈ l, y.sc m := by
      intro l
      induction l with
      | nil => intro _ y hy; cases hy
      | cons z l ih =>
        intro hl y hy
        cases hy with
        | head => exact sc1_sound hl.1
        | tail _ hm => exact ih hl.2 y hm
    exact this h y hy
theorem scEnv_sound {m : Nat → Prop} : ∀ {l : List (Nat × SV)}, scEnv m l → ∀ s v, lk l s = some v → v.sc m
  | [], _, s, v, h => by cases h
  | (i, x) :: l, hl, s, v, h => by
    simp only [lk] at h
    split at h
    · cases h; exact scV_sound hl.1
    · exact scEnv_sound hl.2 s v h
theorem scE_sound {m : Nat → Prop} {x : Ent} (h : scE m x) : x.sc m := by
  cases x with
  | box cs ty => exact scL_sound h
  | ro n sz f => exact h
  | own n sz f ty => exact h
theorem scEnt_sound {m : Nat → Prop} : ∀ {l : List (Nat × Ent)}, scEnt m l → ∀ s v, lk l s = some v → m s ∧ v.sc m
  | [], _, s, v, h => by cases h
  | (i, x) :: l, hl, s, v, h => by
    simp only [lk] at h
    split at h
    · rename_i e; subst e; cases h; exact ⟨hl.1, scE_sound hl.2.1⟩
    · exact scEnt_sound hl.2.2 s v h

theorem Rel.le {S S' : St} (hr : Rel base M N n0 r0 r S a w) (h : Le n0 S S') : Rel base M N n0 r0 r S' a w :=
  ⟨hr.defers, hr.tmps, fun s v hl => hr.slot s v (leEnv_sound h.1 s v hl), hr.heap.fewer (leEnt_sound h.2.1), scEnv_sound h.2.2.2.2.1, scEnt_sound h.2.2.2.2.2, h.2.2.1, hr.keep⟩

theorem vcC_sound {Γ : Nat → Con} (hΓ : ∀ f, COk P f (Γ f)) : ∀ (c : Code) (x : XC) (S : St) (K : Kont), xcode P N c = some x → vcC Γ n0 x S K →
    ∀ r a w, Rel base M N n0 r0 r S a w → c.wp P (Post base M N n0 r0 K) a w
  | .skip, x, S, K, hx, h, r, a, w, hr => by
    simp only [xcode, Option.some.injEq] at hx; subst hx
    exact wp_skip ⟨.norm, r, S, rfl, h, hr⟩
  | .region id ops draw, x, S, K, hx, h, r, a, w, hr => by
    simp only [xcode] at hx
    split at hx
    · rename_i l hl
      split at hx
      · rename_i hdraw
        subst hdraw
        split at hx
        · split at hx
          · rename_i hB
            cases hx
            simp only [Bool.and_eq_true] at hB
            have hq := quiet_list hΓ ops.toList l S a (K .norm) hl h hr
            refine wp_region_quiet (C := HeapRel base M r (lk S.ents)) hB.1 hB.2 hr.heap.drew ?_
            refine wpQuiet_mono (fun a' ⟨S', hK, he, hr'⟩ w' hw' => ⟨.norm, r, S', rfl, hK, hr'.world (by rw [he]; exact hw')⟩) hq
          · cases hx
        · split at hx
          · rename_i hB
            cases hx
            simp only [Bool.and_eq_true] at hB
            obtain ⟨ts, S', hrun, hind, hK⟩ := run_of_vcDgo h
            refine wp_region_any hB.1 ?_
            have hrel0 : Rel base M N n0 r0 r ⟨S.env, S.ents, S.next + nAl l⟩ a { w with drawn := w.drawn + 1 } :=
              ⟨hr.defers, hr.tmps, hr.slot, hr.heap.drew, fun s v hv => SV.sc_mono (upto_mono (Nat.le_add_right _ _)) (hr.scE s v hv),
                fun i e hie => ⟨Nat.lt_of_lt_of_le (hr.scH i e hie).1 (Nat.le_add_right _ _), Ent.sc_mono (upto_mono (Nat.le_add_right _ _)) (hr.scH i e hie).2⟩, Nat.le_trans hr.low (Nat.le_add_right _ _), hr.keep⟩
            refine wpAny_drawn (preds := predsGo ops.toList []) hΓ hl hrun (by simpa using hind) hB.2.1 hB.2.2 hr.low hr.scE hr.scH (fun r' a' w' hr' => ⟨.norm, r', S', rfl, hK, hr'⟩) ops.size _ r a _ (by simp) ?_ ?_ ?_
            · unfold unl
              exact Nat.le_trans (List.length_filter_le _ _) (by simp)
            · intro j hj
              rw [replF] at hj
              cases hj
            · have : ∀ (ts : List Rec) (k : Nat) (S : St), stL ts (fun i => (Array.replicate ops.size false).getD i false) k S = S := by
                intro ts
                induction ts with
                | nil => intro k S; rfl
                | cons t ts ih => intro k S; simp only [stL]; rw [if_neg (by rw [replF]; simp)]; exact ih _ _
              rw [this]
              exact hrel0
          · cases hx
      · rename_i hdraw
        have : draw = false := by simpa using hdraw
        subst this
        cases hx
        exact wp_region_list (seq_list hΓ ops.toList l S r a w hl h hr)
    · cases hx
  | .seq c d, x, S, K, hx, h, r, a, w, hr => by
    simp only [xcode] at hx
    split at hx
    · rename_i x1 h1
      split at hx
      · rename_i x2 h2
        cases hx
        refine wp_seq (wp_mono (vcC_sound hΓ c x1 S _ h1 h r a w hr) ?_)
        rintro e a' w' ⟨xe, r', S', hxe, hK, hr'⟩
        cases e <;> simp only [XE.ofExit, Option.some.injEq, reduceCtorEq] at hxe
        · subst hxe; exact vcC_sound hΓ d x2 S' K h2 hK r' a' w' hr'
        · subst hxe; exact ⟨_, r', S', rfl, hK, hr'⟩
        · subst hxe; exact ⟨_, r', S', rfl, hK, hr'⟩
      · cases hx
    · cases hx
  | .cond c y z, x, S, K, hx, h, r, a, w, hr => by
    simp only [xcode] at hx
    split at hx
    · rename_i x1 h1
      split at hx
      · rename_i x2 h2
        cases hx
        simp only [vcC] at h
        unfold vcCond at h
        split at h
        · rename_i p b hrd
          have := rd_sound hr hrd h.1
          rw [xo_val] at this
          refine wp_cond_split (t := b) this (fun hb => vcC_sound hΓ y x1 S K h1 (h.2.1 hb) r a w hr) (fun hb => vcC_sound hΓ z x2 S K h2 (h.2.2 hb) r a w hr)
        · exact h.elim
      · cases hx
    · cases hx
  | .block id c, x, S, K, hx, h, r, a, w, hr => by
    simp only [xcode] at hx
    split at hx
    · rename_i x1 h1
      cases hx
      refine wp_block (wp_mono (vcC_sound hΓ c x1 S _ h1 h r a w hr) ?_)
      rintro e a' w' ⟨xe, r', S', hxe, hK, hr'⟩
      cases e <;> simp only [XE.ofExit, Option.some.injEq, reduceCtorEq] at hxe
      · subst hxe; exact ⟨.norm, r', S', rfl, hK, hr'⟩
      · rename_i j
        subst hxe
        simp only [kBlock] at hK
        simp only [Exit.inBlock]
        split
        · rename_i e; rw [if_pos e] at hK; exact ⟨.norm, r', S', rfl, hK, hr'⟩
        · rename_i e; rw [if_neg e] at hK; exact ⟨_, r', S', rfl, hK, hr'⟩
      · subst hxe; exact ⟨_, r', S', rfl, hK, hr'⟩
    · cases hx
  | .loop c, x, S, K, hx, h, r, a, w, hr => by
    simp only [xcode] at hx
    split at hx
    · rename_i x1 h1
      cases hx
      simp only [vcC] at h
      obtain ⟨α, I, μ, x0, hle, hround⟩ := h
      refine wp_loop_ghost (fun n a w => ∃ y r, μ y = n ∧ Rel base M N n0 r0 r (I y) a w) (μ x0) ⟨x0, r, rfl, hr.le hle⟩ ?_
      rintro n a' w' ⟨y, r', rfl, hr'⟩
      refine wp_mono (vcC_sound hΓ c x1 (I y) _ h1 (hround y) r' a' w' hr') ?_
      rintro e a2 w2 ⟨xe, r2, S2, hxe, hK, hr2⟩
      cases e <;> simp only [XE.ofExit, Option.some.injEq, reduceCtorEq] at hxe
      · subst hxe
        obtain ⟨z, hz1, hz2⟩ := hK
        exact ⟨μ z, hz2, z, r2, rfl, hr2.le hz1⟩
      · subst hxe; exact ⟨_, r2, S2, rfl, hK, hr2⟩
      · subst hxe; exact ⟨_, r2, S2, rfl, hK, hr2⟩
    · cases hx
  | .exit id, x, S, K, hx, h, r, a, w, hr => by
    simp only [xcode, Option.some.injEq] at hx; subst hx
    exact wp_exit ⟨.ex id, r, S, rfl, h, hr⟩
  | .ret, x, S, K, hx, h, r, a, w, hr => by
    simp only [xcode, Option.some.injEq] at hx; subst hx
    exact wp_ret ⟨.ret, r, S, rfl, h, hr⟩
  | .rangeFunc _ _ _ _, x, S, K, hx, h, r, a, w, hr => by simp [xcode] at hx
  | .scope _, x, S, K, hx, h, r, a, w, hr => by simp [xcode] at hx
  | .label _, x, S, K, hx, h, r, a, w, hr => by simp [xcode] at hx
  | .goto _, x, S, K, hx, h, r, a, w, hr => by simp [xcode] at hx
  | .refuse _, x, S, K, hx, h, r, a, w, hr => by simp [xcode] at hx

end
end Go.Sx
