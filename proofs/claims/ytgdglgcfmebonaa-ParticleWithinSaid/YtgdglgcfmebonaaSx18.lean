/- A part of the proof of a statement about this seat: how a function is stepped through, and plain laws. No conditions. -/
import Derived.Test.YtgdglgcfmebonaaSx17
set_option linter.unusedVariables false
set_option linter.unusedSimpArgs false
namespace Go.Sx
open Go.RowKit

inductive XR where
  | s (t : Nat)
  | b1 (a : Nat)
  | bn (a n : Nat)

def xres (P : Program) : List ResultVar → Option (List XR)
  | [] => some []
  | .tmp t :: l => match xres P l with
    | some xs => some (.s t :: xs)
    | none => none
  | .cell a t :: l => match P.underlying t with
    | some d => match xres P l with
      | some xs => if isAggD d then (match P.info? t with
        | some i => some (.bn a i.size :: xs)
        | none => none) else some (.b1 a :: xs)
      | none => none
    | none => none

structure XFn where
  n : Nat
  code : XC
  res : List XR

def xfn (P : Program) (fn : Func) : Option XFn :=
  match fn.body with
  | some c => match xcode P fn.ntmps c with
    | some x => match xres P fn.results.toList with
      | some l => some ⟨fn.ntmps, x, l⟩
      | none => none
    | none => none
  | none => none

def ret1 (S : St) : XR → Option (Prop × S1)
  | .s t => rd S.env (.t t)
  | .b1 a => match rd S.env (.t a) with
    | some (p, x) => match qLoad1 (lk S.ents) [x] with
      | some (q, y) => some (p ∧ q, y)
      | none => none
    | none => none
  | .bn a n => match rd S.env (.t a) with
    | some (p, x) => match qLoadN (lk S.ents) n [x] with
      | some (q, y) => some (p ∧ q, y)
      | none => none
    | none => none

def rets (S : St) : List XR → Option (Prop × List S1)
  | [] => some (True, [])
  | x :: l => match ret1 S x with
    | some (p, y) => match rets S l with
      | some (q, ys) => some (p ∧ q, y :: ys)
      | none => none
    | none => none

def retV : List S1 → SV
  | [x] => .o x
  | xs => .t xs

def kRet (res : List XR) (Q : SV → St → Prop) : Kont
  | .ex _, _ => False
  | .norm, S => match rets S res with
    | some (p, xs) => p ∧ Q (retV xs) S
    | none => False
  | .ret, S => match rets S res with
    | some (p, xs) => p ∧ Q (retV xs) S
    | none => False

def env0 : Nat → List S1 → List (Nat × SV)
  | _, [] => []
  | k, x :: xs => (k, .o x) :: env0 (k + 1) xs

def vcF (Γ : Nat → Con) (X : XFn) (args : List S1) (ents : List (Nat × Ent)) (n0 : Nat) (Q : SV → St → Prop) : Prop :=
  args.length ≤ X.n ∧ vcC Γ n0 X.code (kRet X.res Q) ⟨env0 0 args, ents, n0⟩

section
variable {P : Program} {base : World} {M : Scp} {N n0 : Nat} {r0 r : Rho} {S : St} {a : Act} {w : World}

def resOne (tmps : Array Value) : ResultVar → Go.Sem Value
  | .tmp t => pure (tmps.getD t undef)
  | .cell b t => do loadVar t (← asAddr (tmps.getD b undef))

theorem results_eq (fn : Func) (tmps : Array Value) : results fn tmps = (do
    let vs ← fn.results.mapM (resOne tmps)
    pure (if h : vs.size = 1 then vs[0] else .tuple vs)) := by
  unfold results
  congr 2

theorem ret1_sound {x : XR} {rv : ResultVar} {p : Prop} {y : S1} (hr : Rel base M N n0 r0 r S a w) (hx : xres P [rv] = some [x]) (h : ret1 S x = some (p, y)) (hp : p) :
    (resOne a.tmps rv).run P w = .ok (y.den r) w ∧ y.sc (upto S.next) := by
  cases rv with
  | tmp t =>
    simp only [xres, Option.some.injEq, List.cons.injEq, and_true] at hx
    subst hx
    simp only [ret1] at h
    refine ⟨?_, rd_sc hr h⟩
    have := rd_sound hr h hp
    simp only [XO.val] at this
    simp only [resOne, Sem.run_pure, this]
  | cell b t =>
    simp only [xres] at hx
    split at hx
    · rename_i d hu
      split at hx
      · rename_i hd
        split at hx
        · rename_i i hi
          simp only [Option.some.injEq, List.cons.injEq, and_true] at hx
          subst hx
          simp only [ret1] at h
          split at h
          · rename_i p1 z hrd
            split at h
            · rename_i q y' hq
              cases h
              have hz := rd_sound hr hrd hp.1
              simp only [XO.val] at hz
              have hsc := opQ_sc (op := .loadN i.size) (ys := [z]) hr.scH (by intro y' hy'; simp only [List.mem_singleton] at hy'; subst hy'; exact rd_sc hr hrd) hq
              refine ⟨?_, hsc⟩
              have hl := sound_loadN (P := P) (o := ⟨none, .load t (.tmp b), 0, "", #[], none⟩) (a := a) (t := t) (x := .tmp b) (ys := [z]) hr.heap rfl hu hd hi hz hq hp.2
              unfold Yields at hl
              simp only [execOp, Act.eval, Instr.loadAt, Sem.run_bind] at hl
              simp only [resOne, Sem.run_bind]
              rw [hz] at hl ⊢
              unfold qLoadN at hq
              split at hq
              · rename_i heq; cases heq
                simp only [S1.den, SC.den, Instr.sureAddr, asAddr, Sem.run_bind, Sem.run_pure, Result.andThen_ok] at hl ⊢
                generalize (loadVar t _).run P w = res at hl ⊢
                cases res with
                | ok v w' => simp only [Result.andThen_ok, Result.ok.injEq, Next.value.injEq] at hl; simp only [hl.1, hl.2]
                | halt x w' => simp at hl
              · rename_i heq; cases heq
                simp only [S1.den, SC.den, Instr.sureAddr, asAddr, Sem.run_bind, Sem.run_pure, Result.andThen_ok] at hl ⊢
                generalize (loadVar t _).run P w = res at hl ⊢
                cases res with
                | ok v w' => simp only [Result.andThen_ok, Result.ok.injEq, Next.value.injEq] at hl; simp only [hl.1, hl.2]
                | halt x w' => simp at hl
              · cases hq
            · cases h
          · cases h
        · cases hx
      · rename_i hd
        simp only [Option.some.injEq, List.cons.injEq, and_true] at hx
        subst hx
        simp only [ret1] at h
        split at h
        · rename_i p1 z hrd
          split at h
          · rename_i q y' hq
            cases h
            have hz := rd_sound hr hrd hp.1
            simp only [XO.val] at hz
            have hsc := opQ_sc (op := .load1) (ys := [z]) hr.scH (by intro y' hy'; simp only [List.mem_singleton] at hy'; subst hy'; exact rd_sc hr hrd) hq
            refine ⟨?_, hsc⟩
            have hl := sound_load1 (P := P) (o := ⟨none, .load t (.tmp b), 0, "", #[], none⟩) (a := a) (t := t) (x := .tmp b) (xs := []) (ys := [z]) hr.heap rfl hu (by simpa using hd) hz hq hp.2
            unfold Yields at hl
            simp only [execOp, Act.eval, Instr.loadAt, Sem.run_bind] at hl
            simp only [resOne, Sem.run_bind]
            rw [hz] at hl ⊢
            unfold qLoad1 at hq
            split at hq
            · rename_i heq; cases heq
              simp only [S1.den, SC.den, Instr.sureAddr, asAddr, Sem.run_bind, Sem.run_pure, Result.andThen_ok] at hl ⊢
              generalize (loadVar t _).run P w = res at hl ⊢
              cases res with
              | ok v w' => simp only [Result.andThen_ok, Result.ok.injEq, Next.value.injEq] at hl; simp only [hl.1, hl.2]
              | halt x w' => simp at hl
            · rename_i heq; cases heq
              simp only [S1.den, SC.den, Instr.sureAddr, asAddr, Sem.run_bind, Sem.run_pure, Result.andThen_ok] at hl ⊢
              generalize (loadVar t _).run P w = res at hl ⊢
              cases res with
              | ok v w' => simp only [Result.andThen_ok, Result.ok.injEq, Next.value.injEq] at hl; simp only [hl.1, hl.2]
              | halt x w' => simp at hl
            · cases hq
          · cases h
        · cases h
    · cases hx

theorem xres_cons {rv : ResultVar} {l : List ResultVar} {xl : List XR} (h : xres P (rv :: l) = some xl) : ∃ x xs, xl = x :: xs ∧ xres P [rv] = some [x] ∧ xres P l = some xs := by
  cases rv with
  | tmp t =>
    simp only [xres] at h ⊢
    split at h
    · rename_i xs hxs; cases h; exact ⟨_, xs, rfl, rfl, hxs⟩
    · cases h
  | cell b t =>
    simp only [xres] at h ⊢
    split at h
    · rename_i d hu
      split at h
      · rename_i xs hxs
        split at h
        · rename_i hd
          split at h
          · rename_i i hi; cases h; exact ⟨_, xs, rfl, by simp [hd], hxs⟩
          · cases h
        · rename_i hd; cases h; exact ⟨_, xs, rfl, by simp [hd], hxs⟩
      · cases h
    · cases h

theorem rets_sound (hr : Rel base M N n0 r0 r S a w) : ∀ {l : List ResultVar} {xl : List XR} {p : Prop} {ys : List S1}, xres P l = some xl → rets S xl = some (p, ys) → p →
    (l.mapM (resOne a.tmps)).run P w = .ok (ys.map (S1.den r)) w ∧ ∀ y ∈ ys, y.sc (upto S.next)
  | [], xl, p, ys, hx, h, hp => by
    simp only [xres, Option.some.injEq] at hx; subst hx
    simp only [rets, Option.some.injEq, Prod.mk.injEq] at h
    obtain ⟨_, rfl⟩ := h
    exact ⟨rfl, fun y hy => by cases hy⟩
  | rv :: l, xl, p, ys, hx, h, hp => by
    obtain ⟨x, xs, rfl, h1, h2⟩ := xres_cons hx
    simp only [rets] at h
    split at h
    · rename_i p1 y hy
      split at h
      · rename_i q ys' hys
        cases h
        obtain ⟨e1, s1⟩ := ret1_sound hr h1 hy hp.1
        obtain ⟨e2, s2⟩ := rets_sound hr h2 hys hp.2
        refine ⟨?_, fun z hz => by cases hz with | head => exact s1 | tail _ hm => exact s2 z hm⟩
        simp only [List.mapM_cons, Sem.run_bind]
        rw [e1]
        simp only [Result.andThen_ok]
        rw [e2]
        simp
      · cases h
    · cases h

theorem env0_lk : ∀ (xs : List S1) (k s : Nat) (v : SV), lk (env0 k xs) s = some v → k ≤ s ∧ ∃ x, v = .o x ∧ xs[s - k]? = some x
  | [], k, s, v, h => by cases h
  | x :: xs, k, s, v, h => by
    simp only [env0, lk] at h
    split at h
    · rename_i e; subst e; cases h; exact ⟨Nat.le_refl _, x, rfl, by simp⟩
    · rename_i e
      obtain ⟨h1, y, h2, h3⟩ := env0_lk xs (k + 1) s v h
      refine ⟨by omega, y, h2, ?_⟩
      have : s - k = (s - (k + 1)) + 1 := by omega
      rw [this, List.getElem?_cons_succ]
      exact h3

theorem calls_vc {f : Nat} {fn : Func} {X : XFn} {Γ : Nat → Con} {args : List S1} {ents : List (Nat × Ent)} {Q : SV → St → Prop} (hf : P.funcs[f]? = some fn) (hx : xfn P fn = some X) (hΓ : ∀ f, COk P f (Γ f))
    (h : vcF Γ X args ents n0 Q) (hh : HeapRel base M r (lk ents) w) (hargs : ∀ x ∈ args, S1.sc (upto n0) x) (hents : ∀ i e, lk ents i = some e → i < n0 ∧ e.sc (upto n0)) :
    Calls P f (args.map (S1.den r)).toArray w (fun e w' => ∃ r' v S, (∀ i, i < n0 → r' i = r i) ∧ e = .returned (v.den r') ∧ Q v S ∧ HeapRel base M r' (lk S.ents) w' ∧ v.sc (upto S.next) ∧ n0 ≤ S.next ∧
      (∀ i e, lk S.ents i = some e → i < S.next ∧ e.sc (upto S.next))) := by
  unfold xfn at hx
  split at hx
  · rename_i c hbody
    split at hx
    · rename_i x hxc
      split at hx
      · rename_i l hl
        cases hx
        obtain ⟨hlen, hvc⟩ := h
        simp only at hlen hvc
        refine calls_of_wp hf hbody ?_
        have hrel : Rel base M fn.ntmps n0 r r ⟨env0 0 args, ents, n0⟩ { tmps := (args.map (S1.den r)).toArray ++ Array.replicate (fn.ntmps - (args.map (S1.den r)).toArray.size) undef, defers := [] } w := by
          refine ⟨rfl, ?_, ?_, hh, ?_, hents, Nat.le_refl _, fun _ _ => rfl⟩
          · simp; omega
          · intro s v hlk
            obtain ⟨_, y, rfl, hy⟩ := env0_lk args 0 s v hlk
            simp only [Nat.sub_zero] at hy
            have hs := (List.getElem?_eq_some_iff.1 hy).1
            rw [Array.getD_eq_getD_getElem?, Array.getElem?_append, if_pos (by simpa using hs)]
            simp [hy, SV.den]
          · intro s v hlk
            obtain ⟨_, y, rfl, hy⟩ := env0_lk args 0 s v hlk
            exact hargs y (List.mem_of_getElem? hy)
        refine wp_mono (vcC_sound hΓ c x _ _ hxc hvc r _ w hrel) ?_
        rintro e a' w' ⟨xe, r', S', hxe, hK, hr'⟩
        have fin : ∀ (hh : (match rets S' l with | some (p, xs) => p ∧ Q (retV xs) S' | none => False)), a'.defers = [] ∧ ∃ v, (results fn a'.tmps).run P w' = .ok v w' ∧
            ∃ r2 v2 S2, (∀ i, i < n0 → r2 i = r i) ∧ Ending.returned v = .returned (SV.den r2 v2) ∧ Q v2 S2 ∧ HeapRel base M r2 (lk S2.ents) w' ∧ v2.sc (upto S2.next) ∧ n0 ≤ S2.next ∧
              (∀ i e, lk S2.ents i = some e → i < S2.next ∧ e.sc (upto S2.next)) := by
          intro hh
          split at hh
          · rename_i p xs hrets
            obtain ⟨e1, s1⟩ := rets_sound hr' hl hrets hh.1
            refine ⟨hr'.defers, (retV xs).den r', ?_, r', retV xs, S', hr'.keep, rfl, hh.2, hr'.heap, ?_, hr'.low, hr'.scH⟩
            · rw [results_eq, Array.mapM_eq_mapM_toList]
              simp only [Sem.run_bind, Sem.run_map, e1, Result.andThen_ok]
              match xs with
              | [] => simp [retV, SV.den]
              | [x] => simp [retV, SV.den]
              | x :: y :: zs => simp [retV, SV.den]
            · match xs, s1 with
              | [], s1 => exact fun y hy => by cases hy
              | [x], s1 => exact s1 x (by simp)
              | x :: y :: zs, s1 => exact s1
          · exact hh.elim
        cases e <;> simp only [XE.ofExit, Option.some.injEq, reduceCtorEq] at hxe
        · subst hxe; exact fin hK
        · subst hxe; exact hK.elim
        · subst hxe; exact fin hK
      · cases hx
    · cases hx
  · cases hx

/-- No piece of memory known. -/
theorem HeapRel.init (w : World) (r : Rho) (hr : ∀ i, (r i).oneCell' = true) : HeapRel w ⟨fun _ => False, fun _ => False⟩ r (lk []) w :=
  ⟨Nat.le_refl _, hr, rfl, rfl, rfl, fun _ _ _ => rfl, (fun i e h => by cases h), (fun i j e e' _ h => by cases h), (fun i e h => by cases h), (fun i e h => by cases h)⟩

theorem HeapRel.toBelow {r r0 : Rho} {E E0 : Nat → Option Ent} {w w' : World} (hm : ∀ b, ¬ mutB E0 r0 b) (h : HeapRel w ⟨mutB E0 r0, allB E0 r0⟩ r E w') : Below w.heap.size w w' :=
  ⟨h.os, h.tape, h.output, h.size, fun b hb => h.frame b hb (hm b)⟩

/-- A contract on plain values. -/
def plain (sp : List S1 → Option (Prop × SV)) : Con := fun args _ _ =>
  match sp args with
  | some (pre, res) => some (.q pre res)
  | none => none

theorem S1.den_zero {r r' : Rho} {x : S1} (h : x.sc (upto 0)) : x.den r = x.den r' := S1.den_ext (m := upto 0) (fun i hi => absurd hi (Nat.not_lt_zero i)) h
theorem SV.den_zero {r r' : Rho} {x : SV} (h : x.sc (upto 0)) : x.den r = x.den r' := SV.den_ext (m := upto 0) (fun i hi => absurd hi (Nat.not_lt_zero i)) h

theorem cok_plain {f : Nat} {fn : Func} {X : XFn} {Γ : Nat → Con} {sp : List S1 → Option (Prop × SV)} (hf : P.funcs[f]? = some fn) (hx : xfn P fn = some X) (hb : bodied P f = true) (hΓ : ∀ f, COk P f (Γ f))
    (h : ∀ args pre res, sp args = some (pre, res) → sc1L (upto 0) args ∧ scV (upto 0) res ∧ (pre → vcF Γ X args [] 0 (fun v _ => v = res))) : COk P f (plain sp) := by
  intro args E n hargs hE
  unfold plain
  cases hsp : sp args with
  | none => trivial
  | some pr =>
    obtain ⟨pre, res⟩ := pr
    obtain ⟨ha, hres, hv⟩ := h args pre res hsp
    have ha := sc1L_sound ha
    have hres := scV_sound hres
    refine ⟨fun m _ _ => SV.sc_mono (fun i hi => absurd hi (Nat.not_lt_zero i)) hres, fun hp => ⟨hb, fun base M r w hh => ?_⟩⟩
    refine (calls_vc hf hx hΓ (hv hp) (HeapRel.init w r hh.one) ha (fun i e h => by cases h)).mono ?_
    rintro e w' ⟨r', v, S, _, rfl, rfl, hw', _⟩
    exact ⟨by rw [SV.den_zero (r := r') (r' := r) hres], ⟨hw'.os, hw'.tape, hw'.output, hw'.size, fun b hb => hw'.frame b hb id⟩⟩

theorem cok_tab {l : List (Nat × Con)} (h : ∀ f g, lk l f = some g → COk P f g) : ∀ f, COk P f (tab l f) := by
  intro f args E n ha hE
  unfold tab
  cases hg : lk l f with
  | none => trivial
  | some g => exact h f g hg args E n ha hE

theorem cok_nil : ∀ f g, lk ([] : List (Nat × Con)) f = some g → COk P f g := fun f g h => by cases h
theorem cok_cons {f : Nat} {g : Con} {l : List (Nat × Con)} (h : COk P f g) (hl : ∀ f g, lk l f = some g → COk P f g) : ∀ f' g', lk ((f, g) :: l) f' = some g' → COk P f' g' := by
  intro f' g' h'
  simp only [lk] at h'
  split at h'
  · rename_i e; subst e; cases h'; exact h
  · exact hl f' g' h'

/-! ### Contracts with memory: the condition is shown under names of its own -/

/-- A name of the condition's, as the caller has it. -/
def sg (k0 n : Nat) (img : List Nat) (k : Nat) : Nat := if k < k0 then img.getD k 0 else n + (k - k0)
def SC.ren (σ : Nat → Nat) : SC → SC
  | .v x => .v x
  | .p i j => .p (σ i) j
  | .n i => .n (σ i)
  | .q i sz e j => .q (σ i) sz e j
def renL (σ : Nat → Nat) : List SC → List SC
  | [] => []
  | x :: l => x.ren σ :: renL σ l
def S1.ren (σ : Nat → Nat) : S1 → S1
  | .c x => .c (x.ren σ)
  | .a cs => .a (renL σ cs)
def ren1L (σ : Nat → Nat) : List S1 → List S1
  | [] => []
  | x :: l => x.ren σ :: ren1L σ l
def SV.ren (σ : Nat → Nat) : SV → SV
  | .o x => .o (x.ren σ)
  | .t xs => .t (ren1L σ xs)
  | .g b x => .g b (x.ren σ)
def Ent.ren (σ : Nat → Nat) : Ent → Ent
  | .box cs ty => .box (renL σ cs) ty
  | .ro n sz f => .ro n sz (fun e j => (f e j).ren σ)
  | .own n sz f ty => .own n sz (fun e j => (f e j).ren σ) ty
  | .nils => .nils
  | .dead => .dead
def renE (σ : Nat → Nat) : List (Nat × Ent) → List (Nat × Ent)
  | [] => []
  | (i, e) :: l => (σ i, e.ren σ) :: renE σ l

theorem SC.den_ren (σ : Nat → Nat) (r : Rho) (x : SC) : (x.ren σ).den r = x.den (fun i => r (σ i)) := by cases x <;> rfl
theorem renL_eq (σ : Nat → Nat) : ∀ l, renL σ l = l.map (SC.ren σ)
  | [] => rfl
  | x :: l => by simp [renL, renL_eq σ l]
theorem ren1L_eq (σ : Nat → Nat) : ∀ l, ren1L σ l = l.map (S1.ren σ)
  | [] => rfl
  | x :: l => by simp [ren1L, ren1L_eq σ l]
theorem S1.den_ren (σ : Nat → Nat) (r : Rho) (x : S1) : (x.ren σ).den r = x.den (fun i => r (σ i)) := by
  cases x with
  | c x => exact SC.den_ren σ r x
  | a cs => simp only [S1.den, S1.ren, renL_eq, List.map_map]; congr 2; exact List.map_congr_left fun x _ => SC.den_ren σ r x
theorem SV.den_ren (σ : Nat → Nat) (r : Rho) (x : SV) : (x.ren σ).den r = x.den (fun i => r (σ i)) := by
  cases x with
  | o x => exact S1.den_ren σ r x
  | g b x => simp only [SV.den, SV.ren]; rw [S1.den_ren]
  | t xs => simp only [SV.den, SV.ren, ren1L_eq, List.map_map]; congr 2; exact List.map_congr_left fun x _ => S1.den_ren σ r x
theorem SC.sc_ren {σ : Nat → Nat} {m : Nat → Prop} {x : SC} : (x.ren σ).sc m ↔ x.sc (fun i => m (σ i)) := by cases x <;> exact Iff.rfl
theorem renL_sc {σ : Nat → Nat} {m : Nat → Prop} : ∀ {l : List SC}, scL m (renL σ l) ↔ scL (fun i => m (σ i)) l
  | [] => Iff.rfl
  | x :: l => by simp only [renL, scL, SC.sc_ren, renL_sc]
theorem S1.sc_ren {σ : Nat → Nat} {m : Nat → Prop} {x : S1} : sc1 m (x.ren σ) ↔ sc1 (fun i => m (σ i)) x := by
  cases x with
  | c x => exact SC.sc_ren
  | a cs => exact renL_sc
theorem ren1L_sc {σ : Nat → Nat} {m : Nat → Prop} : ∀ {l : List S1}, sc1L m (ren1L σ l) ↔ sc1L (fun i => m (σ i)) l
  | [] => Iff.rfl
  | x :: l => by simp only [ren1L, sc1L, S1.sc_ren, ren1L_sc]
theorem SV.sc_ren {σ : Nat → Nat} {m : Nat → Prop} {x : SV} : scV m (x.ren σ) ↔ scV (fun i => m (σ i)) x := by
  cases x with
  | o x => exact S1.sc_ren
  | g b x => exact S1.sc_ren
  | t xs => exact ren1L_sc
theorem Ent.sc_ren {σ : Nat → Nat} {m : Nat → Prop} {x : Ent} : scE m (x.ren σ) ↔ scE (fun i => m (σ i)) x := by
  cases x with
  | box cs ty => exact renL_sc
  | ro n sz f => exact forall_congr' fun e => forall_congr' fun j => SC.sc_ren
  | own n sz f ty => exact forall_congr' fun e => forall_congr' fun j => SC.sc_ren
  | nils => exact Iff.rfl
  | dead => exact Iff.rfl

theorem scL_iff {m : Nat → Prop} : ∀ {l : List SC}, scL m l ↔ ∀ x ∈ l, x.sc m
  | [] => by simp [scL]
  | x :: l => by simp [scL, scL_iff]
theorem sc1_iff {m : Nat → Prop} {x : S1} : sc1 m x ↔ x.sc m := by
  cases x with
  | c x => exact Iff.rfl
  | a cs => exact scL_iff
theorem sc1L_iff {m : Nat → Prop} : ∀ {l : List S1}, sc1L m l ↔ ∀ x ∈ l, x.sc m
  | [] => by simp [sc1L]
  | x :: l => by simp [sc1L, sc1L_iff, sc1_iff]
theorem scV_iff {m : Nat → Prop} {x : SV} : scV m x ↔ x.sc m := by
  cases x with
  | o x => exact sc1_iff
  | g b x => exact sc1_iff
  | t xs => exact sc1L_iff
theorem scE_iff {m : Nat → Prop} {x : Ent} : scE m x ↔ x.sc m := by
  cases x with
  | box cs ty => exact scL_iff
  | ro n sz f => exact Iff.rfl
  | own n sz f ty => exact Iff.rfl
  | nils => exact Iff.rfl
  | dead => exact Iff.rfl

theorem renE_lk {σ : Nat → Nat} : ∀ {l : List (Nat × Ent)} {i : Nat} {e : Ent}, lk (renE σ l) i = some e → ∃ k e', (k, e') ∈ l ∧ σ k = i ∧ e = e'.ren σ
  | (k, x) :: l, i, e, h => by
    simp only [renE, lk] at h
    split at h
    · rename_i hk; cases h; exact ⟨k, x, by simp, hk, rfl⟩
    · obtain ⟨k', e', h1, h2⟩ := renE_lk h
      exact ⟨k', e', by simp [h1], h2⟩

/-- Every name that the condition begins with has a piece of memory. -/
def covers (cn : List (Nat × Ent)) : Nat → Bool
  | 0 => true
  | k + 1 => (lk cn k).isSome && covers cn k
/-- The caller's pieces say what the condition begins with. -/
def inE (E : Nat → Option Ent) (σ : Nat → Nat) : List (Nat × Ent) → Prop
  | [] => True
  | (k, e) :: l => (∃ e0, E (σ k) = some e0 ∧ leE (SC.ren σ) e0 e) ∧ inE E σ l
def inE0 (E : Nat → Option Ent) (σ : Nat → Nat) : List (Nat × Ent) → Prop
  | [] => True
  | (k, _) :: l => (∃ e0, E (σ k) = some e0) ∧ inE0 E σ l
/-- What may be written has a name of its own. -/
def apartE (σ : Nat → Nat) : List (Nat × Ent) → List (Nat × Ent) → Prop
  | [], _ => True
  | (k, e) :: l, all => (e.mut = true → ∀ k' e', (k', e') ∈ all → k' ≠ k → σ k' ≠ σ k) ∧ apartE σ l all
def keysNodup : List (Nat × Ent) → Prop
  | [] => True
  | (k, _) :: l => outN k (keys l) ∧ keysNodup l
/-- What may be written is told. -/
def told (ents : List (Nat × Ent)) : List (Nat × Ent) → Bool
  | [] => true
  | (k, e) :: l => (!e.mut || (lk ents k).isSome) && told ents l
def rowLen : Ent → Nat
  | .ro n _ _ => n
  | .own n _ _ _ => n
  | _ => 0
def Lens (E : Nat → Option Ent) : Prop := ∀ i e, E i = some e → rowLen e ≤ 9223372036854775807

theorem HeapRel.lens {E : Nat → Option Ent} (h : HeapRel base M r E w) : Lens E := by
  intro i e he
  have := h.ent i e he
  cases e with
  | box cs ty => simp [rowLen]
  | ro n sz f => obtain ⟨a, cap, _, _, hm, _⟩ := this; exact hm
  | own n sz f ty => exact this.1
  | nils => simp [rowLen]
  | dead => simp [rowLen]

end
end Go.Sx
