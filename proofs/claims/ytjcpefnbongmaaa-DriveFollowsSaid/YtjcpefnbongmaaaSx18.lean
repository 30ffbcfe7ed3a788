/- A part of the proof of a statement about this seat: how a function is stepped through, and plain laws. No conditions. -/
import Derived.Test.YtjcpefnbongmaaaSx17
set_option linter.unusedVariables false
set_option linter.unusedSimpArgs false
namespace Go.Sx
open Go.RowKit

inductive XR where
  | s (t : Nat)
  | b1 (a : Nat)
  | bn (a n : Nat)

def xres (P : Program) : List ResultVar → Option (List XR)
  | [] => some []
  | .tmp t :: l => match xres P l with
    | some xs => some (.s t :: xs)
    | none => none
  | .cell a t :: l => match P.underlying t with
    | some d => match xres P l with
      | some xs => if isAggD d then (match P.info? t with
        | some i => some (.bn a i.size :: xs)
        | none => none) else some (.b1 a :: xs)
      | none => none
    | none => none

structure XFn where
  n : Nat
  code : XC
  res : List XR

def xfn (P : Program) (fn : Func) : Option XFn :=
  match fn.body with
  | some c => match xcode P fn.ntmps c with
    | some x => match xres P fn.results.toList with
      | some l => some ⟨fn.ntmps, x, l⟩
      | none => none
    | none => none
  | none => none

def ret1 (S : St) : XR → Option (Prop × S1)
  | .s t => rd S.env (.t t)
  | .b1 a => match rd S.env (.t a) with
    | some (p, x) => match qLoad1 (lk S.ents) [x] with
      | some (q, y) => some (p ∧ q, y)
      | none => none
    | none => none
  | .bn a n => match rd S.env (.t a) with
    | some (p, x) => match qLoadN (lk S.ents) n [x] with
      | some (q, y) => some (p ∧ q, y)
      | none => none
    | none => none

def rets (S : St) : List XR → Option (Prop × List S1)
  | [] => some (True, [])
  | x :: l => match ret1 S x with
    | some (p, y) => match rets S l with
      | some (q, ys) => some (p ∧ q, y :: ys)
      | none => none
    | none => none

def retV : List S1 → SV
  | [x] => .o x
  | xs => .t xs

def kRet (res : List XR) (Q : SV → St → Prop) : Kont
  | .ex _, _ => False
  | .norm, S => match rets S res with
    | some (p, xs) => p ∧ Q (retV xs) S
    | none => False
  | .ret, S => match rets S res with
    | some (p, xs) => p ∧ Q (retV xs) S
    | none => False

def env0 : Nat → List S1 → List (Nat × SV)
  | _, [] => []
  | k, x :: xs => (k, .o x) :: env0 (k + 1) xs

def vcF (Γ : Nat → Con) (X : XFn) (args : List S1) (ents : List (Nat × Ent)) (n0 : Nat) (Q : SV → St → Prop) : Prop :=
  args.length ≤ X.n ∧ vcC Γ n0 X.code ⟨env0 0 args, ents, n0⟩ (kRet X.res Q)

section
variable {P : Program} {base : World} {M : Nat → Prop} {N n0 : Nat} {r0 r : Rho} {S : St} {a : Act} {w : World}

def resOne (tmps : Array Value) : ResultVar → Go.Sem Value
  | .tmp t => pure (tmps.getD t undef)
  | .cell b t => do loadVar t (← asAddr (tmps.getD b undef))

theorem results_eq (fn : Func) (tmps : Array Value) : results fn tmps = (do
    let vs ← fn.results.mapM (resOne tmps)
    pure (if h : vs.size = 1 then vs[0] else .tuple vs)) := by
  unfold results
  congr 2

theorem ret1_sound {x : XR} {rv : ResultVar} {p : Prop} {y : S1} (hr : Rel base M N n0 r0 r S a w) (hx : xres P [rv] = some [x]) (h : ret1 S x = some (p, y)) (hp : p) :
    (resOne a.tmps rv).run P w = .ok (y.den r) w ∧ y.sc (upto S.next) := by
  cases rv with
  | tmp t =>
    simp only [xres, Option.some.injEq, List.cons.injEq, and_true] at hx
    subst hx
    simp only [ret1] at h
    refine ⟨?_, rd_sc hr h⟩
    have := rd_sound hr h hp
    simp only [XO.val] at this
    simp only [resOne, Sem.run_pure, this]
  | cell b t =>
    simp only [xres] at hx
    split at hx
    · rename_i d hu
      split at hx
      · rename_i hd
        split at hx
        · rename_i i hi
          simp only [Option.some.injEq, List.cons.injEq, and_true] at hx
          subst hx
          simp only [ret1] at h
          split at h
          · rename_i p1 z hrd
            split at h
            · rename_i q y' hq
              cases h
              have hz := rd_sound hr hrd hp.1
              simp only [XO.val] at hz
              have hsc := opQ_sc (op := .loadN i.size) (ys := [z]) hr.scH (by intro y' hy'; simp only [List.mem_singleton] at hy'; subst hy'; exact rd_sc hr hrd) hq
              refine ⟨?_, hsc⟩
              have hl := sound_loadN (P := P) (o := ⟨none, .load t (.tmp b), 0, "", #[], none⟩) (a := a) (t := t) (x := .tmp b) (ys := [z]) hr.heap rfl hu hd hi hz hq hp.2
              unfold Yields at hl
              simp only [execOp, Act.eval, Instr.loadAt, Sem.run_bind] at hl
              simp only [resOne, Sem.run_bind]
              rw [hz] at hl ⊢
              unfold qLoadN at hq
              split at hq
              · rename_i heq; cases heq
                simp only [S1.den, SC.den, Instr.sureAddr, asAddr, Sem.run_bind, Sem.run_pure, Result.andThen_ok] at hl ⊢
                generalize (loadVar t _).run P w = res at hl ⊢
                cases res with
                | ok v w' => simp only [Result.andThen_ok, Result.ok.injEq, Next.value.injEq] at hl; simp only [hl.1, hl.2]
                | halt x w' => simp at hl
              · rename_i heq; cases heq
                simp only [S1.den, SC.den, Instr.sureAddr, asAddr, Sem.run_bind, Sem.run_pure, Result.andThen_ok] at hl ⊢
                generalize (loadVar t _).run P w = res at hl ⊢
                cases res with
                | ok v w' => simp only [Result.andThen_ok, Result.ok.injEq, Next.value.injEq] at hl; simp only [hl.1, hl.2]
                | halt x w' => simp at hl
              · cases hq
            · cases h
          · cases h
        · cases hx
      · rename_i hd
        simp only [Option.some.injEq, List.cons.injEq, and_true] at hx
        subst hx
        simp only [ret1] at h
        split at h
        · rename_i p1 z hrd
          split at h
          · rename_i q y' hq
            cases h
            have hz := rd_sound hr hrd hp.1
            simp only [XO.val] at hz
            have hsc := opQ_sc (op := .load1) (ys := [z]) hr.scH (by intro y' hy'; simp only [List.mem_singleton] at hy'; subst hy'; exact rd_sc hr hrd) hq
            refine ⟨?_, hsc⟩
            have hl := sound_load1 (P := P) (o := ⟨none, .load t (.tmp b), 0, "", #[], none⟩) (a := a) (t := t) (x := .tmp b) (xs := []) (ys := [z]) hr.heap rfl hu (by simpa using hd) hz hq hp.2
            unfold Yields at hl
            simp only [execOp, Act.eval, Instr.loadAt, Sem.run_bind] at hl
            simp only [resOne, Sem.run_bind]
            rw [hz] at hl ⊢
            unfold qLoad1 at hq
            split at hq
            · rename_i heq; cases heq
              simp only [S1.den, SC.den, Instr.sureAddr, asAddr, Sem.run_bind, Sem.run_pure, Result.andThen_ok] at hl ⊢
              generalize (loadVar t _).run P w = res at hl ⊢
              cases res with
              | ok v w' => simp only [Result.andThen_ok, Result.ok.injEq, Next.value.injEq] at hl; simp only [hl.1, hl.2]
              | halt x w' => simp at hl
            · rename_i heq; cases heq
              simp only [S1.den, SC.den, Instr.sureAddr, asAddr, Sem.run_bind, Sem.run_pure, Result.andThen_ok] at hl ⊢
              generalize (loadVar t _).run P w = res at hl ⊢
              cases res with
              | ok v w' => simp only [Result.andThen_ok, Result.ok.injEq, Next.value.injEq] at hl; simp only [hl.1, hl.2]
              | halt x w' => simp at hl
            · cases hq
          · cases h
        · cases h
    · cases hx

theorem xres_cons {rv : ResultVar} {l : List ResultVar} {xl : List XR} (h : xres P (rv :: l) = some xl) : ∃ x xs, xl = x :: xs ∧ xres P [rv] = some [x] ∧ xres P l = some xs := by
  cases rv with
  | tmp t =>
    simp only [xres] at h ⊢
    split at h
    · rename_i xs hxs; cases h; exact ⟨_, xs, rfl, rfl, hxs⟩
    · cases h
  | cell b t =>
    simp only [xres] at h ⊢
    split at h
    · rename_i d hu
      split at h
      · rename_i xs hxs
        split at h
        · rename_i hd
          split at h
          · rename_i i hi; cases h; exact ⟨_, xs, rfl, by simp [hd], hxs⟩
          · cases h
        · rename_i hd; cases h; exact ⟨_, xs, rfl, by simp [hd], hxs⟩
      · cases h
    · cases h

theorem rets_sound (hr : Rel base M N n0 r0 r S a w) : ∀ {l : List ResultVar} {xl : List XR} {p : Prop} {ys : List S1}, xres P l = some xl → rets S xl = some (p, ys) → p →
    (l.mapM (resOne a.tmps)).run P w = .ok (ys.map (S1.den r)) w ∧ ∀ y ∈ ys, y.sc (upto S.next)
  | [], xl, p, ys, hx, h, hp => by
    simp only [xres, Option.some.injEq] at hx; subst hx
    simp only [rets, Option.some.injEq, Prod.mk.injEq] at h
    obtain ⟨_, rfl⟩ := h
    exact ⟨rfl, fun y hy => by cases hy⟩
  | rv :: l, xl, p, ys, hx, h, hp => by
    obtain ⟨x, xs, rfl, h1, h2⟩ := xres_cons hx
    simp only [rets] at h
    split at h
    · rename_i p1 y hy
      split at h
      · rename_i q ys' hys
        cases h
        obtain ⟨e1, s1⟩ := ret1_sound hr h1 hy hp.1
        obtain ⟨e2, s2⟩ := rets_sound hr h2 hys hp.2
        refine ⟨?_, fun z hz => by cases hz with | head => exact s1 | tail _ hm => exact s2 z hm⟩
        simp only [List.mapM_cons, Sem.run_bind]
        rw [e1]
        simp only [Result.andThen_ok]
        rw [e2]
        simp
      · cases h
    · cases h

theorem env0_lk : ∀ (xs : List S1) (k s : Nat) (v : SV), lk (env0 k xs) s = some v → k ≤ s ∧ ∃ x, v = .o x ∧ xs[s - k]? = some x
  | [], k, s, v, h => by cases h
  | x :: xs, k, s, v, h => by
    simp only [env0, lk] at h
    split at h
    · rename_i e; subst e; cases h; exact ⟨Nat.le_refl _, x, rfl, by simp⟩
    · rename_i e
      obtain ⟨h1, y, h2, h3⟩ := env0_lk xs (k + 1) s v h
      refine ⟨by omega, y, h2, ?_⟩
      have : s - k = (s - (k + 1)) + 1 := by omega
      rw [this, List.getElem?_cons_succ]
      exact h3

theorem calls_vc {f : Nat} {fn : Func} {X : XFn} {Γ : Nat → Con} {args : List S1} {ents : List (Nat × Ent)} {Q : SV → St → Prop} (hf : P.funcs[f]? = some fn) (hx : xfn P fn = some X) (hΓ : ∀ f, COk P f (Γ f))
    (h : vcF Γ X args ents n0 Q) (hh : HeapRel base M r (lk ents) w) (hargs : ∀ x ∈ args, S1.sc (upto n0) x) (hents : ∀ i e, lk ents i = some e → i < n0 ∧ e.sc (upto n0)) :
    Calls P f (args.map (S1.den r)).toArray w (fun e w' => ∃ r' v S, (∀ i, i < n0 → r' i = r i) ∧ e = .returned (v.den r') ∧ Q v S ∧ HeapRel base M r' (lk S.ents) w' ∧ v.sc (upto S.next) ∧ n0 ≤ S.next ∧
      (∀ i e, lk S.ents i = some e → i < S.next ∧ e.sc (upto S.next))) := by
  unfold xfn at hx
  split at hx
  · rename_i c hbody
    split at hx
    · rename_i x hxc
      split at hx
      · rename_i l hl
        cases hx
        obtain ⟨hlen, hvc⟩ := h
        simp only at hlen hvc
        refine calls_of_wp hf hbody ?_
        have hrel : Rel base M fn.ntmps n0 r r ⟨env0 0 args, ents, n0⟩ { tmps := (args.map (S1.den r)).toArray ++ Array.replicate (fn.ntmps - (args.map (S1.den r)).toArray.size) undef, defers := [] } w := by
          refine ⟨rfl, ?_, ?_, hh, ?_, hents, Nat.le_refl _, fun _ _ => rfl⟩
          · simp; omega
          · intro s v hlk
            obtain ⟨_, y, rfl, hy⟩ := env0_lk args 0 s v hlk
            simp only [Nat.sub_zero] at hy
            have hs := (List.getElem?_eq_some_iff.1 hy).1
            rw [Array.getD_eq_getD_getElem?, Array.getElem?_append, if_pos (by simpa using hs)]
            simp [hy, SV.den]
          · intro s v hlk
            obtain ⟨_, y, rfl, hy⟩ := env0_lk args 0 s v hlk
            exact hargs y (List.mem_of_getElem? hy)
        refine wp_mono (vcC_sound hΓ c x _ _ hxc hvc r _ w hrel) ?_
        rintro e a' w' ⟨xe, r', S', hxe, hK, hr'⟩
        have fin : ∀ (hh : (match rets S' l with | some (p, xs) => p ∧ Q (retV xs) S' | none => False)), a'.defers = [] ∧ ∃ v, (results fn a'.tmps).run P w' = .ok v w' ∧
            ∃ r2 v2 S2, (∀ i, i < n0 → r2 i = r i) ∧ Ending.returned v = .returned (SV.den r2 v2) ∧ Q v2 S2 ∧ HeapRel base M r2 (lk S2.ents) w' ∧ v2.sc (upto S2.next) ∧ n0 ≤ S2.next ∧
              (∀ i e, lk S2.ents i = some e → i < S2.next ∧ e.sc (upto S2.next)) := by
          intro hh
          split at hh
          · rename_i p xs hrets
            obtain ⟨e1, s1⟩ := rets_sound hr' hl hrets hh.1
            refine ⟨hr'.defers, (retV xs).den r', ?_, r', retV xs, S', hr'.keep, rfl, hh.2, hr'.heap, ?_, hr'.low, hr'.scH⟩
            · rw [results_eq, Array.mapM_eq_mapM_toList]
              simp only [Sem.run_bind, Sem.run_map, e1, Result.andThen_ok]
              match xs with
              | [] => simp [retV, SV.den]
              | [x] => simp [retV, SV.den]
              | x :: y :: zs => simp [retV, SV.den]
            · match xs, s1 with
              | [], s1 => exact fun y hy => by cases hy
              | [x], s1 => exact s1 x (by simp)
              | x :: y :: zs, s1 => exact s1
          · exact hh.elim
        cases e <;> simp only [XE.ofExit, Option.some.injEq, reduceCtorEq] at hxe
        · subst hxe; exact fin hK
        · subst hxe; exact hK.elim
        · subst hxe; exact fin hK
      · cases hx
    · cases hx
  · cases hx

/-- No piece of memory known. -/
theorem HeapRel.init (w : World) (r : Rho) (hr : ∀ i, (r i).oneCell' = true) : HeapRel w (fun _ => False) r (lk []) w :=
  ⟨Nat.le_refl _, hr, rfl, rfl, rfl, fun _ _ _ => rfl, (fun i e h => by cases h), (fun i j e e' _ h => by cases h), (fun i e h => by cases h)⟩

theorem HeapRel.toBelow {r : Rho} {E : Nat → Option Ent} {w w' : World} (h : HeapRel w (fun _ => False) r E w') : Below w.heap.size w w' :=
  ⟨h.os, h.tape, h.output, h.size, fun b hb => h.frame b hb id⟩

theorem sc1L_sound {m : Nat → Prop} : ∀ {l : List S1}, sc1L m l → ∀ y ∈ l, y.sc m
  | [], _, y, hy => by cases hy
  | z :: l, hl, y, hy => by
    cases hy with
    | head => exact sc1_sound hl.1
    | tail _ hm => exact sc1L_sound hl.2 y hm

/-- A contract on plain values. -/
def plain (sp : List S1 → Option (Prop × SV)) : Con := fun args _ _ =>
  match sp args with
  | some (pre, res) => some (.q pre res)
  | none => none


theorem S1.den_zero {r r' : Rho} {x : S1} (h : x.sc (upto 0)) : x.den r = x.den r' := S1.den_ext (m := upto 0) (fun i hi => absurd hi (Nat.not_lt_zero i)) h
theorem SV.den_zero {r r' : Rho} {x : SV} (h : x.sc (upto 0)) : x.den r = x.den r' := SV.den_ext (m := upto 0) (fun i hi => absurd hi (Nat.not_lt_zero i)) h

theorem cok_plain {f : Nat} {fn : Func} {X : XFn} {Γ : Nat → Con} {sp : List S1 → Option (Prop × SV)} (hf : P.funcs[f]? = some fn) (hx : xfn P fn = some X) (hb : bodied P f = true) (hΓ : ∀ f, COk P f (Γ f))
    (h : ∀ args pre res, sp args = some (pre, res) → sc1L (upto 0) args ∧ scV (upto 0) res ∧ (pre → vcF Γ X args [] 0 (fun v _ => v = res))) : COk P f (plain sp) := by
  intro args E n hargs hE
  unfold plain
  cases hsp : sp args with
  | none => trivial
  | some pr =>
    obtain ⟨pre, res⟩ := pr
    obtain ⟨ha, hres, hv⟩ := h args pre res hsp
    have ha := sc1L_sound ha
    have hres := scV_sound hres
    refine ⟨SV.sc_mono (upto_mono (Nat.zero_le _)) hres, fun hp => ⟨hb, fun base M r w hh => ?_⟩⟩
    refine (calls_vc hf hx hΓ (hv hp) (HeapRel.init w r hh.one) ha (fun i e h => by cases h)).mono ?_
    rintro e w' ⟨r', v, S, _, rfl, rfl, hw', _⟩
    exact ⟨by rw [SV.den_zero (r := r') (r' := r) hres], hw'.toBelow⟩

theorem cok_tab {l : List (Nat × Con)} (h : ∀ f g, lk l f = some g → COk P f g) : ∀ f, COk P f (tab l f) := by
  intro f args E n ha hE
  unfold tab
  cases hg : lk l f with
  | none => trivial
  | some g => exact h f g hg args E n ha hE

theorem cok_nil : ∀ f g, lk ([] : List (Nat × Con)) f = some g → COk P f g := fun f g h => by cases h
theorem cok_cons {f : Nat} {g : Con} {l : List (Nat × Con)} (h : COk P f g) (hl : ∀ f g, lk l f = some g → COk P f g) : ∀ f' g', lk ((f, g) :: l) f' = some g' → COk P f' g' := by
  intro f' g' h'
  simp only [lk] at h'
  split at h'
  · rename_i e; subst e; cases h'; exact h
  · exact hl f' g' h'

end
end Go.Sx
