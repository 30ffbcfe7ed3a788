/- A part of the proof of a statement about this seat: how a function is stepped through, and plain laws. No conditions. -/
import Derived.Test.YtgdglgcfmebonaaSx16b
set_option linter.unusedVariables false
set_option linter.unusedSimpArgs false
namespace Go.Sx
open Go.RowKit

def readsX (x : XOper) (S : St) : List Nat :=
  match rds S.env x.args with
  | some (_, ys) => reach (lk S.ents) (ids1L ys)
  | none => []

def recOf (Γ : Nat → Con) (c : Nat) (x : XOper) (S : St) : Option (Prop × Rec) :=
  match evQ Γ x S with
  | some (p, v) => some (p, ⟨x.dst, v, [], c, 0, usesX x, readsX x S⟩)
  | none => recEff Γ c x S

/-- The footprint of an operation: the slot that it writes; the slots that it looks at; the pieces that it reads; the pieces that it writes. -/
structure Foot where
  d : Option Nat
  uses : List Nat
  rd : List Nat
  wr : List Nat

def keys : List (Nat × Ent) → List Nat
  | [] => []
  | (i, _) :: l => i :: keys l

def Rec.foot (t : Rec) : Foot := ⟨t.d, t.uses, t.rd, keys t.us⟩

def inO : Option Nat → List Nat → Bool
  | some i, l => memN i l
  | none, _ => false
def eqO : Option Nat → Option Nat → Bool
  | some i, some j => i == j
  | _, _ => false
def meets : List Nat → List Nat → Bool
  | [], _ => false
  | i :: l, k => memN i k || meets l k

/-- Two operations that must stand in one order. -/
def clash (x y : Foot) : Bool :=
  inO x.d y.uses || inO y.d x.uses || eqO x.d y.d || meets x.wr y.rd || meets y.wr x.rd || meets x.wr y.wr

/-- Every two operations that clash stand in order: the earlier among those that the later waits for. -/
def indepAt (y : Foot) (pre : List Nat) : Nat → List Foot → Bool
  | _, [] => true
  | k, x :: l => (!clash x y || memN k pre) && indepAt y pre (k + 1) l

def indep : List Foot → List Foot → List (List Nat) → Bool
  | _, [], _ => true
  | done, y :: l, pre :: ps => indepAt y pre 0 done && indep (done ++ [y]) l ps
  | _, _ :: _, [] => false

def vcDgo (Γ : Nat → Con) (preds : List (List Nat)) : List XOper → Nat → Nat → St → List Foot → (St → Prop) → Prop
  | [], c, m, S, acc, K => c ≤ m ∧ indep [] acc preds = true ∧ K S
  | x :: l, c, m, S, acc, K => match recOf Γ c x S with
    | some (p, t) => p ∧ vcDgo Γ preds l (c + t.al) m (pushR t S) (acc ++ [t.foot]) K
    | none => False

/-- How many names are kept for a region. -/
def nRes : List XOper → Nat
  | [] => 0
  | _ :: l => 2 + nRes l

/-- A region whose order is open, with writes. -/
def vcD (Γ : Nat → Con) (preds : List (List Nat)) (l : List XOper) (S : St) (K : St → Prop) : Prop :=
  vcDgo Γ preds l S.next (S.next + nRes l) ⟨S.env, S.ents, S.next + nRes l⟩ [] K

/-! ### What the lexical run shows -/

def stL : List Rec → (Nat → Bool) → Nat → St → St
  | [], _, _, S => S
  | t :: ts, L, k, S => stL ts L (k + 1) (if L k = true then pushR t S else S)

inductive Run (Γ : Nat → Con) : List XOper → Nat → St → List Rec → Nat → St → Prop where
  | nil {c : Nat} {S : St} : Run Γ [] c S [] c S
  | cons {x : XOper} {l : List XOper} {c c' : Nat} {S S' : St} {p : Prop} {t : Rec} {ts : List Rec} : recOf Γ c x S = some (p, t) → p → Run Γ l (c + t.al) (pushR t S) ts c' S' → Run Γ (x :: l) c S (t :: ts) c' S'

theorem run_of_vcDgo {Γ : Nat → Con} {preds : List (List Nat)} {K : St → Prop} : ∀ {l : List XOper} {c m : Nat} {S : St} {acc : List Foot}, vcDgo Γ preds l c m S acc K →
    ∃ ts c' S', Run Γ l c S ts c' S' ∧ c' ≤ m ∧ indep [] (acc ++ ts.map Rec.foot) preds = true ∧ K S'
  | [], c, m, S, acc, h => ⟨[], c, S, .nil, h.1, by simpa using h.2.1, h.2.2⟩
  | x :: l, c, m, S, acc, h => by
    simp only [vcDgo] at h
    split at h
    · rename_i p t ht
      obtain ⟨ts, c', S', hr, hc, hi, hk⟩ := run_of_vcDgo h.2
      exact ⟨t :: ts, c', S', .cons ht h.1 hr, hc, by simpa using hi, hk⟩
    · exact h.elim

theorem Run.final {Γ : Nat → Con} {l : List XOper} {c c' : Nat} {S S' : St} {ts : List Rec} (h : Run Γ l c S ts c' S') : ∀ (L : Nat → Bool) (k : Nat), (∀ i, k ≤ i → i < k + ts.length → L i = true) → stL ts L k S = S' := by
  induction h with
  | nil => intro L k _; rfl
  | cons ht hp hr ih =>
    intro L k hL
    simp only [stL]
    rw [if_pos (hL k (Nat.le_refl _) (by simp))]
    exact ih L (k + 1) (fun i h1 h2 => hL i (by omega) (by simp; omega))

theorem Run.len {Γ : Nat → Con} {l : List XOper} {c c' : Nat} {S S' : St} {ts : List Rec} (h : Run Γ l c S ts c' S') : ts.length = l.length := by
  induction h with
  | nil => rfl
  | cons _ _ _ ih => simp [ih]
theorem Run.le {Γ : Nat → Con} {l : List XOper} {c c' : Nat} {S S' : St} {ts : List Rec} (h : Run Γ l c S ts c' S') : c ≤ c' := by
  induction h with
  | nil => exact Nat.le_refl _
  | cons _ _ _ ih => omega

theorem recOf_c {Γ : Nat → Con} {c : Nat} {x : XOper} {S : St} {p : Prop} {t : Rec} (h : recOf Γ c x S = some (p, t)) : t.c = c := by
  unfold recOf at h
  split at h
  · cases h; rfl
  · unfold recEff at h
    split at h
    · cases h
    · split at h
      · split at h
        · cases h; rfl
        · cases h
      · cases h

theorem stL_pre : ∀ (ts : List Rec) (b m : Nat) (S : St), b ≤ m → stL ts (fun i => decide (i < b)) m S = S
  | [], _, _, _, _ => rfl
  | t :: ts, b, m, S, h => by
    simp only [stL]
    rw [if_neg (by simp; omega)]
    exact stL_pre ts b (m + 1) S (by omega)

/-- What is in scope of the lexical state. -/
structure InSc (m : Nat → Prop) (S : St) : Prop where
  env : ∀ s v, lk S.env s = some v → SV.sc m v
  ent : ∀ i e, lk S.ents i = some e → m i ∧ e.sc m

theorem InSc.mono {m m' : Nat → Prop} {S : St} (h : InSc m S) (hm : ∀ i, m i → m' i) : InSc m' S :=
  ⟨fun s v hl => SV.sc_mono hm (h.env s v hl), fun i e hl => ⟨hm i (h.ent i e hl).1, Ent.sc_mono hm (h.ent i e hl).2⟩⟩

theorem InSc.push {m : Nat → Prop} {S : St} {t : Rec} (h : InSc m S) (hv : t.v.sc m) (hu : ∀ i e, lk t.us i = some e → m i ∧ e.sc m) : InSc m (pushR t S) := by
  refine ⟨fun s v hl => ?_, fun i e hl => ?_⟩
  · unfold pushR at hl
    simp only at hl
    split at hl
    · simp only [lk] at hl
      split at hl
      · cases hl; exact hv
      · exact h.env s v hl
    · exact h.env s v hl
  · unfold pushR at hl
    simp only at hl
    rw [lk_append] at hl
    unfold upd at hl
    split at hl
    · rename_i e' he'; cases hl; exact hu i _ he'
    · exact h.ent i e hl

section
variable {P : Program} {S : St}

theorem reach_sub (E : Nat → Option Ent) (l : List Nat) : ∀ i ∈ l, i ∈ reach E l := fun i hi => List.mem_append_left _ hi

/-- Everything in scope of what an operation finds is in scope of what it leaves. -/
theorem recOf_sc {Γ : Nat → Con} {x : XOper} {c : Nat} {p : Prop} {t : Rec} {m : Nat → Prop} (hΓ : ∀ f, COk P f (Γ f)) (h : recOf Γ c x S = some (p, t)) (hp : p) (hm : InSc m S) (hu : InSc (upto S.next) S)
    (hlow : ∀ p ys, rds S.env x.args = some (p, ys) → (∀ y ∈ ys, S1.sc (upto c) y) ∧ ∀ i e, resE (reach (lk S.ents) (ids1L ys)) (lk S.ents) i = some e → i < c ∧ e.sc (upto c))
    (hnew : ∀ i, c ≤ i → i < c + t.al → m i) : t.v.sc m ∧ ∀ i e, lk t.us i = some e → m i ∧ e.sc m := by
  unfold recOf at h
  split at h
  · rename_i p' v he
    cases h
    refine ⟨?_, fun i e hl => by cases hl⟩
    have hfin : ∀ {gd : Option Bool} {p q : Prop} {x : S1} {v : SV}, fin gd p x = some (q, v) → x.sc m → v.sc m := by
      intro gd p q x v h hx
      cases gd <;> (simp only [fin, Option.some.injEq, Prod.mk.injEq] at h; obtain ⟨_, rfl⟩ := h; exact hx)
    have hlow0 : ∀ i e, lk S.ents i = some e → i < S.next ∧ e.sc (upto S.next) := fun i e hi => hu.ent i e hi
    have hlow1 : ∀ {xs : List XO} {p : Prop} {ys : List S1}, rds S.env xs = some (p, ys) → ∀ y ∈ ys, S1.sc (upto S.next) y := fun h => rds_scG hu.env h
    have hcr : ∀ {gd : Option Bool} {p q : Prop} {v : SV} {f : Nat} {ys : List S1} {l : List Nat} {cr : Option CR}, (∀ y ∈ ys, S1.sc m y) → CROk P f ys (resE l (lk S.ents)) S.next cr → evCR gd p cr = some (q, v) → v.sc m := by
      intro gd p q v f ys l cr hy hc h
      unfold evCR at h
      split at h
      · exact hfin h (hc.1 m hy (fun i e hi => hm.ent i e (resE_sub i e hi)))
      · split at h
        · cases h; exact hc.1 m hy (fun i e hi => hm.ent i e (resE_sub i e hi))
        · cases h
      · cases h
    rename_i h'
    clear h'
    unfold evQ at he
    split at he
    · rename_i xs ht
      cases he
      unfold evTup at ht
      split at ht
      · cases ht
      · split at ht
        · split at ht
          · unfold tupOf at ht
            split at ht
            · split at ht
              · rename_i hl; cases ht; exact hm.env _ _ hl
              · cases ht
            · cases ht
          · cases ht
        · cases ht
    · unfold evQ0 at he
      split at he
      · cases he
      · split at he
        · split at he
          · unfold evPick at he
            split at he
            · exact hfin he trivial
            · cases he
          · cases he
        · unfold evExt at he
          split at he
          · split at he
            · rename_i hl
              split at he
              · rename_i x hx; exact hfin he (hm.env _ _ hl x (nth_mem hx))
              · cases he
            · cases he
          · cases he
        · split at he
          · rename_i hrd
            exact hcr (rds_scG hm.env hrd) (hΓ _ _ _ _ (hlow1 hrd) (fun i e h => hlow0 i e (resE_sub i e h))) he
          · cases he
        · split at he
          · rename_i hrd
            exact hcr (fun y hy => rds_scG hm.env hrd y (List.mem_cons_of_mem _ hy)) (hΓ _ _ _ _ (fun y hy => hlow1 hrd y (List.mem_cons_of_mem _ hy)) (fun i e h => hlow0 i e (resE_sub i e h))) he
          · cases he
        · cases he
        · cases he
        · cases he
        · cases he
        · cases he
        · cases he
        · cases he
        · split at he
          · rename_i hrd
            split at he
            · rename_i hq
              exact hfin he (opQ_sc hm.ent (rds_scG hm.env hrd) hq)
            · cases he
          · cases he
  · rename_i he
    unfold recEff at h
    split at h
    · cases h
    · split at h
      · rename_i p1 ys hrd
        split at h
        · rename_i q v us al heff
          cases h
          obtain ⟨h1, h2⟩ := effE_sc (m := m) hΓ (rds_scG hm.env hrd) hm.ent hnew (hlow _ _ hrd) heff hp.2
          exact ⟨h1, fun i e hl => (h2 i e hl).2⟩
        · cases h
      · cases h

/-- The lexical state stays in scope of the names taken so far. -/
theorem Run.at {Γ : Nat → Con} {l : List XOper} {c c' : Nat} {S S' : St} {ts : List Rec} (hΓ : ∀ f, COk P f (Γ f)) (h : Run Γ l c S ts c' S') : ∀ (k j : Nat) (t : Rec) (x : XOper), InSc (upto c) S → c' ≤ S.next → ts[j]? = some t → l[j]? = some x →
    ∃ p, c ≤ t.c ∧ t.c + t.al ≤ c' ∧ recOf Γ t.c x (stL ts (fun i => decide (i < k + j)) k S) = some (p, t) ∧ p ∧ InSc (upto t.c) (stL ts (fun i => decide (i < k + j)) k S) := by
  induction h with
  | nil => intro k j t x _ _ h; simp at h
  | @cons x0 l c c' S S' p0 t0 ts ht hp hr ih =>
    intro k j t x hs hcn h1 h2
    have hle := hr.le
    cases j with
    | zero =>
      simp only [List.getElem?_cons_zero, Option.some.injEq] at h1 h2
      subst h1; subst h2
      have e : stL (t0 :: ts) (fun i => decide (i < k + 0)) k S = S := stL_pre (t0 :: ts) (k + 0) k S (by omega)
      have hc := recOf_c ht
      rw [e, hc]
      exact ⟨p0, Nat.le_refl _, hle, ht, hp, hs⟩
    | succ j =>
      simp only [List.getElem?_cons_succ] at h1 h2
      have hsc := recOf_sc (m := upto (c + t0.al)) hΓ ht hp (hs.mono (upto_mono (by omega))) (hs.mono (upto_mono (by omega))) (fun p ys hrd => ⟨rds_scG hs.env hrd, fun i e hi => hs.ent i e (resE_sub i e hi)⟩) (fun i _ hi => hi)
      have hpush : InSc (upto (c + t0.al)) (pushR t0 S) := (hs.mono (upto_mono (by omega))).push hsc.1 hsc.2
      obtain ⟨p, hc, hc2, h3, h4, h5⟩ := ih (k + 1) j t x hpush (by unfold pushR; exact hcn) h1 h2
      have e : (fun i => decide (i < k + 1 + j)) = (fun i => decide (i < k + (j + 1))) := by funext i; congr 1; simp; omega
      rw [e] at h3 h5
      refine ⟨p, by omega, hc2, ?_, h4, ?_⟩
      · simp only [stL]
        rw [if_pos (by simp)]
        exact h3
      · simp only [stL]
        rw [if_pos (by simp)]
        exact h5

/-- New names are new: those of two operations are apart. -/
theorem Run.apart {Γ : Nat → Con} {l : List XOper} {c c' : Nat} {S S' : St} {ts : List Rec} (h : Run Γ l c S ts c' S') : ∀ (i j : Nat) (t t' : Rec), i < j → ts[i]? = some t → ts[j]? = some t' → t.c + t.al ≤ t'.c := by
  have first : ∀ {l : List XOper} {c c' : Nat} {S S' : St} {ts : List Rec}, Run Γ l c S ts c' S' → ∀ (j : Nat) (t' : Rec), ts[j]? = some t' → c ≤ t'.c := by
    intro l c c' S S' ts h
    induction h with
    | nil => intro j t' h; simp at h
    | @cons x0 l c c' S S' p0 t0 ts ht hp hr ih =>
      intro j t' hj
      cases j with
      | zero => simp only [List.getElem?_cons_zero, Option.some.injEq] at hj; subst hj; rw [recOf_c ht]; exact Nat.le_refl _
      | succ j => have := ih j t' (by simpa using hj); omega
  induction h with
  | nil => intro i j t t' _ h; simp at h
  | @cons x0 l c c' S S' p0 t0 ts ht hp hr ih =>
    intro i j t t' hij h1 h2
    cases i with
    | zero =>
      simp only [List.getElem?_cons_zero, Option.some.injEq] at h1
      subst h1
      cases j with
      | zero => omega
      | succ j => rw [recOf_c ht]; exact first hr j t' (by simpa using h2)
    | succ i =>
      cases j with
      | zero => omega
      | succ j => exact ih i j t t' (by omega) (by simpa using h1) (by simpa using h2)

theorem recOf_uses {Γ : Nat → Con} {c : Nat} {x : XOper} {S : St} {p : Prop} {t : Rec} (h : recOf Γ c x S = some (p, t)) : t.uses = usesX x ∧ ∀ q ys, rds S.env x.args = some (q, ys) → t.rd = reach (lk S.ents) (ids1L ys) := by
  unfold recOf at h
  split at h
  · cases h
    exact ⟨rfl, fun q ys hrd => by unfold readsX; rw [hrd]⟩
  · unfold recEff at h
    split at h
    · cases h
    · split at h
      · rename_i hrd
        split at h
        · cases h
          exact ⟨rfl, fun q ys hrd' => by rw [hrd] at hrd'; cases hrd'; rfl⟩
        · cases h
      · cases h

theorem InSc.congr {m : Nat → Prop} {S S2 : St} (h : InSc m S) (he : ∀ s, lk S2.env s = lk S.env s) (hh : ∀ s, lk S2.ents s = lk S.ents s) : InSc m S2 :=
  ⟨fun s v hl => h.env s v (by rw [← he]; exact hl), fun i e hl => h.ent i e (by rw [← hh]; exact hl)⟩

/-- What the lexical run says of an operation holds of it wherever it is carried out. -/
theorem rec_sound {base : World} {M : Scp} {N n0 : Nat} {r0 r : Rho} {a : Act} {w : World} {Γ : Nat → Con} {ops : Array Oper} {o : Oper} {xp : XOper} {c : Nat} {p : Prop} {t : Rec} {Next : Act → World → Prop} {Q : Exit → Act → World → Prop} (hΓ : ∀ f, COk P f (Γ f)) (hx : xop P ops o = some xp)
    (hd : ∀ s, xp.dst = some s → s < N) (h : recOf Γ c xp S = some (p, t)) (hp : p) (hr : Rel base M N n0 r0 r S a w) (hn0 : n0 ≤ c) (hcm : c + t.al ≤ S.next) (hav : InSc (nw c t.al) S)
    (hlow : ∀ p ys, rds S.env xp.args = some (p, ys) → (∀ y ∈ ys, S1.sc (upto c) y) ∧ ∀ i e, resE (reach (lk S.ents) (ids1L ys)) (lk S.ents) i = some e → i < c ∧ e.sc (upto c))
    (hN : ∀ r' a' w', Rel base M N n0 r0 r' (pushR t S) a' w' → Next a' w') :
    if Region.wanted o (yielded ops a.tmps) = true then o.wp P a w Next Q else Next (a.put o.dst undef) w := by
  unfold recOf at h
  split at h
  · rename_i p' v he
    cases h
    obtain ⟨gd, hg, hq⟩ := evQ_sound hΓ hx he hp hr
    rw [hg]
    have hdst := (xop_parts hx).2
    rw [hdst] at hd
    refine hq.go (K := fun S' => S' = S.put o.dst v) hr hd rfl (fun r' S' a' w' hS hr' => hN r' a' w' ?_)
    rw [hS, ← hdst] at hr'
    have e : S.put xp.dst v = pushR ⟨xp.dst, v, [], c, 0, usesX xp, readsX xp S⟩ S := by unfold St.put pushR; cases xp.dst <;> rfl
    rw [← e]; exact hr'
  · obtain ⟨hg, hw⟩ := rec_eff (Q := Q) (m := S.next) hΓ hx hd h hp hr hn0 hcm (Nat.le_refl _) hav.env hav.ent hlow hN
    rw [if_pos hg]
    exact hw

end
end Go.Sx
