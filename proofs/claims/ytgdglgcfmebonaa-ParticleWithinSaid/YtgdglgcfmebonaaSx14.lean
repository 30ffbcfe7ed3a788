/- A part of the proof of a statement about this seat: how a function is stepped through, and plain laws. No conditions. -/
import Derived.Test.YtgdglgcfmebonaaSx13
set_option linter.unusedVariables false
set_option linter.unusedSimpArgs false
namespace Go.Sx
open Go.RowKit

section
variable {P : Program} {base : World} {M : Scp} {N n0 : Nat} {r0 r : Rho} {S : St} {a : Act} {w : World}

theorem quietAt_of_yields {C : World → Prop} {o : Oper} {v : Value} (h : Yields P o a w v) : o.quietAt P a C w v := by
  unfold Oper.quietAt
  rw [show (execOp a.eval o).run P w = .ok (.value v) w from h]
  exact ⟨rfl, rfl⟩

theorem HeapRel.fewer {E E' : Nat → Option Ent} (h : HeapRel base M r E w) (hs : ∀ i e, E' i = some e → E i = some e) : HeapRel base M r E' w where
  size := h.size
  one := h.one
  os := h.os
  tape := h.tape
  output := h.output
  frame := h.frame
  ent := fun i e he => h.ent i e (hs i e he)
  apart := fun i j e e' hij he he' => h.apart i j e e' hij (hs i e he) (hs j e' he')
  mine := fun i e he => h.mine i e (hs i e he)
  src := fun i e he => h.src i e (hs i e he)

theorem resE_sub {l : List Nat} {E : Nat → Option Ent} : ∀ i e, resE l E i = some e → E i = some e := by
  intro i e h
  unfold resE at h
  split at h
  · exact h
  · cases h

theorem upto_mono {m n : Nat} (h : m ≤ n) : ∀ i, upto m i → upto n i := fun _ hi => Nat.lt_of_lt_of_le hi h

/-- What is shown of a quiet operation. -/
structure Qt (P : Program) (base : World) (M : Scp) (r : Rho) (S : St) (a : Act) (o : Oper) (gd : Option Bool) (v : SV) : Prop where
  sc : v.sc (upto S.next)
  yes : gdB gd = true → ∀ w', HeapRel base M r (lk S.ents) w' → o.quietAt P a (HeapRel base M r (lk S.ents)) w' (v.den r)
  no : gdB gd = false → v.den r = undef

theorem fin_sound {o : Oper} {gd : Option Bool} {p q : Prop} {x : S1} {v : SV} (h : fin gd p x = some (q, v)) (hq : q) (hx : x.sc (upto S.next))
    (hy : p → ∀ w', HeapRel base M r (lk S.ents) w' → o.quietAt P a (HeapRel base M r (lk S.ents)) w' (x.den r)) : Qt P base M r S a o gd v := by
  cases gd with
  | none =>
    simp only [fin, Option.some.injEq, Prod.mk.injEq] at h
    obtain ⟨rfl, rfl⟩ := h
    exact ⟨hx, fun _ => hy hq, fun h => by cases h⟩
  | some c =>
    simp only [fin, Option.some.injEq, Prod.mk.injEq] at h
    obtain ⟨rfl, rfl⟩ := h
    refine ⟨hx, fun hc => ?_, fun hc => ?_⟩
    · simp only [gdB] at hc
      subst hc
      exact hy (hq rfl)
    · simp only [gdB] at hc
      subst hc
      rfl

/-- How it goes on behind a quiet operation. -/
theorem Qt.go {o : Oper} {gd : Option Bool} {v : SV} {K : St → Prop} {Next : Act → World → Prop} {Q : Exit → Act → World → Prop} (h : Qt P base M r S a o gd v) (hr : Rel base M N n0 r0 r S a w) (hd : ∀ s, o.dst = some s → s < N)
    (hK : K (S.put o.dst v)) (hN : ∀ r' S' a' w', K S' → Rel base M N n0 r0 r' S' a' w' → Next a' w') : if gdB gd = true then o.wp P a w Next Q else Next (a.put o.dst undef) w := by
  split
  · rename_i hg
    refine Oper.wp_of_quiet (C := HeapRel base M r (lk S.ents)) (K := fun a' => a' = a.put o.dst (v.den r)) hr.heap ?_ ⟨v.den r, fun w' hw' => h.yes hg w' hw', rfl⟩
    rintro a' w' hw' rfl
    exact hN _ _ _ _ hK ((hr.world hw').put (d := o.dst) (v := v) hd h.sc)
  · rename_i hg
    have := hr.put (d := o.dst) (v := v) hd h.sc
    rw [h.no (by simpa using hg)] at this
    exact hN _ _ _ _ hK this

theorem run_callf {o : Oper} {c : Call} {f : Nat} {args : List Value} (ho : o.op = .call c) (hc : c.callee = .value (.func f)) (hb : bodied P f = true) (hargs : (c.args.map a.eval).toList = args) :
    (execOp a.eval o).run P w = .ok (.enter f args.toArray) w := by
  unfold bodied at hb
  split at hb
  · rename_i fn hf
    simp only [Bool.and_eq_true, Bool.not_eq_true', beq_eq_false_iff_ne] at hb
    obtain ⟨h1, h2⟩ := hb
    have hn : fn.body.isNone = false := by cases hbo : fn.body <;> simp_all
    simp only [execOp, ho, resolve, hc, Act.eval, Deferred.ofValue, Sem.run_bind, Sem.run_pure, Result.andThen_ok, invoke, callFunc, run_program, hf]
    rw [if_neg (by simpa using h2), if_neg (by simp [hn])]
    simp only [Sem.run_pure]
    rw [← hargs, Array.toArray_toList, Array.append_empty, Array.empty_append]
  · cases hb

theorem run_callv {o : Oper} {c : Call} {f i : Nat} {args : List Value} (ho : o.op = .call c) (hc : c.callee = .value (.tmp i)) (hv : a.tmps.getD i undef = .func (.func f) #[] #[]) (hb : bodied P f = true)
    (hargs : (c.args.map a.eval).toList = args) : (execOp a.eval o).run P w = .ok (.enter f args.toArray) w := by
  unfold bodied at hb
  split at hb
  · rename_i fn hf
    simp only [Bool.and_eq_true, Bool.not_eq_true', beq_eq_false_iff_ne] at hb
    obtain ⟨h1, h2⟩ := hb
    have hn : fn.body.isNone = false := by cases hbo : fn.body <;> simp_all
    have he : a.eval (.tmp i) = .func (.func f) #[] #[] := hv
    simp only [execOp, ho, resolve, hc, he, Deferred.ofValue, Sem.run_bind, Sem.run_pure, Result.andThen_ok, invoke, callFunc, run_program, hf]
    rw [if_neg (by simpa using h2), if_neg (by simp [hn])]
    simp only [Sem.run_pure]
    rw [← hargs, Array.toArray_toList, Array.append_empty, Array.empty_append]
  · cases hb

theorem lk_append : ∀ (l m : List (Nat × Ent)) (i : Nat), lk (l ++ m) i = upd l (lk m) i
  | [], m, i => rfl
  | (j, x) :: l, m, i => by
    have ih := lk_append l m i
    unfold upd at ih ⊢
    simp only [List.cons_append, lk]
    by_cases h : j = i
    · simp [h]
    · simp only [if_neg h]; exact ih

/-- A call that is quiet, by its contract. -/
theorem evCR_sound {o : Oper} {gd : Option Bool} {p q : Prop} {f : Nat} {l : List Nat} {ys : List S1} {cr : Option CR} {v : SV}
    (hrun : p → bodied P f = true → ∀ w', (execOp a.eval o).run P w' = .ok (.enter f (ys.map (S1.den r)).toArray) w')
    (hys : ∀ y ∈ ys, S1.sc (upto S.next) y) (hE : ∀ i e, resE l (lk S.ents) i = some e → upto S.next i ∧ e.sc (upto S.next))
    (hc : CROk P f ys (resE l (lk S.ents)) S.next cr) (h : evCR gd p cr = some (q, v)) (hq : q) : Qt P base M r S a o gd v := by
  cases cr with
  | none => cases h
  | some cr =>
  cases cr with
  | q pre res =>
    obtain ⟨hscm, hc⟩ := hc
    have hsc : res.sc (upto S.next) := hscm _ hys hE
    cases res with
    | o x =>
      refine fin_sound h hq hsc (fun hp w' hw' => ?_)
      unfold Oper.quietAt
      rw [hrun hp.1 (hc hp.2).1 w']
      exact ⟨rfl, ((hc hp.2).2 base M r w' (hw'.fewer resE_sub)).mono fun e w'' ⟨he, hb⟩ => ⟨he, hw'.below hb⟩⟩
    | t xs =>
      cases gd with
      | none =>
        simp only [evCR, Option.some.injEq, Prod.mk.injEq] at h
        obtain ⟨rfl, rfl⟩ := h
        obtain ⟨hp, hpre⟩ := hq
        refine ⟨hsc, fun _ w' hw' => ?_, fun h => by cases h⟩
        unfold Oper.quietAt
        rw [hrun hp (hc hpre).1 w']
        exact ⟨rfl, ((hc hpre).2 base M r w' (hw'.fewer resE_sub)).mono fun e w'' ⟨he, hb⟩ => ⟨he, hw'.below hb⟩⟩
      | some c => cases h
    | g b x => cases h
  | e pre res ents next => cases h

/-! ### The memory that a call sees -/

def mutB (E : Nat → Option Ent) (r : Rho) (b : Nat) : Prop := ∃ i e, E i = some e ∧ e.mut = true ∧ blkOf (r i) = some b
def allB (E : Nat → Option Ent) (r : Rho) (b : Nat) : Prop := ∃ i e, E i = some e ∧ e.live = true ∧ blkOf (r i) = some b

theorem HeapRel.start {E E' : Nat → Option Ent} (h : HeapRel base M r E w) (hs : ∀ i e, E' i = some e → E i = some e) : HeapRel w ⟨mutB E' r, allB E' r⟩ r E' w where
  size := Nat.le_refl _
  one := h.one
  os := rfl
  tape := rfl
  output := rfl
  frame := fun _ _ _ => rfl
  ent := fun i e he => h.ent i e (hs i e he)
  apart := fun i j e e' hij he he' => h.apart i j e e' hij (hs i e he) (hs j e' he')
  mine := fun i e he hm b hb => .inr ⟨i, e, he, hm, hb⟩
  src := fun i e he hl b hb => ⟨(h.src i e (hs i e he) hl b hb).1, .inr ⟨i, e, he, hl, hb⟩⟩

theorem upd_some {l : List (Nat × Ent)} {E : Nat → Option Ent} {i : Nat} {e : Ent} (h : lk l i = some e) : upd l E i = some e := by unfold upd; rw [h]
theorem upd_none {l : List (Nat × Ent)} {E : Nat → Option Ent} {i : Nat} (h : lk l i = none) : upd l E i = E i := by unfold upd; rw [h]

/-- What a call did to what it saw, it did; the rest is as it was. -/
theorem HeapRel.call {E E' F : Nat → Option Ent} {r1 r' : Rho} {w' : World} (h : HeapRel base M r E w) (hs : ∀ i e, E' i = some e → E i = some e)
    (ho : HeapRel w ⟨mutB E' r, allB E' r⟩ r1 F w') (hF : ∀ i e, F i = some e → r' i = r1 i ∧ e.sc (fun j => r' j = r1 j)) (hE : ∀ i e, E i = some e → F i = none → r' i = r i ∧ e.sc (fun j => r' j = r j))
    (h1 : ∀ i, (r' i).oneCell' = true) (hcov : ∀ i, F i = none → E' i = none) :
    HeapRel base M r' (fun i => match F i with | some e => some e | none => E i) w' := by
  have hcase : ∀ i e, (match F i with | some e => some e | none => E i) = some e → F i = some e ∨ (F i = none ∧ E i = some e ∧ E' i = none) := by
    intro i e he
    cases hf : F i with
    | some x => rw [hf] at he; cases he; exact .inl rfl
    | none => rw [hf] at he; exact .inr ⟨rfl, he, hcov i hf⟩
  have hold : ∀ i e b, E i = some e → E' i = none → e.live = true → blkOf (r i) = some b → b < w.heap.size ∧ w'.heap[b]? = w.heap[b]? := by
    intro i e b he hn hl hb
    have hlt := (h.src i e he hl b hb).1
    refine ⟨hlt, ho.frame b hlt ?_⟩
    rintro ⟨k, ek, hk, hm, hbk⟩
    exact h.apart k i ek e (by rintro rfl; rw [hn] at hk; cases hk) (hs k ek hk) he hm hl b hbk hb
  refine ⟨Nat.le_trans h.size ho.size, h1, ho.os.trans h.os, ho.tape.trans h.tape, ho.output.trans h.output, ?_, ?_, ?_, ?_, ?_⟩
  · intro b hb hM
    rw [ho.frame b (Nat.lt_of_lt_of_le hb h.size) ?_]
    · exact h.frame b hb hM
    · rintro ⟨k, ek, hk, hm, hbk⟩
      rcases h.mine k ek (hs k ek hk) hm b hbk with h2 | h2
      · omega
      · exact hM h2
  · intro i e he
    rcases hcase i e he with hf | ⟨hf, he', hn⟩
    · obtain ⟨g1, g2⟩ := hF i e hf
      rw [g1]
      exact Ent.rel_ext (m := fun j => r' j = r1 j) (fun _ hj => hj) g2 (ho.ent i e hf)
    · obtain ⟨g1, g2⟩ := hE i e he' hf
      rw [g1]
      exact Ent.rel_ext (m := fun j => r' j = r j) (fun _ hj => hj) g2 (Ent.rel_block ho.size (fun b hl hb _ => (hold i e b he' hn hl hb).2) (h.ent i e he'))
  · intro i j e e' hij he he' hm hl b hb hb'
    rcases hcase i e he with hf | ⟨hf, hei, hn⟩
    · rw [(hF i e hf).1] at hb
      rcases hcase j e' he' with hf' | ⟨hf', hej, hn'⟩
      · rw [(hF j e' hf').1] at hb'
        exact ho.apart i j e e' hij hf hf' hm hl b hb hb'
      · rw [(hE j e' hej hf').1] at hb'
        have hlt := (h.src j e' hej hl b hb').1
        rcases ho.mine i e hf hm b hb with h2 | ⟨k, ek, hk, hmk, hbk⟩
        · omega
        · exact h.apart k j ek e' (by rintro rfl; rw [hn'] at hk; cases hk) (hs k ek hk) hej hmk hl b hbk hb'
    · rw [(hE i e hei hf).1] at hb
      have hlt := (h.src i e hei (Ent.mut_live hm) b hb).1
      rcases hcase j e' he' with hf' | ⟨hf', hej, hn'⟩
      · rw [(hF j e' hf').1] at hb'
        rcases (ho.src j e' hf' hl b hb').2 with h2 | ⟨k, ek, hk, hlk, hbk⟩
        · omega
        · exact h.apart i k e ek (by rintro rfl; rw [hn] at hk; cases hk) hei (hs k ek hk) hm hlk b hb hbk
      · rw [(hE j e' hej hf').1] at hb'
        exact h.apart i j e e' hij hei hej hm hl b hb hb'
  · intro i e he hm b hb
    rcases hcase i e he with hf | ⟨hf, hei, hn⟩
    · rw [(hF i e hf).1] at hb
      rcases ho.mine i e hf hm b hb with h2 | ⟨k, ek, hk, hmk, hbk⟩
      · exact .inl (Nat.le_trans h.size h2)
      · exact h.mine k ek (hs k ek hk) hmk b hbk
    · rw [(hE i e hei hf).1] at hb
      exact h.mine i e hei hm b hb
  · intro i e he hl b hb
    rcases hcase i e he with hf | ⟨hf, hei, hn⟩
    · rw [(hF i e hf).1] at hb
      refine ⟨(ho.src i e hf hl b hb).1, ?_⟩
      rcases (ho.src i e hf hl b hb).2 with h2 | ⟨k, ek, hk, hlk, hbk⟩
      · exact .inl (Nat.le_trans h.size h2)
      · exact (h.src k ek (hs k ek hk) hlk b hbk).2
    · rw [(hE i e hei hf).1] at hb
      exact ⟨Nat.lt_of_lt_of_le (h.src i e hei hl b hb).1 ho.size, (h.src i e hei hl b hb).2⟩

/-- Names that an operation may take. -/
def nw (c al : Nat) (i : Nat) : Prop := ¬ (c ≤ i ∧ i < c + al)

variable (P base M r) in
/-- An operation that makes or turns memory does what is said of it. -/
def EffOk (E : Nat → Option Ent) (o : Oper) (a : Act) (w : World) (c : Nat) (v : SV) (us : List (Nat × Ent)) (al : Nat) : Prop :=
  ∀ (Next : Act → World → Prop) (Q : Exit → Act → World → Prop), (∀ r' w', (∀ i, nw c al i → r' i = r i) → HeapRel base M r' (upd us E) w' → Next (a.put o.dst (v.den r')) w') → o.wp P a w Next Q

theorem call_eff {E : Nat → Option Ent} {o : Oper} {f : Nat} {l : List Nat} {ys : List S1} {cr : Option CR} {c al : Nat} {q : Prop} {v : SV} {us : List (Nat × Ent)} (h : HeapRel base M r E w)
    (hrun : bodied P f = true → (execOp a.eval o).run P w = .ok (.enter f (ys.map (S1.den r)).toArray) w)
    (hfresh : ∀ i e, E i = some e → nw c al i ∧ e.sc (nw c al)) (hys : ∀ y ∈ ys, S1.sc (upto c) y) (hlow : ∀ i e, resE l E i = some e → i < c ∧ e.sc (upto c))
    (hc : CROk P f ys (resE l E) c cr) (he : eCall c cr = some (q, v, us, al)) (hq : q) : EffOk P base M r E o a w c v us al := by
  intro Next Q hN
  unfold eCall at he
  split at he
  · rename_i pre res ents next
    cases he
    obtain ⟨hb, h1, h23, h3', h4⟩ := hc hq
    obtain ⟨h2, h3⟩ := h23 (upto next) (fun y hy => S1.sc_mono (upto_mono h1) (hys y hy)) (fun i e hi => ⟨Nat.lt_of_lt_of_le (hlow i e hi).1 h1, Ent.sc_mono (upto_mono h1) (hlow i e hi).2⟩) (fun i _ hi => hi)
    unfold Oper.wp
    rw [hrun hb]
    simp only [Oper.upon]
    have hsub : ∀ i e, resE l E i = some e → E i = some e := resE_sub
    refine (h4 w ⟨mutB (resE l E) r, allB (resE l E) r⟩ r w (h.start hsub)).mono ?_
    rintro e w' ⟨r1, hk, rfl, hw'⟩
    simp only
    have hnx : c + (next - c) = next := by omega
    have hr1 : ∀ j, j < next → (fun i => if c ≤ i ∧ i < next then r1 i else r i) j = r1 j := by
      intro j hj
      simp only
      split
      · rfl
      · rename_i hh; exact (hk j (by omega)).symm
    have hr0 : ∀ j, nw c (next - c) j → (fun i => if c ≤ i ∧ i < next then r1 i else r i) j = r j := by
      intro j hj
      unfold nw at hj
      rw [hnx] at hj
      simp only
      rw [if_neg hj]
    have hF : ∀ i e, upd us (resE l E) i = some e → i < next ∧ e.sc (upto next) := by
      intro i e hi
      unfold upd at hi
      split at hi
      · rename_i e' he'; cases hi; exact h3 i _ he'
      · obtain ⟨g1, g2⟩ := hlow i e hi
        exact ⟨by omega, Ent.sc_mono (upto_mono h1) g2⟩
    have key := HeapRel.call (r' := fun i => if c ≤ i ∧ i < next then r1 i else r i) h hsub hw' (fun i e hi => ⟨hr1 i (hF i e hi).1, Ent.sc_mono (fun j hj => hr1 j hj) (hF i e hi).2⟩)
      (fun i e hi _ => ⟨hr0 i (hfresh i e hi).1, Ent.sc_mono (fun j hj => hr0 j hj) (hfresh i e hi).2⟩) (fun i => by split <;> first | exact hw'.one i | exact h.one i)
      (fun i hi => by unfold upd at hi; split at hi; cases hi; exact hi)
    have hu : (fun i => match upd us (resE l E) i with | some e => some e | none => E i) = upd us E := by
      funext i
      unfold upd
      cases hl : lk us i with
      | some e => rfl
      | none =>
        simp only
        cases hre : resE l E i with
        | some e => exact (hsub i e hre).symm
        | none => rfl
    rw [hu] at key
    have := hN _ w' hr0 key
    rw [SV.den_ext (r := r1) (m := upto next) (fun j hj => hr1 j hj) h2] at this
    exact this
  · cases he

end
end Go.Sx
