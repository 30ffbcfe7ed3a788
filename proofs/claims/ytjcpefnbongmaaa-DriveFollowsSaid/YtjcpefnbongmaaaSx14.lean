/- A part of the proof of a statement about this seat: how a function is stepped through, and plain laws. No conditions. -/
import Derived.Test.YtjcpefnbongmaaaSx13
set_option linter.unusedVariables false
set_option linter.unusedSimpArgs false
namespace Go.Sx
open Go.RowKit

section
variable {P : Program} {base : World} {M : Nat → Prop} {N n0 : Nat} {r0 r : Rho} {S : St} {a : Act} {w : World}

theorem quietAt_of_yields {C : World → Prop} {o : Oper} {v : Value} (h : Yields P o a w v) : o.quietAt P a C w v := by
  unfold Oper.quietAt
  rw [show (execOp a.eval o).run P w = .ok (.value v) w from h]
  exact ⟨rfl, rfl⟩

theorem HeapRel.fewer {E E' : Nat → Option Ent} (h : HeapRel base M r E w) (hs : ∀ i e, E' i = some e → E i = some e) : HeapRel base M r E' w where
  size := h.size
  one := h.one
  os := h.os
  tape := h.tape
  output := h.output
  frame := h.frame
  ent := fun i e he => h.ent i e (hs i e he)
  apart := fun i j e e' hij he he' => h.apart i j e e' hij (hs i e he) (hs j e' he')
  mine := fun i e he => h.mine i e (hs i e he)

theorem resE_sub {l : List Nat} {E : Nat → Option Ent} : ∀ i e, resE l E i = some e → E i = some e := by
  intro i e h
  unfold resE at h
  split at h
  · exact h
  · cases h

theorem upto_mono {m n : Nat} (h : m ≤ n) : ∀ i, upto m i → upto n i := fun _ hi => Nat.lt_of_lt_of_le hi h

/-- What is shown of a quiet operation. -/
structure Qt (P : Program) (base : World) (M : Nat → Prop) (r : Rho) (S : St) (a : Act) (o : Oper) (gd : Option Bool) (v : SV) : Prop where
  sc : v.sc (upto S.next)
  yes : gdB gd = true → ∀ w', HeapRel base M r (lk S.ents) w' → o.quietAt P a (HeapRel base M r (lk S.ents)) w' (v.den r)
  no : gdB gd = false → v.den r = undef

theorem fin_sound {o : Oper} {gd : Option Bool} {p q : Prop} {x : S1} {v : SV} (h : fin gd p x = some (q, v)) (hq : q) (hx : x.sc (upto S.next))
    (hy : p → ∀ w', HeapRel base M r (lk S.ents) w' → o.quietAt P a (HeapRel base M r (lk S.ents)) w' (x.den r)) : Qt P base M r S a o gd v := by
  cases gd with
  | none =>
    simp only [fin, Option.some.injEq, Prod.mk.injEq] at h
    obtain ⟨rfl, rfl⟩ := h
    exact ⟨hx, fun _ => hy hq, fun h => by cases h⟩
  | some c =>
    simp only [fin, Option.some.injEq, Prod.mk.injEq] at h
    obtain ⟨rfl, rfl⟩ := h
    refine ⟨hx, fun hc => ?_, fun hc => ?_⟩
    · simp only [gdB] at hc
      subst hc
      exact hy (hq rfl)
    · simp only [gdB] at hc
      subst hc
      rfl

/-- How it goes on behind a quiet operation. -/
theorem Qt.go {o : Oper} {gd : Option Bool} {v : SV} {K : St → Prop} {Next : Act → World → Prop} {Q : Exit → Act → World → Prop} (h : Qt P base M r S a o gd v) (hr : Rel base M N n0 r0 r S a w) (hd : ∀ s, o.dst = some s → s < N)
    (hK : K (S.put o.dst v)) (hN : ∀ r' S' a' w', K S' → Rel base M N n0 r0 r' S' a' w' → Next a' w') : if gdB gd = true then o.wp P a w Next Q else Next (a.put o.dst undef) w := by
  split
  · rename_i hg
    refine Oper.wp_of_quiet (C := HeapRel base M r (lk S.ents)) (K := fun a' => a' = a.put o.dst (v.den r)) hr.heap ?_ ⟨v.den r, fun w' hw' => h.yes hg w' hw', rfl⟩
    rintro a' w' hw' rfl
    exact hN _ _ _ _ hK ((hr.world hw').put (d := o.dst) (v := v) hd h.sc)
  · rename_i hg
    have := hr.put (d := o.dst) (v := v) hd h.sc
    rw [h.no (by simpa using hg)] at this
    exact hN _ _ _ _ hK this

theorem run_callf {o : Oper} {c : Call} {f : Nat} {args : List Value} (ho : o.op = .call c) (hc : c.callee = .value (.func f)) (hb : bodied P f = true) (hargs : (c.args.map a.eval).toList = args) :
    (execOp a.eval o).run P w = .ok (.enter f args.toArray) w := by
  unfold bodied at hb
  split at hb
  · rename_i fn hf
    simp only [Bool.and_eq_true, Bool.not_eq_true', beq_eq_false_iff_ne] at hb
    obtain ⟨h1, h2⟩ := hb
    have hn : fn.body.isNone = false := by cases hbo : fn.body <;> simp_all
    simp only [execOp, ho, resolve, hc, Act.eval, Deferred.ofValue, Sem.run_bind, Sem.run_pure, Result.andThen_ok, invoke, callFunc, run_program, hf]
    rw [if_neg (by simpa using h2), if_neg (by simp [hn])]
    simp only [Sem.run_pure]
    rw [← hargs, Array.toArray_toList, Array.append_empty, Array.empty_append]
  · cases hb

theorem run_callv {o : Oper} {c : Call} {f i : Nat} {args : List Value} (ho : o.op = .call c) (hc : c.callee = .value (.tmp i)) (hv : a.tmps.getD i undef = .func (.func f) #[] #[]) (hb : bodied P f = true)
    (hargs : (c.args.map a.eval).toList = args) : (execOp a.eval o).run P w = .ok (.enter f args.toArray) w := by
  unfold bodied at hb
  split at hb
  · rename_i fn hf
    simp only [Bool.and_eq_true, Bool.not_eq_true', beq_eq_false_iff_ne] at hb
    obtain ⟨h1, h2⟩ := hb
    have hn : fn.body.isNone = false := by cases hbo : fn.body <;> simp_all
    have he : a.eval (.tmp i) = .func (.func f) #[] #[] := hv
    simp only [execOp, ho, resolve, hc, he, Deferred.ofValue, Sem.run_bind, Sem.run_pure, Result.andThen_ok, invoke, callFunc, run_program, hf]
    rw [if_neg (by simpa using h2), if_neg (by simp [hn])]
    simp only [Sem.run_pure]
    rw [← hargs, Array.toArray_toList, Array.append_empty, Array.empty_append]
  · cases hb

theorem lk_append : ∀ (l m : List (Nat × Ent)) (i : Nat), lk (l ++ m) i = upd l (lk m) i
  | [], m, i => rfl
  | (j, x) :: l, m, i => by
    have ih := lk_append l m i
    unfold upd at ih ⊢
    simp only [List.cons_append, lk]
    by_cases h : j = i
    · simp [h]
    · simp only [if_neg h]; exact ih

/-- A call that is quiet, by its contract. -/
theorem evCR_sound {o : Oper} {gd : Option Bool} {p q : Prop} {f : Nat} {ys : List S1} {cr : Option CR} {v : SV}
    (hrun : p → bodied P f = true → ∀ w', (execOp a.eval o).run P w' = .ok (.enter f (ys.map (S1.den r)).toArray) w')
    (hc : CROk P f ys (resE (ids1L ys) (lk S.ents)) S.next cr) (h : evCR gd p cr = some (q, v)) (hq : q) : Qt P base M r S a o gd v := by
  cases cr with
  | none => cases h
  | some cr =>
  cases cr with
  | q pre res =>
    obtain ⟨hsc, hc⟩ := hc
    cases res with
    | o x =>
      refine fin_sound h hq hsc (fun hp w' hw' => ?_)
      unfold Oper.quietAt
      rw [hrun hp.1 (hc hp.2).1 w']
      exact ⟨rfl, ((hc hp.2).2 base M r w' (hw'.fewer resE_sub)).mono fun e w'' ⟨he, hb⟩ => ⟨he, hw'.below hb⟩⟩
    | t xs =>
      cases gd with
      | none =>
        simp only [evCR, Option.some.injEq, Prod.mk.injEq] at h
        obtain ⟨rfl, rfl⟩ := h
        obtain ⟨hp, hpre⟩ := hq
        refine ⟨hsc, fun _ w' hw' => ?_, fun h => by cases h⟩
        unfold Oper.quietAt
        rw [hrun hp (hc hpre).1 w']
        exact ⟨rfl, ((hc hpre).2 base M r w' (hw'.fewer resE_sub)).mono fun e w'' ⟨he, hb⟩ => ⟨he, hw'.below hb⟩⟩
      | some c => cases h
    | g b x => cases h
  | e pre res ents next => cases h

/-- How a call goes on, by its contract. -/
theorem vcCR_sound {o : Oper} {p : Prop} {K : St → Prop} {Next : Act → World → Prop} {Q : Exit → Act → World → Prop} {f : Nat} {ys : List S1} {cr : Option CR} (hr : Rel base M N n0 r0 r S a w) (hd : ∀ s, o.dst = some s → s < N)
    (hrun : p → bodied P f = true → ∀ w', (execOp a.eval o).run P w' = .ok (.enter f (ys.map (S1.den r)).toArray) w')
    (hc : CROk P f ys (lk S.ents) S.next cr) (h : vcCR o.dst S p K cr)
    (hN : ∀ r' S' a' w', K S' → Rel base M N n0 r0 r' S' a' w' → Next a' w') : o.wp P a w Next Q := by
  cases cr with
  | none => exact h.elim
  | some cr =>
  cases cr with
  | q pre res => exact h.elim
  | e pre res ents next =>
    obtain ⟨⟨hp, hpre⟩, hK⟩ := h
    obtain ⟨hb, h1, h2, h3, h4⟩ := hc hpre
    unfold Oper.wp
    rw [hrun hp hb w]
    simp only [Oper.upon]
    refine (h4 base M r w hr.heap).mono ?_
    rintro e w' ⟨r', hk, rfl, hw'⟩
    simp only
    refine hN r' _ _ w' hK ?_
    have hlk := lk_append ents S.ents
    refine Rel.put (S := ⟨S.env, ents ++ S.ents, next⟩) ⟨hr.defers, hr.tmps, fun s v hl => ?_, ?_, fun s v hl => SV.sc_mono (upto_mono h1) (hr.scE s v hl), ?_, Nat.le_trans hr.low h1, fun i hi => (hk i (Nat.lt_of_lt_of_le hi hr.low)).trans (hr.keep i hi)⟩ hd h2
    · rw [SV.den_ext hk (hr.scE s v hl)]; exact hr.slot s v hl
    · have : lk (ents ++ S.ents) = upd ents (lk S.ents) := funext hlk
      rw [this]; exact hw'
    · intro i e he
      rw [hlk] at he
      unfold upd at he
      split at he
      · rename_i e' he'; cases he; exact h3 i _ he'
      · obtain ⟨g1, g2⟩ := hr.scH i e he
        exact ⟨Nat.lt_of_lt_of_le g1 h1, Ent.sc_mono (upto_mono h1) g2⟩

end
end Go.Sx
