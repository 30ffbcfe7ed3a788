/- A part of the proof of a statement about this seat: how a function is stepped through, and plain laws. No conditions. -/
import Derived.Test.YtjcpefnbongmaaaSx15
set_option linter.unusedVariables false
set_option linter.unusedSimpArgs false
namespace Go.Sx
open Go.RowKit

section
variable {P : Program} {base : World} {M : Nat → Prop} {N n0 : Nat} {r0 r : Rho} {S : St} {a : Act} {w : World}

theorem evPick_sound {o : Oper} {c x y : Operand} {gd : Option Bool} {q : Prop} {v : SV} (hr : Rel base M N n0 r0 r S a w)
    (ho : o.op = .pick c x y) (h : evPick gd (rd S.env (xo c)) (rd S.env (xo x)) (rd S.env (xo y)) = some (q, v)) (hq : q) : Qt P base M r S a o gd v := by
  unfold evPick at h
  split at h
  · rename_i pc bc px bx py by_ hc hx hy
    refine fin_sound h hq trivial (fun hp w' hw' => quietAt_of_yields ?_)
    obtain ⟨h1, h2, h3⟩ := hp
    have e1 := rd_sound hr hc h1
    rw [xo_val] at e1
    unfold Yields
    simp only [execOp, ho, e1]
    cases bc with
    | true =>
      have e2 := rd_sound hr hx (h2 rfl)
      rw [xo_val] at e2
      simp [asBool, e2, S1.den, SC.den]
    | false =>
      have e3 := rd_sound hr hy (h3 rfl)
      rw [xo_val] at e3
      simp [asBool, e3, S1.den, SC.den]
  · cases h

theorem evExt_sound {o : Oper} {x : Operand} {i : Nat} {gd : Option Bool} {q : Prop} {v : SV} (hr : Rel base M N n0 r0 r S a w)
    (ho : o.op = .extract x i) (h : evExt S.env gd i [xo x] = some (q, v)) (hq : q) : Qt P base M r S a o gd v := by
  unfold evExt at h
  split at h
  · rename_i s heq
    simp only [List.cons.injEq, and_true] at heq
    split at h
    · rename_i xs hl
      split at h
      · rename_i z hz
        refine fin_sound h hq (hr.scE _ _ hl z (nth_mem hz)) (fun _ w' hw' => quietAt_of_yields ?_)
        have e1 : a.eval x = SV.den r (.t xs) := by rw [← xo_val, heq]; exact hr.slot _ _ hl
        unfold Yields
        simp only [execOp, ho, e1, SV.den]
        refine run_val ?_
        rw [nth_eq] at hz
        simp [Instr.extract, hz]
      · cases h
    · cases h
  · cases h

theorem xop1_mv {op : Op} {xs : List XO} (h : xop1 P op = some (.mv, xs)) : ∃ x, (op = .move x ∨ op = .assign x) ∧ xs = [xo x] := by
  cases op <;> simp only [xop1] at h
  case move x => simp only [Option.some.injEq, Prod.mk.injEq, true_and] at h; exact ⟨x, .inl rfl, h.symm⟩
  case assign x => simp only [Option.some.injEq, Prod.mk.injEq, true_and] at h; exact ⟨x, .inr rfl, h.symm⟩
  all_goals (first | (cases h; done) | skip)
  all_goals (repeat' split at h)
  all_goals (cases h)

theorem tupOf_sound {x : Operand} {xs : List S1} (hr : Rel base M N n0 r0 r S a w) (h : tupOf S.env (xo x) = some xs) : a.eval x = SV.den r (.t xs) ∧ ∀ z ∈ xs, z.sc (upto S.next) := by
  rw [← xo_val]
  unfold tupOf at h
  split at h
  · rename_i s heq
    split at h
    · rename_i l hl
      cases h
      rw [heq]
      exact ⟨hr.slot _ _ hl, hr.scE _ _ hl⟩
    · cases h
  · cases h

theorem run_mv {o : Oper} {x : Operand} {v : Value} (ho : o.op = .move x ∨ o.op = .assign x) (hv : a.eval x = v) : Yields P o a w v := by
  rcases ho with ho | ho <;> (unfold Yields; simp [execOp, ho, hv])

theorem xop1_call {op : Op} {xs : List XO} {f : Nat} (h : xop1 P op = some (.call f, xs)) : ∃ c, op = .call c ∧ c.callee = .value (.func f) ∧ xs = c.args.toList.map xo := by
  cases op <;> simp only [xop1] at h
  case call c =>
    refine ⟨c, rfl, ?_⟩
    split at h
    · rename_i f' hc
      split at h
      · split at h
        · simp only [Option.some.injEq, Prod.mk.injEq, XOp.call.injEq] at h
          obtain ⟨rfl, rfl⟩ := h
          exact ⟨hc, rfl⟩
        · cases h
      · cases h
    · cases h
    · cases h
    · cases h
    · split at h
      · split at h <;> cases h
      · cases h
    · cases h
  all_goals (first | (cases h; done) | skip)
  all_goals (repeat' split at h)
  all_goals (cases h)

theorem xop1_callv {op : Op} {xs : List XO} (h : xop1 P op = some (.callv, xs)) : ∃ c i, op = .call c ∧ c.callee = .value (.tmp i) ∧ xs = .t i :: c.args.toList.map xo := by
  cases op <;> simp only [xop1] at h
  case call c =>
    split at h
    · rename_i f' hc
      split at h
      · split at h <;> cases h
      · cases h
    · rename_i i hc
      simp only [Option.some.injEq, Prod.mk.injEq, true_and] at h
      exact ⟨c, i, rfl, hc, h.symm⟩
    · cases h
    · cases h
    · split at h
      · split at h <;> cases h
      · cases h
    · cases h
  all_goals (first | (cases h; done) | skip)
  all_goals (repeat' split at h)
  all_goals (cases h)

theorem xop1_pick {op : Op} {xs : List XO} (h : xop1 P op = some (.pick, xs)) : ∃ c x y, op = .pick c x y ∧ xs = [xo c, xo x, xo y] := by
  cases op <;> simp only [xop1] at h
  case pick c x y => simp only [Option.some.injEq, Prod.mk.injEq, true_and] at h; exact ⟨c, x, y, rfl, h.symm⟩
  all_goals (first | (cases h; done) | skip)
  all_goals (repeat' split at h)
  all_goals (cases h)

theorem xop1_ext {op : Op} {xs : List XO} {i : Nat} (h : xop1 P op = some (.ext i, xs)) : ∃ x, op = .extract x i ∧ xs = [xo x] := by
  cases op <;> simp only [xop1] at h
  case extract x j => simp only [Option.some.injEq, Prod.mk.injEq, XOp.ext.injEq] at h; obtain ⟨rfl, rfl⟩ := h; exact ⟨x, rfl, rfl⟩
  all_goals (first | (cases h; done) | skip)
  all_goals (repeat' split at h)
  all_goals (cases h)

theorem xop1_box {op : Op} {xs : List XO} {ty : TypeId} (h : xop1 P op = some (.box ty, xs)) : ∃ x, op = .box ty x ∧ xs = [xo x] := by
  cases op <;> simp only [xop1] at h
  case box t x => simp only [Option.some.injEq, Prod.mk.injEq, XOp.box.injEq] at h; obtain ⟨rfl, rfl⟩ := h; exact ⟨x, rfl, rfl⟩
  all_goals (first | (cases h; done) | skip)
  all_goals (repeat' split at h)
  all_goals (cases h)

theorem xop1_alloc {op : Op} {xs : List XO} {ty : TypeId} {z : List Value} (h : xop1 P op = some (.alloc ty z, xs)) : ∃ zz, op = .alloc ty ∧ (P.info? ty).bind (·.zero) = some zz ∧ z = zz.cells.toList := by
  cases op <;> simp only [xop1] at h
  case alloc t =>
    split at h
    · rename_i zz hz
      simp only [Option.some.injEq, Prod.mk.injEq, XOp.alloc.injEq] at h
      obtain ⟨⟨rfl, rfl⟩, _⟩ := h
      exact ⟨zz, rfl, hz, rfl⟩
    · cases h
  all_goals (first | (cases h; done) | skip)
  all_goals (repeat' split at h)
  all_goals (cases h)

theorem xop1_store {op : Op} {xs : List XO} {n : Nat} (h : xop1 P op = some (.store n, xs)) : ∃ t x y inf, op = .store t x y ∧ P.info? t = some inf ∧ n = inf.size ∧ xs = [xo x, xo y] := by
  cases op <;> simp only [xop1] at h
  case store t x y =>
    split at h
    · rename_i inf hi
      simp only [Option.some.injEq, Prod.mk.injEq, XOp.store.injEq] at h
      obtain ⟨rfl, rfl⟩ := h
      exact ⟨t, x, y, inf, rfl, hi, rfl, rfl⟩
    · cases h
  all_goals (first | (cases h; done) | skip)
  all_goals (repeat' split at h)
  all_goals (cases h)

theorem rds_cons {env : List (Nat × SV)} {x : XO} {xs : List XO} {p : Prop} {y : S1} {ys : List S1} (h : rds env (x :: xs) = some (p, y :: ys)) :
    ∃ p1 q, rd env x = some (p1, y) ∧ rds env xs = some (q, ys) ∧ (p → p1 ∧ q) := by
  simp only [rds] at h
  split at h
  · rename_i p1 y1 h1
    split at h
    · rename_i q ys1 h2
      cases h
      exact ⟨p1, q, h1, h2, id⟩
    · cases h
  · cases h

theorem evQ0_sound {Γ : Nat → Con} {ops : Array Oper} {o : Oper} {xp : XOper} {q : Prop} {v : SV} (hΓ : ∀ f, COk P f (Γ f)) (hx : xop P ops o = some xp)
    (h : evQ0 Γ xp S = some (q, v)) (hq : q) (hr : Rel base M N n0 r0 r S a w) : ∃ gd, Region.wanted o (yielded ops a.tmps) = gdB gd ∧ Qt P base M r S a o gd v := by
  obtain ⟨hx1, hdst⟩ := xop_parts hx
  unfold evQ0 at h
  split at h
  · cases h
  · rename_i gd hg
    refine ⟨gd, guard_sound hx hr hg, ?_⟩
    obtain ⟨d, xop, xargs, xg⟩ := xp
    simp only at h hx1
    split at h
    · -- pick
      obtain ⟨c, x, y, ho, rfl⟩ := xop1_pick hx1
      exact evPick_sound hr ho h hq
    · rename_i i
      obtain ⟨x, ho, rfl⟩ := xop1_ext hx1
      exact evExt_sound hr ho h hq
    · rename_i f
      obtain ⟨c, ho, hc, rfl⟩ := xop1_call hx1
      split at h
      · rename_i p ys hrd
        refine evCR_sound (fun hp hb w' => ?_) (hΓ f ys _ S.next (rds_sc hr hrd) (fun i e h => hr.scH i e (resE_sub i e h))) h hq
        refine run_callf ho hc hb ?_
        have := rds_sound hr hrd hp
        rw [List.map_map] at this
        rw [Array.toList_map, ← this]
        exact List.map_congr_left fun x _ => (xo_val a x).symm
      · cases h
    · obtain ⟨c, i, ho, hc, rfl⟩ := xop1_callv hx1
      split at h
      · rename_i p f fs cs ys hrd
        obtain ⟨p1, q, hrd1, hrd2, hpq⟩ := rds_cons hrd
        refine evCR_sound (fun hp hb w' => ?_) (hΓ f ys _ S.next (rds_sc hr hrd2) (fun i e h => hr.scH i e (resE_sub i e h))) h hq
        obtain ⟨hp, rfl, rfl⟩ := hp
        refine run_callv ho hc (rd_sound hr hrd1 (hpq hp).1) hb ?_
        have := rds_sound hr hrd2 (hpq hp).2
        rw [List.map_map] at this
        rw [Array.toList_map, ← this]
        exact List.map_congr_left fun x _ => (xo_val a x).symm
      · cases h
    · cases h
    · cases h
    · cases h
    · -- the rest
      split at h
      · rename_i p ys hrd
        split at h
        · rename_i q' z hq'
          refine fin_sound h hq (opQ_sc hr.scH (rds_sc hr hrd) hq') (fun hp w' hw' => quietAt_of_yields ?_)
          exact sound_q hw' hx1 (rds_sound hr hrd hp.1) hq' hp.2
        · cases h
      · cases h

theorem evQ_sound {Γ : Nat → Con} {ops : Array Oper} {o : Oper} {xp : XOper} {q : Prop} {v : SV} (hΓ : ∀ f, COk P f (Γ f)) (hx : xop P ops o = some xp)
    (h : evQ Γ xp S = some (q, v)) (hq : q) (hr : Rel base M N n0 r0 r S a w) : ∃ gd, Region.wanted o (yielded ops a.tmps) = gdB gd ∧ Qt P base M r S a o gd v := by
  unfold evQ at h
  split at h
  · rename_i xs ht
    simp only [Option.some.injEq, Prod.mk.injEq] at h
    obtain ⟨rfl, rfl⟩ := h
    obtain ⟨hx1, hdst⟩ := xop_parts hx
    unfold evTup at ht
    split at ht
    · cases ht
    · rename_i hg
      refine ⟨none, guard_sound hx hr (by rw [hg]; rfl), ?_⟩
      obtain ⟨d, xop, xargs, xg⟩ := xp
      simp only at ht hx1
      split at ht
      · obtain ⟨x, ho, rfl⟩ := xop1_mv hx1
        simp only at ht
        obtain ⟨e1, e2⟩ := tupOf_sound hr ht
        exact ⟨e2, fun _ w' hw' => quietAt_of_yields (run_mv ho e1), fun h => by cases h⟩
      · cases ht
  · exact evQ0_sound hΓ hx h hq hr

theorem vcEff_sound {Γ : Nat → Con} {ops : Array Oper} {o : Oper} {xp : XOper} {K : St → Prop} {Next : Act → World → Prop} {Q : Exit → Act → World → Prop} (hΓ : ∀ f, COk P f (Γ f)) (hx : xop P ops o = some xp)
    (hd : ∀ s, xp.dst = some s → s < N) (h : vcEff Γ xp S K) (hr : Rel base M N n0 r0 r S a w)
    (hN : ∀ r' S' a' w', K S' → Rel base M N n0 r0 r' S' a' w' → Next a' w') :
    Region.wanted o (yielded ops a.tmps) = true ∧ o.wp P a w Next Q := by
  obtain ⟨hx1, hdst⟩ := xop_parts hx
  unfold vcEff at h
  split at h
  · exact h.elim
  · rename_i hgn
    refine ⟨guard_sound (gd := none) hx hr (by rw [hgn]; rfl), ?_⟩
    rw [hdst] at h hd
    obtain ⟨d, xop, xargs, xg⟩ := xp
    simp only at h hx1
    split at h
    · rename_i f
      obtain ⟨c, ho, hc, rfl⟩ := xop1_call hx1
      split at h
      · rename_i p ys hrd
        refine vcCR_sound hr hd (fun hp hb w' => ?_) (hΓ f ys (lk S.ents) S.next (rds_sc hr hrd) hr.scH) h hN
        refine run_callf ho hc hb ?_
        have := rds_sound hr hrd hp
        rw [List.map_map] at this
        rw [Array.toList_map, ← this]
        exact List.map_congr_left fun x _ => (xo_val a x).symm
      · exact h.elim
    · rename_i ty
      obtain ⟨x, ho, rfl⟩ := xop1_box hx1
      split at h
      · rename_i p z hrd
        have hsc := rds_sc hr hrd z (by simp)
        refine vcBox_sound (vs := (a.eval x).cells) hr hd h ?_ (fun hp hok => ?_) ?_ hN
        · cases z with
          | c c => intro c' hc'; simp only [S1.cells, List.mem_singleton] at hc'; subst hc'; exact hsc
          | a zs => exact hsc
        · have := rds_sound hr hrd hp
          simp only [List.map_cons, List.map_nil, List.cons.injEq, and_true] at this
          rw [xo_val] at this
          rw [this, ← S1.cells_ok hr.heap.one hok, Array.toArray_toList]
        · simp [execOp, ho, Instr.box, newVar, newRow]
      · exact h.elim
    · rename_i ty z
      obtain ⟨zz, ho, hz, rfl⟩ := xop1_alloc hx1
      obtain ⟨i, hi, hzi⟩ := Option.bind_eq_some_iff.1 hz
      refine vcBox_sound (vs := zz.cells) hr hd h ?_ (fun hp hok => ?_) ?_ hN
      · intro c hc
        simp only [List.mem_map] at hc
        obtain ⟨v, _, rfl⟩ := hc
        trivial
      · rw [List.map_map]
        have : (SC.den r ∘ SC.v) = id := rfl
        rw [this, List.map_id, Array.toArray_toList]
      · simp [execOp, ho, Instr.alloc, zeroValue, run_typeInfo' hi, hzi, newVar, newRow]
    · rename_i n
      obtain ⟨t, x, y, inf, ho, hi, rfl, rfl⟩ := xop1_store hx1
      split at h
      · rename_i p ys hrd
        exact vcStore_sound hr hd ho hi (fun hp => rds_sound hr hrd hp) (rds_sc hr hrd) h hN
      · exact h.elim
    · exact h.elim

theorem vcOp_sound {Γ : Nat → Con} {ops : Array Oper} {o : Oper} {xp : XOper} {K : St → Prop} {Next : Act → World → Prop} {Q : Exit → Act → World → Prop} (hΓ : ∀ f, COk P f (Γ f)) (hx : xop P ops o = some xp)
    (hd : ∀ s, xp.dst = some s → s < N) (h : vcOp Γ xp S K) (hr : Rel base M N n0 r0 r S a w)
    (hN : ∀ r' S' a' w', K S' → Rel base M N n0 r0 r' S' a' w' → Next a' w') :
    if Region.wanted o (yielded ops a.tmps) = true then o.wp P a w Next Q else Next (a.put o.dst undef) w := by
  unfold vcOp at h
  split at h
  · rename_i p v he
    obtain ⟨gd, hg, hq⟩ := evQ_sound hΓ hx he h.1 hr
    rw [hg]
    rw [(xop_parts hx).2] at h hd
    exact hq.go hr hd h.2 hN
  · obtain ⟨hg, hw⟩ := vcEff_sound (Q := Q) hΓ hx hd h hr hN
    rw [if_pos hg]
    exact hw

end
end Go.Sx
