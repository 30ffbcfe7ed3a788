/- A part of the proof of a statement about this seat: how a function is stepped through, and plain laws. No conditions. -/
import Derived.Test.YtgdglgcfmebonaaSx15e
set_option linter.unusedVariables false
set_option linter.unusedSimpArgs false
namespace Go.Sx
open Go.RowKit

section
variable {P : Program} {base : World} {M : Scp} {N n0 : Nat} {r0 r : Rho} {S : St} {a : Act} {w : World}

theorem evPick_sound {o : Oper} {c x y : Operand} {gd : Option Bool} {q : Prop} {v : SV} (hr : Rel base M N n0 r0 r S a w)
    (ho : o.op = .pick c x y) (h : evPick gd (rd S.env (xo c)) (rd S.env (xo x)) (rd S.env (xo y)) = some (q, v)) (hq : q) : Qt P base M r S a o gd v := by
  unfold evPick at h
  split at h
  · rename_i pc bc px bx py by_ hc hx hy
    refine fin_sound h hq trivial (fun hp w' hw' => quietAt_of_yields ?_)
    obtain ⟨h1, h2, h3⟩ := hp
    have e1 := rd_sound hr hc h1
    rw [xo_val] at e1
    unfold Yields
    simp only [execOp, ho, e1]
    cases bc with
    | true =>
      have e2 := rd_sound hr hx (h2 rfl)
      rw [xo_val] at e2
      simp [asBool, e2, S1.den, SC.den]
    | false =>
      have e3 := rd_sound hr hy (h3 rfl)
      rw [xo_val] at e3
      simp [asBool, e3, S1.den, SC.den]
  · cases h

theorem evExt_sound {o : Oper} {x : Operand} {i : Nat} {gd : Option Bool} {q : Prop} {v : SV} (hr : Rel base M N n0 r0 r S a w)
    (ho : o.op = .extract x i) (h : evExt S.env gd i [xo x] = some (q, v)) (hq : q) : Qt P base M r S a o gd v := by
  unfold evExt at h
  split at h
  · rename_i s heq
    simp only [List.cons.injEq, and_true] at heq
    split at h
    · rename_i xs hl
      split at h
      · rename_i z hz
        refine fin_sound h hq (hr.scE _ _ hl z (nth_mem hz)) (fun _ w' hw' => quietAt_of_yields ?_)
        have e1 : a.eval x = SV.den r (.t xs) := by rw [← xo_val, heq]; exact hr.slot _ _ hl
        unfold Yields
        simp only [execOp, ho, e1, SV.den]
        refine run_val ?_
        rw [nth_eq] at hz
        simp [Instr.extract, hz]
      · cases h
    · cases h
  · cases h

theorem xop1_mv {op : Op} {xs : List XO} (h : xop1 P op = some (.mv, xs)) : ∃ x, (op = .move x ∨ op = .assign x) ∧ xs = [xo x] := by
  cases op <;> simp only [xop1] at h
  case move x => simp only [Option.some.injEq, Prod.mk.injEq, true_and] at h; exact ⟨x, .inl rfl, h.symm⟩
  case assign x => simp only [Option.some.injEq, Prod.mk.injEq, true_and] at h; exact ⟨x, .inr rfl, h.symm⟩
  all_goals (first | (cases h; done) | skip)
  all_goals (repeat' split at h)
  all_goals (cases h)

theorem tupOf_sound {x : Operand} {xs : List S1} (hr : Rel base M N n0 r0 r S a w) (h : tupOf S.env (xo x) = some xs) : a.eval x = SV.den r (.t xs) ∧ ∀ z ∈ xs, z.sc (upto S.next) := by
  rw [← xo_val]
  unfold tupOf at h
  split at h
  · rename_i s heq
    split at h
    · rename_i l hl
      cases h
      rw [heq]
      exact ⟨hr.slot _ _ hl, hr.scE _ _ hl⟩
    · cases h
  · cases h

theorem run_mv {o : Oper} {x : Operand} {v : Value} (ho : o.op = .move x ∨ o.op = .assign x) (hv : a.eval x = v) : Yields P o a w v := by
  rcases ho with ho | ho <;> (unfold Yields; simp [execOp, ho, hv])

theorem xop1_call {op : Op} {xs : List XO} {f : Nat} (h : xop1 P op = some (.call f, xs)) : ∃ c, op = .call c ∧ c.callee = .value (.func f) ∧ xs = c.args.toList.map xo := by
  cases op <;> simp only [xop1] at h
  case call c =>
    refine ⟨c, rfl, ?_⟩
    split at h
    · rename_i f' hc
      split at h
      · split at h
        · simp only [Option.some.injEq, Prod.mk.injEq, XOp.call.injEq] at h
          obtain ⟨rfl, rfl⟩ := h
          exact ⟨hc, rfl⟩
        · cases h
      · cases h
    all_goals (first | (cases h; done) | skip)
    all_goals (repeat' split at h)
    all_goals (cases h)
  all_goals (first | (cases h; done) | skip)
  all_goals (repeat' split at h)
  all_goals (cases h)

theorem xop1_callv {op : Op} {xs : List XO} (h : xop1 P op = some (.callv, xs)) : ∃ c i, op = .call c ∧ c.callee = .value (.tmp i) ∧ xs = .t i :: c.args.toList.map xo := by
  cases op <;> simp only [xop1] at h
  case call c =>
    split at h
    · rename_i f' hc
      split at h
      · split at h <;> cases h
      · cases h
    · rename_i i hc
      simp only [Option.some.injEq, Prod.mk.injEq, true_and] at h
      exact ⟨c, i, rfl, hc, h.symm⟩
    all_goals (first | (cases h; done) | skip)
    all_goals (repeat' split at h)
    all_goals (cases h)
  all_goals (first | (cases h; done) | skip)
  all_goals (repeat' split at h)
  all_goals (cases h)

theorem xop1_pick {op : Op} {xs : List XO} (h : xop1 P op = some (.pick, xs)) : ∃ c x y, op = .pick c x y ∧ xs = [xo c, xo x, xo y] := by
  cases op <;> simp only [xop1] at h
  case pick c x y => simp only [Option.some.injEq, Prod.mk.injEq, true_and] at h; exact ⟨c, x, y, rfl, h.symm⟩
  all_goals (first | (cases h; done) | skip)
  all_goals (repeat' split at h)
  all_goals (cases h)

theorem xop1_ext {op : Op} {xs : List XO} {i : Nat} (h : xop1 P op = some (.ext i, xs)) : ∃ x, op = .extract x i ∧ xs = [xo x] := by
  cases op <;> simp only [xop1] at h
  case extract x j => simp only [Option.some.injEq, Prod.mk.injEq, XOp.ext.injEq] at h; obtain ⟨rfl, rfl⟩ := h; exact ⟨x, rfl, rfl⟩
  all_goals (first | (cases h; done) | skip)
  all_goals (repeat' split at h)
  all_goals (cases h)

theorem xop1_box {op : Op} {xs : List XO} {ty : TypeId} (h : xop1 P op = some (.box ty, xs)) : ∃ x, op = .box ty x ∧ xs = [xo x] := by
  cases op <;> simp only [xop1] at h
  case box t x => simp only [Option.some.injEq, Prod.mk.injEq, XOp.box.injEq] at h; obtain ⟨rfl, rfl⟩ := h; exact ⟨x, rfl, rfl⟩
  all_goals (first | (cases h; done) | skip)
  all_goals (repeat' split at h)
  all_goals (cases h)

theorem xop1_alloc {op : Op} {xs : List XO} {ty : TypeId} {z : List Value} (h : xop1 P op = some (.alloc ty z, xs)) : ∃ zz, op = .alloc ty ∧ (P.info? ty).bind (·.zero) = some zz ∧ z = zz.cells.toList := by
  cases op <;> simp only [xop1] at h
  case alloc t =>
    split at h
    · rename_i zz hz
      simp only [Option.some.injEq, Prod.mk.injEq, XOp.alloc.injEq] at h
      obtain ⟨⟨rfl, rfl⟩, _⟩ := h
      exact ⟨zz, rfl, hz, rfl⟩
    · cases h
  all_goals (first | (cases h; done) | skip)
  all_goals (repeat' split at h)
  all_goals (cases h)

theorem xop1_store {op : Op} {xs : List XO} {n : Nat} (h : xop1 P op = some (.store n, xs)) : ∃ t x y inf, op = .store t x y ∧ P.info? t = some inf ∧ n = inf.size ∧ xs = [xo x, xo y] := by
  cases op <;> simp only [xop1] at h
  case store t x y =>
    split at h
    · rename_i inf hi
      simp only [Option.some.injEq, Prod.mk.injEq, XOp.store.injEq] at h
      obtain ⟨rfl, rfl⟩ := h
      exact ⟨t, x, y, inf, rfl, hi, rfl, rfl⟩
    · cases h
  all_goals (first | (cases h; done) | skip)
  all_goals (repeat' split at h)
  all_goals (cases h)

theorem rds_cons {env : List (Nat × SV)} {x : XO} {xs : List XO} {p : Prop} {y : S1} {ys : List S1} (h : rds env (x :: xs) = some (p, y :: ys)) :
    ∃ p1 q, rd env x = some (p1, y) ∧ rds env xs = some (q, ys) ∧ (p → p1 ∧ q) := by
  simp only [rds] at h
  split at h
  · rename_i p1 y1 h1
    split at h
    · rename_i q ys1 h2
      cases h
      exact ⟨p1, q, h1, h2, id⟩
    · cases h
  · cases h

theorem evQ0_sound {Γ : Nat → Con} {ops : Array Oper} {o : Oper} {xp : XOper} {q : Prop} {v : SV} (hΓ : ∀ f, COk P f (Γ f)) (hx : xop P ops o = some xp)
    (h : evQ0 Γ xp S = some (q, v)) (hq : q) (hr : Rel base M N n0 r0 r S a w) : ∃ gd, Region.wanted o (yielded ops a.tmps) = gdB gd ∧ Qt P base M r S a o gd v := by
  obtain ⟨hx1, hdst⟩ := xop_parts hx
  unfold evQ0 at h
  split at h
  · cases h
  · rename_i gd hg
    refine ⟨gd, guard_sound hx hr hg, ?_⟩
    obtain ⟨d, xop, xargs, xg⟩ := xp
    simp only at h hx1
    split at h
    · -- pick
      obtain ⟨c, x, y, ho, rfl⟩ := xop1_pick hx1
      exact evPick_sound hr ho h hq
    · rename_i i
      obtain ⟨x, ho, rfl⟩ := xop1_ext hx1
      exact evExt_sound hr ho h hq
    · rename_i f
      obtain ⟨c, ho, hc, rfl⟩ := xop1_call hx1
      split at h
      · rename_i p ys hrd
        refine evCR_sound (fun hp hb w' => ?_) (rds_sc hr hrd) (fun i e h => hr.scH i e (resE_sub i e h)) (hΓ f ys _ S.next (rds_sc hr hrd) (fun i e h => hr.scH i e (resE_sub i e h))) h hq
        refine run_callf ho hc hb ?_
        have := rds_sound hr hrd hp
        rw [List.map_map] at this
        rw [Array.toList_map, ← this]
        exact List.map_congr_left fun x _ => (xo_val a x).symm
      · cases h
    · obtain ⟨c, i, ho, hc, rfl⟩ := xop1_callv hx1
      split at h
      · rename_i p f fs cs ys hrd
        obtain ⟨p1, q, hrd1, hrd2, hpq⟩ := rds_cons hrd
        refine evCR_sound (fun hp hb w' => ?_) (rds_sc hr hrd2) (fun i e h => hr.scH i e (resE_sub i e h)) (hΓ f ys _ S.next (rds_sc hr hrd2) (fun i e h => hr.scH i e (resE_sub i e h))) h hq
        obtain ⟨hp, rfl, rfl⟩ := hp
        refine run_callv ho hc (rd_sound hr hrd1 (hpq hp).1) hb ?_
        have := rds_sound hr hrd2 (hpq hp).2
        rw [List.map_map] at this
        rw [Array.toList_map, ← this]
        exact List.map_congr_left fun x _ => (xo_val a x).symm
      · cases h
    · cases h
    · cases h
    · cases h
    · cases h
    · cases h
    · cases h
    · cases h
    · -- the rest
      split at h
      · rename_i p ys hrd
        split at h
        · rename_i q' z hq'
          refine fin_sound h hq (opQ_sc hr.scH (rds_sc hr hrd) hq') (fun hp w' hw' => quietAt_of_yields ?_)
          exact sound_q hw' hx1 (rds_sound hr hrd hp.1) hq' hp.2
        · cases h
      · cases h

theorem evQ_sound {Γ : Nat → Con} {ops : Array Oper} {o : Oper} {xp : XOper} {q : Prop} {v : SV} (hΓ : ∀ f, COk P f (Γ f)) (hx : xop P ops o = some xp)
    (h : evQ Γ xp S = some (q, v)) (hq : q) (hr : Rel base M N n0 r0 r S a w) : ∃ gd, Region.wanted o (yielded ops a.tmps) = gdB gd ∧ Qt P base M r S a o gd v := by
  unfold evQ at h
  split at h
  · rename_i xs ht
    simp only [Option.some.injEq, Prod.mk.injEq] at h
    obtain ⟨rfl, rfl⟩ := h
    obtain ⟨hx1, hdst⟩ := xop_parts hx
    unfold evTup at ht
    split at ht
    · cases ht
    · rename_i hg
      refine ⟨none, guard_sound hx hr (by rw [hg]; rfl), ?_⟩
      obtain ⟨d, xop, xargs, xg⟩ := xp
      simp only at ht hx1
      split at ht
      · obtain ⟨x, ho, rfl⟩ := xop1_mv hx1
        simp only at ht
        obtain ⟨e1, e2⟩ := tupOf_sound hr ht
        exact ⟨e2, fun _ w' hw' => quietAt_of_yields (run_mv ho e1), fun h => by cases h⟩
      · cases ht
  · exact evQ0_sound hΓ hx h hq hr

theorem xop1_slit {op : Op} {xs : List XO} {ty : TypeId} {len sz : Nat} {zs : List Value} {pl : List (Nat × Nat)} (h : xop1 P op = some (.slit ty len sz zs pl, xs)) :
    ∃ t parts i z, op = .buildSlice t len parts ∧ P.underlying t = some (.slice ty) ∧ P.info? ty = some i ∧ i.zero = some z ∧ sz = i.size ∧ len * i.size ≤ 16777216 ∧ 0 < i.size ∧ zs = zrep z.cells.toList (len * i.size) ∧
      pl = (parts.toList.map fun p => (p.1 * i.size, i.size)) ∧ xs = parts.toList.map fun p => xo p.2 := by
  cases op <;> simp only [xop1] at h
  case buildSlice t len' parts =>
    split at h
    · rename_i e ht
      split at h
      · rename_i i hi
        split at h
        · rename_i z hz
          split at h
          · rename_i hc
            simp only [Option.some.injEq, Prod.mk.injEq, XOp.slit.injEq] at h
            obtain ⟨⟨rfl, rfl, rfl, rfl, rfl⟩, rfl⟩ := h
            exact ⟨t, parts, i, z, rfl, ht, hi, hz, rfl, hc.1, hc.2, rfl, rfl, rfl⟩
          · cases h
        · cases h
      · cases h
    · cases h
  all_goals (first | (cases h; done) | skip)
  all_goals (repeat' split at h)
  all_goals (cases h)

theorem xop1_mks {op : Op} {xs : List XO} {ty : TypeId} {sz bytes : Nat} {zs : List Value} (h : xop1 P op = some (.mks ty sz bytes zs, xs)) :
    ∃ t x y i z, op = .makeSlice t x y ∧ P.underlying t = some (.slice ty) ∧ P.info? ty = some i ∧ i.zero = some z ∧ sz = i.size ∧ bytes = i.bytes ∧ z.cells.size = i.size ∧ 0 < i.size ∧ zs = z.cells.toList ∧ xs = [xo x, xo y] := by
  cases op <;> simp only [xop1] at h
  case makeSlice t x y =>
    split at h
    · rename_i e ht
      split at h
      · rename_i i hi
        split at h
        · rename_i z hz
          split at h
          · rename_i hc
            simp only [Option.some.injEq, Prod.mk.injEq, XOp.mks.injEq] at h
            obtain ⟨⟨rfl, rfl, rfl, rfl⟩, rfl⟩ := h
            exact ⟨t, x, y, i, z, rfl, ht, hi, hz, rfl, rfl, hc.1, hc.2, rfl, rfl⟩
          · cases h
        · cases h
      · cases h
    · cases h
  all_goals (first | (cases h; done) | skip)
  all_goals (repeat' split at h)
  all_goals (cases h)

theorem xop1_slc {op : Op} {xs : List XO} {sz : Nat} {bl bh bm : Bool} (h : xop1 P op = some (.slc sz bl bh bm, xs)) :
    ∃ t x lo hi mx e i, op = .slice t x lo hi mx ∧ P.underlying t = some (.slice e) ∧ P.info? e = some i ∧ sz = i.size ∧ bl = lo.isSome ∧ bh = hi.isSome ∧ bm = mx.isSome ∧ xs = xo x :: (lo.toList ++ hi.toList ++ mx.toList).map xo := by
  cases op <;> simp only [xop1] at h
  case slice t x lo hi mx =>
    split at h
    · rename_i e ht
      split at h
      · rename_i i hi'
        simp only [Option.some.injEq, Prod.mk.injEq, XOp.slc.injEq] at h
        obtain ⟨⟨rfl, rfl, rfl, rfl⟩, rfl⟩ := h
        exact ⟨t, x, lo, hi, mx, e, i, rfl, ht, hi', rfl, rfl, rfl, rfl, rfl⟩
      · cases h
    · cases h
  all_goals (first | (cases h; done) | skip)
  all_goals (repeat' split at h)
  all_goals (cases h)

theorem xop1_app {op : Op} {xs : List XO} {ty : TypeId} {sz bytes : Nat} (h : xop1 P op = some (.app ty sz bytes, xs)) :
    ∃ c t tx e' i z s x, op = .call c ∧ c.callee = .builtin .append ∧ c.args.toList = [s, x] ∧ c.argTypes.toList = [t, tx] ∧ P.underlying t = some (.slice ty) ∧ P.underlying tx = some (.slice e') ∧ P.info? ty = some i ∧ i.zero = some z ∧ z.cells.size = i.size ∧ (0 < i.bytes ∧ i.bytes ≤ 256) ∧ 0 < i.size ∧
      sz = i.size ∧ xs = [xo s, xo x] := by
  cases op <;> simp only [xop1] at h
  case call c =>
    split at h
    · repeat' split at h
      all_goals (cases h)
    · cases h
    · cases h
    · cases h
    · repeat' split at h
      all_goals (cases h)
    · rename_i hc
      split at h
      · rename_i t tx s x ht hs
        split at h
        · rename_i e e' hu hu'
          split at h
          · rename_i i hi
            split at h
            · rename_i hb
              split at h
              · rename_i z hz
                split at h
                · rename_i hzs
                  simp only [Option.some.injEq, Prod.mk.injEq, XOp.app.injEq] at h
                  obtain ⟨⟨rfl, rfl, rfl⟩, rfl⟩ := h
                  exact ⟨c, t, tx, e', i, z, s, x, rfl, hc, hs, ht, hu, hu', hi, hz, hzs, ⟨hb.1, hb.2.1⟩, hb.2.2, rfl, rfl⟩
                · cases h
              · cases h
            · cases h
          · cases h
        · cases h
      · cases h
    · cases h
  all_goals (first | (cases h; done) | skip)
  all_goals (repeat' split at h)
  all_goals (cases h)

theorem cells_sc {m : Nat → Prop} {z : S1} (h : z.sc m) : ∀ x ∈ z.cells, SC.sc m x := by
  cases z with
  | c c => intro x hx; simp only [S1.cells, List.mem_singleton] at hx; subst hx; exact h
  | a zs => exact h

theorem rowV_sc {E : Nat → Option Ent} {m : Nat → Prop} {x : S1} {n sz : Nat} {f : Nat → Nat → SC} (hE : ∀ i e, E i = some e → e.sc m) (h : rowV E x = some (n, sz, f)) : ∀ e j, (f e j).sc m := by
  unfold rowV at h
  split at h
  · unfold rowOf at h
    split at h
    · rename_i he; cases h; exact hE _ _ he
    · rename_i he; cases h; exact hE _ _ he
    · cases h; exact fun _ _ => trivial
    · cases h
  · cases h; exact fun _ _ => trivial
  · cases h

theorem takeI_inv {b : Bool} {ys ys' : List S1} {o : Option Int} (h : takeI b ys = some (o, ys')) : (b = false ∧ o = none ∧ ys' = ys) ∨ (b = true ∧ ∃ k n, o = some n ∧ ys = .c (.v (.int k n)) :: ys') := by
  unfold takeI at h
  split at h
  · cases h; exact .inl ⟨rfl, rfl, rfl⟩
  · cases h; exact .inr ⟨rfl, _, _, rfl, rfl⟩
  · cases h

/-- One limit of a slice expression, as it is read. -/
theorem takeI_val {lo : Option Operand} {rest : List Operand} {ys ys' : List S1} {o : Option Int} (h : takeI lo.isSome ys = some (o, ys')) (hv : ((lo.toList ++ rest).map xo).map (XO.val a) = ys.map (S1.den r)) :
    (∃ k, lo.map a.eval = o.map (fun v => (.int k v : Value))) ∧ (rest.map xo).map (XO.val a) = ys'.map (S1.den r) := by
  cases lo with
  | none =>
    rcases takeI_inv h with ⟨_, rfl, rfl⟩ | ⟨hh, _⟩
    · exact ⟨⟨.i64, rfl⟩, by simpa using hv⟩
    · cases hh
  | some x =>
    rcases takeI_inv h with ⟨hh, _⟩ | ⟨_, k, n, rfl, rfl⟩
    · cases hh
    · simp only [Option.toList_some, List.singleton_append, List.map_cons, List.cons.injEq] at hv
      refine ⟨⟨k, ?_⟩, hv.2⟩
      have := hv.1
      rw [xo_val] at this
      simp only [Option.map_some, this]
      rfl

theorem lims_val {lo hi mx : Option Operand} {ys : List S1} {l h m : Option Int} (hl : lims lo.isSome hi.isSome mx.isSome ys = some (l, h, m)) (hv : ((lo.toList ++ hi.toList ++ mx.toList).map xo).map (XO.val a) = ys.map (S1.den r)) :
    (∃ k, lo.map a.eval = l.map (fun v => (.int k v : Value))) ∧ (∃ k, hi.map a.eval = h.map (fun v => (.int k v : Value))) ∧ (∃ k, mx.map a.eval = m.map (fun v => (.int k v : Value))) := by
  unfold lims at hl
  split at hl
  · rename_i l' ys1 h1
    split at hl
    · rename_i h' ys2 h2
      split at hl
      · rename_i m' h3
        cases hl
        rw [List.append_assoc] at hv
        obtain ⟨g1, hv1⟩ := takeI_val h1 hv
        obtain ⟨g2, hv2⟩ := takeI_val h2 hv1
        have hv3 : ((mx.toList ++ []).map xo).map (XO.val a) = ys2.map (S1.den r) := by simpa using hv2
        obtain ⟨g3, _⟩ := takeI_val h3 hv3
        exact ⟨g1, g2, g3⟩
      · cases hl
    · cases hl
  · cases hl

theorem eff_slc_sound {E : Nat → Option Ent} {o : Oper} {c : Nat} {t e : TypeId} {i : TypeInfo} {x : Operand} {lo hi mx : Option Operand} {ys : List S1} {q : Prop} {v : SV} {us : List (Nat × Ent)} {al : Nat} (h : HeapRel base M r E w) (hfresh : ∀ i e, E i = some e → nw c al i ∧ e.sc (nw c al))
    (ho : o.op = .slice t x lo hi mx) (ht : P.underlying t = some (.slice e)) (hi' : P.info? e = some i) (hv : (xo x :: (lo.toList ++ hi.toList ++ mx.toList).map xo).map (XO.val a) = ys.map (S1.den r))
    (he : eSlc c i.size lo.isSome hi.isSome mx.isSome E ys = some (q, v, us, al)) (hq : q) : EffOk P base M r E o a w c v us al := by
  cases ys with
  | nil => simp [eSlc] at he
  | cons y ys =>
    simp only [List.map_cons, List.cons.injEq] at hv
    obtain ⟨ex, hv⟩ := hv
    rw [xo_val] at ex
    simp only [eSlc] at he
    split at he
    · rename_i l hh m hlims
      obtain ⟨⟨k1, g1⟩, ⟨k2, g2⟩, ⟨k3, g3⟩⟩ := lims_val hlims hv
      split at he
      · rename_i rw_ hrw
        obtain ⟨n, sz, f⟩ := rw_
        cases he
        obtain ⟨q1, rfl, rfl⟩ := hq
        obtain ⟨ad, cap, hval, _⟩ := rowV_val h hrw
        cases hi with
        | none => simp at g2
        | some hi =>
          cases mx with
          | none => simp at g3
          | some mx =>
            simp only [Option.map_some, Option.some.injEq] at g2 g3
            exact eff_slc0 h hfresh (run_slc0 ho ht hi' (by rw [ex, hval]) g1 q1 g2 g3)
      · cases he
    · rename_i l hh hlims
      obtain ⟨⟨k1, g1⟩, ⟨k2, g2⟩, ⟨k3, g3⟩⟩ := lims_val hlims hv
      cases mx with
      | some mx => simp at g3
      | none =>
        unfold eSlcO at he
        split at he
        · rename_i k
          split at he
          · rename_i n sz' f hE
            cases he
            obtain ⟨rfl, q1, q2, q3⟩ := hq
            obtain ⟨ad, cap, h1, h2, hm, h3⟩ := h.ent k _ hE
            have hrun := run_slc (w := w) (l := (l.getD 0).toNat) (hh := (hh.getD n).toNat) ho ht hi' (by rw [ex]; exact h1) (.inr ⟨k1, g1⟩) ⟨k2, g2⟩ (by omega) (by omega) (by omega) (by omega) h2
            have key := eff_slcRo h hfresh hE h1 (by omega) (by omega) hrun
            have e1 : (hh.getD n).toNat - (l.getD 0).toNat = (hh.getD n - l.getD 0).toNat := by omega
            rw [e1] at key
            exact key
          · rename_i n sz' f ty hE
            cases he
            obtain ⟨rfl, q1, q2, q3⟩ := hq
            obtain ⟨hm, hrel⟩ := h.ent k _ hE
            obtain ⟨ad, cap, h1, h2⟩ : ∃ ad cap, r k = .slice ad n cap ∧ n ≤ cap := by
              rcases hrel with ⟨b, of, cap, cur, h1, h2, h3, h4⟩ | ⟨ad, h1, h0⟩
              · exact ⟨_, cap, h1, h3⟩
              · exact ⟨ad, 0, by rw [h1, h0], by omega⟩
            have hrun := run_slc (w := w) (l := (l.getD 0).toNat) (hh := (hh.getD n).toNat) ho ht hi' (by rw [ex]; exact h1) (.inr ⟨k1, g1⟩) ⟨k2, g2⟩ (by omega) (by omega) (by omega) (by omega) h2
            have key := eff_slcOwn h hfresh hE h1 (by omega) (by omega) hrun
            have e1 : (hh.getD n).toNat - (l.getD 0).toNat = (hh.getD n - l.getD 0).toNat := by omega
            rw [e1] at key
            exact key
          · cases he
        · cases he
    · cases he

theorem eff_app_sound {E : Nat → Option Ent} {o : Oper} {c0 : Call} {c : Nat} {t tx e e' : TypeId} {i : TypeInfo} {z : Value} {s x : Operand} {ys : List S1} {q : Prop} {v : SV} {us : List (Nat × Ent)} {al bytes : Nat} (h : HeapRel base M r E w) (hfresh : ∀ i e, E i = some e → nw c al i ∧ e.sc (nw c al))
    (ho : o.op = .call c0) (hc : c0.callee = .builtin .append) (ha : c0.args.toList = [s, x]) (hat : c0.argTypes.toList = [t, tx]) (ht : P.underlying t = some (.slice e)) (hk : P.underlying tx = some (.slice e')) (hi : P.info? e = some i) (hz : i.zero = some z) (hzs : z.cells.size = i.size) (hb : 0 < i.bytes ∧ i.bytes ≤ 256) (h0 : 0 < i.size)
    (hv : [xo s, xo x].map (XO.val a) = ys.map (S1.den r)) (he : eApp c e i.size bytes E ys = some (q, v, us, al)) (hq : q) : EffOk P base M r E o a w c v us al := by
  obtain ⟨y1, y2, rfl, es, ex⟩ := map2 hv
  rw [xo_val] at es ex
  have hoo : ∃ c, o.op = .call c ∧ c.callee = .builtin .append ∧ c.args.toList = [s, x] ∧ c.argTypes.toList = [t, tx] := ⟨c0, ho, hc, ha, hat⟩
  unfold eApp at he
  split at he
  · rename_i k y heq
    cases heq
    split at he
    · rename_i n sz' f ty' hE
      split at he
      · rename_i m sz2 g hx
        cases he
        obtain ⟨rfl, rfl, q1, q2, q3⟩ := hq
        exact eff_appOwn h hfresh hoo ht hk hi hz hzs hb h0 hE es ex hx q1 q2 (rowV_sc (fun i e he => (hfresh i e he).2) hx) q3
      · cases he
    · rename_i hE
      split at he
      · rename_i m sz2 g hx
        cases he
        obtain ⟨q1, q2, q3⟩ := hq
        obtain ⟨ad, h1⟩ := h.ent k _ hE
        obtain ⟨w', r', V, g1, g2, g3, g4⟩ := eff_appNil h hfresh hoo ht hk hi hz hzs hb h0 (by rw [es]; exact h1) ex hx q1 q2 (rowV_sc (fun i e he => (hfresh i e he).2) hx) q3
        have hck : c ≠ k := fun hh => (fresh_one hfresh k _ hE).1 hh.symm
        refine eff_value g1 g2 ((g4.kill k).congrE fun j => ?_) g3
        rw [upd_two, upd_one, upd_one]
        by_cases hj : c = j
        · subst hj; rw [if_pos rfl, if_neg (Ne.symm hck), if_pos rfl]
        · rw [if_neg hj, if_neg hj]
      · cases he
    · cases he
  · rename_i y heq
    cases heq
    split at he
    · rename_i m sz2 g hx
      cases he
      obtain ⟨q1, q2, q3⟩ := hq
      obtain ⟨w', r', V, g1, g2, g3, g4⟩ := eff_appNil (ad := none) h hfresh hoo ht hk hi hz hzs hb h0 es ex hx q1 q2 (rowV_sc (fun i e he => (hfresh i e he).2) hx) q3
      exact eff_value g1 g2 g4 g3
    · cases he
  · cases he

end
end Go.Sx
