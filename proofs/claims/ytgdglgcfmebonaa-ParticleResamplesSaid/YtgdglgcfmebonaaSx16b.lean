/- A part of the proof of a statement about this seat: how a function is stepped through, and plain laws. No conditions. -/
import Derived.Test.YtgdglgcfmebonaaSx16
set_option linter.unusedVariables false
set_option linter.unusedSimpArgs false
namespace Go.Sx
open Go.RowKit

section
variable {P : Program} {base : World} {M : Scp} {N n0 : Nat} {r0 r : Rho} {S : St} {a : Act} {w : World}

theorem fillS_cells {m : Nat → Prop} {zs : List Value} {pl : List (Nat × Nat)} {ys : List S1} {cs : List SC} (h : fillS (zs.map .v) pl ys = some cs) (hy : ∀ y ∈ ys, S1.sc m y) : ∀ x ∈ cs, SC.sc m x :=
  fillS_sc h hy (fun x hx => by simp only [List.mem_map] at hx; obtain ⟨v, _, rfl⟩ := hx; trivial)

/-- An operation that makes or turns memory does what is said of it. -/
theorem effE_sound {Γ : Nat → Con} {o : Oper} {op : XOp} {args : List XO} {E : Nat → Option Ent} {ys : List S1} {q : Prop} {v : SV} {us : List (Nat × Ent)} {c al : Nat} (hΓ : ∀ f, COk P f (Γ f)) (hx : xop1 P o.op = some (op, args)) (h : HeapRel base M r E w)
    (hv : args.map (XO.val a) = ys.map (S1.den r)) (hys : ∀ y ∈ ys, S1.sc (nw c al) y) (hfresh : ∀ i e, E i = some e → nw c al i ∧ e.sc (nw c al))
    (hlow : (∀ y ∈ ys, S1.sc (upto c) y) ∧ ∀ i e, resE (reach E (ids1L ys)) E i = some e → i < c ∧ e.sc (upto c))
    (he : effE Γ c op E ys = some (q, v, us, al)) (hq : q) : EffOk P base M r E o a w c v us al := by
  unfold effE at he
  split at he
  · rename_i ty
    obtain ⟨x, ho, rfl⟩ := xop1_box hx
    unfold eBox at he
    split at he
    · rename_i z
      cases he
      simp only [List.map_cons, List.map_nil, List.cons.injEq, and_true] at hv
      rw [xo_val] at hv
      refine eff_box (vs := (a.eval x).cells) h hfresh (cells_sc (hys z (by simp))) ?_ ?_
      · rw [hv, ← S1.cells_ok h.one hq, Array.toArray_toList]
      · simp [execOp, ho, Instr.box, newVar, newRow]
    · cases he
  · rename_i ty z
    obtain ⟨zz, ho, hz, rfl⟩ := xop1_alloc hx
    obtain ⟨i, hi, hzi⟩ := Option.bind_eq_some_iff.1 hz
    unfold eAlloc at he
    cases he
    refine eff_box (vs := zz.cells) h hfresh ?_ ?_ ?_
    · intro x hx
      simp only [List.mem_map] at hx
      obtain ⟨v, _, rfl⟩ := hx
      trivial
    · rw [List.map_map]
      have : (SC.den r ∘ SC.v) = id := rfl
      rw [this, List.map_id, Array.toArray_toList]
    · simp [execOp, ho, Instr.alloc, zeroValue, run_typeInfo' hi, hzi, newVar, newRow]
  · rename_i n
    obtain ⟨t, x, y, inf, ho, hi, rfl, rfl⟩ := xop1_store hx
    obtain ⟨y1, y2, rfl, e1, e2⟩ := map2 hv
    rw [xo_val] at e1 e2
    unfold eStore at he
    split at he
    · rename_i i j z heq
      cases heq
      split at he
      · rename_i cs ty hE
        cases he
        exact eff_storeB h ho hi e1 e2 hE hq.1 hq.2.1 hq.2.2
      · cases he
    · rename_i i sz e j z heq
      cases heq
      split at he
      · rename_i m sz' f ty hE
        cases he
        obtain ⟨rfl, q1, q2, q3, q4⟩ := hq
        exact eff_storeR h ho hi e1 e2 hE q1 q2 q3 q4
      · cases he
    · cases he
  · rename_i f
    obtain ⟨cl, ho, hc, rfl⟩ := xop1_call hx
    refine call_eff (l := reach E (ids1L ys)) h (fun hb => ?_) hfresh hlow.1 hlow.2 (hΓ f ys _ c hlow.1 hlow.2) he hq
    refine run_callf ho hc hb ?_
    rw [List.map_map] at hv
    rw [Array.toList_map, ← hv]
    exact List.map_congr_left fun x _ => (xo_val a x).symm
  · rename_i ty len sz zs pl
    obtain ⟨t, parts, i, z, ho, ht, hi, hz, rfl, h1, h2, rfl, rfl, rfl⟩ := xop1_slit hx
    unfold eSlit at he
    split at he
    · rename_i cs hf
      cases he
      exact eff_slit h hfresh ho ht hi hz h1 h2 hv hf hq.1 (fillS_cells hf hys)
    · cases he
  · rename_i ty sz bytes zs
    obtain ⟨t, x, y, i, z, ho, ht, hi, hz, rfl, rfl, hzs, h0, rfl, rfl⟩ := xop1_mks hx
    obtain ⟨y1, y2, rfl, e1, e2⟩ := map2 hv
    rw [xo_val] at e1 e2
    unfold eMks at he
    split at he
    · rename_i l m heq
      cases heq
      cases he
      obtain ⟨rfl, q1, q2, q3, q4⟩ := hq
      exact eff_mks h hfresh ho ht hi hz hzs h0 e1 e2 q1 q2 q3
    · cases he
  · rename_i sz bl bh bm
    obtain ⟨t, x, lo, hi, mx, e, i, ho, ht, hi', rfl, rfl, rfl, rfl, rfl⟩ := xop1_slc hx
    exact eff_slc_sound h hfresh ho ht hi' hv he hq
  · rename_i ty sz bytes
    obtain ⟨c0, t, tx, e', i, z, s, x, ho, hc, ha, hat, ht, hk, hi, hz, hzs, hb, h0, rfl, rfl⟩ := xop1_app hx
    exact eff_app_sound h hfresh ho hc ha hat ht hk hi hz hzs hb h0 hv he hq
  · cases he

theorem lk_one {i c : Nat} {x e : Ent} (h : lk [(c, x)] i = some e) : c = i ∧ e = x := by
  simp only [lk] at h
  split at h
  · rename_i hc; cases h; exact ⟨hc, rfl⟩
  · cases h
theorem lk_two {i c d : Nat} {x y e : Ent} (h : lk [(c, x), (d, y)] i = some e) : (c = i ∧ e = x) ∨ (d = i ∧ e = y) := by
  simp only [lk] at h
  split at h
  · rename_i hc; cases h; exact .inl ⟨hc, rfl⟩
  · split at h
    · rename_i hc; cases h; exact .inr ⟨hc, rfl⟩
    · cases h

/-- What it leaves is in scope. -/
theorem effE_sc {Γ : Nat → Con} {op : XOp} {E : Nat → Option Ent} {ys : List S1} {q : Prop} {v : SV} {us : List (Nat × Ent)} {c al : Nat} {m : Nat → Prop} (hΓ : ∀ f, COk P f (Γ f))
    (hys : ∀ y ∈ ys, S1.sc m y) (hE : ∀ i e, E i = some e → m i ∧ e.sc m) (hnew : ∀ i, c ≤ i → i < c + al → m i)
    (hlow : (∀ y ∈ ys, S1.sc (upto c) y) ∧ ∀ i e, resE (reach E (ids1L ys)) E i = some e → i < c ∧ e.sc (upto c))
    (he : effE Γ c op E ys = some (q, v, us, al)) (hq : q) : v.sc m ∧ ∀ i e, lk us i = some e → (E i ≠ none ∨ (c ≤ i ∧ i < c + al)) ∧ m i ∧ e.sc m := by
  have one : ∀ (x : Ent), al = 1 → x.sc m → ∀ i e, lk [(c, x)] i = some e → (E i ≠ none ∨ (c ≤ i ∧ i < c + al)) ∧ m i ∧ e.sc m := by
    intro x h1 hx i e h
    obtain ⟨rfl, rfl⟩ := lk_one h
    exact ⟨.inr (by omega), hnew _ (by omega) (by omega), hx⟩
  have two : ∀ (x : Ent) (k : Nat), al = 1 → x.sc m → E k ≠ none → ∀ i e, lk [(c, x), (k, .dead)] i = some e → (E i ≠ none ∨ (c ≤ i ∧ i < c + al)) ∧ m i ∧ e.sc m := by
    intro x k h1 hx hk i e h
    rcases lk_two h with ⟨rfl, rfl⟩ | ⟨rfl, rfl⟩
    · exact ⟨.inr (by omega), hnew _ (by omega) (by omega), hx⟩
    · refine ⟨.inl hk, ?_, trivial⟩
      cases hek : E k with
      | none => exact absurd hek hk
      | some e => exact (hE k e hek).1
  have hEs : ∀ i e, E i = some e → e.sc m := fun i e h => (hE i e h).2
  unfold effE at he
  split at he
  · unfold eBox at he
    split at he
    · cases he
      exact ⟨show m c from hnew c (by omega) (by omega), one _ rfl (cells_sc (hys _ (by simp)))⟩
    · cases he
  · unfold eAlloc at he
    cases he
    refine ⟨show m c from hnew c (by omega) (by omega), one _ rfl ?_⟩
    intro x hx
    simp only [List.mem_map] at hx
    obtain ⟨v, _, rfl⟩ := hx
    trivial
  · unfold eStore at he
    split at he
    · split at he
      · rename_i i j z _ cs ty hEi
        cases he
        refine ⟨(fun x hx => by cases hx), fun k e h => ?_⟩
        obtain ⟨rfl, rfl⟩ := lk_one h
        refine ⟨.inl (by rw [hEi]; simp), (hE i _ hEi).1, fun x hx => ?_⟩
        rcases setAt_mem hx with hx | hx
        · exact (hE i _ hEi).2 x hx
        · exact cells_sc (hys z (by simp)) x hx
      · cases he
    · split at he
      · rename_i i sz e j z _ m' sz' f ty hEi
        cases he
        refine ⟨(fun x hx => by cases hx), fun k e h => ?_⟩
        obtain ⟨rfl, rfl⟩ := lk_one h
        refine ⟨.inl (by rw [hEi]; simp), (hE i _ hEi).1, fun e1 j1 => ?_⟩
        unfold updF
        split
        · split
          · rename_i x hx; exact cells_sc (hys z (by simp)) x (nth_mem hx)
          · exact (hE i _ hEi).2 e1 j1
        · exact (hE i _ hEi).2 e1 j1
      · cases he
    · cases he
  · rename_i f
    unfold eCall at he
    have hc := hΓ f ys _ c hlow.1 hlow.2
    split at he
    · rename_i pre res ents next hcr
      rw [hcr] at hc
      cases he
      obtain ⟨_, h1, h23, h3, _⟩ := hc hq
      have hnx : c + (next - c) = next := by omega
      obtain ⟨g1, g2⟩ := h23 m hys (fun i e h => hE i e (resE_sub i e h)) (fun i h4 h5 => hnew i h4 (by omega))
      refine ⟨g1, fun i e h => ⟨?_, g2 i e h⟩⟩
      rcases h3 i e h with g3 | g3
      · refine .inl fun hn => g3 ?_
        cases hre : resE (reach E (ids1L ys)) E i with
        | none => rfl
        | some e' => rw [resE_sub i e' hre] at hn; cases hn
      · exact .inr ⟨g3.1, by omega⟩
    · cases he
  · unfold eSlit at he
    split at he
    · rename_i cs hf
      cases he
      refine ⟨show m c from hnew c (by omega) (by omega), one _ rfl fun e j => ?_⟩
      unfold litF
      split
      · rename_i x hx; exact fillS_cells hf hys x (nth_mem hx)
      · trivial
    · cases he
  · unfold eMks at he
    split at he
    · cases he
      refine ⟨show m c from hnew c (by omega) (by omega), one _ rfl fun e j => ?_⟩
      unfold replF
      split <;> trivial
    · cases he
  · unfold eSlc at he
    split at he
    · split at he
      · split at he
        · cases he
          exact ⟨show m c from hnew c (by omega) (by omega), one _ rfl trivial⟩
        · cases he
      · unfold eSlcO at he
        split at he
        · split at he
          · rename_i hEi
            cases he
            exact ⟨show m c from hnew c (by omega) (by omega), one _ rfl fun e j => (hEs _ _ hEi) _ _⟩
          · rename_i hEi
            cases he
            exact ⟨show m c from hnew c (by omega) (by omega), two _ _ rfl (fun e j => (hEs _ _ hEi) _ _) (by rw [hEi]; simp)⟩
          · cases he
        · cases he
      · cases he
    · cases he
  · unfold eApp at he
    split at he
    · split at he
      · rename_i hEi
        split at he
        · rename_i hx
          cases he
          refine ⟨show m c from hnew c (by omega) (by omega), two _ _ rfl (fun e j => ?_) (by rw [hEi]; simp)⟩
          unfold catF
          split
          · exact (hEs _ _ hEi) _ _
          · exact rowV_sc hEs hx _ _
        · cases he
      · rename_i hEi
        split at he
        · rename_i hx
          cases he
          exact ⟨show m c from hnew c (by omega) (by omega), two _ _ rfl (rowV_sc hEs hx) (by rw [hEi]; simp)⟩
        · cases he
      · cases he
    · split at he
      · rename_i hx
        cases he
        exact ⟨show m c from hnew c (by omega) (by omega), one _ rfl (rowV_sc hEs hx)⟩
      · cases he
    · cases he
  · cases he

theorem rd_scG {env : List (Nat × SV)} {m : Nat → Prop} (h : ∀ s v, lk env s = some v → SV.sc m v) {x : XO} {p : Prop} {y : S1} (hr : rd env x = some (p, y)) : y.sc m := by
  cases x with
  | t i =>
    simp only [rd] at hr
    split at hr
    · rename_i x' hl; cases hr; exact h _ _ hl
    · rename_i b x' hl; cases hr; exact h _ _ hl
    · cases hr
  | k v =>
    simp only [rd, Option.some.injEq, Prod.mk.injEq] at hr
    obtain ⟨_, rfl⟩ := hr
    exact constS_sc _ v
theorem rds_scG {env : List (Nat × SV)} {m : Nat → Prop} (h : ∀ s v, lk env s = some v → SV.sc m v) : ∀ {xs : List XO} {p : Prop} {ys : List S1}, rds env xs = some (p, ys) → ∀ y ∈ ys, S1.sc m y
  | [], p, ys, hr => by simp only [rds, Option.some.injEq, Prod.mk.injEq] at hr; obtain ⟨_, rfl⟩ := hr; intro y hy; cases hy
  | x :: xs, p, ys, hr => by
    simp only [rds] at hr
    split at hr
    · rename_i p1 y h1
      split at hr
      · rename_i q ys' h2
        cases hr
        intro z hz
        cases hz with
        | head => exact rd_scG h h1
        | tail _ hm => exact rds_scG h h2 z hm
      · cases hr
    · cases hr

def pushM (t : Rec) (S : St) (m : Nat) : St := ⟨(match t.d with | some s => (s, t.v) :: S.env | none => S.env), t.us ++ S.ents, m⟩

/-- How it goes on behind an operation that makes or turns memory. -/
theorem rec_eff {Γ : Nat → Con} {ops : Array Oper} {o : Oper} {xp : XOper} {c m : Nat} {p : Prop} {t : Rec} {Next : Act → World → Prop} {Q : Exit → Act → World → Prop} (hΓ : ∀ f, COk P f (Γ f)) (hx : xop P ops o = some xp)
    (hd : ∀ s, xp.dst = some s → s < N) (h : recEff Γ c xp S = some (p, t)) (hp : p) (hr : Rel base M N n0 r0 r S a w) (hn0 : n0 ≤ c) (hcm : c + t.al ≤ m) (hSm : S.next ≤ m)
    (hfe : ∀ s v, lk S.env s = some v → v.sc (nw c t.al)) (hfh : ∀ i e, lk S.ents i = some e → nw c t.al i ∧ e.sc (nw c t.al))
    (hlow : ∀ p ys, rds S.env xp.args = some (p, ys) → (∀ y ∈ ys, S1.sc (upto c) y) ∧ ∀ i e, resE (reach (lk S.ents) (ids1L ys)) (lk S.ents) i = some e → i < c ∧ e.sc (upto c))
    (hN : ∀ r' a' w', Rel base M N n0 r0 r' (pushM t S m) a' w' → Next a' w') :
    Region.wanted o (yielded ops a.tmps) = true ∧ o.wp P a w Next Q := by
  obtain ⟨hx1, hdst⟩ := xop_parts hx
  unfold recEff at h
  split at h
  · cases h
  · rename_i hgn
    refine ⟨guard_sound (gd := none) hx hr (by rw [hgn]; rfl), ?_⟩
    split at h
    · rename_i p1 ys hrd
      split at h
      · rename_i q v us al heff
        cases h
        simp only at hcm hfe hfh hN
        obtain ⟨hp1, hq⟩ := hp
        have hl := hlow _ _ hrd
        have hsc := effE_sc (m := upto m) hΓ (fun y hy => S1.sc_mono (upto_mono hSm) (rds_sc hr hrd y hy)) (fun i e hi => ⟨Nat.lt_of_lt_of_le (hr.scH i e hi).1 hSm, Ent.sc_mono (upto_mono hSm) (hr.scH i e hi).2⟩) (fun i _ hi => show i < m by omega) hl heff hq
        have key := effE_sound hΓ hx1 hr.heap (rds_sound hr hrd hp1) (rds_scG hfe hrd) hfh hl heff hq
        refine key Next Q fun r' w' hr' hh => hN r' _ w' ?_
        have hrel : Rel base M N n0 r0 r' ⟨S.env, us ++ S.ents, m⟩ a w' := by
          refine ⟨hr.defers, hr.tmps, fun s v hl => ?_, ?_, fun s v hl => SV.sc_mono (upto_mono hSm) (hr.scE s v hl), fun i e he => ?_, Nat.le_trans hr.low hSm, fun i hi => ?_⟩
          · rw [SV.den_ext (r := r) (m := nw c al) hr' (hfe s v hl)]; exact hr.slot s v hl
          · have : lk (us ++ S.ents) = upd us (lk S.ents) := funext (lk_append us S.ents)
            rw [this]; exact hh
          · rw [lk_append] at he
            unfold upd at he
            split at he
            · rename_i e' he'; cases he; exact (hsc.2 i _ he').2
            · exact ⟨Nat.lt_of_lt_of_le (hr.scH i e he).1 hSm, Ent.sc_mono (upto_mono hSm) (hr.scH i e he).2⟩
          · rw [hr' i (by unfold nw; omega)]; exact hr.keep i hi
        have := hrel.put (d := o.dst) (v := v) (by rw [← hdst]; exact hd) hsc.1
        have e : (⟨S.env, us ++ S.ents, m⟩ : St).put o.dst v = pushM ⟨xp.dst, v, us, c, al, usesX xp, reach (lk S.ents) (ids1L ys)⟩ S m := by
          rw [← hdst]; unfold St.put pushM; cases xp.dst <;> rfl
        rw [e] at this
        exact this
      · cases h
    · cases h

theorem upto_nw {n al : Nat} : ∀ i, upto n i → nw n al i := fun i hi => by have : i < n := hi; unfold nw; omega

theorem vcOp1_sound {Γ : Nat → Con} {ops : Array Oper} {o : Oper} {xp : XOper} {K : St → Prop} {Next : Act → World → Prop} {Q : Exit → Act → World → Prop} (hΓ : ∀ f, COk P f (Γ f)) (hx : xop P ops o = some xp)
    (hd : ∀ s, xp.dst = some s → s < N) (h : vcOp1 Γ xp S K) (hr : Rel base M N n0 r0 r S a w)
    (hN : ∀ r' S' a' w', K S' → Rel base M N n0 r0 r' S' a' w' → Next a' w') :
    if Region.wanted o (yielded ops a.tmps) = true then o.wp P a w Next Q else Next (a.put o.dst undef) w := by
  unfold vcOp1 at h
  split at h
  · rename_i p v he
    obtain ⟨gd, hg, hq⟩ := evQ_sound hΓ hx he h.1 hr
    rw [hg]
    rw [(xop_parts hx).2] at h hd
    exact hq.go hr hd h.2 hN
  · unfold vcEff at h
    split at h
    · rename_i p t hre
      have hlow : ∀ p ys, rds S.env xp.args = some (p, ys) → (∀ y ∈ ys, S1.sc (upto S.next) y) ∧ ∀ i e, resE (reach (lk S.ents) (ids1L ys)) (lk S.ents) i = some e → i < S.next ∧ e.sc (upto S.next) :=
        fun p ys hrd => ⟨rds_sc hr hrd, fun i e hi => hr.scH i e (resE_sub i e hi)⟩
      obtain ⟨hg, hw⟩ := rec_eff (Q := Q) (m := S.next + t.al) hΓ hx hd hre h.1 hr hr.low (Nat.le_refl _) (Nat.le_add_right _ _) (fun s v hl => SV.sc_mono upto_nw (hr.scE s v hl))
        (fun i e hi => ⟨upto_nw i (hr.scH i e hi).1, Ent.sc_mono upto_nw (hr.scH i e hi).2⟩) hlow (fun r' a' w' hr' => hN r' (pushN t S) a' w' h.2 hr')
      rw [if_pos hg]
      exact hw
    · exact h.elim

theorem vcOpG_sound {Γ : Nat → Con} {ops : Array Oper} {o : Oper} {xp : XOper} {K : St → Prop} {Next : Act → World → Prop} {Q : Exit → Act → World → Prop} (hΓ : ∀ f, COk P f (Γ f)) (hx : xop P ops o = some xp)
    (hd : ∀ s, xp.dst = some s → s < N) (h : vcOpG Γ xp S K) (hr : Rel base M N n0 r0 r S a w)
    (hN : ∀ r' S' a' w', K S' → Rel base M N n0 r0 r' S' a' w' → Next a' w') :
    if Region.wanted o (yielded ops a.tmps) = true then o.wp P a w Next Q else Next (a.put o.dst undef) w := by
  unfold vcOpG at h
  split at h
  · exact vcOp1_sound hΓ hx hd h hr hN
  · rename_i g hgd
    split at h
    · rename_i p v he
      refine vcOp1_sound hΓ hx hd ?_ hr hN
      unfold vcOp1
      rw [he]; exact h
    · split at h
      · rename_i c hc
        rw [← hgd] at hc
        have hw := guard_sound hx hr hc
        obtain ⟨hx1, hdst⟩ := xop_parts hx
        cases c with
        | false =>
          rw [hw, if_neg (by simp [gdB])]
          refine hN r _ _ w (h.2 rfl) ?_
          rw [hdst]
          exact hr.put (d := o.dst) (v := .g false (.c (.v (.bool true)))) (by rw [← hdst]; exact hd) trivial
        | true =>
          rw [hw, if_pos (show gdB (some true) = true from rfl)]
          have hx' : xop P ops { o with guard := none } = some ⟨xp.dst, xp.op, xp.args, none⟩ := by
            unfold xop
            simp only [hx1, hdst]
          have := vcOp1_sound (o := { o with guard := none }) (Q := Q) hΓ hx' hd (h.1 rfl) hr hN
          have hw' : Region.wanted { o with guard := none } (yielded ops a.tmps) = true := by simp [Region.wanted]
          rw [if_pos hw'] at this
          exact this
      · exact h.elim

theorem xop1_isnil {op : Op} {xs : List XO} {neg : Bool} (h : xop1 P op = some (.isnil neg, xs)) :
    ∃ bo t x e ty, op = .binOp bo t x (.const (.slice none 0 0)) ty ∧ ((bo = .eql ∧ neg = false) ∨ (bo = .neq ∧ neg = true)) ∧ P.underlying t = some (.slice e) ∧ xs = [xo x] := by
  cases op <;> simp only [xop1] at h
  case binOp bo t x y ty =>
    split at h
    · cases h
    · cases h
    · rename_i e hu
      split at h
      · cases h; exact ⟨_, t, x, e, ty, rfl, .inl ⟨rfl, rfl⟩, hu, rfl⟩
      · cases h; exact ⟨_, t, x, e, ty, rfl, .inr ⟨rfl, rfl⟩, hu, rfl⟩
      · cases h
    · repeat' split at h
      all_goals (cases h)
    · cases h
  all_goals (first | (cases h; done) | skip)
  all_goals (repeat' split at h)
  all_goals (cases h)

theorem run_nil_in (d : Nat) {t e : TypeId} {ad : Option Addr} {n cap : Nat} (hu : P.underlying t = some (.slice e)) : (Op.equalIn (d + 1) t (.slice ad n cap) (.slice none 0 0)).run P w = .ok ad.isNone w := by
  cases ad <;> simp [Op.equalIn, run_underlying hu]
theorem run_nil_eql {t e : TypeId} {ad : Option Addr} {n cap : Nat} (hu : P.underlying t = some (.slice e)) : (Op.equal t (.slice ad n cap) (.slice none 0 0)).run P w = .ok ad.isNone w := run_nil_in 9999 hu

theorem run_nil_eq {t e : TypeId} {bo : BinOp} {neg : Bool} {ad : Option Addr} {n cap : Nat} (hb : (bo = .eql ∧ neg = false) ∨ (bo = .neq ∧ neg = true)) (hu : P.underlying t = some (.slice e)) :
    (binOp bo t (.slice ad n cap) (.slice none 0 0)).run P w = .ok (.bool (ad.isNone != neg)) w := by
  rcases hb with ⟨rfl, rfl⟩ | ⟨rfl, rfl⟩ <;> simp [binOp, run_nil_eql hu]

theorem vcOp_sound {Γ : Nat → Con} {ops : Array Oper} {o : Oper} {xp : XOper} {K : St → Prop} {Next : Act → World → Prop} {Q : Exit → Act → World → Prop} (hΓ : ∀ f, COk P f (Γ f)) (hx : xop P ops o = some xp)
    (hd : ∀ s, xp.dst = some s → s < N) (h : vcOp Γ xp S K) (hr : Rel base M N n0 r0 r S a w)
    (hN : ∀ r' S' a' w', K S' → Rel base M N n0 r0 r' S' a' w' → Next a' w') :
    if Region.wanted o (yielded ops a.tmps) = true then o.wp P a w Next Q else Next (a.put o.dst undef) w := by
  unfold vcOp at h
  split at h
  · rename_i neg hop
    split at h
    · rename_i hgn
      obtain ⟨hx1, hdst⟩ := xop_parts hx
      have hw1 : Region.wanted o (yielded ops a.tmps) = true := guard_sound (gd := none) hx hr (by rw [hgn]; rfl)
      rw [if_pos hw1]
      rw [hop] at hx1
      obtain ⟨bo, t, x, e, ty, ho, hb, hu, hxs⟩ := xop1_isnil hx1
      unfold vcNil at h
      split at h
      · rename_i p y hrd
        split at h
        · rename_i n sz f hrow
          obtain ⟨hp, hK⟩ := h
          have hv := rds_sound hr hrd hp
          rw [hxs] at hv
          simp only [List.map_cons, List.map_nil, List.cons.injEq, and_true] at hv
          rw [xo_val] at hv
          obtain ⟨ad, cap, g1, g2, g3⟩ := rowV_val hr.heap hrow
          have hrun : (execOp a.eval o).run P w = .ok (.value (.bool (ad.isNone != neg))) w := by
            simp only [execOp, ho, hv, g1]
            refine run_valW ?_
            have : a.eval (.const (.slice none 0 0)) = .slice none 0 0 := rfl
            rw [this]
            have hg : (eqGuard bo t x (.const (.slice none 0 0)) (.slice ad n cap) (.slice none 0 0)).run P w = .ok () w := by
              rcases hb with ⟨rfl, _⟩ | ⟨rfl, _⟩ <;> rfl
            simp only [Sem.run_bind, hg, Result.andThen_ok, run_nil_eq hb hu]
          unfold Oper.wp
          rw [hrun]
          simp only [Oper.upon]
          refine hN r _ _ w (hK ad.isNone (fun hn => ?_)) ?_
          · cases ad with
            | some ad => cases hn
            | none =>
              rcases Nat.eq_zero_or_pos n with h0 | h0
              · exact h0
              · obtain ⟨b, o', hh, _⟩ := g3 h0; cases hh
          · rw [hdst]
            exact hr.put (d := o.dst) (v := .o (.c (.v (.bool (ad.isNone != neg))))) (by rw [← hdst]; exact hd) trivial
        · exact h.elim
      · exact h.elim
    · exact h.elim
  · exact vcOpG_sound hΓ hx hd h hr hN

/-- What a quiet operation yields is in scope. -/
theorem evQ_scG {Γ : Nat → Con} {xp : XOper} {q : Prop} {v : SV} {m : Nat → Prop} (hΓ : ∀ f, COk P f (Γ f)) (hE : ∀ s v, lk S.env s = some v → SV.sc m v) (hH : ∀ i e, lk S.ents i = some e → m i ∧ e.sc m)
    (hr : Rel base M N n0 r0 r S a w) (h : evQ Γ xp S = some (q, v)) : v.sc m := by
  have hfin : ∀ {gd : Option Bool} {p q : Prop} {x : S1} {v : SV}, fin gd p x = some (q, v) → x.sc m → v.sc m := by
    intro gd p q x v h hx
    cases gd <;> (simp only [fin, Option.some.injEq, Prod.mk.injEq] at h; obtain ⟨_, rfl⟩ := h; exact hx)
  have hcr : ∀ {gd : Option Bool} {p q : Prop} {v : SV} {f : Nat} {ys : List S1} {l : List Nat} {cr : Option CR}, (∀ y ∈ ys, S1.sc m y) → CROk P f ys (resE l (lk S.ents)) S.next cr → evCR gd p cr = some (q, v) → v.sc m := by
    intro gd p q v f ys l cr hy hc h
    unfold evCR at h
    split at h
    · exact hfin h (hc.1 m hy (fun i e hi => hH i e (resE_sub i e hi)))
    · split at h
      · cases h; exact hc.1 m hy (fun i e hi => hH i e (resE_sub i e hi))
      · cases h
    · cases h
  unfold evQ at h
  split at h
  · rename_i xs ht
    cases h
    unfold evTup at ht
    split at ht
    · cases ht
    · split at ht
      · split at ht
        · unfold tupOf at ht
          split at ht
          · split at ht
            · rename_i hl; cases ht; exact hE _ _ hl
            · cases ht
          · cases ht
        · cases ht
      · cases ht
  · unfold evQ0 at h
    split at h
    · cases h
    · split at h
      · split at h
        · unfold evPick at h
          split at h
          · exact hfin h trivial
          · cases h
        · cases h
      · unfold evExt at h
        split at h
        · split at h
          · rename_i hl
            split at h
            · rename_i x hx; exact hfin h (hE _ _ hl x (nth_mem hx))
            · cases h
          · cases h
        · cases h
      · split at h
        · rename_i hrd
          exact hcr (rds_scG hE hrd) (hΓ _ _ _ _ (rds_sc hr hrd) (fun i e h => hr.scH i e (resE_sub i e h))) h
        · cases h
      · split at h
        · rename_i hrd
          exact hcr (fun y hy => rds_scG hE hrd y (List.mem_cons_of_mem _ hy)) (hΓ _ _ _ _ (fun y hy => rds_sc hr hrd y (List.mem_cons_of_mem _ hy)) (fun i e h => hr.scH i e (resE_sub i e h))) h
        · cases h
      · cases h
      · cases h
      · cases h
      · cases h
      · cases h
      · cases h
      · cases h
      · split at h
        · rename_i hrd
          split at h
          · rename_i hq
            exact hfin h (opQ_sc hH (rds_scG hE hrd) hq)
          · cases h
        · cases h

end
end Go.Sx
