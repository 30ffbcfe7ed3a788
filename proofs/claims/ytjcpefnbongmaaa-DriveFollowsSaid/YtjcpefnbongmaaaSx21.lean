/- A part of the proof of a statement about this seat: how a function is stepped through, and plain laws. No conditions. -/
import Derived.Test.YtjcpefnbongmaaaSx20
set_option linter.unusedVariables false
set_option linter.unusedSimpArgs false
namespace Go.Sx
open Go.RowKit

section
variable {P : Program} {base : World} {M : Nat → Prop} {N n0 : Nat} {r0 r : Rho} {S : St} {a : Act} {w : World}

theorem SC.sc_of_ids {c : Nat} {x : SC} (h : c ∉ x.ids) : x.sc (fun i => i ≠ c) := by
  cases x with
  | v x => trivial
  | p i j => simp [SC.ids] at h; exact fun e => h e.symm
  | n i => simp [SC.ids] at h; exact fun e => h e.symm
  | q i sz e j => simp [SC.ids] at h; exact fun e => h e.symm
theorem idsL_sc {c : Nat} : ∀ {l : List SC}, c ∉ idsL l → ∀ x ∈ l, x.sc (fun i => i ≠ c)
  | [], _, x, hx => by cases hx
  | y :: l, h, x, hx => by
    simp only [idsL, List.mem_append, not_or] at h
    cases hx with
    | head => exact SC.sc_of_ids h.1
    | tail _ hm => exact idsL_sc h.2 x hm
theorem S1.sc_of_ids {c : Nat} {x : S1} (h : c ∉ x.ids) : x.sc (fun i => i ≠ c) := by
  cases x with
  | c x => exact SC.sc_of_ids h
  | a cs => exact idsL_sc h
theorem ids1L_sc {c : Nat} : ∀ {l : List S1}, c ∉ ids1L l → ∀ x ∈ l, x.sc (fun i => i ≠ c)
  | [], _, x, hx => by cases hx
  | y :: l, h, x, hx => by
    simp only [ids1L, List.mem_append, not_or] at h
    cases hx with
    | head => exact S1.sc_of_ids h.1
    | tail _ hm => exact ids1L_sc h.2 x hm
theorem SV.sc_of_ids {c : Nat} {x : SV} (h : c ∉ x.ids) : x.sc (fun i => i ≠ c) := by
  cases x with
  | o x => exact S1.sc_of_ids h
  | t xs => exact ids1L_sc h
  | g b x => exact S1.sc_of_ids h

/-- A box made under a name that is free. -/
theorem boxAt_sound {o : Oper} {c : Nat} {ty : TypeId} {cs : List SC} {vs : Array Value} {Next : Act → World → Prop} {Q : Exit → Act → World → Prop} (hr : Rel base M N n0 r0 r S a w) (hd : ∀ s, o.dst = some s → s < N)
    (hc : c < S.next) (hn0 : n0 ≤ c) (hfe : ∀ s v, lk S.env s = some v → v.sc (fun i => i ≠ c)) (hfh : ∀ i e, lk S.ents i = some e → i ≠ c ∧ e.sc (fun i => i ≠ c)) (hfc : ∀ x ∈ cs, SC.sc (fun i => i ≠ c) x)
    (hcs : ∀ x ∈ cs, SC.sc (upto S.next) x) (hv : vs = (cs.map (SC.den r)).toArray)
    (hrun : (execOp a.eval o).run P w = .ok (.value (.pointer (some ⟨w.heap.size, 0, none⟩))) (w.alloc (.cells vs ty)))
    (hN : ∀ r' a' w', Rel base M N n0 r0 r' ((⟨S.env, (c, .box cs ty) :: S.ents, S.next⟩ : St).put o.dst (.o (.c (.p c 0)))) a' w' → Next a' w') : o.wp P a w Next Q := by
  unfold Oper.wp
  rw [hrun, hv]
  simp only [Oper.upon]
  have hh := hr.heap.box (m := c) hfh hfc ty
  refine hN (more r c (.pointer (some ⟨w.heap.size, 0, none⟩))) _ _ ?_
  have hrel : Rel base M N n0 r0 (more r c (.pointer (some ⟨w.heap.size, 0, none⟩))) ⟨S.env, (c, .box cs ty) :: S.ents, S.next⟩ a (w.alloc (.cells (cs.map (SC.den r)).toArray ty)) := by
    refine ⟨hr.defers, hr.tmps, fun s v hl => ?_, ?_, hr.scE, ?_, hr.low, fun i hi => ?_⟩
    · rw [SV.den_ext (r := r) more_ne (hfe s v hl)]; exact hr.slot s v hl
    · rw [lk_cons]; exact hh
    · intro i e he
      rw [lk_cons] at he
      by_cases hi : c = i
      · subst hi
        simp only [if_true] at he
        cases he
        exact ⟨hc, hcs⟩
      · simp only [if_neg hi] at he
        exact hr.scH i e he
    · rw [more_ne i (by omega)]; exact hr.keep i hi
  have := hrel.put (d := o.dst) (v := .o (.c (.p c 0))) hd hc
  simp only [SV.den, S1.den, SC.den, more_new, addrOf, Nat.add_zero] at this
  exact this

theorem put_pushR {t : Rec} (h : t.u = none) : S.put t.d t.v = pushR t S := by
  unfold St.put pushR
  rw [h]
  cases t.d <;> rfl

/-- What the lexical run says of an operation holds of it wherever it is carried out. -/
theorem rec_sound {Γ : Nat → Con} {ops : Array Oper} {o : Oper} {xp : XOper} {c : Nat} {p : Prop} {t : Rec} {Next : Act → World → Prop} {Q : Exit → Act → World → Prop} (hΓ : ∀ f, COk P f (Γ f)) (hx : xop P ops o = some xp)
    (hd : ∀ s, xp.dst = some s → s < N) (h : recOf Γ c xp S = some (p, t)) (hp : p) (hr : Rel base M N n0 r0 r S a w)
    (hal : t.al = some c → c < S.next ∧ n0 ≤ c ∧ (∀ s v, lk S.env s = some v → v.sc (fun i => i ≠ c)) ∧ (∀ i e, lk S.ents i = some e → i ≠ c ∧ e.sc (fun i => i ≠ c)))
    (hN : ∀ r' a' w', Rel base M N n0 r0 r' (pushR t S) a' w' → Next a' w') :
    if Region.wanted o (yielded ops a.tmps) = true then o.wp P a w Next Q else Next (a.put o.dst undef) w := by
  obtain ⟨hx1, hdst⟩ := xop_parts hx
  unfold recOf at h
  split at h
  · rename_i p' v he
    cases h
    obtain ⟨gd, hg, hq⟩ := evQ_sound hΓ hx he hp hr
    rw [hg]
    rw [hdst] at hd
    refine hq.go (K := fun S' => S' = pushR ⟨xp.dst, v, none, none, usesX xp, readsX xp S⟩ S) hr hd (by rw [← put_pushR rfl]; simp only [hdst]) (fun r' S' a' w' hS hr' => hN r' a' w' (by rw [← hS]; exact hr'))
  · rename_i hev
    clear hev
    unfold recEff at h
    split at h
    · cases h
    · rename_i hgn
      have hw : Region.wanted o (yielded ops a.tmps) = true := guard_sound (gd := none) hx hr (by rw [hgn]; rfl)
      rw [if_pos hw]
      rw [hdst] at hd
      obtain ⟨d, xop, xargs, xg⟩ := xp
      simp only at h hx1 hdst
      subst hdst
      split at h
      · rename_i ty
        obtain ⟨x, ho, rfl⟩ := xop1_box hx1
        split at h
        · rename_i p1 z hrd
          cases h
          obtain ⟨hp1, hok⟩ := hp
          obtain ⟨h1, h2, h3, h4⟩ := hal rfl
          have hz := rds_sound hr hrd hp1
          simp only [List.map_cons, List.map_nil, List.cons.injEq, and_true] at hz
          rw [xo_val] at hz
          have hsc : ∀ c' ∈ z.cells, SC.sc (upto S.next) c' := by
            have := rds_sc hr hrd z (by simp)
            cases z with
            | c c => intro c' hc'; simp only [S1.cells, List.mem_singleton] at hc'; subst hc'; exact this
            | a zs => exact this
          have hfc : ∀ c' ∈ z.cells, SC.sc (fun i => i ≠ c) c' := by
            have hz' : z.sc (fun i => i ≠ c) := by
              simp only [rds] at hrd
              split at hrd
              · rename_i p2 y hrd1
                simp only [Option.some.injEq, Prod.mk.injEq, List.cons.injEq, and_true] at hrd
                obtain ⟨_, rfl⟩ := hrd
                cases hxo : xo x with
                | t i =>
                  rw [hxo] at hrd1
                  simp only [rd] at hrd1
                  split at hrd1
                  · rename_i x' hl; cases hrd1; exact h3 _ _ hl
                  · rename_i b x' hl; cases hrd1; exact h3 _ _ hl
                  · cases hrd1
                | k v =>
                  rw [hxo] at hrd1
                  simp only [rd, Option.some.injEq, Prod.mk.injEq] at hrd1
                  obtain ⟨_, rfl⟩ := hrd1
                  exact constS_sc _ v
              · cases hrd
            cases z with
            | c c => intro c' hc'; simp only [S1.cells, List.mem_singleton] at hc'; subst hc'; exact hz'
            | a zs => exact hz'
          refine boxAt_sound (ty := ty) (vs := (a.eval x).cells) hr hd h1 h2 h3 h4 hfc hsc ?_ ?_ (fun r' a' w' hr' => hN r' a' w' ?_)
          · rw [hz, ← S1.cells_ok hr.heap.one hok, Array.toArray_toList]
          · simp [execOp, ho, Instr.box, newVar, newRow]
          · have : ∀ dd : Option Nat, (⟨S.env, (c, Ent.box z.cells ty) :: S.ents, S.next⟩ : St).put dd (.o (.c (.p c 0))) = pushR ⟨dd, .o (.c (.p c 0)), some (c, z.cells, ty), some c, usesX ⟨dd, .box ty, [xo x], xg⟩, []⟩ S := by
              intro dd; cases dd <;> rfl
            rw [this] at hr'; exact hr'
        · cases h
      · rename_i ty z
        obtain ⟨zz, ho, hz, rfl⟩ := xop1_alloc hx1
        obtain ⟨i, hi, hzi⟩ := Option.bind_eq_some_iff.1 hz
        cases h
        obtain ⟨h1, h2, h3, h4⟩ := hal rfl
        have hpl : ∀ (m : Nat → Prop), ∀ x ∈ zz.cells.toList.map SC.v, SC.sc m x := by
          intro m x hx
          simp only [List.mem_map] at hx
          obtain ⟨v, _, rfl⟩ := hx
          trivial
        refine boxAt_sound (ty := ty) (vs := zz.cells) hr hd h1 h2 h3 h4 (hpl _) (hpl _) ?_ ?_ (fun r' a' w' hr' => hN r' a' w' ?_)
        · rw [List.map_map]
          have : (SC.den r ∘ SC.v) = id := rfl
          rw [this, List.map_id, Array.toArray_toList]
        · simp [execOp, ho, Instr.alloc, zeroValue, run_typeInfo' hi, hzi, newVar, newRow]
        · have : ∀ (dd : Option Nat) (cs : List SC) (us : List Nat), (⟨S.env, (c, Ent.box cs ty) :: S.ents, S.next⟩ : St).put dd (.o (.c (.p c 0))) = pushR ⟨dd, .o (.c (.p c 0)), some (c, cs, ty), some c, us, []⟩ S := by
            intro dd cs us; cases dd <;> rfl
          rw [this] at hr'; exact hr'
      · rename_i n
        obtain ⟨t', x, y, inf, ho, hi, rfl, rfl⟩ := xop1_store hx1
        split at h
        · rename_i p1 i j z hrd
          split at h
          · rename_i cs ty hl
            cases h
            refine vcStore_sound (p := p1) (ys := [.c (.p i j), z]) (K := fun S' => S' = (⟨S.env, (i, .box (setAt cs j z.cells) ty) :: S.ents, S.next⟩ : St).put o.dst (.t [])) hr hd ho hi (fun hp => rds_sound hr hrd hp) (rds_sc hr hrd) ?_ (fun r' S' a' w' hS hr' => hN r' a' w' ?_)
            · simp only [vcStore, hl]
              exact ⟨hp, trivial⟩
            · subst hS
              have : ∀ (dd : Option Nat) (us : List Nat), (⟨S.env, (i, Ent.box (setAt cs j z.cells) ty) :: S.ents, S.next⟩ : St).put dd (.t []) = pushR ⟨dd, .t [], some (i, setAt cs j z.cells, ty), none, us, [i]⟩ S := by
                intro dd us; cases dd <;> rfl
              rw [this] at hr'; exact hr'
          · cases h
        · cases h
      · cases h

end
end Go.Sx
