/- A part of the proof of a statement about this seat: how a function is stepped through, and plain laws. No conditions. -/
import Derived.Test.YtgdglgcfmebonaaSx19
set_option linter.unusedVariables false
set_option linter.unusedSimpArgs false
namespace Go.Sx
open Go.RowKit

theorem memN_iff {i : Nat} : ∀ {l : List Nat}, memN i l = true ↔ i ∈ l
  | [] => by simp [memN]
  | j :: l => by
    simp only [memN, List.mem_cons]
    split
    · rename_i h; simp [h]
    · rename_i h; rw [memN_iff]; simp [h]

theorem stL_next : ∀ (ts : List Rec) (L : Nat → Bool) (k : Nat) (S : St), (stL ts L k S).next = S.next
  | [], _, _, _ => rfl
  | t :: ts, L, k, S => by
    simp only [stL]
    rw [stL_next]
    split <;> rfl

theorem stL_env : ∀ (ts : List Rec) (L L' : Nat → Bool) (k : Nat) (S S2 : St) (s : Nat), (∀ (i : Nat) (t : Rec), ts[i]? = some t → t.d = some s → L (k + i) = L' (k + i)) → lk S.env s = lk S2.env s →
    lk (stL ts L k S).env s = lk (stL ts L' k S2).env s
  | [], _, _, _, _, _, _, _, h => h
  | t :: ts, L, L', k, S, S2, s, hw, h => by
    simp only [stL]
    refine stL_env ts L L' (k + 1) _ _ s (fun i t' h1 h2 => by have := hw (i + 1) t' (by simpa using h1) h2; rw [Nat.add_assoc, Nat.add_comm 1 i]; exact this) ?_
    by_cases hd : t.d = some s
    · have := hw 0 t rfl hd
      simp only [Nat.add_zero] at this
      rw [this]
      split
      · simp only [pushR, hd, lk, if_true]
      · exact h
    · have hp : ∀ S : St, lk (pushR t S).env s = lk S.env s := by
        intro S
        simp only [pushR]
        split
        · rename_i s' hs'
          simp only [lk]
          rw [if_neg (by rintro rfl; exact hd hs')]
        · rfl
      split <;> split <;> simp only [hp, h]

theorem keys_lk : ∀ {l : List (Nat × Ent)} {i : Nat}, i ∉ keys l → lk l i = none
  | [], _, _ => rfl
  | (k, e) :: l, i, h => by
    simp only [keys, List.mem_cons, not_or] at h
    simp only [lk]
    rw [if_neg (fun hh => h.1 hh.symm)]
    exact keys_lk h.2
theorem keys_of : ∀ {l : List (Nat × Ent)} {i : Nat}, i ∈ keys l → ∃ e, lk l i = some e
  | (k, e) :: l, i, h => by
    simp only [keys, List.mem_cons] at h
    simp only [lk]
    by_cases hk : k = i
    · exact ⟨e, by rw [if_pos hk]⟩
    · rw [if_neg hk]
      rcases h with h | h
      · exact absurd h.symm hk
      · exact keys_of h

theorem pushR_ents_in {t : Rec} {S : St} {s : Nat} {e : Ent} (h : lk t.us s = some e) : lk (pushR t S).ents s = some e := by
  show lk (t.us ++ S.ents) s = _
  rw [lk_append, upd_some h]
theorem pushR_ents_out {t : Rec} {S : St} {s : Nat} (h : s ∉ keys t.us) : lk (pushR t S).ents s = lk S.ents s := by
  show lk (t.us ++ S.ents) s = _
  rw [lk_append, upd_none (keys_lk h)]

theorem stL_ents : ∀ (ts : List Rec) (L L' : Nat → Bool) (k : Nat) (S S2 : St) (s : Nat), (∀ (i : Nat) (t : Rec), ts[i]? = some t → s ∈ keys t.us → L (k + i) = L' (k + i)) → lk S.ents s = lk S2.ents s →
    lk (stL ts L k S).ents s = lk (stL ts L' k S2).ents s
  | [], _, _, _, _, _, _, _, h => h
  | t :: ts, L, L', k, S, S2, s, hw, h => by
    simp only [stL]
    refine stL_ents ts L L' (k + 1) _ _ s (fun i t' h1 h2 => by have := hw (i + 1) t' (by simpa using h1) h2; rw [Nat.add_assoc, Nat.add_comm 1 i]; exact this) ?_
    by_cases hd : s ∈ keys t.us
    · have := hw 0 t rfl hd
      simp only [Nat.add_zero] at this
      rw [this]
      obtain ⟨e, he⟩ := keys_of hd
      split
      · rw [pushR_ents_in he, pushR_ents_in he]
      · exact h
    · split <;> split <;> simp only [pushR_ents_out hd, h]

theorem stL_env_at : ∀ (ts : List Rec) (L : Nat → Bool) (k : Nat) (S : St) (s j : Nat) (t : Rec), ts[j]? = some t → t.d = some s → L (k + j) = true →
    (∀ (i : Nat) (t' : Rec), j < i → ts[i]? = some t' → t'.d = some s → L (k + i) = false) → lk (stL ts L k S).env s = some t.v
  | [], _, _, _, _, _, _, h, _, _, _ => by simp at h
  | t0 :: ts, L, k, S, s, 0, t, h, hd, hL, hw => by
    simp only [List.getElem?_cons_zero, Option.some.injEq] at h
    subst h
    simp only [stL]
    rw [if_pos (by simpa using hL)]
    rw [stL_env ts L (fun _ => false) (k + 1) _ (pushR t0 S) s (fun i t' h1 h2 => by have := hw (i + 1) t' (by omega) (by simpa using h1) h2; rw [Nat.add_assoc, Nat.add_comm 1 i]; exact this) rfl]
    have : ∀ (ts : List Rec) (k : Nat) (S : St), stL ts (fun _ => false) k S = S := by
      intro ts
      induction ts with
      | nil => intro k S; rfl
      | cons t ts ih => intro k S; simp only [stL]; rw [if_neg (by simp)]; exact ih _ _
    rw [this]
    simp only [pushR, hd, lk, if_true]
  | t0 :: ts, L, k, S, s, j + 1, t, h, hd, hL, hw => by
    simp only [stL]
    refine stL_env_at ts L (k + 1) _ s j t (by simpa using h) hd (by rw [Nat.add_assoc, Nat.add_comm 1 j]; exact hL) (fun i t' h0 h1 h2 => ?_)
    have := hw (i + 1) t' (by omega) (by simpa using h1) h2
    rw [Nat.add_assoc, Nat.add_comm 1 i]; exact this

theorem stL_ents_at : ∀ (ts : List Rec) (L : Nat → Bool) (k : Nat) (S : St) (s j : Nat) (t : Rec) (e : Ent), ts[j]? = some t → lk t.us s = some e → L (k + j) = true →
    (∀ (i : Nat) (t' : Rec), j < i → ts[i]? = some t' → s ∈ keys t'.us → L (k + i) = false) → lk (stL ts L k S).ents s = some e
  | [], _, _, _, _, _, _, _, h, _, _, _ => by simp at h
  | t0 :: ts, L, k, S, s, 0, t, e, h, hd, hL, hw => by
    simp only [List.getElem?_cons_zero, Option.some.injEq] at h
    subst h
    simp only [stL]
    rw [if_pos (by simpa using hL)]
    rw [stL_ents ts L (fun _ => false) (k + 1) _ (pushR t0 S) s (fun i t' h1 h2 => by have := hw (i + 1) t' (by omega) (by simpa using h1) h2; rw [Nat.add_assoc, Nat.add_comm 1 i]; exact this) rfl]
    have : ∀ (ts : List Rec) (k : Nat) (S : St), stL ts (fun _ => false) k S = S := by
      intro ts
      induction ts with
      | nil => intro k S; rfl
      | cons t ts ih => intro k S; simp only [stL]; rw [if_neg (by simp)]; exact ih _ _
    rw [this]
    exact pushR_ents_in hd
  | t0 :: ts, L, k, S, s, j + 1, t, e, h, hd, hL, hw => by
    simp only [stL]
    refine stL_ents_at ts L (k + 1) _ s j t e (by simpa using h) hd (by rw [Nat.add_assoc, Nat.add_comm 1 j]; exact hL) (fun i t' h0 h1 h2 => ?_)
    have := hw (i + 1) t' (by omega) (by simpa using h1) h2
    rw [Nat.add_assoc, Nat.add_comm 1 i]; exact this

/-! ### An operation looks at its footprint alone -/

section
variable {S S2 : St}

theorem rd_congr {x : XO} (h : ∀ s ∈ x.slots, lk S.env s = lk S2.env s) : rd S.env x = rd S2.env x := by
  cases x with
  | t i => simp only [rd, h i (by simp [XO.slots])]
  | k v => rfl

theorem rds_congr : ∀ {xs : List XO}, (∀ s ∈ slotsL xs, lk S.env s = lk S2.env s) → rds S.env xs = rds S2.env xs
  | [], _ => rfl
  | x :: xs, h => by
    simp only [rds]
    rw [rd_congr (fun s hs => h s (by simp [slotsL, hs])), rds_congr (fun s hs => h s (by simp [slotsL, hs]))]

theorem guardOf_congr {g : Option (Nat × Bool)} (h : ∀ s w, g = some (s, w) → lk S.env s = lk S2.env s) : guardOf S.env g = guardOf S2.env g := by
  cases g with
  | none => rfl
  | some p => obtain ⟨s, w⟩ := p; simp only [guardOf, h s w rfl]

theorem boxOf_congr {E E' : Nat → Option Ent} {i : Nat} (h : E i = E' i) : boxOf E i = boxOf E' i := by simp only [boxOf, h]
theorem rowOf_congr {E E' : Nat → Option Ent} {i : Nat} (h : E i = E' i) : rowOf E i = rowOf E' i := by simp only [rowOf, h]
theorem rowV_congr {E E' : Nat → Option Ent} {x : S1} (h : ∀ i ∈ x.ids, E i = E' i) : rowV E x = rowV E' x := by
  unfold rowV
  split
  · rename_i i
    rw [rowOf_congr (h i (by simp [S1.ids, SC.ids]))]
  · rfl
  · rfl

theorem opQ_congr {E E' : Nat → Option Ent} {op : XOp} {ys : List S1} (h : ∀ i ∈ ids1L ys, E i = E' i) : opQ E op ys = opQ E' op ys := by
  cases op <;> simp only [opQ]
  case load1 =>
    unfold qLoad1
    split
    · rw [boxOf_congr (h _ (by simp [ids1L, S1.ids, SC.ids]))]
    · rw [rowOf_congr (h _ (by simp [ids1L, S1.ids, SC.ids]))]
    · rfl
  case loadN m =>
    unfold qLoadN
    split
    · rw [boxOf_congr (h _ (by simp [ids1L, S1.ids, SC.ids]))]
    · rw [rowOf_congr (h _ (by simp [ids1L, S1.ids, SC.ids]))]
    · rfl
  case ixS sz =>
    unfold qIxS
    split
    · rw [rowOf_congr (h _ (by simp [ids1L, S1.ids, SC.ids]))]
    · rfl
  case lenS =>
    unfold qLenS
    split
    · rw [rowV_congr (fun i hi => h i (by simp [ids1L, hi]))]
    · rfl

theorem resE_congr {E E' : Nat → Option Ent} {l : List Nat} (h : ∀ i ∈ l, E i = E' i) : resE l E = resE l E' := by
  funext i
  unfold resE
  split
  · rename_i hm; exact h i (memN_iff.1 hm)
  · rfl

theorem ids1L_tail {y : S1} {ys : List S1} : ∀ i ∈ ids1L ys, i ∈ ids1L (y :: ys) := fun i hi => by simp [ids1L, hi]

theorem reachB_mem {E : Nat → Option Ent} : ∀ {l : List Nat} {i : Nat}, i ∈ reachB E l ↔ ∃ k ∈ l, ∃ cs ty, E k = some (.box cs ty) ∧ i ∈ idsL cs
  | [], i => by simp [reachB]
  | k :: l, i => by
    simp only [reachB, List.mem_append, reachB_mem, List.mem_cons]
    constructor
    · rintro (h | ⟨k', h1, h2⟩)
      · split at h
        · rename_i cs ty he; exact ⟨k, .inl rfl, cs, ty, he, h⟩
        · cases h
      · exact ⟨k', .inr h1, h2⟩
    · rintro ⟨k', rfl | h1, cs, ty, he, hi⟩
      · left; rw [he]; exact hi
      · exact .inr ⟨k', h1, cs, ty, he, hi⟩
theorem reach_congr {E E' : Nat → Option Ent} : ∀ {l : List Nat}, (∀ i ∈ l, E i = E' i) → reach E l = reach E' l := by
  have : ∀ {l : List Nat}, (∀ i ∈ l, E i = E' i) → reachB E l = reachB E' l := by
    intro l
    induction l with
    | nil => intro _; rfl
    | cons k l ih => intro h; simp only [reachB]; rw [h k (by simp), ih (fun i hi => h i (by simp [hi]))]
  intro l h
  unfold reach
  rw [this h]
theorem reach_mono {E : Nat → Option Ent} {l l' : List Nat} (h : ∀ i ∈ l, i ∈ l') : ∀ i ∈ reach E l, i ∈ reach E l' := by
  intro i hi
  unfold reach at hi ⊢
  rw [List.mem_append] at hi ⊢
  rcases hi with hi | hi
  · exact .inl (h i hi)
  · obtain ⟨k, hk, r⟩ := reachB_mem.1 hi
    exact .inr (reachB_mem.2 ⟨k, h k hk, r⟩)
theorem resR_congr {E E' : Nat → Option Ent} {l : List Nat} (h : ∀ i ∈ reach E l, E i = E' i) : resE (reach E l) E = resE (reach E' l) E' := by
  rw [reach_congr (E := E) (E' := E') (fun i hi => h i (reach_sub E l i hi))] at *
  exact resE_congr h

theorem tupOf_congr {e1 e2 : List (Nat × SV)} {x : XO} (h : ∀ s ∈ x.slots, lk e1 s = lk e2 s) : tupOf e1 x = tupOf e2 x := by
  unfold tupOf
  split
  · rename_i s
    rw [h s (by simp [XO.slots])]
  · rfl

theorem evQ0_congr {Γ : Nat → Con} {x : XOper} (hn : S.next = S2.next) (hu : ∀ s ∈ usesX x, lk S.env s = lk S2.env s) (hr : ∀ i ∈ readsX x S, lk S.ents i = lk S2.ents i) : evQ0 Γ x S = evQ0 Γ x S2 := by
  have hg : guardOf S.env x.guard = guardOf S2.env x.guard := guardOf_congr (fun s w h => hu s (by simp [usesX, h]))
  have ha : rds S.env x.args = rds S2.env x.args := rds_congr (fun s hs => hu s (by simp [usesX, hs]))
  unfold readsX at hr
  unfold evQ0
  rw [← hg]
  split
  · rfl
  · rename_i gd _
    obtain ⟨d, op, args, g⟩ := x
    simp only at ha hr hu ⊢
    split
    · rename_i hgg
      split
      · rename_i c x y
        rw [rd_congr (x := c) (fun s hs => hu s (by simp [usesX, slotsL, hs])), rd_congr (x := x) (fun s hs => hu s (by simp [usesX, slotsL, hs])), rd_congr (x := y) (fun s hs => hu s (by simp [usesX, slotsL, hs]))]
      · rfl
    · rename_i i
      unfold evExt
      split
      · rename_i s
        rw [hu s (by simp [usesX, slotsL, XO.slots])]
      · rfl
    · rename_i f
      rw [← ha]
      split
      · rename_i p ys hys
        rw [hys] at hr
        rw [resR_congr hr, hn]
      · rfl
    · rw [← ha]
      split
      · rename_i p f fs cs ys hys
        rw [hys] at hr
        rw [resR_congr (fun i hi => hr i (reach_mono ids1L_tail i hi)), hn]
      · rfl
    · rfl
    · rfl
    · rfl
    · rfl
    · rfl
    · rfl
    · rfl
    · rw [← ha]
      split
      · rename_i p ys hys
        rw [hys] at hr
        rw [opQ_congr (fun i hi => hr i (reach_sub _ _ i hi))]
      · rfl

theorem evQ_congr {Γ : Nat → Con} {x : XOper} (hn : S.next = S2.next) (hu : ∀ s ∈ usesX x, lk S.env s = lk S2.env s) (hr : ∀ i ∈ readsX x S, lk S.ents i = lk S2.ents i) : evQ Γ x S = evQ Γ x S2 := by
  have e : evTup x S = evTup x S2 := by
    unfold evTup
    obtain ⟨d, op, args, g⟩ := x
    simp only at hu ⊢
    split
    · rfl
    · split
      · split
        · rename_i x
          exact tupOf_congr (fun s hs => hu s (by simp [usesX, slotsL, hs]))
        · rfl
      · rfl
  unfold evQ
  rw [e, evQ0_congr hn hu hr]

theorem eStore_congr {E E' : Nat → Option Ent} {n : Nat} {ys : List S1} (h : ∀ i ∈ ids1L ys, E i = E' i) : eStore n E ys = eStore n E' ys := by
  unfold eStore
  split
  · rw [h _ (by simp [ids1L, S1.ids, SC.ids])]
  · rw [h _ (by simp [ids1L, S1.ids, SC.ids])]
  · rfl
theorem eSlc_congr {E E' : Nat → Option Ent} {c sz : Nat} {a b d : Bool} {ys : List S1} (h : ∀ i ∈ ids1L ys, E i = E' i) : eSlc c sz a b d E ys = eSlc c sz a b d E' ys := by
  unfold eSlc
  split
  · rename_i x ys
    split
    · rw [rowV_congr (fun i hi => h i (by simp [ids1L, hi]))]
    · unfold eSlcO
      split
      · rw [h _ (by simp [ids1L, S1.ids, SC.ids])]
      · rfl
    · rfl
  · rfl
theorem eApp_congr {E E' : Nat → Option Ent} {c sz by_ : Nat} {ty : TypeId} {ys : List S1} (h : ∀ i ∈ ids1L ys, E i = E' i) : eApp c ty sz by_ E ys = eApp c ty sz by_ E' ys := by
  unfold eApp
  split
  · rename_i i x
    rw [h i (by simp [ids1L, S1.ids, SC.ids]), rowV_congr (x := x) (fun i hi => h i (by simp [ids1L, hi]))]
  · rename_i x
    rw [rowV_congr (x := x) (fun i hi => h i (by simp [ids1L, hi]))]
  · rfl
theorem effE_congr {Γ : Nat → Con} {E E' : Nat → Option Ent} {c : Nat} {op : XOp} {ys : List S1} (h : ∀ i ∈ reach E (ids1L ys), E i = E' i) : effE Γ c op E ys = effE Γ c op E' ys := by
  have h' : ∀ i ∈ ids1L ys, E i = E' i := fun i hi => h i (reach_sub E _ i hi)
  cases op <;> simp only [effE]
  case store n => exact eStore_congr h'
  case call f => rw [resR_congr h]
  case slc => exact eSlc_congr h'
  case app => exact eApp_congr h'

theorem recOf_congr {Γ : Nat → Con} {c : Nat} {x : XOper} {p : Prop} {t : Rec} (h : recOf Γ c x S = some (p, t)) (hn : S.next = S2.next) (hu : ∀ s ∈ t.uses, lk S.env s = lk S2.env s)
    (hr : ∀ i ∈ t.rd, lk S.ents i = lk S2.ents i) : recOf Γ c x S2 = some (p, t) := by
  unfold recOf at h ⊢
  split at h
  · rename_i p' v he
    cases h
    rw [← evQ_congr hn hu hr, he]
    simp only [Option.some.injEq, Prod.mk.injEq, true_and, Rec.mk.injEq]
    unfold readsX at hr ⊢
    have e := rds_congr (S := S) (S2 := S2) (xs := x.args) (fun s hs => hu s (by simp [usesX, hs]))
    rw [← e]
    simp only at hr
    split
    · rename_i p ys hrd
      rw [hrd] at hr
      exact (reach_congr (fun i hi => hr i (reach_sub _ _ i hi))).symm
    · rfl
  · rename_i he
    unfold recEff at h
    split at h
    · cases h
    · rename_i hgd
      split at h
      · rename_i p1 ys hrd
        split at h
        · rename_i q v us al heff
          cases h
          simp only at hu hr
          have e := rds_congr (S := S) (S2 := S2) (xs := x.args) (fun s hs => hu s (by simp [usesX, hs]))
          have hev : evQ Γ x S2 = none := by
            rw [← evQ_congr hn hu (by unfold readsX; rw [hrd]; exact hr)]
            exact he
          rw [hev]
          simp only
          unfold recEff
          rw [hgd, ← e, hrd]
          simp only
          rw [← effE_congr hr, heff, ← reach_congr (fun i hi => hr i (reach_sub _ _ i hi))]
        · cases h
      · cases h

end
end Go.Sx
