/- A part of the proof of a statement about this seat: how a function is stepped through, and plain laws. No conditions. -/
import Derived.Test.YtjcpefnbongmaaaSx19
set_option linter.unusedVariables false
set_option linter.unusedSimpArgs false
namespace Go.Sx
open Go.RowKit

theorem memN_iff {i : Nat} : ∀ {l : List Nat}, memN i l = true ↔ i ∈ l
  | [] => by simp [memN]
  | j :: l => by
    simp only [memN, List.mem_cons]
    split
    · rename_i h; simp [h]
    · rename_i h; rw [memN_iff]; simp [h]

theorem stL_next : ∀ (ts : List Rec) (L : Nat → Bool) (k : Nat) (S : St), (stL ts L k S).next = S.next
  | [], _, _, _ => rfl
  | t :: ts, L, k, S => by
    simp only [stL]
    rw [stL_next]
    split <;> rfl

theorem stL_env : ∀ (ts : List Rec) (L L' : Nat → Bool) (k : Nat) (S S2 : St) (s : Nat), (∀ (i : Nat) (t : Rec), ts[i]? = some t → t.d = some s → L (k + i) = L' (k + i)) → lk S.env s = lk S2.env s →
    lk (stL ts L k S).env s = lk (stL ts L' k S2).env s
  | [], _, _, _, _, _, _, _, h => h
  | t :: ts, L, L', k, S, S2, s, hw, h => by
    simp only [stL]
    refine stL_env ts L L' (k + 1) _ _ s (fun i t' h1 h2 => by have := hw (i + 1) t' (by simpa using h1) h2; rw [Nat.add_assoc, Nat.add_comm 1 i]; exact this) ?_
    by_cases hd : t.d = some s
    · have := hw 0 t rfl hd
      simp only [Nat.add_zero] at this
      rw [this]
      split
      · simp only [pushR, hd, lk, if_true]
      · exact h
    · have hp : ∀ S : St, lk (pushR t S).env s = lk S.env s := by
        intro S
        simp only [pushR]
        split
        · rename_i s' hs'
          simp only [lk]
          rw [if_neg (by rintro rfl; exact hd hs')]
        · rfl
      split <;> split <;> simp only [hp, h]

theorem stL_ents : ∀ (ts : List Rec) (L L' : Nat → Bool) (k : Nat) (S S2 : St) (s : Nat), (∀ (i : Nat) (t : Rec), ts[i]? = some t → uWr t.u = some s → L (k + i) = L' (k + i)) → lk S.ents s = lk S2.ents s →
    lk (stL ts L k S).ents s = lk (stL ts L' k S2).ents s
  | [], _, _, _, _, _, _, _, h => h
  | t :: ts, L, L', k, S, S2, s, hw, h => by
    simp only [stL]
    refine stL_ents ts L L' (k + 1) _ _ s (fun i t' h1 h2 => by have := hw (i + 1) t' (by simpa using h1) h2; rw [Nat.add_assoc, Nat.add_comm 1 i]; exact this) ?_
    by_cases hd : uWr t.u = some s
    · have := hw 0 t rfl hd
      simp only [Nat.add_zero] at this
      rw [this]
      split
      · unfold uWr at hd
        split at hd
        · rename_i i cs ty hu
          cases hd
          simp only [pushR, hu, lk, if_true]
        · cases hd
      · exact h
    · have hp : ∀ S : St, lk (pushR t S).ents s = lk S.ents s := by
        intro S
        simp only [pushR]
        split
        · rename_i i cs ty hu
          simp only [lk]
          rw [if_neg (by rintro rfl; exact hd (by rw [hu]; rfl))]
        · rfl
      split <;> split <;> simp only [hp, h]

theorem stL_env_at : ∀ (ts : List Rec) (L : Nat → Bool) (k : Nat) (S : St) (s j : Nat) (t : Rec), ts[j]? = some t → t.d = some s → L (k + j) = true →
    (∀ (i : Nat) (t' : Rec), j < i → ts[i]? = some t' → t'.d = some s → L (k + i) = false) → lk (stL ts L k S).env s = some t.v
  | [], _, _, _, _, _, _, h, _, _, _ => by simp at h
  | t0 :: ts, L, k, S, s, 0, t, h, hd, hL, hw => by
    simp only [List.getElem?_cons_zero, Option.some.injEq] at h
    subst h
    simp only [stL]
    rw [if_pos (by simpa using hL)]
    rw [stL_env ts L (fun _ => false) (k + 1) _ (pushR t0 S) s (fun i t' h1 h2 => by have := hw (i + 1) t' (by omega) (by simpa using h1) h2; rw [Nat.add_assoc, Nat.add_comm 1 i]; exact this) rfl]
    have : ∀ (ts : List Rec) (k : Nat) (S : St), stL ts (fun _ => false) k S = S := by
      intro ts
      induction ts with
      | nil => intro k S; rfl
      | cons t ts ih => intro k S; simp only [stL]; rw [if_neg (by simp)]; exact ih _ _
    rw [this]
    simp only [pushR, hd, lk, if_true]
  | t0 :: ts, L, k, S, s, j + 1, t, h, hd, hL, hw => by
    simp only [stL]
    refine stL_env_at ts L (k + 1) _ s j t (by simpa using h) hd (by rw [Nat.add_assoc, Nat.add_comm 1 j]; exact hL) (fun i t' h0 h1 h2 => ?_)
    have := hw (i + 1) t' (by omega) (by simpa using h1) h2
    rw [Nat.add_assoc, Nat.add_comm 1 i]; exact this

theorem stL_ents_at : ∀ (ts : List Rec) (L : Nat → Bool) (k : Nat) (S : St) (s j : Nat) (t : Rec) (cs : List SC) (ty : TypeId), ts[j]? = some t → t.u = some (s, cs, ty) → L (k + j) = true →
    (∀ (i : Nat) (t' : Rec), j < i → ts[i]? = some t' → uWr t'.u = some s → L (k + i) = false) → lk (stL ts L k S).ents s = some (.box cs ty)
  | [], _, _, _, _, _, _, _, _, h, _, _, _ => by simp at h
  | t0 :: ts, L, k, S, s, 0, t, cs, ty, h, hd, hL, hw => by
    simp only [List.getElem?_cons_zero, Option.some.injEq] at h
    subst h
    simp only [stL]
    rw [if_pos (by simpa using hL)]
    rw [stL_ents ts L (fun _ => false) (k + 1) _ (pushR t0 S) s (fun i t' h1 h2 => by have := hw (i + 1) t' (by omega) (by simpa using h1) h2; rw [Nat.add_assoc, Nat.add_comm 1 i]; exact this) rfl]
    have : ∀ (ts : List Rec) (k : Nat) (S : St), stL ts (fun _ => false) k S = S := by
      intro ts
      induction ts with
      | nil => intro k S; rfl
      | cons t ts ih => intro k S; simp only [stL]; rw [if_neg (by simp)]; exact ih _ _
    rw [this]
    simp only [pushR, hd, lk, if_true]
  | t0 :: ts, L, k, S, s, j + 1, t, cs, ty, h, hd, hL, hw => by
    simp only [stL]
    refine stL_ents_at ts L (k + 1) _ s j t cs ty (by simpa using h) hd (by rw [Nat.add_assoc, Nat.add_comm 1 j]; exact hL) (fun i t' h0 h1 h2 => ?_)
    have := hw (i + 1) t' (by omega) (by simpa using h1) h2
    rw [Nat.add_assoc, Nat.add_comm 1 i]; exact this

/-! ### An operation looks at its footprint alone -/

section
variable {S S2 : St}

theorem rd_congr {x : XO} (h : ∀ s ∈ x.slots, lk S.env s = lk S2.env s) : rd S.env x = rd S2.env x := by
  cases x with
  | t i => simp only [rd, h i (by simp [XO.slots])]
  | k v => rfl

theorem rds_congr : ∀ {xs : List XO}, (∀ s ∈ slotsL xs, lk S.env s = lk S2.env s) → rds S.env xs = rds S2.env xs
  | [], _ => rfl
  | x :: xs, h => by
    simp only [rds]
    rw [rd_congr (fun s hs => h s (by simp [slotsL, hs])), rds_congr (fun s hs => h s (by simp [slotsL, hs]))]

theorem guardOf_congr {g : Option (Nat × Bool)} (h : ∀ s w, g = some (s, w) → lk S.env s = lk S2.env s) : guardOf S.env g = guardOf S2.env g := by
  cases g with
  | none => rfl
  | some p => obtain ⟨s, w⟩ := p; simp only [guardOf, h s w rfl]

theorem boxOf_congr {E E' : Nat → Option Ent} {i : Nat} (h : E i = E' i) : boxOf E i = boxOf E' i := by simp only [boxOf, h]
theorem rowOf_congr {E E' : Nat → Option Ent} {i : Nat} (h : E i = E' i) : rowOf E i = rowOf E' i := by simp only [rowOf, h]

theorem opQ_congr {E E' : Nat → Option Ent} {op : XOp} {ys : List S1} (h : ∀ i ∈ ids1L ys, E i = E' i) : opQ E op ys = opQ E' op ys := by
  cases op <;> simp only [opQ]
  case load1 =>
    unfold qLoad1
    split
    · rw [boxOf_congr (h _ (by simp [ids1L, S1.ids, SC.ids]))]
    · rw [rowOf_congr (h _ (by simp [ids1L, S1.ids, SC.ids]))]
    · rfl
  case loadN m =>
    unfold qLoadN
    split
    · rw [boxOf_congr (h _ (by simp [ids1L, S1.ids, SC.ids]))]
    · rw [rowOf_congr (h _ (by simp [ids1L, S1.ids, SC.ids]))]
    · rfl
  case ixS sz =>
    unfold qIxS
    split
    · rw [rowOf_congr (h _ (by simp [ids1L, S1.ids, SC.ids]))]
    · rfl
  case lenS =>
    unfold qLenS
    split
    · rw [rowOf_congr (h _ (by simp [ids1L, S1.ids, SC.ids]))]
    · rfl

theorem resE_congr {E E' : Nat → Option Ent} {l : List Nat} (h : ∀ i ∈ l, E i = E' i) : resE l E = resE l E' := by
  funext i
  unfold resE
  split
  · rename_i hm; exact h i (memN_iff.1 hm)
  · rfl

theorem ids1L_tail {y : S1} {ys : List S1} : ∀ i ∈ ids1L ys, i ∈ ids1L (y :: ys) := fun i hi => by simp [ids1L, hi]

theorem tupOf_congr {e1 e2 : List (Nat × SV)} {x : XO} (h : ∀ s ∈ x.slots, lk e1 s = lk e2 s) : tupOf e1 x = tupOf e2 x := by
  unfold tupOf
  split
  · rename_i s
    rw [h s (by simp [XO.slots])]
  · rfl

theorem evQ0_congr {Γ : Nat → Con} {x : XOper} (hn : S.next = S2.next) (hu : ∀ s ∈ usesX x, lk S.env s = lk S2.env s) (hr : ∀ i ∈ readsX x S, lk S.ents i = lk S2.ents i) : evQ0 Γ x S = evQ0 Γ x S2 := by
  have hg : guardOf S.env x.guard = guardOf S2.env x.guard := guardOf_congr (fun s w h => hu s (by simp [usesX, h]))
  have ha : rds S.env x.args = rds S2.env x.args := rds_congr (fun s hs => hu s (by simp [usesX, hs]))
  unfold readsX at hr
  unfold evQ0
  rw [← hg]
  split
  · rfl
  · rename_i gd _
    obtain ⟨d, op, args, g⟩ := x
    simp only at ha hr hu ⊢
    split
    · rename_i hgg
      split
      · rename_i c x y
        rw [rd_congr (x := c) (fun s hs => hu s (by simp [usesX, slotsL, hs])), rd_congr (x := x) (fun s hs => hu s (by simp [usesX, slotsL, hs])), rd_congr (x := y) (fun s hs => hu s (by simp [usesX, slotsL, hs]))]
      · rfl
    · rename_i i
      unfold evExt
      split
      · rename_i s
        rw [hu s (by simp [usesX, slotsL, XO.slots])]
      · rfl
    · rename_i f
      rw [← ha]
      split
      · rename_i p ys hys
        rw [hys] at hr
        rw [resE_congr hr, hn]
      · rfl
    · rw [← ha]
      split
      · rename_i p f fs cs ys hys
        rw [hys] at hr
        rw [resE_congr (fun i hi => hr i (ids1L_tail i hi)), hn]
      · rfl
    · rfl
    · rfl
    · rfl
    · rw [← ha]
      split
      · rename_i p ys hys
        rw [hys] at hr
        rw [opQ_congr hr]
      · rfl

theorem evQ_congr {Γ : Nat → Con} {x : XOper} (hn : S.next = S2.next) (hu : ∀ s ∈ usesX x, lk S.env s = lk S2.env s) (hr : ∀ i ∈ readsX x S, lk S.ents i = lk S2.ents i) : evQ Γ x S = evQ Γ x S2 := by
  have e : evTup x S = evTup x S2 := by
    unfold evTup
    obtain ⟨d, op, args, g⟩ := x
    simp only at hu ⊢
    split
    · rfl
    · split
      · split
        · rename_i x
          exact tupOf_congr (fun s hs => hu s (by simp [usesX, slotsL, hs]))
        · rfl
      · rfl
  unfold evQ
  rw [e, evQ0_congr hn hu hr]

theorem evQ_box {Γ : Nat → Con} {x : XOper} (h : (∃ ty, x.op = .box ty) ∨ (∃ ty z, x.op = .alloc ty z) ∨ (∃ n, x.op = .store n)) : evQ Γ x S = none := by
  have e : evTup x S = none := by
    unfold evTup
    split
    · rfl
    · rcases h with ⟨ty, h⟩ | ⟨ty, z, h⟩ | ⟨n, h⟩ <;> rw [h]
  unfold evQ
  rw [e]
  unfold evQ0
  simp only
  split
  · rfl
  · rcases h with ⟨ty, h⟩ | ⟨ty, z, h⟩ | ⟨n, h⟩ <;> rw [h]

theorem recOf_congr {Γ : Nat → Con} {c : Nat} {x : XOper} {p : Prop} {t : Rec} (h : recOf Γ c x S = some (p, t)) (hn : S.next = S2.next) (hu : ∀ s ∈ t.uses, lk S.env s = lk S2.env s)
    (hr : ∀ i ∈ t.rd, lk S.ents i = lk S2.ents i) : recOf Γ c x S2 = some (p, t) := by
  unfold recOf at h ⊢
  split at h
  · rename_i p' v he
    cases h
    rw [← evQ_congr hn hu hr, he]
    simp only [Option.some.injEq, Prod.mk.injEq, true_and, Rec.mk.injEq]
    unfold readsX
    rw [rds_congr (fun s hs => (hu s (by simp [usesX, hs])).symm)]
  · rename_i he
    unfold recEff at h
    split at h
    · cases h
    · rename_i hgd
      split at h
      · rename_i ty hop
        rw [evQ_box (.inl ⟨ty, hop⟩)]
        unfold recEff
        rw [hgd, hop]
        split at h
        · rename_i p1 z hrd
          cases h
          simp only at hu
          rw [← rds_congr (S := S) (S2 := S2) (fun s hs => hu s (by simp [usesX, hs])), hrd]
        · cases h
      · rename_i ty z hop
        rw [evQ_box (.inr (.inl ⟨ty, z, hop⟩))]
        unfold recEff
        rw [hgd, hop]
        exact h
      · rename_i n hop
        rw [evQ_box (.inr (.inr ⟨n, hop⟩))]
        unfold recEff
        rw [hgd, hop]
        split at h
        · rename_i p1 i j z hrd
          split at h
          · rename_i cs ty hl
            cases h
            simp only at hu hr
            rw [← rds_congr (S := S) (S2 := S2) (fun s hs => hu s (by simp [usesX, hs])), hrd]
            rw [hr i (by simp)] at hl
            simp only [hl]
          · cases h
        · cases h
      · cases h

end
end Go.Sx
