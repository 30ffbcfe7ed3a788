/- A part of the proof of a statement about this seat: how a function is stepped through, and plain laws. No conditions. -/
import Derived.Test.YtgdglgcfmebonaaSx22
set_option linter.unusedVariables false
set_option linter.unusedSimpArgs false
namespace Go.Sx
open Go.RowKit

theorem getD_both' {listed : Array Bool} {i : Nat} (h : listed.getD i true = false) : listed.getD i false = false := by
  rcases Nat.lt_or_ge i listed.size with h' | h'
  · simp [h'] at h ⊢; exact h
  · simp [Array.getElem?_eq_none h'] at h
theorem getD_in' {listed : Array Bool} {i : Nat} (hi : i < listed.size) (h : listed.getD i false = false) : listed.getD i true = false := by
  simp [hi] at h ⊢; exact h

section
variable {P : Program} {base : World} {M : Scp} {N n0 : Nat} {r0 r : Rho} {S : St} {a : Act} {w : World}

theorem inO_mem {i : Nat} {l : List Nat} (h : i ∈ l) : inO (some i) l = true := memN_iff.2 h
theorem inO_not {i : Nat} {l : List Nat} (h : inO (some i) l = false) : i ∉ l := fun hm => by rw [inO_mem hm] at h; cases h

/-- **WHATEVER ORDER IS PICKED**, if operations that clash wait for each other. -/
theorem wpAny_drawn {Γ : Nat → Con} {ops : Array Oper} {xl : List XOper} {ts : List Rec} {c' : Nat} {S' S0 : St} {preds : List (List Nat)} {Q : Exit → Act → World → Prop} (hΓ : ∀ f, COk P f (Γ f)) (hx : xopsL P ops N ops.toList = some xl)
    (hrun : Run Γ xl S.next S0 ts c' S') (hS0 : S.next ≤ S0.next) (hc' : c' ≤ S0.next) (hind : indep [] (ts.map Rec.foot) preds = true) (hp : predsOk ops preds = true) (he : edgesOk ops = true)
    (hn0 : n0 ≤ S.next) (hsc : InSc (upto S.next) S0)
    (hQ : ∀ r a w, Rel base M N n0 r0 r S' a w → Q .normal a w) :
    ∀ (fuel : Nat) (listed : Array Bool) (r : Rho) (a : Act) (w : World), listed.size = ops.size → unl ops listed ≤ fuel →
      (∀ j, listed.getD j false = true → ∀ pre, preds[j]? = some pre → ∀ i ∈ pre, listed.getD i false = true) →
      Rel base M N n0 r0 r (stL ts (fun i => listed.getD i false) 0 S0) a w →
      (∀ k t, ts[k]? = some t → listed.getD k false = false → InSc (nw t.c t.al) (stL ts (fun i => listed.getD i false) 0 S0)) → wpAny P .any ops Q fuel listed a w := by
  have hlen : ts.length = ops.size := by rw [hrun.len, xopsL_len hx]; simp
  have hspec := indep_spec hind
  -- when nothing is ready, all is listed
  have hdone : ∀ listed : Array Bool, listed.size = ops.size → Region.ready .any ops listed = [] → ∀ i, i < ops.size → listed.getD i false = true := by
    intro listed hs hr i
    induction i using Nat.strongRecOn with
    | _ i ih =>
      intro hi
      cases hl : listed.getD i false with
      | true => rfl
      | false =>
        exfalso
        have hmem : i ∈ Region.ready .any ops listed := by
          rw [mem_ready]
          refine ⟨getD_in' (by rw [hs]; exact hi) hl, ops[i], Array.getElem?_eq_getElem hi, fun e hee hb => ?_⟩
          exact ih e.on (edgesOk_spec he (Array.getElem?_eq_getElem hi) hee hb) (by have := edgesOk_spec he (Array.getElem?_eq_getElem hi) hee hb; omega)
        rw [hr] at hmem
        cases hmem
  intro fuel
  induction fuel with
  | zero =>
    intro listed r a w hs hu hcl hrel _
    have hall : ∀ i, i < ops.size → listed.getD i true = true := by
      intro i hi
      have h0 : unl ops listed = 0 := by omega
      unfold unl at h0
      have h1 := List.eq_nil_of_length_eq_zero h0
      cases hl : listed.getD i true with
      | true => rfl
      | false =>
        exfalso
        have : i ∈ (List.range ops.size).filter fun i => !listed.getD i true := List.mem_filter.2 ⟨List.mem_range.2 hi, by simp [hl]⟩
        rw [h1] at this
        cases this
    have hr : Region.ready .any ops listed = [] := by
      cases hrd : Region.ready .any ops listed with
      | nil => rfl
      | cons j l =>
        have hm : j ∈ Region.ready .any ops listed := by rw [hrd]; exact List.mem_cons_self
        rw [mem_ready] at hm
        obtain ⟨h1, o, ho, _⟩ := hm
        rw [hall j (Array.getElem?_eq_some_iff.1 ho).1] at h1
        cases h1
    refine ⟨hr, hQ r a w ?_⟩
    rw [hrun.final _ 0 (fun i _ hi => hdone listed hs hr i (by omega))] at hrel
    exact hrel
  | succ fuel ih =>
    intro listed r a w hs hu hcl hrel havoid
    refine ⟨fun hr => hQ r a w (by rw [hrun.final _ 0 (fun i _ hi => hdone listed hs hr i (by omega))] at hrel; exact hrel), fun j hj => ?_⟩
    obtain ⟨hun, o, ho, hedge⟩ := mem_ready.1 hj
    have hjlt : j < ops.size := (Array.getElem?_eq_some_iff.1 ho).1
    have hLj : listed.getD j false = false := getD_both' hun
    obtain ⟨x, hxl, hxo, hxd⟩ := xopsL_at hx j o (by rw [Array.getElem?_toList]; exact ho)
    obtain ⟨t, ht⟩ : ∃ t, ts[j]? = some t := ⟨ts[j]'(by omega), List.getElem?_eq_getElem (by omega)⟩
    have hfj : (ts.map Rec.foot)[j]? = some t.foot := by simp [ht]
    obtain ⟨prej, hprej, hcj⟩ := hspec j t.foot hfj
    have hpre : ∀ i ∈ prej, listed.getD i false = true := by
      intro i hi
      obtain ⟨o', ho', e, hee, hb, h1⟩ := predsOk_spec hp hprej hi
      have : o' = o := Option.some.inj (ho'.symm.trans ho)
      subst this
      rcases h1 with h1 | ⟨pre', hpre', h1⟩
      · rw [← h1]; exact hedge e hee hb
      · exact hcl e.on (hedge e hee hb) pre' hpre' i h1
    -- an earlier one that clashes is listed, a later one that clashes is not
    have hbefore : ∀ (i : Nat) (t' : Rec), i < j → ts[i]? = some t' → clash t'.foot t.foot = true → listed.getD i false = true := by
      intro i t' hij ht' hc
      exact hpre i (memN_iff.1 (hcj i t'.foot (by simp [ht']) (by simpa using hij) hc))
    have hafter : ∀ (i : Nat) (t' : Rec), j < i → ts[i]? = some t' → clash t.foot t'.foot = true → listed.getD i false = false := by
      intro i t' hij ht' hc
      obtain ⟨prei, hprei, hci⟩ := hspec i t'.foot (by simp [ht'])
      cases hl : listed.getD i false with
      | false => rfl
      | true =>
        have := hcl i hl prei hprei j (memN_iff.1 (hci j t.foot (by simp [ht]) (by simpa using hij) hc))
        rw [hLj] at this
        cases this
    obtain ⟨p, hc1, hc2, hrec, hpp, hlexsc⟩ := hrun.at hΓ 0 j t x hsc hc' ht hxl
    have hagE : ∀ s, (∀ (i : Nat) (t' : Rec), ts[i]? = some t' → t'.d = some s → (i < j → clash t'.foot t.foot = true) ∧ (j < i → clash t.foot t'.foot = true)) →
        lk (stL ts (fun i => decide (i < 0 + j)) 0 S0).env s = lk (stL ts (fun i => listed.getD i false) 0 S0).env s := by
      intro s hw
      refine stL_env ts _ _ 0 S0 S0 s (fun i t' h1 h2 => ?_) rfl
      simp only [Nat.zero_add]
      rcases Nat.lt_trichotomy i j with h | h | h
      · rw [hbefore i t' h h1 ((hw i t' h1 h2).1 h)]; simp [h]
      · subst h; rw [hLj]; simp
      · rw [hafter i t' h h1 ((hw i t' h1 h2).2 h)]; simp; omega
    have hagH : ∀ s, (∀ (i : Nat) (t' : Rec), ts[i]? = some t' → s ∈ keys t'.us → (i < j → clash t'.foot t.foot = true) ∧ (j < i → clash t.foot t'.foot = true)) →
        lk (stL ts (fun i => decide (i < 0 + j)) 0 S0).ents s = lk (stL ts (fun i => listed.getD i false) 0 S0).ents s := by
      intro s hw
      refine stL_ents ts _ _ 0 S0 S0 s (fun i t' h1 h2 => ?_) rfl
      simp only [Nat.zero_add]
      rcases Nat.lt_trichotomy i j with h | h | h
      · rw [hbefore i t' h h1 ((hw i t' h1 h2).1 h)]; simp [h]
      · subst h; rw [hLj]; simp
      · rw [hafter i t' h h1 ((hw i t' h1 h2).2 h)]; simp; omega
    have hagU : ∀ s ∈ t.uses, lk (stL ts (fun i => decide (i < 0 + j)) 0 S0).env s = lk (stL ts (fun i => listed.getD i false) 0 S0).env s := fun s hs => hagE s fun i t' h1 h2 => ⟨fun _ => by simp [clash, Rec.foot, h2, inO_mem hs], fun _ => by simp [clash, Rec.foot, h2, inO_mem hs]⟩
    have hagR : ∀ s ∈ t.rd, lk (stL ts (fun i => decide (i < 0 + j)) 0 S0).ents s = lk (stL ts (fun i => listed.getD i false) 0 S0).ents s := fun s hs => hagH s fun i t' h1 h2 => ⟨fun _ => by simp [clash, Rec.foot, meets_mem h2 hs], fun _ => by simp [clash, Rec.foot, meets_mem h2 hs]⟩
    have hrecL : recOf Γ t.c x (stL ts (fun i => listed.getD i false) 0 S0) = some (p, t) := recOf_congr hrec (by rw [stL_next, stL_next]) hagU hagR
    have hlow : ∀ p ys, rds (stL ts (fun i => listed.getD i false) 0 S0).env x.args = some (p, ys) → (∀ y ∈ ys, S1.sc (upto t.c) y) ∧
        ∀ i e, resE (reach (lk (stL ts (fun i => listed.getD i false) 0 S0).ents) (ids1L ys)) (lk (stL ts (fun i => listed.getD i false) 0 S0).ents) i = some e → i < t.c ∧ e.sc (upto t.c) := by
      intro q ys hrd
      obtain ⟨hus, hrds⟩ := recOf_uses hrec
      have e := rds_congr (xs := x.args) (S := stL ts (fun i => decide (i < 0 + j)) 0 S0) (S2 := stL ts (fun i => listed.getD i false) 0 S0) (fun s hs => hagU s (by rw [hus]; simp [usesX, hs]))
      rw [← e] at hrd
      refine ⟨rds_scG hlexsc.env hrd, fun i e' hi => ?_⟩
      rw [← resR_congr (E := lk (stL ts (fun i => decide (i < 0 + j)) 0 S0).ents) (fun i hi => hagR i (by rw [hrds q ys hrd]; exact hi))] at hi
      exact hlexsc.ent i e' (resE_sub i e' hi)
    have hav := havoid j t ht hLj
    have key := rec_sound (Q := Q) (Next := wpAny P .any ops Q fuel (listed.setIfInBounds j true)) hΓ hxo hxd hrecL hpp hrel (by omega) (by rw [stL_next]; omega) hav hlow ?hN
    case hN =>
      intro r' a' w' hr'
      have hLset : ∀ i, i ≠ j → (listed.setIfInBounds j true).getD i false = listed.getD i false := fun i hi => getD_set_ne false (Ne.symm hi)
      have hLat : (listed.setIfInBounds j true).getD j false = true := by simp [hs, hjlt]
      have cE : ∀ s, lk (stL ts (fun i => (listed.setIfInBounds j true).getD i false) 0 S0).env s = lk (pushR t (stL ts (fun i => listed.getD i false) 0 S0)).env s := by
        intro s
        by_cases hd : t.d = some s
        · rw [stL_env_at ts _ 0 S0 s j t ht hd (by simpa using hLat) (fun i t' h0 h1 h2 => by
            simp only [Nat.zero_add]
            rw [hLset i (by omega)]
            exact hafter i t' h0 h1 (by simp [clash, Rec.foot, hd, h2, eqO]))]
          simp [pushR, hd, lk]
        · rw [stL_env ts _ (fun i => listed.getD i false) 0 S0 S0 s (fun i t' h1 h2 => by
            simp only [Nat.zero_add]
            refine hLset i ?_
            rintro rfl
            rw [ht] at h1; cases h1; exact hd h2) rfl]
          simp only [pushR]
          split
          · rename_i s' hs'
            simp only [lk]
            rw [if_neg (by rintro rfl; exact hd hs')]
          · rfl
      have cH : ∀ s, lk (stL ts (fun i => (listed.setIfInBounds j true).getD i false) 0 S0).ents s = lk (pushR t (stL ts (fun i => listed.getD i false) 0 S0)).ents s := by
        intro s
        by_cases hd : s ∈ keys t.us
        · obtain ⟨e, hu⟩ := keys_of hd
          rw [stL_ents_at ts _ 0 S0 s j t e ht hu (by simpa using hLat) (fun i t' h0 h1 h2 => by
            simp only [Nat.zero_add]
            rw [hLset i (by omega)]
            exact hafter i t' h0 h1 (by simp [clash, Rec.foot, meets_mem hd h2])), pushR_ents_in hu]
        · rw [stL_ents ts _ (fun i => listed.getD i false) 0 S0 S0 s (fun i t' h1 h2 => by
            simp only [Nat.zero_add]
            refine hLset i ?_
            rintro rfl
            rw [ht] at h1; cases h1; exact hd h2) rfl, pushR_ents_out hd]
      refine ih (listed.setIfInBounds j true) r' a' w' (by simp [hs]) ?_ ?_ ?_ ?_
      · have := unl_set hjlt hs hun
        omega
      · intro k hk pre hpk i hi
        by_cases hjk : j = k
        · subst hjk
          have : pre = prej := Option.some.inj (hpk.symm.trans hprej)
          subst this
          exact getD_set_true (hpre i hi)
        · rw [getD_set_ne false hjk] at hk
          exact getD_set_true (hcl k hk pre hpk i hi)
      · exact hr'.congr cE cH (by rw [stL_next]; exact (stL_next ts _ 0 S0).symm)
      · intro k tk htk hk
        have hkj : k ≠ j := by rintro rfl; rw [hLat] at hk; cases hk
        rw [hLset k hkj] at hk
        have hk' := havoid k tk htk hk
        have hsc' := recOf_sc (m := nw tk.c tk.al) hΓ hrecL hpp hk' ⟨hrel.scE, hrel.scH⟩ hlow (fun i h1 h2 => by
          unfold nw
          rcases Nat.lt_or_gt_of_ne hkj with h | h
          · have := hrun.apart k j tk t h htk ht; omega
          · have := hrun.apart j k t tk h ht htk; omega)
        exact (hk'.push hsc'.1 hsc'.2).congr cE cH
    unfold wpOp
    simp only [ho]
    split
    · rename_i hw; rw [if_pos hw] at key; exact .inl key
    · rename_i hw; rw [if_neg hw] at key; exact key

end
end Go.Sx
