/- A part of the proof of a statement about this seat: how a function is stepped through, and plain laws. No conditions. -/
import Derived.Test.YtjcpefnbongmaaaSx22
set_option linter.unusedVariables false
set_option linter.unusedSimpArgs false
namespace Go.Sx
open Go.RowKit

theorem getD_both' {listed : Array Bool} {i : Nat} (h : listed.getD i true = false) : listed.getD i false = false := by
  rcases Nat.lt_or_ge i listed.size with h' | h'
  · simp [h'] at h ⊢; exact h
  · simp [Array.getElem?_eq_none h'] at h
theorem getD_in' {listed : Array Bool} {i : Nat} (hi : i < listed.size) (h : listed.getD i false = false) : listed.getD i true = false := by
  simp [hi] at h ⊢; exact h

section
variable {P : Program} {base : World} {M : Nat → Prop} {N n0 : Nat} {r0 r : Rho} {S : St} {a : Act} {w : World}

theorem alle {Γ : Nat → Con} {c : Nat} {x : XOper} {S : St} {p : Prop} {t : Rec} (h : recOf Γ c x S = some (p, t)) : t.al = none ∨ (t.al = some c ∧ ∃ cs ty, t.u = some (c, cs, ty)) := by
  unfold recOf at h
  split at h
  · cases h; exact .inl rfl
  · unfold recEff at h
    split at h
    · cases h
    · split at h
      · split at h
        · cases h; exact .inr ⟨rfl, _, _, rfl⟩
        · cases h
      · cases h; exact .inr ⟨rfl, _, _, rfl⟩
      · split at h
        · split at h <;> cases h; exact .inl rfl
        · cases h
      · cases h

theorem inO_mem {i : Nat} {l : List Nat} (h : i ∈ l) : inO (some i) l = true := memN_iff.2 h
theorem inO_not {i : Nat} {l : List Nat} (h : inO (some i) l = false) : i ∉ l := fun hm => by rw [inO_mem hm] at h; cases h

/-- **WHATEVER ORDER IS PICKED**, if operations that clash wait for each other. -/
theorem wpAny_drawn {Γ : Nat → Con} {ops : Array Oper} {xl : List XOper} {ts : List Rec} {S' : St} {preds : List (List Nat)} {Q : Exit → Act → World → Prop} (hΓ : ∀ f, COk P f (Γ f)) (hx : xopsL P ops N ops.toList = some xl)
    (hrun : Run Γ xl S.next ⟨S.env, S.ents, S.next + nAl xl⟩ ts S') (hind : indep [] (ts.map Rec.foot) preds = true) (hp : predsOk ops preds = true) (he : edgesOk ops = true)
    (hn0 : n0 ≤ S.next) (hscE : ∀ s v, lk S.env s = some v → v.sc (upto S.next)) (hscH : ∀ i e, lk S.ents i = some e → i < S.next ∧ e.sc (upto S.next))
    (hQ : ∀ r a w, Rel base M N n0 r0 r S' a w → Q .normal a w) :
    ∀ (fuel : Nat) (listed : Array Bool) (r : Rho) (a : Act) (w : World), listed.size = ops.size → unl ops listed ≤ fuel →
      (∀ j, listed.getD j false = true → ∀ pre, preds[j]? = some pre → ∀ i ∈ pre, listed.getD i false = true) →
      Rel base M N n0 r0 r (stL ts (fun i => listed.getD i false) 0 ⟨S.env, S.ents, S.next + nAl xl⟩) a w → wpAny P .any ops Q fuel listed a w := by
  have hlen : ts.length = ops.size := by rw [hrun.len, xopsL_len hx]; simp
  have hspec := indep_spec hind
  -- when nothing is ready, all is listed
  have hdone : ∀ listed : Array Bool, listed.size = ops.size → Region.ready .any ops listed = [] → ∀ i, i < ops.size → listed.getD i false = true := by
    intro listed hs hr i
    induction i using Nat.strongRecOn with
    | _ i ih =>
      intro hi
      cases hl : listed.getD i false with
      | true => rfl
      | false =>
        exfalso
        have hmem : i ∈ Region.ready .any ops listed := by
          rw [mem_ready]
          refine ⟨getD_in' (by rw [hs]; exact hi) hl, ops[i], Array.getElem?_eq_getElem hi, fun e hee hb => ?_⟩
          exact ih e.on (edgesOk_spec he (Array.getElem?_eq_getElem hi) hee hb) (by have := edgesOk_spec he (Array.getElem?_eq_getElem hi) hee hb; omega)
        rw [hr] at hmem
        cases hmem
  intro fuel
  induction fuel with
  | zero =>
    intro listed r a w hs hu hcl hrel
    have hall : ∀ i, i < ops.size → listed.getD i true = true := by
      intro i hi
      have h0 : unl ops listed = 0 := by omega
      unfold unl at h0
      have h1 := List.eq_nil_of_length_eq_zero h0
      cases hl : listed.getD i true with
      | true => rfl
      | false =>
        exfalso
        have : i ∈ (List.range ops.size).filter fun i => !listed.getD i true := List.mem_filter.2 ⟨List.mem_range.2 hi, by simp [hl]⟩
        rw [h1] at this
        cases this
    have hr : Region.ready .any ops listed = [] := by
      cases hrd : Region.ready .any ops listed with
      | nil => rfl
      | cons j l =>
        have hm : j ∈ Region.ready .any ops listed := by rw [hrd]; exact List.mem_cons_self
        rw [mem_ready] at hm
        obtain ⟨h1, o, ho, _⟩ := hm
        rw [hall j (Array.getElem?_eq_some_iff.1 ho).1] at h1
        cases h1
    refine ⟨hr, hQ r a w ?_⟩
    rw [hrun.final _ 0 (fun i _ hi => hdone listed hs hr i (by omega))] at hrel
    exact hrel
  | succ fuel ih =>
    intro listed r a w hs hu hcl hrel
    refine ⟨fun hr => hQ r a w (by rw [hrun.final _ 0 (fun i _ hi => hdone listed hs hr i (by omega))] at hrel; exact hrel), fun j hj => ?_⟩
    obtain ⟨hun, o, ho, hedge⟩ := mem_ready.1 hj
    have hjlt : j < ops.size := (Array.getElem?_eq_some_iff.1 ho).1
    have hLj : listed.getD j false = false := getD_both' hun
    obtain ⟨x, hxl, hxo, hxd⟩ := xopsL_at hx j o (by rw [Array.getElem?_toList]; exact ho)
    obtain ⟨t, ht⟩ : ∃ t, ts[j]? = some t := ⟨ts[j]'(by omega), List.getElem?_eq_getElem (by omega)⟩
    have hfj : (ts.map Rec.foot)[j]? = some t.foot := by simp [ht]
    obtain ⟨prej, hprej, hcj⟩ := hspec j t.foot hfj
    have hpre : ∀ i ∈ prej, listed.getD i false = true := by
      intro i hi
      obtain ⟨o', ho', e, hee, hb, h1⟩ := predsOk_spec hp hprej hi
      have : o' = o := Option.some.inj (ho'.symm.trans ho)
      subst this
      rcases h1 with h1 | ⟨pre', hpre', h1⟩
      · rw [← h1]; exact hedge e hee hb
      · exact hcl e.on (hedge e hee hb) pre' hpre' i h1
    -- an earlier one that clashes is listed, a later one that clashes is not
    have hbefore : ∀ (i : Nat) (t' : Rec), i < j → ts[i]? = some t' → clash t'.foot t.foot = true → listed.getD i false = true := by
      intro i t' hij ht' hc
      exact hpre i (memN_iff.1 ((hcj i t'.foot (by simp [ht']) (by simpa using hij)).2.2 hc))
    have hafter : ∀ (i : Nat) (t' : Rec), j < i → ts[i]? = some t' → clash t.foot t'.foot = true → listed.getD i false = false := by
      intro i t' hij ht' hc
      obtain ⟨prei, hprei, hci⟩ := hspec i t'.foot (by simp [ht'])
      cases hl : listed.getD i false with
      | false => rfl
      | true =>
        have := hcl i hl prei hprei j (memN_iff.1 ((hci j t.foot (by simp [ht]) (by simpa using hij)).2.2 hc))
        rw [hLj] at this
        cases this
    obtain ⟨p, c, hc1, hrec, hpp, hc2⟩ := hrun.at 0 j t x ht hxl
    generalize hS0 : (⟨S.env, S.ents, S.next + nAl xl⟩ : St) = S0 at *
    have hagE : ∀ s, (∀ (i : Nat) (t' : Rec), ts[i]? = some t' → t'.d = some s → (i < j → clash t'.foot t.foot = true) ∧ (j < i → clash t.foot t'.foot = true)) →
        lk (stL ts (fun i => decide (i < 0 + j)) 0 S0).env s = lk (stL ts (fun i => listed.getD i false) 0 S0).env s := by
      intro s hw
      refine stL_env ts _ _ 0 S0 S0 s (fun i t' h1 h2 => ?_) rfl
      simp only [Nat.zero_add]
      rcases Nat.lt_trichotomy i j with h | h | h
      · rw [hbefore i t' h h1 ((hw i t' h1 h2).1 h)]; simp [h]
      · subst h; rw [hLj]; simp
      · rw [hafter i t' h h1 ((hw i t' h1 h2).2 h)]; simp; omega
    have hagH : ∀ s, (∀ (i : Nat) (t' : Rec), ts[i]? = some t' → uWr t'.u = some s → (i < j → clash t'.foot t.foot = true) ∧ (j < i → clash t.foot t'.foot = true)) →
        lk (stL ts (fun i => decide (i < 0 + j)) 0 S0).ents s = lk (stL ts (fun i => listed.getD i false) 0 S0).ents s := by
      intro s hw
      refine stL_ents ts _ _ 0 S0 S0 s (fun i t' h1 h2 => ?_) rfl
      simp only [Nat.zero_add]
      rcases Nat.lt_trichotomy i j with h | h | h
      · rw [hbefore i t' h h1 ((hw i t' h1 h2).1 h)]; simp [h]
      · subst h; rw [hLj]; simp
      · rw [hafter i t' h h1 ((hw i t' h1 h2).2 h)]; simp; omega
    have hrecL : recOf Γ c x (stL ts (fun i => listed.getD i false) 0 S0) = some (p, t) := by
      refine recOf_congr hrec (by rw [stL_next, stL_next]) (fun s hs => hagE s fun i t' h1 h2 => ⟨fun _ => ?_, fun _ => ?_⟩) (fun s hs => hagH s fun i t' h1 h2 => ⟨fun _ => ?_, fun _ => ?_⟩)
      · simp [clash, Rec.foot, h2, inO_mem hs]
      · simp [clash, Rec.foot, h2, inO_mem hs]
      · simp [clash, Rec.foot, h2, inO_mem hs]
      · simp [clash, Rec.foot, h2, inO_mem hs]
    have key := rec_sound (Q := Q) (Next := wpAny P .any ops Q fuel (listed.setIfInBounds j true)) hΓ hxo hxd hrecL hpp hrel ?hal ?hN
    case hal =>
      intro hal
      have hcn := hc2 (by rw [hal]; rfl)
      have hcS : S.next ≤ c := hc1
      refine ⟨?_, by omega, fun s v hv => ?_, fun i e hie => ?_⟩
      · rw [stL_next, ← hS0]; exact hcn
      · rcases stL_env_cases _ _ _ _ _ _ hv with hv | ⟨i, t', h1, h2, rfl⟩
        · rw [← hS0] at hv
          exact SV.sc_mono (fun i hi => by have : i < S.next := hi; omega) (hscE s v hv)
        · simp only [Nat.zero_add] at h2
          refine SV.sc_of_ids fun hcon => ?_
          rcases Nat.lt_trichotomy i j with h | h | h
          · have := (hcj i t'.foot (by simp [h1]) (by simpa using h)).1
            exact inO_not (i := c) (by simpa [Rec.foot, hal] using this) (by simp [Rec.foot, hcon])
          · subst h; rw [hLj] at h2; cases h2
          · rw [hafter i t' h h1 (by simp [clash, Rec.foot, hal, inO, memN_iff, hcon])] at h2; cases h2
      · rcases stL_ents_cases _ _ _ _ _ _ hie with hie | ⟨k, t', cs, ty, h1, h2, h3, rfl⟩
        · rw [← hS0] at hie
          obtain ⟨g1, g2⟩ := hscH i e hie
          exact ⟨by omega, Ent.sc_mono (fun i hi => by have : i < S.next := hi; omega) g2⟩
        · simp only [Nat.zero_add] at h2
          have hu : ∃ cs ty, t.u = some (c, cs, ty) := by
            rcases alle hrec with h | ⟨_, h⟩
            · rw [hal] at h; cases h
            · exact h
          obtain ⟨cs', ty', hu⟩ := hu
          rcases Nat.lt_trichotomy k j with h | h | h
          · have hh := hcj k t'.foot (by simp [h1]) (by simpa using h)
            refine ⟨?_, idsL_sc ?_⟩
            · rintro rfl
              have := hh.2.1
              simp [Rec.foot, hal, h3, uWr, eqO] at this
            · intro hcon
              exact inO_not (i := c) (by simpa [Rec.foot, hal] using hh.1) (by simp [Rec.foot, h3, uIds, hcon])
          · subst h; rw [hLj] at h2; cases h2
          · refine ⟨?_, idsL_sc ?_⟩
            · rintro rfl
              rw [hafter k t' h h1 (by simp [clash, Rec.foot, hu, h3, uWr, eqO])] at h2; cases h2
            · intro hcon
              rw [hafter k t' h h1 (by simp [clash, Rec.foot, hal, h3, uIds, inO, memN_iff, hcon])] at h2; cases h2
    case hN =>
      intro r' a' w' hr'
      refine ih (listed.setIfInBounds j true) r' a' w' (by simp [hs]) ?_ ?_ ?_
      · have := unl_set hjlt hs hun
        omega
      · intro k hk pre hpk i hi
        by_cases hjk : j = k
        · subst hjk
          have : pre = prej := Option.some.inj (hpk.symm.trans hprej)
          subst this
          exact getD_set_true (hpre i hi)
        · rw [getD_set_ne false hjk] at hk
          exact getD_set_true (hcl k hk pre hpk i hi)
      · have hLset : ∀ i, i ≠ j → (listed.setIfInBounds j true).getD i false = listed.getD i false := fun i hi => getD_set_ne false (Ne.symm hi)
        have hLat : (listed.setIfInBounds j true).getD j false = true := by simp [hs, hjlt]
        refine hr'.congr (fun s => ?_) (fun s => ?_) (by rw [stL_next]; exact (stL_next ts _ 0 S0).symm)
        · by_cases hd : t.d = some s
          · rw [stL_env_at ts _ 0 S0 s j t ht hd (by simpa using hLat) (fun i t' h0 h1 h2 => by
              simp only [Nat.zero_add]
              rw [hLset i (by omega)]
              exact hafter i t' h0 h1 (by simp [clash, Rec.foot, hd, h2, eqO]))]
            simp [pushR, hd, lk]
          · rw [stL_env ts _ (fun i => listed.getD i false) 0 S0 S0 s (fun i t' h1 h2 => by
              simp only [Nat.zero_add]
              refine hLset i ?_
              rintro rfl
              rw [ht] at h1; cases h1; exact hd h2) rfl]
            simp only [pushR]
            split
            · rename_i s' hs'
              simp only [lk]
              rw [if_neg (by rintro rfl; exact hd hs')]
            · rfl
        · by_cases hd : uWr t.u = some s
          · obtain ⟨cs, ty, hu⟩ : ∃ cs ty, t.u = some (s, cs, ty) := by
              unfold uWr at hd
              split at hd
              · rename_i i cs ty hu; cases hd; exact ⟨cs, ty, hu⟩
              · cases hd
            rw [stL_ents_at ts _ 0 S0 s j t cs ty ht hu (by simpa using hLat) (fun i t' h0 h1 h2 => by
              simp only [Nat.zero_add]
              rw [hLset i (by omega)]
              exact hafter i t' h0 h1 (by simp [clash, Rec.foot, hd, h2, eqO]))]
            simp [pushR, hu, lk]
          · rw [stL_ents ts _ (fun i => listed.getD i false) 0 S0 S0 s (fun i t' h1 h2 => by
              simp only [Nat.zero_add]
              refine hLset i ?_
              rintro rfl
              rw [ht] at h1; cases h1; exact hd h2) rfl]
            simp only [pushR]
            split
            · rename_i s' cs ty hs'
              simp only [lk]
              rw [if_neg (by rintro rfl; exact hd (by rw [hs']; rfl))]
            · rfl
    unfold wpOp
    simp only [ho]
    split
    · rename_i hw; rw [if_pos hw] at key; exact .inl key
    · rename_i hw; rw [if_neg hw] at key; exact key

end
end Go.Sx
