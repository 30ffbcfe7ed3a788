/- A part of the proof of a statement about this seat: how a function is stepped through, and plain laws. No conditions. -/
import Derived.Test.YtgdglgcfmebonaaSx18
set_option linter.unusedVariables false
set_option linter.unusedSimpArgs false
namespace Go.Sx
open Go.RowKit

section
variable {P : Program} {base : World} {M : Scp} {N n0 : Nat} {r0 r : Rho} {S : St} {a : Act} {w : World}

theorem Ent.rel_ren {σ : Nat → Nat} {V : Value} : ∀ {e : Ent}, e.rel (fun i => r (σ i)) w V → (e.ren σ).rel r w V
  | .box cs ty, ⟨b, h1, h2⟩ => ⟨b, h1, by
      rw [renL_eq, List.map_map]
      have : cs.map (SC.den r ∘ SC.ren σ) = cs.map (SC.den fun i => r (σ i)) := List.map_congr_left fun x _ => SC.den_ren σ r x
      rw [this]; exact h2⟩
  | .ro n sz f, ⟨a, cap, h1, h2, hm, h3⟩ => ⟨a, cap, h1, h2, hm, fun hn => by
      obtain ⟨b, o, h4, h5, h6⟩ := h3 hn
      exact ⟨b, o, h4, h5, fun e j he hj => by rw [SC.den_ren]; exact h6 e j he hj⟩⟩
  | .own n sz f ty, ⟨hm, hr⟩ => ⟨hm, by
      rcases hr with ⟨b, o, cap, cur, h1, h2, h3, h4, h5, h6⟩ | hr
      · exact .inl ⟨b, o, cap, cur, h1, h2, h3, h4, h5, fun e j he hj => by rw [SC.den_ren]; exact h6 e j he hj⟩
      · exact .inr hr⟩
  | .nils, h => h
  | .dead, _ => trivial
theorem Ent.ren_mut {σ : Nat → Nat} {e : Ent} : (e.ren σ).mut = e.mut := by cases e <;> rfl
theorem Ent.ren_live {σ : Nat → Nat} {e : Ent} : (e.ren σ).live = e.live := by cases e <;> rfl

theorem lk_of_mem : ∀ {l : List (Nat × Ent)} {k : Nat} {e : Ent}, keysNodup l → (k, e) ∈ l → lk l k = some e
  | (j, x) :: l, k, e, hn, h => by
    simp only [lk]
    cases h with
    | head => rw [if_pos rfl]
    | tail _ hm =>
      have hk : k ∈ keys l := by
        clear hn
        induction l with
        | nil => cases hm
        | cons y l ih =>
          obtain ⟨j', x'⟩ := y
          simp only [keys, List.mem_cons]
          cases hm with
          | head => exact .inl rfl
          | tail _ hm => exact .inr (ih hm)
      rw [if_neg (by rintro rfl; exact outN_mem hn.1 hk)]
      exact lk_of_mem hn.2 hm
theorem renE_some {σ : Nat → Nat} : ∀ {l : List (Nat × Ent)} {k : Nat} {e : Ent}, lk l k = some e → ∃ e', lk (renE σ l) (σ k) = some e'
  | (j, x) :: l, k, e, h => by
    simp only [lk] at h
    simp only [renE, lk]
    by_cases hj : j = k
    · subst hj; exact ⟨_, by rw [if_pos rfl]⟩
    · rw [if_neg hj] at h
      obtain ⟨e', he⟩ := renE_some (σ := σ) h
      by_cases hs : σ j = σ k
      · exact ⟨_, by rw [if_pos hs]⟩
      · exact ⟨e', by rw [if_neg hs]; exact he⟩
theorem told_spec {ents : List (Nat × Ent)} : ∀ {l : List (Nat × Ent)}, told ents l = true → ∀ k e, lk l k = some e → e.mut = true → ∃ x, lk ents k = some x
  | (j, x) :: l, h, k, e, hk, hm => by
    simp only [told, Bool.and_eq_true, Bool.or_eq_true, Bool.not_eq_true'] at h
    simp only [lk] at hk
    split at hk
    · rename_i hj
      subst hj
      cases hk
      rcases h.1 with h1 | h1
      · rw [hm] at h1; cases h1
      · exact Option.isSome_iff_exists.1 h1
    · exact told_spec h.2 k e hk hm
theorem lk_mem : ∀ {l : List (Nat × Ent)} {k : Nat} {e : Ent}, lk l k = some e → (k, e) ∈ l
  | (j, x) :: l, k, e, h => by
    simp only [lk] at h
    split at h
    · rename_i hj; subst hj; cases h; exact List.mem_cons_self
    · exact List.mem_cons_of_mem _ (lk_mem h)
theorem inE_spec {E : Nat → Option Ent} {σ : Nat → Nat} : ∀ {l : List (Nat × Ent)}, inE E σ l → ∀ k e, lk l k = some e → ∃ e0, E (σ k) = some e0 ∧ leE (SC.ren σ) e0 e
  | (j, x) :: l, h, k, e, hk => by
    simp only [lk] at hk
    split at hk
    · rename_i hj; subst hj; cases hk; exact h.1
    · exact inE_spec h.2 k e hk
theorem inE0_spec {E : Nat → Option Ent} {σ : Nat → Nat} : ∀ {l : List (Nat × Ent)}, inE0 E σ l → ∀ k e, lk l k = some e → ∃ e0, E (σ k) = some e0
  | (j, x) :: l, h, k, e, hk => by
    simp only [lk] at hk
    split at hk
    · rename_i hj; subst hj; exact h.1
    · exact inE0_spec h.2 k e hk
theorem apartE_spec {σ : Nat → Nat} {all : List (Nat × Ent)} : ∀ {l : List (Nat × Ent)}, apartE σ l all → ∀ k e, (k, e) ∈ l → e.mut = true → ∀ k' e', (k', e') ∈ all → k' ≠ k → σ k' ≠ σ k
  | (j, x) :: l, h, k, e, hk, hm => by
    cases hk with
    | head => exact h.1 hm
    | tail _ hk => exact apartE_spec h.2 k e hk hm
theorem covers_spec {cn : List (Nat × Ent)} : ∀ {k0 : Nat}, covers cn k0 = true → ∀ k, k < k0 → ∃ e, lk cn k = some e
  | k0 + 1, h, k, hk => by
    simp only [covers, Bool.and_eq_true] at h
    by_cases hh : k = k0
    · subst hh; exact Option.isSome_iff_exists.1 h.1
    · exact covers_spec h.2 k (by omega)

/-- What comes out is the call's own. -/
def okOut : List (Nat × Ent) → Bool
  | [] => true
  | (_, .ro ..) :: _ => false
  | _ :: l => okOut l
theorem okOut_spec : ∀ {l : List (Nat × Ent)}, okOut l = true → ∀ k e, lk l k = some e → e.mut = true ∨ e = .nils ∨ e = .dead
  | (j, x) :: l, h, k, e, hk => by
    simp only [lk] at hk
    split at hk
    · cases hk
      cases x <;> first | exact .inl rfl | exact .inr (.inl rfl) | exact .inr (.inr rfl) | cases h
    · refine okOut_spec ?_ k e hk
      cases x <;> first | exact h | cases h

/-- What a call did under names of its own, it did. -/
theorem HeapRel.call2 {E : Nat → Option Ent} {cn ents : List (Nat × Ent)} {σ : Nat → Nat} {r1 r' : Rho} {w' : World} {n nx : Nat} (h : HeapRel base M r E w) (hE : ∀ i e, E i = some e → i < n ∧ e.sc (upto n))
    (hC : inE E σ cn) (hold : ∀ k e, lk cn k = some e → ∃ e0, E (σ k) = some e0) (ho : HeapRel w ⟨mutB (lk cn) (fun k => r (σ k)), allB (lk cn) (fun k => r (σ k))⟩ r1 (lk ents) w') (hsc : scEnt (upto nx) ents) (hkn : keysNodup ents) (htold : told ents cn = true) (hout : okOut ents = true)
    (h1 : ∀ i, (r' i).oneCell' = true) (hr1 : ∀ k, k < nx → r' (σ k) = r1 k) (hr0 : ∀ i, i < n → r' i = r i) : HeapRel base M r' (upd (renE σ ents) E) w' := by
  have hcase : ∀ i e, upd (renE σ ents) E i = some e → (∃ k e', lk ents k = some e' ∧ σ k = i ∧ e = e'.ren σ ∧ k < nx ∧ e'.sc (upto nx) ∧ r' i = r1 k) ∨ (lk (renE σ ents) i = none ∧ E i = some e) := by
    intro i e he
    unfold upd at he
    split at he
    · rename_i x hx
      cases he
      obtain ⟨k, e', g1, g2, g3⟩ := renE_lk hx
      have g4 := lk_of_mem hkn g1
      obtain ⟨g5, g6⟩ := scEnt_sound hsc k e' g4
      exact .inl ⟨k, e', g4, g2, g3, g5, g6, by rw [← g2]; exact hr1 k g5⟩
    · rename_i hx; exact .inr ⟨hx, he⟩
  -- what the call may write is among what it was given to write
  have hmut : ∀ b, mutB (lk cn) (fun k => r (σ k)) b → ∃ k e e0, lk cn k = some e ∧ E (σ k) = some e0 ∧ e0.mut = true ∧ blkOf (r (σ k)) = some b ∧ lk (renE σ ents) (σ k) ≠ none := by
    rintro b ⟨k, e, hk, hm, hb⟩
    obtain ⟨e0, g1, g2⟩ := inE_spec hC k e hk
    obtain ⟨x, hx⟩ := told_spec htold k e hk hm
    obtain ⟨x', hx'⟩ := renE_some (σ := σ) hx
    rcases leE_mut g2 hm with g3 | rfl
    · exact ⟨k, e, e0, hk, g1, g3, hb, by rw [hx']; simp⟩
    · obtain ⟨ad, had⟩ := h.ent _ _ g1
      simp only at hb
      rw [had] at hb
      cases ad <;> simp [blkOf] at hb
  have hall : ∀ b, allB (lk cn) (fun k => r (σ k)) b → ∃ k e e0, lk cn k = some e ∧ E (σ k) = some e0 ∧ e0.live = true ∧ blkOf (r (σ k)) = some b := by
    rintro b ⟨k, e, hk, hm, hb⟩
    obtain ⟨e0, g1, g2⟩ := inE_spec hC k e hk
    exact ⟨k, e, e0, hk, g1, leE_live g2 hm, hb⟩
  have hkeep : ∀ i e b, E i = some e → lk (renE σ ents) i = none → e.live = true → blkOf (r i) = some b → b < w.heap.size ∧ w'.heap[b]? = w.heap[b]? := by
    intro i e b he hn hl hb
    have hlt := (h.src i e he hl b hb).1
    refine ⟨hlt, ho.frame b hlt fun hcon => ?_⟩
    obtain ⟨k, x, e0, _, g1, g2, g3, g4⟩ := hmut b hcon
    exact h.apart (σ k) i e0 e (by rintro hh; rw [hh] at g4; exact g4 hn) g1 he g2 hl b g3 hb
  refine ⟨Nat.le_trans h.size ho.size, h1, ho.os.trans h.os, ho.tape.trans h.tape, ho.output.trans h.output, ?_, ?_, ?_, ?_, ?_⟩
  · intro b hb hM
    rw [ho.frame b (Nat.lt_of_lt_of_le hb h.size) ?_]
    · exact h.frame b hb hM
    · intro hcon
      obtain ⟨k, x, e0, _, g1, g2, g3, g4⟩ := hmut b hcon
      rcases h.mine (σ k) e0 g1 g2 b g3 with g5 | g5
      · omega
      · exact hM g5
  · intro i e he
    rcases hcase i e he with ⟨k, e', g1, g2, rfl, g4, g5, g6⟩ | ⟨g1, g2⟩
    · rw [g6]
      refine Ent.rel_ren (Ent.rel_ext (r := r1) (m := upto nx) (fun j hj => hr1 j hj) g5 (ho.ent k e' g1))
    · rw [hr0 i (hE i e g2).1]
      exact Ent.rel_ext (m := upto n) hr0 (hE i e g2).2 (Ent.rel_block ho.size (fun b hl hb _ => (hkeep i e b g2 g1 hl hb).2) (h.ent i e g2))
  · intro i j e e' hij he he' hm hl b hb hb'
    rcases hcase i e he with ⟨k, x, g1, g2, rfl, g4, g5, g6⟩ | ⟨g1, g2⟩
    · rw [Ent.ren_mut] at hm
      rw [g6] at hb
      rcases hcase j e' he' with ⟨k', x', g1', g2', rfl, g4', g5', g6'⟩ | ⟨g1', g2'⟩
      · rw [Ent.ren_live] at hl
        rw [g6'] at hb'
        exact ho.apart k k' x x' (by rintro rfl; exact hij (g2.symm.trans g2')) g1 g1' hm hl b hb hb'
      · rw [hr0 j (hE j e' g2').1] at hb'
        have hlt := (h.src j e' g2' hl b hb').1
        rcases ho.mine k x g1 hm b hb with g | g
        · omega
        · obtain ⟨k2, y, e0, _, f1, f2, f3, f4⟩ := hmut b g
          exact h.apart (σ k2) j e0 e' (by rintro hh; rw [hh] at f4; exact f4 g1') f1 g2' f2 hl b f3 hb'
    · rw [hr0 i (hE i e g2).1] at hb
      have hlt := (h.src i e g2 (Ent.mut_live hm) b hb).1
      rcases hcase j e' he' with ⟨k', x', g1', g2', rfl, g4', g5', g6'⟩ | ⟨g1', g2'⟩
      · rw [Ent.ren_live] at hl
        rw [g6'] at hb'
        rcases okOut_spec hout k' x' g1' with hx | hx | hx
        · rcases ho.mine k' x' g1' hx b hb' with g | g
          · omega
          · obtain ⟨k2, y, e0, f0, f1, f2, f3, f4⟩ := hmut b g
            exact h.apart i (σ k2) e e0 (by rintro rfl; exact f4 g1) g2 f1 hm (Ent.mut_live f2) b hb f3
        · subst hx
          obtain ⟨ad, had⟩ := ho.ent k' _ g1'
          rw [had] at hb'
          cases ad <;> simp [blkOf] at hb'
        · subst hx; cases hl
      · rw [hr0 j (hE j e' g2').1] at hb'
        exact h.apart i j e e' hij g2 g2' hm hl b hb hb'
  · intro i e he hm b hb
    rcases hcase i e he with ⟨k, x, g1, g2, rfl, g4, g5, g6⟩ | ⟨g1, g2⟩
    · rw [Ent.ren_mut] at hm
      rw [g6] at hb
      rcases ho.mine k x g1 hm b hb with g | g
      · exact .inl (Nat.le_trans h.size g)
      · obtain ⟨k2, y, e0, _, f1, f2, f3, f4⟩ := hmut b g
        exact h.mine _ e0 f1 f2 b f3
    · rw [hr0 i (hE i e g2).1] at hb
      exact h.mine i e g2 hm b hb
  · intro i e he hl b hb
    rcases hcase i e he with ⟨k, x, g1, g2, rfl, g4, g5, g6⟩ | ⟨g1, g2⟩
    · rw [Ent.ren_live] at hl
      rw [g6] at hb
      refine ⟨(ho.src k x g1 hl b hb).1, ?_⟩
      rcases (ho.src k x g1 hl b hb).2 with g | g
      · exact .inl (Nat.le_trans h.size g)
      · obtain ⟨k2, y, e0, _, f1, f2, f3⟩ := hall b g
        exact (h.src _ e0 f1 f2 b f3).2
    · rw [hr0 i (hE i e g2).1] at hb
      exact ⟨Nat.lt_of_lt_of_le (h.src i e g2 hl b hb).1 ho.size, (h.src i e g2 hl b hb).2⟩

/-- The pieces that a call is given, under names of its own. -/
theorem HeapRel.canon {E : Nat → Option Ent} {cn : List (Nat × Ent)} {σ : Nat → Nat} (h : HeapRel base M r E w) (hC : inE E σ cn) (hap : apartE σ cn cn) :
    HeapRel w ⟨mutB (lk cn) (fun k => r (σ k)), allB (lk cn) (fun k => r (σ k))⟩ (fun k => r (σ k)) (lk cn) w := by
  refine ⟨Nat.le_refl _, fun i => h.one _, rfl, rfl, rfl, fun _ _ _ => rfl, ?_, ?_, fun i e he hm b hb => .inr ⟨i, e, he, hm, hb⟩, fun i e he hl b hb => ⟨?_, .inr ⟨i, e, he, hl, hb⟩⟩⟩
  · intro k e hk
    obtain ⟨e0, h1, h2⟩ := inE_spec hC k e hk
    exact leE_rel (fun x => SC.den_ren σ r x) h2 (h.ent _ _ h1)
  · intro k k' e e' hkk hk hk' hm hl b hb hb'
    obtain ⟨e0, h1, h2⟩ := inE_spec hC k e hk
    obtain ⟨e0', h1', h2'⟩ := inE_spec hC k' e' hk'
    have hne := apartE_spec hap k e (lk_mem hk) hm k' e' (lk_mem hk') (Ne.symm hkk)
    rcases leE_mut h2 hm with h3 | rfl
    · exact h.apart (σ k) (σ k') e0 e0' (Ne.symm hne) h1 h1' h3 (leE_live h2' hl) b hb hb'
    · obtain ⟨ad, had⟩ := h.ent _ _ h1
      have hb : blkOf (r (σ k)) = some b := hb
      rw [had] at hb
      cases ad <;> simp [blkOf] at hb
  · obtain ⟨e0, h1, h2⟩ := inE_spec hC i e he
    exact (h.src _ _ h1 (leE_live h2 hl) b hb).1

/-- What comes out. -/
def fitQ (k0 : Nat) (res' : SV) (ents' : List (Nat × Ent)) (nx' : Nat) (v : SV) (S : St) : Prop := Le k0 ⟨[(0, v)], S.ents, S.next⟩ ⟨[(0, res')], ents', nx'⟩
theorem fitQ_app (k0 : Nat) (res' : SV) (ents' : List (Nat × Ent)) (nx' : Nat) (v : SV) (S : St) : fitQ k0 res' ents' nx' v S = Le k0 ⟨[(0, v)], S.ents, S.next⟩ ⟨[(0, res')], ents', nx'⟩ := rfl
def eqQ (res' v : SV) (_ : St) : Prop := v = res'
theorem eqQ_app (res' v : SV) (S : St) : eqQ res' v S = (v = res') := rfl

/-- What is to be shown of a contract with memory. -/
def FitE (Γ : Nat → Con) (X : XFn) (args : List S1) (E : Nat → Option Ent) (n : Nat) (pre : Prop) (res : SV) (ents : List (Nat × Ent)) (next : Nat) : Prop :=
  ∃ (k0 : Nat) (img : List Nat) (args' : List S1) (cn : List (Nat × Ent)) (res' : SV) (ents' : List (Nat × Ent)) (nx' : Nat),
    args = ren1L (sg k0 n img) args' ∧ res = res'.ren (sg k0 n img) ∧ ents = renE (sg k0 n img) ents' ∧ next = n + (nx' - k0) ∧ k0 ≤ nx' ∧
    sc1L (upto k0) args' ∧ scEnt (upto k0) cn ∧ scV (upto nx') res' ∧ scEnt (upto nx') ents' ∧ covers cn k0 = true ∧ inE0 E (sg k0 n img) cn ∧ keysNodup ents' ∧ told ents' cn = true ∧ okOut ents' = true ∧
    (pre → Lens E → inE E (sg k0 n img) cn ∧ apartE (sg k0 n img) cn cn ∧ vcF Γ X args' cn k0 (fitQ k0 res' ents' nx'))

theorem cok_e {f : Nat} {fn : Func} {X : XFn} {Γ : Nat → Con} {g : Con} (hf : P.funcs[f]? = some fn) (hx : xfn P fn = some X) (hb : bodied P f = true) (hΓ : ∀ f, COk P f (Γ f))
    (h : ∀ args E n cr, g args E n = some cr → ∃ pre res ents next, cr = .e pre res ents next ∧ FitE Γ X args E n pre res ents next) : COk P f g := by
  intro args E n hargs hE
  cases hg : g args E n with
  | none => trivial
  | some cr =>
    obtain ⟨pre, res, ents, next, rfl, k0, img, args', cn, res', ents', nx', rfl, rfl, rfl, rfl, hk, s1, s2, s3, s4, hcov, hin0, hkn, htold, hout, hvc⟩ := h args E n cr hg
    intro hp
    generalize hσ : sg k0 n img = σ at *
    have σlow : ∀ k, k < k0 → ∃ e0, E (σ k) = some e0 := by
      intro k hk
      obtain ⟨e, he⟩ := covers_spec hcov k hk
      exact inE0_spec hin0 k e he
    have σhi : ∀ k, k0 ≤ k → σ k = n + (k - k0) := by
      intro k hk
      rw [← hσ]; unfold sg; rw [if_neg (by omega)]
    refine ⟨hb, by omega, fun m hm1 hm2 hm3 => ?_, fun i e he => ?_, fun base M r w hh => ?_⟩
    · have hm : ∀ k, k < nx' → m (σ k) := by
        intro k hk'
        by_cases hlt : k < k0
        · obtain ⟨e0, he0⟩ := σlow k hlt
          exact (hm2 _ _ he0).1
        · rw [σhi k (by omega)]; exact hm3 _ (by omega) (by omega)
      refine ⟨scV_iff.1 (SV.sc_ren.2 (scV_iff.2 (SV.sc_mono hm (scV_iff.1 s3)))), fun i e he => ?_⟩
      obtain ⟨k, e', h1, rfl, rfl⟩ := renE_lk he
      obtain ⟨h2, h3⟩ := scEnt_sound s4 k e' (lk_of_mem hkn h1)
      exact ⟨hm k h2, scE_iff.1 (Ent.sc_ren.2 (scE_iff.2 (Ent.sc_mono hm h3)))⟩
    · obtain ⟨k, e', h1, rfl, rfl⟩ := renE_lk he
      obtain ⟨h2, h3⟩ := scEnt_sound s4 k e' (lk_of_mem hkn h1)
      by_cases hlt : k < k0
      · obtain ⟨e0, he0⟩ := σlow k hlt
        exact .inl (by rw [he0]; simp)
      · have h2 : k < nx' := h2
        rw [σhi k (by omega)]
        exact .inr (by omega)
    · obtain ⟨hin, hap, hv⟩ := hvc hp hh.lens
      have hcan := hh.canon hin hap
      have hcalls := calls_vc (n0 := k0) hf hx hΓ hv hcan (sc1L_sound s1) (fun i e he => scEnt_sound s2 i e he)
      have hargs' : args'.map (S1.den fun k => r (σ k)) = (ren1L σ args').map (S1.den r) := by
        rw [ren1L_eq, List.map_map]; exact List.map_congr_left fun x _ => (S1.den_ren σ r x).symm
      rw [hargs'] at hcalls
      refine hcalls.mono ?_
      rintro e w' ⟨r1, v, S, hk1, rfl, ⟨hbb, he1, he2, he3, _, _, _⟩, hw', _⟩
      have hv0 : v = res'.sub (bndOf ⟨[(0, v)], S.ents, S.next⟩ ⟨[(0, res')], ents', nx'⟩) := by
        have := he1.1
        simp only [lk, if_true, Option.some.injEq] at this
        exact this
      generalize bndOf ⟨[(0, v)], S.ents, S.next⟩ ⟨[(0, res')], ents', nx'⟩ = b at hbb he1 he2 he3 hv0
      have hw2 := hw'.le hbb he2 he3
      have hlow1 : ∀ k, k < k0 → subR b r1 k = r (σ k) := by
        intro k hk
        unfold subR
        split
        · rename_i c hc
          rcases bndOk_at hbb k c hc with ⟨j, rfl, hj⟩ | ⟨V, rfl, hn, _⟩
          · rw [hj hk]; exact hk1 k hk
          · omega
        · exact hk1 k hk
      have hr1 : ∀ k, k < nx' → (fun i => if i < n then r i else subR b r1 (k0 + (i - n))) (σ k) = subR b r1 k := by
        intro k hk'
        by_cases hlt : k < k0
        · obtain ⟨e0, he0⟩ := σlow k hlt
          simp only
          rw [if_pos (hE _ _ he0).1, hlow1 k hlt]
        · simp only
          rw [σhi k (by omega), if_neg (by omega)]
          congr 1; omega
      refine ⟨fun i => if i < n then r i else subR b r1 (k0 + (i - n)), fun i hi => if_pos hi, ?_, ?_⟩
      · rw [SV.den_ren, hv0]
        conv => lhs; rw [← SV.den_sub hbb r1 res']
        rw [SV.den_ext (m := upto nx') (fun k hk => hr1 k hk) (scV_sound s3)]
      · exact hh.call2 hE hin (fun k e hk => inE0_spec hin0 k e hk) hw2 s4 hkn htold hout (fun i => by split <;> first | exact hh.one i | exact hw2.one _) hr1 (fun i hi => if_pos hi)

/-- What is to be shown of a contract that only reads. -/
def FitQ (Γ : Nat → Con) (X : XFn) (args : List S1) (E : Nat → Option Ent) (n : Nat) (pre : Prop) (res : SV) : Prop :=
  ∃ (k0 : Nat) (img : List Nat) (args' : List S1) (cn : List (Nat × Ent)) (res' : SV),
    args = ren1L (sg k0 n img) args' ∧ res = res'.ren (sg k0 n img) ∧ sc1L (upto k0) args' ∧ scEnt (upto k0) cn ∧ scV (upto k0) res' ∧ covers cn k0 = true ∧ inE0 E (sg k0 n img) cn ∧ told [] cn = true ∧
    (pre → Lens E → inE E (sg k0 n img) cn ∧ vcF Γ X args' cn k0 (eqQ res'))

theorem told_nil : ∀ {l : List (Nat × Ent)}, told [] l = true → ∀ k e, (k, e) ∈ l → e.mut = false
  | (j, x) :: l, h, k, e, hk => by
    simp only [told, Bool.and_eq_true, Bool.or_eq_true, Bool.not_eq_true', lk, Option.isSome_none, Bool.false_eq_true, or_false] at h
    cases hk with
    | head => exact h.1
    | tail _ hk => exact told_nil h.2 k e hk
theorem apartE_nil {σ : Nat → Nat} {all : List (Nat × Ent)} : ∀ {l : List (Nat × Ent)}, told [] l = true → apartE σ l all
  | [], _ => trivial
  | (j, x) :: l, h => by
    refine ⟨fun hm => ?_, apartE_nil (by simp only [told, Bool.and_eq_true] at h; exact h.2)⟩
    have := told_nil h j x (by simp)
    rw [this] at hm; cases hm

theorem cok_q {f : Nat} {fn : Func} {X : XFn} {Γ : Nat → Con} {g : Con} (hf : P.funcs[f]? = some fn) (hx : xfn P fn = some X) (hb : bodied P f = true) (hΓ : ∀ f, COk P f (Γ f))
    (h : ∀ args E n cr, g args E n = some cr → ∃ pre res, cr = .q pre res ∧ FitQ Γ X args E n pre res) : COk P f g := by
  intro args E n hargs hE
  cases hg : g args E n with
  | none => trivial
  | some cr =>
    obtain ⟨pre, res, rfl, k0, img, args', cn, res', rfl, rfl, s1, s2, s3, hcov, hin0, htold, hvc⟩ := h args E n cr hg
    generalize hσ : sg k0 n img = σ at *
    have σlow : ∀ k, k < k0 → ∃ e0, E (σ k) = some e0 := by
      intro k hk
      obtain ⟨e, he⟩ := covers_spec hcov k hk
      exact inE0_spec hin0 k e he
    refine ⟨fun m hm1 hm2 => ?_, fun hp => ⟨hb, fun base M r w hh => ?_⟩⟩
    · exact scV_iff.1 (SV.sc_ren.2 (scV_iff.2 (SV.sc_mono (fun k hk => by obtain ⟨e0, he0⟩ := σlow k hk; exact (hm2 _ _ he0).1) (scV_iff.1 s3))))
    · obtain ⟨hin, hv⟩ := hvc hp hh.lens
      have hcan := hh.canon hin (apartE_nil htold)
      have hcalls := calls_vc (n0 := k0) hf hx hΓ hv hcan (sc1L_sound s1) (fun i e he => scEnt_sound s2 i e he)
      have hargs' : args'.map (S1.den fun k => r (σ k)) = (ren1L σ args').map (S1.den r) := by
        rw [ren1L_eq, List.map_map]; exact List.map_congr_left fun x _ => (S1.den_ren σ r x).symm
      rw [hargs'] at hcalls
      refine hcalls.mono ?_
      rintro e w' ⟨r1, v, S, hk1, rfl, rfl, hw', _⟩
      refine ⟨?_, HeapRel.toBelow (fun b hb => ?_) hw'⟩
      · rw [SV.den_ren, SV.den_ext (r := fun k => r (σ k)) (r' := r1) (m := upto k0) (fun k hk => hk1 k hk) (scV_sound s3)]
      · obtain ⟨k, e, hk, hm, _⟩ := hb
        have := told_nil htold k e (lk_mem hk)
        rw [hm] at this; cases this

end
end Go.Sx
