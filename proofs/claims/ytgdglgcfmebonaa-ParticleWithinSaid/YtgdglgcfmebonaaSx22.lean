/- A part of the proof of a statement about this seat: how a function is stepped through, and plain laws. No conditions. -/
import Derived.Test.YtgdglgcfmebonaaSx20
set_option linter.unusedVariables false
set_option linter.unusedSimpArgs false
namespace Go.Sx
open Go.RowKit

theorem indepAt_spec {y : Foot} {pre : List Nat} : ∀ {l : List Foot} {k : Nat}, indepAt y pre k l = true → ∀ (i : Nat) (x : Foot), l[i]? = some x → clash x y = true → memN (k + i) pre = true
  | [], k, _, i, x, hx => by simp at hx
  | z :: l, k, h, i, x, hx => by
    simp only [indepAt, Bool.and_eq_true, Bool.not_eq_true', Bool.or_eq_true] at h
    obtain ⟨h3, h4⟩ := h
    cases i with
    | zero =>
      simp only [List.getElem?_cons_zero, Option.some.injEq] at hx
      subst hx
      intro hc
      rcases h3 with h3 | h3
      · rw [hc] at h3; cases h3
      · exact h3
    | succ i =>
      have := indepAt_spec h4 i x (by simpa using hx)
      rw [Nat.add_assoc, Nat.add_comm 1 i] at this
      exact this

theorem indep_spec : ∀ {l dn : List Foot} {ps : List (List Nat)}, indep dn l ps = true → ∀ (j : Nat) (y : Foot), l[j]? = some y →
    ∃ pre, ps[j]? = some pre ∧ ∀ (i : Nat) (x : Foot), (dn ++ l)[i]? = some x → i < dn.length + j → clash x y = true → memN i pre = true
  | [], dn, ps, h, j, y, hy => by simp at hy
  | z :: l, dn, [], h, j, y, hy => by simp [indep] at h
  | z :: l, dn, p :: ps, h, j, y, hy => by
    simp only [indep, Bool.and_eq_true] at h
    cases j with
    | zero =>
      simp only [List.getElem?_cons_zero, Option.some.injEq] at hy
      subst hy
      refine ⟨p, rfl, fun i x hx hi => ?_⟩
      have := indepAt_spec h.1 i x (by rw [List.getElem?_append_left (by omega)] at hx; exact hx)
      rw [Nat.zero_add] at this
      exact this
    | succ j =>
      obtain ⟨pre, hpre, hall⟩ := indep_spec h.2 j y (by simpa using hy)
      refine ⟨pre, by simpa using hpre, fun i x hx hi => hall i x (by simpa using hx) (by simp; omega)⟩

theorem meets_mem {i : Nat} {l k : List Nat} (h1 : i ∈ l) (h2 : i ∈ k) : meets l k = true := by
  induction l with
  | nil => cases h1
  | cons j l ih =>
    simp only [meets, Bool.or_eq_true]
    cases h1 with
    | head => exact .inl (memN_iff.2 h2)
    | tail _ hm => exact .inr (ih hm)

def predOk1 (ops : Array Oper) (preds : List (List Nat)) (j : Nat) (pre : List Nat) : Bool :=
  pre.all fun i => match ops[j]? with
    | some o => o.after.any fun e => Region.binds .any e && (e.on == i || memN i (preds.getD e.on []))
    | none => false
def predsOk (ops : Array Oper) (preds : List (List Nat)) : Bool :=
  preds.zipIdx.all fun x => predOk1 ops preds x.2 x.1
def edgesOk (ops : Array Oper) : Bool :=
  ops.toList.zipIdx.all fun x => x.1.after.all fun e => !Region.binds .any e || decide (e.on < x.2)

theorem predsOk_spec {ops : Array Oper} {preds : List (List Nat)} (h : predsOk ops preds = true) {j : Nat} {pre : List Nat} (hj : preds[j]? = some pre) {i : Nat} (hi : i ∈ pre) :
    ∃ o, ops[j]? = some o ∧ ∃ e ∈ o.after, Region.binds .any e = true ∧ (e.on = i ∨ ∃ pre', preds[e.on]? = some pre' ∧ i ∈ pre') := by
  unfold predsOk at h
  have h1 := List.all_eq_true.1 h (pre, j) (List.mem_zipIdx_iff_getElem?.2 hj)
  unfold predOk1 at h1
  have h2 := List.all_eq_true.1 h1 i hi
  split at h2
  · rename_i o ho
    obtain ⟨e, he, hb⟩ := Array.any_eq_true'.1 h2
    simp only [Bool.and_eq_true, Bool.or_eq_true, beq_iff_eq] at hb
    refine ⟨o, ho, e, he, hb.1, ?_⟩
    rcases hb.2 with h3 | h3
    · exact .inl h3
    · refine .inr ?_
      have h4 := memN_iff.1 h3
      rw [List.getD_eq_getElem?_getD] at h4
      cases hp : preds[e.on]? with
      | none => rw [hp] at h4; simp at h4
      | some pre' => rw [hp] at h4; exact ⟨pre', rfl, h4⟩
  · cases h2

theorem edgesOk_spec {ops : Array Oper} (h : edgesOk ops = true) {j : Nat} {o : Oper} (hj : ops[j]? = some o) {e : Edge} (he : e ∈ o.after) (hb : Region.binds .any e = true) : e.on < j := by
  unfold edgesOk at h
  have h1 := List.all_eq_true.1 h (o, j) (List.mem_zipIdx_iff_getElem?.2 (by rw [Array.getElem?_toList]; exact hj))
  have h2 := Array.all_eq_true'.1 h1 e he
  simp only [hb, Bool.not_true, Bool.false_or, decide_eq_true_eq] at h2
  exact h2

section
variable {P : Program} {base : World} {M : Scp} {N n0 : Nat} {r0 r : Rho} {S : St} {a : Act} {w : World}

theorem Rel.congr {S S' : St} (hr : Rel base M N n0 r0 r S a w) (h1 : ∀ s, lk S'.env s = lk S.env s) (h2 : ∀ s, lk S'.ents s = lk S.ents s) (h3 : S'.next = S.next) : Rel base M N n0 r0 r S' a w := by
  have e2 : lk S'.ents = lk S.ents := funext h2
  refine ⟨hr.defers, hr.tmps, fun s v hl => hr.slot s v (by rw [← h1]; exact hl), by rw [e2]; exact hr.heap, fun s v hl => by rw [h3]; exact hr.scE s v (by rw [← h1]; exact hl), fun i e hl => by rw [h3]; exact hr.scH i e (by rw [← h2]; exact hl), by rw [h3]; exact hr.low, hr.keep⟩

def unl (ops : Array Oper) (listed : Array Bool) : Nat := ((List.range ops.size).filter fun i => !listed.getD i true).length

theorem filter_le {p q : Nat → Bool} (hpq : ∀ i, q i = true → p i = true) : ∀ (l : List Nat), (l.filter q).length ≤ (l.filter p).length
  | [] => Nat.le_refl _
  | x :: l => by
    simp only [List.filter_cons]
    have := filter_le hpq l
    split
    · rename_i hq; rw [if_pos (hpq x hq)]; simp only [List.length_cons]; omega
    · split
      · simp only [List.length_cons]; omega
      · exact this

theorem filter_lt {p q : Nat → Bool} (hpq : ∀ i, q i = true → p i = true) {j : Nat} (hp : p j = true) (hq : q j = false) : ∀ (l : List Nat), j ∈ l → (l.filter q).length < (l.filter p).length
  | [], h => by cases h
  | x :: l, h => by
    simp only [List.filter_cons]
    cases h with
    | head =>
      rw [if_pos hp, if_neg (by rw [hq]; simp)]
      have := filter_le hpq l
      simp only [List.length_cons]; omega
    | tail _ hm =>
      have := filter_lt hpq hp hq l hm
      split
      · rename_i hqx; rw [if_pos (hpq x hqx)]; simp only [List.length_cons]; omega
      · split
        · simp only [List.length_cons]; omega
        · exact this

theorem unl_set {ops : Array Oper} {listed : Array Bool} {j : Nat} (hj : j < ops.size) (hs : listed.size = ops.size) (h : listed.getD j true = false) : unl ops (listed.setIfInBounds j true) < unl ops listed := by
  unfold unl
  refine filter_lt (j := j) (fun i hi => ?_) (by simp [h]) ?_ _ (List.mem_range.2 hj)
  · by_cases hij : j = i
    · subst hij
      simp [hs, hj] at hi
    · rw [getD_set_ne true hij] at hi; exact hi
  · simp [hs, hj]

theorem xopsL_at {ops : Array Oper} : ∀ {l : List Oper} {xl : List XOper}, xopsL P ops N l = some xl → ∀ (j : Nat) (o : Oper), l[j]? = some o → ∃ x, xl[j]? = some x ∧ xop P ops o = some x ∧ ∀ s, x.dst = some s → s < N
  | [], xl, h, j, o, ho => by simp at ho
  | o0 :: l, xl, h, j, o, ho => by
    simp only [xopsL] at h
    split at h
    · rename_i x hx
      split at h
      · rename_i hd
        split at h
        · rename_i xs hxs
          cases h
          cases j with
          | zero =>
            simp only [List.getElem?_cons_zero, Option.some.injEq] at ho
            subst ho
            refine ⟨x, rfl, hx, fun s hs => ?_⟩
            rw [hs] at hd
            simpa [dstOk] using hd
          | succ j => simpa using xopsL_at hxs j o (by simpa using ho)
        · cases h
      · cases h
    · cases h

theorem xopsL_len {ops : Array Oper} : ∀ {l : List Oper} {xl : List XOper}, xopsL P ops N l = some xl → xl.length = l.length
  | [], xl, h => by simp only [xopsL, Option.some.injEq] at h; subst h; rfl
  | o0 :: l, xl, h => by
    simp only [xopsL] at h
    split at h
    · split at h
      · split at h
        · rename_i xs hxs; cases h; simp [xopsL_len hxs]
        · cases h
      · cases h
    · cases h

end
end Go.Sx
