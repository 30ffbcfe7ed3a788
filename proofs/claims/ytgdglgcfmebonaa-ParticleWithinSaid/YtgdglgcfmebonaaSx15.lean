/- A part of the proof of a statement about this seat: how a function is stepped through, and plain laws. No conditions. -/
import Derived.Test.YtgdglgcfmebonaaSx14
import Derived.Deep.AppendSrc
set_option linter.unusedVariables false
set_option linter.unusedSimpArgs false
namespace Go.Sx
open Go.RowKit

section
variable {P : Program} {base : World} {M : Scp} {N n0 : Nat} {r0 r : Rho} {S : St} {a : Act} {w : World}

/-- The names, one more. -/
def more (r : Rho) (m : Nat) (v : Value) : Rho := fun i => if i = m then v else r i

theorem more_ne {r : Rho} {m : Nat} {v : Value} : ∀ i, i ≠ m → more r m v i = r i := fun i hi => by unfold more; rw [if_neg hi]
theorem more_new {r : Rho} {m : Nat} {v : Value} : more r m v m = v := by unfold more; rw [if_pos rfl]
theorem more_one {r : Rho} {m : Nat} {v : Value} (h : ∀ i, (r i).oneCell' = true) (hv : v.oneCell' = true) : ∀ i, (more r m v i).oneCell' = true := by
  intro i; unfold more; split
  · exact hv
  · exact h i

theorem okcs_all : ∀ {cs : List SC}, okcs cs = true → ∀ x ∈ cs, x.ok = true
  | [], _, x, h => by cases h
  | c :: cs, h, x, hx => by
    simp only [okcs, Bool.and_eq_true] at h
    cases hx with
    | head => exact h.1
    | tail _ hm => exact okcs_all h.2 x hm

theorem SC.ok_den (hr : ∀ i, (r i).oneCell' = true) {x : SC} (h : x.ok = true) : (x.den r).oneCell' = true := by
  cases x with
  | v x => exact h
  | n i => exact hr i
  | p i j => rfl
  | q i sz e j => rfl

theorem S1.cells_ok (hr : ∀ i, (r i).oneCell' = true) {x : S1} (h : okcs x.cells = true) : (x.den r).cells.toList = x.cells.map (SC.den r) := by
  refine S1.cells_den r x (fun v hv => ?_) hr
  subst hv
  simp only [S1.cells, okcs, Bool.and_true] at h
  exact h

theorem lk_cons (i : Nat) (x : Ent) (l : List (Nat × Ent)) : lk ((i, x) :: l) = fun j => if i = j then some x else lk l j := rfl
theorem upd_one (c : Nat) (e : Ent) (E : Nat → Option Ent) (i : Nat) : upd [(c, e)] E i = if c = i then some e else E i := by
  unfold upd lk
  by_cases h : c = i
  · rw [if_pos h, if_pos h]
  · rw [if_neg h, if_neg h]; rfl
theorem upd_two (c d : Nat) (e e' : Ent) (E : Nat → Option Ent) (i : Nat) : upd [(c, e), (d, e')] E i = if c = i then some e else if d = i then some e' else E i := by
  unfold upd
  simp only [lk]
  by_cases h : c = i
  · rw [if_pos h, if_pos h]
  · rw [if_neg h, if_neg h]
    by_cases h2 : d = i
    · rw [if_pos h2, if_pos h2]
    · rw [if_neg h2, if_neg h2]

theorem HeapRel.congrE {E E' : Nat → Option Ent} (h : HeapRel base M r E w) (he : ∀ i, E' i = E i) : HeapRel base M r E' w := by
  have : E' = E := funext he
  rw [this]; exact h

/-- A new block under a new name. -/
theorem HeapRel.mk1 {E : Nat → Option Ent} {c : Nat} {V : Value} {e : Ent} {o : Obj} (h : HeapRel base M r E w) (hs : ∀ i x, E i = some x → i ≠ c ∧ x.sc (fun i => i ≠ c)) (h1 : V.oneCell' = true)
    (hb : ∀ b, blkOf V = some b → b = w.heap.size) (he : e.rel (more r c V) (w.alloc o) V) : HeapRel base M (more r c V) (upd [(c, e)] E) (w.alloc o) := by
  have hbl : Below w.heap.size w (w.alloc o) := (Below.refl _ _).alloc (Nat.le_refl _) _
  have hx := (h.below hbl).ext (r' := more r c V) hs more_ne (more_one h.one h1)
  have hsz : (w.alloc o).heap.size = w.heap.size + 1 := by show (w.heap.push o).size = _; simp
  refine ⟨hx.size, hx.one, hx.os, hx.tape, hx.output, hx.frame, ?_, ?_, ?_, ?_⟩
  · intro i x hi
    rw [upd_one] at hi
    by_cases hc : c = i
    · subst hc; rw [if_pos rfl] at hi; cases hi; rw [more_new]; exact he
    · rw [if_neg hc] at hi; exact hx.ent i x hi
  · intro i j x x' hij hi hj hm hl b hb1 hb2
    rw [upd_one] at hi hj
    by_cases hc : c = i
    · subst hc
      rw [more_new] at hb1
      rw [if_neg hij] at hj
      rw [more_ne _ (hs j x' hj).1] at hb2
      have := (h.src j x' hj hl b hb2).1
      have := hb b hb1
      omega
    · rw [if_neg hc] at hi
      by_cases hc2 : c = j
      · subst hc2
        rw [more_new] at hb2
        rw [more_ne _ (hs i x hi).1] at hb1
        have := (h.src i x hi (Ent.mut_live hm) b hb1).1
        have := hb b hb2
        omega
      · rw [if_neg hc2] at hj
        exact hx.apart i j x x' hij hi hj hm hl b hb1 hb2
  · intro i x hi hm b hb1
    rw [upd_one] at hi
    by_cases hc : c = i
    · subst hc; rw [more_new] at hb1; exact .inl (by have := hb b hb1; have := h.size; omega)
    · rw [if_neg hc] at hi; exact hx.mine i x hi hm b hb1
  · intro i x hi hl b hb1
    rw [upd_one] at hi
    by_cases hc : c = i
    · subst hc; rw [more_new] at hb1; have := hb b hb1; have := h.size; exact ⟨by omega, .inl (by omega)⟩
    · rw [if_neg hc] at hi; exact hx.src i x hi hl b hb1

/-- A world in which one block is another. -/
structure Turn (w w' : World) (b : Option Nat) : Prop where
  size : w'.heap.size = w.heap.size
  os : w'.os = w.os
  tape : w'.tape = w.tape
  output : w'.output = w.output
  other : ∀ k, b ≠ some k → w'.heap[k]? = w.heap[k]?

theorem Turn.same (w : World) (b : Option Nat) : Turn w w b := ⟨rfl, rfl, rfl, rfl, fun _ _ => rfl⟩
theorem Turn.row (w : World) (b : Nat) (cs : Array Value) : Turn w (w.setRow b cs) (some b) :=
  ⟨setRow_size _ _ _, rfl, rfl, rfl, fun k hk => setRow_other _ _ _ _ (by rintro rfl; exact hk rfl)⟩

/-- A piece turned in place. -/
theorem HeapRel.turn {E : Nat → Option Ent} {i : Nat} {e0 e' : Ent} {w' : World} (h : HeapRel base M r E w) (hi : E i = some e0) (hm0 : e0.mut = true) (ht : Turn w w' (blkOf (r i))) (he : e'.rel r w' (r i)) :
    HeapRel base M r (upd [(i, e')] E) w' := by
  have hnot : ∀ k e, k ≠ i → E k = some e → e.live = true → ∀ b, blkOf (r k) = some b → w'.heap[b]? = w.heap[b]? := by
    intro k e hk hek hl b hb
    refine ht.other b fun hcon => ?_
    exact h.apart i k e0 e (Ne.symm hk) hi hek hm0 hl b hcon hb
  refine ⟨by rw [ht.size]; exact h.size, h.one, ht.os.trans h.os, ht.tape.trans h.tape, ht.output.trans h.output, ?_, ?_, ?_, ?_, ?_⟩
  · intro b hb hM
    rw [ht.other b ?_]
    · exact h.frame b hb hM
    · intro hcon
      rcases h.mine i e0 hi hm0 b hcon with h2 | h2
      · omega
      · exact hM h2
  · intro k e hk
    rw [upd_one] at hk
    by_cases hc : i = k
    · subst hc; rw [if_pos rfl] at hk; cases hk; exact he
    · rw [if_neg hc] at hk
      exact Ent.rel_block (by rw [ht.size]; exact Nat.le_refl _) (fun b hl hb _ => hnot k e (Ne.symm hc) hk hl b hb) (h.ent k e hk)
  · intro k j e e2 hkj hk hj hm hl b hb1 hb2
    rw [upd_one] at hk hj
    by_cases hc : i = k
    · subst hc
      rw [if_neg hkj] at hj
      exact h.apart i j e0 e2 hkj hi hj hm0 hl b hb1 hb2
    · rw [if_neg hc] at hk
      by_cases hc2 : i = j
      · subst hc2; exact h.apart k i e e0 hkj hk hi hm (Ent.mut_live hm0) b hb1 hb2
      · rw [if_neg hc2] at hj; exact h.apart k j e e2 hkj hk hj hm hl b hb1 hb2
  · intro k e hk hm b hb
    rw [upd_one] at hk
    by_cases hc : i = k
    · subst hc; exact h.mine i e0 hi hm0 b hb
    · rw [if_neg hc] at hk; exact h.mine k e hk hm b hb
  · intro k e hk hl b hb
    rw [ht.size]
    rw [upd_one] at hk
    by_cases hc : i = k
    · subst hc; exact h.src i e0 hi (Ent.mut_live hm0) b hb
    · rw [if_neg hc] at hk; exact h.src k e hk hl b hb

/-- A piece is known no longer. -/
theorem HeapRel.kill {E : Nat → Option Ent} (h : HeapRel base M r E w) (i : Nat) : HeapRel base M r (upd [(i, .dead)] E) w := by
  have conv : ∀ k e, upd [(i, .dead)] E k = some e → e.live = true → E k = some e := by
    intro k e hk hl
    rw [upd_one] at hk
    by_cases hc : i = k
    · rw [if_pos hc] at hk; cases hk; cases hl
    · rw [if_neg hc] at hk; exact hk
  refine ⟨h.size, h.one, h.os, h.tape, h.output, h.frame, ?_, ?_, ?_, ?_⟩
  · intro k e hk
    rw [upd_one] at hk
    by_cases hc : i = k
    · rw [if_pos hc] at hk; cases hk; exact trivial
    · rw [if_neg hc] at hk; exact h.ent k e hk
  · exact fun k j e e' hkj hk hj hm hl => h.apart k j e e' hkj (conv k e hk (Ent.mut_live hm)) (conv j e' hj hl) hm hl
  · exact fun k e hk hm => h.mine k e (conv k e hk (Ent.mut_live hm)) hm
  · exact fun k e hk hl => h.src k e (conv k e hk hl) hl

/-- A view of what is only read, or of nothing, under a new name. -/
theorem HeapRel.view {E : Nat → Option Ent} {c : Nat} {V : Value} {e : Ent} (h : HeapRel base M r E w) (hs : ∀ i x, E i = some x → i ≠ c ∧ x.sc (fun i => i ≠ c)) (h1 : V.oneCell' = true) (hm : ∀ b, blkOf V = some b → e.mut = false)
    (hb : ∀ b, blkOf V = some b → ∃ i e0, E i = some e0 ∧ e0.live = true ∧ e0.mut = false ∧ blkOf (r i) = some b) (he : e.rel (more r c V) w V) : HeapRel base M (more r c V) (upd [(c, e)] E) w := by
  have hx := h.ext (r' := more r c V) hs more_ne (more_one h.one h1)
  refine ⟨hx.size, hx.one, hx.os, hx.tape, hx.output, hx.frame, ?_, ?_, ?_, ?_⟩
  · intro i x hi
    rw [upd_one] at hi
    by_cases hc : c = i
    · subst hc; rw [if_pos rfl] at hi; cases hi; rw [more_new]; exact he
    · rw [if_neg hc] at hi; exact hx.ent i x hi
  · intro i j x x' hij hi hj hmi hl b hb1 hb2
    rw [upd_one] at hi hj
    by_cases hc : c = i
    · subst hc; rw [if_pos rfl] at hi; cases hi; rw [more_new] at hb1; rw [hm b hb1] at hmi; cases hmi
    · rw [if_neg hc] at hi
      by_cases hc2 : c = j
      · subst hc2
        rw [more_new] at hb2
        rw [more_ne _ (hs i x hi).1] at hb1
        obtain ⟨k, e0, hk, hl0, hm0, hbk⟩ := hb b hb2
        exact h.apart i k x e0 (by rintro rfl; rw [hk] at hi; cases hi; rw [hm0] at hmi; cases hmi) hi hk hmi hl0 b hb1 hbk
      · rw [if_neg hc2] at hj
        exact hx.apart i j x x' hij hi hj hmi hl b hb1 hb2
  · intro i x hi hmi b hb1
    rw [upd_one] at hi
    by_cases hc : c = i
    · subst hc; rw [if_pos rfl] at hi; cases hi; rw [more_new] at hb1; rw [hm b hb1] at hmi; cases hmi
    · rw [if_neg hc] at hi; exact hx.mine i x hi hmi b hb1
  · intro i x hi hl b hb1
    rw [upd_one] at hi
    by_cases hc : c = i
    · subst hc; rw [more_new] at hb1
      obtain ⟨k, e0, hk, hl0, hm0, hbk⟩ := hb b hb1
      exact h.src k e0 hk hl0 b hbk
    · rw [if_neg hc] at hi; exact hx.src i x hi hl b hb1

/-- A piece handed on to a new name. -/
theorem HeapRel.pass {E : Nat → Option Ent} {i c : Nat} {V : Value} {e0 e : Ent} {w' : World} (h : HeapRel base M r E w) (hs : ∀ i x, E i = some x → i ≠ c ∧ x.sc (fun i => i ≠ c)) (h1 : V.oneCell' = true)
    (hi : E i = some e0) (hm0 : e0.mut = true) (ht : Turn w w' (blkOf (r i))) (hb : ∀ b, blkOf V = some b → blkOf (r i) = some b) (he : e.rel (more r c V) w' V) :
    HeapRel base M (more r c V) (upd [(c, e), (i, .dead)] E) w' := by
  have hci : c ≠ i := fun hh => (hs i e0 hi).1 hh.symm
  have ht' := h.turn (e' := .dead) hi hm0 ht trivial
  have hs' : ∀ k x, upd [(i, Ent.dead)] E k = some x → k ≠ c ∧ x.sc (fun i => i ≠ c) := by
    intro k x hk
    rw [upd_one] at hk
    by_cases hc : i = k
    · subst hc; rw [if_pos rfl] at hk; cases hk; exact ⟨Ne.symm hci, trivial⟩
    · rw [if_neg hc] at hk; exact hs k x hk
  have hx := ht'.ext (r' := more r c V) hs' more_ne (more_one h.one h1)
  have hE : ∀ k, upd [(c, e), (i, .dead)] E k = if c = k then some e else upd [(i, .dead)] E k := by
    intro k; rw [upd_two, upd_one]
  have hdead : ∀ k x, upd [(i, Ent.dead)] E k = some x → x.live = true → k ≠ i ∧ E k = some x := by
    intro k x hk hl
    rw [upd_one] at hk
    by_cases hc : i = k
    · subst hc; rw [if_pos rfl] at hk; cases hk; cases hl
    · rw [if_neg hc] at hk; exact ⟨Ne.symm hc, hk⟩
  refine ⟨hx.size, hx.one, hx.os, hx.tape, hx.output, hx.frame, ?_, ?_, ?_, ?_⟩
  · intro k x hk
    rw [hE] at hk
    by_cases hc : c = k
    · subst hc; rw [if_pos rfl] at hk; cases hk; rw [more_new]; exact he
    · rw [if_neg hc] at hk; exact hx.ent k x hk
  · intro k j x x' hkj hk hj hmk hl b hb1 hb2
    rw [hE] at hk hj
    by_cases hc : c = k
    · subst hc
      rw [more_new] at hb1
      rw [if_neg hkj] at hj
      obtain ⟨hji, hj'⟩ := hdead j x' hj hl
      rw [more_ne _ (hs j x' hj').1] at hb2
      exact h.apart i j e0 x' (Ne.symm hji) hi hj' hm0 hl b (hb b hb1) hb2
    · rw [if_neg hc] at hk
      obtain ⟨hki, hk'⟩ := hdead k x hk (Ent.mut_live hmk)
      by_cases hc2 : c = j
      · subst hc2
        rw [more_new] at hb2
        rw [more_ne _ (hs k x hk').1] at hb1
        exact h.apart k i x e0 hki hk' hi hmk (Ent.mut_live hm0) b hb1 (hb b hb2)
      · rw [if_neg hc2] at hj
        exact hx.apart k j x x' hkj hk hj hmk hl b hb1 hb2
  · intro k x hk hmk b hb1
    rw [hE] at hk
    by_cases hc : c = k
    · subst hc; rw [more_new] at hb1; exact h.mine i e0 hi hm0 b (hb b hb1)
    · rw [if_neg hc] at hk; exact hx.mine k x hk hmk b hb1
  · intro k x hk hl b hb1
    rw [hE] at hk
    by_cases hc : c = k
    · subst hc; rw [more_new] at hb1
      have := h.src i e0 hi (Ent.mut_live hm0) b (hb b hb1)
      rw [ht.size]; exact this
    · rw [if_neg hc] at hk; exact hx.src k x hk hl b hb1

theorem HeapRel.drawn1 {E : Nat → Option Ent} (h : HeapRel base M r E w) : HeapRel base M r E w.drew :=
  h.below ⟨rfl, rfl, rfl, Nat.le_refl _, fun _ _ => rfl⟩

/-- How an effect that ends in a value goes on. -/
theorem eff_value {E : Nat → Option Ent} {o : Oper} {c al : Nat} {v : SV} {us : List (Nat × Ent)} {r' : Rho} {w' : World} {V : Value} (hrun : (execOp a.eval o).run P w = .ok (.value V) w')
    (hr : ∀ i, nw c al i → r' i = r i) (hh : HeapRel base M r' (upd us E) w') (hv : v.den r' = V) : EffOk P base M r E o a w c v us al := by
  intro Next Q hN
  unfold Oper.wp
  rw [hrun]
  simp only [Oper.upon]
  rw [← hv]
  exact hN r' w' hr hh
theorem eff_skip {E : Nat → Option Ent} {o : Oper} {c al : Nat} {us : List (Nat × Ent)} {w' : World} (hrun : (execOp a.eval o).run P w = .ok .skip w')
    (hh : HeapRel base M r (upd us E) w') : EffOk P base M r E o a w c (.t []) us al := by
  intro Next Q hN
  unfold Oper.wp
  rw [hrun]
  simp only [Oper.upon]
  exact hN r w' (fun _ _ => rfl) hh

theorem nw_one {c i : Nat} : nw c 1 i ↔ i ≠ c := by unfold nw; omega
theorem fresh_one {E : Nat → Option Ent} {c : Nat} (h : ∀ i e, E i = some e → nw c 1 i ∧ e.sc (nw c 1)) : ∀ i x, E i = some x → i ≠ c ∧ x.sc (fun i => i ≠ c) :=
  fun i x hx => ⟨nw_one.1 (h i x hx).1, Ent.sc_mono (fun _ hj => nw_one.1 hj) (h i x hx).2⟩

theorem eff_box {E : Nat → Option Ent} {o : Oper} {c : Nat} {ty : TypeId} {cs : List SC} {vs : Array Value} (h : HeapRel base M r E w) (hfresh : ∀ i e, E i = some e → nw c 1 i ∧ e.sc (nw c 1)) (hcs : ∀ x ∈ cs, SC.sc (nw c 1) x)
    (hv : vs = (cs.map (SC.den r)).toArray) (hrun : (execOp a.eval o).run P w = .ok (.value (.pointer (some ⟨w.heap.size, 0, none⟩))) (w.alloc (.cells vs ty))) :
    EffOk P base M r E o a w c (.o (.c (.p c 0))) [(c, .box cs ty)] 1 := by
  subst hv
  refine eff_value hrun (r' := more r c (.pointer (some ⟨w.heap.size, 0, none⟩))) (fun i hi => more_ne i (nw_one.1 hi)) (h.mk1 (fresh_one hfresh) rfl (fun b hb => by cases hb; rfl) ?_) ?_
  · refine ⟨w.heap.size, rfl, ?_⟩
    rw [SC.map_den_ext (r := r) (m := fun i => i ≠ c) more_ne (fun x hx => SC.sc_mono (fun _ hj => nw_one.1 hj) (hcs x hx))]
    exact heap_alloc_new _ _
  · simp only [SV.den, S1.den, SC.den, more_new, addrOf, Nat.add_zero]

end
end Go.Sx
