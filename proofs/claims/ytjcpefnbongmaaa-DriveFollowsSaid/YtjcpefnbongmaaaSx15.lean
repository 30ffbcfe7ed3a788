/- A part of the proof of a statement about this seat: how a function is stepped through, and plain laws. No conditions. -/
import Derived.Test.YtjcpefnbongmaaaSx14
set_option linter.unusedVariables false
set_option linter.unusedSimpArgs false
namespace Go.Sx
open Go.RowKit

section
variable {P : Program} {base : World} {M : Nat → Prop} {N n0 : Nat} {r0 r : Rho} {S : St} {a : Act} {w : World}

/-- The names, one more. -/
def more (r : Rho) (m : Nat) (v : Value) : Rho := fun i => if i = m then v else r i

theorem more_old {r : Rho} {m : Nat} {v : Value} : ∀ i, i < m → more r m v i = r i := fun i hi => by unfold more; rw [if_neg (by omega)]
theorem more_ne {r : Rho} {m : Nat} {v : Value} : ∀ i, i ≠ m → more r m v i = r i := fun i hi => by unfold more; rw [if_neg hi]
theorem upto_ne {m : Nat} : ∀ i, upto m i → i ≠ m := fun i hi => Nat.ne_of_lt hi
theorem more_new {r : Rho} {m : Nat} {v : Value} : more r m v m = v := by unfold more; rw [if_pos rfl]

theorem okcs_all : ∀ {cs : List SC}, okcs cs = true → ∀ x ∈ cs, x.ok = true
  | [], _, x, h => by cases h
  | c :: cs, h, x, hx => by
    simp only [okcs, Bool.and_eq_true] at h
    cases hx with
    | head => exact h.1
    | tail _ hm => exact okcs_all h.2 x hm

theorem SC.ok_den (hr : ∀ i, (r i).oneCell' = true) {x : SC} (h : x.ok = true) : (x.den r).oneCell' = true := by
  cases x with
  | v x => exact h
  | n i => exact hr i
  | p i j => rfl
  | q i sz e j => rfl

theorem S1.cells_ok (hr : ∀ i, (r i).oneCell' = true) {x : S1} (h : okcs x.cells = true) : (x.den r).cells.toList = x.cells.map (SC.den r) := by
  refine S1.cells_den r x (fun v hv => ?_) hr
  subst hv
  simp only [S1.cells, okcs, Bool.and_true] at h
  exact h

/-- A new block of the call's own. -/
theorem HeapRel.box {E : Nat → Option Ent} {m : Nat} (h : HeapRel base M r E w) (hs : ∀ i e, E i = some e → i ≠ m ∧ e.sc (fun i => i ≠ m)) {cs : List SC} (hcs : ∀ x ∈ cs, SC.sc (fun i => i ≠ m) x) (ty : TypeId) :
    HeapRel base M (more r m (.pointer (some ⟨w.heap.size, 0, none⟩))) (fun i => if m = i then some (.box cs ty) else E i) (w.alloc (.cells (cs.map (SC.den r)).toArray ty)) := by
  have hb : Below w.heap.size w (w.alloc (.cells (cs.map (SC.den r)).toArray ty)) := (Below.refl _ _).alloc (Nat.le_refl _) _
  have h1 := (h.below hb).ext (r' := more r m (.pointer (some ⟨w.heap.size, 0, none⟩))) hs more_ne (fun i => by unfold more; split; rfl; exact h.one i)
  refine ⟨h1.size, h1.one, h1.os, h1.tape, h1.output, h1.frame, ?_, ?_, ?_⟩
  · intro i e he
    by_cases hi : m = i
    · subst hi
      simp only [if_true] at he
      cases he
      refine ⟨w.heap.size, more_new, ?_⟩
      rw [SC.map_den_ext (r := r) more_ne hcs]
      exact heap_alloc_new _ _
    · rw [if_neg hi] at he; exact h1.ent i e he
  · intro i j e e' hij he he' hm b hbb
    by_cases hi : m = i
    · subst hi
      rw [more_new] at hbb
      cases hbb
      rw [if_neg hij] at he'
      intro hcon
      rw [more_ne _ (hs j e' he').1] at hcon
      exact absurd (Ent.rel_lt (h.ent j e' he') _ hcon) (Nat.lt_irrefl _)
    · rw [if_neg hi] at he
      by_cases hj : m = j
      · subst hj
        rw [more_new]
        rw [more_ne _ (hs i e he).1] at hbb
        have := Ent.rel_lt (h.ent i e he) _ hbb
        intro hcon
        cases hcon
        exact absurd this (Nat.lt_irrefl _)
      · rw [if_neg hj] at he'
        exact h1.apart i j e e' hij he he' hm b hbb
  · intro i e he hm b hbb
    by_cases hi : m = i
    · subst hi
      rw [more_new] at hbb
      cases hbb
      exact .inl h.size
    · rw [if_neg hi] at he; exact h1.mine i e he hm b hbb

theorem lk_cons (i : Nat) (x : Ent) (l : List (Nat × Ent)) : lk ((i, x) :: l) = fun j => if i = j then some x else lk l j := rfl

theorem vcBox_sound {o : Oper} {ty : TypeId} {p : Prop} {cs : List SC} {vs : Array Value} {K : St → Prop} {Next : Act → World → Prop} {Q : Exit → Act → World → Prop} (hr : Rel base M N n0 r0 r S a w) (hd : ∀ s, o.dst = some s → s < N)
    (h : vcBox o.dst S ty p cs K) (hcs : ∀ x ∈ cs, SC.sc (upto S.next) x) (hv : p → okcs cs = true → vs = (cs.map (SC.den r)).toArray)
    (hrun : (execOp a.eval o).run P w = .ok (.value (.pointer (some ⟨w.heap.size, 0, none⟩))) (w.alloc (.cells vs ty)))
    (hN : ∀ r' S' a' w', K S' → Rel base M N n0 r0 r' S' a' w' → Next a' w') : o.wp P a w Next Q := by
  obtain ⟨⟨hp, hok⟩, hK⟩ := h
  unfold Oper.wp
  rw [hrun, hv hp hok]
  simp only [Oper.upon]
  have hh := hr.heap.box (m := S.next) (fun i e he => ⟨Nat.ne_of_lt (hr.scH i e he).1, Ent.sc_mono upto_ne (hr.scH i e he).2⟩) (fun x hx => SC.sc_mono upto_ne (hcs x hx)) ty
  refine hN (more r S.next (.pointer (some ⟨w.heap.size, 0, none⟩))) _ _ _ hK ?_
  have hrel : Rel base M N n0 r0 (more r S.next (.pointer (some ⟨w.heap.size, 0, none⟩))) ⟨S.env, (S.next, .box cs ty) :: S.ents, S.next + 1⟩ a (w.alloc (.cells (cs.map (SC.den r)).toArray ty)) := by
    refine ⟨hr.defers, hr.tmps, fun s v hl => ?_, ?_, fun s v hl => SV.sc_mono (upto_mono (Nat.le_succ _)) (hr.scE s v hl), ?_, Nat.le_trans hr.low (Nat.le_succ _), fun i hi => (more_old i (Nat.lt_of_lt_of_le hi hr.low)).trans (hr.keep i hi)⟩
    · rw [SV.den_ext (r := r) more_old (hr.scE s v hl)]; exact hr.slot s v hl
    · rw [lk_cons]; exact hh
    · intro i e he
      rw [lk_cons] at he
      by_cases hi : S.next = i
      · subst hi
        simp only [if_true] at he
        cases he
        exact ⟨Nat.lt_succ_self _, fun x hx => SC.sc_mono (upto_mono (Nat.le_succ _)) (hcs x hx)⟩
      · simp only [if_neg hi] at he
        obtain ⟨g1, g2⟩ := hr.scH i e he
        exact ⟨Nat.lt_succ_of_lt g1, Ent.sc_mono (upto_mono (Nat.le_succ _)) g2⟩
  have := hrel.put (d := o.dst) (v := .o (.c (.p S.next 0))) hd (Nat.lt_succ_self S.next)
  simp only [SV.den, S1.den, SC.den, more_new, addrOf, Nat.add_zero] at this
  exact this

/-- A box's cells turned. -/
theorem HeapRel.setBox {E : Nat → Option Ent} {i : Nat} {cs cs' : List SC} {ty : TypeId} {b : Nat} (h : HeapRel base M r E w) (hi : E i = some (.box cs ty)) (hb : r i = .pointer (some ⟨b, 0, none⟩)) :
    HeapRel base M r (fun j => if i = j then some (.box cs' ty) else E j) (w.setRow b (cs'.map (SC.den r)).toArray) := by
  obtain ⟨b', hb', hheap⟩ := h.ent i _ hi
  rw [hb] at hb'
  cases hb'
  have hmine := h.mine i _ hi rfl b (by rw [hb]; rfl)
  refine ⟨by rw [setRow_size]; exact h.size, h.one, h.os, h.tape, h.output, ?_, ?_, ?_, ?_⟩
  · intro k hk hM
    rw [setRow_other _ _ _ _ (by rintro rfl; rcases hmine with h1 | h1; omega; exact hM h1)]
    exact h.frame k hk hM
  · intro j e he
    by_cases hj : i = j
    · subst hj
      simp only [if_true] at he
      cases he
      exact ⟨b, hb, setRow_heap _ _ _ _ _ _ hheap⟩
    · rw [if_neg hj] at he
      refine Ent.rel_block (w := w) (by rw [setRow_size]; exact Nat.le_refl _) (fun k hk _ => ?_) (h.ent j e he)
      refine setRow_other _ _ _ _ ?_
      rintro rfl
      exact h.apart i j _ e hj hi he rfl k (by rw [hb]; rfl) hk
  · intro j k e e' hjk he he' hm bb hbb
    have conv : ∀ x y, (if i = x then some (Ent.box cs' ty) else E x) = some y → ∃ y', E x = some y' ∧ y'.mut = y.mut := by
      intro x y hxy
      by_cases hx : i = x
      · subst hx
        simp only [if_true] at hxy
        cases hxy
        exact ⟨_, hi, rfl⟩
      · rw [if_neg hx] at hxy; exact ⟨y, hxy, rfl⟩
    obtain ⟨y1, h1, m1⟩ := conv j e he
    obtain ⟨y2, h2, _⟩ := conv k e' he'
    exact h.apart j k y1 y2 hjk h1 h2 (by rw [m1]; exact hm) bb hbb
  · intro j e he hm bb hbb
    by_cases hj : i = j
    · subst hj
      exact h.mine i _ hi rfl bb hbb
    · rw [if_neg hj] at he; exact h.mine j e he hm bb hbb

theorem vcStore_sound {o : Oper} {t : TypeId} {x y : Operand} {inf : TypeInfo} {p : Prop} {ys : List S1} {K : St → Prop} {Next : Act → World → Prop} {Q : Exit → Act → World → Prop} (hr : Rel base M N n0 r0 r S a w)
    (hd : ∀ s, o.dst = some s → s < N) (ho : o.op = .store t x y) (hi : P.info? t = some inf) (hv : p → [xo x, xo y].map (XO.val a) = ys.map (S1.den r)) (hys : ∀ y ∈ ys, S1.sc (upto S.next) y)
    (h : vcStore o.dst S inf.size p K ys) (hN : ∀ r' S' a' w', K S' → Rel base M N n0 r0 r' S' a' w' → Next a' w') : o.wp P a w Next Q := by
  unfold vcStore at h
  split at h
  · rename_i i j z
    split at h
    · rename_i cs ty hE
      obtain ⟨⟨hp, hl1, hl2, hok⟩, hK⟩ := h
      obtain ⟨y1, y2, hyy, e1, e2⟩ := map2 (hv hp)
      cases hyy
      rw [xo_val] at e1 e2
      obtain ⟨b, hb, hheap⟩ := hr.heap.ent i _ hE
      have hcell := S1.cells_ok hr.heap.one hok
      have hsz : (z.den r).cells.size = inf.size := by rw [← Array.length_toList, hcell, List.length_map, hl1]
      have hst := run_storeCells_at (P := P) b j ty (z.cells.map (SC.den r)) 0 _ w hheap (by simp; omega) (by
        intro v hv
        simp only [List.mem_map] at hv
        obtain ⟨c, hc, rfl⟩ := hv
        exact SC.ok_den hr.heap.one (okcs_all hok c hc))
      have hset : ((cs.map (SC.den r)).toArray.toList.take (j + 0) ++ z.cells.map (SC.den r) ++ (cs.map (SC.den r)).toArray.toList.drop (j + 0 + (z.cells.map (SC.den r)).length)) = (setAt cs j z.cells).map (SC.den r) := by
        rw [setAt_eq _ _ _ (by omega)]
        simp
      rw [hset] at hst
      have e1' : a.eval x = .pointer (some ⟨b, j, none⟩) := by rw [e1]; simp only [S1.den, SC.den, hb, addrOf, Nat.zero_add]
      have hrun : (execOp a.eval o).run P w = .ok .skip (w.setRow b ((setAt cs j z.cells).map (SC.den r)).toArray) := by
        simp only [execOp, ho, e1', e2]
        generalize S1.den r z = v at hsz hcell
        rw [← hcell] at hst
        simp only [Instr.storeAt, Instr.sureAddr, Sem.run_bind, Sem.run_pure, Result.andThen_ok, storeVar, run_sizeOf' hi, hsz, ne_eq, not_true_eq_false, if_false, hst]
      unfold Oper.wp
      rw [hrun]
      simp only [Oper.upon]
      have hh := hr.heap.setBox (cs' := setAt cs j z.cells) hE hb
      refine hN r _ _ _ hK ?_
      have hsc : ∀ c ∈ z.cells, SC.sc (upto S.next) c := by
        have := hys z (by simp)
        cases z with
        | c c => intro c' hc'; simp only [S1.cells, List.mem_singleton] at hc'; subst hc'; exact this
        | a zs => exact this
      have hrel : Rel base M N n0 r0 r ⟨S.env, (i, .box (setAt cs j z.cells) ty) :: S.ents, S.next⟩ a (w.setRow b ((setAt cs j z.cells).map (SC.den r)).toArray) := by
        refine ⟨hr.defers, hr.tmps, hr.slot, ?_, hr.scE, ?_, hr.low, hr.keep⟩
        · rw [lk_cons]; exact hh
        · intro k e he
          rw [lk_cons] at he
          by_cases hk : i = k
          · subst hk
            simp only [if_true] at he
            cases he
            refine ⟨(hr.scH i _ hE).1, fun c hc => ?_⟩
            rcases setAt_mem hc with hc | hc
            · exact (hr.scH i _ hE).2 c hc
            · exact hsc c hc
          · simp only [if_neg hk] at he
            exact hr.scH k e he
      exact hrel.put (d := o.dst) (v := .t []) hd (fun x hx => by cases hx)
    · exact h.elim
  · exact h.elim

end
end Go.Sx
