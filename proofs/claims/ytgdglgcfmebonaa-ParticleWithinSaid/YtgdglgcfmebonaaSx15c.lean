/- A part of the proof of a statement about this seat: how a function is stepped through, and plain laws. No conditions. -/
import Derived.Test.YtgdglgcfmebonaaSx15b
set_option linter.unusedVariables false
set_option linter.unusedSimpArgs false
namespace Go.Sx
open Go.RowKit

section
variable {P : Program} {base : World} {M : Scp} {N n0 : Nat} {r0 r : Rho} {S : St} {a : Act} {w : World}

theorem elem_of {t e : TypeId} (h : P.underlying t = some (.slice e)) : P.elem t = e := by simp [Program.elem, h]

/-- A slice expression without a third limit. -/
theorem run_slc {o : Oper} {t e : TypeId} {i : TypeInfo} {x : Operand} {lo hi : Option Operand} {ad : Option Addr} {n cap : Nat} {l hh : Nat} {ol oh : Option Int} (ho : o.op = .slice t x lo hi none) (ht : P.underlying t = some (.slice e)) (hi' : P.info? e = some i)
    (ex : a.eval x = .slice ad n cap) (hlo : lo.map a.eval = ol.map (fun v => (.int .i64 v : Value)) ∨ ∃ k, lo.map a.eval = ol.map (fun v => (.int k v : Value)))
    (hhi : ∃ k, hi.map a.eval = oh.map (fun v => (.int k v : Value))) (h1 : ol.getD 0 = l) (h2 : oh.getD n = hh) (hlh : l ≤ hh) (hhn : hh ≤ n) (hnc : n ≤ cap) :
    (execOp a.eval o).run P w = .ok (.value (.slice (if cap = l then ad else ad.map (·.add (l * i.size))) (hh - l) (cap - l))) w := by
  have ht' : P.underlying t = some (.slice (P.elem t)) := by rw [elem_of ht]; exact ht
  simp only [execOp, ho]
  refine run_valW ?_
  rw [run_sliceAt_slice _ _ _ _ _ _ ht', ex, run_slice_any _ _ _ _ _ ht']
  obtain ⟨k1, hlo⟩ : ∃ k, lo.map a.eval = ol.map (fun v => (.int k v : Value)) := by
    rcases hlo with h | h
    · exact ⟨_, h⟩
    · exact h
  obtain ⟨k2, hhi⟩ := hhi
  rw [hlo, hhi]
  have hb : (Instr.sliceBounds true n cap (ol.map fun v => (.int k1 v : Value)) (oh.map fun v => (.int k2 v : Value)) (Option.map a.eval none)).run P w = .ok (l, hh, cap) w := by
    cases ol with
    | none =>
      simp only [Option.getD_none] at h1
      have : l = 0 := by omega
      subst this
      cases oh with
      | none =>
        simp only [Option.getD_none] at h2
        have : hh = n := by omega
        subst this
        simp [Instr.sliceBounds]
      | some v =>
        simp only [Option.getD_some] at h2
        subst h2
        simp only [Instr.sliceBounds, Option.map_some, Option.map_none, Sem.run_bind, Sem.run_pure, Result.andThen_ok]
        rw [run_sliceBound _ _ _ _ _ (by omega) (by omega)]
        simp
    | some u =>
      simp only [Option.getD_some] at h1
      subst h1
      cases oh with
      | none =>
        simp only [Option.getD_none] at h2
        have : hh = n := by omega
        subst this
        simp only [Instr.sliceBounds, Option.map_some, Option.map_none, Sem.run_bind, Sem.run_pure, Result.andThen_ok]
        rw [run_sliceBound _ _ _ _ _ (by omega) (by omega)]
        simp
      | some v =>
        simp only [Option.getD_some] at h2
        subst h2
        simp only [Instr.sliceBounds, Option.map_some, Option.map_none, Sem.run_bind, Sem.run_pure, Result.andThen_ok]
        rw [run_sliceBound _ _ _ _ _ (by omega) (by omega)]
        simp only [Result.andThen_ok, Sem.run_bind]
        rw [run_sliceBound _ _ _ _ _ (by omega) (by omega)]
        simp
  rw [hb]
  simp only [Result.andThen_ok, elem_of ht, run_sizeOf' hi', sliced]

/-- The empty slice expression. -/
theorem run_slc0 {o : Oper} {t e : TypeId} {i : TypeInfo} {x : Operand} {lo : Option Operand} {hi mx : Operand} {ad : Option Addr} {n cap : Nat} {ol : Option Int} {k1 k2 k3 : IntKind} (ho : o.op = .slice t x lo (some hi) (some mx)) (ht : P.underlying t = some (.slice e)) (hi' : P.info? e = some i)
    (ex : a.eval x = .slice ad n cap) (hlo : lo.map a.eval = ol.map (fun v => (.int k1 v : Value))) (h1 : ol.getD 0 = 0) (h2 : a.eval hi = .int k2 0) (h3 : a.eval mx = .int k3 0) :
    (execOp a.eval o).run P w = .ok (.value (.slice ad 0 0)) w := by
  have ht' : P.underlying t = some (.slice (P.elem t)) := by rw [elem_of ht]; exact ht
  simp only [execOp, ho]
  refine run_valW ?_
  rw [run_sliceAt_slice _ _ _ _ _ _ ht', ex, run_slice_any _ _ _ _ _ ht', hlo]
  simp only [Option.map_some, h2, h3]
  have hb : (Instr.sliceBounds true n cap (ol.map fun v => (.int k1 v : Value)) (some (.int k2 0)) (some (.int k3 0))).run P w = .ok (0, 0, 0) w := by
    cases ol with
    | none =>
      simp only [Instr.sliceBounds, Option.map_none, Sem.run_bind, Sem.run_pure, Result.andThen_ok]
      rw [run_sliceBound _ _ _ _ _ (by omega) (by omega)]
      simp only [Result.andThen_ok, Sem.run_bind]
      rw [run_sliceBound _ _ _ _ _ (by omega) (by simp)]
      simp
    | some u =>
      simp only [Option.getD_some] at h1
      subst h1
      simp only [Instr.sliceBounds, Option.map_some, Sem.run_bind, Sem.run_pure, Result.andThen_ok]
      rw [run_sliceBound _ _ _ _ _ (by omega) (by omega)]
      simp only [Result.andThen_ok, Sem.run_bind]
      rw [run_sliceBound _ _ _ _ _ (by omega) (by simp)]
      simp only [Result.andThen_ok, Sem.run_bind]
      rw [run_sliceBound _ _ _ _ _ (by omega) (by simp)]
      simp
  rw [hb]
  simp only [Result.andThen_ok, elem_of ht, run_sizeOf' hi', sliced, if_true, Nat.sub_zero]

theorem eff_slc0 {E : Nat → Option Ent} {o : Oper} {c : Nat} {ad : Option Addr} (h : HeapRel base M r E w) (hfresh : ∀ i e, E i = some e → nw c 1 i ∧ e.sc (nw c 1))
    (hrun : (execOp a.eval o).run P w = .ok (.value (.slice ad 0 0)) w) : EffOk P base M r E o a w c (.o (.c (.n c))) [(c, .nils)] 1 :=
  eff_value hrun (r' := more r c (.slice ad 0 0)) (fun i hi => more_ne i (nw_one.1 hi)) (h.view (fresh_one hfresh) rfl (fun _ _ => rfl) (fun b hb => by cases ad <;> simp [blkOf] at hb) ⟨ad, rfl⟩)
    (by simp only [SV.den, S1.den, SC.den, more_new])

theorem blk_slc {ad : Option Addr} {n cap l k b : Nat} {n' : Nat} (h : blkOf (.slice (if cap = l then ad else ad.map (·.add k)) n' (cap - l)) = some b) : blkOf (.slice ad n cap) = some b := by
  cases ad with
  | none => split at h <;> simp [blkOf] at h
  | some ad =>
    split at h
    · rename_i hc
      have : cap - l = 0 := by omega
      simp [blkOf, this] at h
    · simp only [Option.map_some, blkOf] at h ⊢
      split at h
      · cases h
      · rw [if_neg (by omega)]
        rw [← h]
        congr 1
        unfold Addr.add
        split <;> rfl

theorem eff_slcRo {E : Nat → Option Ent} {o : Oper} {c i n cap l hh sz : Nat} {f : Nat → Nat → SC} {ad : Option Addr} (h : HeapRel base M r E w) (hfresh : ∀ i e, E i = some e → nw c 1 i ∧ e.sc (nw c 1))
    (hE : E i = some (.ro n sz f)) (hr : r i = .slice ad n cap) (hlh : l ≤ hh) (hhn : hh ≤ n)
    (hrun : (execOp a.eval o).run P w = .ok (.value (.slice (if cap = l then ad else ad.map (·.add (l * sz))) (hh - l) (cap - l))) w) :
    EffOk P base M r E o a w c (.o (.c (.n c))) [(c, .ro (hh - l) sz (shF l f))] 1 := by
  refine eff_value hrun (r' := more r c (.slice (if cap = l then ad else ad.map (·.add (l * sz))) (hh - l) (cap - l))) (fun i hi => more_ne i (nw_one.1 hi))
    (h.view (fresh_one hfresh) rfl (fun _ _ => rfl) (fun b hb => ⟨i, _, hE, rfl, rfl, by rw [hr]; exact blk_slc hb⟩) ?_) (by simp only [SV.den, S1.den, SC.den, more_new])
  obtain ⟨ad', cap', h1, h2, hm, h3⟩ := h.ent i _ hE
  rw [hr] at h1
  cases h1
  refine ⟨_, _, rfl, by omega, by omega, fun hp => ?_⟩
  obtain ⟨b, of, rfl, h5, h6⟩ := h3 (by omega)
  rw [if_neg (by omega)]
  refine ⟨b, of + l * sz, by simp [Addr.add_plain], h5, fun e j he hj => ?_⟩
  have := h6 (e + l) j (by omega) hj
  have e1 : of + l * sz + (e * sz + j) = of + ((e + l) * sz + j) := by rw [Nat.add_mul]; omega
  rw [e1, this]
  unfold shF
  rw [SC.den_ext (r := r) (m := fun i => i ≠ c) more_ne (SC.sc_mono (fun _ hj => nw_one.1 hj) ((hfresh i _ hE).2 (e + l) j))]

theorem eff_slcOwn {E : Nat → Option Ent} {o : Oper} {c i n cap l hh sz : Nat} {f : Nat → Nat → SC} {ty : TypeId} {ad : Option Addr} (h : HeapRel base M r E w) (hfresh : ∀ i e, E i = some e → nw c 1 i ∧ e.sc (nw c 1))
    (hE : E i = some (.own n sz f ty)) (hr : r i = .slice ad n cap) (hlh : l ≤ hh) (hhn : hh ≤ n)
    (hrun : (execOp a.eval o).run P w = .ok (.value (.slice (if cap = l then ad else ad.map (·.add (l * sz))) (hh - l) (cap - l))) w) :
    EffOk P base M r E o a w c (.o (.c (.n c))) [(c, .own (hh - l) sz (shF l f) ty), (i, .dead)] 1 := by
  refine eff_value hrun (r' := more r c (.slice (if cap = l then ad else ad.map (·.add (l * sz))) (hh - l) (cap - l))) (fun i hi => more_ne i (nw_one.1 hi))
    (h.pass (fresh_one hfresh) rfl hE rfl (Turn.same w _) (fun b hb => by rw [hr]; exact blk_slc hb) ?_) (by simp only [SV.den, S1.den, SC.den, more_new])
  obtain ⟨hm, hrel⟩ := h.ent i _ hE
  rw [hr] at hrel
  refine ⟨by omega, ?_⟩
  rcases hrel with ⟨b, of, cap', cur, h1, h2, h3, h4, h5, h6⟩ | ⟨ad', h1, h0⟩
  · cases h1
    by_cases hc : cap = l
    · rw [if_pos hc]
      have e1 : hh - l = 0 := by omega
      have e2 : cap - l = 0 := by omega
      rw [e1, e2]
      exact .inr ⟨_, rfl, rfl⟩
    · rw [if_neg hc]
      have hmul : (cap - l) * sz + l * sz = cap * sz := by rw [← Nat.add_mul]; congr 1; omega
      refine .inl ⟨b, of + l * sz, cap - l, cur, by simp [Addr.add_plain], h2, by omega, by omega, by omega, fun e j he hj => ?_⟩
      have := h6 (e + l) j (by omega) hj
      have e1 : of + l * sz + (e * sz + j) = of + ((e + l) * sz + j) := by rw [Nat.add_mul]; omega
      rw [e1, this]
      unfold shF
      rw [SC.den_ext (r := r) (m := fun i => i ≠ c) more_ne (SC.sc_mono (fun _ hj => nw_one.1 hj) ((hfresh i _ hE).2 (e + l) j))]
  · cases h1
    have e1 : hh - l = 0 := by omega
    have e2 : l = 0 := by omega
    rw [e1, e2, if_pos rfl]
    exact .inr ⟨_, rfl, rfl⟩

end
end Go.Sx
