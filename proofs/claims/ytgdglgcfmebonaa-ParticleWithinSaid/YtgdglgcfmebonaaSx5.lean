/- A part of the proof of a statement about this seat: how a function is stepped through, and plain laws. No conditions. -/
import Derived.Test.YtgdglgcfmebonaaSx4
set_option linter.unusedVariables false
set_option linter.unusedSimpArgs false
namespace Go.Sx
open Go.RowKit

theorem oks_one : ∀ (xs : List S1), oks xs = true → ∀ x ∈ xs, ∀ v, x = .c (.v v) → v.oneCell' = true
  | [], _, x, hx, _, _ => by cases hx
  | y :: ys, h, x, hx, v, hv => by
    simp only [oks, Bool.and_eq_true] at h
    cases hx with
    | head => subst hv; exact h.1
    | tail _ hm => exact oks_one ys h.2 x hm v hv

section
variable {P : Program} {base : World} {M : Scp} {r : Rho} {E : Nat → Option Ent} {w : World}

/-- What an operation without writes and calls yields: its value, in the world that it got. -/
def Yields (P : Program) (o : Oper) (a : Act) (w : World) (v : Value) : Prop := (execOp a.eval o).run P w = .ok (.value v) w

theorem sound_build {o : Oper} {a : Act} {t : TypeId} {parts : Array (Nat × Operand)} {z : List Value} {pl : List (Nat × Nat)} {xs : List XO} {ys : List S1} {p : Prop} {y : S1}
    (ho : o.op = .build t parts) (hx : xop1 P o.op = some (.build z pl, xs)) (hv : xs.map (XO.val a) = ys.map (S1.den r)) (hq : opQ E (.build z pl) ys = some (p, y)) (hp : p)
    (hr : ∀ i, (r i).oneCell' = true) : Yields P o a w (y.den r) := by
  have hq' : ∃ cs, fillS (z.map .v) pl ys = some cs ∧ y = .a cs ∧ (p ↔ oks ys = true) := by
    simp only [opQ, qBuild] at hq
    split at hq
    · rename_i cs hcs
      cases hq
      exact ⟨cs, hcs, rfl, Iff.rfl⟩
    · cases hq
  obtain ⟨cs, hf, rfl, hpi⟩ := hq'
  have hok := hpi.1 hp
  unfold Yields
  rw [ho] at hx
  simp only [xop1] at hx
  have hz : (z.map SC.v).map (SC.den r) = z := by
    rw [List.map_map]; exact (List.map_congr_left (fun x _ => rfl)).trans (List.map_id z)
  split at hx
  · rename_i fs zz hu hzz
    split at hx
    · rename_i hall
      split at hx
      · rename_i hlt
        simp only [Option.some.injEq, Prod.mk.injEq, XOp.build.injEq] at hx
        obtain ⟨⟨rfl, rfl⟩, rfl⟩ := hx
        obtain ⟨i, hi, hzi⟩ := Option.bind_eq_some_iff.1 hzz
        have hfill := fill_den (r := r) (fun i => (fs.toList.map fun f => (f.offset, P.cellsOf f.type))[i]?) hr (parts.toList.map (·.1)) _ ys _ cs ?hpl (oks_one ys hok) hf ?hlen
        case hlen =>
          have := congrArg List.length hv
          simp at this
          simp [this]
        case hpl =>
          rw [List.map_map, List.map_map]
          refine List.map_congr_left fun x hx => ?_
          have hx' := (Array.all_eq_true'.1 hlt) x (Array.mem_toList_iff.1 hx)
          simp only [decide_eq_true_eq] at hx'
          simp [hx', Array.getD]
        rw [hz] at hfill
        have hev : (parts.toList.map fun x => (x.1, a.eval x.2)) = (parts.toList.map (·.1)).zip (ys.map (S1.den r)) := by
          rw [← hv, List.map_map, List.zip_map', List.map_congr_left]
          intro x _
          simp [xo_val]
        have hmapM : ∀ l : List Field, l.all (fun f => (P.info? f.type).isSome) = true →
            (l.mapM fun f => (do pure (f.offset, ← sizeOf f.type) : Sem (Nat × Nat))).run P w = .ok (l.map fun f => (f.offset, P.cellsOf f.type)) w := by
          intro l
          induction l with
          | nil => intro _; rfl
          | cons f l ih =>
            intro hl
            simp only [List.all_cons, Bool.and_eq_true] at hl
            obtain ⟨i, hi⟩ := Option.isSome_iff_exists.1 hl.1
            simp only [List.mapM_cons, Sem.run_bind, run_sizeOf' hi, Result.andThen_ok, Sem.run_pure, ih hl.2, List.map_cons, cellsOf_eq hi]
        have hall' : fs.toList.all (fun f => (P.info? f.type).isSome) = true := by rw [Array.all_toList]; exact hall
        simp only [execOp, ho]
        refine run_val ?_
        simp only [Instr.build, Sem.run_bind, zeroValue, run_typeInfo' hi, hzi, Result.andThen_ok, Sem.run_pure, run_underlying hu]
        have hm := hmapM fs.toList hall'
        rw [Array.mapM_eq_mapM_toList]
        simp only [Sem.run_map, hm, Result.andThen_ok]
        have e1 : (parts.map fun x => (x.1, a.eval x.2)).toList = (parts.toList.map (·.1)).zip (ys.map (S1.den r)) := by rw [Array.toList_map]; exact hev
        simp only [e1, List.getElem?_toArray]
        simp only [Array.toArray_toList] at hfill
        rw [hfill]
        simp [S1.den]
      · cases hx
    · cases hx
  · rename_i n e zz hu hzz
    split at hx
    · rename_i hi'
      simp only [Option.some.injEq, Prod.mk.injEq, XOp.build.injEq] at hx
      obtain ⟨⟨rfl, rfl⟩, rfl⟩ := hx
      obtain ⟨i, hi, hzi⟩ := Option.bind_eq_some_iff.1 hzz
      obtain ⟨ie, hie⟩ := Option.isSome_iff_exists.1 hi'
      have hfill := fill_den (r := r) (fun i => some (i * P.cellsOf e, P.cellsOf e)) hr (parts.toList.map (·.1)) _ ys _ cs ?hpl (oks_one ys hok) hf ?hlen
      case hlen =>
        have := congrArg List.length hv
        simp at this
        simp [this]
      case hpl => rw [List.map_map, List.map_map]; rfl
      rw [hz] at hfill
      have hev : (parts.map fun x => (x.1, a.eval x.2)).toList = (parts.toList.map (·.1)).zip (ys.map (S1.den r)) := by
        rw [Array.toList_map, ← hv, List.map_map, List.zip_map', List.map_congr_left]
        intro x _
        simp [xo_val]
      simp only [execOp, ho]
      refine run_val ?_
      simp only [Instr.build, Sem.run_bind, zeroValue, run_typeInfo' hi, hzi, Result.andThen_ok, Sem.run_pure, run_underlying hu, run_sizeOf' hie]
      rw [cellsOf_eq hie] at hfill
      simp only [hev]
      simp only [Array.toArray_toList] at hfill
      rw [hfill]
      simp [S1.den]
    · cases hx
  · cases hx

end
end Go.Sx
