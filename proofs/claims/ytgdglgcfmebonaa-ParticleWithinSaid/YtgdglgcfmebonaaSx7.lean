/- A part of the proof of a statement about this seat: how a function is stepped through, and plain laws. No conditions. -/
import Derived.Test.YtgdglgcfmebonaaSx6
set_option linter.unusedVariables false
set_option linter.unusedSimpArgs false
namespace Go.Sx
open Go.RowKit

section
variable {P : Program} {base : World} {M : Scp} {r : Rho} {E : Nat → Option Ent} {w : World}

theorem sound_fld {o : Oper} {a : Act} {s : TypeId} {x : Operand} {f : Nat} {fs : Array Field} {fd : Field} {i : TypeInfo} {ys : List S1} {p : Prop} {y : S1}
    (ho : o.op = .fieldAddr s x f) (hs : P.underlying s = some (.struct fs)) (hf : fs[f]? = some fd) (hi : P.info? fd.type = some i) (h0 : i.size ≠ 0)
    (hv : [xo x].map (XO.val a) = ys.map (S1.den r)) (hq : opQ E (.fld fd.offset) ys = some (p, y)) (hp : p) : Yields P o a w (y.den r) := by
  obtain ⟨z, rfl, hz⟩ := map1 hv
  rw [xo_val] at hz
  unfold Yields
  simp only [execOp, ho, hz]
  refine run_val ?_
  have key : ∀ (b off : Nat), (Instr.fieldAt s (.pointer (some ⟨b, off, none⟩)) f).run P w = .ok (.pointer (some ⟨b, off + fd.offset, none⟩)) w := by
    intro b off
    simp only [Instr.fieldAt, Sem.run_bind, run_underlying hs, Result.andThen_ok, hf, Instr.sureAddr, Sem.run_pure, fieldPlace, run_sizeOf' hi, if_neg h0, Addr.add_plain]
  rcases z with (_ | ⟨k, j⟩ | _ | ⟨k, sz, e, j⟩) | _
  all_goals simp only [opQ, qFld, qPart1, qPartN] at hq
  all_goals first | cases hq | skip
  · simp only [S1.den, SC.den, key, Nat.add_assoc]
  · simp only [S1.den, SC.den, key, Nat.add_assoc]

theorem run_part1 {t : TypeId} {d : TypeDesc} {cs : Array Value} {off : Nat} {v : Value} (hu : P.underlying t = some d) (hd : isAggD d = false) (hc : cs[off]? = some v) : (part t cs off).run P w = .ok v w := by
  simp [part, run_isAgg' hu, hd, hc]
theorem run_partN {t : TypeId} {d : TypeDesc} {i : TypeInfo} {cs : Array Value} {off : Nat} (hu : P.underlying t = some d) (hd : isAggD d = true) (hi : P.info? t = some i) :
    (part t cs off).run P w = .ok (.agg (cs.extract off (off + i.size))) w := by
  simp [part, run_isAgg' hu, hd, run_sizeOf' hi]

theorem extract_takeAt (cs : List SC) (off n : Nat) : (cs.map (SC.den r)).toArray.extract off (off + n) = ((takeAt cs off n).map (SC.den r)).toArray := by
  rw [takeAt_eq]
  simp [List.extract_toArray, List.extract_eq_take_drop, List.map_drop, List.map_take]

theorem sound_part1 {o : Oper} {a : Act} {s : TypeId} {x : Operand} {f : Nat} {fs : Array Field} {fd : Field} {d : TypeDesc} {ys : List S1} {p : Prop} {y : S1}
    (ho : o.op = .field s x f) (hs : P.underlying s = some (.struct fs)) (hf : fs[f]? = some fd) (hu : P.underlying fd.type = some d) (hd : isAggD d = false)
    (hv : [xo x].map (XO.val a) = ys.map (S1.den r)) (hq : opQ E (.part1 fd.offset) ys = some (p, y)) (hp : p) : Yields P o a w (y.den r) := by
  obtain ⟨z, rfl, hz⟩ := map1 hv
  rw [xo_val] at hz
  unfold Yields
  simp only [execOp, ho, hz]
  refine run_val ?_
  cases z with
  | c z => simp [opQ, qPart1, qPartN] at hq
  | a cs =>
    simp only [opQ, qFld, qPart1, qPartN] at hq
    split at hq
    · rename_i x' hx'
      cases hq
      rw [nth_eq] at hx'
      simp only [Instr.field, Sem.run_bind, run_underlying hs, Result.andThen_ok, hf, S1.den, asAgg, Sem.run_pure]
      exact run_part1 hu hd (by simp [hx'])
    · cases hq

theorem sound_partN {o : Oper} {a : Act} {s : TypeId} {x : Operand} {f : Nat} {fs : Array Field} {fd : Field} {d : TypeDesc} {i : TypeInfo} {ys : List S1} {p : Prop} {y : S1}
    (ho : o.op = .field s x f) (hs : P.underlying s = some (.struct fs)) (hf : fs[f]? = some fd) (hu : P.underlying fd.type = some d) (hd : isAggD d = true) (hi : P.info? fd.type = some i)
    (hv : [xo x].map (XO.val a) = ys.map (S1.den r)) (hq : opQ E (.partN fd.offset i.size) ys = some (p, y)) (hp : p) : Yields P o a w (y.den r) := by
  obtain ⟨z, rfl, hz⟩ := map1 hv
  rw [xo_val] at hz
  unfold Yields
  simp only [execOp, ho, hz]
  refine run_val ?_
  cases z with
  | c z => simp [opQ, qPart1, qPartN] at hq
  | a cs =>
    simp only [opQ, qFld, qPart1, qPartN] at hq
    cases hq
    simp only [Instr.field, Sem.run_bind, run_underlying hs, Result.andThen_ok, hf, S1.den, asAgg, Sem.run_pure]
    rw [run_partN hu hd hi, extract_takeAt]

theorem sound_ix {o : Oper} {a : Act} {t : TypeId} {x ix : Operand} {len : Nat} {e : TypeId} {d : TypeDesc} {i : TypeInfo} {ys : List S1} {p : Prop} {y : S1}
    (ho : o.op = .index t x ix) (ht : P.underlying t = some (.array len e)) (hu : P.underlying e = some d) (hi : P.info? e = some i)
    (hv : [xo x, xo ix].map (XO.val a) = ys.map (S1.den r)) (hq : opQ E (if isAggD d then .ixN len i.size else .ix1 len i.size) ys = some (p, y)) (hp : p) : Yields P o a w (y.den r) := by
  obtain ⟨z, z', rfl, hz, hz'⟩ := map2 hv
  rw [xo_val] at hz hz'
  unfold Yields
  simp only [execOp, ho, hz, hz']
  refine run_val ?_
  rcases z' with ((_ | _ | _ | ⟨kk, n⟩ | _ | _ | _ | _ | _ | _ | _ | _ | _ | _ | _ | _ | _) | _ | _ | _) | _
  all_goals first
    | (exfalso; cases hd : isAggD d <;> cases z <;> simp [opQ, qIx1, qIxN, hd] at hq; done)
    | skip
  cases z with
  | c z => exfalso; cases hd : isAggD d <;> simp [opQ, qIx1, qIxN, hd] at hq
  | a cs =>
    cases hd : isAggD d with
    | true =>
      simp only [hd, if_true, opQ, qIxN] at hq
      cases hq
      obtain ⟨h1, h2, h3⟩ := hp
      simp only [Instr.index, S1.den, SC.den, asIntOf, Sem.run_bind, Sem.run_pure, Result.andThen_ok, run_underlying ht, run_sizeOf' hi, if_pos (And.intro h1 h2)]
      rw [run_partN hu hd hi, extract_takeAt]
    | false =>
      simp only [hd, Bool.false_eq_true, if_false, opQ, qIx1] at hq
      split at hq
      · rename_i x' hx'
        cases hq
        rw [nth_eq] at hx'
        simp only [Instr.index, S1.den, SC.den, asIntOf, Sem.run_bind, Sem.run_pure, Result.andThen_ok, run_underlying ht, run_sizeOf' hi, if_pos hp]
        exact run_part1 hu hd (by simp [hx', SC.den])
      · cases hq

end
end Go.Sx
