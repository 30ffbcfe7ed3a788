/- A part of the proof of a statement about this seat: how a function is stepped through, and plain laws. No conditions. -/
import Derived.Test.YtgdglgcfmebonaaSx7
set_option linter.unusedVariables false
set_option linter.unusedSimpArgs false
namespace Go.Sx
open Go.RowKit

section
variable {P : Program} {base : World} {M : Scp} {r : Rho} {E : Nat → Option Ent} {w : World}

/-- What is an integer among the symbolic values. -/
theorem int_inv {z : S1} : (∃ k n, z = .c (.v (.int k n))) ∨ (∀ k n, z ≠ .c (.v (.int k n))) := by
  rcases z with ((_ | _ | _ | ⟨kk, n⟩ | _ | _ | _ | _ | _ | _ | _ | _ | _ | _ | _ | _ | _) | _ | _ | _) | _
  all_goals first | (exact .inl ⟨_, _, rfl⟩) | (refine .inr ?_; intro k n h; cases h)

theorem sound_ixA {o : Oper} {a : Act} {t : TypeId} {x ix : Operand} {len : Nat} {e : TypeId} {i : TypeInfo} {ys : List S1} {p : Prop} {y : S1}
    (ho : o.op = .indexAddr t x ix) (ht : P.underlying t = some (.array len e)) (hi : P.info? e = some i)
    (hv : [xo x, xo ix].map (XO.val a) = ys.map (S1.den r)) (hq : opQ E (.ixA len i.size) ys = some (p, y)) (hp : p) : Yields P o a w (y.den r) := by
  obtain ⟨z, z', rfl, hz, hz'⟩ := map2 hv
  rw [xo_val] at hz hz'
  unfold Yields
  simp only [execOp, ho, hz, hz']
  refine run_val ?_
  rcases z with (_ | ⟨k, j⟩ | _ | _) | _
  all_goals rcases int_inv (z := z') with ⟨kk, n, rfl⟩ | hn
  all_goals first | (exfalso; simp [opQ, qIxA] at hq; done) | (exfalso; simp only [opQ] at hq; unfold qIxA at hq; split at hq <;> first | (cases hq; done) | simp_all; done) | skip
  simp only [opQ, qIxA] at hq
  cases hq
  simp only [Instr.indexAt, S1.den, SC.den, asIntOf, Sem.run_bind, Sem.run_pure, Result.andThen_ok, run_underlying ht, run_sizeOf' hi, Instr.sureAddr, if_pos hp, Addr.add_plain, Nat.add_assoc]

theorem sound_ixS {o : Oper} {a : Act} {t : TypeId} {x ix : Operand} {e : TypeId} {i : TypeInfo} {ys : List S1} {p : Prop} {y : S1} (hE : HeapRel base M r E w)
    (ho : o.op = .indexAddr t x ix) (ht : P.underlying t = some (.slice e)) (hi : P.info? e = some i)
    (hv : [xo x, xo ix].map (XO.val a) = ys.map (S1.den r)) (hq : opQ E (.ixS i.size) ys = some (p, y)) (hp : p) : Yields P o a w (y.den r) := by
  obtain ⟨z, z', rfl, hz, hz'⟩ := map2 hv
  rw [xo_val] at hz hz'
  unfold Yields
  simp only [execOp, ho, hz, hz']
  refine run_val ?_
  rcases z with (_ | _ | k | _) | _
  all_goals rcases int_inv (z := z') with ⟨kk, n, rfl⟩ | hn
  all_goals first | (exfalso; simp [opQ, qIxS] at hq; done) | (exfalso; simp only [opQ] at hq; unfold qIxS at hq; split at hq <;> first | (cases hq; done) | simp_all; done) | skip
  simp only [opQ, qIxS] at hq
  split at hq
  · rename_i m sz' f hb
    cases hq
    obtain ⟨hs, h0, h1⟩ := hp
    obtain ⟨ad, cap, hrv, _, hr1⟩ := row_val hE hb
    have hm : 0 < m := by omega
    obtain ⟨b, of, rfl, _⟩ := hr1 hm
    simp only [S1.den, SC.den, hrv, Instr.indexAt, asIntOf, Sem.run_bind, Sem.run_pure, Result.andThen_ok, run_underlying ht, addrOf, Nat.add_zero]
    rw [if_pos ⟨h0, h1⟩]
    simp only [Sem.run_bind, run_sizeOf' hi, Result.andThen_ok, Sem.run_pure, Addr.add_plain]
  · cases hq

end
end Go.Sx
