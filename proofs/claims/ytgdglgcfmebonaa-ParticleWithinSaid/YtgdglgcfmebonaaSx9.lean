/- A part of the proof of a statement about this seat: how a function is stepped through, and plain laws. No conditions. -/
import Derived.Test.YtgdglgcfmebonaaSx8
set_option linter.unusedVariables false
set_option linter.unusedSimpArgs false
namespace Go.Sx
open Go.RowKit

section
variable {P : Program} {base : World} {M : Scp} {r : Rho} {E : Nat → Option Ent} {w : World}

theorem eqGuard_int (op : BinOp) (t : TypeId) (x y : Operand) (k : IntKind) (n : Int) (b : Value) : (eqGuard op t x y (.int k n) b).run P w = .ok () w := by
  cases op <;> rfl
theorem eqGuard_bool (op : BinOp) (t : TypeId) (x y : Operand) (n : Bool) (b : Value) : (eqGuard op t x y (.bool n) b).run P w = .ok () w := by
  cases op <;> rfl

theorem binI_run {op : BinOp} {k k' : IntKind} {x y : Int} {t : TypeId} {p : Prop} {v : Value} (hk : isShift op = true ∨ k = k') (h : binI op k x y = some (p, v)) (hp : p) :
    (binOp op t (.int k x) (.int k' y)).run P w = .ok v w := by
  cases op <;> simp only [isShift, Bool.false_eq_true, false_or, true_or] at hk <;> simp only [binI, Option.some.injEq, Prod.mk.injEq] at h
  all_goals obtain ⟨rfl, rfl⟩ := h
  all_goals try subst hk
  all_goals simp only [binOp, ne_eq, not_true_eq_false, if_false, Op.intArith, Op.intDiv, Op.intCmp, Op.intBits, Op.shift, bitI, Sem.run_pure, gt_iff_lt, ge_iff_le]
  case quo => rw [if_neg hp]; rfl
  case rem => rw [if_neg hp]; rfl
  case shl => rw [if_neg (by omega)]; rfl
  case shr => rw [if_neg (by omega)]; rfl

theorem bool_inv {z : S1} : (∃ b, z = .c (.v (.bool b))) ∨ (∀ b, z ≠ .c (.v (.bool b))) := by
  rcases z with ((bb | _ | _ | _ | _ | _ | _ | _ | _ | _ | _ | _ | _ | _ | _ | _) | _ | _ | _) | _
  all_goals first | (exact .inl ⟨_, rfl⟩) | (refine .inr ?_; intro b h; cases h)

theorem sound_bin {o : Oper} {a : Act} {op : BinOp} {t ty : TypeId} {x y : Operand} {ys : List S1} {p : Prop} {z : S1}
    (ho : o.op = .binOp op t x y ty)
    (hv : [xo x, xo y].map (XO.val a) = ys.map (S1.den r)) (hq : opQ E (.bin op) ys = some (p, z)) (hp : p) : Yields P o a w (z.den r) := by
  obtain ⟨z1, z2, rfl, hz, hz'⟩ := map2 hv
  rw [xo_val] at hz hz'
  unfold Yields
  simp only [execOp, ho, hz, hz']
  refine run_val ?_
  rcases int_inv (z := z1) with ⟨k, n, rfl⟩ | h1
  · rcases int_inv (z := z2) with ⟨k', n', rfl⟩ | h2
    · simp only [opQ, qBin] at hq
      split at hq
      · rename_i hk
        split at hq
        · rename_i p' v hb
          cases hq
          simp only [Sem.run_bind, S1.den, SC.den]
          rw [eqGuard_int]
          exact binI_run hk hb hp
        · cases hq
      · cases hq
    · exfalso
      simp only [opQ] at hq
      unfold qBin at hq
      split at hq
      · rename_i heq; cases heq; exact h2 _ _ rfl
      · cases hq
  · exfalso
    simp only [opQ] at hq
    unfold qBin at hq
    split at hq
    · rename_i heq; cases heq; exact h1 _ _ rfl
    · cases hq

theorem sound_binb {o : Oper} {a : Act} {op : BinOp} {t ty : TypeId} {x y : Operand} {ys : List S1} {p : Prop} {z : S1}
    (ho : o.op = .binOp op t x y ty) (hu : P.underlying t = some .bool)
    (hv : [xo x, xo y].map (XO.val a) = ys.map (S1.den r)) (hq : opQ E (.binb op) ys = some (p, z)) (hp : p) : Yields P o a w (z.den r) := by
  obtain ⟨z1, z2, rfl, hz, hz'⟩ := map2 hv
  rw [xo_val] at hz hz'
  unfold Yields
  simp only [execOp, ho, hz, hz']
  refine run_val ?_
  simp only [opQ] at hq
  unfold qBinb at hq
  split at hq
  · rename_i heq
    cases heq
    split at hq <;> first | (cases hq; done) | skip
    all_goals
      cases hq
      simp only [Sem.run_bind, S1.den, SC.den]
      rw [eqGuard_bool]
      simp [binOp, Op.equal, Op.maxDepth, run_equalIn_bool' w 9999 t _ _ hu]
  · cases hq

theorem sound_un {o : Oper} {a : Act} {op : UnOp} {t : TypeId} {x : Operand} {ys : List S1} {p : Prop} {z : S1}
    (ho : o.op = .unOp op t x) (hv : [xo x].map (XO.val a) = ys.map (S1.den r)) (hq : opQ E (.un op) ys = some (p, z)) (hp : p) : Yields P o a w (z.den r) := by
  obtain ⟨z1, rfl, hz⟩ := map1 hv
  rw [xo_val] at hz
  unfold Yields
  simp only [execOp, ho, hz]
  refine run_val ?_
  simp only [opQ] at hq
  unfold qUn at hq
  split at hq
  · rename_i heq
    cases heq
    split at hq <;> cases hq
    rfl
  · rename_i heq
    cases heq
    split at hq <;> cases hq
    rfl
  · cases hq

theorem sound_conv {o : Oper} {a : Act} {s t : TypeId} {k k' : IntKind} {x : Operand} {ys : List S1} {p : Prop} {z : S1}
    (ho : o.op = .convert s t x) (hs : P.underlying s = some (.int k')) (ht : P.underlying t = some (.int k))
    (hv : [xo x].map (XO.val a) = ys.map (S1.den r)) (hq : opQ E (.conv k) ys = some (p, z)) (hp : p) : Yields P o a w (z.den r) := by
  obtain ⟨z1, rfl, hz⟩ := map1 hv
  rw [xo_val] at hz
  unfold Yields
  simp only [execOp, ho, hz]
  refine run_val ?_
  rcases int_inv (z := z1) with ⟨k1, n, rfl⟩ | h1
  · simp only [opQ, qConv] at hq
    cases hq
    simp only [convert, Sem.run_bind, run_underlying hs, run_underlying ht, Result.andThen_ok, S1.den, SC.den]
    rfl
  · exfalso
    simp only [opQ] at hq
    unfold qConv at hq
    split at hq
    · rename_i heq; cases heq; exact h1 _ _ rfl
    · cases hq

theorem sound_nilc {o : Oper} {a : Act} {x : Operand} {ys : List S1} {p : Prop} {z : S1}
    (ho : o.op = .nilCheck x) (hv : [xo x].map (XO.val a) = ys.map (S1.den r)) (hq : opQ E .nilc ys = some (p, z)) (hp : p) : Yields P o a w (z.den r) := by
  obtain ⟨z1, rfl, hz⟩ := map1 hv
  rw [xo_val] at hz
  unfold Yields
  simp only [execOp, ho, hz]
  simp only [opQ] at hq
  unfold qNil at hq
  split at hq <;> first | cases hq | skip
  all_goals (rename_i heq; try cases heq)
  all_goals rfl

end
end Go.Sx
