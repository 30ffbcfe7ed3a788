/- A part of the proof of a statement about this seat: how a function is stepped through, and plain laws. No conditions. -/
import Derived.Test.YtgdglgcfmebonaaSx10
set_option linter.unusedVariables false
set_option linter.unusedSimpArgs false
namespace Go.Sx
open Go.RowKit

section
variable {P : Program} {base : World} {M : Scp} {r : Rho} {E : Nat → Option Ent} {w : World}

theorem map_headD {a : Act} {x : Operand} {ys : List S1} (h : [xo x].map (XO.val a) = ys.map (S1.den r)) : a.eval x = S1.den r (ys.headD (.a [])) := by
  obtain ⟨z, rfl, hz⟩ := map1 h
  rw [xo_val] at hz
  exact hz

theorem sound_mv {o : Oper} {a : Act} {x : Operand} {ys : List S1} {p : Prop} {z : S1} (ho : o.op = .move x ∨ o.op = .assign x)
    (hv : [xo x].map (XO.val a) = ys.map (S1.den r)) (hq : opQ E .mv ys = some (p, z)) : Yields P o a w (z.den r) := by
  obtain ⟨z1, rfl, hz⟩ := map1 hv
  rw [xo_val] at hz
  simp only [opQ, qMv, Option.some.injEq, Prod.mk.injEq] at hq
  obtain ⟨_, rfl⟩ := hq
  unfold Yields
  rcases ho with ho | ho <;> simp [execOp, ho, hz]

theorem sound_q {o : Oper} {a : Act} {xp : XOp} {xs : List XO} {ys : List S1} {p : Prop} {z : S1} (hE : HeapRel base M r E w) (hx : xop1 P o.op = some (xp, xs))
    (hv : xs.map (XO.val a) = ys.map (S1.den r)) (hq : opQ E xp ys = some (p, z)) (hp : p) : Yields P o a w (z.den r) := by
  have hx0 := hx
  generalize ho : o.op = oo at hx
  cases oo with
  | move x => simp only [xop1, Option.some.injEq, Prod.mk.injEq] at hx; obtain ⟨rfl, rfl⟩ := hx; exact sound_mv (.inl ho) hv hq
  | assign x => simp only [xop1, Option.some.injEq, Prod.mk.injEq] at hx; obtain ⟨rfl, rfl⟩ := hx; exact sound_mv (.inr ho) hv hq
  | pick c x y => simp only [xop1, Option.some.injEq, Prod.mk.injEq] at hx; obtain ⟨rfl, rfl⟩ := hx; simp [opQ] at hq
  | box t x => simp only [xop1, Option.some.injEq, Prod.mk.injEq] at hx; obtain ⟨rfl, rfl⟩ := hx; simp [opQ] at hq
  | alloc t => simp only [xop1] at hx; split at hx <;> simp only [Option.some.injEq, Prod.mk.injEq, reduceCtorEq] at hx; obtain ⟨rfl, rfl⟩ := hx; simp [opQ] at hq
  | load t x =>
    simp only [xop1] at hx
    split at hx
    · rename_i d hu
      split at hx
      · rename_i hd
        split at hx
        · rename_i i hi
          simp only [Option.some.injEq, Prod.mk.injEq] at hx; obtain ⟨rfl, rfl⟩ := hx
          exact sound_loadN hE ho hu hd hi (map_headD hv) hq hp
        · cases hx
      · rename_i hd
        simp only [Option.some.injEq, Prod.mk.injEq] at hx; obtain ⟨rfl, rfl⟩ := hx
        exact sound_load1 (xs := []) hE ho hu (by simpa using hd) (map_headD hv) hq hp
    · cases hx
  | store t x y => simp only [xop1] at hx; split at hx <;> simp only [Option.some.injEq, Prod.mk.injEq, reduceCtorEq] at hx; obtain ⟨rfl, rfl⟩ := hx; simp [opQ] at hq
  | fieldAddr s x f =>
    simp only [xop1] at hx
    split at hx
    · rename_i fs hs
      split at hx
      · rename_i fd hf
        split at hx
        · rename_i i hi
          split at hx
          · cases hx
          · rename_i h0
            simp only [Option.some.injEq, Prod.mk.injEq] at hx; obtain ⟨rfl, rfl⟩ := hx
            exact sound_fld ho hs hf hi h0 hv hq hp
        · cases hx
      · cases hx
    · cases hx
  | field s x f =>
    simp only [xop1] at hx
    split at hx
    · rename_i fs hs
      split at hx
      · rename_i fd hf
        split at hx
        · rename_i d hu
          split at hx
          · rename_i hd
            split at hx
            · rename_i i hi
              simp only [Option.some.injEq, Prod.mk.injEq] at hx; obtain ⟨rfl, rfl⟩ := hx
              exact sound_partN ho hs hf hu hd hi hv hq hp
            · cases hx
          · rename_i hd
            simp only [Option.some.injEq, Prod.mk.injEq] at hx; obtain ⟨rfl, rfl⟩ := hx
            exact sound_part1 ho hs hf hu (by simpa using hd) hv hq hp
        · cases hx
      · cases hx
    · cases hx
  | index t x i =>
    simp only [xop1] at hx
    split at hx
    · rename_i len e ht
      split at hx
      · rename_i d inf hu hi
        split at hx
        · rename_i hd
          simp only [Option.some.injEq, Prod.mk.injEq] at hx; obtain ⟨rfl, rfl⟩ := hx
          exact sound_ix ho ht hu hi hv (by rw [if_pos hd]; exact hq) hp
        · rename_i hd
          simp only [Option.some.injEq, Prod.mk.injEq] at hx; obtain ⟨rfl, rfl⟩ := hx
          exact sound_ix ho ht hu hi hv (by rw [if_neg hd]; exact hq) hp
      · cases hx
    · cases hx
  | indexAddr t x i =>
    simp only [xop1] at hx
    split at hx
    · rename_i len e ht
      split at hx
      · rename_i inf hi
        simp only [Option.some.injEq, Prod.mk.injEq] at hx; obtain ⟨rfl, rfl⟩ := hx
        exact sound_ixA ho ht hi hv hq hp
      · cases hx
    · rename_i e ht
      split at hx
      · rename_i inf hi
        simp only [Option.some.injEq, Prod.mk.injEq] at hx; obtain ⟨rfl, rfl⟩ := hx
        exact sound_ixS hE ho ht hi hv hq hp
      · cases hx
    · cases hx
  | build t parts =>
    have hb : ∃ z' pl, xp = .build z' pl := by
      simp only [xop1] at hx
      repeat' split at hx
      all_goals first | (cases hx; done) | (simp only [Option.some.injEq, Prod.mk.injEq] at hx; exact ⟨_, _, hx.1.symm⟩)
    obtain ⟨z', pl, rfl⟩ := hb
    exact sound_build ho hx0 hv hq hp hE.one
  | binOp op t x y ty =>
    simp only [xop1] at hx
    split at hx
    · simp only [Option.some.injEq, Prod.mk.injEq] at hx; obtain ⟨rfl, rfl⟩ := hx
      exact sound_bin ho hv hq hp
    · rename_i hu
      simp only [Option.some.injEq, Prod.mk.injEq] at hx; obtain ⟨rfl, rfl⟩ := hx
      exact sound_binb ho hu hv hq hp
    · split at hx <;> first | (cases hx; done) | (simp only [Option.some.injEq, Prod.mk.injEq] at hx; obtain ⟨rfl, rfl⟩ := hx; simp [opQ] at hq)
    · rename_i fs hu
      split at hx
      · rename_i ks hk
        split at hx
        · cases hx
        · rename_i hg
          split at hx
          · simp only [Option.some.injEq, Prod.mk.injEq] at hx; obtain ⟨rfl, rfl⟩ := hx
            exact sound_eqA ho (.inl ⟨rfl, rfl⟩) hu hk (by simpa using hg) hv hq hp
          · simp only [Option.some.injEq, Prod.mk.injEq] at hx; obtain ⟨rfl, rfl⟩ := hx
            exact sound_eqA ho (.inr ⟨rfl, rfl⟩) hu hk (by simpa using hg) hv hq hp
          · cases hx
      · cases hx
    · cases hx
  | unOp op t x => simp only [xop1, Option.some.injEq, Prod.mk.injEq] at hx; obtain ⟨rfl, rfl⟩ := hx; exact sound_un ho hv hq hp
  | convert s t x =>
    simp only [xop1] at hx
    split at hx
    · rename_i k' k hs ht
      simp only [Option.some.injEq, Prod.mk.injEq] at hx; obtain ⟨rfl, rfl⟩ := hx
      exact sound_conv ho hs ht hv hq hp
    · cases hx
  | extract x i => simp only [xop1, Option.some.injEq, Prod.mk.injEq] at hx; obtain ⟨rfl, rfl⟩ := hx; simp [opQ] at hq
  | nilCheck x => simp only [xop1, Option.some.injEq, Prod.mk.injEq] at hx; obtain ⟨rfl, rfl⟩ := hx; exact sound_nilc ho hv hq hp
  | call c =>
    simp only [xop1] at hx
    split at hx
    · rename_i f hc
      split at hx
      · split at hx
        · simp only [Option.some.injEq, Prod.mk.injEq] at hx; obtain ⟨rfl, rfl⟩ := hx; simp [opQ] at hq
        · cases hx
      · cases hx
    · simp only [Option.some.injEq, Prod.mk.injEq] at hx; obtain ⟨rfl, rfl⟩ := hx; simp [opQ] at hq
    · rename_i hc
      simp only [Option.some.injEq, Prod.mk.injEq] at hx; obtain ⟨rfl, rfl⟩ := hx
      exact sound_min ho hc hv hq hp
    · rename_i hc
      simp only [Option.some.injEq, Prod.mk.injEq] at hx; obtain ⟨rfl, rfl⟩ := hx
      exact sound_max ho hc hv hq hp
    · rename_i hc
      split at hx
      · rename_i t x ht hxx
        split at hx
        · rename_i e hu
          simp only [Option.some.injEq, Prod.mk.injEq] at hx; obtain ⟨rfl, rfl⟩ := hx
          exact sound_len hE ho hc ht hxx hu hv hq hp
        · cases hx
      · cases hx
    · repeat' split at hx
      all_goals first | (cases hx; done) | (simp only [Option.some.injEq, Prod.mk.injEq] at hx; obtain ⟨rfl, rfl⟩ := hx; simp [opQ] at hq)
    · cases hx
  | buildSlice t len parts =>
    simp only [xop1] at hx
    repeat' split at hx
    all_goals first | (cases hx; done) | (simp only [Option.some.injEq, Prod.mk.injEq] at hx; obtain ⟨rfl, rfl⟩ := hx; simp [opQ] at hq)
  | makeSlice t l c =>
    simp only [xop1] at hx
    repeat' split at hx
    all_goals first | (cases hx; done) | (simp only [Option.some.injEq, Prod.mk.injEq] at hx; obtain ⟨rfl, rfl⟩ := hx; simp [opQ] at hq)
  | slice t x lo hi mx =>
    simp only [xop1] at hx
    repeat' split at hx
    all_goals first | (cases hx; done) | (simp only [Option.some.injEq, Prod.mk.injEq] at hx; obtain ⟨rfl, rfl⟩ := hx; simp [opQ] at hq)
  | panic x => simp only [xop1, Option.some.injEq, Prod.mk.injEq] at hx; obtain ⟨rfl, rfl⟩ := hx; simp [opQ] at hq
  | makeInterface t x => simp only [xop1, Option.some.injEq, Prod.mk.injEq] at hx; obtain ⟨rfl, rfl⟩ := hx; simp [opQ] at hq
  | _ => simp [xop1] at hx

end
end Go.Sx
