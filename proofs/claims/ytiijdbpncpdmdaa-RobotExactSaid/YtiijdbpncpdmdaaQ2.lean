/- A part of the proof of a statement about this seat: how a function is stepped through, and plain laws. No conditions. -/
import Derived.Test.YtiijdbpncpdmdaaRows
import Derived.Test.YtiijdbpncpdmdaaSz3
import Derived.Test.YtiijdbpncpdmdaaQ1
import Derived.KernelRfl
set_option linter.unusedVariables false
set_option linter.unusedSimpArgs false
set_option maxRecDepth 20000
namespace Go.Proofs.Ytiijdbpncpdmdaa
open Go.Sx
def x65 : XFn := ⟨9, (.seq (.reg false [K1 2 .mv (.bool false)]) (.seq (.reg false [O1 3 .mv 0, K2 4 (.bin .geq) 3 (iV 1), O1 5 .mv 4, G1 6 .mv 0 5 true, GK 7 (.bin .leq) 6 (iV 64) 5 true, ⟨(some 8), .pick, [(.t 5), (.t 7), (.k (.bool false))], none⟩, O1 2 .mv 8]) .ret)), [(.s 2)]⟩
theorem x65_ok : xfn Try.prog Try.f65 = some x65.er := by kernel_rfl
def x66L0 : XC := (.seq (.seq (.reg false [O1 12 .mv 4, O1 13 .mv 0, O1 14 .lenS 13, O2 15 (.bin .lss) 12 14]) (.cond (.t 15) .skip (.exit 0))) (.seq (.block 1 (.reg false [O1 18 .mv 3, O1 19 .mv 0, O1 20 .mv 4, O2 21 (.ixS 1) 19 20, O1 22 .load1 21, O2 23 .maxI 18 22, O1 3 .mv 23])) (.reg false [O1 16 .mv 4, K2 17 (.bin .add) 16 (iV 1), O1 4 .mv 17])))
def x66 : XFn := ⟨25, (.seq (.reg false [K1 2 .mv (.int .u8 0)]) (.seq (.seq (.reg false [O1 5 .mv 0, O1 6 .lenS 5, K2 7 (.bin .lss) 6 (iV 1)]) (.cond (.t 7) (.reg false [⟨(some 8), .other, [], none⟩, ⟨none, .other, [], none⟩]) .skip)) (.seq (.reg false [O1 9 .mv 0, K2 10 (.ixS 1) 9 (iV 0), O1 11 .load1 10, O1 3 .mv 11]) (.seq (.seq (.reg false [K1 4 .mv (iV 1)]) (.block 0 (.loop x66L0))) (.seq (.reg false [O1 24 .mv 3, O1 2 .mv 24]) .ret))))), [(.s 2)]⟩
theorem x66_ok : xfn Try.prog Try.f66 = some x66.er := by kernel_rfl
def x40 : XFn := ⟨34, (.seq (.reg false [O1 1 (.box 24) 0, K1 2 .mv (.bool false)]) (.seq (.seq (.reg false [O1 3 (.fld 0) 1, O1 4 .load1 3, O1 5 (.call 65) 4, O1 6 (.un .not) 5, O1 7 .mv 6, G1 8 (.fld 1) 1 7 false, G1 9 .load1 8 7 false, G1 10 (.call 65) 9 7 false, G1 11 (.un .not) 10 7 false, ⟨(some 12), .pick, [(.t 7), (.k (.bool true)), (.t 11)], none⟩, O1 13 .mv 12, G1 14 (.fld 2) 1 13 false, G1 15 .load1 14 13 false, G1 16 .lenS 15 13 false, G1 17 (.fld 0) 1 13 false, G1 18 .load1 17 13 false, G1 19 (.fld 1) 1 13 false, G1 20 .load1 19 13 false, G2 21 (.bin .mul) 18 20 13 false, G2 22 (.bin .neq) 16 21 13 false, ⟨(some 23), .pick, [(.t 13), (.k (.bool true)), (.t 22)], none⟩]) (.cond (.t 23) (.seq (.reg false [K1 2 .mv (.bool false)]) .ret) .skip)) (.seq (.reg false [O1 24 (.fld 2) 1, O1 25 .load1 24, O1 26 .lenS 25, K2 27 (.bin .eql) 26 (iV 0), O1 28 .mv 27, G1 29 (.fld 2) 1 28 false, G1 30 .load1 29 28 false, G1 31 (.call 66) 30 28 false, GK 32 (.bin .leq) 31 (.int .u8 2) 28 false, ⟨(some 33), .pick, [(.t 28), (.k (.bool true)), (.t 32)], none⟩, O1 2 .mv 33]) .ret))), [(.s 2)]⟩
theorem x40_ok : xfn Try.prog Try.f40 = some x40.er := by kernel_rfl
/-- The greatest of the first numbers. -/
def maxK (L : List Int) : Nat → Int
  | 0 => L.getD 0 eU8.dflt
  | k + 1 => max (maxK L k) (L.getD k eU8.dflt)
theorem maxK_le {L : List Int} {m : Int} : ∀ {k : Nat}, 1 ≤ k → k ≤ L.length → (maxK L k ≤ m ↔ ∀ i, i < k → L.getD i eU8.dflt ≤ m)
  | 1, _, h => by
    simp only [maxK]
    constructor
    · intro h1 i hi; obtain rfl : i = 0 := by omega
      omega
    · intro h1; have := h1 0 (by omega); omega
  | k + 2, _, h => by
    have ih := maxK_le (L := L) (m := m) (k := k + 1) (by omega) (by omega)
    have e : maxK L (k + 2) = max (maxK L (k + 1)) (L.getD (k + 1) eU8.dflt) := rfl
    rw [e]
    constructor
    · intro h1 i hi
      by_cases hik : i = k + 1
      · subst hik; omega
      · exact ih.1 (by omega) i (by omega)
    · intro h1
      have := ih.2 (fun i hi => h1 i (by omega))
      have := h1 (k + 1) (by omega)
      omega
theorem getD_all {L : List Int} {p : Int → Prop} (d : Int) : (∀ i, i < L.length → p (L.getD i d)) ↔ ∀ x ∈ L, p x := by
  constructor
  · intro h x hx
    obtain ⟨i, hi, rfl⟩ := List.getElem_of_mem hx
    have := h i hi
    rwa [List.getD_eq_getElem?_getD, List.getElem?_eq_getElem hi] at this
  · intro h i hi
    rw [List.getD_eq_getElem?_getD, List.getElem?_eq_getElem hi]
    exact h _ (List.getElem_mem hi)
/-- A plan is valid. -/
def planB (W H : Int) (L : List Int) : Bool := decide ((1 ≤ W ∧ W ≤ 64) ∧ (1 ≤ H ∧ H ≤ 64) ∧ (L.length : Int) = W * H) && decide (∀ x ∈ L, x ≤ 2)
def sizeB (n : Int) : Bool := decide (1 ≤ n ∧ n ≤ 64)
def u8s (L : List Int) : Prop := ∀ x ∈ L, 0 ≤ x ∧ x ≤ 255
theorem mulWH {W H : Int} (h1 : 1 ≤ W ∧ W ≤ 64) (h2 : 1 ≤ H ∧ H ≤ 64) : 1 ≤ W * H ∧ W * H ≤ 4096 := by
  have e1 : 1 * 1 ≤ W * H := Int.mul_le_mul h1.1 h2.1 (by omega) (by omega)
  have e2 : W * H ≤ 64 * 64 := Int.mul_le_mul h1.2 h2.2 (by omega) (by omega)
  omega
def newE (w h v : Int) : Int := if sizeB w = false ∨ sizeB h = false then 2 else if 2 < v then 1 else 0
def newL (w h v : Int) : List Int := if newE w h v = 0 then List.replicate (w * h).toNat v else []
def mE (e n : Int) : Int := if e = 0 then n else 0
/-- wayfinder/plan.size -/
def g65 : Con := fun args_ E_ nn_ => match args_ with
  | [.c (.v (.int .i64 n))] => some (.q (True) (.o (.c (.v (.bool (sizeB n))))))
  | _ => none
theorem c65 : COk Try.prog 65 g65 := by
  refine cok_q Try.func65 x65_ok (by kernel_rfl) (cok_tab cok_nil) ?_
  intro args_ E_ nn_ cr_ hg_
  unfold g65 at hg_
  split at hg_
  · rename_i n
    cases hg_
    refine ⟨_, _, rfl, 0, [], [.c (.v (.int .i64 n))], [], .o (.c (.v (.bool (sizeB n)))), rfl, rfl, by simp only [push_cast, Nat.reduceLT, Nat.reduceAdd], by simp only [push_cast, Nat.reduceLT, Nat.reduceAdd], by simp only [push_cast, Nat.reduceLT, Nat.reduceAdd], rfl, trivial, rfl, ?_⟩
    intro hpre hlen
    refine ⟨trivial, ?_⟩
    simp (config := {maxSteps := 10000000}) only [x65, push_cast, Nat.reduceAdd, Nat.reduceSub, Nat.reduceLeDiff, Nat.reduceEqDiff, Nat.reduceBEq, Nat.reduceMul, Nat.reduceLT, ↓reduceIte, reduceCtorEq, Int.reduceLE, Int.reduceLT, Int.reduceEq, Int.reduceMul, Int.reduceAdd, Int.reduceSub, Int.reduceNeg, Int.reduceToNat, Int.reduceNe]
    rw [Bool.eq_iff_iff]
    simp [sizeB]
    try omega
  · cases hg_
/-- slices.Max[[]byte,byte] -/
def g66 : Con := fun args_ E_ nn_ => match args_ with
  | [.c (.n x)] => (match rowOf E_ x with
    | some (x_n, x_s, x_f) => some (.q (isRow eU8 x_n x_s x_f ∧ 0 < ((decL eU8 x_n x_f)).length ∧ ((decL eU8 x_n x_f)).length ≤ 281474976709) (.o (.c (.v (.int .u8 (maxK (decL eU8 x_n x_f) ((decL eU8 x_n x_f)).length))))))
    | none => none)
  | _ => none
theorem c66 : COk Try.prog 66 g66 := by
  refine cok_q Try.func66 x66_ok (by kernel_rfl) (cok_tab cok_nil) ?_
  intro args_ E_ nn_ cr_ hg_
  unfold g66 at hg_
  split at hg_
  · rename_i x
    split at hg_
    · rename_i x_n x_s x_f h_x
      cases hg_
      refine ⟨_, _, rfl, 1, [x], [.c (.n 0)], [(0, .ro (decL eU8 x_n x_f).length eU8.sz (rowF eU8 (decL eU8 x_n x_f)))], .o (.c (.v (.int .u8 (maxK (decL eU8 x_n x_f) ((decL eU8 x_n x_f)).length)))), rfl, rfl, by simp only [push_cast, Nat.reduceLT, Nat.reduceAdd], by simp only [push_cast, Nat.reduceLT, Nat.reduceAdd], by simp only [push_cast, Nat.reduceLT, Nat.reduceAdd], rfl, ⟨inE0_row h_x, trivial⟩, rfl, ?_⟩
      intro hpre hlen
      obtain ⟨i_x, hpre⟩ := hpre
      refine ⟨⟨inE_row h_x i_x, trivial⟩, ?_⟩
      have z_x := lens_row (E := eU8) hlen h_x
      clear i_x
      generalize decL eU8 x_n x_f = xL at *
      clear h_x
      simp (config := {maxSteps := 10000000}) only [x66, push_cast, Nat.reduceAdd, Nat.reduceSub, Nat.reduceLeDiff, Nat.reduceEqDiff, Nat.reduceBEq, Nat.reduceMul, Nat.reduceLT, ↓reduceIte, reduceCtorEq, Int.reduceLE, Int.reduceLT, Int.reduceEq, Int.reduceMul, Int.reduceAdd, Int.reduceSub, Int.reduceNeg, Int.reduceToNat, Int.reduceNe]
      refine ⟨by omega, fun _ => ⟨by omega, by omega, ?_⟩⟩
      refine vcLoop_upd (α := {k : Nat // 1 ≤ k ∧ k ≤ xL.length}) [0] 0 (fun s => [(3, .o (.c (.v (.int .u8 (maxK xL s.1))))), (4, .o (.c (.v (.int .i64 (s.1 : Nat)))))]) (fun s => []) (fun s => xL.length - s.1) ⟨1, by omega, by omega⟩ ?_ ?_
      · simp only [push_cast, Nat.reduceAdd, Nat.reduceSub, Nat.reduceLeDiff, Nat.reduceEqDiff, Nat.reduceBEq, Nat.reduceMul, Nat.reduceLT, ↓reduceIte, reduceCtorEq, Int.reduceLE, Int.reduceLT, Int.reduceEq, Int.reduceMul, Int.reduceAdd, Int.reduceSub, Int.reduceNeg, Int.reduceToNat, Int.reduceNe, maxK]
        omega
      · rintro ⟨k, hk1, hk2⟩
        simp only [x66L0, push_cast, Nat.reduceAdd, Nat.reduceSub, Nat.reduceLeDiff, Nat.reduceEqDiff, Nat.reduceBEq, Nat.reduceMul, Nat.reduceLT, ↓reduceIte, reduceCtorEq, Int.reduceLE, Int.reduceLT, Int.reduceEq, Int.reduceMul, Int.reduceAdd, Int.reduceSub, Int.reduceNeg, Int.reduceToNat, Int.reduceNe]
        refine ⟨fun hlt => ⟨hlt, hlt, ⟨k + 1, by omega, by omega⟩, ⟨rfl, by rw [wrapI (by omega) (by omega)]; rfl⟩, by simp only; omega⟩, fun hge => ?_⟩
        obtain rfl : k = xL.length := by omega
        rfl
    · cases hg_
  · cases hg_
/-- wayfinder/plan.Valid -/
def g40 : Con := fun args_ E_ nn_ => match args_ with
  | [.a [.v (.int .i64 p_W), .v (.int .i64 p_H), .n p_Cells]] => (match rowOf E_ p_Cells with
    | some (p_Cells_n, p_Cells_s, p_Cells_f) => some (.q (isRow eU8 p_Cells_n p_Cells_s p_Cells_f ∧ True) (.o (.c (.v (.bool (planB p_W p_H (decL eU8 p_Cells_n p_Cells_f)))))))
    | none => none)
  | _ => none
theorem c40 : COk Try.prog 40 g40 := by
  refine cok_q Try.func40 x40_ok (by kernel_rfl) (cok_tab (cok_cons c65 (cok_cons c66 cok_nil))) ?_
  intro args_ E_ nn_ cr_ hg_
  unfold g40 at hg_
  split at hg_
  · rename_i p_W p_H p_Cells
    split at hg_
    · rename_i p_Cells_n p_Cells_s p_Cells_f h_p_Cells
      cases hg_
      refine ⟨_, _, rfl, 1, [p_Cells], [.a [.v (.int .i64 p_W), .v (.int .i64 p_H), .n 0]], [(0, .ro (decL eU8 p_Cells_n p_Cells_f).length eU8.sz (rowF eU8 (decL eU8 p_Cells_n p_Cells_f)))], .o (.c (.v (.bool (planB p_W p_H (decL eU8 p_Cells_n p_Cells_f))))), rfl, rfl, by simp only [push_cast, Nat.reduceLT, Nat.reduceAdd], by simp only [push_cast, Nat.reduceLT, Nat.reduceAdd], by simp only [push_cast, Nat.reduceLT, Nat.reduceAdd], rfl, ⟨inE0_row h_p_Cells, trivial⟩, rfl, ?_⟩
      intro hpre hlen
      obtain ⟨i_p_Cells, hpre⟩ := hpre
      refine ⟨⟨inE_row h_p_Cells i_p_Cells, trivial⟩, ?_⟩
      have z_p_Cells := lens_row (E := eU8) hlen h_p_Cells
      clear i_p_Cells
      generalize decL eU8 p_Cells_n p_Cells_f = p_CellsL at *
      clear h_p_Cells
      simp (config := {maxSteps := 10000000}) only [x40, push_cast, Nat.reduceAdd, Nat.reduceSub, Nat.reduceLeDiff, Nat.reduceEqDiff, Nat.reduceBEq, Nat.reduceMul, Nat.reduceLT, ↓reduceIte, reduceCtorEq, Int.reduceLE, Int.reduceLT, Int.reduceEq, Int.reduceMul, Int.reduceAdd, Int.reduceSub, Int.reduceNeg, Int.reduceToNat, Int.reduceNe, g65, g66]
      refine ⟨fun h => ?_, fun h1 h2 h3 => ?_⟩
      · symm
        unfold planB
        rw [Bool.and_eq_false_iff, decide_eq_false_iff_not]
        refine .inl fun ⟨k1, k2, k3⟩ => ?_
        have := mulWH k1 k2
        rw [wrapI (n := p_W * p_H) (by omega) (by omega)] at h
        unfold sizeB at h
        rw [decide_eq_false_iff_not, decide_eq_false_iff_not] at h
        omega
      · simp only [sizeB, decide_eq_true_eq] at h1 h2
        have hm := mulWH h1 h2
        rw [wrapI (n := p_W * p_H) (by omega) (by omega)] at h3
        refine ⟨fun _ => ⟨by omega, by omega, by omega⟩, ?_⟩
        unfold planB
        rw [decide_eq_true (p := (1 ≤ p_W ∧ p_W ≤ 64) ∧ (1 ≤ p_H ∧ p_H ≤ 64) ∧ (p_CellsL.length : Int) = p_W * p_H) ⟨h1, h2, h3⟩, Bool.true_and]
        have : ((p_CellsL.length : Int) == 0) = false := by rw [beq_eq_false_iff_ne]; omega
        rw [this, Bool.false_or, decide_eq_decide, maxK_le (by omega) (Nat.le_refl _)]
        exact getD_all (p := fun x => x ≤ 2) eU8.dflt
    · cases hg_
  · cases hg_
end Go.Proofs.Ytiijdbpncpdmdaa
set_option linter.unusedVariables false
set_option linter.unusedSimpArgs false
set_option maxRecDepth 20000
namespace Go.Proofs.Ytiijdbpncpdmdaa
open Go.Sx
/-- The byte of a value. -/
def sgn (v : Int) : Int := byteAt ⟨#[63, 46, 35]⟩ v.toNat
def txOne (W : Int) (L : List Int) (i : Nat) : List Int := if (i : Int) % W = W - 1 then [sgn (L.getD i eU8.dflt), 10] else [sgn (L.getD i eU8.dflt)]
def txK (W : Int) (L : List Int) (k : Nat) : List Int := (List.range k).flatMap (txOne W L)
def txL (W : Int) (L : List Int) : List Int := txK W L L.length
def textB (W H : Int) (L : List Int) : ByteArray := if planB W H L = true then strB (txL W L) else strB []
theorem txK_succ (W : Int) (L : List Int) (k : Nat) : txK W L (k + 1) = txK W L k ++ txOne W L k := by simp [txK, List.range_succ, List.flatMap_append]
theorem txK_len (W : Int) (L : List Int) : ∀ k, k ≤ (txK W L k).length ∧ (txK W L k).length ≤ 2 * k
  | 0 => by simp [txK]
  | k + 1 => by
    have := txK_len W L k
    rw [txK_succ, List.length_append]
    have : 1 ≤ (txOne W L k).length ∧ (txOne W L k).length ≤ 2 := by unfold txOne; split <;> simp
    omega
theorem sgn_bd (v : Int) : 0 ≤ sgn v ∧ sgn v ≤ 255 := by
  unfold sgn byteAt
  have := (List.getD (⟨#[63, 46, 35]⟩ : ByteArray).data.toList v.toNat 0).toNat_lt
  omega
theorem txK_u8 (W : Int) (L : List Int) (k : Nat) : ∀ x ∈ txK W L k, 0 ≤ x ∧ x ≤ 255 := by
  intro x hx
  simp only [txK, List.mem_flatMap] at hx
  obtain ⟨i, _, h⟩ := hx
  have := sgn_bd (L.getD i eU8.dflt)
  unfold txOne at h
  split at h <;> simp only [List.mem_cons, List.not_mem_nil, or_false] at h
  · rcases h with rfl | rfl <;> omega
  · subst h; exact this
theorem planB_at {W H : Int} {L : List Int} (h : planB W H L = true) : (1 ≤ W ∧ W ≤ 64) ∧ (1 ≤ H ∧ H ≤ 64) ∧ (L.length : Int) = W * H ∧ (1 ≤ L.length ∧ L.length ≤ 4096) ∧ ∀ i, i < L.length → L.getD i eU8.dflt ≤ 2 := by
  simp only [planB, Bool.and_eq_true, decide_eq_true_eq] at h
  obtain ⟨⟨h1, h2, h3⟩, h4⟩ := h
  have := mulWH h1 h2
  exact ⟨h1, h2, h3, by omega, (getD_all (p := fun x => x ≤ 2) eU8.dflt).2 h4⟩
theorem u8_at {L : List Int} (h : u8s L) {i : Nat} (hi : i < L.length) : 0 ≤ L.getD i eU8.dflt ∧ L.getD i eU8.dflt ≤ 255 := (getD_all (p := fun x => 0 ≤ x ∧ x ≤ 255) eU8.dflt).2 h i hi
end Go.Proofs.Ytiijdbpncpdmdaa
set_option linter.unusedVariables false
set_option linter.unusedSimpArgs false
set_option maxRecDepth 20000
namespace Go.Proofs.Ytiijdbpncpdmdaa
open Go.Sx
/-! ### More is met from a larger rectangle over a wider range -/
theorem swL_mem {x0 y0 x1 y1 vx vy vd lo hi : Int} {c : CC} : c ∈ swL x0 y0 x1 y1 vx vy vd lo hi ↔ swP x0 y0 x1 y1 vx vy vd lo hi c.X c.Y = true := by
  unfold swL
  rw [gridL_mem]
  constructor
  · exact fun h => h.1
  · intro h
    have := sw_rng h
    unfold rLo rHi
    exact ⟨h, by omega⟩
theorem swL_sorted (x0 y0 x1 y1 vx vy vd lo hi : Int) : (swL x0 y0 x1 y1 vx vy vd lo hi).Pairwise ltC := gridL_sorted _ _ _ _ _
theorem inC_mono {n m v a b a' b' : Int} (hm : 0 < m) (h1 : a' ≤ a) (h2 : b ≤ b') (h : inC n m 0 v a b) : inC n m 0 v a' b' := by
  unfold inC at *
  have e1 := Int.mul_le_mul_of_nonneg_right h1 (Int.le_of_lt hm)
  have e2 := Int.mul_le_mul_of_nonneg_right h2 (Int.le_of_lt hm)
  omega
theorem sw_mono {x0 y0 x1 y1 x0' y0' x1' y1' vx vy vd lo hi lo' hi' x y : Int} (hv : vecB vx vy vd = true) (ho : 0 ≤ lo ∧ lo ≤ hi ∧ hi ≤ 2048) (ho' : 0 ≤ lo' ∧ lo' ≤ lo ∧ hi ≤ hi' ∧ hi' ≤ 65536)
    (hr : pRectB x0' y0' x1' y1' = true) (hs : x1' - x0' ≤ 4096 ∧ y1' - y0' ≤ 4096) (h0 : x0' ≤ x0 ∧ x0 ≤ x1 ∧ x1 ≤ x1') (h1 : y0' ≤ y0 ∧ y0 ≤ y1 ∧ y1 ≤ y1') (h : swP x0 y0 x1 y1 vx vy vd lo hi x y = true) :
    swP x0' y0' x1' y1' vx vy vd lo' hi' x y = true := by
  have a := pRect_bd hr
  have a2 := vec_bd hv
  have rg := sw_rng h
  have fx := frac_bd (lo := lo) (hi := hi) (n := vx) (d := vd) (by omega) (by omega) (by omega) (by omega) (by omega)
  have fy := frac_bd (lo := lo) (hi := hi) (n := vy) (d := vd) (by omega) (by omega) (by omega) (by omega) (by omega)
  unfold swP at h ⊢
  simp only [Bool.and_eq_true] at h ⊢
  obtain ⟨h2, h3⟩ := h
  rw [meets_iff] at h3 ⊢
  unfold MeP at h3 ⊢
  obtain ⟨_, p1, p2, p3, n, m, hm, hn, hx, hy, hl, hh⟩ := h3
  refine ⟨?_, by omega, p1, p2, ?_, n, m, hm, hn, ?_, ?_, ?_, ?_⟩
  · simp only [minusB, sRectB, nearB, Bool.and_eq_true, decide_eq_true_eq] at h2 ⊢
    omega
  · simp only [sRectB, nearB, Bool.and_eq_true, decide_eq_true_eq]
    omega
  · exact inC_mono hm (by omega) (by omega) hx
  · exact inC_mono hm (by omega) (by omega) hy
  · have := Int.mul_le_mul_of_nonneg_right ho'.2.1 (Int.le_of_lt hm); omega
  · have := Int.mul_le_mul_of_nonneg_right ho'.2.2.1 (Int.le_of_lt hm); omega
theorem seE0 {x0 y0 x1 y1 vx vy vd lo hi : Int} : seE x0 y0 x1 y1 vx vy vd lo hi = 0 ↔ pRectB x0 y0 x1 y1 = true ∧ vecB vx vy vd = true ∧ (0 ≤ lo ∧ lo ≤ hi ∧ hi ≤ 2048) ∧ x1 - x0 ≤ 1024 ∧ y1 - y0 ≤ 1024 := by
  unfold seE okR
  cases pRectB x0 y0 x1 y1 <;> cases vecB vx vy vd <;> simp
  by_cases h : 0 ≤ lo ∧ lo ≤ hi ∧ hi ≤ 2048
  · by_cases h2 : 1024 < x1 - x0 ∨ 1024 < y1 - y0
    · simp [h, h2]; omega
    · simp [h, h2]; omega
  · have g : ¬ (lo ≤ hi ∧ 0 ≤ lo ∧ hi ≤ 2048) := by omega
    split
    · omega
    · split <;> omega
theorem seL0 {x0 y0 x1 y1 vx vy vd lo hi : Int} (h : seE x0 y0 x1 y1 vx vy vd lo hi ≠ 0) : seL x0 y0 x1 y1 vx vy vd lo hi = [] := if_neg h
theorem se_sorted (x0 y0 x1 y1 vx vy vd lo hi : Int) : (seL x0 y0 x1 y1 vx vy vd lo hi).Pairwise ltC := by
  unfold seL; split
  · exact swL_sorted _ _ _ _ _ _ _ _ _
  · exact List.Pairwise.nil
theorem se_mono {x0 y0 x1 y1 x0' y0' x1' y1' vx vy vd lo hi lo' hi' : Int} (h : seE x0 y0 x1 y1 vx vy vd lo hi = 0) (h' : seE x0' y0' x1' y1' vx vy vd lo' hi' = 0) (hx : x0' ≤ x0 ∧ x1 ≤ x1') (hy : y0' ≤ y0 ∧ y1 ≤ y1') (hl : lo' ≤ lo ∧ hi ≤ hi') :
    ∀ c ∈ seL x0 y0 x1 y1 vx vy vd lo hi, c ∈ seL x0' y0' x1' y1' vx vy vd lo' hi' := by
  intro c hc
  unfold seL at hc ⊢
  rw [if_pos h] at hc
  rw [if_pos h']
  rw [swL_mem] at hc ⊢
  rw [seE0] at h h'
  have a := pRect_bd h.1
  exact sw_mono h.2.1 h.2.2.1 (by omega) h'.1 (by omega) (by omega) (by omega) hc
def cornL (x0 y0 x1 y1 : Int) : List CC := [⟨x0, y0⟩, ⟨x1, y0⟩, ⟨x0, y1⟩, ⟨x1, y1⟩]
theorem corn_at {x0 y0 x1 y1 : Int} {i : Nat} (hi : i < 4) : (((cornL x0 y0 x1 y1).getD i eC.dflt).X = x0 ∨ ((cornL x0 y0 x1 y1).getD i eC.dflt).X = x1) ∧ (((cornL x0 y0 x1 y1).getD i eC.dflt).Y = y0 ∨ ((cornL x0 y0 x1 y1).getD i eC.dflt).Y = y1) := by
  rcases i with _ | _ | _ | _ | i
  · exact ⟨.inl rfl, .inl rfl⟩
  · exact ⟨.inr rfl, .inl rfl⟩
  · exact ⟨.inl rfl, .inr rfl⟩
  · exact ⟨.inr rfl, .inr rfl⟩
  · omega
theorem getD_mem {a : CC} {l : List CC} (h : a ∈ l) : ∃ j, j < l.length ∧ l.getD j eC.dflt = a := by
  obtain ⟨j, hj, e⟩ := List.getElem_of_mem h
  exact ⟨j, hj, by rw [List.getD_eq_getElem?_getD, List.getElem?_eq_getElem hj, Option.getD_some, e]⟩
theorem getD_in {l : List CC} {i : Nat} (h : i < l.length) : l.getD i eC.dflt ∈ l := by rw [List.getD_eq_getElem?_getD, List.getElem?_eq_getElem h, Option.getD_some]; exact List.getElem_mem h
theorem sort_at {l : List CC} (hl : l.Pairwise ltC) {i j : Nat} (h : i < j) (hj : j < l.length) : ltC (l.getD i eC.dflt) (l.getD j eC.dflt) := by
  have hi : i < l.length := by omega
  rw [List.getD_eq_getElem?_getD, List.getD_eq_getElem?_getD, List.getElem?_eq_getElem hj, List.getElem?_eq_getElem hi, Option.getD_some, Option.getD_some]
  exact List.pairwise_iff_getElem.1 hl i j (by omega) hj h
/-- The first cell that is not before the wanted one is the wanted one. -/
theorem sub_at {aL bL : List CC} (hb : bL.Pairwise ltC) (hsub : ∀ c ∈ aL, c ∈ bL) {i q : Nat} (hi : i < aL.length) (hq : ∀ j, j < q → ltC (bL.getD j eC.dflt) (aL.getD i eC.dflt)) (hn : q < bL.length → ¬ ltC (bL.getD q eC.dflt) (aL.getD i eC.dflt)) :
    q < bL.length ∧ bL.getD q eC.dflt = aL.getD i eC.dflt := by
  obtain ⟨j, hj, e⟩ := getD_mem (hsub _ (getD_in hi))
  rcases Nat.lt_trichotomy j q with h | h | h
  · have := hq j h; rw [e] at this; exact absurd this (ltC_irrefl _)
  · subst h; exact ⟨hj, e⟩
  · refine absurd ?_ (hn (by omega)); rw [← e]; exact sort_at hb h hj
theorem corn_in {x0 y0 x1 y1 vx vy vd lo hi : Int} {i : Nat} (hi4 : i < 4) (h : seE x0 y0 x1 y1 vx vy vd lo hi = 0) :
    trE ((cornL x0 y0 x1 y1).getD i eC.dflt).X ((cornL x0 y0 x1 y1).getD i eC.dflt).Y vx vy vd lo hi = 0 ∧ (trL ((cornL x0 y0 x1 y1).getD i eC.dflt).X ((cornL x0 y0 x1 y1).getD i eC.dflt).Y vx vy vd lo hi).Pairwise ltC ∧
    ∀ c ∈ trL ((cornL x0 y0 x1 y1).getD i eC.dflt).X ((cornL x0 y0 x1 y1).getD i eC.dflt).Y vx vy vd lo hi, c ∈ seL x0 y0 x1 y1 vx vy vd lo hi := by
  have hc := corn_at (x0 := x0) (y0 := y0) (x1 := x1) (y1 := y1) hi4
  generalize (cornL x0 y0 x1 y1).getD i eC.dflt = c at *
  have h0 := seE0.1 h
  have a := pRect_bd h0.1
  have k := tr_se c.X c.Y vx vy vd lo hi
  have hz : seE c.X c.Y c.X c.Y vx vy vd lo hi = 0 := by
    rw [seE0]
    refine ⟨?_, h0.2.1, h0.2.2.1, by omega, by omega⟩
    apply pPt_rect
    unfold pPtB
    rw [decide_eq_true_eq]
    omega
  rw [k.1, k.2]
  refine ⟨hz, se_sorted _ _ _ _ _ _ _ _ _, se_mono hz h ?_ ?_ ?_⟩ <;> omega
theorem wide_in {x0 y0 x1 y1 vx vy vd lo hi m : Int} (hm : 0 ≤ m ∧ m ≤ 255) (h : seE x0 y0 x1 y1 vx vy vd lo hi = 0) : seE x0 y0 x1 y1 vx vy vd (max (lo - m) 0) (min (hi + m) 2048) = 0 := by
  rw [seE0] at h ⊢
  refine ⟨h.1, h.2.1, ?_, h.2.2.2⟩
  omega
end Go.Proofs.Ytiijdbpncpdmdaa
set_option linter.unusedVariables false
set_option linter.unusedSimpArgs false
set_option maxRecDepth 20000
namespace Go.Proofs.Ytiijdbpncpdmdaa
open Go.Sx
/-! ### The cells of a rectangle -/
def cX0 (a : Int) : Int := -((-a) / 64) - 1
def cX1 (b : Int) : Int := b / 64
def yesP (_ _ : Int) : Bool := true
def clE (x0 y0 x1 y1 : Int) : Int := if pRectB x0 y0 x1 y1 = false then 1 else if 8192 < (cX1 x1 - cX0 x0 + 1) * (cX1 y1 - cX0 y0 + 1) then 6 else 0
def clL (x0 y0 x1 y1 : Int) : List CC := if clE x0 y0 x1 y1 = 0 then gridL yesP (cX0 x0) (cX1 x1) (cX0 y0) (cX1 y1) else []
def ovP (x0 y0 x1 y1 : Int) (x y : Int) : Bool := decide (x * 64 ≤ x1 ∧ x0 ≤ x * 64 + 64 ∧ y * 64 ≤ y1 ∧ y0 ≤ y * 64 + 64)
def orL (x0 y0 x1 y1 : Int) : List CC := gridL (ovP x0 y0 x1 y1) (x0 / 64 - 1) (x1 / 64 + 1) (y0 / 64 - 1) (y1 / 64 + 1)
theorem or_eq (x0 y0 x1 y1 : Int) : orL x0 y0 x1 y1 = gridL yesP (cX0 x0) (cX1 x1) (cX0 y0) (cX1 y1) := by
  refine grid_ext (gridL_sorted _ _ _ _ _) (gridL_sorted _ _ _ _ _) fun c => ?_
  unfold orL
  rw [gridL_mem, gridL_mem]
  unfold cX0 cX1 ovP yesP
  rw [decide_eq_true_eq]
  simp only [true_and]
  omega
theorem gridRow_yesL (x0 y : Int) (n : Nat) : (gridRow yesP x0 y n).length = n := by
  unfold gridRow yesP; simp [List.filter_eq_self.2 (fun _ _ => rfl)]
theorem gridUp_yesL (x0 : Int) (w : Nat) (y0 : Int) : ∀ h, (gridUp yesP x0 w y0 h).length = h * w
  | 0 => by simp [gridUp_zero]
  | h + 1 => by rw [gridUp_succ, List.length_append, gridUp_yesL x0 w y0 h, gridRow_yesL, Nat.succ_mul]
theorem gridL_yesL (x0 x1 y0 y1 : Int) : (gridL yesP x0 x1 y0 y1).length = (y1 - y0 + 1).toNat * (x1 - x0 + 1).toNat := gridUp_yesL _ _ _ _
theorem gridL_yesZ {x0 x1 y0 y1 : Int} (h1 : 0 ≤ x1 - x0 + 1) (h2 : 0 ≤ y1 - y0 + 1) : ((gridL yesP x0 x1 y0 y1).length : Int) = (x1 - x0 + 1) * (y1 - y0 + 1) := by
  rw [gridL_yesL, Int.natCast_mul, Int.toNat_of_nonneg h1, Int.toNat_of_nonneg h2, Int.mul_comm]
theorem cl_full {x0 y0 x1 y1 : Int} (h : pRectB x0 y0 x1 y1 = true) (hb : 20000 < (x1 / 64 - x0 / 64) * (y1 / 64 - y0 / 64)) : 8192 < (cX1 x1 - cX0 x0 + 1) * (cX1 y1 - cX0 y0 + 1) := by
  have a := pRect_bd h
  have e1 : x1 / 64 - x0 / 64 ≤ cX1 x1 - cX0 x0 + 1 := by unfold cX0 cX1; omega
  have e2 : y1 / 64 - y0 / 64 ≤ cX1 y1 - cX0 y0 + 1 := by unfold cX0 cX1; omega
  have := Int.mul_le_mul e1 e2 (by omega) (by omega)
  omega
theorem clE1 {x0 y0 x1 y1 : Int} (h : pRectB x0 y0 x1 y1 = false) : clE x0 y0 x1 y1 = 1 ∧ clL x0 y0 x1 y1 = [] := by simp [clL, clE, h]
theorem clE6 {x0 y0 x1 y1 : Int} (h : pRectB x0 y0 x1 y1 = true) (h2 : 8192 < (cX1 x1 - cX0 x0 + 1) * (cX1 y1 - cX0 y0 + 1)) : clE x0 y0 x1 y1 = 6 ∧ clL x0 y0 x1 y1 = [] := by simp [clL, clE, h, h2]
theorem clE0 {x0 y0 x1 y1 : Int} (h : pRectB x0 y0 x1 y1 = true) (h2 : ¬ 8192 < (cX1 x1 - cX0 x0 + 1) * (cX1 y1 - cX0 y0 + 1)) : clE x0 y0 x1 y1 = 0 ∧ clL x0 y0 x1 y1 = gridL yesP (cX0 x0) (cX1 x1) (cX0 y0) (cX1 y1) := by simp [clL, clE, h, h2]
theorem cl_one (x y : Int) : (clE x y x y == 0) = decide (0 < ((clL x y x y).length : Int)) := by
  cases h : pRectB x y x y
  · rw [(clE1 h).1, (clE1 h).2]; rfl
  · have a := pRect_bd h
    have k1 : 1 ≤ cX1 x - cX0 x + 1 ∧ cX1 x - cX0 x + 1 ≤ 3 := by unfold cX0 cX1; omega
    have k2 : 1 ≤ cX1 y - cX0 y + 1 ∧ cX1 y - cX0 y + 1 ≤ 3 := by unfold cX0 cX1; omega
    have m := Int.mul_le_mul k1.2 k2.2 (by omega) (by omega)
    have m2 := Int.mul_le_mul k1.1 k2.1 (by omega) (by omega)
    have c := clE0 h (by omega)
    rw [c.1, c.2, gridL_yesZ (by omega) (by omega)]
    symm
    simp
    omega
theorem pPt_cl {x y : Int} : pPtB x y = pRectB x y x y := by unfold pRectB; cases pPtB x y <;> simp
end Go.Proofs.Ytiijdbpncpdmdaa
set_option linter.unusedVariables false
set_option linter.unusedSimpArgs false
set_option maxRecDepth 20000
namespace Go.Proofs.Ytiijdbpncpdmdaa
open Go.Sx
/-! ### Plans with another value of a cell -/
def insB (W H x y : Int) : Bool := decide ((0 ≤ x ∧ x < W) ∧ 0 ≤ y ∧ y < H)
def atB (W H : Int) (L : List Int) (x y : Int) : Int := if planB W H L = false then 0 else if insB W H x y = false then 2 else L.getD (y * W + x).toNat eU8.dflt
def puE (W H : Int) (L : List Int) (x y v : Int) : Int := if planB W H L = false ∨ 2 < v then 1 else if insB W H x y = false then 7 else 0
def puL (W H : Int) (L : List Int) (x y v : Int) : List Int := if puE W H L x y v = 0 then L.set (y * W + x).toNat v else []
theorem idx_bd {W H : Int} {L : List Int} {x y : Int} (h : planB W H L = true) (hi : insB W H x y = true) : (0 ≤ y * W ∧ y * W ≤ 4096) ∧ 0 ≤ y * W + x ∧ y * W + x < L.length ∧ (1 ≤ L.length ∧ L.length ≤ 4096) := by
  have hp := planB_at h
  simp only [insB, decide_eq_true_eq] at hi
  have e : (y + 1) * W ≤ H * W := Int.mul_le_mul_of_nonneg_right (by omega) (by omega)
  have e2 : 0 ≤ y * W := Int.mul_nonneg (by omega) (by omega)
  have e3 : H * W = W * H := Int.mul_comm _ _
  rw [Int.add_mul] at e
  omega
theorem idx_inj {W x y x' y' : Int} (hx : 0 ≤ x ∧ x < W) (hx' : 0 ≤ x' ∧ x' < W) (h : y * W + x = y' * W + x') : x = x' ∧ y = y' := by
  have e : (y * W + x) % W = x := by rw [Int.mul_comm, Int.add_comm, Int.add_mul_emod_self_left]; exact Int.emod_eq_of_lt hx.1 hx.2
  have e' : (y' * W + x') % W = x' := by rw [Int.mul_comm, Int.add_comm, Int.add_mul_emod_self_left]; exact Int.emod_eq_of_lt hx'.1 hx'.2
  have d : (y * W + x) / W = y := by rw [Int.mul_comm, Int.add_comm, Int.add_mul_ediv_left _ _ (by omega), Int.ediv_eq_zero_of_lt hx.1 hx.2]; omega
  have d' : (y' * W + x') / W = y' := by rw [Int.mul_comm, Int.add_comm, Int.add_mul_ediv_left _ _ (by omega), Int.ediv_eq_zero_of_lt hx'.1 hx'.2]; omega
  rw [h] at e d
  exact ⟨e.symm.trans e', d.symm.trans d'⟩
theorem planB_set {W H : Int} {L : List Int} {i : Nat} {v : Int} (h : planB W H L = true) (hv : v ≤ 2) : planB W H (L.set i v) = true := by
  simp only [planB, Bool.and_eq_true, decide_eq_true_eq, List.length_set] at h ⊢
  refine ⟨h.1, fun x hx => ?_⟩
  rcases List.mem_or_eq_of_mem_set hx with h1 | h1
  · exact h.2 x h1
  · omega
theorem strB_inj {a b : List Int} (ha : u8s a) (hb : u8s b) : strB a = strB b ↔ a = b := by
  constructor
  · intro h
    unfold strB at h
    have h1 : a.map (fun n => UInt8.ofNat n.toNat) = b.map (fun n => UInt8.ofNat n.toNat) := by
      have := congrArg ByteArray.data h
      simpa using this
    have hl : a.length = b.length := by simpa using congrArg List.length h1
    refine List.ext_getElem hl fun i hi hj => ?_
    have h2 : (a.map (fun n => UInt8.ofNat n.toNat))[i]'(by simpa using hi) = (b.map (fun n => UInt8.ofNat n.toNat))[i]'(by simpa using hj) := by simp only [h1]
    simp only [List.getElem_map] at h2
    have h3 := congrArg UInt8.toNat h2
    simp only [UInt8.toNat_ofNat'] at h3
    have g1 := ha _ (List.getElem_mem hi)
    have g2 := hb _ (List.getElem_mem hj)
    omega
  · rintro rfl; rfl
theorem getD_set {L : List Int} {i j : Nat} {v : Int} (hi : i < L.length) : (L.set i v).getD j eU8.dflt = if j = i then v else L.getD j eU8.dflt := by
  rw [List.getD_eq_getElem?_getD, List.getD_eq_getElem?_getD, List.getElem?_set]
  by_cases h : i = j
  · subst h; simp [hi]
  · rw [if_neg h, if_neg (fun e => h e.symm)]
theorem cat0 (g f : Nat → Nat → SC) : catF 0 g f = f := by funext e j; simp [catF]
theorem upd8 {L : List Int} {i : Nat} {v : Int} (h : i < L.length) : updF (rowF eU8 L) i 0 [.v (.int .u8 v)] = rowF eU8 (L.set i v) := updF_row (E := eU8) (x := v) h rfl (show 0 + 1 ≤ 1 by omega)
theorem planB_no {W H : Int} {L : List Int} {k : Nat} (hk : k < L.length) (h : 2 < L.getD k eU8.dflt) : planB W H L = false := by
  rw [Bool.eq_false_iff]
  intro h2
  have := (planB_at h2).2.2.2.2 k hk
  omega
theorem planB_yes {W H : Int} {L : List Int} (h1 : 1 ≤ W ∧ W ≤ 64) (h2 : 1 ≤ H ∧ H ≤ 64) (h3 : (L.length : Int) = W * H) (h : ∀ i, i < L.length → L.getD i eU8.dflt ≤ 2) : planB W H L = true := by
  simp only [planB, Bool.and_eq_true, decide_eq_true_eq]
  exact ⟨⟨h1, h2, h3⟩, (getD_all (p := fun x => x ≤ 2) eU8.dflt).1 h⟩
theorem pu0 {W H : Int} {L : List Int} {x y v : Int} (h : puE W H L x y v = 0) : planB W H L = true ∧ v ≤ 2 ∧ insB W H x y = true ∧ puL W H L x y v = L.set (y * W + x).toNat v := by
  have h' := h
  unfold puE at h
  split at h
  · omega
  · rename_i h1
    split at h
    · omega
    · rename_i h2
      simp only [not_or, Bool.not_eq_false] at h1 h2
      exact ⟨h1.1, by omega, h2, by unfold puL; rw [if_pos h']⟩
theorem puL_u8 {W H : Int} {L : List Int} {x y v : Int} (hL : u8s L) (hv : 0 ≤ v ∧ v ≤ 255) : u8s (puL W H L x y v) := by
  unfold puL
  split
  · intro z hz
    rcases List.mem_or_eq_of_mem_set hz with h1 | h1
    · exact hL z h1
    · subst h1; exact hv
  · intro z hz; cases hz
theorem at_out {W H : Int} {L : List Int} {x y : Int} (h : planB W H L = true) (hi : insB W H x y = false) : atB W H L x y = 2 := by simp [atB, h, hi]
theorem at_in {W H : Int} {L : List Int} {x y : Int} (h : planB W H L = true) (hi : insB W H x y = true) : atB W H L x y = L.getD (y * W + x).toNat eU8.dflt := by simp [atB, h, hi]
theorem put_at {W H : Int} {L : List Int} {x y v : Int} (h : puE W H L x y v = 0) (x' y' : Int) :
    atB (mE (puE W H L x y v) W) (mE (puE W H L x y v) H) (puL W H L x y v) x' y' = if x' = x ∧ y' = y then v else atB W H L x' y' := by
  obtain ⟨h1, h2, h3, h4⟩ := pu0 h
  rw [h, h4]
  have k := idx_bd h1 h3
  simp only [mE, if_true]
  cases hi : insB W H x' y'
  · have hn : ¬ (x' = x ∧ y' = y) := by rintro ⟨rfl, rfl⟩; rw [h3] at hi; cases hi
    rw [if_neg hn, at_out (planB_set h1 h2) hi, at_out h1 hi]
  · have k' := idx_bd h1 hi
    rw [at_in (planB_set h1 h2) hi, at_in h1 hi, getD_set (by omega)]
    simp only [insB, decide_eq_true_eq] at h3 hi
    by_cases e : x' = x ∧ y' = y
    · rw [if_pos e, if_pos (by rw [e.1, e.2])]
    · rw [if_neg e, if_neg]
      intro e2
      refine e (idx_inj (W := W) ?_ ?_ ?_) <;> omega
def x96 : XFn := ⟨27, (.seq (.reg false [O1 2 (.box 24) 0, O1 3 (.box 71) 1, K1 4 .mv (.bool false)]) (.seq (.reg false [O1 5 (.fld 0) 3, O1 6 .load1 5, K2 7 (.bin .geq) 6 (iV 0), O1 8 .mv 7, G1 9 (.fld 0) 3 8 true, G1 10 .load1 9 8 true, G1 11 (.fld 0) 2 8 true, G1 12 .load1 11 8 true, G2 13 (.bin .lss) 10 12 8 true, ⟨(some 14), .pick, [(.t 8), (.t 13), (.k (.bool false))], none⟩, O1 15 .mv 14, G1 16 (.fld 1) 3 15 true, G1 17 .load1 16 15 true, GK 18 (.bin .geq) 17 (iV 0) 15 true, ⟨(some 19), .pick, [(.t 15), (.t 18), (.k (.bool false))], none⟩, O1 20 .mv 19, G1 21 (.fld 1) 3 20 true, G1 22 .load1 21 20 true, G1 23 (.fld 1) 2 20 true, G1 24 .load1 23 20 true, G2 25 (.bin .lss) 22 24 20 true, ⟨(some 26), .pick, [(.t 20), (.t 25), (.k (.bool false))], none⟩, O1 4 .mv 26]) .ret)), [(.s 4)]⟩
theorem x96_ok : xfn Try.prog Try.f96 = some x96.er := by kernel_rfl
def x86 : XFn := ⟨26, (.seq (.reg false [O1 2 (.box 24) 0, O1 3 (.box 71) 1, K1 4 .mv (.int .u8 0)]) (.seq (.block 0 (.seq (.reg false [O1 6 (.loadN 3) 2, O1 7 (.call 40) 6, O1 8 (.un .not) 7, O1 5 .mv 8]) (.cond (.t 5) (.seq (.reg false [K1 4 .mv (.int .u8 0)]) .ret) (.seq (.reg false [O1 10 (.loadN 3) 2, O1 11 (.loadN 2) 3, O2 12 (.call 96) 10 11, O1 13 (.un .not) 12, O1 9 .mv 13]) (.cond (.t 9) (.seq (.reg false [K1 4 .mv (.int .u8 2)]) .ret) .skip))))) (.seq (.reg false [O1 14 (.fld 2) 2, O1 15 .load1 14, O1 16 (.fld 1) 3, O1 17 .load1 16, O1 18 (.fld 0) 2, O1 19 .load1 18, O2 20 (.bin .mul) 17 19, O1 21 (.fld 0) 3, O1 22 .load1 21, O2 23 (.bin .add) 20 22, O2 24 (.ixS 1) 15 23, O1 25 .load1 24, O1 4 .mv 25]) .ret))), [(.s 4)]⟩
theorem x86_ok : xfn Try.prog Try.f86 = some x86.er := by kernel_rfl
/-- wayfinder/plan.inside -/
def g96 : Con := fun args_ E_ nn_ => match args_ with
  | [.a [.v (.int .i64 p_W), .v (.int .i64 p_H), .n p_Cells], .a [.v (.int .i64 c_X), .v (.int .i64 c_Y)]] => (match rowOf E_ p_Cells with
    | some (p_Cells_n, p_Cells_s, p_Cells_f) => some (.q (isRow eU8 p_Cells_n p_Cells_s p_Cells_f ∧ True) (.o (.c (.v (.bool (insB p_W p_H c_X c_Y))))))
    | none => none)
  | _ => none
theorem c96 : COk Try.prog 96 g96 := by
  refine cok_q Try.func96 x96_ok (by kernel_rfl) (cok_tab cok_nil) ?_
  intro args_ E_ nn_ cr_ hg_
  unfold g96 at hg_
  split at hg_
  · rename_i p_W p_H p_Cells c_X c_Y
    split at hg_
    · rename_i p_Cells_n p_Cells_s p_Cells_f h_p_Cells
      cases hg_
      refine ⟨_, _, rfl, 1, [p_Cells], [.a [.v (.int .i64 p_W), .v (.int .i64 p_H), .n 0], .a [.v (.int .i64 c_X), .v (.int .i64 c_Y)]], [(0, .ro (decL eU8 p_Cells_n p_Cells_f).length eU8.sz (rowF eU8 (decL eU8 p_Cells_n p_Cells_f)))], .o (.c (.v (.bool (insB p_W p_H c_X c_Y)))), rfl, rfl, by simp only [push_cast, Nat.reduceLT, Nat.reduceAdd], by simp only [push_cast, Nat.reduceLT, Nat.reduceAdd], by simp only [push_cast, Nat.reduceLT, Nat.reduceAdd], rfl, ⟨inE0_row h_p_Cells, trivial⟩, rfl, ?_⟩
      intro hpre hlen
      obtain ⟨i_p_Cells, hpre⟩ := hpre
      refine ⟨⟨inE_row h_p_Cells i_p_Cells, trivial⟩, ?_⟩
      have z_p_Cells := lens_row (E := eU8) hlen h_p_Cells
      clear i_p_Cells
      generalize decL eU8 p_Cells_n p_Cells_f = p_CellsL at *
      clear h_p_Cells
      simp (config := {maxSteps := 10000000}) only [x96, push_cast, Nat.reduceAdd, Nat.reduceSub, Nat.reduceLeDiff, Nat.reduceEqDiff, Nat.reduceBEq, Nat.reduceMul, Nat.reduceLT, ↓reduceIte, reduceCtorEq, Int.reduceLE, Int.reduceLT, Int.reduceEq, Int.reduceMul, Int.reduceAdd, Int.reduceSub, Int.reduceNeg, Int.reduceToNat, Int.reduceNe]
      rw [Bool.eq_iff_iff]
      simp [insB]
      try omega
    · cases hg_
  · cases hg_
/-- wayfinder/plan.At -/
def g86 : Con := fun args_ E_ nn_ => match args_ with
  | [.a [.v (.int .i64 p_W), .v (.int .i64 p_H), .n p_Cells], .a [.v (.int .i64 c_X), .v (.int .i64 c_Y)]] => (match rowOf E_ p_Cells with
    | some (p_Cells_n, p_Cells_s, p_Cells_f) => some (.q (isRow eU8 p_Cells_n p_Cells_s p_Cells_f ∧ True) (.o (.c (.v (.int .u8 (atB p_W p_H (decL eU8 p_Cells_n p_Cells_f) c_X c_Y))))))
    | none => none)
  | _ => none
theorem c86 : COk Try.prog 86 g86 := by
  refine cok_q Try.func86 x86_ok (by kernel_rfl) (cok_tab (cok_cons c40 (cok_cons c96 cok_nil))) ?_
  intro args_ E_ nn_ cr_ hg_
  unfold g86 at hg_
  split at hg_
  · rename_i p_W p_H p_Cells c_X c_Y
    split at hg_
    · rename_i p_Cells_n p_Cells_s p_Cells_f h_p_Cells
      cases hg_
      refine ⟨_, _, rfl, 1, [p_Cells], [.a [.v (.int .i64 p_W), .v (.int .i64 p_H), .n 0], .a [.v (.int .i64 c_X), .v (.int .i64 c_Y)]], [(0, .ro (decL eU8 p_Cells_n p_Cells_f).length eU8.sz (rowF eU8 (decL eU8 p_Cells_n p_Cells_f)))], .o (.c (.v (.int .u8 (atB p_W p_H (decL eU8 p_Cells_n p_Cells_f) c_X c_Y)))), rfl, rfl, by simp only [push_cast, Nat.reduceLT, Nat.reduceAdd], by simp only [push_cast, Nat.reduceLT, Nat.reduceAdd], by simp only [push_cast, Nat.reduceLT, Nat.reduceAdd], rfl, ⟨inE0_row h_p_Cells, trivial⟩, rfl, ?_⟩
      intro hpre hlen
      obtain ⟨i_p_Cells, hpre⟩ := hpre
      refine ⟨⟨inE_row h_p_Cells i_p_Cells, trivial⟩, ?_⟩
      have z_p_Cells := lens_row (E := eU8) hlen h_p_Cells
      clear i_p_Cells
      generalize decL eU8 p_Cells_n p_Cells_f = p_CellsL at *
      clear h_p_Cells
      simp (config := {maxSteps := 10000000}) only [x86, push_cast, Nat.reduceAdd, Nat.reduceSub, Nat.reduceLeDiff, Nat.reduceEqDiff, Nat.reduceBEq, Nat.reduceMul, Nat.reduceLT, ↓reduceIte, reduceCtorEq, Int.reduceLE, Int.reduceLT, Int.reduceEq, Int.reduceMul, Int.reduceAdd, Int.reduceSub, Int.reduceNeg, Int.reduceToNat, Int.reduceNe, g40, g96]
      refine ⟨fun h => by simp [atB, h], fun h => ⟨fun g => by simp [atB, h, g], fun g => ?_⟩⟩
      have k := idx_bd h g
      have hi := g
      simp only [insB, decide_eq_true_eq] at hi
      rw [wrapI (n := c_Y * p_W) (by omega) (by omega), wrapI (by omega) (by omega)]
      exact ⟨⟨by omega, by omega⟩, by omega, by simp [atB, h, g]⟩
    · cases hg_
  · cases hg_
end Go.Proofs.Ytiijdbpncpdmdaa
set_option linter.unusedVariables false
set_option linter.unusedSimpArgs false
set_option maxRecDepth 20000
namespace Go.Proofs.Ytiijdbpncpdmdaa
open Go.Sx
/-! ### Squares and cells -/
def sqB (x y : Int) : Bool := decide ((-16384 ≤ x ∧ x ≤ 16384) ∧ -16384 ≤ y ∧ y ≤ 16384)
theorem sq_t {x y : Int} (h1 : -16384 ≤ x) (h2 : x ≤ 16384) (h3 : -16384 ≤ y) (h4 : y ≤ 16384) : sqB x y = true := by unfold sqB; rw [decide_eq_true_eq]; omega
theorem sq_f {x y : Int} (h : ¬ (-16384 ≤ x ∧ x ≤ 16384) ∨ ¬ (-16384 ≤ y ∧ y ≤ 16384)) : sqB x y = false := by unfold sqB; rw [decide_eq_false_iff_not]; omega
theorem cl_at {x y : Int} {c : CC} (h : c ∈ clL x y x y) : (c.X * 64 ≤ x ∧ x ≤ c.X * 64 + 64) ∧ c.Y * 64 ≤ y ∧ y ≤ c.Y * 64 + 64 := by
  unfold clL at h
  split at h
  · rw [gridL_mem] at h
    unfold cX0 cX1 at h
    omega
  · cases h
theorem cl_in {x y : Int} (h : pPtB x y = true) : (⟨x / 64, y / 64⟩ : CC) ∈ clL x y x y := by
  have hr := pPt_rect h
  have a := pRect_bd hr
  have k1 : 1 ≤ cX1 x - cX0 x + 1 ∧ cX1 x - cX0 x + 1 ≤ 3 := by unfold cX0 cX1; omega
  have k2 : 1 ≤ cX1 y - cX0 y + 1 ∧ cX1 y - cX0 y + 1 ≤ 3 := by unfold cX0 cX1; omega
  have m := Int.mul_le_mul k1.2 k2.2 (by omega) (by omega)
  rw [(clE0 hr (by omega)).2, gridL_mem]
  unfold cX0 cX1
  exact ⟨rfl, by simp only; omega, by simp only; omega⟩
theorem cl_len (x y : Int) : (clL x y x y).length ≤ 9 := by
  unfold clL
  split
  · rw [gridL_yesL]
    have e1 : (cX1 y - cX0 y + 1).toNat ≤ 3 := by unfold cX0 cX1; omega
    have e2 : (cX1 x - cX0 x + 1).toNat ≤ 3 := by unfold cX0 cX1; omega
    exact Nat.mul_le_mul e1 e2
  · simp
def x25 : XFn := ⟨17, (.seq (.reg false [O1 1 (.box 71) 0, ⟨(some 2), (.alloc 77 [(iV 0), (iV 0), (iV 0), (iV 0)]), [], none⟩, K1 3 .mv (.bool false)]) (.seq (.seq (.reg false [O1 4 (.fld 0) 1, O1 5 .load1 4, K2 6 (.call 53) 5 (iV 16384), O1 7 (.un .not) 6, O1 8 .mv 7, G1 9 (.fld 1) 1 8 false, G1 10 .load1 9 8 false, GK 11 (.call 53) 10 (iV 16384) 8 false, G1 12 (.un .not) 11 8 false, ⟨(some 13), .pick, [(.t 8), (.k (.bool true)), (.t 12)], none⟩]) (.cond (.t 13) (.seq (.reg false [⟨(some 14), (.build [(iV 0), (iV 0), (iV 0), (iV 0)] []), [], none⟩, ⟨none, (.store 4), [(.t 2), (.t 14)], none⟩, K1 3 .mv (.bool false)]) .ret) .skip)) (.seq (.reg false [O1 15 (.loadN 2) 1, O1 16 (.call 54) 15, ⟨none, (.store 4), [(.t 2), (.t 16)], none⟩, K1 3 .mv (.bool true)]) .ret))), [(.bn 2 4), (.s 3)]⟩
theorem x25_ok : xfn Try.prog Try.f25 = some x25.er := by kernel_rfl
def x22 : XFn := ⟨15, (.seq (.reg false [O1 1 (.box 41) 0, ⟨(some 2), (.alloc 71 [(iV 0), (iV 0)]), [], none⟩, K1 3 .mv (.bool false)]) (.seq (.seq (.reg false [O1 4 (.loadN 2) 1, O1 5 (.call 50) 4, O1 6 (.un .not) 5]) (.cond (.t 6) (.seq (.reg false [⟨(some 7), (.build [(iV 0), (iV 0)] []), [], none⟩, ⟨none, (.store 2), [(.t 2), (.t 7)], none⟩, K1 3 .mv (.bool false)]) .ret) .skip)) (.seq (.regD [O1 8 (.fld 0) 1, O1 9 .load1 8, K2 10 (.call 51) 9 (iV 64), O1 11 (.fld 1) 1, O1 12 .load1 11, K2 13 (.call 51) 12 (iV 64), ⟨(some 14), (.build [(iV 0), (iV 0)] [(0, 1), (1, 1)]), [(.t 10), (.t 13)], none⟩, ⟨none, (.store 2), [(.t 2), (.t 14)], none⟩, K1 3 .mv (.bool true)] [[], [0], [1, 0], [], [3], [4, 3, 2, 1, 0], [2, 1, 0, 5, 4, 3], [6, 2, 1, 0, 5, 4, 3], [7, 6, 2, 1, 0, 5, 4, 3]]) .ret))), [(.bn 2 2), (.s 3)]⟩
theorem x22_ok : xfn Try.prog Try.f22 = some x22.er := by kernel_rfl
/-- wayfinder/plan.Square -/
def g25 : Con := fun args_ E_ nn_ => match args_ with
  | [.a [.v (.int .i64 c_X), .v (.int .i64 c_Y)]] => some (.q (True) (.t [.a [.v (.int .i64 (mI (sqB c_X c_Y) (c_X * 64))), .v (.int .i64 (mI (sqB c_X c_Y) (c_Y * 64))), .v (.int .i64 (mI (sqB c_X c_Y) (c_X * 64 + 64))), .v (.int .i64 (mI (sqB c_X c_Y) (c_Y * 64 + 64)))], .c (.v (.bool (sqB c_X c_Y)))]))
  | _ => none
theorem c25 : COk Try.prog 25 g25 := by
  refine cok_q Try.func25 x25_ok (by kernel_rfl) (cok_tab (cok_cons c53 (cok_cons c54 cok_nil))) ?_
  intro args_ E_ nn_ cr_ hg_
  unfold g25 at hg_
  split at hg_
  · rename_i c_X c_Y
    cases hg_
    refine ⟨_, _, rfl, 0, [], [.a [.v (.int .i64 c_X), .v (.int .i64 c_Y)]], [], .t [.a [.v (.int .i64 (mI (sqB c_X c_Y) (c_X * 64))), .v (.int .i64 (mI (sqB c_X c_Y) (c_Y * 64))), .v (.int .i64 (mI (sqB c_X c_Y) (c_X * 64 + 64))), .v (.int .i64 (mI (sqB c_X c_Y) (c_Y * 64 + 64)))], .c (.v (.bool (sqB c_X c_Y)))], rfl, rfl, by simp only [push_cast, Nat.reduceLT, Nat.reduceAdd], by simp only [push_cast, Nat.reduceLT, Nat.reduceAdd], by simp only [push_cast, Nat.reduceLT, Nat.reduceAdd], rfl, trivial, rfl, ?_⟩
    intro hpre hlen
    refine ⟨trivial, ?_⟩
    simp (config := {maxSteps := 10000000}) only [x25, push_cast, Nat.reduceAdd, Nat.reduceSub, Nat.reduceLeDiff, Nat.reduceEqDiff, Nat.reduceBEq, Nat.reduceMul, Nat.reduceLT, ↓reduceIte, reduceCtorEq, Int.reduceLE, Int.reduceLT, Int.reduceEq, Int.reduceMul, Int.reduceAdd, Int.reduceSub, Int.reduceNeg, Int.reduceToNat, Int.reduceNe, g53, g54]
    refine ⟨fun h => by rw [sq_f h]; simp [mI], fun h1 h2 h3 h4 => ⟨by omega, ?_⟩⟩
    rw [sq_t h1 h2 h3 h4]
    simp [mI]
  · cases hg_
/-- wayfinder/plan.Of -/
def g22 : Con := fun args_ E_ nn_ => match args_ with
  | [.a [.v (.int .i64 p_X), .v (.int .i64 p_Y)]] => some (.q (True) (.t [.a [.v (.int .i64 (mI (pPtB p_X p_Y) (p_X / 64))), .v (.int .i64 (mI (pPtB p_X p_Y) (p_Y / 64)))], .c (.v (.bool (pPtB p_X p_Y)))]))
  | _ => none
theorem c22 : COk Try.prog 22 g22 := by
  refine cok_q Try.func22 x22_ok (by kernel_rfl) (cok_tab (cok_cons c50 (cok_cons c51 cok_nil))) ?_
  intro args_ E_ nn_ cr_ hg_
  unfold g22 at hg_
  split at hg_
  · rename_i p_X p_Y
    cases hg_
    refine ⟨_, _, rfl, 0, [], [.a [.v (.int .i64 p_X), .v (.int .i64 p_Y)]], [], .t [.a [.v (.int .i64 (mI (pPtB p_X p_Y) (p_X / 64))), .v (.int .i64 (mI (pPtB p_X p_Y) (p_Y / 64)))], .c (.v (.bool (pPtB p_X p_Y)))], rfl, rfl, by simp only [push_cast, Nat.reduceLT, Nat.reduceAdd], by simp only [push_cast, Nat.reduceLT, Nat.reduceAdd], by simp only [push_cast, Nat.reduceLT, Nat.reduceAdd], rfl, trivial, rfl, ?_⟩
    intro hpre hlen
    refine ⟨trivial, ?_⟩
    simp (config := {maxSteps := 10000000}) only [x22, push_cast, Nat.reduceAdd, Nat.reduceSub, Nat.reduceLeDiff, Nat.reduceEqDiff, Nat.reduceBEq, Nat.reduceMul, Nat.reduceLT, ↓reduceIte, reduceCtorEq, Int.reduceLE, Int.reduceLT, Int.reduceEq, Int.reduceMul, Int.reduceAdd, Int.reduceSub, Int.reduceNeg, Int.reduceToNat, Int.reduceNe, g50, g51]
    refine ⟨fun h => by rw [h]; simp [mI], fun h => ?_⟩
    have a := pRect_bd (pPt_rect h)
    refine ⟨by omega, by omega, by rfl, ?_⟩
    rw [h]
    simp [mI]
  · cases hg_
end Go.Proofs.Ytiijdbpncpdmdaa
