/- A part of the proof of a statement about this seat: how a function is stepped through, and plain laws. No conditions. -/
import Derived.Test.YtnkkhmeojifckaaRows
import Derived.Test.YtnkkhmeojifckaaTBSz4
import Derived.Test.YtnkkhmeojifckaaTBQ1
import Derived.KernelRfl
set_option linter.unusedVariables false
set_option linter.unusedSimpArgs false
set_option maxRecDepth 20000
namespace Go.Proofs.Ytnkkhmeojifckaa
open Go.Sx
def x42 : XFn := ⟨9, (.seq (.reg false [K1 2 .mv (.bool false)]) (.seq (.reg false [O1 3 .mv 0, K2 4 (.bin .geq) 3 (iV 1), O1 5 .mv 4, G1 6 .mv 0 5 true, GK 7 (.bin .leq) 6 (iV 64) 5 true, ⟨(some 8), .pick, [(.t 5), (.t 7), (.k (.bool false))], none⟩, O1 2 .mv 8]) .ret)), [(.s 2)]⟩
theorem x42_ok : xfn Try.prog Try.f42 = some x42.er := by kernel_rfl
def x43L0 : XC := (.seq (.seq (.reg false [O1 12 .mv 4, O1 13 .mv 0, O1 14 .lenS 13, O2 15 (.bin .lss) 12 14]) (.cond (.t 15) .skip (.exit 0))) (.seq (.block 1 (.reg false [O1 18 .mv 3, O1 19 .mv 0, O1 20 .mv 4, O2 21 (.ixS 1) 19 20, O1 22 .load1 21, O2 23 .maxI 18 22, O1 3 .mv 23])) (.reg false [O1 16 .mv 4, K2 17 (.bin .add) 16 (iV 1), O1 4 .mv 17])))
def x43 : XFn := ⟨25, (.seq (.reg false [K1 2 .mv (.int .u8 0)]) (.seq (.seq (.reg false [O1 5 .mv 0, O1 6 .lenS 5, K2 7 (.bin .lss) 6 (iV 1)]) (.cond (.t 7) (.reg false [⟨(some 8), .other, [], none⟩, ⟨none, .other, [], none⟩]) .skip)) (.seq (.reg false [O1 9 .mv 0, K2 10 (.ixS 1) 9 (iV 0), O1 11 .load1 10, O1 3 .mv 11]) (.seq (.seq (.reg false [K1 4 .mv (iV 1)]) (.block 0 (.loop x43L0))) (.seq (.reg false [O1 24 .mv 3, O1 2 .mv 24]) .ret))))), [(.s 2)]⟩
theorem x43_ok : xfn Try.prog Try.f43 = some x43.er := by kernel_rfl
def x33 : XFn := ⟨34, (.seq (.reg false [O1 1 (.box 24) 0, K1 2 .mv (.bool false)]) (.seq (.seq (.reg false [O1 3 (.fld 0) 1, O1 4 .load1 3, O1 5 (.call 42) 4, O1 6 (.un .not) 5, O1 7 .mv 6, G1 8 (.fld 1) 1 7 false, G1 9 .load1 8 7 false, G1 10 (.call 42) 9 7 false, G1 11 (.un .not) 10 7 false, ⟨(some 12), .pick, [(.t 7), (.k (.bool true)), (.t 11)], none⟩, O1 13 .mv 12, G1 14 (.fld 2) 1 13 false, G1 15 .load1 14 13 false, G1 16 .lenS 15 13 false, G1 17 (.fld 0) 1 13 false, G1 18 .load1 17 13 false, G1 19 (.fld 1) 1 13 false, G1 20 .load1 19 13 false, G2 21 (.bin .mul) 18 20 13 false, G2 22 (.bin .neq) 16 21 13 false, ⟨(some 23), .pick, [(.t 13), (.k (.bool true)), (.t 22)], none⟩]) (.cond (.t 23) (.seq (.reg false [K1 2 .mv (.bool false)]) .ret) .skip)) (.seq (.reg false [O1 24 (.fld 2) 1, O1 25 .load1 24, O1 26 .lenS 25, K2 27 (.bin .eql) 26 (iV 0), O1 28 .mv 27, G1 29 (.fld 2) 1 28 false, G1 30 .load1 29 28 false, G1 31 (.call 43) 30 28 false, GK 32 (.bin .leq) 31 (.int .u8 2) 28 false, ⟨(some 33), .pick, [(.t 28), (.k (.bool true)), (.t 32)], none⟩, O1 2 .mv 33]) .ret))), [(.s 2)]⟩
theorem x33_ok : xfn Try.prog Try.f33 = some x33.er := by kernel_rfl
def maxK (L : List Int) : Nat → Int
  | 0 => L.getD 0 eU8.dflt
  | k + 1 => max (maxK L k) (L.getD k eU8.dflt)
theorem maxK_le {L : List Int} {m : Int} : ∀ {k : Nat}, 1 ≤ k → k ≤ L.length → (maxK L k ≤ m ↔ ∀ i, i < k → L.getD i eU8.dflt ≤ m)
  | 1, _, h => by
    simp only [maxK]
    constructor
    · intro h1 i hi; obtain rfl : i = 0 := by omega
      omega
    · intro h1; have := h1 0 (by omega); omega
  | k + 2, _, h => by
    have ih := maxK_le (L := L) (m := m) (k := k + 1) (by omega) (by omega)
    have e : maxK L (k + 2) = max (maxK L (k + 1)) (L.getD (k + 1) eU8.dflt) := rfl
    rw [e]
    constructor
    · intro h1 i hi
      by_cases hik : i = k + 1
      · subst hik; omega
      · exact ih.1 (by omega) i (by omega)
    · intro h1
      have := ih.2 (fun i hi => h1 i (by omega))
      have := h1 (k + 1) (by omega)
      omega
theorem getD_all {L : List Int} {p : Int → Prop} (d : Int) : (∀ i, i < L.length → p (L.getD i d)) ↔ ∀ x ∈ L, p x := by
  constructor
  · intro h x hx
    obtain ⟨i, hi, rfl⟩ := List.getElem_of_mem hx
    have := h i hi
    rwa [List.getD_eq_getElem?_getD, List.getElem?_eq_getElem hi] at this
  · intro h i hi
    rw [List.getD_eq_getElem?_getD, List.getElem?_eq_getElem hi]
    exact h _ (List.getElem_mem hi)
def planB (W H : Int) (L : List Int) : Bool := decide ((1 ≤ W ∧ W ≤ 64) ∧ (1 ≤ H ∧ H ≤ 64) ∧ (L.length : Int) = W * H) && decide (∀ x ∈ L, x ≤ 2)
def sizeB (n : Int) : Bool := decide (1 ≤ n ∧ n ≤ 64)
def u8s (L : List Int) : Prop := ∀ x ∈ L, 0 ≤ x ∧ x ≤ 255
theorem mulWH {W H : Int} (h1 : 1 ≤ W ∧ W ≤ 64) (h2 : 1 ≤ H ∧ H ≤ 64) : 1 ≤ W * H ∧ W * H ≤ 4096 := by
  have e1 : 1 * 1 ≤ W * H := Int.mul_le_mul h1.1 h2.1 (by omega) (by omega)
  have e2 : W * H ≤ 64 * 64 := Int.mul_le_mul h1.2 h2.2 (by omega) (by omega)
  omega
def g42 : Con := fun args_ E_ nn_ => match args_ with
  | [.c (.v (.int .i64 n))] => some (.q (True) (.o (.c (.v (.bool (sizeB n))))))
  | _ => none
theorem c42 : COk Try.prog 42 g42 := by
  refine cok_q Try.func42 x42_ok (by kernel_rfl) (cok_tab cok_nil) ?_
  intro args_ E_ nn_ cr_ hg_
  unfold g42 at hg_
  split at hg_
  · rename_i n
    cases hg_
    refine ⟨_, _, rfl, 0, [], [.c (.v (.int .i64 n))], [], .o (.c (.v (.bool (sizeB n)))), rfl, rfl, by simp only [push_cast, Nat.reduceLT, Nat.reduceAdd], by simp only [push_cast, Nat.reduceLT, Nat.reduceAdd], by simp only [push_cast, Nat.reduceLT, Nat.reduceAdd], rfl, trivial, rfl, ?_⟩
    intro hpre hlen
    refine ⟨trivial, ?_⟩
    simp (config := {maxSteps := 10000000}) only [x42, push_cast, Nat.reduceAdd, Nat.reduceSub, Nat.reduceLeDiff, Nat.reduceEqDiff, Nat.reduceBEq, Nat.reduceMul, Nat.reduceLT, reduceIte, reduceCtorEq, Int.reduceLE, Int.reduceLT, Int.reduceEq, Int.reduceMul, Int.reduceAdd, Int.reduceSub, Int.reduceNeg, Int.reduceToNat, Int.reduceNe]
    rw [Bool.eq_iff_iff]
    simp [sizeB]
    try omega
  · cases hg_
def g43 : Con := fun args_ E_ nn_ => match args_ with
  | [.c (.n x)] => (match rowOf E_ x with
    | some (x_n, x_s, x_f) => some (.q (isRow eU8 x_n x_s x_f ∧ 0 < ((decL eU8 x_n x_f)).length ∧ ((decL eU8 x_n x_f)).length ≤ 281474976709) (.o (.c (.v (.int .u8 (maxK (decL eU8 x_n x_f) ((decL eU8 x_n x_f)).length))))))
    | none => none)
  | _ => none
theorem c43 : COk Try.prog 43 g43 := by
  refine cok_q Try.func43 x43_ok (by kernel_rfl) (cok_tab cok_nil) ?_
  intro args_ E_ nn_ cr_ hg_
  unfold g43 at hg_
  split at hg_
  · rename_i x
    split at hg_
    · rename_i x_n x_s x_f h_x
      cases hg_
      refine ⟨_, _, rfl, 1, [x], [.c (.n 0)], [(0, .ro (decL eU8 x_n x_f).length eU8.sz (rowF eU8 (decL eU8 x_n x_f)))], .o (.c (.v (.int .u8 (maxK (decL eU8 x_n x_f) ((decL eU8 x_n x_f)).length)))), rfl, rfl, by simp only [push_cast, Nat.reduceLT, Nat.reduceAdd], by simp only [push_cast, Nat.reduceLT, Nat.reduceAdd], by simp only [push_cast, Nat.reduceLT, Nat.reduceAdd], rfl, ⟨inE0_row h_x, trivial⟩, rfl, ?_⟩
      intro hpre hlen
      obtain ⟨i_x, hpre⟩ := hpre
      refine ⟨⟨inE_row h_x i_x, trivial⟩, ?_⟩
      have z_x := lens_row (E := eU8) hlen h_x
      clear i_x
      generalize decL eU8 x_n x_f = xL at *
      clear h_x
      simp (config := {maxSteps := 10000000}) only [x43, push_cast, Nat.reduceAdd, Nat.reduceSub, Nat.reduceLeDiff, Nat.reduceEqDiff, Nat.reduceBEq, Nat.reduceMul, Nat.reduceLT, reduceIte, reduceCtorEq, Int.reduceLE, Int.reduceLT, Int.reduceEq, Int.reduceMul, Int.reduceAdd, Int.reduceSub, Int.reduceNeg, Int.reduceToNat, Int.reduceNe]
      refine ⟨by omega, fun _ => ⟨by omega, by omega, ?_⟩⟩
      refine vcLoop_upd (α := {k : Nat // 1 ≤ k ∧ k ≤ xL.length}) [0] 0 (fun s => [(3, .o (.c (.v (.int .u8 (maxK xL s.1))))), (4, .o (.c (.v (.int .i64 (s.1 : Nat)))))]) (fun s => []) (fun s => xL.length - s.1) ⟨1, by omega, by omega⟩ ?_ ?_
      · simp only [push_cast, Nat.reduceAdd, Nat.reduceSub, Nat.reduceLeDiff, Nat.reduceEqDiff, Nat.reduceBEq, Nat.reduceMul, Nat.reduceLT, reduceIte, reduceCtorEq, Int.reduceLE, Int.reduceLT, Int.reduceEq, Int.reduceMul, Int.reduceAdd, Int.reduceSub, Int.reduceNeg, Int.reduceToNat, Int.reduceNe, maxK]
        omega
      · rintro ⟨k, hk1, hk2⟩
        simp only [x43L0, push_cast, Nat.reduceAdd, Nat.reduceSub, Nat.reduceLeDiff, Nat.reduceEqDiff, Nat.reduceBEq, Nat.reduceMul, Nat.reduceLT, reduceIte, reduceCtorEq, Int.reduceLE, Int.reduceLT, Int.reduceEq, Int.reduceMul, Int.reduceAdd, Int.reduceSub, Int.reduceNeg, Int.reduceToNat, Int.reduceNe]
        refine ⟨fun hlt => ⟨hlt, hlt, ⟨k + 1, by omega, by omega⟩, ⟨rfl, by rw [wrapI (by omega) (by omega)]; rfl⟩, by simp only; omega⟩, fun hge => ?_⟩
        obtain rfl : k = xL.length := by omega
        rfl
    · cases hg_
  · cases hg_
def g33 : Con := fun args_ E_ nn_ => match args_ with
  | [.a [.v (.int .i64 p_W), .v (.int .i64 p_H), .n p_Cells]] => (match rowOf E_ p_Cells with
    | some (p_Cells_n, p_Cells_s, p_Cells_f) => some (.q (isRow eU8 p_Cells_n p_Cells_s p_Cells_f ∧ True) (.o (.c (.v (.bool (planB p_W p_H (decL eU8 p_Cells_n p_Cells_f)))))))
    | none => none)
  | _ => none
theorem c33 : COk Try.prog 33 g33 := by
  refine cok_q Try.func33 x33_ok (by kernel_rfl) (cok_tab (cok_cons c42 (cok_cons c43 cok_nil))) ?_
  intro args_ E_ nn_ cr_ hg_
  unfold g33 at hg_
  split at hg_
  · rename_i p_W p_H p_Cells
    split at hg_
    · rename_i p_Cells_n p_Cells_s p_Cells_f h_p_Cells
      cases hg_
      refine ⟨_, _, rfl, 1, [p_Cells], [.a [.v (.int .i64 p_W), .v (.int .i64 p_H), .n 0]], [(0, .ro (decL eU8 p_Cells_n p_Cells_f).length eU8.sz (rowF eU8 (decL eU8 p_Cells_n p_Cells_f)))], .o (.c (.v (.bool (planB p_W p_H (decL eU8 p_Cells_n p_Cells_f))))), rfl, rfl, by simp only [push_cast, Nat.reduceLT, Nat.reduceAdd], by simp only [push_cast, Nat.reduceLT, Nat.reduceAdd], by simp only [push_cast, Nat.reduceLT, Nat.reduceAdd], rfl, ⟨inE0_row h_p_Cells, trivial⟩, rfl, ?_⟩
      intro hpre hlen
      obtain ⟨i_p_Cells, hpre⟩ := hpre
      refine ⟨⟨inE_row h_p_Cells i_p_Cells, trivial⟩, ?_⟩
      have z_p_Cells := lens_row (E := eU8) hlen h_p_Cells
      clear i_p_Cells
      generalize decL eU8 p_Cells_n p_Cells_f = p_CellsL at *
      clear h_p_Cells
      simp (config := {maxSteps := 10000000}) only [x33, push_cast, Nat.reduceAdd, Nat.reduceSub, Nat.reduceLeDiff, Nat.reduceEqDiff, Nat.reduceBEq, Nat.reduceMul, Nat.reduceLT, reduceIte, reduceCtorEq, Int.reduceLE, Int.reduceLT, Int.reduceEq, Int.reduceMul, Int.reduceAdd, Int.reduceSub, Int.reduceNeg, Int.reduceToNat, Int.reduceNe, g42, g43]
      refine ⟨fun h => ?_, fun h1 h2 h3 => ?_⟩
      · symm
        unfold planB
        rw [Bool.and_eq_false_iff, decide_eq_false_iff_not]
        refine .inl fun ⟨k1, k2, k3⟩ => ?_
        have := mulWH k1 k2
        rw [wrapI (n := p_W * p_H) (by omega) (by omega)] at h
        unfold sizeB at h
        rw [decide_eq_false_iff_not, decide_eq_false_iff_not] at h
        omega
      · simp only [sizeB, decide_eq_true_eq] at h1 h2
        have hm := mulWH h1 h2
        rw [wrapI (n := p_W * p_H) (by omega) (by omega)] at h3
        refine ⟨fun _ => ⟨by omega, by omega, by omega⟩, ?_⟩
        unfold planB
        rw [decide_eq_true (p := (1 ≤ p_W ∧ p_W ≤ 64) ∧ (1 ≤ p_H ∧ p_H ≤ 64) ∧ (p_CellsL.length : Int) = p_W * p_H) ⟨h1, h2, h3⟩, Bool.true_and]
        have : ((p_CellsL.length : Int) == 0) = false := by rw [beq_eq_false_iff_ne]; omega
        rw [this, Bool.false_or, decide_eq_decide, maxK_le (by omega) (Nat.le_refl _)]
        exact getD_all (p := fun x => x ≤ 2) eU8.dflt
    · cases hg_
  · cases hg_
end Go.Proofs.Ytnkkhmeojifckaa
namespace Go.Proofs.Ytnkkhmeojifckaa
open Go.Sx
theorem planB_at {W H : Int} {L : List Int} (h : planB W H L = true) : (1 ≤ W ∧ W ≤ 64) ∧ (1 ≤ H ∧ H ≤ 64) ∧ (L.length : Int) = W * H ∧ (1 ≤ L.length ∧ L.length ≤ 4096) ∧ ∀ i, i < L.length → L.getD i eU8.dflt ≤ 2 := by
  simp only [planB, Bool.and_eq_true, decide_eq_true_eq] at h
  obtain ⟨⟨h1, h2, h3⟩, h4⟩ := h
  have := mulWH h1 h2
  exact ⟨h1, h2, h3, by omega, (getD_all (p := fun x => x ≤ 2) eU8.dflt).2 h4⟩
end Go.Proofs.Ytnkkhmeojifckaa
namespace Go.Proofs.Ytnkkhmeojifckaa
open Go.Sx
end Go.Proofs.Ytnkkhmeojifckaa
namespace Go.Proofs.Ytnkkhmeojifckaa
open Go.Sx
end Go.Proofs.Ytnkkhmeojifckaa
namespace Go.Proofs.Ytnkkhmeojifckaa
open Go.Sx
def insB (W H x y : Int) : Bool := decide ((0 ≤ x ∧ x < W) ∧ 0 ≤ y ∧ y < H)
def atB (W H : Int) (L : List Int) (x y : Int) : Int := if planB W H L = false then 0 else if insB W H x y = false then 2 else L.getD (y * W + x).toNat eU8.dflt
theorem idx_bd {W H : Int} {L : List Int} {x y : Int} (h : planB W H L = true) (hi : insB W H x y = true) : (0 ≤ y * W ∧ y * W ≤ 4096) ∧ 0 ≤ y * W + x ∧ y * W + x < L.length ∧ (1 ≤ L.length ∧ L.length ≤ 4096) := by
  have hp := planB_at h
  simp only [insB, decide_eq_true_eq] at hi
  have e : (y + 1) * W ≤ H * W := Int.mul_le_mul_of_nonneg_right (by omega) (by omega)
  have e2 : 0 ≤ y * W := Int.mul_nonneg (by omega) (by omega)
  have e3 : H * W = W * H := Int.mul_comm _ _
  rw [Int.add_mul] at e
  omega
theorem planB_no {W H : Int} {L : List Int} {k : Nat} (hk : k < L.length) (h : 2 < L.getD k eU8.dflt) : planB W H L = false := by
  rw [Bool.eq_false_iff]
  intro h2
  have := (planB_at h2).2.2.2.2 k hk
  omega
theorem planB_yes {W H : Int} {L : List Int} (h1 : 1 ≤ W ∧ W ≤ 64) (h2 : 1 ≤ H ∧ H ≤ 64) (h3 : (L.length : Int) = W * H) (h : ∀ i, i < L.length → L.getD i eU8.dflt ≤ 2) : planB W H L = true := by
  simp only [planB, Bool.and_eq_true, decide_eq_true_eq]
  exact ⟨⟨h1, h2, h3⟩, (getD_all (p := fun x => x ≤ 2) eU8.dflt).1 h⟩
def x14L0 : XC := (.seq (.seq (.reg false [O1 33 .mv 3, O1 34 (.fld 2) 1, O1 35 .load1 34, O1 36 .lenS 35, O2 37 (.bin .lss) 33 36]) (.cond (.t 37) .skip (.exit 0))) (.seq (.block 1 (.seq (.reg false [O1 40 (.fld 2) 1, O1 41 .load1 40, O1 42 .mv 3, O2 43 (.ixS 1) 41 42, O1 44 .load1 43, K2 45 (.bin .gtr) 44 (.int .u8 2)]) (.cond (.t 45) (.seq (.reg false [K1 2 .mv (.bool false)]) .ret) .skip))) (.reg false [O1 38 .mv 3, K2 39 (.bin .add) 38 (iV 1), O1 3 .mv 39])))
def x14 : XFn := ⟨46, (.seq (.reg false [O1 1 (.box 24) 0, K1 2 .mv (.bool false)]) (.seq (.seq (.reg false [O1 4 (.fld 0) 1, O1 5 .load1 4, K2 6 (.bin .lss) 5 (iV 1), O1 7 .mv 6, G1 8 (.fld 0) 1 7 false, G1 9 .load1 8 7 false, GK 10 (.bin .gtr) 9 (iV 64) 7 false, ⟨(some 11), .pick, [(.t 7), (.k (.bool true)), (.t 10)], none⟩, O1 12 .mv 11, G1 13 (.fld 1) 1 12 false, G1 14 .load1 13 12 false, GK 15 (.bin .lss) 14 (iV 1) 12 false, ⟨(some 16), .pick, [(.t 12), (.k (.bool true)), (.t 15)], none⟩, O1 17 .mv 16, G1 18 (.fld 1) 1 17 false, G1 19 .load1 18 17 false, GK 20 (.bin .gtr) 19 (iV 64) 17 false, ⟨(some 21), .pick, [(.t 17), (.k (.bool true)), (.t 20)], none⟩, O1 22 .mv 21, G1 23 (.fld 2) 1 22 false, G1 24 .load1 23 22 false, G1 25 .lenS 24 22 false, G1 26 (.fld 0) 1 22 false, G1 27 .load1 26 22 false, G1 28 (.fld 1) 1 22 false, G1 29 .load1 28 22 false, G2 30 (.bin .mul) 27 29 22 false, G2 31 (.bin .neq) 25 30 22 false, ⟨(some 32), .pick, [(.t 22), (.k (.bool true)), (.t 31)], none⟩]) (.cond (.t 32) (.seq (.reg false [K1 2 .mv (.bool false)]) .ret) .skip)) (.seq (.seq (.reg false [K1 3 .mv (iV 0)]) (.block 0 (.loop x14L0))) (.seq (.reg false [K1 2 .mv (.bool true)]) .ret)))), [(.s 2)]⟩
theorem x14_ok : xfn Try.prog Try.f14 = some x14.er := by kernel_rfl
def x36 : XFn := ⟨27, (.seq (.reg false [O1 2 (.box 24) 0, O1 3 (.box 26) 1, K1 4 .mv (.bool false)]) (.seq (.reg false [O1 5 (.fld 0) 3, O1 6 .load1 5, K2 7 (.bin .geq) 6 (iV 0), O1 8 .mv 7, G1 9 (.fld 0) 3 8 true, G1 10 .load1 9 8 true, G1 11 (.fld 0) 2 8 true, G1 12 .load1 11 8 true, G2 13 (.bin .lss) 10 12 8 true, ⟨(some 14), .pick, [(.t 8), (.t 13), (.k (.bool false))], none⟩, O1 15 .mv 14, G1 16 (.fld 1) 3 15 true, G1 17 .load1 16 15 true, GK 18 (.bin .geq) 17 (iV 0) 15 true, ⟨(some 19), .pick, [(.t 15), (.t 18), (.k (.bool false))], none⟩, O1 20 .mv 19, G1 21 (.fld 1) 3 20 true, G1 22 .load1 21 20 true, G1 23 (.fld 1) 2 20 true, G1 24 .load1 23 20 true, G2 25 (.bin .lss) 22 24 20 true, ⟨(some 26), .pick, [(.t 20), (.t 25), (.k (.bool false))], none⟩, O1 4 .mv 26]) .ret)), [(.s 4)]⟩
theorem x36_ok : xfn Try.prog Try.f36 = some x36.er := by kernel_rfl
def x15 : XFn := ⟨21, (.seq (.reg false [O1 2 (.box 24) 0, O1 3 (.box 26) 1, K1 4 .mv (.int .u8 0)]) (.seq (.seq (.reg false [O1 5 (.loadN 3) 2, O1 6 (.loadN 2) 3, O2 7 (.call 36) 5 6, O1 8 (.un .not) 7]) (.cond (.t 8) (.seq (.reg false [K1 4 .mv (.int .u8 2)]) .ret) .skip)) (.seq (.reg false [O1 9 (.fld 2) 2, O1 10 .load1 9, O1 11 (.fld 1) 3, O1 12 .load1 11, O1 13 (.fld 0) 2, O1 14 .load1 13, O2 15 (.bin .mul) 12 14, O1 16 (.fld 0) 3, O1 17 .load1 16, O2 18 (.bin .add) 15 17, O2 19 (.ixS 1) 10 18, O1 20 .load1 19, O1 4 .mv 20]) .ret))), [(.s 4)]⟩
theorem x15_ok : xfn Try.prog Try.f15 = some x15.er := by kernel_rfl
def g14 : Con := fun args_ E_ nn_ => match args_ with
  | [.a [.v (.int .i64 p_W), .v (.int .i64 p_H), .n p_Cells]] => (match rowOf E_ p_Cells with
    | some (p_Cells_n, p_Cells_s, p_Cells_f) => some (.q (isRow eU8 p_Cells_n p_Cells_s p_Cells_f ∧ True) (.o (.c (.v (.bool (planB p_W p_H (decL eU8 p_Cells_n p_Cells_f)))))))
    | none => none)
  | _ => none
theorem c14 : COk Try.prog 14 g14 := by
  refine cok_q Try.func14 x14_ok (by kernel_rfl) (cok_tab cok_nil) ?_
  intro args_ E_ nn_ cr_ hg_
  unfold g14 at hg_
  split at hg_
  · rename_i p_W p_H p_Cells
    split at hg_
    · rename_i p_Cells_n p_Cells_s p_Cells_f h_p_Cells
      cases hg_
      refine ⟨_, _, rfl, 1, [p_Cells], [.a [.v (.int .i64 p_W), .v (.int .i64 p_H), .n 0]], [(0, .ro (decL eU8 p_Cells_n p_Cells_f).length eU8.sz (rowF eU8 (decL eU8 p_Cells_n p_Cells_f)))], .o (.c (.v (.bool (planB p_W p_H (decL eU8 p_Cells_n p_Cells_f))))), rfl, rfl, by simp only [push_cast, Nat.reduceLT, Nat.reduceAdd], by simp only [push_cast, Nat.reduceLT, Nat.reduceAdd], by simp only [push_cast, Nat.reduceLT, Nat.reduceAdd], rfl, ⟨inE0_row h_p_Cells, trivial⟩, rfl, ?_⟩
      intro hpre hlen
      obtain ⟨i_p_Cells, hpre⟩ := hpre
      refine ⟨⟨inE_row h_p_Cells i_p_Cells, trivial⟩, ?_⟩
      have z_p_Cells := lens_row (E := eU8) hlen h_p_Cells
      clear i_p_Cells
      generalize decL eU8 p_Cells_n p_Cells_f = p_CellsL at *
      clear h_p_Cells
      simp (config := {maxSteps := 10000000}) only [x14, push_cast, Nat.reduceAdd, Nat.reduceSub, Nat.reduceLeDiff, Nat.reduceEqDiff, Nat.reduceBEq, Nat.reduceMul, Nat.reduceLT, reduceIte, reduceCtorEq, Int.reduceLE, Int.reduceLT, Int.reduceEq, Int.reduceMul, Int.reduceAdd, Int.reduceSub, Int.reduceNeg, Int.reduceToNat, Int.reduceNe]
      refine ⟨fun h => ?_, fun a1 a2 a3 a4 h3 => ?_⟩
      · symm
        unfold planB
        rw [Bool.and_eq_false_iff, decide_eq_false_iff_not]
        refine .inl fun ⟨k1, k2, k3⟩ => ?_
        have := mulWH k1 k2
        rw [wrapI (n := p_W * p_H) (by omega) (by omega)] at h
        omega
      have hm := mulWH (W := p_W) (H := p_H) (by omega) (by omega)
      rw [wrapI (n := p_W * p_H) (by omega) (by omega)] at h3
      refine vcLoop_upd (α := {k : Nat // k ≤ p_CellsL.length ∧ ∀ i, i < k → p_CellsL.getD i eU8.dflt ≤ 2}) [1] 0 (fun s => [(3, .o (.c (.v (.int .i64 (s.1 : Nat)))))]) (fun s => []) (fun s => p_CellsL.length - s.1) ⟨0, by omega, fun i hi => by omega⟩ ?_ ?_
      · simp only [push_cast, Nat.reduceAdd, Nat.reduceSub, Nat.reduceLeDiff, Nat.reduceEqDiff, Nat.reduceBEq, Nat.reduceMul, Nat.reduceLT, reduceIte, reduceCtorEq, Int.reduceLE, Int.reduceLT, Int.reduceEq, Int.reduceMul, Int.reduceAdd, Int.reduceSub, Int.reduceNeg, Int.reduceToNat, Int.reduceNe]
      · rintro ⟨k, hk, hall⟩
        simp only [x14L0, push_cast, Nat.reduceAdd, Nat.reduceSub, Nat.reduceLeDiff, Nat.reduceEqDiff, Nat.reduceBEq, Nat.reduceMul, Nat.reduceLT, reduceIte, reduceCtorEq, Int.reduceLE, Int.reduceLT, Int.reduceEq, Int.reduceMul, Int.reduceAdd, Int.reduceSub, Int.reduceNeg, Int.reduceToNat, Int.reduceNe]
        refine ⟨fun h => ⟨h, h, fun g => (planB_no h g).symm, fun g => ⟨⟨k + 1, by omega, fun i hi => ?_⟩, wrapI (by omega) (by omega), by simp only; omega⟩⟩, fun h => (planB_yes (by omega) (by omega) h3 fun i hi => hall i (by omega)).symm⟩
        by_cases e : i = k
        · subst e; omega
        · exact hall i (by omega)
    · cases hg_
  · cases hg_
def g36 : Con := fun args_ E_ nn_ => match args_ with
  | [.a [.v (.int .i64 p_W), .v (.int .i64 p_H), .n p_Cells], .a [.v (.int .i64 c_X), .v (.int .i64 c_Y)]] => (match rowOf E_ p_Cells with
    | some (p_Cells_n, p_Cells_s, p_Cells_f) => some (.q (isRow eU8 p_Cells_n p_Cells_s p_Cells_f ∧ True) (.o (.c (.v (.bool (insB p_W p_H c_X c_Y))))))
    | none => none)
  | _ => none
theorem c36 : COk Try.prog 36 g36 := by
  refine cok_q Try.func36 x36_ok (by kernel_rfl) (cok_tab cok_nil) ?_
  intro args_ E_ nn_ cr_ hg_
  unfold g36 at hg_
  split at hg_
  · rename_i p_W p_H p_Cells c_X c_Y
    split at hg_
    · rename_i p_Cells_n p_Cells_s p_Cells_f h_p_Cells
      cases hg_
      refine ⟨_, _, rfl, 1, [p_Cells], [.a [.v (.int .i64 p_W), .v (.int .i64 p_H), .n 0], .a [.v (.int .i64 c_X), .v (.int .i64 c_Y)]], [(0, .ro (decL eU8 p_Cells_n p_Cells_f).length eU8.sz (rowF eU8 (decL eU8 p_Cells_n p_Cells_f)))], .o (.c (.v (.bool (insB p_W p_H c_X c_Y)))), rfl, rfl, by simp only [push_cast, Nat.reduceLT, Nat.reduceAdd], by simp only [push_cast, Nat.reduceLT, Nat.reduceAdd], by simp only [push_cast, Nat.reduceLT, Nat.reduceAdd], rfl, ⟨inE0_row h_p_Cells, trivial⟩, rfl, ?_⟩
      intro hpre hlen
      obtain ⟨i_p_Cells, hpre⟩ := hpre
      refine ⟨⟨inE_row h_p_Cells i_p_Cells, trivial⟩, ?_⟩
      have z_p_Cells := lens_row (E := eU8) hlen h_p_Cells
      clear i_p_Cells
      generalize decL eU8 p_Cells_n p_Cells_f = p_CellsL at *
      clear h_p_Cells
      simp (config := {maxSteps := 10000000}) only [x36, push_cast, Nat.reduceAdd, Nat.reduceSub, Nat.reduceLeDiff, Nat.reduceEqDiff, Nat.reduceBEq, Nat.reduceMul, Nat.reduceLT, reduceIte, reduceCtorEq, Int.reduceLE, Int.reduceLT, Int.reduceEq, Int.reduceMul, Int.reduceAdd, Int.reduceSub, Int.reduceNeg, Int.reduceToNat, Int.reduceNe]
      rw [Bool.eq_iff_iff]
      simp [insB]
      try omega
    · cases hg_
  · cases hg_
def g15 : Con := fun args_ E_ nn_ => match args_ with
  | [.a [.v (.int .i64 p_W), .v (.int .i64 p_H), .n p_Cells], .a [.v (.int .i64 c_X), .v (.int .i64 c_Y)]] => (match rowOf E_ p_Cells with
    | some (p_Cells_n, p_Cells_s, p_Cells_f) => some (.q (isRow eU8 p_Cells_n p_Cells_s p_Cells_f ∧ planB p_W p_H (decL eU8 p_Cells_n p_Cells_f) = true) (.o (.c (.v (.int .u8 (atB p_W p_H (decL eU8 p_Cells_n p_Cells_f) c_X c_Y))))))
    | none => none)
  | _ => none
theorem c15 : COk Try.prog 15 g15 := by
  refine cok_q Try.func15 x15_ok (by kernel_rfl) (cok_tab (cok_cons c36 cok_nil)) ?_
  intro args_ E_ nn_ cr_ hg_
  unfold g15 at hg_
  split at hg_
  · rename_i p_W p_H p_Cells c_X c_Y
    split at hg_
    · rename_i p_Cells_n p_Cells_s p_Cells_f h_p_Cells
      cases hg_
      refine ⟨_, _, rfl, 1, [p_Cells], [.a [.v (.int .i64 p_W), .v (.int .i64 p_H), .n 0], .a [.v (.int .i64 c_X), .v (.int .i64 c_Y)]], [(0, .ro (decL eU8 p_Cells_n p_Cells_f).length eU8.sz (rowF eU8 (decL eU8 p_Cells_n p_Cells_f)))], .o (.c (.v (.int .u8 (atB p_W p_H (decL eU8 p_Cells_n p_Cells_f) c_X c_Y)))), rfl, rfl, by simp only [push_cast, Nat.reduceLT, Nat.reduceAdd], by simp only [push_cast, Nat.reduceLT, Nat.reduceAdd], by simp only [push_cast, Nat.reduceLT, Nat.reduceAdd], rfl, ⟨inE0_row h_p_Cells, trivial⟩, rfl, ?_⟩
      intro hpre hlen
      obtain ⟨i_p_Cells, hpre⟩ := hpre
      refine ⟨⟨inE_row h_p_Cells i_p_Cells, trivial⟩, ?_⟩
      have z_p_Cells := lens_row (E := eU8) hlen h_p_Cells
      clear i_p_Cells
      generalize decL eU8 p_Cells_n p_Cells_f = p_CellsL at *
      clear h_p_Cells
      simp (config := {maxSteps := 10000000}) only [x15, push_cast, Nat.reduceAdd, Nat.reduceSub, Nat.reduceLeDiff, Nat.reduceEqDiff, Nat.reduceBEq, Nat.reduceMul, Nat.reduceLT, reduceIte, reduceCtorEq, Int.reduceLE, Int.reduceLT, Int.reduceEq, Int.reduceMul, Int.reduceAdd, Int.reduceSub, Int.reduceNeg, Int.reduceToNat, Int.reduceNe, g36]
      refine ⟨fun g => by simp [atB, hpre, g], fun g => ?_⟩
      have h := hpre
      have k := idx_bd h g
      have hi := g
      simp only [insB, decide_eq_true_eq] at hi
      rw [wrapI (n := c_Y * p_W) (by omega) (by omega), wrapI (by omega) (by omega)]
      exact ⟨⟨by omega, by omega⟩, by omega, by simp [atB, h, g]⟩
    · cases hg_
  · cases hg_
end Go.Proofs.Ytnkkhmeojifckaa
namespace Go.Proofs.Ytnkkhmeojifckaa
open Go.Sx
end Go.Proofs.Ytnkkhmeojifckaa
