/- A part of the proof of a statement about this seat: how a function is stepped through, and plain laws. No conditions. -/
import Derived.Test.YtbjgaejmkhjbaaaRows
import Derived.Test.YtbjgaejmkhjbaaaSz3
import Derived.Test.YtbjgaejmkhjbaaaQ3
import Derived.Test.YtbjgaejmkhjbaaaW1
import Derived.KernelRfl
set_option linter.unusedVariables false
set_option linter.unusedSimpArgs false
set_option maxRecDepth 20000
namespace Go.Proofs.Ytbjgaejmkhjbaaa
open Go.Sx
def x74 : XFn := ⟨9, (.seq (.reg false [K1 2 .mv (.bool false)]) (.seq (.reg false [O1 3 .mv 0, K2 4 (.bin .geq) 3 (iV 1), O1 5 .mv 4, G1 6 .mv 0 5 true, GK 7 (.bin .leq) 6 (iV 64) 5 true, ⟨(some 8), .pick, [(.t 5), (.t 7), (.k (.bool false))], none⟩, O1 2 .mv 8]) .ret)), [(.s 2)]⟩
theorem x74_ok : xfn Try.prog Try.f74 = some x74.er := by kernel_rfl
def x78L0 : XC := (.seq (.seq (.reg false [O1 12 .mv 4, O1 13 .mv 0, O1 14 .lenS 13, O2 15 (.bin .lss) 12 14]) (.cond (.t 15) .skip (.exit 0))) (.seq (.block 1 (.reg false [O1 18 .mv 3, O1 19 .mv 0, O1 20 .mv 4, O2 21 (.ixS 1) 19 20, O1 22 .load1 21, O2 23 .maxI 18 22, O1 3 .mv 23])) (.reg false [O1 16 .mv 4, K2 17 (.bin .add) 16 (iV 1), O1 4 .mv 17])))
def x78 : XFn := ⟨25, (.seq (.reg false [K1 2 .mv (.int .u8 0)]) (.seq (.seq (.reg false [O1 5 .mv 0, O1 6 .lenS 5, K2 7 (.bin .lss) 6 (iV 1)]) (.cond (.t 7) (.reg false [⟨(some 8), .other, [], none⟩, ⟨none, .other, [], none⟩]) .skip)) (.seq (.reg false [O1 9 .mv 0, K2 10 (.ixS 1) 9 (iV 0), O1 11 .load1 10, O1 3 .mv 11]) (.seq (.seq (.reg false [K1 4 .mv (iV 1)]) (.block 0 (.loop x78L0))) (.seq (.reg false [O1 24 .mv 3, O1 2 .mv 24]) .ret))))), [(.s 2)]⟩
theorem x78_ok : xfn Try.prog Try.f78 = some x78.er := by kernel_rfl
def x45 : XFn := ⟨34, (.seq (.reg false [O1 1 (.box 46) 0, K1 2 .mv (.bool false)]) (.seq (.seq (.reg false [O1 3 (.fld 0) 1, O1 4 .load1 3, O1 5 (.call 74) 4, O1 6 (.un .not) 5, O1 7 .mv 6, G1 8 (.fld 1) 1 7 false, G1 9 .load1 8 7 false, G1 10 (.call 74) 9 7 false, G1 11 (.un .not) 10 7 false, ⟨(some 12), .pick, [(.t 7), (.k (.bool true)), (.t 11)], none⟩, O1 13 .mv 12, G1 14 (.fld 2) 1 13 false, G1 15 .load1 14 13 false, G1 16 .lenS 15 13 false, G1 17 (.fld 0) 1 13 false, G1 18 .load1 17 13 false, G1 19 (.fld 1) 1 13 false, G1 20 .load1 19 13 false, G2 21 (.bin .mul) 18 20 13 false, G2 22 (.bin .neq) 16 21 13 false, ⟨(some 23), .pick, [(.t 13), (.k (.bool true)), (.t 22)], none⟩]) (.cond (.t 23) (.seq (.reg false [K1 2 .mv (.bool false)]) .ret) .skip)) (.seq (.reg false [O1 24 (.fld 2) 1, O1 25 .load1 24, O1 26 .lenS 25, K2 27 (.bin .eql) 26 (iV 0), O1 28 .mv 27, G1 29 (.fld 2) 1 28 false, G1 30 .load1 29 28 false, G1 31 (.call 78) 30 28 false, GK 32 (.bin .leq) 31 (.int .u8 2) 28 false, ⟨(some 33), .pick, [(.t 28), (.k (.bool true)), (.t 32)], none⟩, O1 2 .mv 33]) .ret))), [(.s 2)]⟩
theorem x45_ok : xfn Try.prog Try.f45 = some x45.er := by kernel_rfl
def x43 : XFn := ⟨29, (.seq (.reg false [⟨(some 6), (.alloc 46 [(iV 0), (iV 0), (.slice none 0 0)]), [], none⟩, K1 7 .mv (iV 0)]) (.seq (.seq (.reg false [O1 8 .mv 0, O1 9 (.call 74) 8, O1 10 (.un .not) 9, O1 11 .mv 10, G1 12 .mv 1 11 false, G1 13 (.call 74) 12 11 false, G1 14 (.un .not) 13 11 false, ⟨(some 15), .pick, [(.t 11), (.k (.bool true)), (.t 14)], none⟩]) (.cond (.t 15) (.seq (.reg false [⟨(some 16), (.build [(iV 0), (iV 0), (.slice none 0 0)] []), [], none⟩, ⟨none, (.store 3), [(.t 6), (.t 16)], none⟩, K1 7 .mv (iV 2)]) .ret) .skip)) (.seq (.seq (.reg false [O1 17 .mv 2, K2 18 (.bin .gtr) 17 (.int .u8 2)]) (.cond (.t 18) (.seq (.reg false [⟨(some 19), (.build [(iV 0), (iV 0), (.slice none 0 0)] []), [], none⟩, ⟨none, (.store 3), [(.t 6), (.t 19)], none⟩, K1 7 .mv (iV 1)]) .ret) .skip)) (.seq (.reg false [O1 20 .mv 0, O1 21 .mv 1, O1 22 .mv 2, ⟨(some 23), (.slit 5 1 1 [(.int .u8 0)] [(0, 1)]), [(.t 22)], none⟩, O1 24 .mv 0, O1 25 .mv 1, O2 26 (.bin .mul) 24 25, O2 27 (.call 77) 23 26, ⟨(some 28), (.build [(iV 0), (iV 0), (.slice none 0 0)] [(0, 1), (1, 1), (2, 1)]), [(.t 20), (.t 21), (.t 27)], none⟩, ⟨none, (.store 3), [(.t 6), (.t 28)], none⟩, K1 7 .mv (iV 0)]) .ret)))), [(.bn 6 3), (.s 7)]⟩
theorem x43_ok : xfn Try.prog Try.f43 = some x43.er := by kernel_rfl
/-- The greatest of the first numbers. -/
def maxK (L : List Int) : Nat → Int
  | 0 => L.getD 0 eU8.dflt
  | k + 1 => max (maxK L k) (L.getD k eU8.dflt)
theorem maxK_le {L : List Int} {m : Int} : ∀ {k : Nat}, 1 ≤ k → k ≤ L.length → (maxK L k ≤ m ↔ ∀ i, i < k → L.getD i eU8.dflt ≤ m)
  | 1, _, h => by
    simp only [maxK]
    constructor
    · intro h1 i hi; obtain rfl : i = 0 := by omega
      omega
    · intro h1; have := h1 0 (by omega); omega
  | k + 2, _, h => by
    have ih := maxK_le (L := L) (m := m) (k := k + 1) (by omega) (by omega)
    have e : maxK L (k + 2) = max (maxK L (k + 1)) (L.getD (k + 1) eU8.dflt) := rfl
    rw [e]
    constructor
    · intro h1 i hi
      by_cases hik : i = k + 1
      · subst hik; omega
      · exact ih.1 (by omega) i (by omega)
    · intro h1
      have := ih.2 (fun i hi => h1 i (by omega))
      have := h1 (k + 1) (by omega)
      omega
theorem getD_all {L : List Int} {p : Int → Prop} (d : Int) : (∀ i, i < L.length → p (L.getD i d)) ↔ ∀ x ∈ L, p x := by
  constructor
  · intro h x hx
    obtain ⟨i, hi, rfl⟩ := List.getElem_of_mem hx
    have := h i hi
    rwa [List.getD_eq_getElem?_getD, List.getElem?_eq_getElem hi] at this
  · intro h i hi
    rw [List.getD_eq_getElem?_getD, List.getElem?_eq_getElem hi]
    exact h _ (List.getElem_mem hi)
/-- A plan is valid. -/
def planB (W H : Int) (L : List Int) : Bool := decide ((1 ≤ W ∧ W ≤ 64) ∧ (1 ≤ H ∧ H ≤ 64) ∧ (L.length : Int) = W * H) && decide (∀ x ∈ L, x ≤ 2)
def sizeB (n : Int) : Bool := decide (1 ≤ n ∧ n ≤ 64)
def u8s (L : List Int) : Prop := ∀ x ∈ L, 0 ≤ x ∧ x ≤ 255
theorem mulWH {W H : Int} (h1 : 1 ≤ W ∧ W ≤ 64) (h2 : 1 ≤ H ∧ H ≤ 64) : 1 ≤ W * H ∧ W * H ≤ 4096 := by
  have e1 : 1 * 1 ≤ W * H := Int.mul_le_mul h1.1 h2.1 (by omega) (by omega)
  have e2 : W * H ≤ 64 * 64 := Int.mul_le_mul h1.2 h2.2 (by omega) (by omega)
  omega
def newE (w h v : Int) : Int := if sizeB w = false ∨ sizeB h = false then 2 else if 2 < v then 1 else 0
def newL (w h v : Int) : List Int := if newE w h v = 0 then List.replicate (w * h).toNat v else []
def mE (e n : Int) : Int := if e = 0 then n else 0
/-- wayfinder/plan.size -/
def g74 : Con := fun args_ E_ nn_ => match args_ with
  | [.c (.v (.int .i64 n))] => some (.q (True) (.o (.c (.v (.bool (sizeB n))))))
  | _ => none
theorem c74 : COk Try.prog 74 g74 := by
  refine cok_q Try.func74 x74_ok (by kernel_rfl) (cok_tab cok_nil) ?_
  intro args_ E_ nn_ cr_ hg_
  unfold g74 at hg_
  split at hg_
  · rename_i n
    cases hg_
    refine ⟨_, _, rfl, 0, [], [.c (.v (.int .i64 n))], [], .o (.c (.v (.bool (sizeB n)))), rfl, rfl, by simp only [push_cast, Nat.reduceLT, Nat.reduceAdd], by simp only [push_cast, Nat.reduceLT, Nat.reduceAdd], by simp only [push_cast, Nat.reduceLT, Nat.reduceAdd], rfl, trivial, rfl, ?_⟩
    intro hpre hlen
    refine ⟨trivial, ?_⟩
    simp (config := {maxSteps := 10000000}) only [x74, push_cast, Nat.reduceAdd, Nat.reduceSub, Nat.reduceLeDiff, Nat.reduceEqDiff, Nat.reduceBEq, Nat.reduceMul, Nat.reduceLT, reduceIte, reduceCtorEq, Int.reduceLE, Int.reduceLT, Int.reduceEq, Int.reduceMul, Int.reduceAdd, Int.reduceSub, Int.reduceNeg, Int.reduceToNat, Int.reduceNe]
    rw [Bool.eq_iff_iff]
    simp [sizeB]
    try omega
  · cases hg_
/-- slices.Max[[]byte,byte] -/
def g78 : Con := fun args_ E_ nn_ => match args_ with
  | [.c (.n x)] => (match rowOf E_ x with
    | some (x_n, x_s, x_f) => some (.q (isRow eU8 x_n x_s x_f ∧ 0 < ((decL eU8 x_n x_f)).length ∧ ((decL eU8 x_n x_f)).length ≤ 281474976709) (.o (.c (.v (.int .u8 (maxK (decL eU8 x_n x_f) ((decL eU8 x_n x_f)).length))))))
    | none => none)
  | _ => none
theorem c78 : COk Try.prog 78 g78 := by
  refine cok_q Try.func78 x78_ok (by kernel_rfl) (cok_tab cok_nil) ?_
  intro args_ E_ nn_ cr_ hg_
  unfold g78 at hg_
  split at hg_
  · rename_i x
    split at hg_
    · rename_i x_n x_s x_f h_x
      cases hg_
      refine ⟨_, _, rfl, 1, [x], [.c (.n 0)], [(0, .ro (decL eU8 x_n x_f).length eU8.sz (rowF eU8 (decL eU8 x_n x_f)))], .o (.c (.v (.int .u8 (maxK (decL eU8 x_n x_f) ((decL eU8 x_n x_f)).length)))), rfl, rfl, by simp only [push_cast, Nat.reduceLT, Nat.reduceAdd], by simp only [push_cast, Nat.reduceLT, Nat.reduceAdd], by simp only [push_cast, Nat.reduceLT, Nat.reduceAdd], rfl, ⟨inE0_row h_x, trivial⟩, rfl, ?_⟩
      intro hpre hlen
      obtain ⟨i_x, hpre⟩ := hpre
      refine ⟨⟨inE_row h_x i_x, trivial⟩, ?_⟩
      have z_x := lens_row (E := eU8) hlen h_x
      clear i_x
      generalize decL eU8 x_n x_f = xL at *
      clear h_x
      simp (config := {maxSteps := 10000000}) only [x78, push_cast, Nat.reduceAdd, Nat.reduceSub, Nat.reduceLeDiff, Nat.reduceEqDiff, Nat.reduceBEq, Nat.reduceMul, Nat.reduceLT, reduceIte, reduceCtorEq, Int.reduceLE, Int.reduceLT, Int.reduceEq, Int.reduceMul, Int.reduceAdd, Int.reduceSub, Int.reduceNeg, Int.reduceToNat, Int.reduceNe]
      refine ⟨by omega, fun _ => ⟨by omega, by omega, ?_⟩⟩
      refine vcLoop_upd (α := {k : Nat // 1 ≤ k ∧ k ≤ xL.length}) [0] 0 (fun s => [(3, .o (.c (.v (.int .u8 (maxK xL s.1))))), (4, .o (.c (.v (.int .i64 (s.1 : Nat)))))]) (fun s => []) (fun s => xL.length - s.1) ⟨1, by omega, by omega⟩ ?_ ?_
      · simp only [push_cast, Nat.reduceAdd, Nat.reduceSub, Nat.reduceLeDiff, Nat.reduceEqDiff, Nat.reduceBEq, Nat.reduceMul, Nat.reduceLT, reduceIte, reduceCtorEq, Int.reduceLE, Int.reduceLT, Int.reduceEq, Int.reduceMul, Int.reduceAdd, Int.reduceSub, Int.reduceNeg, Int.reduceToNat, Int.reduceNe, maxK]
        omega
      · rintro ⟨k, hk1, hk2⟩
        simp only [x78L0, push_cast, Nat.reduceAdd, Nat.reduceSub, Nat.reduceLeDiff, Nat.reduceEqDiff, Nat.reduceBEq, Nat.reduceMul, Nat.reduceLT, reduceIte, reduceCtorEq, Int.reduceLE, Int.reduceLT, Int.reduceEq, Int.reduceMul, Int.reduceAdd, Int.reduceSub, Int.reduceNeg, Int.reduceToNat, Int.reduceNe]
        refine ⟨fun hlt => ⟨hlt, hlt, ⟨k + 1, by omega, by omega⟩, ⟨rfl, by rw [wrapI (by omega) (by omega)]; rfl⟩, by simp only; omega⟩, fun hge => ?_⟩
        obtain rfl : k = xL.length := by omega
        rfl
    · cases hg_
  · cases hg_
/-- wayfinder/plan.Valid -/
def g45 : Con := fun args_ E_ nn_ => match args_ with
  | [.a [.v (.int .i64 p_W), .v (.int .i64 p_H), .n p_Cells]] => (match rowOf E_ p_Cells with
    | some (p_Cells_n, p_Cells_s, p_Cells_f) => some (.q (isRow eU8 p_Cells_n p_Cells_s p_Cells_f ∧ True) (.o (.c (.v (.bool (planB p_W p_H (decL eU8 p_Cells_n p_Cells_f)))))))
    | none => none)
  | _ => none
theorem c45 : COk Try.prog 45 g45 := by
  refine cok_q Try.func45 x45_ok (by kernel_rfl) (cok_tab (cok_cons c74 (cok_cons c78 cok_nil))) ?_
  intro args_ E_ nn_ cr_ hg_
  unfold g45 at hg_
  split at hg_
  · rename_i p_W p_H p_Cells
    split at hg_
    · rename_i p_Cells_n p_Cells_s p_Cells_f h_p_Cells
      cases hg_
      refine ⟨_, _, rfl, 1, [p_Cells], [.a [.v (.int .i64 p_W), .v (.int .i64 p_H), .n 0]], [(0, .ro (decL eU8 p_Cells_n p_Cells_f).length eU8.sz (rowF eU8 (decL eU8 p_Cells_n p_Cells_f)))], .o (.c (.v (.bool (planB p_W p_H (decL eU8 p_Cells_n p_Cells_f))))), rfl, rfl, by simp only [push_cast, Nat.reduceLT, Nat.reduceAdd], by simp only [push_cast, Nat.reduceLT, Nat.reduceAdd], by simp only [push_cast, Nat.reduceLT, Nat.reduceAdd], rfl, ⟨inE0_row h_p_Cells, trivial⟩, rfl, ?_⟩
      intro hpre hlen
      obtain ⟨i_p_Cells, hpre⟩ := hpre
      refine ⟨⟨inE_row h_p_Cells i_p_Cells, trivial⟩, ?_⟩
      have z_p_Cells := lens_row (E := eU8) hlen h_p_Cells
      clear i_p_Cells
      generalize decL eU8 p_Cells_n p_Cells_f = p_CellsL at *
      clear h_p_Cells
      simp (config := {maxSteps := 10000000}) only [x45, push_cast, Nat.reduceAdd, Nat.reduceSub, Nat.reduceLeDiff, Nat.reduceEqDiff, Nat.reduceBEq, Nat.reduceMul, Nat.reduceLT, reduceIte, reduceCtorEq, Int.reduceLE, Int.reduceLT, Int.reduceEq, Int.reduceMul, Int.reduceAdd, Int.reduceSub, Int.reduceNeg, Int.reduceToNat, Int.reduceNe, g74, g78]
      refine ⟨fun h => ?_, fun h1 h2 h3 => ?_⟩
      · symm
        unfold planB
        rw [Bool.and_eq_false_iff, decide_eq_false_iff_not]
        refine .inl fun ⟨k1, k2, k3⟩ => ?_
        have := mulWH k1 k2
        rw [wrapI (n := p_W * p_H) (by omega) (by omega)] at h
        unfold sizeB at h
        rw [decide_eq_false_iff_not, decide_eq_false_iff_not] at h
        omega
      · simp only [sizeB, decide_eq_true_eq] at h1 h2
        have hm := mulWH h1 h2
        rw [wrapI (n := p_W * p_H) (by omega) (by omega)] at h3
        refine ⟨fun _ => ⟨by omega, by omega, by omega⟩, ?_⟩
        unfold planB
        rw [decide_eq_true (p := (1 ≤ p_W ∧ p_W ≤ 64) ∧ (1 ≤ p_H ∧ p_H ≤ 64) ∧ (p_CellsL.length : Int) = p_W * p_H) ⟨h1, h2, h3⟩, Bool.true_and]
        have : ((p_CellsL.length : Int) == 0) = false := by rw [beq_eq_false_iff_ne]; omega
        rw [this, Bool.false_or, decide_eq_decide, maxK_le (by omega) (Nat.le_refl _)]
        exact getD_all (p := fun x => x ≤ 2) eU8.dflt
    · cases hg_
  · cases hg_
/-- wayfinder/plan.New -/
def g43 : Con := fun args_ E_ nn_ => match args_ with
  | [.c (.v (.int .i64 w)), .c (.v (.int .i64 h)), .c (.v (.int .u8 value))] => some (.e (0 ≤ value ∧ value ≤ 255) (.t [.a [.v (.int .i64 (mE (newE w h value) w)), .v (.int .i64 (mE (newE w h value) h)), .n (nn_ + 0)], .c (.v (.int .i64 (newE w h value)))]) [((nn_ + 0), .own (newL w h value).length 1 (rowF eU8 (newL w h value)) 5)] (nn_ + 1))
  | _ => none
theorem c43 : COk Try.prog 43 g43 := by
  refine cok_e Try.func43 x43_ok (by kernel_rfl) (cok_tab (cok_cons c74 (cok_cons c77 cok_nil))) ?_
  intro args_ E_ nn_ cr_ hg_
  unfold g43 at hg_
  split at hg_
  · rename_i w h value
    cases hg_
    refine ⟨_, _, _, _, rfl, 0, [], [.c (.v (.int .i64 w)), .c (.v (.int .i64 h)), .c (.v (.int .u8 value))], [], .t [.a [.v (.int .i64 (mE (newE w h value) w)), .v (.int .i64 (mE (newE w h value) h)), .n 0], .c (.v (.int .i64 (newE w h value)))], [(0, .own (newL w h value).length 1 (rowF eU8 (newL w h value)) 5)], 1, rfl, rfl, by simp only [renE, Ent.ren, rowF_renf] <;> rfl, rfl, by decide, by simp only [push_cast, Nat.reduceLT, Nat.reduceAdd], by simp only [push_cast, Nat.reduceLT, Nat.reduceAdd], by simp only [push_cast, Nat.reduceLT, Nat.reduceAdd], by simp only [push_cast, Nat.reduceLT, Nat.reduceAdd], rfl, trivial, by simp only [keysNodup, outN, keys] <;> decide, rfl, rfl, ?_⟩
    intro hpre hlen
    refine ⟨trivial, by simp only [apartE] <;> (first | trivial | (simp [Ent.mut]; done)), ?_⟩
    simp (config := {maxSteps := 10000000}) only [x43, push_cast, Nat.reduceAdd, Nat.reduceSub, Nat.reduceLeDiff, Nat.reduceEqDiff, Nat.reduceBEq, Nat.reduceMul, Nat.reduceLT, reduceIte, reduceCtorEq, Int.reduceLE, Int.reduceLT, Int.reduceEq, Int.reduceMul, Int.reduceAdd, Int.reduceSub, Int.reduceNeg, Int.reduceToNat, Int.reduceNe, g74, g77]
    have e1 : decL eU8 1 (litF [.v (.int .u8 value)] 1) = [value] := decL_lit1 (E := eU8) value
    rw [e1]
    refine ⟨fun h => by simp [newE, newL, mE, h], fun h1 h2 => ⟨fun h => by simp [newE, newL, mE, h1, h2, h], fun h3 => ?_⟩⟩
    have hE : newE w h value = 0 := by simp [newE, h1, h2, h3]
    simp only [sizeB, decide_eq_true_eq] at h1 h2
    have hm := mulWH h1 h2
    rw [wrapI (n := w * h) (by omega) (by omega)]
    refine ⟨⟨isRow_lit1 (E := eU8) value rfl, by omega, by omega⟩, by simp [hE, mE], same_eq ?_⟩
    unfold newL
    rw [if_pos hE]
    rfl
  · cases hg_
end Go.Proofs.Ytbjgaejmkhjbaaa
set_option linter.unusedVariables false
set_option linter.unusedSimpArgs false
set_option maxRecDepth 20000
namespace Go.Proofs.Ytbjgaejmkhjbaaa
open Go.Sx
def x42L0 : XC := (.seq (.reg false [O2 13 (.bin .lss) 12 11]) (.seq (.cond (.t 13) .skip (.exit 0)) (.seq (.block 1 (.seq (.reg false [O1 14 .mv 12, O2 15 (.ixS 1) 10 12, O1 16 .load1 15, O1 4 .mv 14, O1 5 .mv 16]) (.seq (.reg false [O1 17 .mv 5, ⟨(some 18), (.x .sidx), [(.k (.string ⟨#[63, 46, 35]⟩)), (.t 17)], none⟩, O2 19 (.call 75) 3 18]) (.seq (.reg true [O1 20 .mv 4, O1 21 (.fld 0) 1, O1 22 .load1 21, O2 23 (.bin .rem) 20 22, O1 24 (.fld 0) 1, O1 25 .load1 24, K2 26 (.bin .sub) 25 (iV 1), O2 27 (.bin .eql) 23 26]) (.cond (.t 27) (.reg false [K2 28 (.call 75) 3 (.int .u8 10)]) .skip))))) (.reg false [K2 29 (.bin .add) 12 (iV 1), O1 12 .mv 29]))))
def x42 : XFn := ⟨31, (.seq (.reg false [O1 1 (.box 46) 0, ⟨(some 2), .mv, [(.k (.string ⟨#[]⟩))], none⟩]) (.seq (.seq (.reg false [O1 6 (.loadN 3) 1, O1 7 (.call 45) 6, O1 8 (.un .not) 7]) (.cond (.t 8) (.seq (.reg false [⟨(some 2), .mv, [(.k (.string ⟨#[]⟩))], none⟩]) .ret) .skip)) (.seq (.reg false [⟨(some 3), (.alloc 90 [(.pointer none), (.slice none 0 0)]), [], none⟩]) (.seq (.seq (.reg false [O1 9 (.fld 2) 1, O1 10 .load1 9, O1 11 .lenS 10, K1 12 .mv (iV 0)]) (.block 0 (.loop x42L0))) (.seq (.reg false [O1 30 (.call 76) 3, O1 2 .mv 30]) .ret))))), [(.s 2)]⟩
theorem x42_ok : xfn Try.prog Try.f42 = some x42.er := by kernel_rfl
/-- The byte of a value. -/
def sgn (v : Int) : Int := byteAt ⟨#[63, 46, 35]⟩ v.toNat
def txOne (W : Int) (L : List Int) (i : Nat) : List Int := if (i : Int) % W = W - 1 then [sgn (L.getD i eU8.dflt), 10] else [sgn (L.getD i eU8.dflt)]
def txK (W : Int) (L : List Int) (k : Nat) : List Int := (List.range k).flatMap (txOne W L)
def txL (W : Int) (L : List Int) : List Int := txK W L L.length
def textB (W H : Int) (L : List Int) : ByteArray := if planB W H L = true then strB (txL W L) else strB []
theorem txK_succ (W : Int) (L : List Int) (k : Nat) : txK W L (k + 1) = txK W L k ++ txOne W L k := by simp [txK, List.range_succ, List.flatMap_append]
theorem txK_len (W : Int) (L : List Int) : ∀ k, k ≤ (txK W L k).length ∧ (txK W L k).length ≤ 2 * k
  | 0 => by simp [txK]
  | k + 1 => by
    have := txK_len W L k
    rw [txK_succ, List.length_append]
    have : 1 ≤ (txOne W L k).length ∧ (txOne W L k).length ≤ 2 := by unfold txOne; split <;> simp
    omega
theorem sgn_bd (v : Int) : 0 ≤ sgn v ∧ sgn v ≤ 255 := by
  unfold sgn byteAt
  have := (List.getD (⟨#[63, 46, 35]⟩ : ByteArray).data.toList v.toNat 0).toNat_lt
  omega
theorem txK_u8 (W : Int) (L : List Int) (k : Nat) : ∀ x ∈ txK W L k, 0 ≤ x ∧ x ≤ 255 := by
  intro x hx
  simp only [txK, List.mem_flatMap] at hx
  obtain ⟨i, _, h⟩ := hx
  have := sgn_bd (L.getD i eU8.dflt)
  unfold txOne at h
  split at h <;> simp only [List.mem_cons, List.not_mem_nil, or_false] at h
  · rcases h with rfl | rfl <;> omega
  · subst h; exact this
theorem planB_at {W H : Int} {L : List Int} (h : planB W H L = true) : (1 ≤ W ∧ W ≤ 64) ∧ (1 ≤ H ∧ H ≤ 64) ∧ (L.length : Int) = W * H ∧ (1 ≤ L.length ∧ L.length ≤ 4096) ∧ ∀ i, i < L.length → L.getD i eU8.dflt ≤ 2 := by
  simp only [planB, Bool.and_eq_true, decide_eq_true_eq] at h
  obtain ⟨⟨h1, h2, h3⟩, h4⟩ := h
  have := mulWH h1 h2
  exact ⟨h1, h2, h3, by omega, (getD_all (p := fun x => x ≤ 2) eU8.dflt).2 h4⟩
theorem u8_at {L : List Int} (h : u8s L) {i : Nat} (hi : i < L.length) : 0 ≤ L.getD i eU8.dflt ∧ L.getD i eU8.dflt ≤ 255 := (getD_all (p := fun x => 0 ≤ x ∧ x ≤ 255) eU8.dflt).2 h i hi
/-- wayfinder/plan.Text -/
def g42 : Con := fun args_ E_ nn_ => match args_ with
  | [.a [.v (.int .i64 p_W), .v (.int .i64 p_H), .n p_Cells]] => (match rowOf E_ p_Cells with
    | some (p_Cells_n, p_Cells_s, p_Cells_f) => some (.q (isRow eU8 p_Cells_n p_Cells_s p_Cells_f ∧ u8s (decL eU8 p_Cells_n p_Cells_f)) (.o (.c (.v (.string (textB p_W p_H (decL eU8 p_Cells_n p_Cells_f)))))))
    | none => none)
  | _ => none
theorem c42 : COk Try.prog 42 g42 := by
  refine cok_q Try.func42 x42_ok (by kernel_rfl) (cok_tab (cok_cons c45 (cok_cons c75 (cok_cons c76 cok_nil)))) ?_
  intro args_ E_ nn_ cr_ hg_
  unfold g42 at hg_
  split at hg_
  · rename_i p_W p_H p_Cells
    split at hg_
    · rename_i p_Cells_n p_Cells_s p_Cells_f h_p_Cells
      cases hg_
      refine ⟨_, _, rfl, 1, [p_Cells], [.a [.v (.int .i64 p_W), .v (.int .i64 p_H), .n 0]], [(0, .ro (decL eU8 p_Cells_n p_Cells_f).length eU8.sz (rowF eU8 (decL eU8 p_Cells_n p_Cells_f)))], .o (.c (.v (.string (textB p_W p_H (decL eU8 p_Cells_n p_Cells_f))))), rfl, rfl, by simp only [push_cast, Nat.reduceLT, Nat.reduceAdd], by simp only [push_cast, Nat.reduceLT, Nat.reduceAdd], by simp only [push_cast, Nat.reduceLT, Nat.reduceAdd], rfl, ⟨inE0_row h_p_Cells, trivial⟩, rfl, ?_⟩
      intro hpre hlen
      obtain ⟨i_p_Cells, hpre⟩ := hpre
      refine ⟨⟨inE_row h_p_Cells i_p_Cells, trivial⟩, ?_⟩
      have z_p_Cells := lens_row (E := eU8) hlen h_p_Cells
      clear i_p_Cells
      generalize decL eU8 p_Cells_n p_Cells_f = p_CellsL at *
      clear h_p_Cells
      simp (config := {maxSteps := 10000000}) only [x42, push_cast, Nat.reduceAdd, Nat.reduceSub, Nat.reduceLeDiff, Nat.reduceEqDiff, Nat.reduceBEq, Nat.reduceMul, Nat.reduceLT, reduceIte, reduceCtorEq, Int.reduceLE, Int.reduceLT, Int.reduceEq, Int.reduceMul, Int.reduceAdd, Int.reduceSub, Int.reduceNeg, Int.reduceToNat, Int.reduceNe, g45, g75, g76]
      unfold textB
      refine ⟨fun h => by rw [h]; rfl, fun h => ?_⟩
      have hp := planB_at h
      rw [if_pos h]
      refine vcLoop_upd (α := {s : Nat // s ≤ p_CellsL.length}) [1, 3, 10, 11] 1 (fun s => [(12, .o (.c (.v (.int .i64 (s.1 : Nat)))))]) (fun s => match s.1 with
          | 0 => [(2, .box [.v (.pointer none), .v (.slice none 0 0)] 90)]
          | s + 1 => [(2, .box [.p 2 0, .n 3] 90), (3, .own (txK p_W p_CellsL (s + 1)).length 1 (rowF eU8 (txK p_W p_CellsL (s + 1))) 5)]) (fun s => p_CellsL.length - s.1) ⟨0, by omega⟩ ?_ ?_
      · simp only [push_cast, Nat.reduceAdd, Nat.reduceSub, Nat.reduceLeDiff, Nat.reduceEqDiff, Nat.reduceBEq, Nat.reduceMul, Nat.reduceLT, reduceIte, reduceCtorEq, Int.reduceLE, Int.reduceLT, Int.reduceEq, Int.reduceMul, Int.reduceAdd, Int.reduceSub, Int.reduceNeg, Int.reduceToNat, Int.reduceNe, g45, g75, g76]
      · rintro ⟨s, hs⟩
        have hsz : ((⟨#[63, 46, 35]⟩ : ByteArray).size : Int) = 3 := by decide
        rcases s with _ | s
        · simp only [x42L0, push_cast, Nat.reduceAdd, Nat.reduceSub, Nat.reduceLeDiff, Nat.reduceEqDiff, Nat.reduceBEq, Nat.reduceMul, Nat.reduceLT, reduceIte, reduceCtorEq, Int.reduceLE, Int.reduceLT, Int.reduceEq, Int.reduceMul, Int.reduceAdd, Int.reduceSub, Int.reduceNeg, Int.reduceToNat, Int.reduceNe, g45, g75, g76, hsz]
          have hv := hp.2.2.2.2 0 (by omega)
          have hu := u8_at hpre (i := 0) (by omega)
          refine ⟨fun _ => ⟨by omega, by omega, by omega, by omega, fun hm => ⟨⟨1, by omega⟩, ?_⟩, fun hm => ⟨⟨1, by omega⟩, ?_⟩⟩, fun h0 => by omega⟩
          · simp only [push_cast, Nat.reduceAdd, Nat.reduceSub, Nat.reduceLeDiff, Nat.reduceEqDiff, Nat.reduceBEq, Nat.reduceMul, Nat.reduceLT, reduceIte, reduceCtorEq, Int.reduceLE, Int.reduceLT, Int.reduceEq, Int.reduceMul, Int.reduceAdd, Int.reduceSub, Int.reduceNeg, Int.reduceToNat, Int.reduceNe, g45, g75, g76]
            rw [Int.zero_tmod, wrapI (by omega) (by omega)] at hm
            exact ⟨⟨by decide, same_eq (L := [byteAt ⟨#[63, 46, 35]⟩ (p_CellsL.getD 0 eU8.dflt).toNat, 10]) (by rw [txK_succ]; unfold txOne; rw [if_pos (by simpa using hm)]; rfl)⟩, by omega⟩
          · simp only [push_cast, Nat.reduceAdd, Nat.reduceSub, Nat.reduceLeDiff, Nat.reduceEqDiff, Nat.reduceBEq, Nat.reduceMul, Nat.reduceLT, reduceIte, reduceCtorEq, Int.reduceLE, Int.reduceLT, Int.reduceEq, Int.reduceMul, Int.reduceAdd, Int.reduceSub, Int.reduceNeg, Int.reduceToNat, Int.reduceNe, g45, g75, g76]
            rw [Int.zero_tmod, wrapI (by omega) (by omega)] at hm
            exact ⟨⟨by decide, same_eq (L := [byteAt ⟨#[63, 46, 35]⟩ (p_CellsL.getD 0 eU8.dflt).toNat]) (by rw [txK_succ]; unfold txOne; rw [if_neg (by simpa using hm)]; rfl)⟩, by omega⟩
        · simp only [x42L0, push_cast, Nat.reduceAdd, Nat.reduceSub, Nat.reduceLeDiff, Nat.reduceEqDiff, Nat.reduceBEq, Nat.reduceMul, Nat.reduceLT, reduceIte, reduceCtorEq, Int.reduceLE, Int.reduceLT, Int.reduceEq, Int.reduceMul, Int.reduceAdd, Int.reduceSub, Int.reduceNeg, Int.reduceToNat, Int.reduceNe, g45, g75, g76, hsz]
          have et : ((s : Int) + 1).toNat = s + 1 := by omega
          have ew : IntKind.i64.wrap ((s : Int) + 1 + 1) = ((s + 2 : Nat) : Int) := by rw [wrapI (by omega) (by omega)]; omega
          have ep : IntKind.i64.wrap (p_W - 1) = p_W - 1 := wrapI (by omega) (by omega)
          have em : ((s : Int) + 1).tmod p_W = ((s + 1 : Nat) : Int) % p_W := by rw [tmod_pos (by omega)]; rfl
          have hl := txK_len p_W p_CellsL (s + 1)
          rw [et, ew, ep, em]
          refine ⟨fun hlt => ?_, fun hge => ?_⟩
          · have hv := hp.2.2.2.2 (s + 1) (by omega)
            have hu := u8_at hpre (i := s + 1) (by omega)
            refine ⟨by omega, by omega, by omega, by omega, by omega, fun hm => ⟨by rw [List.length_append, List.length_singleton]; omega, ⟨s + 2, by omega⟩, ?_⟩, fun hm => ⟨⟨s + 2, by omega⟩, ?_⟩⟩
            · simp only [push_cast, Nat.reduceAdd, Nat.reduceSub, Nat.reduceLeDiff, Nat.reduceEqDiff, Nat.reduceBEq, Nat.reduceMul, Nat.reduceLT, reduceIte, reduceCtorEq, Int.reduceLE, Int.reduceLT, Int.reduceEq, Int.reduceMul, Int.reduceAdd, Int.reduceSub, Int.reduceNeg, Int.reduceToNat, Int.reduceNe, g45, g75, g76]
              refine ⟨same_eq ?_, by omega⟩
              rw [txK_succ p_W p_CellsL (s + 1)]; unfold txOne; rw [if_pos hm, List.append_assoc]; rfl
            · simp only [push_cast, Nat.reduceAdd, Nat.reduceSub, Nat.reduceLeDiff, Nat.reduceEqDiff, Nat.reduceBEq, Nat.reduceMul, Nat.reduceLT, reduceIte, reduceCtorEq, Int.reduceLE, Int.reduceLT, Int.reduceEq, Int.reduceMul, Int.reduceAdd, Int.reduceSub, Int.reduceNeg, Int.reduceToNat, Int.reduceNe, g45, g75, g76]
              refine ⟨same_eq ?_, by omega⟩
              rw [txK_succ p_W p_CellsL (s + 1)]; unfold txOne; rw [if_neg hm]; rfl
          · have es : s + 1 = p_CellsL.length := by omega
            exact ⟨⟨by omega, txK_u8 _ _ _⟩, by rw [es]; rfl⟩
    · cases hg_
  · cases hg_
def x13 : XFn := ⟨33, (.seq (.reg false [K1 0 .mv (.bool false)]) (.seq (.reg false [⟨(some 6), (.call 43), [(.k (iV 2)), (.k (iV 1)), (.k (.int .u8 2))], none⟩, O1 5 .mv 6, O1 7 (.ext 0) 5, O1 8 (.ext 1) 5, ⟨(some 1), (.alloc 46 [(iV 0), (iV 0), (.slice none 0 0)]), [], none⟩, ⟨none, (.store 3), [(.t 1), (.t 7)], none⟩, O1 2 .mv 8]) (.seq (.reg false [⟨(some 10), (.build [(iV 0), (iV 0)] [(0, 1), (1, 1)]), [(.k (iV 32)), (.k (iV 32))], none⟩, ⟨(some 11), (.build [(iV 0), (iV 0), (iV 0)] [(0, 1), (2, 1)]), [(.k (iV 1)), (.k (iV 1))], none⟩, ⟨(some 12), (.call 14), [(.t 10), (.t 11), (.k (iV 0)), (.k (iV 32))], none⟩, O1 9 .mv 12, O1 13 (.ext 0) 9, O1 14 (.ext 1) 9, O1 3 .mv 13, O1 4 .mv 14]) (.seq (.reg false [O1 15 .mv 2, K2 16 (.bin .eql) 15 (iV 0), O1 17 .mv 16, G1 18 (.loadN 3) 1 17 true, G1 19 (.call 42) 18 17 true, ⟨(some 20), (.x (.sbin .eql)), [(.t 19), (.k (.string ⟨#[35, 35, 10]⟩))], (some (17, true))⟩, ⟨(some 21), .pick, [(.t 17), (.t 20), (.k (.bool false))], none⟩, O1 22 .mv 21, G1 23 .mv 4 22 true, GK 24 (.bin .eql) 23 (iV 0) 22 true, ⟨(some 25), .pick, [(.t 22), (.t 24), (.k (.bool false))], none⟩, O1 26 .mv 25, G1 27 .mv 3 26 true, ⟨(some 28), (.build [(iV 0), (iV 0)] []), [], (some (26, true))⟩, ⟨(some 29), (.build [(iV 0), (iV 0)] [(0, 1)]), [(.k (iV 1))], (some (26, true))⟩, ⟨(some 30), (.slit 47 2 2 [(iV 0), (iV 0), (iV 0), (iV 0)] [(0, 2), (2, 2)]), [(.t 28), (.t 29)], (some (26, true))⟩, G2 31 (.call 16) 27 30 26 true, ⟨(some 32), .pick, [(.t 26), (.t 31), (.k (.bool false))], none⟩, O1 0 .mv 32]) .ret)))), [(.s 0)]⟩
theorem x13_ok : xfn Try.prog Try.f13 = some x13.er := by kernel_rfl
/-- wayfinder/wayfinderlaw08.awake -/
def g13 : Con := fun args_ E_ nn_ => match args_ with
  | [] => some (.q (True) (.o (.c (.v (.bool (true))))))
  | _ => none
theorem c13 : COk Try.prog 13 g13 := by
  refine cok_q Try.func13 x13_ok (by kernel_rfl) (cok_tab (cok_cons c43 (cok_cons c42 (cok_cons c14 (cok_cons c16 cok_nil))))) ?_
  intro args_ E_ nn_ cr_ hg_
  unfold g13 at hg_
  split at hg_
  · skip
    cases hg_
    refine ⟨_, _, rfl, 0, [], [], [], .o (.c (.v (.bool (true)))), rfl, rfl, by simp only [push_cast, Nat.reduceLT, Nat.reduceAdd], by simp only [push_cast, Nat.reduceLT, Nat.reduceAdd], by simp only [push_cast, Nat.reduceLT, Nat.reduceAdd], rfl, trivial, rfl, ?_⟩
    intro hpre hlen
    refine ⟨trivial, ?_⟩
    have q1 : isRow eC 2 2 (litF [SC.v (Value.int IntKind.i64 0), SC.v (Value.int IntKind.i64 0), SC.v (Value.int IntKind.i64 1), SC.v (Value.int IntKind.i64 0)] 2) ↔ True := iff_true_intro (lits_row eC [(⟨0, 0⟩ : CC), (⟨1, 0⟩ : CC)]).1
    have q2 : decL eC 2 (litF [SC.v (Value.int IntKind.i64 0), SC.v (Value.int IntKind.i64 0), SC.v (Value.int IntKind.i64 1), SC.v (Value.int IntKind.i64 0)] 2) = [(⟨0, 0⟩ : CC), (⟨1, 0⟩ : CC)] := (lits_row eC [(⟨0, 0⟩ : CC), (⟨1, 0⟩ : CC)]).2
    simp (config := {maxSteps := 10000000}) only [x13, push_cast, Nat.reduceAdd, Nat.reduceSub, Nat.reduceLeDiff, Nat.reduceEqDiff, Nat.reduceBEq, Nat.reduceMul, Nat.reduceLT, reduceIte, reduceCtorEq, Int.reduceLE, Int.reduceLT, Int.reduceEq, Int.reduceMul, Int.reduceAdd, Int.reduceSub, Int.reduceNeg, Int.reduceToNat, Int.reduceNe, g43, g42, g14, g16, q1, q2]
    have a1 : newE 2 1 2 = 0 := by decide
    have a2 : newL 2 1 2 = [2, 2] := by decide
    have a3 : textB 2 1 [2, 2] = ⟨#[35, 35, 10]⟩ := by rfl
    have a4 : trE 32 32 1 0 1 0 32 = 0 := by decide +kernel
    have a5 : trL 32 32 1 0 1 0 32 = [⟨0, 0⟩, ⟨1, 0⟩] := by decide +kernel
    have a6 : u8s [2, 2] := by unfold u8s; decide
    have m2 : mE 0 2 = 2 := rfl
    have m1 : mE 0 1 = 1 := rfl
    simp only [a1, a2, m1, m2, a3, a4, a5, a6]
    simp
  · cases hg_
end Go.Proofs.Ytbjgaejmkhjbaaa
set_option linter.unusedVariables false
set_option linter.unusedSimpArgs false
set_option maxRecDepth 20000
namespace Go.Proofs.Ytbjgaejmkhjbaaa
open Go.Sx
def x3 : XFn := ⟨41, (.seq (.reg false [O1 1 (.box 27) 0, K1 2 .mv (.bool false)]) (.seq (.seq (.reg false [⟨(some 7), (.call 13), [], none⟩, O1 8 (.un .not) 7]) (.cond (.t 8) (.seq (.reg false [K1 2 .mv (.bool false)]) .ret) .skip)) (.seq (.reg false [O1 10 (.fld 0) 1, O1 11 (.loadN 2) 10, O1 12 (.fld 2) 1, O1 13 (.loadN 3) 12, O1 14 (.fld 5) 1, O1 15 .load1 14, O1 16 (.fld 6) 1, O1 17 .load1 16, ⟨(some 18), (.call 14), [(.t 11), (.t 13), (.t 15), (.t 17)], none⟩, O1 9 .mv 18, O1 19 (.ext 0) 9, O1 20 (.ext 1) 9, O1 3 .mv 19, O1 4 .mv 20]) (.seq (.reg false [O1 22 (.fld 0) 1, O1 23 (.loadN 2) 22, O1 24 (.fld 2) 1, O1 25 (.loadN 3) 24, O1 26 (.fld 5) 1, O1 27 .load1 26, O1 28 (.fld 6) 1, O1 29 .load1 28, ⟨(some 30), (.call 15), [(.t 23), (.t 25), (.t 27), (.t 29)], none⟩, O1 21 .mv 30, O1 31 (.ext 0) 21, O1 32 (.ext 1) 21, O1 5 .mv 31, O1 6 .mv 32]) (.seq (.reg false [O1 33 .mv 4, O1 34 .mv 6, O2 35 (.bin .eql) 33 34, O1 36 .mv 35, G1 37 .mv 3 36 true, G1 38 .mv 5 36 true, G2 39 (.call 16) 37 38 36 true, ⟨(some 40), .pick, [(.t 36), (.t 39), (.k (.bool false))], none⟩, O1 2 .mv 40]) .ret))))), [(.s 2)]⟩
theorem x3_ok : xfn Try.prog Try.f3 = some x3.er := by kernel_rfl
def x4 : XFn := ⟨41, (.seq (.reg false [O1 2 (.box 27) 0, O1 3 (.box 36) 1, K1 4 .mv (.bool false)]) (.seq (.seq (.reg false [⟨(some 9), (.call 13), [], none⟩, O1 10 (.un .not) 9]) (.cond (.t 10) (.seq (.reg false [K1 4 .mv (.bool false)]) .ret) .skip)) (.seq (.reg false [O1 12 (.loadN 4) 3, O1 13 (.fld 2) 2, O1 14 (.loadN 3) 13, O1 15 (.fld 5) 2, O1 16 .load1 15, O1 17 (.fld 6) 2, O1 18 .load1 17, ⟨(some 19), (.call 17), [(.t 12), (.t 14), (.t 16), (.t 18)], none⟩, O1 11 .mv 19, O1 20 (.ext 0) 11, O1 21 (.ext 1) 11, O1 5 .mv 20, O1 6 .mv 21]) (.seq (.reg false [O1 23 (.loadN 4) 3, O1 24 (.fld 2) 2, O1 25 (.loadN 3) 24, O1 26 (.fld 5) 2, O1 27 .load1 26, O1 28 (.fld 6) 2, O1 29 .load1 28, ⟨(some 30), (.call 18), [(.t 23), (.t 25), (.t 27), (.t 29)], none⟩, O1 22 .mv 30, O1 31 (.ext 0) 22, O1 32 (.ext 1) 22, O1 7 .mv 31, O1 8 .mv 32]) (.seq (.reg false [O1 33 .mv 6, O1 34 .mv 8, O2 35 (.bin .eql) 33 34, O1 36 .mv 35, G1 37 .mv 5 36 true, G1 38 .mv 7 36 true, G2 39 (.call 16) 37 38 36 true, ⟨(some 40), .pick, [(.t 36), (.t 39), (.k (.bool false))], none⟩, O1 4 .mv 40]) .ret))))), [(.s 4)]⟩
theorem x4_ok : xfn Try.prog Try.f4 = some x4.er := by kernel_rfl
/-- wayfinder/wayfinderlaw08.PlanTraces -/
def g3 : Con := fun args_ E_ nn_ => match args_ with
  | [.a [.v (.int .i64 y_P_X), .v (.int .i64 y_P_Y), .v (.int .i64 y_V_X), .v (.int .i64 y_V_Y), .v (.int .i64 y_V_D), .v (.int .i64 y_Lo), .v (.int .i64 y_Hi)]] => some (.q (True) (.o (.c (.v (.bool (true))))))
  | _ => none
theorem c3 : COk Try.prog 3 g3 := by
  refine cok_q Try.func3 x3_ok (by kernel_rfl) (cok_tab (cok_cons c13 (cok_cons c14 (cok_cons c15 (cok_cons c16 cok_nil))))) ?_
  intro args_ E_ nn_ cr_ hg_
  unfold g3 at hg_
  split at hg_
  · rename_i y_P_X y_P_Y y_V_X y_V_Y y_V_D y_Lo y_Hi
    cases hg_
    refine ⟨_, _, rfl, 0, [], [.a [.v (.int .i64 y_P_X), .v (.int .i64 y_P_Y), .v (.int .i64 y_V_X), .v (.int .i64 y_V_Y), .v (.int .i64 y_V_D), .v (.int .i64 y_Lo), .v (.int .i64 y_Hi)]], [], .o (.c (.v (.bool (true)))), rfl, rfl, by simp only [push_cast, Nat.reduceLT, Nat.reduceAdd], by simp only [push_cast, Nat.reduceLT, Nat.reduceAdd], by simp only [push_cast, Nat.reduceLT, Nat.reduceAdd], rfl, trivial, rfl, ?_⟩
    intro hpre hlen
    refine ⟨trivial, ?_⟩
    simp (config := {maxSteps := 10000000}) only [x3, push_cast, Nat.reduceAdd, Nat.reduceSub, Nat.reduceLeDiff, Nat.reduceEqDiff, Nat.reduceBEq, Nat.reduceMul, Nat.reduceLT, reduceIte, reduceCtorEq, Int.reduceLE, Int.reduceLT, Int.reduceEq, Int.reduceMul, Int.reduceAdd, Int.reduceSub, Int.reduceNeg, Int.reduceToNat, Int.reduceNe, g13, g14, g15, g16]
    have h := tr_se y_P_X y_P_Y y_V_X y_V_Y y_V_D y_Lo y_Hi
    rw [h.1, h.2]
    simp
  · cases hg_
/-- wayfinder/wayfinderlaw08.PlanSweeps -/
def g4 : Con := fun args_ E_ nn_ => match args_ with
  | [.a [.v (.int .i64 y_P_X), .v (.int .i64 y_P_Y), .v (.int .i64 y_V_X), .v (.int .i64 y_V_Y), .v (.int .i64 y_V_D), .v (.int .i64 y_Lo), .v (.int .i64 y_Hi)], .a [.v (.int .i64 r_X0), .v (.int .i64 r_Y0), .v (.int .i64 r_X1), .v (.int .i64 r_Y1)]] => some (.q (True) (.o (.c (.v (.bool (true))))))
  | _ => none
theorem c4 : COk Try.prog 4 g4 := by
  refine cok_q Try.func4 x4_ok (by kernel_rfl) (cok_tab (cok_cons c13 (cok_cons c17 (cok_cons c18 (cok_cons c16 cok_nil))))) ?_
  intro args_ E_ nn_ cr_ hg_
  unfold g4 at hg_
  split at hg_
  · rename_i y_P_X y_P_Y y_V_X y_V_Y y_V_D y_Lo y_Hi r_X0 r_Y0 r_X1 r_Y1
    cases hg_
    refine ⟨_, _, rfl, 0, [], [.a [.v (.int .i64 y_P_X), .v (.int .i64 y_P_Y), .v (.int .i64 y_V_X), .v (.int .i64 y_V_Y), .v (.int .i64 y_V_D), .v (.int .i64 y_Lo), .v (.int .i64 y_Hi)], .a [.v (.int .i64 r_X0), .v (.int .i64 r_Y0), .v (.int .i64 r_X1), .v (.int .i64 r_Y1)]], [], .o (.c (.v (.bool (true)))), rfl, rfl, by simp only [push_cast, Nat.reduceLT, Nat.reduceAdd], by simp only [push_cast, Nat.reduceLT, Nat.reduceAdd], by simp only [push_cast, Nat.reduceLT, Nat.reduceAdd], rfl, trivial, rfl, ?_⟩
    intro hpre hlen
    refine ⟨trivial, ?_⟩
    simp (config := {maxSteps := 10000000}) only [x4, push_cast, Nat.reduceAdd, Nat.reduceSub, Nat.reduceLeDiff, Nat.reduceEqDiff, Nat.reduceBEq, Nat.reduceMul, Nat.reduceLT, reduceIte, reduceCtorEq, Int.reduceLE, Int.reduceLT, Int.reduceEq, Int.reduceMul, Int.reduceAdd, Int.reduceSub, Int.reduceNeg, Int.reduceToNat, Int.reduceNe, g13, g17, g18, g16]
  · cases hg_
end Go.Proofs.Ytbjgaejmkhjbaaa
