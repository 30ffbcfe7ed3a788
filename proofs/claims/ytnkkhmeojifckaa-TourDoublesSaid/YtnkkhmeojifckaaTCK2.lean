/- A part of the proof of a statement about this seat: how a function is stepped through, and plain laws. No conditions. -/
import Derived.Test.YtnkkhmeojifckaaRows
import Derived.Test.YtnkkhmeojifckaaTCSz4
import Derived.Test.YtnkkhmeojifckaaTCK1
import Derived.KernelRfl
set_option linter.unusedVariables false
set_option linter.unusedSimpArgs false
set_option maxRecDepth 20000
namespace Go.Proofs.Ytnkkhmeojifckaa
open Go.Sx
theorem shF_drop (l : List CC) : shF 1 (rowF eC l) = rowF eC (l.drop 1) := by
  funext e j
  have e1 : (l.drop 1).getD e eC.dflt = l.getD (e + 1) eC.dflt := by
    rw [List.getD_eq_getElem?_getD, List.getD_eq_getElem?_getD, List.getElem?_drop, Nat.add_comm 1 e]
  show rowF eC l (e + 1) j = _
  unfold rowF
  rw [e1]
def nrB (c d : CC) (i : Nat) : Bool := decide (d ∈ (nbr c).take i)
theorem near4 (c d : CC) : nrB c d 4 = adjB c d := by
  unfold nrB
  rw [Bool.eq_iff_iff, decide_eq_true_eq]
  exact nbr_adj
theorem near_s (c d : CC) (i : Nat) (x y : Int) (h : (nbr c).take (i + 1) = (nbr c).take i ++ [⟨x, y⟩]) : (nrB c d i || (d.X == x && d.Y == y)) = nrB c d (i + 1) := by
  unfold nrB
  rw [h, Bool.eq_iff_iff]
  simp only [Bool.or_eq_true, decide_eq_true_eq, Bool.and_eq_true, beq_iff_eq, List.mem_append, List.mem_singleton]
  constructor
  · rintro (g | ⟨g1, g2⟩)
    · exact .inl g
    · exact .inr (cc_ext g1 g2)
  · rintro (g | g)
    · exact .inl g
    · exact .inr ⟨by rw [g], by rw [g]⟩
def x28L0 : XC := (.seq (.reg false [O2 21 (.bin .lss) 20 19]) (.seq (.cond (.t 21) .skip (.exit 0)) (.seq (.block 1 (.seq (.reg false [O2 22 (.ixS 2) 18 20, O1 23 (.loadN 2) 22, ⟨(some 6), (.alloc 26 [(iV 0), (iV 0)]), [], none⟩, ⟨none, (.store 2), [(.t 6), (.t 23)], none⟩]) (.seq (.reg false [O1 24 (.loadN 3) 2, O1 25 (.loadN 2) 6, O2 26 (.call 34) 24 25, O1 27 (.un .not) 26]) (.cond (.t 27) (.seq (.reg false [K1 4 .mv (iV 7)]) .ret) .skip)))) (.reg false [K2 28 (.bin .add) 20 (iV 1), O1 20 .mv 28]))))
def x28L1 : XC := (.seq (.reg false [K2 43 (.bin .lss) 42 (iV 4)]) (.seq (.cond (.t 43) .skip (.exit 4)) (.seq (.block 5 (.seq (.reg false [O2 44 (.ixN 4 2) 41 42, ⟨(some 11), (.alloc 26 [(iV 0), (iV 0)]), [], none⟩, ⟨none, (.store 2), [(.t 11), (.t 44)], none⟩]) (.reg false [O1 45 .mv 9, O1 46 .mv 45, G1 47 (.loadN 2) 8 46 false, G1 48 (.loadN 2) 11 46 false, ⟨(some 49), (.eqA false [(.i .i64), (.i .i64)]), [(.t 47), (.t 48)], (some (46, false))⟩, ⟨(some 50), .pick, [(.t 46), (.k (.bool true)), (.t 49)], none⟩, O1 9 .mv 50]))) (.reg false [K2 51 (.bin .add) 42 (iV 1), O1 42 .mv 51]))))
def x28L2 : XC := (.seq (.reg false [O2 33 (.bin .lss) 32 31]) (.seq (.cond (.t 33) .skip (.exit 2)) (.seq (.block 3 (.seq (.reg false [O1 34 .mv 32, O2 35 (.ixS 2) 30 32, O1 36 (.loadN 2) 35, ⟨(some 8), (.alloc 26 [(iV 0), (iV 0)]), [], none⟩, O1 7 .mv 34, ⟨none, (.store 2), [(.t 8), (.t 36)], none⟩]) (.seq (.reg false [K1 9 .mv (.bool false)]) (.seq (.seq (.reg false [O1 37 .mv 1, O1 38 .mv 7, O2 39 (.ixS 2) 37 38, O1 40 (.loadN 2) 39, O1 41 (.call 35) 40, K1 42 .mv (iV 0)]) (.block 4 (.loop x28L1))) (.seq (.reg false [O1 52 .mv 9, O1 53 (.un .not) 52]) (.cond (.t 53) (.seq (.reg false [K1 4 .mv (iV 9)]) .ret) .skip)))))) (.reg false [K2 54 (.bin .add) 32 (iV 1), O1 32 .mv 54]))))
def x28 : XFn := ⟨55, (.seq (.reg false [O1 2 (.box 24) 0, K1 4 .mv (iV 0)]) (.seq (.seq (.reg false [O1 12 (.loadN 3) 2, O1 13 (.call 33) 12, O1 14 (.un .not) 13]) (.cond (.t 14) (.seq (.reg false [K1 4 .mv (iV 1)]) .ret) .skip)) (.seq (.seq (.reg false [O1 15 .mv 1, O1 16 .lenS 15, K2 17 (.bin .eql) 16 (iV 0)]) (.cond (.t 17) (.seq (.reg false [K1 4 .mv (iV 7)]) .ret) .skip)) (.seq (.seq (.reg false [O1 18 .mv 1, O1 19 .lenS 18, K1 20 .mv (iV 0)]) (.block 0 (.loop x28L0))) (.seq (.seq (.reg false [O1 29 .mv 1, K2 30 (.slc 2 true false false) 29 (iV 1), O1 31 .lenS 30, K1 32 .mv (iV 0)]) (.block 2 (.loop x28L2))) (.seq (.reg false [K1 4 .mv (iV 0)]) .ret)))))), [(.s 4)]⟩
theorem x28_ok : xfn Try.prog Try.f28 = some x28.er := by kernel_rfl
def x27L0 : XC := (.seq (.reg false [O2 20 (.bin .lss) 19 18]) (.seq (.cond (.t 20) .skip (.exit 0)) (.seq (.block 1 (.seq (.reg false [O2 21 (.ixS 2) 17 19, O1 22 (.loadN 2) 21, ⟨(some 9), (.alloc 26 [(iV 0), (iV 0)]), [], none⟩, ⟨none, (.store 2), [(.t 9), (.t 22)], none⟩]) (.reg false [O1 23 .mv 7, O1 24 (.loadN 2) 9, ⟨none, .upm, [(.t 23), (.t 24), (.k (.bool true))], none⟩]))) (.reg false [K2 25 (.bin .add) 19 (iV 1), O1 19 .mv 25]))))
def x27 : XFn := ⟨28, (.seq (.reg false [O1 2 (.box 24) 0, K1 4 .mv (iV 0), K1 5 .mv (iV 0)]) (.seq (.seq (.reg false [O1 10 (.loadN 3) 2, O1 11 .mv 1, O2 12 (.call 28) 10 11, O1 6 .mv 12]) (.seq (.reg false [O1 13 .mv 6, K2 14 (.bin .neq) 13 (iV 0)]) (.cond (.t 14) (.seq (.reg false [O1 15 .mv 6, K1 4 .mv (iV 0), O1 5 .mv 15]) .ret) .skip))) (.seq (.reg false [⟨(some 16), .mkm, [], none⟩, O1 7 .mv 16]) (.seq (.seq (.reg false [O1 17 .mv 1, O1 18 .lenS 17, K1 19 .mv (iV 0)]) (.block 0 (.loop x27L0))) (.seq (.reg false [O1 26 .mv 7, O1 27 (.x .lenM) 26, O1 4 .mv 27, K1 5 .mv (iV 0)]) .ret))))), [(.s 4), (.s 5)]⟩
theorem x27_ok : xfn Try.prog Try.f27 = some x27.er := by kernel_rfl
def x17L0 : XC := (.seq (.seq (.reg false [O1 5 .mv 4, O1 6 .mv 0, O1 7 .lenS 6, O2 8 (.bin .lss) 5 7]) (.cond (.t 8) .skip (.exit 0))) (.seq (.block 1 (.seq (.reg false [O1 11 .mv 0, O1 12 .mv 4, O2 13 (.ixS 1) 11 12, O1 14 .load1 13]) (.cond (.t 14) (.reg false [O1 15 .mv 3, K2 16 (.bin .add) 15 (iV 1), O1 3 .mv 16]) .skip))) (.reg false [O1 9 .mv 4, K2 10 (.bin .add) 9 (iV 1), O1 4 .mv 10])))
def x17 : XFn := ⟨18, (.seq (.reg false [K1 2 .mv (iV 0)]) (.seq (.reg false [K1 3 .mv (iV 0)]) (.seq (.seq (.reg false [K1 4 .mv (iV 0)]) (.block 0 (.loop x17L0))) (.seq (.reg false [O1 17 .mv 3, O1 2 .mv 17]) .ret)))), [(.s 2)]⟩
theorem x17_ok : xfn Try.prog Try.f17 = some x17.er := by kernel_rfl
def x12 : XFn := ⟨7, (.seq (.reg false [O1 1 (.box 24) 0, K1 2 .mv (.bool false)]) (.seq (.reg false [O1 3 (.fld 2) 1, O1 4 .load1 3, O1 5 .lenS 4, K2 6 (.bin .leq) 5 (iV 1024), O1 2 .mv 6]) .ret)), [(.s 2)]⟩
theorem x12_ok : xfn Try.prog Try.f12 = some x12.er := by kernel_rfl
def g12 : Con := fun args_ E_ nn_ => match args_ with
  | [.a [.v (.int .i64 p_W), .v (.int .i64 p_H), .n p_Cells]] => (match rowOf E_ p_Cells with
    | some (p_Cells_n, p_Cells_s, p_Cells_f) => some (.q (isRow eU8 p_Cells_n p_Cells_s p_Cells_f ∧ True) (.o (.c (.v (.bool (decide (((decL eU8 p_Cells_n p_Cells_f)).length ≤ 1024)))))))
    | none => none)
  | _ => none
theorem c12 : COk Try.prog 12 g12 := by
  refine cok_q Try.func12 x12_ok (by kernel_rfl) (cok_tab cok_nil) ?_
  intro args_ E_ nn_ cr_ hg_
  unfold g12 at hg_
  split at hg_
  · rename_i p_W p_H p_Cells
    split at hg_
    · rename_i p_Cells_n p_Cells_s p_Cells_f h_p_Cells
      cases hg_
      refine ⟨_, _, rfl, 1, [p_Cells], [.a [.v (.int .i64 p_W), .v (.int .i64 p_H), .n 0]], [(0, .ro (decL eU8 p_Cells_n p_Cells_f).length eU8.sz (rowF eU8 (decL eU8 p_Cells_n p_Cells_f)))], .o (.c (.v (.bool (decide (((decL eU8 p_Cells_n p_Cells_f)).length ≤ 1024))))), rfl, rfl, by simp only [push_cast, Nat.reduceLT, Nat.reduceAdd], by simp only [push_cast, Nat.reduceLT, Nat.reduceAdd], by simp only [push_cast, Nat.reduceLT, Nat.reduceAdd], rfl, ⟨inE0_row h_p_Cells, trivial⟩, rfl, ?_⟩
      intro hpre hlen
      obtain ⟨i_p_Cells, hpre⟩ := hpre
      refine ⟨⟨inE_row h_p_Cells i_p_Cells, trivial⟩, ?_⟩
      have z_p_Cells := lens_row (E := eU8) hlen h_p_Cells
      clear i_p_Cells
      generalize decL eU8 p_Cells_n p_Cells_f = p_CellsL at *
      clear h_p_Cells
      simp (config := {maxSteps := 10000000}) only [x12, push_cast, Nat.reduceAdd, Nat.reduceSub, Nat.reduceLeDiff, Nat.reduceEqDiff, Nat.reduceBEq, Nat.reduceMul, Nat.reduceLT, reduceIte, reduceCtorEq, Int.reduceLE, Int.reduceLT, Int.reduceEq, Int.reduceMul, Int.reduceAdd, Int.reduceSub, Int.reduceNeg, Int.reduceToNat, Int.reduceNe]
      rw [decide_eq_decide]; omega
    · cases hg_
  · cases hg_
def g28 : Con := fun args_ E_ nn_ => match args_ with
  | [.a [.v (.int .i64 p_W), .v (.int .i64 p_H), .n p_Cells], .c (.n l)] => (match rowOf E_ p_Cells with
    | some (p_Cells_n, p_Cells_s, p_Cells_f) => (match rowOf E_ l with
    | some (l_n, l_s, l_f) => some (.q (isRow eU8 p_Cells_n p_Cells_s p_Cells_f ∧ isRow eC l_n l_s l_f ∧ True) (.o (.c (.v (.int .i64 (chkE p_W p_H (decL eU8 p_Cells_n p_Cells_f) (decL eC l_n l_f)))))))
    | none => none)
    | none => none)
  | _ => none
theorem c28 : COk Try.prog 28 g28 := by
  refine cok_q Try.func28 x28_ok (by kernel_rfl) (cok_tab (cok_cons c33 (cok_cons c34 (cok_cons c35 cok_nil)))) ?_
  intro args_ E_ nn_ cr_ hg_
  unfold g28 at hg_
  split at hg_
  · rename_i p_W p_H p_Cells l
    split at hg_
    · rename_i p_Cells_n p_Cells_s p_Cells_f h_p_Cells
      split at hg_
      · rename_i l_n l_s l_f h_l
        cases hg_
        refine ⟨_, _, rfl, 2, [p_Cells, l], [.a [.v (.int .i64 p_W), .v (.int .i64 p_H), .n 0], .c (.n 1)], [(0, .ro (decL eU8 p_Cells_n p_Cells_f).length eU8.sz (rowF eU8 (decL eU8 p_Cells_n p_Cells_f))), (1, .ro (decL eC l_n l_f).length eC.sz (rowF eC (decL eC l_n l_f)))], .o (.c (.v (.int .i64 (chkE p_W p_H (decL eU8 p_Cells_n p_Cells_f) (decL eC l_n l_f))))), rfl, rfl, by simp only [push_cast, Nat.reduceLT, Nat.reduceAdd], by simp only [push_cast, Nat.reduceLT, Nat.reduceAdd], by simp only [push_cast, Nat.reduceLT, Nat.reduceAdd], rfl, ⟨inE0_row h_p_Cells, inE0_row h_l, trivial⟩, rfl, ?_⟩
        intro hpre hlen
        obtain ⟨i_p_Cells, hpre⟩ := hpre
        obtain ⟨i_l, hpre⟩ := hpre
        refine ⟨⟨inE_row h_p_Cells i_p_Cells, inE_row h_l i_l, trivial⟩, ?_⟩
        have z_p_Cells := lens_row (E := eU8) hlen h_p_Cells
        have z_l := lens_row (E := eC) hlen h_l
        clear i_p_Cells
        generalize decL eU8 p_Cells_n p_Cells_f = p_CellsL at *
        clear i_l
        generalize decL eC l_n l_f = lL at *
        clear h_p_Cells
        clear h_l
        simp (config := {maxSteps := 10000000}) only [x28, push_cast, Nat.reduceAdd, Nat.reduceSub, Nat.reduceLeDiff, Nat.reduceEqDiff, Nat.reduceBEq, Nat.reduceMul, Nat.reduceLT, reduceIte, reduceCtorEq, Int.reduceLE, Int.reduceLT, Int.reduceEq, Int.reduceMul, Int.reduceAdd, Int.reduceSub, Int.reduceNeg, Int.reduceToNat, Int.reduceNe, g33, g34, g35, shF_drop]
        refine ⟨fun h => by unfold chkE; rw [if_pos h], fun hp => ⟨fun h => by unfold chkE; rw [if_neg (by rw [hp]; simp), if_pos (by omega)], fun h0 => ?_⟩⟩
        have pp := planB_at hp
        refine vcLoop_upd (α := {k : Nat // k ≤ lL.length ∧ ∀ i, i < k → frB p_W p_H p_CellsL (lL.getD i eC.dflt).X (lL.getD i eC.dflt).Y = true}) [1, 2, 18, 19] 0 (fun s => [(20, .o (.c (.v (.int .i64 (s.1 : Nat)))))]) (fun s => []) (fun s => lL.length - s.1) ⟨0, by omega, fun i hi => by omega⟩ ?_ ?_
        · simp only [push_cast, Nat.reduceAdd, Nat.reduceSub, Nat.reduceLeDiff, Nat.reduceEqDiff, Nat.reduceBEq, Nat.reduceMul, Nat.reduceLT, reduceIte, reduceCtorEq, Int.reduceLE, Int.reduceLT, Int.reduceEq, Int.reduceMul, Int.reduceAdd, Int.reduceSub, Int.reduceNeg, Int.reduceToNat, Int.reduceNe, g33, g34, g35, shF_drop]
        rintro ⟨k, hk, hf⟩
        simp only [x28L0, push_cast, Nat.reduceAdd, Nat.reduceSub, Nat.reduceLeDiff, Nat.reduceEqDiff, Nat.reduceBEq, Nat.reduceMul, Nat.reduceLT, reduceIte, reduceCtorEq, Int.reduceLE, Int.reduceLT, Int.reduceEq, Int.reduceMul, Int.reduceAdd, Int.reduceSub, Int.reduceNeg, Int.reduceToNat, Int.reduceNe, g33, g34, g35, shF_drop]
        refine ⟨fun hlt => ⟨hlt, hlt, hp, fun g => (chk_bad hp hlt g).symm, fun g => ⟨⟨k + 1, by omega, fun i hi => ?_⟩, wrapI (by omega) (by omega), by simp only; omega⟩⟩, fun hge => ?_⟩
        · by_cases e : i = k
          · subst e; exact g
          · exact hf i (by omega)
        obtain rfl : k = lL.length := by omega
        have e1 : ((lL.length : Int) - 1).toNat = lL.length - 1 := by omega
        rw [e1]
        refine ⟨by omega, ?_⟩
        refine vcLoop_upd (α := {j : Nat // j + 1 ≤ lL.length ∧ ∀ i, i < j → adjB (lL.getD i eC.dflt) (lL.getD (i + 1) eC.dflt) = true}) [1, 30, 31] 0 (fun s => [(32, .o (.c (.v (.int .i64 (s.1 : Nat)))))]) (fun s => []) (fun s => lL.length - s.1) ⟨0, by omega, fun i hi => by omega⟩ ?_ ?_
        · simp only [push_cast, Nat.reduceAdd, Nat.reduceSub, Nat.reduceLeDiff, Nat.reduceEqDiff, Nat.reduceBEq, Nat.reduceMul, Nat.reduceLT, reduceIte, reduceCtorEq, Int.reduceLE, Int.reduceLT, Int.reduceEq, Int.reduceMul, Int.reduceAdd, Int.reduceSub, Int.reduceNeg, Int.reduceToNat, Int.reduceNe, g33, g34, g35, shF_drop]
        rintro ⟨j, hj, ha⟩
        simp only [x28L2, push_cast, Nat.reduceAdd, Nat.reduceSub, Nat.reduceLeDiff, Nat.reduceEqDiff, Nat.reduceBEq, Nat.reduceMul, Nat.reduceLT, reduceIte, reduceCtorEq, Int.reduceLE, Int.reduceLT, Int.reduceEq, Int.reduceMul, Int.reduceAdd, Int.reduceSub, Int.reduceNeg, Int.reduceToNat, Int.reduceNe, g33, g34, g35, shF_drop]
        refine ⟨fun hlt => ?_, fun hge => (chk_ok hp (by omega) hf (fun i hi => ha i (by omega))).symm⟩
        have fj := frB_in (hf j (by omega))
        have ed : (lL.drop 1).getD j eC.dflt = lL.getD (j + 1) eC.dflt := by
          rw [List.getD_eq_getElem?_getD, List.getD_eq_getElem?_getD, List.getElem?_drop, Nat.add_comm 1 j]
        rw [ed]
        refine ⟨hlt, hlt, by omega, by omega, by omega, ?_⟩
        refine vcLoop_upd (α := {i : Nat // i ≤ 4}) [1, 8, 30, 31, 32, 41] 0 (fun s => [(9, .o (.c (.v (.bool (nrB (lL.getD j eC.dflt) (lL.getD (j + 1) eC.dflt) s.1))))), (42, .o (.c (.v (.int .i64 (s.1 : Nat)))))]) (fun s => []) (fun s => 4 - s.1) ⟨0, by omega⟩ ?_ ?_
        · simp only [push_cast, Nat.reduceAdd, Nat.reduceSub, Nat.reduceLeDiff, Nat.reduceEqDiff, Nat.reduceBEq, Nat.reduceMul, Nat.reduceLT, reduceIte, reduceCtorEq, Int.reduceLE, Int.reduceLT, Int.reduceEq, Int.reduceMul, Int.reduceAdd, Int.reduceSub, Int.reduceNeg, Int.reduceToNat, Int.reduceNe, g33, g34, g35, shF_drop]
          rfl
        rintro ⟨i, hi⟩
        rcases (by omega : i = 0 ∨ i = 1 ∨ i = 2 ∨ i = 3 ∨ i = 4) with rfl | rfl | rfl | rfl | rfl
        · simp only [x28L1, push_cast, Nat.reduceAdd, Nat.reduceSub, Nat.reduceLeDiff, Nat.reduceEqDiff, Nat.reduceBEq, Nat.reduceMul, Nat.reduceLT, reduceIte, reduceCtorEq, Int.reduceLE, Int.reduceLT, Int.reduceEq, Int.reduceMul, Int.reduceAdd, Int.reduceSub, Int.reduceNeg, Int.reduceToNat, Int.reduceNe, g33, g34, g35, shF_drop]
          exact ⟨⟨1, by omega⟩, ⟨near_s _ _ 0 _ _ rfl, rfl⟩, by simp only; omega⟩
        · simp only [x28L1, push_cast, Nat.reduceAdd, Nat.reduceSub, Nat.reduceLeDiff, Nat.reduceEqDiff, Nat.reduceBEq, Nat.reduceMul, Nat.reduceLT, reduceIte, reduceCtorEq, Int.reduceLE, Int.reduceLT, Int.reduceEq, Int.reduceMul, Int.reduceAdd, Int.reduceSub, Int.reduceNeg, Int.reduceToNat, Int.reduceNe, g33, g34, g35, shF_drop]
          exact ⟨⟨2, by omega⟩, ⟨near_s _ _ 1 _ _ rfl, rfl⟩, by simp only; omega⟩
        · simp only [x28L1, push_cast, Nat.reduceAdd, Nat.reduceSub, Nat.reduceLeDiff, Nat.reduceEqDiff, Nat.reduceBEq, Nat.reduceMul, Nat.reduceLT, reduceIte, reduceCtorEq, Int.reduceLE, Int.reduceLT, Int.reduceEq, Int.reduceMul, Int.reduceAdd, Int.reduceSub, Int.reduceNeg, Int.reduceToNat, Int.reduceNe, g33, g34, g35, shF_drop]
          exact ⟨⟨3, by omega⟩, ⟨near_s _ _ 2 _ _ rfl, rfl⟩, by simp only; omega⟩
        · simp only [x28L1, push_cast, Nat.reduceAdd, Nat.reduceSub, Nat.reduceLeDiff, Nat.reduceEqDiff, Nat.reduceBEq, Nat.reduceMul, Nat.reduceLT, reduceIte, reduceCtorEq, Int.reduceLE, Int.reduceLT, Int.reduceEq, Int.reduceMul, Int.reduceAdd, Int.reduceSub, Int.reduceNeg, Int.reduceToNat, Int.reduceNe, g33, g34, g35, shF_drop]
          exact ⟨⟨4, by omega⟩, ⟨near_s _ _ 3 _ _ rfl, rfl⟩, by simp only; omega⟩
        · simp only [x28L1, push_cast, Nat.reduceAdd, Nat.reduceSub, Nat.reduceLeDiff, Nat.reduceEqDiff, Nat.reduceBEq, Nat.reduceMul, Nat.reduceLT, reduceIte, reduceCtorEq, Int.reduceLE, Int.reduceLT, Int.reduceEq, Int.reduceMul, Int.reduceAdd, Int.reduceSub, Int.reduceNeg, Int.reduceToNat, Int.reduceNe, g33, g34, g35, shF_drop]
          rw [near4]
          exact ⟨fun g => (chk_far hp (by omega) hf g).symm, fun g => ⟨⟨j + 1, by omega, fun i hi => by
            by_cases e : i = j
            · subst e; exact g
            · exact ha i (by omega)⟩, wrapI (by omega) (by omega), by simp only; omega⟩⟩
      · cases hg_
    · cases hg_
  · cases hg_
end Go.Proofs.Ytnkkhmeojifckaa
namespace Go.Proofs.Ytnkkhmeojifckaa
open Go.Sx
theorem leM_same (b : Bnd) {K L : List CC} (h : K = L) : leM (SC.sub b) (setM K) (setM L) := (leM_set _ (fun _ => rfl) _ _).2 h
theorem cnt_take (l : List Bool) (k : Nat) (h : k < l.length) : (l.take (k + 1)).countP (fun b => b) = (l.take k).countP (fun b => b) + (if l.getD k false = true then 1 else 0) := by
  have e : l.getD k false = l[k] := by rw [List.getD_eq_getElem?_getD, List.getElem?_eq_getElem h]; rfl
  rw [List.take_succ_eq_append_getElem h, List.countP_append, List.countP_singleton, e]
def g27 : Con := fun args_ E_ nn_ => match args_ with
  | [.a [.v (.int .i64 p_W), .v (.int .i64 p_H), .n p_Cells], .c (.n l)] => (match rowOf E_ p_Cells with
    | some (p_Cells_n, p_Cells_s, p_Cells_f) => (match rowOf E_ l with
    | some (l_n, l_s, l_f) => some (.q (isRow eU8 p_Cells_n p_Cells_s p_Cells_f ∧ isRow eC l_n l_s l_f ∧ True) (.t [.c (.v (.int .i64 (covN p_W p_H (decL eU8 p_Cells_n p_Cells_f) (decL eC l_n l_f)))), .c (.v (.int .i64 (chkE p_W p_H (decL eU8 p_Cells_n p_Cells_f) (decL eC l_n l_f))))]))
    | none => none)
    | none => none)
  | _ => none
theorem c27 : COk Try.prog 27 g27 := by
  refine cok_q Try.func27 x27_ok (by kernel_rfl) (cok_tab (cok_cons c28 cok_nil)) ?_
  intro args_ E_ nn_ cr_ hg_
  unfold g27 at hg_
  split at hg_
  · rename_i p_W p_H p_Cells l
    split at hg_
    · rename_i p_Cells_n p_Cells_s p_Cells_f h_p_Cells
      split at hg_
      · rename_i l_n l_s l_f h_l
        cases hg_
        refine ⟨_, _, rfl, 2, [p_Cells, l], [.a [.v (.int .i64 p_W), .v (.int .i64 p_H), .n 0], .c (.n 1)], [(0, .ro (decL eU8 p_Cells_n p_Cells_f).length eU8.sz (rowF eU8 (decL eU8 p_Cells_n p_Cells_f))), (1, .ro (decL eC l_n l_f).length eC.sz (rowF eC (decL eC l_n l_f)))], .t [.c (.v (.int .i64 (covN p_W p_H (decL eU8 p_Cells_n p_Cells_f) (decL eC l_n l_f)))), .c (.v (.int .i64 (chkE p_W p_H (decL eU8 p_Cells_n p_Cells_f) (decL eC l_n l_f))))], rfl, rfl, by simp only [push_cast, Nat.reduceLT, Nat.reduceAdd], by simp only [push_cast, Nat.reduceLT, Nat.reduceAdd], by simp only [push_cast, Nat.reduceLT, Nat.reduceAdd], rfl, ⟨inE0_row h_p_Cells, inE0_row h_l, trivial⟩, rfl, ?_⟩
        intro hpre hlen
        obtain ⟨i_p_Cells, hpre⟩ := hpre
        obtain ⟨i_l, hpre⟩ := hpre
        refine ⟨⟨inE_row h_p_Cells i_p_Cells, inE_row h_l i_l, trivial⟩, ?_⟩
        have z_p_Cells := lens_row (E := eU8) hlen h_p_Cells
        have z_l := lens_row (E := eC) hlen h_l
        clear i_p_Cells
        generalize decL eU8 p_Cells_n p_Cells_f = p_CellsL at *
        clear i_l
        generalize decL eC l_n l_f = lL at *
        clear h_p_Cells
        clear h_l
        simp (config := {maxSteps := 10000000}) only [x27, push_cast, Nat.reduceAdd, Nat.reduceSub, Nat.reduceLeDiff, Nat.reduceEqDiff, Nat.reduceBEq, Nat.reduceMul, Nat.reduceLT, reduceIte, reduceCtorEq, Int.reduceLE, Int.reduceLT, Int.reduceEq, Int.reduceMul, Int.reduceAdd, Int.reduceSub, Int.reduceNeg, Int.reduceToNat, Int.reduceNe, g28]
        refine ⟨fun h => by unfold covN; rw [if_neg h], fun h => ?_⟩
        refine vcLoop_upd (α := {k : Nat // k ≤ lL.length}) [7, 17, 18] 0 (fun s => [(19, .o (.c (.v (.int .i64 (s.1 : Nat)))))]) (fun s => [(3, .mp (setM (insK lL s.1)))]) (fun s => lL.length - s.1) ⟨0, by omega⟩ ?_ ?_
        · simp only [push_cast, Nat.reduceAdd, Nat.reduceSub, Nat.reduceLeDiff, Nat.reduceEqDiff, Nat.reduceBEq, Nat.reduceMul, Nat.reduceLT, reduceIte, reduceCtorEq, Int.reduceLE, Int.reduceLT, Int.reduceEq, Int.reduceMul, Int.reduceAdd, Int.reduceSub, Int.reduceNeg, Int.reduceToNat, Int.reduceNe, g28]
          exact leM_same (K := []) (L := insK lL 0) _ rfl
        rintro ⟨k, hk⟩
        simp only [x27L0, push_cast, Nat.reduceAdd, Nat.reduceSub, Nat.reduceLeDiff, Nat.reduceEqDiff, Nat.reduceBEq, Nat.reduceMul, Nat.reduceLT, reduceIte, reduceCtorEq, Int.reduceLE, Int.reduceLT, Int.reduceEq, Int.reduceMul, Int.reduceAdd, Int.reduceSub, Int.reduceNeg, Int.reduceToNat, Int.reduceNe, g28]
        refine ⟨fun hlt => ⟨hlt, hlt, ⟨k + 1, by omega⟩, ⟨wrapI (by omega) (by omega), leM_same _ rfl⟩, by simp only; omega⟩, fun hge => ?_⟩
        obtain rfl : k = lL.length := by omega
        unfold covN
        rw [if_pos h, h]
        exact ⟨rfl, rfl⟩
      · cases hg_
    · cases hg_
  · cases hg_
def eB : Enc Bool where
  sz := 1
  ks := [.b]
  wf := fun x => True
  enc := fun x => [.v (.bool x)]
  dec := fun f => boolC (f 0)
  dflt := false
  flat := by
    intro x c hc
    simp only [List.mem_cons, List.not_mem_nil, or_false] at hc
    subst hc; exact ⟨_, rfl, rfl⟩
  len := fun x => rfl
  onto := by
    intro cs h
    obtain ⟨n0, cs0, rfl, h0⟩ := kind_b h
    obtain rfl := kind_n h0
    exact ⟨n0, rfl, trivial⟩
  de := by
    intro x f h
    have h0 := h 0 (by decide)
    simp only [nth] at h0
    simp only [h0, intC, boolC]
theorem eB_sz : eB.sz = 1 := rfl
theorem eB_0 (L : List Bool) (e : Nat) : rowF eB L e 0 = .v (.bool (L.getD e eB.dflt)) := rfl
theorem eB_isRow (L : List Bool) : isRow eB L.length 1 (rowF eB L) ↔ True := isRow_rowF L
attribute [push_cast] eB_isRow eB_sz eB_0
theorem up_b {A : List Bool} {k : Nat} (v : Bool) (h : k < A.length) : updF (rowF eB A) k 0 [SC.v (.bool v)] = rowF eB (A.set k v) :=
  updF_row (E := eB) (L := A) (e0 := k) (j0 := 0) (x := v) (cs := [SC.v (.bool v)]) h rfl (by simp [eB])
def g17 : Con := fun args_ E_ nn_ => match args_ with
  | [.c (.n region)] => (match rowOf E_ region with
    | some (region_n, region_s, region_f) => some (.q (isRow eB region_n region_s region_f ∧ True) (.o (.c (.v (.int .i64 (((((decL eB region_n region_f)).countP (fun b => b) : Nat) : Int)))))))
    | none => none)
  | _ => none
theorem c17 : COk Try.prog 17 g17 := by
  refine cok_q Try.func17 x17_ok (by kernel_rfl) (cok_tab cok_nil) ?_
  intro args_ E_ nn_ cr_ hg_
  unfold g17 at hg_
  split at hg_
  · rename_i region
    split at hg_
    · rename_i region_n region_s region_f h_region
      cases hg_
      refine ⟨_, _, rfl, 1, [region], [.c (.n 0)], [(0, .ro (decL eB region_n region_f).length eB.sz (rowF eB (decL eB region_n region_f)))], .o (.c (.v (.int .i64 (((((decL eB region_n region_f)).countP (fun b => b) : Nat) : Int))))), rfl, rfl, by simp only [push_cast, Nat.reduceLT, Nat.reduceAdd], by simp only [push_cast, Nat.reduceLT, Nat.reduceAdd], by simp only [push_cast, Nat.reduceLT, Nat.reduceAdd], rfl, ⟨inE0_row h_region, trivial⟩, rfl, ?_⟩
      intro hpre hlen
      obtain ⟨i_region, hpre⟩ := hpre
      refine ⟨⟨inE_row h_region i_region, trivial⟩, ?_⟩
      have z_region := lens_row (E := eB) hlen h_region
      clear i_region
      generalize decL eB region_n region_f = regionL at *
      clear h_region
      simp (config := {maxSteps := 10000000}) only [x17, push_cast, Nat.reduceAdd, Nat.reduceSub, Nat.reduceLeDiff, Nat.reduceEqDiff, Nat.reduceBEq, Nat.reduceMul, Nat.reduceLT, reduceIte, reduceCtorEq, Int.reduceLE, Int.reduceLT, Int.reduceEq, Int.reduceMul, Int.reduceAdd, Int.reduceSub, Int.reduceNeg, Int.reduceToNat, Int.reduceNe]
      refine vcLoop_upd (α := {k : Nat // k ≤ regionL.length}) [0] 0 (fun s => [(3, .o (.c (.v (.int .i64 (((regionL.take s.1).countP (fun b => b) : Nat)))))), (4, .o (.c (.v (.int .i64 (s.1 : Nat)))))]) (fun s => []) (fun s => regionL.length - s.1) ⟨0, by omega⟩ ?_ ?_
      · simp only [push_cast, Nat.reduceAdd, Nat.reduceSub, Nat.reduceLeDiff, Nat.reduceEqDiff, Nat.reduceBEq, Nat.reduceMul, Nat.reduceLT, reduceIte, reduceCtorEq, Int.reduceLE, Int.reduceLT, Int.reduceEq, Int.reduceMul, Int.reduceAdd, Int.reduceSub, Int.reduceNeg, Int.reduceToNat, Int.reduceNe]
        rfl
      rintro ⟨k, hk⟩
      simp only [x17L0, push_cast, Nat.reduceAdd, Nat.reduceSub, Nat.reduceLeDiff, Nat.reduceEqDiff, Nat.reduceBEq, Nat.reduceMul, Nat.reduceLT, reduceIte, reduceCtorEq, Int.reduceLE, Int.reduceLT, Int.reduceEq, Int.reduceMul, Int.reduceAdd, Int.reduceSub, Int.reduceNeg, Int.reduceToNat, Int.reduceNe]
      have hc : (regionL.take k).countP (fun b => b) ≤ k := Nat.le_trans List.countP_le_length (by rw [List.length_take]; omega)
      have hs := cnt_take regionL k
      refine ⟨fun hlt => ⟨hlt, hlt, fun g => ⟨⟨k + 1, by omega⟩, ⟨?_, wrapI (by omega) (by omega)⟩, by simp only; omega⟩, fun g => ⟨⟨k + 1, by omega⟩, ⟨?_, wrapI (by omega) (by omega)⟩, by simp only; omega⟩⟩, fun hge => ?_⟩
      · have g : regionL.getD k false = true := g
        simp only
        rw [hs hlt, g, if_pos rfl]
        exact (wrapI (by omega) (by omega)).trans (by omega)
      · have g : regionL.getD k false = false := g
        simp only
        rw [hs hlt, g, if_neg (by simp)]
        rfl
      · obtain rfl : k = regionL.length := by omega
        rw [List.take_length]
    · cases hg_
  · cases hg_
end Go.Proofs.Ytnkkhmeojifckaa
