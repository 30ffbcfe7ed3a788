/- A part of the proof of a statement about this seat: how a function is stepped through, and plain laws. No conditions. -/
import Derived.Test.YtnkkhmeojifckaaRows
import Derived.Test.YtnkkhmeojifckaaTCSz4
import Derived.Test.YtnkkhmeojifckaaTCK4
import Derived.Test.YtnkkhmeojifckaaTCK5
import Derived.Test.YtnkkhmeojifckaaTCK7
import Derived.KernelRfl
set_option linter.unusedVariables false
set_option linter.unusedSimpArgs false
set_option maxRecDepth 20000
namespace Go.Proofs.Ytnkkhmeojifckaa
open Go.Sx
theorem cnt_takeP (L : List Int) {k : Nat} (h : k < L.length) : (L.take (k + 1)).countP (fun x => decide (x = 1)) = (L.take k).countP (fun x => decide (x = 1)) + (if L.getD k eU8.dflt = 1 then 1 else 0) := by
  have e : L.getD k eU8.dflt = L[k] := by rw [List.getD_eq_getElem?_getD, List.getElem?_eq_getElem h]; rfl
  rw [List.take_succ_eq_append_getElem h, List.countP_append, List.countP_singleton, e]
  simp only [decide_eq_true_eq]
def x24L0 : XC := (.seq (.seq (.reg false [O1 5 .mv 4, O1 6 (.fld 2) 1, O1 7 .load1 6, O1 8 .lenS 7, O2 9 (.bin .lss) 5 8]) (.cond (.t 9) .skip (.exit 0))) (.seq (.block 1 (.seq (.reg false [O1 12 (.fld 2) 1, O1 13 .load1 12, O1 14 .mv 4, O2 15 (.ixS 1) 13 14, O1 16 .load1 15, K2 17 (.bin .eql) 16 (.int .u8 1)]) (.cond (.t 17) (.reg false [O1 18 .mv 3, K2 19 (.bin .add) 18 (iV 1), O1 3 .mv 19]) .skip))) (.reg false [O1 10 .mv 4, K2 11 (.bin .add) 10 (iV 1), O1 4 .mv 11])))
def x24 : XFn := ⟨21, (.seq (.reg false [O1 1 (.box 24) 0, K1 2 .mv (iV 0)]) (.seq (.reg false [K1 3 .mv (iV 0)]) (.seq (.seq (.reg false [K1 4 .mv (iV 0)]) (.block 0 (.loop x24L0))) (.seq (.reg false [O1 20 .mv 3, O1 2 .mv 20]) .ret)))), [(.s 2)]⟩
theorem x24_ok : xfn Try.prog Try.f24 = some x24.er := by kernel_rfl
def g24 : Con := fun args_ E_ nn_ => match args_ with
  | [.a [.v (.int .i64 p_W), .v (.int .i64 p_H), .n p_Cells]] => (match rowOf E_ p_Cells with
    | some (p_Cells_n, p_Cells_s, p_Cells_f) => some (.q (isRow eU8 p_Cells_n p_Cells_s p_Cells_f ∧ planB p_W p_H (decL eU8 p_Cells_n p_Cells_f) = true) (.o (.c (.v (.int .i64 (cnt8 (decL eU8 p_Cells_n p_Cells_f) 1))))))
    | none => none)
  | _ => none
theorem c24 : COk Try.prog 24 g24 := by
  refine cok_q Try.func24 x24_ok (by kernel_rfl) (cok_tab cok_nil) ?_
  intro args_ E_ nn_ cr_ hg_
  unfold g24 at hg_
  split at hg_
  · rename_i p_W p_H p_Cells
    split at hg_
    · rename_i p_Cells_n p_Cells_s p_Cells_f h_p_Cells
      cases hg_
      refine ⟨_, _, rfl, 1, [p_Cells], [.a [.v (.int .i64 p_W), .v (.int .i64 p_H), .n 0]], [(0, .ro (decL eU8 p_Cells_n p_Cells_f).length eU8.sz (rowF eU8 (decL eU8 p_Cells_n p_Cells_f)))], .o (.c (.v (.int .i64 (cnt8 (decL eU8 p_Cells_n p_Cells_f) 1)))), rfl, rfl, by simp only [push_cast, Nat.reduceLT, Nat.reduceAdd], by simp only [push_cast, Nat.reduceLT, Nat.reduceAdd], by simp only [push_cast, Nat.reduceLT, Nat.reduceAdd], rfl, ⟨inE0_row h_p_Cells, trivial⟩, rfl, ?_⟩
      intro hpre hlen
      obtain ⟨i_p_Cells, hpre⟩ := hpre
      refine ⟨⟨inE_row h_p_Cells i_p_Cells, trivial⟩, ?_⟩
      have z_p_Cells := lens_row (E := eU8) hlen h_p_Cells
      clear i_p_Cells
      generalize decL eU8 p_Cells_n p_Cells_f = p_CellsL at *
      clear h_p_Cells
      simp (config := {maxSteps := 10000000}) only [x24, push_cast, Nat.reduceAdd, Nat.reduceSub, Nat.reduceLeDiff, Nat.reduceEqDiff, Nat.reduceBEq, Nat.reduceMul, Nat.reduceLT, ↓reduceIte, reduceCtorEq, Int.reduceLE, Int.reduceLT, Int.reduceEq, Int.reduceMul, Int.reduceAdd, Int.reduceSub, Int.reduceNeg, Int.reduceToNat, Int.reduceNe]
      refine vcLoop_upd (α := {k : Nat // k ≤ p_CellsL.length}) [1] 0 (fun s => [(3, .o (.c (.v (.int .i64 (((p_CellsL.take s.1).countP (fun x => decide (x = 1)) : Nat)))))), (4, .o (.c (.v (.int .i64 (s.1 : Nat)))))]) (fun s => []) (fun s => p_CellsL.length - s.1) ⟨0, by omega⟩ ?_ ?_
      · simp only [push_cast, Nat.reduceAdd, Nat.reduceSub, Nat.reduceLeDiff, Nat.reduceEqDiff, Nat.reduceBEq, Nat.reduceMul, Nat.reduceLT, ↓reduceIte, reduceCtorEq, Int.reduceLE, Int.reduceLT, Int.reduceEq, Int.reduceMul, Int.reduceAdd, Int.reduceSub, Int.reduceNeg, Int.reduceToNat, Int.reduceNe]
        rfl
      rintro ⟨k, hk⟩
      have pp := planB_at hpre
      simp only [x24L0, push_cast, Nat.reduceAdd, Nat.reduceSub, Nat.reduceLeDiff, Nat.reduceEqDiff, Nat.reduceBEq, Nat.reduceMul, Nat.reduceLT, ↓reduceIte, reduceCtorEq, Int.reduceLE, Int.reduceLT, Int.reduceEq, Int.reduceMul, Int.reduceAdd, Int.reduceSub, Int.reduceNeg, Int.reduceToNat, Int.reduceNe]
      have hc : (p_CellsL.take k).countP (fun x => decide (x = 1)) ≤ k := Nat.le_trans List.countP_le_length (by rw [List.length_take]; omega)
      refine ⟨fun hlt => ⟨hlt, hlt, fun g => ⟨⟨k + 1, by omega⟩, ⟨?_, wrapI (by omega) (by omega)⟩, by simp only; omega⟩, fun g => ⟨⟨k + 1, by omega⟩, ⟨?_, wrapI (by omega) (by omega)⟩, by simp only; omega⟩⟩, fun hge => ?_⟩
      · simp only
        rw [cnt_takeP _ hlt, if_pos g]
        exact (wrapI (by omega) (by omega)).trans (by omega)
      · simp only
        rw [cnt_takeP _ hlt, if_neg g]
        rfl
      · obtain rfl : k = p_CellsL.length := by omega
        rw [List.take_length, cnt8_one (planB_le hpre)]
    · cases hg_
  · cases hg_
def g4 : Con := fun args_ E_ nn_ => match args_ with
  | [.a [.v (.int .i64 p_W), .v (.int .i64 p_H), .n p_Cells], .a [.v (.int .i64 start_X), .v (.int .i64 start_Y)]] => (match rowOf E_ p_Cells with
    | some (p_Cells_n, p_Cells_s, p_Cells_f) => some (.q (isRow eU8 p_Cells_n p_Cells_s p_Cells_f ∧ u8s (decL eU8 p_Cells_n p_Cells_f)) (.o (.c (.v (.bool (true))))))
    | none => none)
  | _ => none
def g5 : Con := fun args_ E_ nn_ => match args_ with
  | [.a [.v (.int .i64 p_W), .v (.int .i64 p_H), .n p_Cells]] => (match rowOf E_ p_Cells with
    | some (p_Cells_n, p_Cells_s, p_Cells_f) => some (.q (isRow eU8 p_Cells_n p_Cells_s p_Cells_f ∧ True) (.o (.c (.v (.bool (true))))))
    | none => none)
  | _ => none
end Go.Proofs.Ytnkkhmeojifckaa
