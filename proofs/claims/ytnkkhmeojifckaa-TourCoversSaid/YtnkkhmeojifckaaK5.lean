/- A part of the proof of a statement about this seat: how a function is stepped through, and plain laws. No conditions. -/
import Derived.Test.YtnkkhmeojifckaaRows
import Derived.Test.YtnkkhmeojifckaaSz3
import Derived.Test.YtnkkhmeojifckaaK4
import Derived.KernelRfl
set_option linter.unusedVariables false
set_option linter.unusedSimpArgs false
set_option maxRecDepth 20000
namespace Go.Proofs.Ytnkkhmeojifckaa
open Go.Sx
theorem row_ext {L : List CC} {n : Nat} {c : CC} {b : Bnd} (h : L.getD n eC.dflt = c) : rowEq (n + 1) 2 (catF n (rowF eC L) (litF [SC.v (.int .i64 c.X), SC.v (.int .i64 c.Y)] 2)) (rowF eC L) (SC.sub b) := by
  intro e j he hj
  rw [rowF_sub]
  unfold catF
  by_cases g : e < n
  · rw [if_pos g]
  · rw [if_neg g]
    obtain rfl : e = n := by omega
    rw [Nat.sub_self]
    unfold rowF
    rw [h]
    rcases (by omega : j = 0 ∨ j = 1) with rfl | rfl <;> rfl
theorem row_hd {L : List CC} {c : CC} {b : Bnd} (h : L.getD 0 eC.dflt = c) : rowEq 1 2 (litF [SC.v (.int .i64 c.X), SC.v (.int .i64 c.Y)] 2) (rowF eC L) (SC.sub b) := by
  intro e j he hj
  rw [rowF_sub]
  obtain rfl : e = 0 := by omega
  unfold rowF
  rw [h]
  rcases (by omega : j = 0 ∨ j = 1) with rfl | rfl <;> rfl
def lpX (i : Nat) : Int := ([0, 1, 1, 0, 0] : List Int).getD i 0
def lpY (i : Nat) : Int := ([0, 0, 1, 1, 0] : List Int).getD i 0
theorem lpX0 : lpX 0 = 0 := rfl
theorem lpX1 : lpX 1 = 1 := rfl
theorem lpX2 : lpX 2 = 1 := rfl
theorem lpX3 : lpX 3 = 0 := rfl
theorem lpX4 : lpX 4 = 0 := rfl
theorem lpY0 : lpY 0 = 0 := rfl
theorem lpY1 : lpY 1 = 0 := rfl
theorem lpY2 : lpY 2 = 1 := rfl
theorem lpY3 : lpY 3 = 1 := rfl
theorem lpY4 : lpY 4 = 0 := rfl
/-- wayfinder/tour.Loop -/
def g20a : Con := fun args_ E_ nn_ => match args_ with
  | [.a [.v (.int .i64 p_W), .v (.int .i64 p_H), .n p_Cells]] => (match rowOf E_ p_Cells with
    | some (p_Cells_n, p_Cells_s, p_Cells_f) => some (.e (isRow eU8 p_Cells_n p_Cells_s p_Cells_f ∧ (p_W = 2 ∧ p_H = 2) ∧ (decL eU8 p_Cells_n p_Cells_f) = [1, 1, 1, 1]) (.t [.c (.n (nn_ + 0)), .c (.v (.int .i64 (0)))]) [((nn_ + 0), .own 4 2 (rowF eC [⟨0, 0⟩, ⟨1, 0⟩, ⟨1, 1⟩, ⟨0, 1⟩]) 26)] (nn_ + 1))
    | none => none)
  | _ => none
set_option maxHeartbeats 40000000 in
theorem c20a : COk Try.prog 20 g20a := by
  refine cok_e Try.func20 x20_ok (by kernel_rfl) (cok_tab (cok_cons c33 (cok_cons c37 (cok_cons c38 (cok_cons c34 (cok_cons c39 cok_nil)))))) ?_
  intro args_ E_ nn_ cr_ hg_
  unfold g20a at hg_
  split at hg_
  · rename_i p_W p_H p_Cells
    split at hg_
    · rename_i p_Cells_n p_Cells_s p_Cells_f h_p_Cells
      cases hg_
      refine ⟨_, _, _, _, rfl, 1, [p_Cells], [.a [.v (.int .i64 p_W), .v (.int .i64 p_H), .n 0]], [(0, .ro (decL eU8 p_Cells_n p_Cells_f).length eU8.sz (rowF eU8 (decL eU8 p_Cells_n p_Cells_f)))], .t [.c (.n 1), .c (.v (.int .i64 (0)))], [(1, .own 4 2 (rowF eC [⟨0, 0⟩, ⟨1, 0⟩, ⟨1, 1⟩, ⟨0, 1⟩]) 26)], 2, rfl, rfl, by simp only [renE, Ent.ren, rowF_renf] <;> rfl, rfl, by decide, by simp only [push_cast, Nat.reduceLT, Nat.reduceAdd], by simp only [push_cast, Nat.reduceLT, Nat.reduceAdd], by simp only [push_cast, Nat.reduceLT, Nat.reduceAdd], by simp only [push_cast, Nat.reduceLT, Nat.reduceAdd], rfl, ⟨inE0_row h_p_Cells, trivial⟩, by simp only [keysNodup, outN, keys] <;> decide, rfl, rfl, ?_⟩
      intro hpre hlen
      obtain ⟨i_p_Cells, hpre⟩ := hpre
      refine ⟨⟨inE_row h_p_Cells i_p_Cells, trivial⟩, by simp only [apartE] <;> (first | trivial | (simp [Ent.mut]; done)), ?_⟩
      have z_p_Cells := lens_row (E := eU8) hlen h_p_Cells
      clear i_p_Cells
      generalize decL eU8 p_Cells_n p_Cells_f = p_CellsL at *
      clear h_p_Cells
      obtain ⟨⟨rfl, rfl⟩, hL⟩ := hpre
      have f1 : planB 2 2 p_CellsL = true := by rw [hL]; decide
      have f2 : blkB 2 2 p_CellsL = true := by rw [hL]; decide +kernel
      have f3 : cntV 2 2 p_CellsL 1 = 4 := by rw [hL]; decide +kernel
      have f5 : p_CellsL.getD 0 eU8.dflt = 1 := by rw [hL]; rfl
      have t1 : Int.tmod 0 2 = 0 := by decide
      have t2 : IntKind.i64.wrap (Int.tdiv 0 2) = 0 := by decide
      have t3 : IntKind.i64.wrap 0 = 0 := by decide
      have t4 : IntKind.i64.wrap 2 = 2 := by decide
      have t5 : IntKind.i64.wrap (-2) = -2 := by decide
      have o1 : frB 2 2 p_CellsL 2 0 = false := frB_out (by omega)
      have o2 : frB 2 2 p_CellsL 0 2 = false := frB_out (by omega)
      have o3 : frB 2 2 p_CellsL (-2) 0 = false := frB_out (by omega)
      have o4 : frB 2 2 p_CellsL 0 (-2) = false := frB_out (by omega)
      simp (config := {maxSteps := 10000000}) only [x20, push_cast, Nat.reduceAdd, Nat.reduceSub, Nat.reduceLeDiff, Nat.reduceEqDiff, Nat.reduceBEq, Nat.reduceMul, Nat.reduceLT, ↓reduceIte, reduceCtorEq, Int.reduceLE, Int.reduceLT, Int.reduceEq, Int.reduceMul, Int.reduceAdd, Int.reduceSub, Int.reduceNeg, Int.reduceToNat, Int.reduceNe, g33, g37, g38, g34, g39, f1, f2, f3, f5, o1, o2, o3, o4, t1, t2, t3, t4, t5, lpX0, lpX1, lpX2, lpX3, lpX4, lpY0, lpY1, lpY2, lpY3, lpY4]
      refine vcLoop_upd (α := Unit) [1, 4] 0 (fun _ => [(5, .o (.c (.v (.int .i64 (0)))))]) (fun _ => []) (fun _ => 0) () ?_ ?_
      · simp only [push_cast, Nat.reduceAdd, Nat.reduceSub, Nat.reduceLeDiff, Nat.reduceEqDiff, Nat.reduceBEq, Nat.reduceMul, Nat.reduceLT, ↓reduceIte, reduceCtorEq, Int.reduceLE, Int.reduceLT, Int.reduceEq, Int.reduceMul, Int.reduceAdd, Int.reduceSub, Int.reduceNeg, Int.reduceToNat, Int.reduceNe, g33, g37, g38, g34, g39, f1, f2, f3, f5, o1, o2, o3, o4, t1, t2, t3, t4, t5, lpX0, lpX1, lpX2, lpX3, lpX4, lpY0, lpY1, lpY2, lpY3, lpY4]
      intro u
      simp only [x20L0, push_cast, Nat.reduceAdd, Nat.reduceSub, Nat.reduceLeDiff, Nat.reduceEqDiff, Nat.reduceBEq, Nat.reduceMul, Nat.reduceLT, ↓reduceIte, reduceCtorEq, Int.reduceLE, Int.reduceLT, Int.reduceEq, Int.reduceMul, Int.reduceAdd, Int.reduceSub, Int.reduceNeg, Int.reduceToNat, Int.reduceNe, g33, g37, g38, g34, g39, f1, f2, f3, f5, o1, o2, o3, o4, t1, t2, t3, t4, t5, lpX0, lpX1, lpX2, lpX3, lpX4, lpY0, lpY1, lpY2, lpY3, lpY4]
      have hl : p_CellsL.length = 4 := by rw [hL]; rfl
      refine ⟨by omega, by omega, by rfl, ?_⟩
      refine vcLoop_upd (α := {k : Nat // k ≤ 1}) [1, 4, 6, 7] 0 (fun s => [(8, .o (.c (.n 29)))]) (fun s => [(29, .own (1 - s.1) 2 (rowF eC [⟨0, 0⟩]) 26)]) (fun s => 1 - s.1) ⟨0, by omega⟩ ?_ ?_
      · simp only [push_cast, Nat.reduceAdd, Nat.reduceSub, Nat.reduceLeDiff, Nat.reduceEqDiff, Nat.reduceBEq, Nat.reduceMul, Nat.reduceLT, ↓reduceIte, reduceCtorEq, Int.reduceLE, Int.reduceLT, Int.reduceEq, Int.reduceMul, Int.reduceAdd, Int.reduceSub, Int.reduceNeg, Int.reduceToNat, Int.reduceNe, g33, g37, g38, g34, g39, f1, f2, f3, f5, o1, o2, o3, o4, t1, t2, t3, t4, t5, lpX0, lpX1, lpX2, lpX3, lpX4, lpY0, lpY1, lpY2, lpY3, lpY4]
        exact row_one ⟨0, 0⟩ _
      rintro ⟨k, hk⟩
      rcases (by omega : k = 0 ∨ k = 1) with rfl | rfl
      · simp only [x20L2, push_cast, Nat.reduceAdd, Nat.reduceSub, Nat.reduceLeDiff, Nat.reduceEqDiff, Nat.reduceBEq, Nat.reduceMul, Nat.reduceLT, ↓reduceIte, reduceCtorEq, Int.reduceLE, Int.reduceLT, Int.reduceEq, Int.reduceMul, Int.reduceAdd, Int.reduceSub, Int.reduceNeg, Int.reduceToNat, Int.reduceNe, g33, g37, g38, g34, g39, f1, f2, f3, f5, o1, o2, o3, o4, t1, t2, t3, t4, t5, lpX0, lpX1, lpX2, lpX3, lpX4, lpY0, lpY1, lpY2, lpY3, lpY4]
        refine vcLoop_upd (α := {i : Nat // i ≤ 4}) [1, 4, 6, 7, 9, 83] 0 (fun s => [(8, .o (.c (.n 29))), (84, .o (.c (.v (.int .i64 (s.1 : Nat)))))]) (fun s => [(29, .own 1 2 (rowF eC [⟨0, 0⟩]) 26)]) (fun s => 4 - s.1) ⟨0, by omega⟩ ?_ ?_
        · simp only [push_cast, Nat.reduceAdd, Nat.reduceSub, Nat.reduceLeDiff, Nat.reduceEqDiff, Nat.reduceBEq, Nat.reduceMul, Nat.reduceLT, ↓reduceIte, reduceCtorEq, Int.reduceLE, Int.reduceLT, Int.reduceEq, Int.reduceMul, Int.reduceAdd, Int.reduceSub, Int.reduceNeg, Int.reduceToNat, Int.reduceNe, g33, g37, g38, g34, g39, f1, f2, f3, f5, o1, o2, o3, o4, t1, t2, t3, t4, t5, lpX0, lpX1, lpX2, lpX3, lpX4, lpY0, lpY1, lpY2, lpY3, lpY4]
        rintro ⟨i, hi⟩
        rcases (by omega : i = 0 ∨ i = 1 ∨ i = 2 ∨ i = 3 ∨ i = 4) with rfl | rfl | rfl | rfl | rfl
        · simp only [x20L1, push_cast, Nat.reduceAdd, Nat.reduceSub, Nat.reduceLeDiff, Nat.reduceEqDiff, Nat.reduceBEq, Nat.reduceMul, Nat.reduceLT, ↓reduceIte, reduceCtorEq, Int.reduceLE, Int.reduceLT, Int.reduceEq, Int.reduceMul, Int.reduceAdd, Int.reduceSub, Int.reduceNeg, Int.reduceToNat, Int.reduceNe, g33, g37, g38, g34, g39, f1, f2, f3, f5, o1, o2, o3, o4, t1, t2, t3, t4, t5, lpX0, lpX1, lpX2, lpX3, lpX4, lpY0, lpY1, lpY2, lpY3, lpY4]
          exact ⟨⟨1, by omega⟩, by rfl, by simp only; omega⟩
        · simp only [x20L1, push_cast, Nat.reduceAdd, Nat.reduceSub, Nat.reduceLeDiff, Nat.reduceEqDiff, Nat.reduceBEq, Nat.reduceMul, Nat.reduceLT, ↓reduceIte, reduceCtorEq, Int.reduceLE, Int.reduceLT, Int.reduceEq, Int.reduceMul, Int.reduceAdd, Int.reduceSub, Int.reduceNeg, Int.reduceToNat, Int.reduceNe, g33, g37, g38, g34, g39, f1, f2, f3, f5, o1, o2, o3, o4, t1, t2, t3, t4, t5, lpX0, lpX1, lpX2, lpX3, lpX4, lpY0, lpY1, lpY2, lpY3, lpY4]
          exact ⟨⟨2, by omega⟩, by rfl, by simp only; omega⟩
        · simp only [x20L1, push_cast, Nat.reduceAdd, Nat.reduceSub, Nat.reduceLeDiff, Nat.reduceEqDiff, Nat.reduceBEq, Nat.reduceMul, Nat.reduceLT, ↓reduceIte, reduceCtorEq, Int.reduceLE, Int.reduceLT, Int.reduceEq, Int.reduceMul, Int.reduceAdd, Int.reduceSub, Int.reduceNeg, Int.reduceToNat, Int.reduceNe, g33, g37, g38, g34, g39, f1, f2, f3, f5, o1, o2, o3, o4, t1, t2, t3, t4, t5, lpX0, lpX1, lpX2, lpX3, lpX4, lpY0, lpY1, lpY2, lpY3, lpY4]
          exact ⟨⟨3, by omega⟩, by rfl, by simp only; omega⟩
        · simp only [x20L1, push_cast, Nat.reduceAdd, Nat.reduceSub, Nat.reduceLeDiff, Nat.reduceEqDiff, Nat.reduceBEq, Nat.reduceMul, Nat.reduceLT, ↓reduceIte, reduceCtorEq, Int.reduceLE, Int.reduceLT, Int.reduceEq, Int.reduceMul, Int.reduceAdd, Int.reduceSub, Int.reduceNeg, Int.reduceToNat, Int.reduceNe, g33, g37, g38, g34, g39, f1, f2, f3, f5, o1, o2, o3, o4, t1, t2, t3, t4, t5, lpX0, lpX1, lpX2, lpX3, lpX4, lpY0, lpY1, lpY2, lpY3, lpY4]
          exact ⟨⟨4, by omega⟩, by rfl, by simp only; omega⟩
        · simp only [x20L1, push_cast, Nat.reduceAdd, Nat.reduceSub, Nat.reduceLeDiff, Nat.reduceEqDiff, Nat.reduceBEq, Nat.reduceMul, Nat.reduceLT, ↓reduceIte, reduceCtorEq, Int.reduceLE, Int.reduceLT, Int.reduceEq, Int.reduceMul, Int.reduceAdd, Int.reduceSub, Int.reduceNeg, Int.reduceToNat, Int.reduceNe, g33, g37, g38, g34, g39, f1, f2, f3, f5, o1, o2, o3, o4, t1, t2, t3, t4, t5, lpX0, lpX1, lpX2, lpX3, lpX4, lpY0, lpY1, lpY2, lpY3, lpY4]
          exact ⟨⟨1, by omega⟩, ⟨rfl, fun e j he hj => by omega⟩, by simp only; omega⟩
      · simp only [x20L2, push_cast, Nat.reduceAdd, Nat.reduceSub, Nat.reduceLeDiff, Nat.reduceEqDiff, Nat.reduceBEq, Nat.reduceMul, Nat.reduceLT, ↓reduceIte, reduceCtorEq, Int.reduceLE, Int.reduceLT, Int.reduceEq, Int.reduceMul, Int.reduceAdd, Int.reduceSub, Int.reduceNeg, Int.reduceToNat, Int.reduceNe, g33, g37, g38, g34, g39, f1, f2, f3, f5, o1, o2, o3, o4, t1, t2, t3, t4, t5, lpX0, lpX1, lpX2, lpX3, lpX4, lpY0, lpY1, lpY2, lpY3, lpY4]
        refine ⟨by rfl, ?_⟩
        refine vcLoop_upd (α := {i : Nat // i ≤ 3}) [6, 7, 13, 14] 0 (fun s => [(12, .o (.c (.n 30)))]) (fun s => [(30, .own (s.1 + 1) 2 (rowF eC [⟨0, 0⟩, ⟨1, 0⟩, ⟨1, 1⟩, ⟨0, 1⟩]) 26), (31, .box [.v (.int .i64 (lpX s.1)), .v (.int .i64 (lpY s.1))] 26), (32, .box [.v (.int .i64 (lpX (s.1 + 1))), .v (.int .i64 (lpY (s.1 + 1)))] 26)]) (fun s => 3 - s.1) ⟨0, by omega⟩ ?_ ?_
        · simp (config := {maxSteps := 10000000}) only [push_cast, Nat.reduceAdd, Nat.reduceSub, Nat.reduceLeDiff, Nat.reduceEqDiff, Nat.reduceBEq, Nat.reduceMul, Nat.reduceLT, ↓reduceIte, reduceCtorEq, Int.reduceLE, Int.reduceLT, Int.reduceEq, Int.reduceMul, Int.reduceAdd, Int.reduceSub, Int.reduceNeg, Int.reduceToNat, Int.reduceNe, g33, g37, g38, g34, g39, f1, f2, f3, f5, o1, o2, o3, o4, t1, t2, t3, t4, t5, lpX0, lpX1, lpX2, lpX3, lpX4, lpY0, lpY1, lpY2, lpY3, lpY4]
          exact row_hd (c := ⟨0, 0⟩) rfl
        rintro ⟨i, hi⟩
        rcases (by omega : i = 0 ∨ i = 1 ∨ i = 2 ∨ i = 3) with rfl | rfl | rfl | rfl
        · simp (config := {maxSteps := 10000000}) only [x20L3, push_cast, Nat.reduceAdd, Nat.reduceSub, Nat.reduceLeDiff, Nat.reduceEqDiff, Nat.reduceBEq, Nat.reduceMul, Nat.reduceLT, ↓reduceIte, reduceCtorEq, Int.reduceLE, Int.reduceLT, Int.reduceEq, Int.reduceMul, Int.reduceAdd, Int.reduceSub, Int.reduceNeg, Int.reduceToNat, Int.reduceNe, g33, g37, g38, g34, g39, f1, f2, f3, f5, o1, o2, o3, o4, t1, t2, t3, t4, t5, lpX0, lpX1, lpX2, lpX3, lpX4, lpY0, lpY1, lpY2, lpY3, lpY4]
          exact ⟨by rfl, ⟨1, by omega⟩, ⟨⟨rfl, row_ext (n := 1) (c := ⟨1, 0⟩) rfl⟩, ⟨rfl, rfl⟩, rfl, rfl⟩, by simp only; omega⟩
        · simp (config := {maxSteps := 10000000}) only [x20L3, push_cast, Nat.reduceAdd, Nat.reduceSub, Nat.reduceLeDiff, Nat.reduceEqDiff, Nat.reduceBEq, Nat.reduceMul, Nat.reduceLT, ↓reduceIte, reduceCtorEq, Int.reduceLE, Int.reduceLT, Int.reduceEq, Int.reduceMul, Int.reduceAdd, Int.reduceSub, Int.reduceNeg, Int.reduceToNat, Int.reduceNe, g33, g37, g38, g34, g39, f1, f2, f3, f5, o1, o2, o3, o4, t1, t2, t3, t4, t5, lpX0, lpX1, lpX2, lpX3, lpX4, lpY0, lpY1, lpY2, lpY3, lpY4]
          exact fun _ => ⟨by rfl, ⟨2, by omega⟩, ⟨⟨rfl, row_ext (n := 2) (c := ⟨1, 1⟩) rfl⟩, ⟨rfl, rfl⟩, rfl, rfl⟩, by simp only; omega⟩
        · simp (config := {maxSteps := 10000000}) only [x20L3, push_cast, Nat.reduceAdd, Nat.reduceSub, Nat.reduceLeDiff, Nat.reduceEqDiff, Nat.reduceBEq, Nat.reduceMul, Nat.reduceLT, ↓reduceIte, reduceCtorEq, Int.reduceLE, Int.reduceLT, Int.reduceEq, Int.reduceMul, Int.reduceAdd, Int.reduceSub, Int.reduceNeg, Int.reduceToNat, Int.reduceNe, g33, g37, g38, g34, g39, f1, f2, f3, f5, o1, o2, o3, o4, t1, t2, t3, t4, t5, lpX0, lpX1, lpX2, lpX3, lpX4, lpY0, lpY1, lpY2, lpY3, lpY4]
          exact ⟨by rfl, ⟨3, by omega⟩, ⟨⟨rfl, row_ext (n := 3) (c := ⟨0, 1⟩) rfl⟩, ⟨rfl, rfl⟩, rfl, rfl⟩, by simp only; omega⟩
        · simp (config := {maxSteps := 10000000}) only [x20L3, push_cast, Nat.reduceAdd, Nat.reduceSub, Nat.reduceLeDiff, Nat.reduceEqDiff, Nat.reduceBEq, Nat.reduceMul, Nat.reduceLT, ↓reduceIte, reduceCtorEq, Int.reduceLE, Int.reduceLT, Int.reduceEq, Int.reduceMul, Int.reduceAdd, Int.reduceSub, Int.reduceNeg, Int.reduceToNat, Int.reduceNe, g33, g37, g38, g34, g39, f1, f2, f3, f5, o1, o2, o3, o4, t1, t2, t3, t4, t5, lpX0, lpX1, lpX2, lpX3, lpX4, lpY0, lpY1, lpY2, lpY3, lpY4]
          all_goals exact (rowEq_rowF _ _ _ _).2 trivial
    · cases hg_
  · cases hg_
end Go.Proofs.Ytnkkhmeojifckaa
