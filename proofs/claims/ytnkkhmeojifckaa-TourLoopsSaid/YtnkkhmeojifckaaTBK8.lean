/- A part of the proof of a statement about this seat: how a function is stepped through, and plain laws. No conditions. -/
import Derived.Test.YtnkkhmeojifckaaRows
import Derived.Test.YtnkkhmeojifckaaTBSz4
import Derived.Test.YtnkkhmeojifckaaTBK4
import Derived.Test.YtnkkhmeojifckaaTBK5
import Derived.Test.YtnkkhmeojifckaaTBK7
import Derived.KernelRfl
set_option linter.unusedVariables false
set_option linter.unusedSimpArgs false
set_option maxRecDepth 20000
namespace Go.Proofs.Ytnkkhmeojifckaa
open Go.Sx
theorem cnt_takeP (L : List Int) {k : Nat} (h : k < L.length) : (L.take (k + 1)).countP (fun x => decide (x = 1)) = (L.take k).countP (fun x => decide (x = 1)) + (if L.getD k eU8.dflt = 1 then 1 else 0) := by
  have e : L.getD k eU8.dflt = L[k] := by rw [List.getD_eq_getElem?_getD, List.getElem?_eq_getElem h]; rfl
  rw [List.take_succ_eq_append_getElem h, List.countP_append, List.countP_singleton, e]
  simp only [decide_eq_true_eq]
def x24L0 : XC := (.seq (.seq (.reg false [O1 5 .mv 4, O1 6 (.fld 2) 1, O1 7 .load1 6, O1 8 .lenS 7, O2 9 (.bin .lss) 5 8]) (.cond (.t 9) .skip (.exit 0))) (.seq (.block 1 (.seq (.reg false [O1 12 (.fld 2) 1, O1 13 .load1 12, O1 14 .mv 4, O2 15 (.ixS 1) 13 14, O1 16 .load1 15, K2 17 (.bin .eql) 16 (.int .u8 1)]) (.cond (.t 17) (.reg false [O1 18 .mv 3, K2 19 (.bin .add) 18 (iV 1), O1 3 .mv 19]) .skip))) (.reg false [O1 10 .mv 4, K2 11 (.bin .add) 10 (iV 1), O1 4 .mv 11])))
def x24 : XFn := ⟨21, (.seq (.reg false [O1 1 (.box 24) 0, K1 2 .mv (iV 0)]) (.seq (.reg false [K1 3 .mv (iV 0)]) (.seq (.seq (.reg false [K1 4 .mv (iV 0)]) (.block 0 (.loop x24L0))) (.seq (.reg false [O1 20 .mv 3, O1 2 .mv 20]) .ret)))), [(.s 2)]⟩
theorem x24_ok : xfn Try.prog Try.f24 = some x24.er := by kernel_rfl
def x5 : XFn := ⟨62, (.seq (.reg false [O1 1 (.box 24) 0, K1 2 .mv (.bool false)]) (.seq (.seq (.reg false [⟨(some 8), (.call 11), [], none⟩, O1 9 (.un .not) 8, O1 10 .mv 9, G1 11 (.loadN 3) 1 10 false, G1 12 (.call 12) 11 10 false, G1 13 (.un .not) 12 10 false, ⟨(some 14), .pick, [(.t 10), (.k (.bool true)), (.t 13)], none⟩]) (.cond (.t 14) (.seq (.reg false [⟨(some 15), (.call 11), [], none⟩, O1 2 .mv 15]) .ret) .skip)) (.seq (.reg false [O1 17 (.loadN 3) 1, O1 18 (.call 20) 17, O1 16 .mv 18, O1 19 (.ext 0) 16, O1 20 (.ext 1) 16, O1 3 .mv 19, O1 4 .mv 20]) (.seq (.reg false [O1 21 (.loadN 3) 1, O1 22 (.call 23) 21, O1 5 .mv 22]) (.seq (.seq (.reg false [O1 23 .mv 4, O1 24 .mv 5, O2 25 (.bin .neq) 23 24]) (.cond (.t 25) (.seq (.reg false [K1 2 .mv (.bool false)]) .ret) .skip)) (.seq (.seq (.reg false [O1 26 .mv 5, K2 27 (.bin .neq) 26 (iV 0)]) (.cond (.t 27) (.seq (.reg false [O1 28 .mv 3, O1 29 .lenS 28, K2 30 (.bin .eql) 29 (iV 0), O1 2 .mv 30]) .ret) .skip)) (.seq (.reg false [O1 32 (.loadN 3) 1, O1 33 .mv 3, O2 34 (.call 19) 32 33, O1 31 .mv 34, O1 35 (.ext 0) 31, O1 36 (.ext 1) 31, O1 6 .mv 35, O1 7 .mv 36]) (.seq (.reg true [O1 37 .mv 7, K2 38 (.bin .eql) 37 (iV 0), O1 39 .mv 38, G1 40 .mv 6 39 true, G1 41 .mv 3 39 true, G1 42 .lenS 41 39 true, G2 43 (.bin .eql) 40 42 39 true, ⟨(some 44), .pick, [(.t 39), (.t 43), (.k (.bool false))], none⟩, O1 45 .mv 44, G1 46 .mv 6 45 true, G1 47 (.loadN 3) 1 45 true, G1 48 (.call 24) 47 45 true, G2 49 (.bin .eql) 46 48 45 true, ⟨(some 50), .pick, [(.t 45), (.t 49), (.k (.bool false))], none⟩, O1 51 .mv 50, G1 52 .mv 3 51 true, GK 53 (.ixS 2) 52 (iV 0) 51 true, G1 54 (.loadN 2) 53 51 true, G1 55 .mv 3 51 true, G1 56 .mv 6 51 true, GK 57 (.bin .sub) 56 (iV 1) 51 true, G2 58 (.ixS 2) 55 57 51 true, G1 59 (.loadN 2) 58 51 true, G2 60 (.call 25) 54 59 51 true, ⟨(some 61), .pick, [(.t 51), (.t 60), (.k (.bool false))], none⟩, O1 2 .mv 61]) .ret)))))))), [(.s 2)]⟩
theorem x5_ok : xfn Try.prog Try.f5 = some x5.er := by kernel_rfl
def x23L0 : XC := (.seq (.seq (.reg false [O1 21 .mv 4, O1 22 (.fld 2) 1, O1 23 .load1 22, O1 24 .lenS 23, O2 25 (.bin .lss) 21 24]) (.cond (.t 25) .skip (.exit 0))) (.seq (.block 1 (.seq (.reg true [O1 28 .mv 4, O1 29 (.fld 0) 1, O1 30 .load1 29, O2 31 (.bin .rem) 28 30, O1 32 .mv 4, O1 33 (.fld 0) 1, O1 34 .load1 33, O2 35 (.bin .quo) 32 34, O1 5 .mv 31, O1 6 .mv 35]) (.seq (.reg false [O1 36 (.fld 2) 1, O1 37 .load1 36, O1 38 .mv 4, O2 39 (.ixS 1) 37 38, O1 40 .load1 39, K2 41 (.bin .eql) 40 (.int .u8 1), O1 7 .mv 41]) (.seq (.seq (.reg false [O1 42 .mv 7, O1 43 (.loadN 3) 1, O1 44 .mv 5, O1 45 .mv 5, K2 46 (.bin .rem) 45 (iV 2), O2 47 (.bin .sub) 44 46, O1 48 .mv 6, O1 49 .mv 6, K2 50 (.bin .rem) 49 (iV 2), O2 51 (.bin .sub) 48 50, ⟨(some 52), (.build [(iV 0), (iV 0)] [(0, 1), (1, 1)]), [(.t 47), (.t 51)], none⟩, O2 53 (.call 15) 43 52, K2 54 (.bin .eql) 53 (.int .u8 1), O2 55 (.binb .neq) 42 54]) (.cond (.t 55) (.seq (.reg false [K1 2 .mv (iV 3)]) .ret) .skip)) (.seq (.reg false [O1 56 .mv 7, O1 57 .mv 56, G1 58 .mv 3 57 true, GK 59 (.bin .lss) 58 (iV 0) 57 true, ⟨(some 60), .pick, [(.t 57), (.t 59), (.k (.bool false))], none⟩]) (.cond (.t 60) (.reg false [O1 61 .mv 4, O1 3 .mv 61]) .skip)))))) (.reg false [O1 26 .mv 4, K2 27 (.bin .add) 26 (iV 1), O1 4 .mv 27])))
def x23b : XC := (.seq (.seq (.regD [O1 62 .mv 3, K2 63 (.bin .lss) 62 (iV 0), O1 64 .mv 63, G1 65 (.loadN 3) 1 64 false, G1 66 .mv 3 64 false, G1 67 (.fld 0) 1 64 false, G1 68 .load1 67 64 false, G2 69 (.bin .rem) 66 68 64 false, G1 70 .mv 3 64 false, G1 71 (.fld 0) 1 64 false, G1 72 .load1 71 64 false, G2 73 (.bin .quo) 70 72 64 false, ⟨(some 74), (.build [(iV 0), (iV 0)] [(0, 1), (1, 1)]), [(.t 69), (.t 73)], (some (64, false))⟩, G2 75 (.call 16) 65 74 64 false, G1 76 (.call 17) 75 64 false, G1 77 (.loadN 3) 1 64 false, G1 78 (.call 24) 77 64 false, G2 79 (.bin .neq) 76 78 64 false, ⟨(some 80), .pick, [(.t 64), (.k (.bool true)), (.t 79)], none⟩] [[], [0], [1, 0], [2, 1, 0], [2, 1, 0], [2, 1, 0], [5, 2, 1, 0], [4, 2, 1, 0, 6, 5], [2, 1, 0], [2, 1, 0], [9, 2, 1, 0], [8, 2, 1, 0, 10, 9], [7, 4, 2, 1, 0, 6, 5, 11, 8, 10, 9], [3, 2, 1, 0, 12, 7, 4, 6, 5, 11, 8, 10, 9], [13, 3, 2, 1, 0, 12, 7, 4, 6, 5, 11, 8, 10, 9], [2, 1, 0], [15, 2, 1, 0, 14, 13, 3, 12, 7, 4, 6, 5, 11, 8, 10, 9], [14, 13, 3, 2, 1, 0, 12, 7, 4, 6, 5, 11, 8, 10, 9, 16, 15], [2, 1, 0, 17, 14, 13, 3, 12, 7, 4, 6, 5, 11, 8, 10, 9, 16, 15]]) (.cond (.t 80) (.seq (.reg false [K1 2 .mv (iV 9)]) .ret) .skip)) (.seq (.reg false [K1 2 .mv (iV 0)]) .ret))
def x23 : XFn := ⟨81, (.seq (.reg false [O1 1 (.box 24) 0, K1 2 .mv (iV 0)]) (.seq (.seq (.reg false [O1 8 (.loadN 3) 1, O1 9 (.call 14) 8, O1 10 (.un .not) 9]) (.cond (.t 10) (.seq (.reg false [K1 2 .mv (iV 1)]) .ret) .skip)) (.seq (.seq (.reg false [O1 11 (.fld 0) 1, O1 12 .load1 11, K2 13 (.bin .rem) 12 (iV 2), K2 14 (.bin .neq) 13 (iV 0), O1 15 .mv 14, G1 16 (.fld 1) 1 15 false, G1 17 .load1 16 15 false, GK 18 (.bin .rem) 17 (iV 2) 15 false, GK 19 (.bin .neq) 18 (iV 0) 15 false, ⟨(some 20), .pick, [(.t 15), (.k (.bool true)), (.t 19)], none⟩]) (.cond (.t 20) (.seq (.reg false [K1 2 .mv (iV 3)]) .ret) .skip)) (.seq (.reg false [K1 3 .mv (iV (-1))]) (.seq (.seq (.reg false [K1 4 .mv (iV 0)]) (.block 0 (.loop x23L0))) x23b))))), [(.s 2)]⟩
theorem x23_ok : xfn Try.prog Try.f23 = some x23.er := by kernel_rfl
def g24 : Con := fun args_ E_ nn_ => match args_ with
  | [.a [.v (.int .i64 p_W), .v (.int .i64 p_H), .n p_Cells]] => (match rowOf E_ p_Cells with
    | some (p_Cells_n, p_Cells_s, p_Cells_f) => some (.q (isRow eU8 p_Cells_n p_Cells_s p_Cells_f ∧ planB p_W p_H (decL eU8 p_Cells_n p_Cells_f) = true) (.o (.c (.v (.int .i64 (cnt8 (decL eU8 p_Cells_n p_Cells_f) 1))))))
    | none => none)
  | _ => none
theorem c24 : COk Try.prog 24 g24 := by
  refine cok_q Try.func24 x24_ok (by kernel_rfl) (cok_tab cok_nil) ?_
  intro args_ E_ nn_ cr_ hg_
  unfold g24 at hg_
  split at hg_
  · rename_i p_W p_H p_Cells
    split at hg_
    · rename_i p_Cells_n p_Cells_s p_Cells_f h_p_Cells
      cases hg_
      refine ⟨_, _, rfl, 1, [p_Cells], [.a [.v (.int .i64 p_W), .v (.int .i64 p_H), .n 0]], [(0, .ro (decL eU8 p_Cells_n p_Cells_f).length eU8.sz (rowF eU8 (decL eU8 p_Cells_n p_Cells_f)))], .o (.c (.v (.int .i64 (cnt8 (decL eU8 p_Cells_n p_Cells_f) 1)))), rfl, rfl, by simp only [push_cast, Nat.reduceLT, Nat.reduceAdd], by simp only [push_cast, Nat.reduceLT, Nat.reduceAdd], by simp only [push_cast, Nat.reduceLT, Nat.reduceAdd], rfl, ⟨inE0_row h_p_Cells, trivial⟩, rfl, ?_⟩
      intro hpre hlen
      obtain ⟨i_p_Cells, hpre⟩ := hpre
      refine ⟨⟨inE_row h_p_Cells i_p_Cells, trivial⟩, ?_⟩
      have z_p_Cells := lens_row (E := eU8) hlen h_p_Cells
      clear i_p_Cells
      generalize decL eU8 p_Cells_n p_Cells_f = p_CellsL at *
      clear h_p_Cells
      simp (config := {maxSteps := 10000000}) only [x24, push_cast, Nat.reduceAdd, Nat.reduceSub, Nat.reduceLeDiff, Nat.reduceEqDiff, Nat.reduceBEq, Nat.reduceMul, Nat.reduceLT, ↓reduceIte, reduceCtorEq, Int.reduceLE, Int.reduceLT, Int.reduceEq, Int.reduceMul, Int.reduceAdd, Int.reduceSub, Int.reduceNeg, Int.reduceToNat, Int.reduceNe]
      refine vcLoop_upd (α := {k : Nat // k ≤ p_CellsL.length}) [1] 0 (fun s => [(3, .o (.c (.v (.int .i64 (((p_CellsL.take s.1).countP (fun x => decide (x = 1)) : Nat)))))), (4, .o (.c (.v (.int .i64 (s.1 : Nat)))))]) (fun s => []) (fun s => p_CellsL.length - s.1) ⟨0, by omega⟩ ?_ ?_
      · simp only [push_cast, Nat.reduceAdd, Nat.reduceSub, Nat.reduceLeDiff, Nat.reduceEqDiff, Nat.reduceBEq, Nat.reduceMul, Nat.reduceLT, ↓reduceIte, reduceCtorEq, Int.reduceLE, Int.reduceLT, Int.reduceEq, Int.reduceMul, Int.reduceAdd, Int.reduceSub, Int.reduceNeg, Int.reduceToNat, Int.reduceNe]
        rfl
      rintro ⟨k, hk⟩
      have pp := planB_at hpre
      simp only [x24L0, push_cast, Nat.reduceAdd, Nat.reduceSub, Nat.reduceLeDiff, Nat.reduceEqDiff, Nat.reduceBEq, Nat.reduceMul, Nat.reduceLT, ↓reduceIte, reduceCtorEq, Int.reduceLE, Int.reduceLT, Int.reduceEq, Int.reduceMul, Int.reduceAdd, Int.reduceSub, Int.reduceNeg, Int.reduceToNat, Int.reduceNe]
      have hc : (p_CellsL.take k).countP (fun x => decide (x = 1)) ≤ k := Nat.le_trans List.countP_le_length (by rw [List.length_take]; omega)
      refine ⟨fun hlt => ⟨hlt, hlt, fun g => ⟨⟨k + 1, by omega⟩, ⟨?_, wrapI (by omega) (by omega)⟩, by simp only; omega⟩, fun g => ⟨⟨k + 1, by omega⟩, ⟨?_, wrapI (by omega) (by omega)⟩, by simp only; omega⟩⟩, fun hge => ?_⟩
      · simp only
        rw [cnt_takeP _ hlt, if_pos g]
        exact (wrapI (by omega) (by omega)).trans (by omega)
      · simp only
        rw [cnt_takeP _ hlt, if_neg g]
        rfl
      · obtain rfl : k = p_CellsL.length := by omega
        rw [List.take_length, cnt8_one (planB_le hpre)]
    · cases hg_
  · cases hg_
def g4 : Con := fun args_ E_ nn_ => match args_ with
  | [.a [.v (.int .i64 p_W), .v (.int .i64 p_H), .n p_Cells], .a [.v (.int .i64 start_X), .v (.int .i64 start_Y)]] => (match rowOf E_ p_Cells with
    | some (p_Cells_n, p_Cells_s, p_Cells_f) => some (.q (isRow eU8 p_Cells_n p_Cells_s p_Cells_f ∧ u8s (decL eU8 p_Cells_n p_Cells_f)) (.o (.c (.v (.bool (true))))))
    | none => none)
  | _ => none
def fstV (L : List Int) (i : Nat) : Int := if fstI L < i then (fstI L : Int) else -1
def orgE (W H : Int) (L : List Int) (c : CC) : Prop := frB W H L c.X c.Y = frB W H L (c.X - c.X % 2) (c.Y - c.Y % 2)
theorem orgE_all {W H : Int} {L : List Int} (hp : planB W H L = true) (h : W % 2 = 0 ∧ H % 2 = 0) (ha : ∀ j, j < L.length → orgE W H L (celC W j)) : blkB W H L = true := by
  have pp := planB_at hp
  refine decide_eq_true ⟨h, fun y hy x hx => ?_⟩
  have hc : cellIn W H (⟨(x : Int), (y : Int)⟩ : CC) := ⟨⟨by simp only; omega, by simp only; omega⟩, by simp only; omega, by simp only; omega⟩
  have b := ix_bd hc
  have := ha (ixC W ⟨x, y⟩) (by unfold ixC; omega)
  rw [(ix_cel hc).2 rfl] at this
  exact this
theorem orgE_not {W H : Int} {L : List Int} (hp : planB W H L = true) {j : Nat} (hj : j < L.length) (h : ¬ orgE W H L (celC W j)) : blkB W H L = false := by
  have hc := cel_in hp hj
  refine blk_bad (x := (celC W j).X.toNat) (y := (celC W j).Y.toNat) ?_ ?_ ?_
  · have := hc.2; omega
  · have := hc.1; omega
  · rw [Int.toNat_of_nonneg hc.1.1, Int.toNat_of_nonneg hc.2.1]; exact h
theorem fr_cel {W H : Int} {L : List Int} (hp : planB W H L = true) {j : Nat} (hj : j < L.length) : frB W H L (celC W j).X (celC W j).Y = decide (L.getD j eU8.dflt = 1) := by
  have hc := cel_in hp hj
  have e := (ix_cel hc).1 rfl
  rw [fr_at hp hc]
  unfold ixC at e
  rw [← e]
theorem fstV_a {L : List Int} {i : Nat} (hi : i < L.length) (h : L.getD i eU8.dflt = 1) (h2 : fstV L i < 0) : (i : Int) = fstV L (i + 1) := by
  unfold fstV at *
  split at h2
  · omega
  · rename_i g
    rcases (by omega : i < fstI L ∨ i = fstI L) with q | q
    · exact absurd h (fst_no q)
    · rw [if_pos (by omega)]; omega
theorem fstV_b {L : List Int} {i : Nat} (hi : i < L.length) (h : (L.getD i eU8.dflt == 1 && decide (fstV L i < 0)) = false) : fstV L i = fstV L (i + 1) := by
  unfold fstV at *
  by_cases g : fstI L < i
  · rw [if_pos g, if_pos (by omega)]
  · rw [if_neg g] at h ⊢
    rw [if_neg]
    intro g2
    obtain rfl : fstI L = i := by omega
    rw [fst_at hi] at h
    simp at h
theorem fst_ge {W H : Int} {L : List Int} (hp : planB W H L = true) (h : cnt8 L 1 = 0) : ¬ fstI L < L.length := by
  intro g
  rw [cnt8_one (planB_le hp)] at h
  have h0 : L.countP (fun x => decide (x = 1)) = 0 := by omega
  rw [List.countP_eq_zero] at h0
  have := fst_at g
  rw [List.getD_eq_getElem?_getD, List.getElem?_eq_getElem g] at this
  exact h0 _ (List.getElem_mem g) (decide_eq_true this)
def g23 : Con := fun args_ E_ nn_ => match args_ with
  | [.a [.v (.int .i64 p_W), .v (.int .i64 p_H), .n p_Cells]] => (match rowOf E_ p_Cells with
    | some (p_Cells_n, p_Cells_s, p_Cells_f) => some (.q (isRow eU8 p_Cells_n p_Cells_s p_Cells_f ∧ True) (.o (.c (.v (.int .i64 (lopE p_W p_H (decL eU8 p_Cells_n p_Cells_f)))))))
    | none => none)
  | _ => none
set_option maxHeartbeats 4000000 in
theorem c23 : COk Try.prog 23 g23 := by
  refine cok_q Try.func23 x23_ok (by kernel_rfl) (cok_tab (cok_cons c14 (cok_cons c15 (cok_cons c16 (cok_cons c17 (cok_cons c24 cok_nil)))))) ?_
  intro args_ E_ nn_ cr_ hg_
  unfold g23 at hg_
  split at hg_
  · rename_i p_W p_H p_Cells
    split at hg_
    · rename_i p_Cells_n p_Cells_s p_Cells_f h_p_Cells
      cases hg_
      refine ⟨_, _, rfl, 1, [p_Cells], [.a [.v (.int .i64 p_W), .v (.int .i64 p_H), .n 0]], [(0, .ro (decL eU8 p_Cells_n p_Cells_f).length eU8.sz (rowF eU8 (decL eU8 p_Cells_n p_Cells_f)))], .o (.c (.v (.int .i64 (lopE p_W p_H (decL eU8 p_Cells_n p_Cells_f))))), rfl, rfl, by simp only [push_cast, Nat.reduceLT, Nat.reduceAdd], by simp only [push_cast, Nat.reduceLT, Nat.reduceAdd], by simp only [push_cast, Nat.reduceLT, Nat.reduceAdd], rfl, ⟨inE0_row h_p_Cells, trivial⟩, rfl, ?_⟩
      intro hpre hlen
      obtain ⟨i_p_Cells, hpre⟩ := hpre
      refine ⟨⟨inE_row h_p_Cells i_p_Cells, trivial⟩, ?_⟩
      have z_p_Cells := lens_row (E := eU8) hlen h_p_Cells
      clear i_p_Cells
      generalize decL eU8 p_Cells_n p_Cells_f = p_CellsL at *
      clear h_p_Cells
      simp (config := {maxSteps := 10000000}) only [x23, push_cast, Nat.reduceAdd, Nat.reduceSub, Nat.reduceLeDiff, Nat.reduceEqDiff, Nat.reduceBEq, Nat.reduceMul, Nat.reduceLT, ↓reduceIte, reduceCtorEq, Int.reduceLE, Int.reduceLT, Int.reduceEq, Int.reduceMul, Int.reduceAdd, Int.reduceSub, Int.reduceNeg, Int.reduceToNat, Int.reduceNe, g14, g15, g16, g17, g24]
      refine ⟨fun h => lop1 h, fun hp => ?_⟩
      have pp := planB_at hp
      rw [Int.tmod_eq_emod_of_nonneg (by omega), Int.tmod_eq_emod_of_nonneg (by omega)]
      refine ⟨fun h => lop3 hp (by unfold blkB; rw [decide_eq_false]; rintro ⟨g, _⟩; omega), fun e1 e2 => ?_⟩
      refine vcLoop_upd (α := {i : Nat // i ≤ p_CellsL.length ∧ ∀ j, j < i → orgE p_W p_H p_CellsL (celC p_W j)}) [1] 0 (fun s => [(3, .o (.c (.v (.int .i64 (fstV p_CellsL s.1))))), (4, .o (.c (.v (.int .i64 (s.1 : Nat)))))]) (fun s => []) (fun s => p_CellsL.length - s.1) ⟨0, by omega, fun j hj => by omega⟩ ?_ ?_
      · simp only [push_cast, Nat.reduceAdd, Nat.reduceSub, Nat.reduceLeDiff, Nat.reduceEqDiff, Nat.reduceBEq, Nat.reduceMul, Nat.reduceLT, ↓reduceIte, reduceCtorEq, Int.reduceLE, Int.reduceLT, Int.reduceEq, Int.reduceMul, Int.reduceAdd, Int.reduceSub, Int.reduceNeg, Int.reduceToNat, Int.reduceNe, g14, g15, g16, g17, g24]
        rfl
      rintro ⟨i, hi, hall⟩
      rcases Nat.lt_or_ge i p_CellsL.length with hlt | hge
      · have hc := cel_in hp hlt
        have hcX := hc.1
        have hcY := hc.2
        have t1 : Int.tmod (i : Int) p_W = (celC p_W i).X := Int.tmod_eq_emod_of_nonneg (by omega)
        have t2 : IntKind.i64.wrap (Int.tdiv (i : Int) p_W) = (celC p_W i).Y := by
          rw [Int.tdiv_eq_ediv_of_nonneg (by omega)]
          have e : (i : Int) / p_W = (celC p_W i).Y := rfl
          rw [e]; exact wrapI (by omega) (by omega)
        have hfc := fr_cel hp hlt
        have hnx : orgE p_W p_H p_CellsL (celC p_W i) → ∀ j, j < i + 1 → orgE p_W p_H p_CellsL (celC p_W j) := fun h j hj => by
          rcases (by omega : j = i ∨ j < i) with rfl | g
          · exact h
          · exact hall j g
        have hno := fun h => lop3 hp (orgE_not hp hlt h)
        generalize celC p_W i = c at *
        have t3 : Int.tmod c.X 2 = c.X % 2 := Int.tmod_eq_emod_of_nonneg (by omega)
        have t4 : Int.tmod c.Y 2 = c.Y % 2 := Int.tmod_eq_emod_of_nonneg (by omega)
        have t5 : IntKind.i64.wrap (c.X - c.X % 2) = c.X - c.X % 2 := wrapI (by omega) (by omega)
        have t6 : IntKind.i64.wrap (c.Y - c.Y % 2) = c.Y - c.Y % 2 := wrapI (by omega) (by omega)
        have hq : ((p_CellsL.getD i eU8.dflt == 1) = (atB p_W p_H p_CellsL (c.X - c.X % 2) (c.Y - c.Y % 2) == 1)) ↔ orgE p_W p_H p_CellsL c := by
          unfold orgE; rw [hfc]; exact Iff.rfl
        simp (config := {maxSteps := 10000000}) only [x23L0, push_cast, Nat.reduceAdd, Nat.reduceSub, Nat.reduceLeDiff, Nat.reduceEqDiff, Nat.reduceBEq, Nat.reduceMul, Nat.reduceLT, ↓reduceIte, reduceCtorEq, Int.reduceLE, Int.reduceLT, Int.reduceEq, Int.reduceMul, Int.reduceAdd, Int.reduceSub, Int.reduceNeg, Int.reduceToNat, Int.reduceNe, g14, g15, g16, g17, g24, t1, t2, t3, t4, t5, t6]
        exact ⟨fun _ => ⟨by omega, by omega, hlt, hlt, hp, fun h => hno (fun g => h (hq.2 g)), fun h => ⟨fun h1 h2 => ⟨⟨i + 1, hlt, hnx (hq.1 h)⟩, ⟨fstV_a hlt h1 h2, wrapI (by omega) (by omega)⟩, by simp only; omega⟩, fun h1 => ⟨⟨i + 1, hlt, hnx (hq.1 h)⟩, ⟨fstV_b hlt h1, wrapI (by omega) (by omega)⟩, by simp only; omega⟩⟩⟩, fun h => absurd hlt h⟩
      · obtain rfl : i = p_CellsL.length := by omega
        have hb := orgE_all hp ⟨e1, e2⟩ hall
        by_cases h0 : cnt8 p_CellsL 1 = 0
        · have hv : fstV p_CellsL p_CellsL.length = -1 := if_neg (fst_ge hp h0)
          simp (config := {maxSteps := 10000000}) only [x23L0, x23b, push_cast, Nat.reduceAdd, Nat.reduceSub, Nat.reduceLeDiff, Nat.reduceEqDiff, Nat.reduceBEq, Nat.reduceMul, Nat.reduceLT, ↓reduceIte, reduceCtorEq, Int.reduceLE, Int.reduceLT, Int.reduceEq, Int.reduceMul, Int.reduceAdd, Int.reduceSub, Int.reduceNeg, Int.reduceToNat, Int.reduceNe, g14, g15, g16, g17, g24, decide_true, decide_false, hv]
          and_intros
          all_goals first | exact lop9 hp hb h0 | rfl
        · have hfl := fst_lt hp h0
          have hfr := fst_free hp h0
          have hv : fstV p_CellsL p_CellsL.length = (fstI p_CellsL : Int) := if_pos hfl
          have hneg : ((fstI p_CellsL : Int) < 0) = False := eq_false (by omega)
          have hcb := frB_in hfr
          have t1 : Int.tmod (fstI p_CellsL : Int) p_W = (fstC p_W p_CellsL).X := Int.tmod_eq_emod_of_nonneg (by omega)
          have t2 : IntKind.i64.wrap (Int.tdiv (fstI p_CellsL : Int) p_W) = (fstC p_W p_CellsL).Y := by
            rw [Int.tdiv_eq_ediv_of_nonneg (by omega)]
            have e : ((fstI p_CellsL : Nat) : Int) / p_W = (fstC p_W p_CellsL).Y := rfl
            rw [e]; exact wrapI (by omega) (by omega)
          have hrs := reg_size hp hfr
          simp (config := {maxSteps := 10000000}) only [x23L0, x23b, push_cast, Nat.reduceAdd, Nat.reduceSub, Nat.reduceLeDiff, Nat.reduceEqDiff, Nat.reduceBEq, Nat.reduceMul, Nat.reduceLT, ↓reduceIte, reduceCtorEq, Int.reduceLE, Int.reduceLT, Int.reduceEq, Int.reduceMul, Int.reduceAdd, Int.reduceSub, Int.reduceNeg, Int.reduceToNat, Int.reduceNe, g14, g15, g16, g17, g24, decide_true, decide_false, hv, hneg, t1, t2, hrs]
          and_intros
          all_goals first | exact hp | exact hfr | exact fun h => lop9' hp hb h0 h | exact fun h => (lop0 hp hb h0 h).symm | omega | rfl
    · cases hg_
  · cases hg_
def g5 : Con := fun args_ E_ nn_ => match args_ with
  | [.a [.v (.int .i64 p_W), .v (.int .i64 p_H), .n p_Cells]] => (match rowOf E_ p_Cells with
    | some (p_Cells_n, p_Cells_s, p_Cells_f) => some (.q (isRow eU8 p_Cells_n p_Cells_s p_Cells_f ∧ True) (.o (.c (.v (.bool (true))))))
    | none => none)
  | _ => none
set_option maxHeartbeats 4000000 in
theorem c5 : COk Try.prog 5 g5 := by
  refine cok_q Try.func5 x5_ok (by kernel_rfl) (cok_tab (cok_cons c11 (cok_cons c12 (cok_cons c20m (cok_cons c23 (cok_cons c19 (cok_cons c24 (cok_cons c25 cok_nil)))))))) ?_
  intro args_ E_ nn_ cr_ hg_
  unfold g5 at hg_
  split at hg_
  · rename_i p_W p_H p_Cells
    split at hg_
    · rename_i p_Cells_n p_Cells_s p_Cells_f h_p_Cells
      cases hg_
      refine ⟨_, _, rfl, 1, [p_Cells], [.a [.v (.int .i64 p_W), .v (.int .i64 p_H), .n 0]], [(0, .ro (decL eU8 p_Cells_n p_Cells_f).length eU8.sz (rowF eU8 (decL eU8 p_Cells_n p_Cells_f)))], .o (.c (.v (.bool (true)))), rfl, rfl, by simp only [push_cast, Nat.reduceLT, Nat.reduceAdd], by simp only [push_cast, Nat.reduceLT, Nat.reduceAdd], by simp only [push_cast, Nat.reduceLT, Nat.reduceAdd], rfl, ⟨inE0_row h_p_Cells, trivial⟩, rfl, ?_⟩
      intro hpre hlen
      obtain ⟨i_p_Cells, hpre⟩ := hpre
      refine ⟨⟨inE_row h_p_Cells i_p_Cells, trivial⟩, ?_⟩
      have z_p_Cells := lens_row (E := eU8) hlen h_p_Cells
      clear i_p_Cells
      generalize decL eU8 p_Cells_n p_Cells_f = p_CellsL at *
      clear h_p_Cells
      simp (config := {maxSteps := 10000000}) only [x5, push_cast, Nat.reduceAdd, Nat.reduceSub, Nat.reduceLeDiff, Nat.reduceEqDiff, Nat.reduceBEq, Nat.reduceMul, Nat.reduceLT, ↓reduceIte, reduceCtorEq, Int.reduceLE, Int.reduceLT, Int.reduceEq, Int.reduceMul, Int.reduceAdd, Int.reduceSub, Int.reduceNeg, Int.reduceToNat, Int.reduceNe, g11, g12, g20m, g23, g19, g24, g25]
      intro hl
      refine ⟨fun h => by rw [lopL0 (n := lopE p_W p_H p_CellsL) rfl h]; rfl, fun he => ?_⟩
      have hp : planB p_W p_H p_CellsL = true := by
        cases h : planB p_W p_H p_CellsL with
        | true => rfl
        | false => have := lop1 h; omega
      obtain ⟨l0, l1, l2, l3, l4⟩ := loop_law hp he
      have pp := planB_at hp
      obtain ⟨_, _, hfr, _⟩ := chk_inv l1
      have hnn : (lopL p_W p_H p_CellsL).length ≤ 4096 := by
        have := List.countP_le_length (p := fun x => decide (x = 1)) (l := p_CellsL)
        rw [cnt8_one (planB_le hp)] at l3
        omega
      have b0 := frB_in (hfr 0 l0)
      have b1 := frB_in (hfr ((lopL p_W p_H p_CellsL).length - 1) (by omega))
      have e1 : IntKind.i64.wrap (((lopL p_W p_H p_CellsL).length : Int) - 1) = (((lopL p_W p_H p_CellsL).length - 1 : Nat) : Int) := (wrapI (by omega) (by omega)).trans (by omega)
      have e2 : adjR ((lopL p_W p_H p_CellsL).getD 0 eC.dflt) ((lopL p_W p_H p_CellsL).getD ((lopL p_W p_H p_CellsL).length - 1) eC.dflt) = true := by rw [adjR_eq (by omega)]; exact l4
      generalize lopL p_W p_H p_CellsL = T at *
      have f3 : (0 : Int) < T.length := by omega
      have f4 : ((T.length - 1 : Nat) : Int) < T.length := by omega
      have f5 : T.length - 1 < T.length := by omega
      have f6 : (0 : Int) ≤ ((T.length - 1 : Nat) : Int) := by omega
      simp only [l1, l2, l3.symm, e1, Int.toNat_natCast, e2, f3, f4, f5, f6, l0, hp, forall_const, true_implies, and_self, and_true, true_and, implies_true]
    · cases hg_
  · cases hg_
end Go.Proofs.Ytnkkhmeojifckaa
