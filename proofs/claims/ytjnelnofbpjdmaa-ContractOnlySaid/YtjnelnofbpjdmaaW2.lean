/- A part of the proof of a statement about this seat: how a function is stepped through, and plain laws. No conditions. -/
import Derived.Test.YtjnelnofbpjdmaaRows
import Derived.Test.YtjnelnofbpjdmaaSz3
import Derived.Test.YtjnelnofbpjdmaaW1
import Derived.KernelRfl
set_option linter.unusedVariables false
set_option linter.unusedSimpArgs false
set_option maxRecDepth 20000
namespace Go.Proofs.Ytjnelnofbpjdmaa
open Go.Sx Go.Way
def x33 : XFn := ⟨48, (.seq (.reg false [O1 5 (.box 24) 0, O1 6 (.box 26) 1, O1 8 (.box 28) 3, K1 10 .mv (.bool false)]) (.seq (.reg false [O1 12 .mv 2, O1 13 (.fld 0) 8, O1 14 .load1 13, O2 15 (.call 61) 12 14, ⟨(some 11), (.alloc 75 [(iV 0), (iV 0), (iV 0)]), [], none⟩, ⟨none, (.store 3), [(.t 11), (.t 15)], none⟩]) (.seq (.seq (.reg false [O1 16 (.fld 1) 8, O1 17 .load1 16, K2 18 (.bin .eql) 17 (iV (-1))]) (.cond (.t 18) (.seq (.reg false [O1 19 (.loadN 3) 5, O1 20 (.loadN 4) 6, O1 21 (.loadN 3) 11, O1 22 .mv 4, ⟨(some 23), (.bin .sub), [(.k (iV 1024)), (.t 22)], none⟩, ⟨(some 24), (.call 62), [(.t 19), (.t 20), (.t 21), (.t 23), (.k (.bool false))], none⟩, O1 10 .mv 24]) .ret) .skip)) (.seq (.reg false [O1 25 (.loadN 3) 5, O1 26 (.loadN 4) 6, O1 27 (.loadN 3) 11, O1 28 (.fld 1) 8, O1 29 .load1 28, O1 30 .mv 4, O2 31 (.bin .sub) 29 30, ⟨(some 32), (.call 62), [(.t 25), (.t 26), (.t 27), (.t 31), (.k (.bool true))], none⟩, O1 33 .mv 32, G1 34 (.loadN 3) 5 33 false, G1 35 (.loadN 4) 6 33 false, G1 36 (.loadN 3) 11 33 false, G1 37 (.fld 1) 8 33 false, G1 38 .load1 37 33 false, G1 39 .mv 4 33 false, G2 40 (.bin .sub) 38 39 33 false, ⟨(some 41), .maxI, [(.k (iV 0)), (.t 40)], (some (33, false))⟩, G1 42 (.fld 1) 8 33 false, G1 43 .load1 42 33 false, G1 44 .mv 4 33 false, G2 45 (.bin .add) 43 44 33 false, ⟨(some 46), (.call 63), [(.t 34), (.t 35), (.t 36), (.t 41), (.t 45)], (some (33, false))⟩, ⟨(some 47), .pick, [(.t 33), (.k (.bool true)), (.t 46)], none⟩, O1 10 .mv 47]) .ret)))), [(.s 10)]⟩
theorem x33_ok : xfn Try.prog Try.f33 = some x33.er := by kernel_rfl
def x10 : XFn := ⟨37, (.seq (.reg false [O1 5 (.box 24) 0, O1 6 (.box 26) 1, O1 8 (.box 28) 3, K1 10 .mv (.bool false)]) (.seq (.reg false [O1 11 (.loadN 3) 5, O1 12 (.call 29) 11, O1 13 .mv 12, G1 14 (.loadN 2) 8 13 true, G1 15 (.call 30) 14 13 true, ⟨(some 16), .pick, [(.t 13), (.t 15), (.k (.bool false))], none⟩, O1 17 .mv 16, G1 18 (.loadN 4) 6 17 true, G1 19 (.call 31) 18 17 true, ⟨(some 20), .pick, [(.t 17), (.t 19), (.k (.bool false))], none⟩, O1 21 .mv 20, G1 22 .mv 2 21 true, ⟨(some 23), (.call 32), [(.t 22), (.k (iV 0)), (.k (iV 255))], (some (21, true))⟩, ⟨(some 24), .pick, [(.t 21), (.t 23), (.k (.bool false))], none⟩, O1 25 .mv 24, G1 26 .mv 4 25 true, ⟨(some 27), (.call 32), [(.t 26), (.k (iV 1)), (.k (iV 32))], (some (25, true))⟩, ⟨(some 28), .pick, [(.t 25), (.t 27), (.k (.bool false))], none⟩, O1 29 .mv 28, G1 30 (.loadN 3) 5 29 true, G1 31 (.loadN 4) 6 29 true, G1 32 .mv 2 29 true, G1 33 (.loadN 2) 8 29 true, G1 34 .mv 4 29 true, ⟨(some 35), (.call 33), [(.t 30), (.t 31), (.t 32), (.t 33), (.t 34)], (some (29, true))⟩, ⟨(some 36), .pick, [(.t 29), (.t 35), (.k (.bool false))], none⟩, O1 10 .mv 36]) .ret)), [(.s 10)]⟩
theorem x10_ok : xfn Try.prog Try.f10 = some x10.er := by kernel_rfl
/-- wayfinder/contract.refuted -/
noncomputable def g33 : Con := fun args_ E_ nn_ => match args_ with
  | [.a [.v (.int .i64 p_W), .v (.int .i64 p_H), .n p_Cells], .a [.v (.int .i64 r_X0), .v (.int .i64 r_Y0), .v (.int .i64 r_X1), .v (.int .i64 r_Y1)], .c (.v (.int .i64 h)), .a [.v (.int .i64 b_Mark), .v (.int .i64 b_Reading)], .c (.v (.int .i64 rng))] => (match rowOf E_ p_Cells with
    | some (p_Cells_n, p_Cells_s, p_Cells_f) => some (.q (isRow eU8 p_Cells_n p_Cells_s p_Cells_f ∧ admB r_X0 r_Y0 r_X1 r_Y1 = true ∧ ((0 ≤ b_Mark ∧ b_Mark ≤ 255) ∧ -1 ≤ b_Reading ∧ b_Reading ≤ 1024) ∧ 1 ≤ rng ∧ rng ≤ 32) (.o (.c (.v (.bool (refI p_W p_H (decL eU8 p_Cells_n p_Cells_f) r_X0 r_Y0 r_X1 r_Y1 h b_Mark b_Reading rng))))))
    | none => none)
  | _ => none
theorem c33 : COk Try.prog 33 g33 := by
  refine cok_q Try.func33 x33_ok (by kernel_rfl) (cok_tab (cok_cons c61 (cok_cons c62 (cok_cons c63 cok_nil)))) ?_
  intro args_ E_ nn_ cr_ hg_
  unfold g33 at hg_
  split at hg_
  · rename_i p_W p_H p_Cells r_X0 r_Y0 r_X1 r_Y1 h b_Mark b_Reading rng
    split at hg_
    · rename_i p_Cells_n p_Cells_s p_Cells_f h_p_Cells
      cases hg_
      refine ⟨_, _, rfl, 1, [p_Cells], [.a [.v (.int .i64 p_W), .v (.int .i64 p_H), .n 0], .a [.v (.int .i64 r_X0), .v (.int .i64 r_Y0), .v (.int .i64 r_X1), .v (.int .i64 r_Y1)], .c (.v (.int .i64 h)), .a [.v (.int .i64 b_Mark), .v (.int .i64 b_Reading)], .c (.v (.int .i64 rng))], [(0, .ro (decL eU8 p_Cells_n p_Cells_f).length eU8.sz (rowF eU8 (decL eU8 p_Cells_n p_Cells_f)))], .o (.c (.v (.bool (refI p_W p_H (decL eU8 p_Cells_n p_Cells_f) r_X0 r_Y0 r_X1 r_Y1 h b_Mark b_Reading rng)))), rfl, rfl, by simp only [push_cast, Nat.reduceLT, Nat.reduceAdd], by simp only [push_cast, Nat.reduceLT, Nat.reduceAdd], by simp only [push_cast, Nat.reduceLT, Nat.reduceAdd], rfl, ⟨inE0_row h_p_Cells, trivial⟩, rfl, ?_⟩
      intro hpre hlen
      obtain ⟨i_p_Cells, hpre⟩ := hpre
      refine ⟨⟨inE_row h_p_Cells i_p_Cells, trivial⟩, ?_⟩
      have z_p_Cells := lens_row (E := eU8) hlen h_p_Cells
      clear i_p_Cells
      generalize decL eU8 p_Cells_n p_Cells_f = p_CellsL at *
      clear h_p_Cells
      simp (config := {maxSteps := 10000000}) only [x33, push_cast, Nat.reduceAdd, Nat.reduceSub, Nat.reduceLeDiff, Nat.reduceEqDiff, Nat.reduceBEq, Nat.reduceMul, Nat.reduceLT, reduceIte, reduceCtorEq, Int.reduceLE, Int.reduceLT, Int.reduceEq, Int.reduceMul, Int.reduceAdd, Int.reduceSub, Int.reduceNeg, Int.reduceToNat, Int.reduceNe, g61, g62, g63]
      obtain ⟨ha, hb, hr⟩ := hpre
      have v := beam_vec h b_Mark
      unfold refI
      simp (disch := omega) only [wrapI]
      refine ⟨fun h1 => ⟨⟨ha, v, by omega⟩, by rw [if_pos h1]⟩, fun h1 => ⟨⟨ha, v, by omega⟩, fun h2 => ⟨h2, ha, v, by omega, by omega, by omega⟩, by rw [if_neg h1]⟩⟩
    · cases hg_
  · cases hg_
/-- wayfinder/contract.admissible -/
def g31 : Con := fun args_ E_ nn_ => match args_ with
  | [.a [.v (.int .i64 r_X0), .v (.int .i64 r_Y0), .v (.int .i64 r_X1), .v (.int .i64 r_Y1)]] => some (.q (True) (.o (.c (.v (.bool (admB r_X0 r_Y0 r_X1 r_Y1))))))
  | _ => none
theorem c31 : COk Try.prog 31 g31 := by
  refine cok_q Try.func31 x31_ok (by kernel_rfl) (cok_tab (cok_cons c32 cok_nil)) ?_
  intro args_ E_ nn_ cr_ hg_
  unfold g31 at hg_
  split at hg_
  · rename_i r_X0 r_Y0 r_X1 r_Y1
    cases hg_
    refine ⟨_, _, rfl, 0, [], [.a [.v (.int .i64 r_X0), .v (.int .i64 r_Y0), .v (.int .i64 r_X1), .v (.int .i64 r_Y1)]], [], .o (.c (.v (.bool (admB r_X0 r_Y0 r_X1 r_Y1)))), rfl, rfl, by simp only [push_cast, Nat.reduceLT, Nat.reduceAdd], by simp only [push_cast, Nat.reduceLT, Nat.reduceAdd], by simp only [push_cast, Nat.reduceLT, Nat.reduceAdd], rfl, trivial, rfl, ?_⟩
    intro hpre hlen
    refine ⟨trivial, ?_⟩
    simp (config := {maxSteps := 10000000}) only [x31, push_cast, Nat.reduceAdd, Nat.reduceSub, Nat.reduceLeDiff, Nat.reduceEqDiff, Nat.reduceBEq, Nat.reduceMul, Nat.reduceLT, reduceIte, reduceCtorEq, Int.reduceLE, Int.reduceLT, Int.reduceEq, Int.reduceMul, Int.reduceAdd, Int.reduceSub, Int.reduceNeg, Int.reduceToNat, Int.reduceNe, g32]
    refine vcLoop_upd (α := {k : Nat // k ≤ 4 ∧ ∀ j, j < k → -1048576 ≤ [r_X0, r_Y0, r_X1, r_Y1].getD j 0 ∧ [r_X0, r_Y0, r_X1, r_Y1].getD j 0 ≤ 1048576}) [1, 13] 0 (fun s => [(14, .o (.c (.v (.int .i64 (s.1 : Nat)))))]) (fun s => []) (fun s => 4 - s.1) ⟨0, by omega, fun j hj => by omega⟩ ?_ ?_
    · simp only [push_cast, Nat.reduceAdd, Nat.reduceSub, Nat.reduceLeDiff, Nat.reduceEqDiff, Nat.reduceBEq, Nat.reduceMul, Nat.reduceLT, reduceIte, reduceCtorEq, Int.reduceLE, Int.reduceLT, Int.reduceEq, Int.reduceMul, Int.reduceAdd, Int.reduceSub, Int.reduceNeg, Int.reduceToNat, Int.reduceNe, g32]
    rintro ⟨k, hk, hz⟩
    rcases (by omega : k = 0 ∨ k = 1 ∨ k = 2 ∨ k = 3 ∨ k = 4) with rfl | rfl | rfl | rfl | rfl
    · simp only [x31L0, push_cast, Nat.reduceAdd, Nat.reduceSub, Nat.reduceLeDiff, Nat.reduceEqDiff, Nat.reduceBEq, Nat.reduceMul, Nat.reduceLT, reduceIte, reduceCtorEq, Int.reduceLE, Int.reduceLT, Int.reduceEq, Int.reduceMul, Int.reduceAdd, Int.reduceSub, Int.reduceNeg, Int.reduceToNat, Int.reduceNe, g32]
      exact ⟨fun h => by unfold admB; rw [decide_eq_false (by omega)], fun h1 h2 => ⟨⟨1, by omega, fun j hj => by (obtain rfl : j = 0 := by omega); exact ⟨h1, h2⟩⟩, rfl, by simp only; omega⟩⟩
    · simp only [x31L0, push_cast, Nat.reduceAdd, Nat.reduceSub, Nat.reduceLeDiff, Nat.reduceEqDiff, Nat.reduceBEq, Nat.reduceMul, Nat.reduceLT, reduceIte, reduceCtorEq, Int.reduceLE, Int.reduceLT, Int.reduceEq, Int.reduceMul, Int.reduceAdd, Int.reduceSub, Int.reduceNeg, Int.reduceToNat, Int.reduceNe, g32]
      exact ⟨fun h => by unfold admB; rw [decide_eq_false (by omega)], fun h1 h2 => ⟨⟨2, by omega, fun j hj => by rcases (by omega : j < 1 ∨ j = 1) with q | rfl; exact hz j q; exact ⟨h1, h2⟩⟩, rfl, by simp only; omega⟩⟩
    · simp only [x31L0, push_cast, Nat.reduceAdd, Nat.reduceSub, Nat.reduceLeDiff, Nat.reduceEqDiff, Nat.reduceBEq, Nat.reduceMul, Nat.reduceLT, reduceIte, reduceCtorEq, Int.reduceLE, Int.reduceLT, Int.reduceEq, Int.reduceMul, Int.reduceAdd, Int.reduceSub, Int.reduceNeg, Int.reduceToNat, Int.reduceNe, g32]
      exact ⟨fun h => by unfold admB; rw [decide_eq_false (by omega)], fun h1 h2 => ⟨⟨3, by omega, fun j hj => by rcases (by omega : j < 2 ∨ j = 2) with q | rfl; exact hz j q; exact ⟨h1, h2⟩⟩, rfl, by simp only; omega⟩⟩
    · simp only [x31L0, push_cast, Nat.reduceAdd, Nat.reduceSub, Nat.reduceLeDiff, Nat.reduceEqDiff, Nat.reduceBEq, Nat.reduceMul, Nat.reduceLT, reduceIte, reduceCtorEq, Int.reduceLE, Int.reduceLT, Int.reduceEq, Int.reduceMul, Int.reduceAdd, Int.reduceSub, Int.reduceNeg, Int.reduceToNat, Int.reduceNe, g32]
      exact ⟨fun h => by unfold admB; rw [decide_eq_false (by omega)], fun h1 h2 => ⟨⟨4, by omega, fun j hj => by rcases (by omega : j < 3 ∨ j = 3) with q | rfl; exact hz j q; exact ⟨h1, h2⟩⟩, rfl, by simp only; omega⟩⟩
    · simp only [x31L0, push_cast, Nat.reduceAdd, Nat.reduceSub, Nat.reduceLeDiff, Nat.reduceEqDiff, Nat.reduceBEq, Nat.reduceMul, Nat.reduceLT, reduceIte, reduceCtorEq, Int.reduceLE, Int.reduceLT, Int.reduceEq, Int.reduceMul, Int.reduceAdd, Int.reduceSub, Int.reduceNeg, Int.reduceToNat, Int.reduceNe, g32]
      have z0 : -1048576 ≤ r_X0 ∧ r_X0 ≤ 1048576 := hz 0 (by omega)
      have z1 : -1048576 ≤ r_Y0 ∧ r_Y0 ≤ 1048576 := hz 1 (by omega)
      have z2 : -1048576 ≤ r_X1 ∧ r_X1 ≤ 1048576 := hz 2 (by omega)
      have z3 : -1048576 ≤ r_Y1 ∧ r_Y1 ≤ 1048576 := hz 3 (by omega)
      rw [wrapI (by omega) (by omega), wrapI (by omega) (by omega), ← Bool.decide_and]
      unfold admB
      exact decide_eq_decide.2 (by omega)
  · cases hg_
/-- wayfinder/contract.Refuted -/
noncomputable def g10 : Con := fun args_ E_ nn_ => match args_ with
  | [.a [.v (.int .i64 p_W), .v (.int .i64 p_H), .n p_Cells], .a [.v (.int .i64 r_X0), .v (.int .i64 r_Y0), .v (.int .i64 r_X1), .v (.int .i64 r_Y1)], .c (.v (.int .i64 h)), .a [.v (.int .i64 b_Mark), .v (.int .i64 b_Reading)], .c (.v (.int .i64 rng))] => (match rowOf E_ p_Cells with
    | some (p_Cells_n, p_Cells_s, p_Cells_f) => some (.q (isRow eU8 p_Cells_n p_Cells_s p_Cells_f ∧ True) (.o (.c (.v (.bool (refuB p_W p_H (decL eU8 p_Cells_n p_Cells_f) r_X0 r_Y0 r_X1 r_Y1 h b_Mark b_Reading rng))))))
    | none => none)
  | _ => none
theorem c10 : COk Try.prog 10 g10 := by
  refine cok_q Try.func10 x10_ok (by kernel_rfl) (cok_tab (cok_cons c29 (cok_cons c30 (cok_cons c31 (cok_cons c32 (cok_cons c33 cok_nil)))))) ?_
  intro args_ E_ nn_ cr_ hg_
  unfold g10 at hg_
  split at hg_
  · rename_i p_W p_H p_Cells r_X0 r_Y0 r_X1 r_Y1 h b_Mark b_Reading rng
    split at hg_
    · rename_i p_Cells_n p_Cells_s p_Cells_f h_p_Cells
      cases hg_
      refine ⟨_, _, rfl, 1, [p_Cells], [.a [.v (.int .i64 p_W), .v (.int .i64 p_H), .n 0], .a [.v (.int .i64 r_X0), .v (.int .i64 r_Y0), .v (.int .i64 r_X1), .v (.int .i64 r_Y1)], .c (.v (.int .i64 h)), .a [.v (.int .i64 b_Mark), .v (.int .i64 b_Reading)], .c (.v (.int .i64 rng))], [(0, .ro (decL eU8 p_Cells_n p_Cells_f).length eU8.sz (rowF eU8 (decL eU8 p_Cells_n p_Cells_f)))], .o (.c (.v (.bool (refuB p_W p_H (decL eU8 p_Cells_n p_Cells_f) r_X0 r_Y0 r_X1 r_Y1 h b_Mark b_Reading rng)))), rfl, rfl, by simp only [push_cast, Nat.reduceLT, Nat.reduceAdd], by simp only [push_cast, Nat.reduceLT, Nat.reduceAdd], by simp only [push_cast, Nat.reduceLT, Nat.reduceAdd], rfl, ⟨inE0_row h_p_Cells, trivial⟩, rfl, ?_⟩
      intro hpre hlen
      obtain ⟨i_p_Cells, hpre⟩ := hpre
      refine ⟨⟨inE_row h_p_Cells i_p_Cells, trivial⟩, ?_⟩
      have z_p_Cells := lens_row (E := eU8) hlen h_p_Cells
      clear i_p_Cells
      generalize decL eU8 p_Cells_n p_Cells_f = p_CellsL at *
      clear h_p_Cells
      simp (config := {maxSteps := 10000000}) only [x10, push_cast, Nat.reduceAdd, Nat.reduceSub, Nat.reduceLeDiff, Nat.reduceEqDiff, Nat.reduceBEq, Nat.reduceMul, Nat.reduceLT, reduceIte, reduceCtorEq, Int.reduceLE, Int.reduceLT, Int.reduceEq, Int.reduceMul, Int.reduceAdd, Int.reduceSub, Int.reduceNeg, Int.reduceToNat, Int.reduceNe, g29, g30, g31, g32, g33]
      exact ⟨fun h1 a b c d h2 e f g h => ⟨⟨⟨⟨⟨h1, ⟨a, b⟩, c, d⟩, h2⟩, e, f⟩, g, h⟩, h2, ⟨⟨a, b⟩, c, d⟩, g, h⟩, by rfl⟩
    · cases hg_
  · cases hg_
end Go.Proofs.Ytjnelnofbpjdmaa
set_option linter.unusedVariables false
set_option linter.unusedSimpArgs false
set_option maxRecDepth 20000
namespace Go.Proofs.Ytjnelnofbpjdmaa
open Go.Sx Go.Way
section
variable {x0 y0 x1 y1 vx vy vd far : Int} {op : Bool} {c : CC}
theorem cor2 (e : corB op x0 y0 x1 y1 vx vy vd far c 1 = true) : corB op x0 y0 x1 y1 vx vy vd far c 2 = nearC op x1 y0 vx vy vd far c := by
  have e1 : nearC op x0 y0 vx vy vd far c = true := e
  unfold corB; rw [e1]; rfl
theorem cor3 (e : corB op x0 y0 x1 y1 vx vy vd far c 2 = true) : corB op x0 y0 x1 y1 vx vy vd far c 3 = nearC op x0 y1 vx vy vd far c := by
  have e1 : (nearC op x0 y0 vx vy vd far c && nearC op x1 y0 vx vy vd far c) = true := e
  unfold corB; rw [e1]; rfl
theorem cor4 (e : corB op x0 y0 x1 y1 vx vy vd far c 3 = true) : corB op x0 y0 x1 y1 vx vy vd far c 4 = nearC op x1 y1 vx vy vd far c := by
  have e1 : (nearC op x0 y0 vx vy vd far c && nearC op x1 y0 vx vy vd far c && nearC op x0 y1 vx vy vd far c) = true := e
  unfold corB; rw [e1]; rfl
theorem cor41 (e : corB op x0 y0 x1 y1 vx vy vd far c 1 = false) : corB op x0 y0 x1 y1 vx vy vd far c 4 = false := by
  have e1 : nearC op x0 y0 vx vy vd far c = false := e
  unfold corB; rw [e1]; rfl
theorem cor42 (e : corB op x0 y0 x1 y1 vx vy vd far c 2 = false) : corB op x0 y0 x1 y1 vx vy vd far c 4 = false := by
  have e1 : (nearC op x0 y0 vx vy vd far c && nearC op x1 y0 vx vy vd far c) = false := e
  unfold corB; rw [e1]; rfl
theorem cor43 (e : corB op x0 y0 x1 y1 vx vy vd far c 3 = false) : corB op x0 y0 x1 y1 vx vy vd far c 4 = false := by
  have e1 : (nearC op x0 y0 vx vy vd far c && nearC op x1 y0 vx vy vd far c && nearC op x0 y1 vx vy vd far c) = false := e
  unfold corB; rw [e1]; rfl
end
def x38L0 : XC := (.seq (.seq (.reg false [O1 77 .mv 19, K2 78 (.bin .lss) 77 (iV 4), O1 79 .mv 78, G1 80 .mv 18 79 true, ⟨(some 81), .pick, [(.t 79), (.t 80), (.k (.bool false))], none⟩]) (.cond (.t 81) .skip (.exit 4))) (.seq (.block 5 (.seq (.reg false [O1 84 .mv 4]) (.cond (.t 84) (.reg true [O1 85 .mv 11, O1 86 .mv 19, O2 87 (.ixS 2) 85 86, O1 88 (.loadN 2) 87, O1 89 (.loadN 3) 7, O1 90 .mv 3, O1 91 (.loadN 2) 17, O1 92 (.call 68) 91, ⟨(some 93), (.call 67), [(.t 88), (.t 89), (.t 90), (.t 92)], none⟩, O1 18 .mv 93]) (.reg true [O1 94 .mv 11, O1 95 .mv 19, O2 96 (.ixS 2) 94 95, O1 97 (.loadN 2) 96, O1 98 (.loadN 3) 7, O1 99 .mv 3, O1 100 (.loadN 2) 17, O1 101 (.call 68) 100, ⟨(some 102), (.call 69), [(.t 97), (.t 98), (.k (iV 0)), (.t 99), (.t 101)], none⟩, O1 18 .mv 102])))) (.reg false [O1 82 .mv 19, K2 83 (.bin .add) 82 (iV 1), O1 19 .mv 83])))
def x38L1 : XC := (.seq (.seq (.reg false [O1 63 .mv 16, O1 64 .mv 12, O1 65 .mv 14, O2 66 (.bin .add) 64 65, O2 67 (.bin .leq) 63 66]) (.cond (.t 67) .skip (.exit 2))) (.seq (.block 3 (.seq (.reg false [O1 70 .mv 16, O1 71 .mv 15, ⟨(some 72), (.build [(iV 0), (iV 0)] [(0, 1), (1, 1)]), [(.t 70), (.t 71)], none⟩, ⟨(some 17), (.alloc 83 [(iV 0), (iV 0)]), [], none⟩, ⟨none, (.store 2), [(.t 17), (.t 72)], none⟩]) (.seq (.seq (.reg false [O1 73 (.loadN 3) 5, O1 74 (.loadN 2) 17, O2 75 (.call 40) 73 74, K2 76 (.bin .neq) 75 (.int .u8 2)]) (.cond (.t 76) (.exit 3) .skip)) (.seq (.reg false [K1 18 .mv (.bool true)]) (.seq (.seq (.reg false [K1 19 .mv (iV 0)]) (.block 4 (.loop x38L0))) (.seq (.reg false [O1 103 .mv 18]) (.cond (.t 103) (.seq (.reg false [K1 10 .mv (.bool true)]) .ret) .skip))))))) (.reg false [O1 68 .mv 16, K2 69 (.bin .add) 68 (iV 1), O1 16 .mv 69])))
def x38L2 : XC := (.seq (.seq (.reg false [O1 53 .mv 15, O1 54 .mv 13, O1 55 .mv 14, O2 56 (.bin .add) 54 55, O2 57 (.bin .leq) 53 56]) (.cond (.t 57) .skip (.exit 0))) (.seq (.block 1 (.seq (.reg false [O1 60 .mv 12, O1 61 .mv 14, O2 62 (.bin .sub) 60 61, O1 16 .mv 62]) (.block 2 (.loop x38L1)))) (.reg false [O1 58 .mv 15, K2 59 (.bin .add) 58 (iV 1), O1 15 .mv 59])))
def x38 : XFn := ⟨104, (.seq (.reg false [O1 5 (.box 24) 0, O1 6 (.box 26) 1, O1 7 (.box 75) 2, K1 10 .mv (.bool false)]) (.seq (.reg false [O1 20 (.fld 0) 6, O1 21 .load1 20, O1 22 (.fld 1) 6, O1 23 .load1 22, ⟨(some 24), (.build [(iV 0), (iV 0)] [(0, 1), (1, 1)]), [(.t 21), (.t 23)], none⟩, O1 25 (.fld 2) 6, O1 26 .load1 25, O1 27 (.fld 1) 6, O1 28 .load1 27, ⟨(some 29), (.build [(iV 0), (iV 0)] [(0, 1), (1, 1)]), [(.t 26), (.t 28)], none⟩, O1 30 (.fld 0) 6, O1 31 .load1 30, O1 32 (.fld 3) 6, O1 33 .load1 32, ⟨(some 34), (.build [(iV 0), (iV 0)] [(0, 1), (1, 1)]), [(.t 31), (.t 33)], none⟩, O1 35 (.fld 2) 6, O1 36 .load1 35, O1 37 (.fld 3) 6, O1 38 .load1 37, ⟨(some 39), (.build [(iV 0), (iV 0)] [(0, 1), (1, 1)]), [(.t 36), (.t 38)], none⟩, ⟨(some 40), (.slit 112 4 2 [(iV 0), (iV 0), (iV 0), (iV 0), (iV 0), (iV 0), (iV 0), (iV 0)] [(0, 2), (2, 2), (4, 2), (6, 2)]), [(.t 24), (.t 29), (.t 34), (.t 39)], none⟩, O1 11 .mv 40]) (.seq (.reg true [O1 41 (.fld 0) 6, O1 42 .load1 41, K2 43 (.call 66) 42 (iV 64), O1 44 (.fld 1) 6, O1 45 .load1 44, K2 46 (.call 66) 45 (iV 64), O1 12 .mv 43, O1 13 .mv 46]) (.seq (.reg false [O1 47 .mv 3, K2 48 (.bin .quo) 47 (iV 64), K2 49 (.bin .add) 48 (iV 2), O1 14 .mv 49]) (.seq (.seq (.reg false [O1 50 .mv 13, O1 51 .mv 14, O2 52 (.bin .sub) 50 51, O1 15 .mv 52]) (.block 0 (.loop x38L2))) (.seq (.reg false [K1 10 .mv (.bool false)]) .ret)))))), [(.s 10)]⟩
theorem x38_ok : xfn Try.prog Try.f38 = some x38.er := by kernel_rfl
def x11L0 : XC := (.seq (.seq (.reg false [O1 87 .mv 15, O1 88 .mv 13, O1 89 .lenS 88, O2 90 (.bin .lss) 87 89]) (.cond (.t 90) .skip (.exit 0))) (.seq (.block 1 (.seq (.reg true [O1 93 (.loadN 3) 5, O1 94 .mv 13, O1 95 .mv 15, O2 96 (.ixS 2) 94 95, O1 97 (.loadN 2) 96, O2 98 (.call 40) 93 97, K2 99 (.bin .neq) 98 (.int .u8 1)]) (.cond (.t 99) (.seq (.reg false [K1 10 .mv (.bool false)]) .ret) .skip))) (.reg false [O1 91 .mv 15, K2 92 (.bin .add) 91 (iV 1), O1 15 .mv 92])))
def x11 : XFn := ⟨100, (.seq (.reg false [O1 5 (.box 24) 0, O1 6 (.box 26) 1, O1 8 (.box 28) 3, K1 10 .mv (.bool false)]) (.seq (.seq (.reg false [O1 16 (.loadN 3) 5, O1 17 (.call 34) 16, O1 18 (.un .not) 17, O1 19 .mv 18, G1 20 (.loadN 2) 8 19 false, G1 21 (.call 35) 20 19 false, G1 22 (.un .not) 21 19 false, ⟨(some 23), .pick, [(.t 19), (.k (.bool true)), (.t 22)], none⟩, O1 24 .mv 23, G1 25 (.loadN 4) 6 24 false, G1 26 (.call 36) 25 24 false, G1 27 (.un .not) 26 24 false, ⟨(some 28), .pick, [(.t 24), (.k (.bool true)), (.t 27)], none⟩, O1 29 .mv 28, G1 30 .mv 2 29 false, GK 31 (.bin .lss) 30 (iV 0) 29 false, ⟨(some 32), .pick, [(.t 29), (.k (.bool true)), (.t 31)], none⟩, O1 33 .mv 32, G1 34 .mv 2 33 false, GK 35 (.bin .geq) 34 (iV 256) 33 false, ⟨(some 36), .pick, [(.t 33), (.k (.bool true)), (.t 35)], none⟩, O1 37 .mv 36, G1 38 .mv 4 37 false, GK 39 (.bin .lss) 38 (iV 1) 37 false, ⟨(some 40), .pick, [(.t 37), (.k (.bool true)), (.t 39)], none⟩, O1 41 .mv 40, G1 42 .mv 4 41 false, GK 43 (.bin .gtr) 42 (iV 32) 41 false, ⟨(some 44), .pick, [(.t 41), (.k (.bool true)), (.t 43)], none⟩]) (.cond (.t 44) (.seq (.reg false [K1 10 .mv (.bool false)]) .ret) .skip)) (.seq (.reg false [O1 45 .mv 2, O1 46 (.fld 0) 8, O1 47 .load1 46, O2 48 (.call 37) 45 47, ⟨(some 11), (.alloc 75 [(iV 0), (iV 0), (iV 0)]), [], none⟩, ⟨none, (.store 3), [(.t 11), (.t 48)], none⟩]) (.seq (.reg false [O1 49 (.fld 1) 8, O1 50 .load1 49, O1 12 .mv 50]) (.seq (.seq (.reg false [O1 51 .mv 12, K2 52 (.bin .eql) 51 (iV (-1))]) (.cond (.t 52) (.seq (.reg false [O1 53 (.loadN 3) 5, O1 54 (.loadN 4) 6, O1 55 (.loadN 3) 11, O1 56 .mv 4, ⟨(some 57), (.bin .sub), [(.k (iV 1024)), (.t 56)], none⟩, ⟨(some 58), (.call 38), [(.t 53), (.t 54), (.t 55), (.t 57), (.k (.bool false))], none⟩, O1 10 .mv 58]) .ret) .skip)) (.seq (.seq (.reg false [O1 59 .mv 12, O1 60 .mv 4, O2 61 (.bin .sub) 59 60, K2 62 (.bin .gtr) 61 (iV 0), O1 63 .mv 62, G1 64 (.loadN 3) 5 63 true, G1 65 (.loadN 4) 6 63 true, G1 66 (.loadN 3) 11 63 true, G1 67 .mv 12 63 true, G1 68 .mv 4 63 true, G2 69 (.bin .sub) 67 68 63 true, ⟨(some 70), (.call 38), [(.t 64), (.t 65), (.t 66), (.t 69), (.k (.bool true))], (some (63, true))⟩, ⟨(some 71), .pick, [(.t 63), (.t 70), (.k (.bool false))], none⟩]) (.cond (.t 71) (.seq (.reg false [K1 10 .mv (.bool true)]) .ret) .skip)) (.seq (.reg false [O1 73 (.loadN 4) 6, O1 74 (.loadN 3) 11, O1 75 .mv 12, O1 76 .mv 4, O2 77 (.bin .sub) 75 76, ⟨(some 78), .maxI, [(.k (iV 0)), (.t 77)], none⟩, O1 79 .mv 12, O1 80 .mv 4, O2 81 (.bin .add) 79 80, ⟨(some 82), (.call 39), [(.t 73), (.t 74), (.t 78), (.t 81)], none⟩, O1 72 .mv 82, O1 83 (.ext 0) 72, O1 84 (.ext 1) 72, O1 13 .mv 83, O1 14 .mv 84]) (.seq (.seq (.reg false [O1 85 .mv 14, K2 86 (.bin .neq) 85 (iV 0)]) (.cond (.t 86) (.seq (.reg false [K1 10 .mv (.bool false)]) .ret) .skip)) (.seq (.seq (.reg false [K1 15 .mv (iV 0)]) (.block 0 (.loop x11L0))) (.seq (.reg false [K1 10 .mv (.bool true)]) .ret)))))))))), [(.s 10)]⟩
theorem x11_ok : xfn Try.prog Try.f11 = some x11.er := by kernel_rfl
/-- wayfinder/wayfinderref24.blocked -/
noncomputable def g38 : Con := fun args_ E_ nn_ => match args_ with
  | [.a [.v (.int .i64 p_W), .v (.int .i64 p_H), .n p_Cells], .a [.v (.int .i64 r_X0), .v (.int .i64 r_Y0), .v (.int .i64 r_X1), .v (.int .i64 r_Y1)], .a [.v (.int .i64 v_X), .v (.int .i64 v_Y), .v (.int .i64 v_D)], .c (.v (.int .i64 length)), .c (.v (.bool op))] => (match rowOf E_ p_Cells with
    | some (p_Cells_n, p_Cells_s, p_Cells_f) => some (.q (isRow eU8 p_Cells_n p_Cells_s p_Cells_f ∧ admB r_X0 r_Y0 r_X1 r_Y1 = true ∧ vecB v_X v_Y v_D = true ∧ 0 ≤ length ∧ length ≤ 2048 ∧ planB p_W p_H (decL eU8 p_Cells_n p_Cells_f) = true) (.o (.c (.v (.bool (hidB p_W p_H (decL eU8 p_Cells_n p_Cells_f) r_X0 r_Y0 r_X1 r_Y1 v_X v_Y v_D length op))))))
    | none => none)
  | _ => none
set_option maxHeartbeats 2000000 in
theorem c38 : COk Try.prog 38 g38 := by
  refine cok_q Try.func38 x38_ok (by kernel_rfl) (cok_tab (cok_cons c66 (cok_cons c40 (cok_cons c68 (cok_cons c67 (cok_cons c69 cok_nil)))))) ?_
  intro args_ E_ nn_ cr_ hg_
  unfold g38 at hg_
  split at hg_
  · rename_i p_W p_H p_Cells r_X0 r_Y0 r_X1 r_Y1 v_X v_Y v_D length op
    split at hg_
    · rename_i p_Cells_n p_Cells_s p_Cells_f h_p_Cells
      cases hg_
      refine ⟨_, _, rfl, 1, [p_Cells], [.a [.v (.int .i64 p_W), .v (.int .i64 p_H), .n 0], .a [.v (.int .i64 r_X0), .v (.int .i64 r_Y0), .v (.int .i64 r_X1), .v (.int .i64 r_Y1)], .a [.v (.int .i64 v_X), .v (.int .i64 v_Y), .v (.int .i64 v_D)], .c (.v (.int .i64 length)), .c (.v (.bool op))], [(0, .ro (decL eU8 p_Cells_n p_Cells_f).length eU8.sz (rowF eU8 (decL eU8 p_Cells_n p_Cells_f)))], .o (.c (.v (.bool (hidB p_W p_H (decL eU8 p_Cells_n p_Cells_f) r_X0 r_Y0 r_X1 r_Y1 v_X v_Y v_D length op)))), rfl, rfl, by simp only [push_cast, Nat.reduceLT, Nat.reduceAdd], by simp only [push_cast, Nat.reduceLT, Nat.reduceAdd], by simp only [push_cast, Nat.reduceLT, Nat.reduceAdd], rfl, ⟨inE0_row h_p_Cells, trivial⟩, rfl, ?_⟩
      intro hpre hlen
      obtain ⟨i_p_Cells, hpre⟩ := hpre
      refine ⟨⟨inE_row h_p_Cells i_p_Cells, trivial⟩, ?_⟩
      have z_p_Cells := lens_row (E := eU8) hlen h_p_Cells
      clear i_p_Cells
      generalize decL eU8 p_Cells_n p_Cells_f = p_CellsL at *
      clear h_p_Cells
      have r1 : ∀ b, rowEq 4 2 (litF [SC.v (Value.int IntKind.i64 r_X0), SC.v (Value.int IntKind.i64 r_Y0), SC.v (Value.int IntKind.i64 r_X1), SC.v (Value.int IntKind.i64 r_Y0), SC.v (Value.int IntKind.i64 r_X0), SC.v (Value.int IntKind.i64 r_Y1), SC.v (Value.int IntKind.i64 r_X1), SC.v (Value.int IntKind.i64 r_Y1)] 2) (litF [SC.v (Value.int IntKind.i64 r_X0), SC.v (Value.int IntKind.i64 r_Y0), SC.v (Value.int IntKind.i64 r_X1), SC.v (Value.int IntKind.i64 r_Y0), SC.v (Value.int IntKind.i64 r_X0), SC.v (Value.int IntKind.i64 r_Y1), SC.v (Value.int IntKind.i64 r_X1), SC.v (Value.int IntKind.i64 r_Y1)] 2) (SC.sub b) ↔ True := fun b => rowEq_lit rfl
      have r2 : ∀ m, scF m (litF [SC.v (Value.int IntKind.i64 r_X0), SC.v (Value.int IntKind.i64 r_Y0), SC.v (Value.int IntKind.i64 r_X1), SC.v (Value.int IntKind.i64 r_Y0), SC.v (Value.int IntKind.i64 r_X0), SC.v (Value.int IntKind.i64 r_Y1), SC.v (Value.int IntKind.i64 r_X1), SC.v (Value.int IntKind.i64 r_Y1)] 2) ↔ True := fun m => lit_scF (by simp only [scL, SC.sc, and_self]) 2
      have r3 : (litF [SC.v (Value.int IntKind.i64 r_X0), SC.v (Value.int IntKind.i64 r_Y0), SC.v (Value.int IntKind.i64 r_X1), SC.v (Value.int IntKind.i64 r_Y0), SC.v (Value.int IntKind.i64 r_X0), SC.v (Value.int IntKind.i64 r_Y1), SC.v (Value.int IntKind.i64 r_X1), SC.v (Value.int IntKind.i64 r_Y1)] 2) 0 0 = SC.v (Value.int IntKind.i64 r_X0) := rfl
      have r4 : (litF [SC.v (Value.int IntKind.i64 r_X0), SC.v (Value.int IntKind.i64 r_Y0), SC.v (Value.int IntKind.i64 r_X1), SC.v (Value.int IntKind.i64 r_Y0), SC.v (Value.int IntKind.i64 r_X0), SC.v (Value.int IntKind.i64 r_Y1), SC.v (Value.int IntKind.i64 r_X1), SC.v (Value.int IntKind.i64 r_Y1)] 2) 0 1 = SC.v (Value.int IntKind.i64 r_Y0) := rfl
      have r5 : (litF [SC.v (Value.int IntKind.i64 r_X0), SC.v (Value.int IntKind.i64 r_Y0), SC.v (Value.int IntKind.i64 r_X1), SC.v (Value.int IntKind.i64 r_Y0), SC.v (Value.int IntKind.i64 r_X0), SC.v (Value.int IntKind.i64 r_Y1), SC.v (Value.int IntKind.i64 r_X1), SC.v (Value.int IntKind.i64 r_Y1)] 2) 1 0 = SC.v (Value.int IntKind.i64 r_X1) := rfl
      have r6 : (litF [SC.v (Value.int IntKind.i64 r_X0), SC.v (Value.int IntKind.i64 r_Y0), SC.v (Value.int IntKind.i64 r_X1), SC.v (Value.int IntKind.i64 r_Y0), SC.v (Value.int IntKind.i64 r_X0), SC.v (Value.int IntKind.i64 r_Y1), SC.v (Value.int IntKind.i64 r_X1), SC.v (Value.int IntKind.i64 r_Y1)] 2) 1 1 = SC.v (Value.int IntKind.i64 r_Y0) := rfl
      have r7 : (litF [SC.v (Value.int IntKind.i64 r_X0), SC.v (Value.int IntKind.i64 r_Y0), SC.v (Value.int IntKind.i64 r_X1), SC.v (Value.int IntKind.i64 r_Y0), SC.v (Value.int IntKind.i64 r_X0), SC.v (Value.int IntKind.i64 r_Y1), SC.v (Value.int IntKind.i64 r_X1), SC.v (Value.int IntKind.i64 r_Y1)] 2) 2 0 = SC.v (Value.int IntKind.i64 r_X0) := rfl
      have r8 : (litF [SC.v (Value.int IntKind.i64 r_X0), SC.v (Value.int IntKind.i64 r_Y0), SC.v (Value.int IntKind.i64 r_X1), SC.v (Value.int IntKind.i64 r_Y0), SC.v (Value.int IntKind.i64 r_X0), SC.v (Value.int IntKind.i64 r_Y1), SC.v (Value.int IntKind.i64 r_X1), SC.v (Value.int IntKind.i64 r_Y1)] 2) 2 1 = SC.v (Value.int IntKind.i64 r_Y1) := rfl
      have r9 : (litF [SC.v (Value.int IntKind.i64 r_X0), SC.v (Value.int IntKind.i64 r_Y0), SC.v (Value.int IntKind.i64 r_X1), SC.v (Value.int IntKind.i64 r_Y0), SC.v (Value.int IntKind.i64 r_X0), SC.v (Value.int IntKind.i64 r_Y1), SC.v (Value.int IntKind.i64 r_X1), SC.v (Value.int IntKind.i64 r_Y1)] 2) 3 0 = SC.v (Value.int IntKind.i64 r_X1) := rfl
      have r10 : (litF [SC.v (Value.int IntKind.i64 r_X0), SC.v (Value.int IntKind.i64 r_Y0), SC.v (Value.int IntKind.i64 r_X1), SC.v (Value.int IntKind.i64 r_Y0), SC.v (Value.int IntKind.i64 r_X0), SC.v (Value.int IntKind.i64 r_Y1), SC.v (Value.int IntKind.i64 r_X1), SC.v (Value.int IntKind.i64 r_Y1)] 2) 3 1 = SC.v (Value.int IntKind.i64 r_Y1) := rfl
      simp (config := {maxSteps := 10000000}) only [x38, push_cast, Nat.reduceAdd, Nat.reduceSub, Nat.reduceLeDiff, Nat.reduceEqDiff, Nat.reduceBEq, Nat.reduceMul, Nat.reduceLT, reduceIte, reduceCtorEq, Int.reduceLE, Int.reduceLT, Int.reduceEq, Int.reduceMul, Int.reduceAdd, Int.reduceSub, Int.reduceNeg, Int.reduceToNat, Int.reduceNe, g66, g40, g68, g67, g69, meets_eq, r1, r2, r3, r4, r5, r6, r7, r8, r9, r10]
      obtain ⟨ha, hv, h0, h1, hp⟩ := hpre
      have hn := hid_none2 (W := p_W) (H := p_H) (L := p_CellsL) (op := op) (x0 := r_X0) (y0 := r_Y0) (x1 := r_X1) (y1 := r_Y1) (vx := v_X) (vy := v_Y) (vd := v_D) (far := length)
      have a := ha
      unfold admB at a
      rw [decide_eq_true_eq] at a
      refine ⟨by omega, by omega, ?_⟩
      rw [Int.tdiv_eq_ediv_of_nonneg h0]
      have k0 : 2 ≤ length / 64 + 2 ∧ length / 64 + 2 ≤ 34 := by omega
      rw [wrapI (n := length / 64) (by omega) (by omega), wrapI (n := length / 64 + 2) (by omega) (by omega)]
      generalize hK : length / 64 + 2 = K at *
      rw [wrapI (n := r_Y0 / 64 - K) (by omega) (by omega)]
      refine vcLoop_upd (α := {j : Nat // (j : Int) ≤ 2 * K + 1 ∧ ∀ b a : Int, 0 ≤ b → b < j → 0 ≤ a → a ≤ 2 * K → hidC p_W p_H p_CellsL r_X0 r_Y0 r_X1 r_Y1 v_X v_Y v_D length op ⟨r_X0 / 64 - K + a, r_Y0 / 64 - K + b⟩ = false}) [3, 4, 5, 7, 11, 12, 13, 14] 0 (fun s => [(15, .o (.c (.v (.int .i64 (r_Y0 / 64 - K + (s.1 : Nat))))))]) (fun s => []) (fun s => (2 * K + 1).toNat - s.1) ⟨0, by omega, fun b a h1 h2 => by omega⟩ ?_ ?_
      · simp only [push_cast, Nat.reduceAdd, Nat.reduceSub, Nat.reduceLeDiff, Nat.reduceEqDiff, Nat.reduceBEq, Nat.reduceMul, Nat.reduceLT, reduceIte, reduceCtorEq, Int.reduceLE, Int.reduceLT, Int.reduceEq, Int.reduceMul, Int.reduceAdd, Int.reduceSub, Int.reduceNeg, Int.reduceToNat, Int.reduceNe, g66, g40, g68, g67, g69, meets_eq, r1, r2, r3, r4, r5, r6, r7, r8, r9, r10]
        omega
      rintro ⟨j, hj, hz⟩
      simp only [x38L2, push_cast, Nat.reduceAdd, Nat.reduceSub, Nat.reduceLeDiff, Nat.reduceEqDiff, Nat.reduceBEq, Nat.reduceMul, Nat.reduceLT, reduceIte, reduceCtorEq, Int.reduceLE, Int.reduceLT, Int.reduceEq, Int.reduceMul, Int.reduceAdd, Int.reduceSub, Int.reduceNeg, Int.reduceToNat, Int.reduceNe, g66, g40, g68, g67, g69, meets_eq, r1, r2, r3, r4, r5, r6, r7, r8, r9, r10]
      rw [wrapI (n := r_Y0 / 64 + K) (by omega) (by omega)]
      refine ⟨fun hle => ?_, fun hle => ?_⟩
      · rw [wrapI (n := r_X0 / 64 - K) (by omega) (by omega)]
        refine vcLoop_upd (α := {i : Nat // (i : Int) ≤ 2 * K + 1 ∧ ∀ a : Int, 0 ≤ a → a < i → hidC p_W p_H p_CellsL r_X0 r_Y0 r_X1 r_Y1 v_X v_Y v_D length op ⟨r_X0 / 64 - K + a, r_Y0 / 64 - K + j⟩ = false}) [3, 4, 5, 7, 11, 12, 13, 14, 15] 0 (fun s => [(16, .o (.c (.v (.int .i64 (r_X0 / 64 - K + (s.1 : Nat))))))]) (fun s => []) (fun s => (2 * K + 1).toNat - s.1) ⟨0, by omega, fun a h1 h2 => by omega⟩ ?_ ?_
        · simp only [push_cast, Nat.reduceAdd, Nat.reduceSub, Nat.reduceLeDiff, Nat.reduceEqDiff, Nat.reduceBEq, Nat.reduceMul, Nat.reduceLT, reduceIte, reduceCtorEq, Int.reduceLE, Int.reduceLT, Int.reduceEq, Int.reduceMul, Int.reduceAdd, Int.reduceSub, Int.reduceNeg, Int.reduceToNat, Int.reduceNe, g66, g40, g68, g67, g69, meets_eq, r1, r2, r3, r4, r5, r6, r7, r8, r9, r10]
          omega
        rintro ⟨i, hi, hy⟩
        simp only [x38L1, push_cast, Nat.reduceAdd, Nat.reduceSub, Nat.reduceLeDiff, Nat.reduceEqDiff, Nat.reduceBEq, Nat.reduceMul, Nat.reduceLT, reduceIte, reduceCtorEq, Int.reduceLE, Int.reduceLT, Int.reduceEq, Int.reduceMul, Int.reduceAdd, Int.reduceSub, Int.reduceNeg, Int.reduceToNat, Int.reduceNe, g66, g40, g68, g67, g69, meets_eq, r1, r2, r3, r4, r5, r6, r7, r8, r9, r10]
        rw [wrapI (n := r_X0 / 64 + K) (by omega) (by omega)]
        refine ⟨fun hle2 => ⟨hp, fun hw => ?_, fun hw => ?_⟩, fun hle2 => ?_⟩
        · refine ⟨⟨i + 1, by omega, fun a h1 h2 => ?_⟩, (wrapI (by omega) (by omega)).trans (by simp only; omega), by simp only; omega⟩
          by_cases q : a < i
          · exact hy a h1 q
          · obtain rfl : a = i := by omega
            unfold hidC; rw [decide_eq_false hw]; rfl
        · have cont : corB op r_X0 r_Y0 r_X1 r_Y1 v_X v_Y v_D length (⟨r_X0 / 64 - K + i, r_Y0 / 64 - K + j⟩ : CC) 4 = false → ∃ y : {i : Nat // (i : Int) ≤ 2 * K + 1 ∧ ∀ a : Int, 0 ≤ a → a < i → hidC p_W p_H p_CellsL r_X0 r_Y0 r_X1 r_Y1 v_X v_Y v_D length op ⟨r_X0 / 64 - K + a, r_Y0 / 64 - K + j⟩ = false}, IntKind.i64.wrap (r_X0 / 64 - K + (i : Int) + 1) = r_X0 / 64 - K + ((y.val : Nat) : Int) ∧ (2 * K + 1).toNat - y.val < (2 * K + 1).toNat - i := by
            intro e
            refine ⟨⟨i + 1, by omega, fun a h1 h2 => ?_⟩, (wrapI (by omega) (by omega)).trans (by simp only; omega), by simp only; omega⟩
            by_cases q : a < i
            · exact hy a h1 q
            · obtain rfl : a = i := by omega
              rw [hidC_cor, e, Bool.and_false]
          refine vcLoop_upd (α := {i : Nat // i ≤ 4}) [3, 4, 5, 7, 11, 12, 13, 14, 15, 16, 17] 0 (fun s => [(18, .o (.c (.v (.bool (corB op r_X0 r_Y0 r_X1 r_Y1 v_X v_Y v_D length (⟨r_X0 / 64 - K + i, r_Y0 / 64 - K + j⟩ : CC) s.1))))), (19, .o (.c (.v (.int .i64 (s.1 : Nat)))))]) (fun s => []) (fun s => 4 - s.1) ⟨0, by omega⟩ ?_ ?_
          · simp only [push_cast, Nat.reduceAdd, Nat.reduceSub, Nat.reduceLeDiff, Nat.reduceEqDiff, Nat.reduceBEq, Nat.reduceMul, Nat.reduceLT, reduceIte, reduceCtorEq, Int.reduceLE, Int.reduceLT, Int.reduceEq, Int.reduceMul, Int.reduceAdd, Int.reduceSub, Int.reduceNeg, Int.reduceToNat, Int.reduceNe, g66, g40, g68, g67, g69, meets_eq, r1, r2, r3, r4, r5, r6, r7, r8, r9, r10]
            rfl
          rintro ⟨n, hn4⟩
          rcases (by omega : n = 0 ∨ n = 1 ∨ n = 2 ∨ n = 3 ∨ n = 4) with rfl | rfl | rfl | rfl | rfl
          · simp only [x38L0, push_cast, Nat.reduceAdd, Nat.reduceSub, Nat.reduceLeDiff, Nat.reduceEqDiff, Nat.reduceBEq, Nat.reduceMul, Nat.reduceLT, reduceIte, reduceCtorEq, Int.reduceLE, Int.reduceLT, Int.reduceEq, Int.reduceMul, Int.reduceAdd, Int.reduceSub, Int.reduceNeg, Int.reduceToNat, Int.reduceNe, g66, g40, g68, g67, g69, meets_eq, r1, r2, r3, r4, r5, r6, r7, r8, r9, r10]
            exact ⟨fun e => ⟨fun o => ⟨by omega, ⟨1, by omega⟩, ⟨by subst o; rfl, rfl⟩, by simp only; omega⟩, fun o => ⟨by omega, ⟨1, by omega⟩, ⟨by subst o; rfl, rfl⟩, by simp only; omega⟩⟩, fun e => by cases e⟩
          · simp only [x38L0, push_cast, Nat.reduceAdd, Nat.reduceSub, Nat.reduceLeDiff, Nat.reduceEqDiff, Nat.reduceBEq, Nat.reduceMul, Nat.reduceLT, reduceIte, reduceCtorEq, Int.reduceLE, Int.reduceLT, Int.reduceEq, Int.reduceMul, Int.reduceAdd, Int.reduceSub, Int.reduceNeg, Int.reduceToNat, Int.reduceNe, g66, g40, g68, g67, g69, meets_eq, r1, r2, r3, r4, r5, r6, r7, r8, r9, r10]
            exact ⟨fun e => ⟨fun o => ⟨by omega, ⟨2, by omega⟩, ⟨by subst o; exact (cor2 e).symm, rfl⟩, by simp only; omega⟩, fun o => ⟨by omega, ⟨2, by omega⟩, ⟨by subst o; exact (cor2 e).symm, rfl⟩, by simp only; omega⟩⟩, fun e => ⟨fun e2 => by rw [e2] at e; simp at e, fun e2 => cont (cor41 e2)⟩⟩
          · simp only [x38L0, push_cast, Nat.reduceAdd, Nat.reduceSub, Nat.reduceLeDiff, Nat.reduceEqDiff, Nat.reduceBEq, Nat.reduceMul, Nat.reduceLT, reduceIte, reduceCtorEq, Int.reduceLE, Int.reduceLT, Int.reduceEq, Int.reduceMul, Int.reduceAdd, Int.reduceSub, Int.reduceNeg, Int.reduceToNat, Int.reduceNe, g66, g40, g68, g67, g69, meets_eq, r1, r2, r3, r4, r5, r6, r7, r8, r9, r10]
            exact ⟨fun e => ⟨fun o => ⟨by omega, ⟨3, by omega⟩, ⟨by subst o; exact (cor3 e).symm, rfl⟩, by simp only; omega⟩, fun o => ⟨by omega, ⟨3, by omega⟩, ⟨by subst o; exact (cor3 e).symm, rfl⟩, by simp only; omega⟩⟩, fun e => ⟨fun e2 => by rw [e2] at e; simp at e, fun e2 => cont (cor42 e2)⟩⟩
          · simp only [x38L0, push_cast, Nat.reduceAdd, Nat.reduceSub, Nat.reduceLeDiff, Nat.reduceEqDiff, Nat.reduceBEq, Nat.reduceMul, Nat.reduceLT, reduceIte, reduceCtorEq, Int.reduceLE, Int.reduceLT, Int.reduceEq, Int.reduceMul, Int.reduceAdd, Int.reduceSub, Int.reduceNeg, Int.reduceToNat, Int.reduceNe, g66, g40, g68, g67, g69, meets_eq, r1, r2, r3, r4, r5, r6, r7, r8, r9, r10]
            exact ⟨fun e => ⟨fun o => ⟨by omega, ⟨4, by omega⟩, ⟨by subst o; exact (cor4 e).symm, rfl⟩, by simp only; omega⟩, fun o => ⟨by omega, ⟨4, by omega⟩, ⟨by subst o; exact (cor4 e).symm, rfl⟩, by simp only; omega⟩⟩, fun e => ⟨fun e2 => by rw [e2] at e; simp at e, fun e2 => cont (cor43 e2)⟩⟩
          · simp only [x38L0, push_cast, Nat.reduceAdd, Nat.reduceSub, Nat.reduceLeDiff, Nat.reduceEqDiff, Nat.reduceBEq, Nat.reduceMul, Nat.reduceLT, reduceIte, reduceCtorEq, Int.reduceLE, Int.reduceLT, Int.reduceEq, Int.reduceMul, Int.reduceAdd, Int.reduceSub, Int.reduceNeg, Int.reduceToNat, Int.reduceNe, g66, g40, g68, g67, g69, meets_eq, r1, r2, r3, r4, r5, r6, r7, r8, r9, r10]
            exact fun _ => ⟨fun e => (hid_yes h0 hw e).symm, fun e => cont e⟩
        · exact ⟨⟨j + 1, by omega, fun b a h1 h2 h3 h4 => by
            by_cases q : b < j
            · exact hz b a h1 q h3 h4
            · obtain rfl : b = j := by omega
              exact hy a h3 (by omega)⟩, (wrapI (by omega) (by omega)).trans (by simp only; omega), by simp only; omega⟩
      · rw [hn (fun b a h1 h2 => hz b a h1.1 (by omega) h2.1 h2.2)]
    · cases hg_
  · cases hg_
/-- wayfinder/wayfinderref24.Refuted -/
noncomputable def g11 : Con := fun args_ E_ nn_ => match args_ with
  | [.a [.v (.int .i64 p_W), .v (.int .i64 p_H), .n p_Cells], .a [.v (.int .i64 r_X0), .v (.int .i64 r_Y0), .v (.int .i64 r_X1), .v (.int .i64 r_Y1)], .c (.v (.int .i64 h)), .a [.v (.int .i64 b_Mark), .v (.int .i64 b_Reading)], .c (.v (.int .i64 rng))] => (match rowOf E_ p_Cells with
    | some (p_Cells_n, p_Cells_s, p_Cells_f) => some (.q (isRow eU8 p_Cells_n p_Cells_s p_Cells_f ∧ True) (.o (.c (.v (.bool (refuB p_W p_H (decL eU8 p_Cells_n p_Cells_f) r_X0 r_Y0 r_X1 r_Y1 h b_Mark b_Reading rng))))))
    | none => none)
  | _ => none
set_option maxHeartbeats 1000000 in
theorem c11 : COk Try.prog 11 g11 := by
  refine cok_q Try.func11 x11_ok (by kernel_rfl) (cok_tab (cok_cons c34 (cok_cons c35 (cok_cons c36 (cok_cons c37 (cok_cons c38 (cok_cons c39 (cok_cons c40 cok_nil)))))))) ?_
  intro args_ E_ nn_ cr_ hg_
  unfold g11 at hg_
  split at hg_
  · rename_i p_W p_H p_Cells r_X0 r_Y0 r_X1 r_Y1 h b_Mark b_Reading rng
    split at hg_
    · rename_i p_Cells_n p_Cells_s p_Cells_f h_p_Cells
      cases hg_
      refine ⟨_, _, rfl, 1, [p_Cells], [.a [.v (.int .i64 p_W), .v (.int .i64 p_H), .n 0], .a [.v (.int .i64 r_X0), .v (.int .i64 r_Y0), .v (.int .i64 r_X1), .v (.int .i64 r_Y1)], .c (.v (.int .i64 h)), .a [.v (.int .i64 b_Mark), .v (.int .i64 b_Reading)], .c (.v (.int .i64 rng))], [(0, .ro (decL eU8 p_Cells_n p_Cells_f).length eU8.sz (rowF eU8 (decL eU8 p_Cells_n p_Cells_f)))], .o (.c (.v (.bool (refuB p_W p_H (decL eU8 p_Cells_n p_Cells_f) r_X0 r_Y0 r_X1 r_Y1 h b_Mark b_Reading rng)))), rfl, rfl, by simp only [push_cast, Nat.reduceLT, Nat.reduceAdd], by simp only [push_cast, Nat.reduceLT, Nat.reduceAdd], by simp only [push_cast, Nat.reduceLT, Nat.reduceAdd], rfl, ⟨inE0_row h_p_Cells, trivial⟩, rfl, ?_⟩
      intro hpre hlen
      obtain ⟨i_p_Cells, hpre⟩ := hpre
      refine ⟨⟨inE_row h_p_Cells i_p_Cells, trivial⟩, ?_⟩
      have z_p_Cells := lens_row (E := eU8) hlen h_p_Cells
      clear i_p_Cells
      generalize decL eU8 p_Cells_n p_Cells_f = p_CellsL at *
      clear h_p_Cells
      simp (config := {maxSteps := 10000000}) only [x11, push_cast, Nat.reduceAdd, Nat.reduceSub, Nat.reduceLeDiff, Nat.reduceEqDiff, Nat.reduceBEq, Nat.reduceMul, Nat.reduceLT, reduceIte, reduceCtorEq, Int.reduceLE, Int.reduceLT, Int.reduceEq, Int.reduceMul, Int.reduceAdd, Int.reduceSub, Int.reduceNeg, Int.reduceToNat, Int.reduceNe, g34, g35, g36, g37, g38, g39, g40]
      refine ⟨fun hb => ?_, fun hp a1 a2 a3 a4 ha b1 b2 c1 c2 => ?_⟩
      · symm
        rw [Bool.eq_false_iff]
        intro q
        unfold refuB at q
        simp only [Bool.and_eq_true, decide_eq_true_eq] at q
        obtain ⟨⟨⟨⟨⟨q1, q2⟩, q3⟩, q4⟩, q5⟩, _⟩ := q
        rw [q1, q3] at hb
        simp only [reduceCtorEq, false_or, or_false] at hb
        omega
      have v := beam_vec h b_Mark
      simp (disch := omega) only [wrapI]
      have hr : refuB p_W p_H p_CellsL r_X0 r_Y0 r_X1 r_Y1 h b_Mark b_Reading rng = refI p_W p_H p_CellsL r_X0 r_Y0 r_X1 r_Y1 h b_Mark b_Reading rng := by
        unfold refuB
        rw [hp, ha, decide_eq_true (p := (0 ≤ b_Mark ∧ b_Mark ≤ 255) ∧ -1 ≤ b_Reading ∧ b_Reading ≤ 1024) (by omega), decide_eq_true (p := 0 ≤ h ∧ h ≤ 255) (by omega), decide_eq_true (p := 1 ≤ rng ∧ rng ≤ 32) (by omega)]
        rfl
      rw [hr]
      unfold refI
      refine ⟨⟨by omega, by omega⟩, fun hz => ⟨⟨ha, v, by omega, by omega, hp⟩, by rw [if_pos hz]⟩, fun hz => ?_⟩
      have e0 := adm_swept (h := h) (m := b_Mark) (lo := max 0 (b_Reading - rng)) (hi := b_Reading + rng) ha (by omega) (by omega) (by omega)
      rw [e0, if_neg hz]
      refine ⟨fun g => ⟨g, ha, v, by omega, by omega, hp⟩, fun g e => by rw [e]; rfl, fun e => ⟨fun n => absurd rfl n, fun _ => ?_⟩⟩
      have hh : hidB p_W p_H p_CellsL r_X0 r_Y0 r_X1 r_Y1 (beamV h b_Mark).1 (beamV h b_Mark).2.1 (beamV h b_Mark).2.2 (b_Reading - rng) true = false := by
        by_cases q : 0 < b_Reading - rng
        · rw [decide_eq_true q, Bool.true_and] at e; exact e
        · exact hid_zero (by omega)
      rw [hh, Bool.false_or]
      unfold emptyB
      have hlen := seL_len (lo := max 0 (b_Reading - rng)) (hi := b_Reading + rng) ha v (by omega)
      clear hr e0 e hh
      generalize seL r_X0 r_Y0 r_X1 r_Y1 (beamV h b_Mark).1 (beamV h b_Mark).2.1 (beamV h b_Mark).2.2 (max 0 (b_Reading - rng)) (b_Reading + rng) = T at *
      refine vcLoop_upd (α := {k : Nat // k ≤ T.length ∧ ∀ j, j < k → atB p_W p_H p_CellsL (T.getD j eC.dflt).X (T.getD j eC.dflt).Y = 1}) [5, 13] 0 (fun s => [(15, .o (.c (.v (.int .i64 (s.1 : Nat)))))]) (fun s => []) (fun s => T.length - s.1) ⟨0, by omega, fun j hj => by omega⟩ ?_ ?_
      · simp only [push_cast, Nat.reduceAdd, Nat.reduceSub, Nat.reduceLeDiff, Nat.reduceEqDiff, Nat.reduceBEq, Nat.reduceMul, Nat.reduceLT, reduceIte, reduceCtorEq, Int.reduceLE, Int.reduceLT, Int.reduceEq, Int.reduceMul, Int.reduceAdd, Int.reduceSub, Int.reduceNeg, Int.reduceToNat, Int.reduceNe, g34, g35, g36, g37, g38, g39, g40]
      rintro ⟨k, hk, hz2⟩
      by_cases hlt : k < T.length
      · by_cases hw : atB p_W p_H p_CellsL (T.getD k eC.dflt).X (T.getD k eC.dflt).Y = 1
        · simp only [x11L0, hlt, hw, push_cast, Nat.reduceAdd, Nat.reduceSub, Nat.reduceLeDiff, Nat.reduceEqDiff, Nat.reduceBEq, Nat.reduceMul, Nat.reduceLT, reduceIte, reduceCtorEq, Int.reduceLE, Int.reduceLT, Int.reduceEq, Int.reduceMul, Int.reduceAdd, Int.reduceSub, Int.reduceNeg, Int.reduceToNat, Int.reduceNe, g34, g35, g36, g37, g38, g39, g40]
          exact ⟨hp, ⟨k + 1, by omega, fun j hj => by rcases Nat.lt_succ_iff_lt_or_eq.1 hj with q | q; exact hz2 j q; subst q; exact hw⟩, wrapI (by omega) (by omega), by simp only; omega⟩
        · simp only [x11L0, hlt, hw, push_cast, Nat.reduceAdd, Nat.reduceSub, Nat.reduceLeDiff, Nat.reduceEqDiff, Nat.reduceBEq, Nat.reduceMul, Nat.reduceLT, reduceIte, reduceCtorEq, Int.reduceLE, Int.reduceLT, Int.reduceEq, Int.reduceMul, Int.reduceAdd, Int.reduceSub, Int.reduceNeg, Int.reduceToNat, Int.reduceNe, g34, g35, g36, g37, g38, g39, g40]
          have z : T.all (fun c => decide (atB p_W p_H p_CellsL c.X c.Y = 1)) = false := by
            rw [List.all_eq_false]
            exact ⟨_, getD_in hlt, by rw [decide_eq_true_eq]; exact hw⟩
          rw [z]
          exact ⟨hp, rfl⟩
      · simp only [x11L0, hlt, push_cast, Nat.reduceAdd, Nat.reduceSub, Nat.reduceLeDiff, Nat.reduceEqDiff, Nat.reduceBEq, Nat.reduceMul, Nat.reduceLT, reduceIte, reduceCtorEq, Int.reduceLE, Int.reduceLT, Int.reduceEq, Int.reduceMul, Int.reduceAdd, Int.reduceSub, Int.reduceNeg, Int.reduceToNat, Int.reduceNe, g34, g35, g36, g37, g38, g39, g40]
        have z : T.all (fun c => decide (atB p_W p_H p_CellsL c.X c.Y = 1)) = true := by
          rw [List.all_eq_true]
          intro c hc
          obtain ⟨j, hj, e⟩ := mem_at hc
          rw [decide_eq_true_eq, ← e]
          exact hz2 j (by omega)
        rw [z]
    · cases hg_
  · cases hg_
end Go.Proofs.Ytjnelnofbpjdmaa
