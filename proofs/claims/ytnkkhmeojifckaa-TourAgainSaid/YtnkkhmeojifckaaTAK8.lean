/- A part of the proof of a statement about this seat: how a function is stepped through, and plain laws. No conditions. -/
import Derived.Test.YtnkkhmeojifckaaRows
import Derived.Test.YtnkkhmeojifckaaTASz4
import Derived.Test.YtnkkhmeojifckaaTAK4
import Derived.Test.YtnkkhmeojifckaaTAK5
import Derived.Test.YtnkkhmeojifckaaTAK7
import Derived.KernelRfl
set_option linter.unusedVariables false
set_option linter.unusedSimpArgs false
set_option maxRecDepth 20000
namespace Go.Proofs.Ytnkkhmeojifckaa
open Go.Sx
theorem catF_z (f g : Nat → Nat → SC) : catF 0 f g = g := by
  funext e j; simp [catF]
def x4 : XFn := ⟨76, (.seq (.reg false [O1 2 (.box 24) 0, O1 3 (.box 26) 1, K1 4 .mv (.bool false)]) (.seq (.seq (.reg false [⟨(some 14), (.call 11), [], none⟩, O1 15 (.un .not) 14, O1 16 .mv 15, G1 17 (.loadN 3) 2 16 false, G1 18 (.call 12) 17 16 false, G1 19 (.un .not) 18 16 false, ⟨(some 20), .pick, [(.t 16), (.k (.bool true)), (.t 19)], none⟩]) (.cond (.t 20) (.seq (.reg false [⟨(some 21), (.call 11), [], none⟩, O1 4 .mv 21]) .ret) .skip)) (.seq (.regD [O1 22 (.fld 0) 2, O1 23 .load1 22, O1 24 (.fld 1) 2, O1 25 .load1 24, ⟨(some 26), (.slit 5 0 1 [] []), [], none⟩, O1 27 (.fld 2) 2, O1 28 .load1 27, O2 29 (.app 5 1 1) 26 28, ⟨(some 30), (.build [(iV 0), (iV 0), (.slice none 0 0)] [(0, 1), (1, 1), (2, 1)]), [(.t 23), (.t 25), (.t 29)], none⟩, ⟨(some 5), (.alloc 24 [(iV 0), (iV 0), (.slice none 0 0)]), [], none⟩, ⟨none, (.store 3), [(.t 5), (.t 30)], none⟩] [[], [0], [], [2], [], [], [5], [4, 6, 5], [1, 0, 3, 2, 7, 4, 6, 5], [], [9, 8, 1, 0, 3, 2, 7, 4, 6, 5]]) (.seq (.reg false [O1 32 (.loadN 3) 5, O1 33 (.loadN 2) 3, O2 34 (.call 13) 32 33, O1 31 .mv 34, O1 35 (.ext 0) 31, O1 36 (.ext 1) 31, O1 6 .mv 35, O1 7 .mv 36]) (.seq (.reg false [O1 38 (.loadN 3) 2, O1 39 (.loadN 2) 3, O2 40 (.call 13) 38 39, O1 37 .mv 40, O1 41 (.ext 0) 37, O1 42 (.ext 1) 37, O1 8 .mv 41, O1 9 .mv 42]) (.seq (.reg false [O1 44 (.loadN 3) 5, O1 45 (.call 20) 44, O1 43 .mv 45, O1 46 (.ext 0) 43, O1 47 (.ext 1) 43, O1 10 .mv 46, O1 11 .mv 47]) (.seq (.reg false [O1 49 (.loadN 3) 2, O1 50 (.call 20) 49, O1 48 .mv 50, O1 51 (.ext 0) 48, O1 52 (.ext 1) 48, O1 12 .mv 51, O1 13 .mv 52]) (.seq (.reg false [O1 53 .mv 7, O1 54 .mv 9, O2 55 (.bin .eql) 53 54, O1 56 .mv 55, G1 57 .mv 6 56 true, G1 58 .mv 8 56 true, G2 59 (.call 21) 57 58 56 true, ⟨(some 60), .pick, [(.t 56), (.t 59), (.k (.bool false))], none⟩, O1 61 .mv 60, G1 62 .mv 11 61 true, G1 63 .mv 13 61 true, G2 64 (.bin .eql) 62 63 61 true, ⟨(some 65), .pick, [(.t 61), (.t 64), (.k (.bool false))], none⟩, O1 66 .mv 65, G1 67 .mv 10 66 true, G1 68 .mv 12 66 true, G2 69 (.call 21) 67 68 66 true, ⟨(some 70), .pick, [(.t 66), (.t 69), (.k (.bool false))], none⟩, O1 71 .mv 70, G1 72 (.loadN 3) 5 71 true, G1 73 (.loadN 3) 2 71 true, G2 74 (.call 22) 72 73 71 true, ⟨(some 75), .pick, [(.t 71), (.t 74), (.k (.bool false))], none⟩, O1 4 .mv 75]) .ret)))))))), [(.s 4)]⟩
theorem x4_ok : xfn Try.prog Try.f4 = some x4.er := by kernel_rfl
def g4 : Con := fun args_ E_ nn_ => match args_ with
  | [.a [.v (.int .i64 p_W), .v (.int .i64 p_H), .n p_Cells], .a [.v (.int .i64 start_X), .v (.int .i64 start_Y)]] => (match rowOf E_ p_Cells with
    | some (p_Cells_n, p_Cells_s, p_Cells_f) => some (.q (isRow eU8 p_Cells_n p_Cells_s p_Cells_f ∧ u8s (decL eU8 p_Cells_n p_Cells_f)) (.o (.c (.v (.bool (true))))))
    | none => none)
  | _ => none
set_option maxHeartbeats 4000000 in
theorem c4 : COk Try.prog 4 g4 := by
  refine cok_q Try.func4 x4_ok (by kernel_rfl) (cok_tab (cok_cons c11 (cok_cons c12 (cok_cons c13 (cok_cons c20m (cok_cons c21 (cok_cons c22 cok_nil))))))) ?_
  intro args_ E_ nn_ cr_ hg_
  unfold g4 at hg_
  split at hg_
  · rename_i p_W p_H p_Cells start_X start_Y
    split at hg_
    · rename_i p_Cells_n p_Cells_s p_Cells_f h_p_Cells
      cases hg_
      refine ⟨_, _, rfl, 1, [p_Cells], [.a [.v (.int .i64 p_W), .v (.int .i64 p_H), .n 0], .a [.v (.int .i64 start_X), .v (.int .i64 start_Y)]], [(0, .ro (decL eU8 p_Cells_n p_Cells_f).length eU8.sz (rowF eU8 (decL eU8 p_Cells_n p_Cells_f)))], .o (.c (.v (.bool (true)))), rfl, rfl, by simp only [push_cast, Nat.reduceLT, Nat.reduceAdd], by simp only [push_cast, Nat.reduceLT, Nat.reduceAdd], by simp only [push_cast, Nat.reduceLT, Nat.reduceAdd], rfl, ⟨inE0_row h_p_Cells, trivial⟩, rfl, ?_⟩
      intro hpre hlen
      obtain ⟨i_p_Cells, hpre⟩ := hpre
      refine ⟨⟨inE_row h_p_Cells i_p_Cells, trivial⟩, ?_⟩
      have z_p_Cells := lens_row (E := eU8) hlen h_p_Cells
      clear i_p_Cells
      generalize decL eU8 p_Cells_n p_Cells_f = p_CellsL at *
      clear h_p_Cells
      simp (config := {maxSteps := 10000000}) only [x4, push_cast, Nat.reduceAdd, Nat.reduceSub, Nat.reduceLeDiff, Nat.reduceEqDiff, Nat.reduceBEq, Nat.reduceMul, Nat.reduceLT, ↓reduceIte, reduceCtorEq, Int.reduceLE, Int.reduceLT, Int.reduceEq, Int.reduceMul, Int.reduceAdd, Int.reduceSub, Int.reduceNeg, Int.reduceToNat, Int.reduceNe, g11, g12, g13, g20m, g21, g22, catF_z]
      intro hl
      exact ⟨by omega, by rfl, hpre⟩
    · cases hg_
  · cases hg_
def g5 : Con := fun args_ E_ nn_ => match args_ with
  | [.a [.v (.int .i64 p_W), .v (.int .i64 p_H), .n p_Cells]] => (match rowOf E_ p_Cells with
    | some (p_Cells_n, p_Cells_s, p_Cells_f) => some (.q (isRow eU8 p_Cells_n p_Cells_s p_Cells_f ∧ True) (.o (.c (.v (.bool (true))))))
    | none => none)
  | _ => none
end Go.Proofs.Ytnkkhmeojifckaa
