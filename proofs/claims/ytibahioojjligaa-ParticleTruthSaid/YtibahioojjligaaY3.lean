/- A part of the proof of a statement about this seat: how a function is stepped through, and plain laws. No conditions. -/
import Derived.Test.YtibahioojjligaaRows
import Derived.Test.YtibahioojjligaaSz3
import Derived.Test.YtibahioojjligaaY2
import Derived.KernelRfl
set_option linter.unusedVariables false
set_option linter.unusedSimpArgs false
set_option maxRecDepth 20000
namespace Go.Proofs.Ytibahioojjligaa
open Go.Sx Go.Way
def markS (S : List CC) (k : Nat) : List Int := (List.range k).map fun i => (S.getD i eC.dflt).X % 256
theorem markS_len (S : List CC) (k : Nat) : (markS S k).length = k := by simp [markS]
theorem markS_succ (S : List CC) (k : Nat) : markS S (k + 1) = markS S k ++ [(S.getD k eC.dflt).X % 256] := by simp [markS, List.range_succ]
def x3L0 : XC := (.seq (.seq (.reg false [O1 30 .mv 8, O1 31 (.fld 3) 3, O1 32 .load1 31, O1 33 .lenS 32, O2 34 (.bin .lss) 30 33]) (.cond (.t 34) .skip (.exit 0))) (.seq (.block 1 (.reg false [O1 37 .mv 7, O1 38 (.fld 3) 3, O1 39 .load1 38, O1 40 .mv 8, O2 41 (.ixS 2) 39 40, O1 42 (.fld 0) 41, O1 43 .load1 42, K2 44 (.call 6) 43 (iV 256), ⟨(some 45), (.slit 3 1 1 [(iV 0)] [(0, 1)]), [(.t 44)], none⟩, O2 46 (.app 3 1 8) 37 45, O1 7 .mv 46])) (.reg false [O1 35 .mv 8, K2 36 (.bin .add) 35 (iV 1), O1 8 .mv 36])))
def x3 : XFn := ⟨147, (.seq (.reg false [O1 3 (.box 27) 0, O1 4 (.box 29) 1, K1 6 .mv (.bool false)]) (.seq (.seq (.reg false [⟨(some 17), (.call 4), [], none⟩, O1 18 (.un .not) 17, O1 19 .mv 18, G1 20 .mv 2 19 false, G1 21 .lenS 20 19 false, GK 22 (.bin .gtr) 21 (iV 5) 19 false, ⟨(some 23), .pick, [(.t 19), (.k (.bool true)), (.t 22)], none⟩, O1 24 .mv 23, G1 25 (.loadN 5) 3 24 false, G1 26 (.call 5) 25 24 false, G1 27 (.un .not) 26 24 false, ⟨(some 28), .pick, [(.t 24), (.k (.bool true)), (.t 27)], none⟩]) (.cond (.t 28) (.seq (.reg false [⟨(some 29), (.call 4), [], none⟩, O1 6 .mv 29]) .ret) .skip)) (.seq (.reg false [K1 7 .mv (.slice none 0 0)]) (.seq (.seq (.reg false [K1 8 .mv (iV 0)]) (.block 0 (.loop x3L0))) (.seq (.reg false [O1 48 (.fld 0) 3, O1 49 (.loadN 3) 48, O1 50 (.loadN 3) 4, O1 51 .mv 7, O1 52 (.fld 4) 3, O1 53 .load1 52, ⟨(some 54), (.call 7), [(.t 49), (.t 50), (.t 51), (.t 53), (.k (.slice none 0 0))], none⟩, O1 47 .mv 54, O1 55 (.ext 0) 47, O1 56 (.ext 1) 47, O1 9 .mv 55, O1 10 .mv 56]) (.seq (.seq (.reg false [O1 57 .mv 10, K2 58 (.bin .neq) 57 (iV 0)]) (.cond (.t 58) (.seq (.reg false [K1 6 .mv (.bool true)]) .ret) .skip)) (.seq (.reg false [O1 59 (.loadN 3) 4, ⟨(some 60), (.build [(iV 0), (iV 0), (iV 0), (iV 0)] [(0, 3)]), [(.t 59)], none⟩, ⟨(some 61), (.slit 41 1 4 [(iV 0), (iV 0), (iV 0), (iV 0)] [(0, 4)]), [(.t 60)], none⟩, O1 62 .mv 2, O2 63 (.app 41 4 32) 61 62, O1 11 .mv 63]) (.seq (.reg false [O1 65 .mv 11, O1 66 (.fld 0) 3, O1 67 (.loadN 3) 66, O1 68 .mv 9, O1 69 (.fld 4) 3, O1 70 .load1 69, ⟨(some 71), (.call 8), [(.t 65), (.t 67), (.t 68), (.t 70)], none⟩, O1 64 .mv 71, O1 72 (.ext 0) 64, O1 73 (.ext 1) 64, O1 12 .mv 72, O1 13 .mv 73]) (.seq (.reg false [O1 74 .mv 11, O1 75 (.call 9) 74, O1 76 .mv 75, G1 77 (.fld 0) 3 76 true, G1 78 (.loadN 3) 77 76 true, G1 79 (.call 10) 78 76 true, ⟨(some 80), .pick, [(.t 76), (.t 79), (.k (.bool false))], none⟩, O1 81 .mv 80, G1 82 (.fld 4) 3 81 true, G1 83 .load1 82 81 true, GK 84 (.bin .geq) 83 (iV 1) 81 true, ⟨(some 85), .pick, [(.t 81), (.t 84), (.k (.bool false))], none⟩, O1 86 .mv 85, G1 87 (.fld 4) 3 86 true, G1 88 .load1 87 86 true, GK 89 (.bin .leq) 88 (iV 32) 86 true, ⟨(some 90), .pick, [(.t 86), (.t 89), (.k (.bool false))], none⟩, O1 14 .mv 90]) (.seq (.seq (.reg false [O1 91 .mv 13, K2 92 (.bin .neq) 91 (iV 0), O1 93 .mv 92, G1 94 .mv 12 93 false, G1 95 .lenS 94 93 false, G1 96 .mv 11 93 false, G1 97 .lenS 96 93 false, G2 98 (.bin .neq) 95 97 93 false, ⟨(some 99), .pick, [(.t 93), (.k (.bool true)), (.t 98)], none⟩]) (.cond (.t 99) (.seq (.reg false [O1 100 .mv 13, K2 101 (.bin .eql) 100 (iV 1), O1 102 .mv 101, G1 103 .mv 12 102 true, G1 104 .lenS 103 102 true, GK 105 (.bin .eql) 104 (iV 0) 102 true, ⟨(some 106), .pick, [(.t 102), (.t 105), (.k (.bool false))], none⟩, O1 107 .mv 106, G1 108 .mv 14 107 true, G1 109 (.un .not) 108 107 true, ⟨(some 110), .pick, [(.t 107), (.t 109), (.k (.bool false))], none⟩, O1 6 .mv 110]) .ret) .skip)) (.seq (.reg false [O1 112 .mv 12, O1 113 (.call 11) 112, O1 111 .mv 113, O1 114 (.ext 0) 111, O1 115 (.ext 1) 111, ⟨(some 15), (.alloc 41 [(iV 0), (iV 0), (iV 0), (iV 0)]), [], none⟩, ⟨none, (.store 4), [(.t 15), (.t 114)], none⟩, O1 16 .mv 115]) (.seq (.reg true [O1 116 .mv 16, O1 117 .mv 116, G1 118 .mv 12 117 true, GK 119 (.ixS 4) 118 (iV 0) 117 true, G1 120 (.fld 3) 119 117 true, G1 121 .load1 120 117 true, GK 122 (.bin .eql) 121 (iV 0) 117 true, G1 123 .mv 122 117 true, G1 124 .mv 12 123 false, GK 125 (.ixS 4) 124 (iV 0) 123 false, G1 126 (.fld 3) 125 123 false, G1 127 .load1 126 123 false, G1 128 (.fld 3) 15 123 false, G1 129 .load1 128 123 false, G2 130 (.bin .eql) 127 129 123 false, G1 131 .mv 130 123 false, G1 132 .mv 12 131 true, GK 133 (.ixS 4) 132 (iV 0) 131 true, G1 134 (.fld 3) 133 131 true, G1 135 .load1 134 131 true, G1 136 .mv 9 131 true, G1 137 .lenS 136 131 true, ⟨(some 138), (.bin .add), [(.k (iV 1)), (.t 137)], (some (131, true))⟩, G1 139 .mv 9 131 true, G1 140 .lenS 139 131 true, ⟨(some 141), (.bin .add), [(.k (iV 1)), (.t 140)], (some (131, true))⟩, G2 142 (.bin .mul) 138 141 131 true, G2 143 (.bin .eql) 135 142 131 true, ⟨(some 144), .pick, [(.t 131), (.t 143), (.k (.bool false))], (some (123, false))⟩, ⟨(some 145), .pick, [(.t 123), (.k (.bool true)), (.t 144)], (some (117, true))⟩, ⟨(some 146), .pick, [(.t 117), (.t 145), (.k (.bool false))], none⟩, O1 6 .mv 146]) .ret)))))))))))), [(.s 6)]⟩
theorem x3_ok : xfn Try.prog Try.f3 = some x3.er := by kernel_rfl
/-- wayfinder/wayfinderlaw21.ParticleTruth -/
def g3 : Con := fun args_ E_ nn_ => match args_ with
  | [.a [.v (.int .i64 x_Plan_W), .v (.int .i64 x_Plan_H), .n x_Plan_Cells, .n x_Scan, .v (.int .i64 x_Rng)], .a [.v (.int .i64 at_X), .v (.int .i64 at_Y), .v (.int .i64 at_H)], .c (.n l)] => (match rowOf E_ x_Plan_Cells with
    | some (x_Plan_Cells_n, x_Plan_Cells_s, x_Plan_Cells_f) => (match rowOf E_ x_Scan with
    | some (x_Scan_n, x_Scan_s, x_Scan_f) => (match rowOf E_ l with
    | some (l_n, l_s, l_f) => some (.q (isRow eU8 x_Plan_Cells_n x_Plan_Cells_s x_Plan_Cells_f ∧ isRow eC x_Scan_n x_Scan_s x_Scan_f ∧ isRow eP l_n l_s l_f ∧ ∀ k, k < ((decL eC x_Scan_n x_Scan_f)).length → eC.wf (((decL eC x_Scan_n x_Scan_f)).getD k eC.dflt)) (.o (.c (.v (.bool (true))))))
    | none => none)
    | none => none)
    | none => none)
  | _ => none
theorem c3 : COk Try.prog 3 g3 := by
  refine cok_q Try.func3 x3_ok (by kernel_rfl) (cok_tab (cok_cons c4 (cok_cons c5 (cok_cons c6 (cok_cons c7n (cok_cons c8 (cok_cons c9 (cok_cons c10 (cok_cons c11 cok_nil))))))))) ?_
  intro args_ E_ nn_ cr_ hg_
  unfold g3 at hg_
  split at hg_
  · rename_i x_Plan_W x_Plan_H x_Plan_Cells x_Scan x_Rng at_X at_Y at_H l
    split at hg_
    · rename_i x_Plan_Cells_n x_Plan_Cells_s x_Plan_Cells_f h_x_Plan_Cells
      split at hg_
      · rename_i x_Scan_n x_Scan_s x_Scan_f h_x_Scan
        split at hg_
        · rename_i l_n l_s l_f h_l
          cases hg_
          refine ⟨_, _, rfl, 3, [x_Plan_Cells, x_Scan, l], [.a [.v (.int .i64 x_Plan_W), .v (.int .i64 x_Plan_H), .n 0, .n 1, .v (.int .i64 x_Rng)], .a [.v (.int .i64 at_X), .v (.int .i64 at_Y), .v (.int .i64 at_H)], .c (.n 2)], [(0, .ro (decL eU8 x_Plan_Cells_n x_Plan_Cells_f).length eU8.sz (rowF eU8 (decL eU8 x_Plan_Cells_n x_Plan_Cells_f))), (1, .ro (decL eC x_Scan_n x_Scan_f).length eC.sz (rowF eC (decL eC x_Scan_n x_Scan_f))), (2, .ro (decL eP l_n l_f).length eP.sz (rowF eP (decL eP l_n l_f)))], .o (.c (.v (.bool (true)))), rfl, rfl, by simp only [push_cast, Nat.reduceLT, Nat.reduceAdd], by simp only [push_cast, Nat.reduceLT, Nat.reduceAdd], by simp only [push_cast, Nat.reduceLT, Nat.reduceAdd], rfl, ⟨inE0_row h_x_Plan_Cells, inE0_row h_x_Scan, inE0_row h_l, trivial⟩, rfl, ?_⟩
          intro hpre hlen
          obtain ⟨i_x_Plan_Cells, hpre⟩ := hpre
          obtain ⟨i_x_Scan, hpre⟩ := hpre
          obtain ⟨i_l, hpre⟩ := hpre
          refine ⟨⟨inE_row h_x_Plan_Cells i_x_Plan_Cells, inE_row h_x_Scan i_x_Scan, inE_row h_l i_l, trivial⟩, ?_⟩
          have z_x_Plan_Cells := lens_row (E := eU8) hlen h_x_Plan_Cells
          have z_x_Scan := lens_row (E := eC) hlen h_x_Scan
          have z_l := lens_row (E := eP) hlen h_l
          clear i_x_Plan_Cells
          generalize decL eU8 x_Plan_Cells_n x_Plan_Cells_f = x_Plan_CellsL at *
          clear i_x_Scan
          generalize decL eC x_Scan_n x_Scan_f = x_ScanL at *
          clear i_l
          generalize decL eP l_n l_f = lL at *
          clear h_x_Plan_Cells
          clear h_x_Scan
          clear h_l
          simp (config := {maxSteps := 10000000}) only [x3, push_cast, Nat.reduceAdd, Nat.reduceSub, Nat.reduceLeDiff, Nat.reduceEqDiff, Nat.reduceBEq, Nat.reduceMul, Nat.reduceLT, reduceIte, reduceCtorEq, Int.reduceLE, Int.reduceLT, Int.reduceEq, Int.reduceMul, Int.reduceAdd, Int.reduceSub, Int.reduceNeg, Int.reduceToNat, Int.reduceNe, g4, g5, g6, g7n, g8, g9, g10, g11]
          intro hl hw hs
          have cat : isRow eP (1 + lL.length) 4 (catF 1 (litF [SC.v (Value.int IntKind.i64 at_X), SC.v (Value.int IntKind.i64 at_Y), SC.v (Value.int IntKind.i64 at_H), SC.v (Value.int IntKind.i64 0)] 4) (rowF eP lL)) ∧ decL eP (1 + lL.length) (catF 1 (litF [SC.v (Value.int IntKind.i64 at_X), SC.v (Value.int IntKind.i64 at_Y), SC.v (Value.int IntKind.i64 at_H), SC.v (Value.int IntKind.i64 0)] 4) (rowF eP lL)) = ⟨at_X, at_Y, at_H, 0⟩ :: lL := by
            have z := isRow_cat (E := eP) (n := 1) (m := lL.length) (sz := 4) (lits_row eP [⟨at_X, at_Y, at_H, 0⟩]).1 ((isRow_rowF (E := eP) lL).2 trivial)
            exact ⟨z.1, z.2.trans (by
              have e1 : decL eP 1 (litF [SC.v (Value.int IntKind.i64 at_X), SC.v (Value.int IntKind.i64 at_Y), SC.v (Value.int IntKind.i64 at_H), SC.v (Value.int IntKind.i64 0)] 4) = [⟨at_X, at_Y, at_H, 0⟩] := (lits_row eP [⟨at_X, at_Y, at_H, 0⟩]).2
              have e2 : decL eP lL.length (rowF eP lL) = lL := decL_rowF (E := eP) lL
              rw [e2]
              exact congrArg (· ++ lL) e1)⟩
          have mrow : ∀ k, isRow eI k 1 (rowF eI (markS x_ScanL k)) := fun k => by
            have z := (isRow_rowF (E := eI) (markS x_ScanL k)).2 trivial
            rw [markS_len] at z; exact z
          have mdec : ∀ k, decL eI k (rowF eI (markS x_ScanL k)) = markS x_ScanL k := fun k => by
            have z := decL_rowF (E := eI) (markS x_ScanL k)
            rw [markS_len] at z; exact z
          refine vcLoop_upd (α := {k : Nat // k ≤ x_ScanL.length}) [2, 3, 4] 1 (fun s => [(7, .o (.c (.n 5))), (8, .o (.c (.v (.int .i64 (s.1 : Nat)))))]) (fun s => [(5, .own (markS x_ScanL s.1).length 1 (rowF eI (markS x_ScanL s.1)) 3)]) (fun s => x_ScanL.length - s.1) ⟨0, by omega⟩ ?_ ?_
          · simp only [push_cast, Nat.reduceAdd, Nat.reduceSub, Nat.reduceLeDiff, Nat.reduceEqDiff, Nat.reduceBEq, Nat.reduceMul, Nat.reduceLT, reduceIte, reduceCtorEq, Int.reduceLE, Int.reduceLT, Int.reduceEq, Int.reduceMul, Int.reduceAdd, Int.reduceSub, Int.reduceNeg, Int.reduceToNat, Int.reduceNe, g4, g5, g6, g7n, g8, g9, g10, g11, markS_len]
          rintro ⟨k, hk⟩
          simp only [x3L0, push_cast, Nat.reduceAdd, Nat.reduceSub, Nat.reduceLeDiff, Nat.reduceEqDiff, Nat.reduceBEq, Nat.reduceMul, Nat.reduceLT, reduceIte, reduceCtorEq, Int.reduceLE, Int.reduceLT, Int.reduceEq, Int.reduceMul, Int.reduceAdd, Int.reduceSub, Int.reduceNeg, Int.reduceToNat, Int.reduceNe, g4, g5, g6, g7n, g8, g9, g10, g11, markS_len, cat.1, cat.2, mrow, mdec]
          refine ⟨fun hlt => ⟨hlt, hlt, (hpre k hlt).1, by omega, ⟨⟨k + 1, by omega⟩, ⟨wrapI (by omega) (by omega), rfl, ?_⟩, by simp only; omega⟩⟩, fun hn hsw => ⟨by omega, ?_⟩⟩
          · have z := push_eq (E := eI) (L := markS x_ScanL k) (L' := markS x_ScanL (k + 1)) (x := (x_ScanL.getD k eC.dflt).X % 256) (sz := 1) (b := [(5, SC.n 7), (2, SC.n 2), (3, SC.n 3), (4, SC.n 4), (0, SC.n 0), (1, SC.n 1)]) (markS_succ _ _)
            rw [markS_len] at z
            exact z.2
          obtain rfl : k = x_ScanL.length := by omega
          have t1 := truth_law hsw lL
          have t2 := truth_bad hsw (⟨at_X, at_Y, at_H, 0⟩ :: lL)
          have t3 := wghE_01 x_Plan_W x_Plan_H x_Plan_CellsL x_Rng (swpL x_Plan_W x_Plan_H x_Plan_CellsL at_X at_Y at_H x_Rng (markS x_ScanL x_ScanL.length) []) (⟨at_X, at_Y, at_H, 0⟩ :: lL)
          have t4 := (scan_ok hsw).2
          rw [markS_len] at t1 t4
          generalize swpL x_Plan_W x_Plan_H x_Plan_CellsL at_X at_Y at_H x_Rng (markS x_ScanL x_ScanL.length) [] = S at *
          clear cat
          generalize (⟨at_X, at_Y, at_H, 0⟩ :: lL : List PP) = A at *
          rcases t3 with e | e
          · obtain ⟨l1, b1, w1⟩ := t1 e
            generalize wghL x_Plan_W x_Plan_H x_Plan_CellsL x_Rng S A = m at *
            have hm := mul_bd (a := 1 + (x_ScanL.length : Int)) (b := 1 + x_ScanL.length) (A := 5) (B := 5) (by omega) (by omega) (by omega) (by omega)
            have hp : 0 < m.length := by omega
            have hp2 : (0 : Int) < m.length := by omega
            have hl3 : (m.length : Int) = 1 + lL.length := by omega
            rw [t4]
            simp only [e, b1, hp, hp2, hl3, not_true_eq_false, or_self, false_implies, true_and, and_self, implies_true, and_true, true_implies]
            rw [wrapI (n := 1 + (x_ScanL.length : Int)) (by omega) (by omega), wrapI (n := (1 + (x_ScanL.length : Int)) * (1 + x_ScanL.length)) (by omega) (by omega)]
            have h0 : (0 : Int) < 1 + lL.length := by omega
            exact ⟨h0, fun g => ⟨g, h0⟩, fun g => g, fun g q => ⟨⟨g, q⟩, h0⟩, fun g q => ⟨g, q⟩, fun g => ⟨g, fun q => ⟨g, q⟩⟩, fun g => g, w1⟩
          · obtain ⟨_, l1, w1⟩ := t2 (by omega)
            rw [e, l1]
            refine ⟨fun _ => ⟨⟨rfl, rfl⟩, ?_⟩, fun h => by cases h⟩
            rw [Bool.eq_false_iff]
            intro h
            simp only [Bool.and_eq_true, decide_eq_true_eq] at h
            exact w1 ⟨h.1.1.1, h.1.1.2, h.1.2, h.2⟩
        · cases hg_
      · cases hg_
    · cases hg_
  · cases hg_
end Go.Proofs.Ytibahioojjligaa
