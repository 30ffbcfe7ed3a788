/- A part of the proof of a statement about this seat: how a function is stepped through, and plain laws. No conditions. -/
import Derived.Test.YtnkkhmeojifckaaRows
import Derived.Test.YtnkkhmeojifckaaSz3
import Derived.Test.YtnkkhmeojifckaaK5
import Derived.KernelRfl
import Derived.Test.YtnkkhmeojifckaaK6
set_option linter.unusedVariables false
set_option linter.unusedSimpArgs false
set_option maxRecDepth 20000
namespace Go.Proofs.Ytnkkhmeojifckaa
open Go.Sx
theorem lan_len (W H : Int) (L : List Int) : (lanL W H L).length ≤ 4096 := by
  unfold lanL
  split
  · rename_i hp
    have pp := planB_at hp
    have := lnAll_len (W := W) (H := H) (L := L) pp.1 H.toNat
    omega
  · simp
theorem cnt_takeL (p : LN → Bool) (l : List LN) (k : Nat) (h : k < l.length) : (l.take (k + 1)).countP p = (l.take k).countP p + (if p (l.getD k eLn.dflt) = true then 1 else 0) := by
  have e : l.getD k eLn.dflt = l[k] := by rw [List.getD_eq_getElem?_getD, List.getElem?_eq_getElem h]; rfl
  rw [List.take_succ_eq_append_getElem h, List.countP_append, List.countP_singleton, e]
theorem up_c {A : List CC} {k : Nat} (c : CC) (h : k < A.length) : updF (rowF eC A) k 0 [SC.v (.int .i64 c.X), SC.v (.int .i64 c.Y)] = rowF eC (A.set k c) :=
  updF_row (E := eC) (L := A) (e0 := k) (j0 := 0) (x := c) (cs := [SC.v (.int .i64 c.X), SC.v (.int .i64 c.Y)]) h rfl (by simp [eC])
theorem row_zero {l : List CC} {n : Nat} {b : Bnd} : rowEq n 2 (replF [Value.int .i64 0, Value.int .i64 0]) (rowF eC (revK l 0)) (SC.sub b) := by
  intro e j he hj
  rw [rowF_sub]
  have e1 : (revK l 0).getD e eC.dflt = eC.dflt := by
    unfold revK
    rw [List.getD_eq_getElem?_getD, List.getElem?_map]
    by_cases g : e < l.length
    · rw [List.getElem?_range g]
      simp only [Option.map_some, Option.getD_some]
      rw [if_neg (by omega)]
    · rw [List.getElem?_eq_none (by rw [List.length_range]; omega)]; rfl
  unfold rowF
  rw [e1]
  rcases (by omega : j = 0 ∨ j = 1) with rfl | rfl <;> rfl
def x8L0 : XC := (.seq (.seq (.reg false [O1 36 .mv 7, O1 37 .mv 3, O1 38 .lenS 37, O2 39 (.bin .lss) 36 38]) (.cond (.t 39) .skip (.exit 0))) (.seq (.block 1 (.seq (.reg true [O1 42 .mv 3, O1 43 .mv 7, O2 44 (.ixS 3) 42 43, O1 45 (.loadN 3) 44, O1 46 .mv 5, O1 47 .mv 7, O2 48 (.ixS 3) 46 47, O1 49 (.loadN 3) 48, ⟨(some 50), (.eqA true [(.i .i64), (.i .i64), (.i .i64)]), [(.t 45), (.t 49)], none⟩]) (.cond (.t 50) (.seq (.reg false [K1 2 .mv (.bool false)]) .ret) .skip))) (.reg false [O1 40 .mv 7, K2 41 (.bin .add) 40 (iV 1), O1 7 .mv 41])))
def x8 : XFn := ⟨51, (.seq (.reg false [O1 1 (.box 24) 0, K1 2 .mv (.bool false)]) (.seq (.seq (.reg false [⟨(some 8), (.call 11), [], none⟩, O1 9 (.un .not) 8, O1 10 .mv 9, G1 11 (.loadN 3) 1 10 false, G1 12 (.call 12) 11 10 false, G1 13 (.un .not) 12 10 false, ⟨(some 14), .pick, [(.t 10), (.k (.bool true)), (.t 13)], none⟩]) (.cond (.t 14) (.seq (.reg false [⟨(some 15), (.call 11), [], none⟩, O1 2 .mv 15]) .ret) .skip)) (.seq (.reg false [O1 17 (.loadN 3) 1, O1 18 (.call 29) 17, O1 16 .mv 18, O1 19 (.ext 0) 16, O1 20 (.ext 1) 16, O1 3 .mv 19, O1 4 .mv 20]) (.seq (.reg false [O1 22 (.loadN 3) 1, O1 23 (.call 30) 22, O1 21 .mv 23, O1 24 (.ext 0) 21, O1 25 (.ext 1) 21, O1 5 .mv 24, O1 6 .mv 25]) (.seq (.seq (.reg false [O1 26 .mv 4, O1 27 .mv 6, O2 28 (.bin .neq) 26 27, O1 29 .mv 28, G1 30 .mv 3 29 false, G1 31 .lenS 30 29 false, G1 32 .mv 5 29 false, G1 33 .lenS 32 29 false, G2 34 (.bin .neq) 31 33 29 false, ⟨(some 35), .pick, [(.t 29), (.k (.bool true)), (.t 34)], none⟩]) (.cond (.t 35) (.seq (.reg false [K1 2 .mv (.bool false)]) .ret) .skip)) (.seq (.seq (.reg false [K1 7 .mv (iV 0)]) (.block 0 (.loop x8L0))) (.seq (.reg false [K1 2 .mv (.bool true)]) .ret))))))), [(.s 2)]⟩
theorem x8_ok : xfn Try.prog Try.f8 = some x8.er := by kernel_rfl
def x9L0 : XC := (.seq (.seq (.reg false [O1 46 .mv 8, O1 47 .mv 3, O1 48 .lenS 47, O2 49 (.bin .lss) 46 48]) (.cond (.t 49) .skip (.exit 4))) (.seq (.block 5 (.seq (.reg false [O1 52 .mv 3, O1 53 .mv 8, O2 54 (.ixS 3) 52 53, O1 55 (.fld 0) 54, O1 56 .load1 55, O1 57 .mv 5, O2 58 (.bin .eql) 56 57, O1 59 .mv 58, G1 60 .mv 3 59 true, G1 61 .mv 8 59 true, G2 62 (.ixS 3) 60 61 59 true, G1 63 (.fld 1) 62 59 true, G1 64 .load1 63 59 true, G1 65 .mv 6 59 true, G2 66 (.bin .leq) 64 65 59 true, ⟨(some 67), .pick, [(.t 59), (.t 66), (.k (.bool false))], none⟩, O1 68 .mv 67, G1 69 .mv 6 68 true, G1 70 .mv 3 68 true, G1 71 .mv 8 68 true, G2 72 (.ixS 3) 70 71 68 true, G1 73 (.fld 2) 72 68 true, G1 74 .load1 73 68 true, G2 75 (.bin .leq) 69 74 68 true, ⟨(some 76), .pick, [(.t 68), (.t 75), (.k (.bool false))], none⟩]) (.cond (.t 76) (.reg false [O1 77 .mv 7, K2 78 (.bin .add) 77 (iV 1), O1 7 .mv 78]) .skip))) (.reg false [O1 50 .mv 8, K2 51 (.bin .add) 50 (iV 1), O1 8 .mv 51])))
def x9L1 : XC := (.seq (.seq (.reg false [O1 40 .mv 6, O1 41 (.fld 0) 1, O1 42 .load1 41, O2 43 (.bin .lss) 40 42]) (.cond (.t 43) .skip (.exit 2))) (.seq (.block 3 (.seq (.reg false [K1 7 .mv (iV 0)]) (.seq (.seq (.reg false [K1 8 .mv (iV 0)]) (.block 4 (.loop x9L0))) (.seq (.reg false [O1 79 .mv 7, K2 80 (.bin .neq) 79 (iV 1), O1 81 .mv 80, G1 82 (.fld 2) 1 81 true, G1 83 .load1 82 81 true, G1 84 .mv 5 81 true, G1 85 (.fld 0) 1 81 true, G1 86 .load1 85 81 true, G2 87 (.bin .mul) 84 86 81 true, G1 88 .mv 6 81 true, G2 89 (.bin .add) 87 88 81 true, G2 90 (.ixS 1) 83 89 81 true, G1 91 .load1 90 81 true, GK 92 (.bin .eql) 91 (.int .u8 1) 81 true, ⟨(some 93), .pick, [(.t 81), (.t 92), (.k (.bool false))], none⟩, O1 94 .mv 93, G1 95 .mv 7 94 false, GK 96 (.bin .neq) 95 (iV 0) 94 false, G1 97 .mv 96 94 false, G1 98 (.fld 2) 1 97 true, G1 99 .load1 98 97 true, G1 100 .mv 5 97 true, G1 101 (.fld 0) 1 97 true, G1 102 .load1 101 97 true, G2 103 (.bin .mul) 100 102 97 true, G1 104 .mv 6 97 true, G2 105 (.bin .add) 103 104 97 true, G2 106 (.ixS 1) 99 105 97 true, G1 107 .load1 106 97 true, GK 108 (.bin .neq) 107 (.int .u8 1) 97 true, ⟨(some 109), .pick, [(.t 97), (.t 108), (.k (.bool false))], (some (94, false))⟩, ⟨(some 110), .pick, [(.t 94), (.k (.bool true)), (.t 109)], none⟩]) (.cond (.t 110) (.seq (.reg false [K1 2 .mv (.bool false)]) .ret) .skip))))) (.reg false [O1 44 .mv 6, K2 45 (.bin .add) 44 (iV 1), O1 6 .mv 45])))
def x9L2 : XC := (.seq (.seq (.reg false [O1 34 .mv 5, O1 35 (.fld 1) 1, O1 36 .load1 35, O2 37 (.bin .lss) 34 36]) (.cond (.t 37) .skip (.exit 0))) (.seq (.block 1 (.seq (.reg false [K1 6 .mv (iV 0)]) (.block 2 (.loop x9L1)))) (.reg false [O1 38 .mv 5, K2 39 (.bin .add) 38 (iV 1), O1 5 .mv 39])))
def x9 : XFn := ⟨111, (.seq (.reg false [O1 1 (.box 24) 0, K1 2 .mv (.bool false)]) (.seq (.seq (.reg false [⟨(some 9), (.call 11), [], none⟩, O1 10 (.un .not) 9, O1 11 .mv 10, G1 12 (.loadN 3) 1 11 false, G1 13 (.call 12) 12 11 false, G1 14 (.un .not) 13 11 false, ⟨(some 15), .pick, [(.t 11), (.k (.bool true)), (.t 14)], none⟩]) (.cond (.t 15) (.seq (.reg false [⟨(some 16), (.call 11), [], none⟩, O1 2 .mv 16]) .ret) .skip)) (.seq (.reg false [O1 18 (.loadN 3) 1, O1 19 (.call 29) 18, O1 17 .mv 19, O1 20 (.ext 0) 17, O1 21 (.ext 1) 17, O1 3 .mv 20, O1 4 .mv 21]) (.seq (.seq (.reg false [O1 22 (.loadN 3) 1, O1 23 (.call 14) 22, O1 24 (.un .not) 23]) (.cond (.t 24) (.seq (.reg false [O1 25 .mv 4, K2 26 (.bin .eql) 25 (iV 1), O1 27 .mv 26, G1 28 .mv 3 27 true, G1 29 .lenS 28 27 true, GK 30 (.bin .eql) 29 (iV 0) 27 true, ⟨(some 31), .pick, [(.t 27), (.t 30), (.k (.bool false))], none⟩, O1 2 .mv 31]) .ret) .skip)) (.seq (.seq (.reg false [O1 32 .mv 4, K2 33 (.bin .neq) 32 (iV 0)]) (.cond (.t 33) (.seq (.reg false [K1 2 .mv (.bool false)]) .ret) .skip)) (.seq (.seq (.reg false [K1 5 .mv (iV 0)]) (.block 0 (.loop x9L2))) (.seq (.reg false [K1 2 .mv (.bool true)]) .ret))))))), [(.s 2)]⟩
theorem x9_ok : xfn Try.prog Try.f9 = some x9.er := by kernel_rfl
def x10L0 : XC := (.seq (.seq (.reg false [O1 16 .mv 4, O1 17 .mv 0, O1 18 .lenS 17, O2 19 (.bin .lss) 16 18]) (.cond (.t 19) .skip (.exit 0))) (.seq (.block 1 (.reg false [O1 22 .mv 3, O1 23 .mv 0, O1 24 .lenS 23, K2 25 (.bin .sub) 24 (iV 1), O1 26 .mv 4, O2 27 (.bin .sub) 25 26, O1 28 .mv 0, O1 29 .mv 4, O2 30 (.ixS 2) 28 29, O1 31 (.loadN 2) 30, O2 32 (.ixS 2) 22 27, ⟨none, (.store 2), [(.t 32), (.t 31)], none⟩])) (.reg false [O1 20 .mv 4, K2 21 (.bin .add) 20 (iV 1), O1 4 .mv 21])))
def x10 : XFn := ⟨45, (.seq (.reg false [K1 2 .mv (.bool false)]) (.seq (.seq (.reg false [⟨(some 5), (.call 11), [], none⟩, O1 6 (.un .not) 5, O1 7 .mv 6, G1 8 .mv 0 7 false, G1 9 .lenS 8 7 false, GK 10 (.bin .gtr) 9 (iV 300) 7 false, ⟨(some 11), .pick, [(.t 7), (.k (.bool true)), (.t 10)], none⟩]) (.cond (.t 11) (.seq (.reg false [⟨(some 12), (.call 11), [], none⟩, O1 2 .mv 12]) .ret) .skip)) (.seq (.reg false [O1 13 .mv 0, O1 14 .lenS 13, ⟨(some 15), (.mks 26 2 16 [(iV 0), (iV 0)]), [(.t 14), (.t 14)], none⟩, O1 3 .mv 15]) (.seq (.seq (.reg false [K1 4 .mv (iV 0)]) (.block 0 (.loop x10L0))) (.seq (.reg false [O1 33 .mv 0, O1 34 (.call 31) 33, O1 35 .mv 0, O1 36 (.call 32) 35, O2 37 (.bin .eql) 34 36, O1 38 .mv 37, G1 39 .mv 3 38 true, G1 40 (.call 31) 39 38 true, G1 41 .mv 0 38 true, G1 42 (.call 32) 41 38 true, G2 43 (.bin .eql) 40 42 38 true, ⟨(some 44), .pick, [(.t 38), (.t 43), (.k (.bool false))], none⟩, O1 2 .mv 44]) .ret))))), [(.s 2)]⟩
theorem x10_ok : xfn Try.prog Try.f10 = some x10.er := by kernel_rfl
def x7 : XFn := ⟨49, (.seq (.reg false [O1 2 (.box 24) 0, K1 4 .mv (.bool false)]) (.seq (.seq (.reg false [⟨(some 9), (.call 11), [], none⟩, O1 10 (.un .not) 9, O1 11 .mv 10, G1 12 (.loadN 3) 2 11 false, G1 13 (.call 12) 12 11 false, G1 14 (.un .not) 13 11 false, ⟨(some 15), .pick, [(.t 11), (.k (.bool true)), (.t 14)], none⟩, O1 16 .mv 15, G1 17 .mv 1 16 false, G1 18 .lenS 17 16 false, GK 19 (.bin .gtr) 18 (iV 300) 16 false, ⟨(some 20), .pick, [(.t 16), (.k (.bool true)), (.t 19)], none⟩]) (.cond (.t 20) (.seq (.reg false [⟨(some 21), (.call 11), [], none⟩, O1 4 .mv 21]) .ret) .skip)) (.seq (.reg false [O1 23 (.loadN 3) 2, O1 24 .mv 1, O2 25 (.call 27) 23 24, O1 22 .mv 25, O1 26 (.ext 0) 22, O1 27 (.ext 1) 22, O1 5 .mv 26, O1 6 .mv 27]) (.seq (.reg false [O1 29 (.loadN 3) 2, O1 30 .mv 1, O2 31 (.call 19) 29 30, O1 28 .mv 31, O1 32 (.ext 0) 28, O1 33 (.ext 1) 28, O1 7 .mv 32, O1 8 .mv 33]) (.seq (.reg false [O1 34 (.loadN 3) 2, O1 35 .mv 1, O2 36 (.call 28) 34 35, O1 37 .mv 8, O2 38 (.bin .eql) 36 37, O1 39 .mv 38, G1 40 .mv 6 39 true, G1 41 .mv 8 39 true, G2 42 (.bin .eql) 40 41 39 true, ⟨(some 43), .pick, [(.t 39), (.t 42), (.k (.bool false))], none⟩, O1 44 .mv 43, G1 45 .mv 5 44 true, G1 46 .mv 7 44 true, G2 47 (.bin .eql) 45 46 44 true, ⟨(some 48), .pick, [(.t 44), (.t 47), (.k (.bool false))], none⟩, O1 4 .mv 48]) .ret))))), [(.s 4)]⟩
theorem x7_ok : xfn Try.prog Try.f7 = some x7.er := by kernel_rfl
/-- wayfinder/wayfinderlaw39.awake -/
def g11 : Con := fun args_ E_ nn_ => match args_ with
  | [] => some (.q (True) (.o (.c (.v (.bool (true))))))
  | _ => none
theorem c11 : COk Try.prog 11 g11 := by
  refine cok_q Try.func11 x11_ok (by kernel_rfl) (cok_tab (cok_cons c13 (cok_cons c20a (cok_cons c27 (cok_cons c29 cok_nil))))) ?_
  intro args_ E_ nn_ cr_ hg_
  unfold g11 at hg_
  split at hg_
  · skip
    cases hg_
    refine ⟨_, _, rfl, 0, [], [], [], .o (.c (.v (.bool (true)))), rfl, rfl, by simp only [push_cast, Nat.reduceLT, Nat.reduceAdd], by simp only [push_cast, Nat.reduceLT, Nat.reduceAdd], by simp only [push_cast, Nat.reduceLT, Nat.reduceAdd], rfl, trivial, rfl, ?_⟩
    intro hpre hlen
    refine ⟨trivial, ?_⟩
    have q1 : isRow eU8 4 1 (litF [SC.v (Value.int IntKind.u8 1), SC.v (Value.int IntKind.u8 1), SC.v (Value.int IntKind.u8 1), SC.v (Value.int IntKind.u8 1)] 1) ↔ True := iff_true_intro (lits_row eU8 [1, 1, 1, 1]).1
    have q2 : decL eU8 4 (litF [SC.v (Value.int IntKind.u8 1), SC.v (Value.int IntKind.u8 1), SC.v (Value.int IntKind.u8 1), SC.v (Value.int IntKind.u8 1)] 1) = [1, 1, 1, 1] := (lits_row eU8 [1, 1, 1, 1]).2
    have w1 : touL 2 2 [1, 1, 1, 1] 0 0 = touL 2 2 [1, 1, 1, 1] 0 0 := rfl
    simp (config := {maxSteps := 10000000}) only [x11, push_cast, Nat.reduceAdd, Nat.reduceSub, Nat.reduceLeDiff, Nat.reduceEqDiff, Nat.reduceBEq, Nat.reduceMul, Nat.reduceLT, reduceIte, reduceCtorEq, Int.reduceLE, Int.reduceLT, Int.reduceEq, Int.reduceMul, Int.reduceAdd, Int.reduceSub, Int.reduceNeg, Int.reduceToNat, Int.reduceNe, g13, g20a, g27, g29, q1, q2]
    exact ⟨⟨⟨⟨by decide +kernel, by decide +kernel⟩, by decide +kernel⟩, by decide +kernel⟩, by decide +kernel⟩
  · cases hg_
/-- wayfinder/wayfinderlaw39.TourChecks -/
def g7 : Con := fun args_ E_ nn_ => match args_ with
  | [.a [.v (.int .i64 p_W), .v (.int .i64 p_H), .n p_Cells], .c (.n l)] => (match rowOf E_ p_Cells with
    | some (p_Cells_n, p_Cells_s, p_Cells_f) => (match rowOf E_ l with
    | some (l_n, l_s, l_f) => some (.q (isRow eU8 p_Cells_n p_Cells_s p_Cells_f ∧ isRow eC l_n l_s l_f ∧ True) (.o (.c (.v (.bool (true))))))
    | none => none)
    | none => none)
  | _ => none
theorem c7 : COk Try.prog 7 g7 := by
  refine cok_q Try.func7 x7_ok (by kernel_rfl) (cok_tab (cok_cons c11 (cok_cons c12 (cok_cons c27 (cok_cons c19 (cok_cons c28 cok_nil)))))) ?_
  intro args_ E_ nn_ cr_ hg_
  unfold g7 at hg_
  split at hg_
  · rename_i p_W p_H p_Cells l
    split at hg_
    · rename_i p_Cells_n p_Cells_s p_Cells_f h_p_Cells
      split at hg_
      · rename_i l_n l_s l_f h_l
        cases hg_
        refine ⟨_, _, rfl, 2, [p_Cells, l], [.a [.v (.int .i64 p_W), .v (.int .i64 p_H), .n 0], .c (.n 1)], [(0, .ro (decL eU8 p_Cells_n p_Cells_f).length eU8.sz (rowF eU8 (decL eU8 p_Cells_n p_Cells_f))), (1, .ro (decL eC l_n l_f).length eC.sz (rowF eC (decL eC l_n l_f)))], .o (.c (.v (.bool (true)))), rfl, rfl, by simp only [push_cast, Nat.reduceLT, Nat.reduceAdd], by simp only [push_cast, Nat.reduceLT, Nat.reduceAdd], by simp only [push_cast, Nat.reduceLT, Nat.reduceAdd], rfl, ⟨inE0_row h_p_Cells, inE0_row h_l, trivial⟩, rfl, ?_⟩
        intro hpre hlen
        obtain ⟨i_p_Cells, hpre⟩ := hpre
        obtain ⟨i_l, hpre⟩ := hpre
        refine ⟨⟨inE_row h_p_Cells i_p_Cells, inE_row h_l i_l, trivial⟩, ?_⟩
        have z_p_Cells := lens_row (E := eU8) hlen h_p_Cells
        have z_l := lens_row (E := eC) hlen h_l
        clear i_p_Cells
        generalize decL eU8 p_Cells_n p_Cells_f = p_CellsL at *
        clear i_l
        generalize decL eC l_n l_f = lL at *
        clear h_p_Cells
        clear h_l
        simp (config := {maxSteps := 10000000}) only [x7, push_cast, Nat.reduceAdd, Nat.reduceSub, Nat.reduceLeDiff, Nat.reduceEqDiff, Nat.reduceBEq, Nat.reduceMul, Nat.reduceLT, reduceIte, reduceCtorEq, Int.reduceLE, Int.reduceLT, Int.reduceEq, Int.reduceMul, Int.reduceAdd, Int.reduceSub, Int.reduceNeg, Int.reduceToNat, Int.reduceNe, g11, g12, g27, g19, g28]
      · cases hg_
    · cases hg_
  · cases hg_
/-- wayfinder/wayfinderlaw39.TourLanes -/
def g8 : Con := fun args_ E_ nn_ => match args_ with
  | [.a [.v (.int .i64 p_W), .v (.int .i64 p_H), .n p_Cells]] => (match rowOf E_ p_Cells with
    | some (p_Cells_n, p_Cells_s, p_Cells_f) => some (.q (isRow eU8 p_Cells_n p_Cells_s p_Cells_f ∧ True) (.o (.c (.v (.bool (true))))))
    | none => none)
  | _ => none
theorem c8 : COk Try.prog 8 g8 := by
  refine cok_q Try.func8 x8_ok (by kernel_rfl) (cok_tab (cok_cons c11 (cok_cons c12 (cok_cons c29 (cok_cons c30 cok_nil))))) ?_
  intro args_ E_ nn_ cr_ hg_
  unfold g8 at hg_
  split at hg_
  · rename_i p_W p_H p_Cells
    split at hg_
    · rename_i p_Cells_n p_Cells_s p_Cells_f h_p_Cells
      cases hg_
      refine ⟨_, _, rfl, 1, [p_Cells], [.a [.v (.int .i64 p_W), .v (.int .i64 p_H), .n 0]], [(0, .ro (decL eU8 p_Cells_n p_Cells_f).length eU8.sz (rowF eU8 (decL eU8 p_Cells_n p_Cells_f)))], .o (.c (.v (.bool (true)))), rfl, rfl, by simp only [push_cast, Nat.reduceLT, Nat.reduceAdd], by simp only [push_cast, Nat.reduceLT, Nat.reduceAdd], by simp only [push_cast, Nat.reduceLT, Nat.reduceAdd], rfl, ⟨inE0_row h_p_Cells, trivial⟩, rfl, ?_⟩
      intro hpre hlen
      obtain ⟨i_p_Cells, hpre⟩ := hpre
      refine ⟨⟨inE_row h_p_Cells i_p_Cells, trivial⟩, ?_⟩
      have z_p_Cells := lens_row (E := eU8) hlen h_p_Cells
      clear i_p_Cells
      generalize decL eU8 p_Cells_n p_Cells_f = p_CellsL at *
      clear h_p_Cells
      simp (config := {maxSteps := 10000000}) only [x8, push_cast, Nat.reduceAdd, Nat.reduceSub, Nat.reduceLeDiff, Nat.reduceEqDiff, Nat.reduceBEq, Nat.reduceMul, Nat.reduceLT, reduceIte, reduceCtorEq, Int.reduceLE, Int.reduceLT, Int.reduceEq, Int.reduceMul, Int.reduceAdd, Int.reduceSub, Int.reduceNeg, Int.reduceToNat, Int.reduceNe, g11, g12, g29, g30]
      intro hl
      refine vcLoop_upd (α := {k : Nat // k ≤ (lanL p_W p_H p_CellsL).length}) [3, 5] 0 (fun s => [(7, .o (.c (.v (.int .i64 (s.1 : Nat)))))]) (fun s => []) (fun s => (lanL p_W p_H p_CellsL).length - s.1) ⟨0, Nat.zero_le _⟩ ?_ ?_
      · simp only [push_cast, Nat.reduceAdd, Nat.reduceSub, Nat.reduceLeDiff, Nat.reduceEqDiff, Nat.reduceBEq, Nat.reduceMul, Nat.reduceLT, reduceIte, reduceCtorEq, Int.reduceLE, Int.reduceLT, Int.reduceEq, Int.reduceMul, Int.reduceAdd, Int.reduceSub, Int.reduceNeg, Int.reduceToNat, Int.reduceNe, g11, g12, g29, g30]
      rintro ⟨k, hk⟩
      simp only [x8L0, push_cast, Nat.reduceAdd, Nat.reduceSub, Nat.reduceLeDiff, Nat.reduceEqDiff, Nat.reduceBEq, Nat.reduceMul, Nat.reduceLT, reduceIte, reduceCtorEq, Int.reduceLE, Int.reduceLT, Int.reduceEq, Int.reduceMul, Int.reduceAdd, Int.reduceSub, Int.reduceNeg, Int.reduceToNat, Int.reduceNe, g11, g12, g29, g30]
      have := lan_len p_W p_H p_CellsL
      exact fun h => ⟨h, h, h, h, ⟨k + 1, by omega⟩, wrapI (by omega) (by omega), by simp only; omega⟩
    · cases hg_
  · cases hg_
/-- wayfinder/wayfinderlaw39.TourDisjoint -/
def g9 : Con := fun args_ E_ nn_ => match args_ with
  | [.a [.v (.int .i64 p_W), .v (.int .i64 p_H), .n p_Cells]] => (match rowOf E_ p_Cells with
    | some (p_Cells_n, p_Cells_s, p_Cells_f) => some (.q (isRow eU8 p_Cells_n p_Cells_s p_Cells_f ∧ True) (.o (.c (.v (.bool (true))))))
    | none => none)
  | _ => none
set_option maxHeartbeats 1000000 in
theorem c9 : COk Try.prog 9 g9 := by
  refine cok_q Try.func9 x9_ok (by kernel_rfl) (cok_tab (cok_cons c11 (cok_cons c12 (cok_cons c29 (cok_cons c14 cok_nil))))) ?_
  intro args_ E_ nn_ cr_ hg_
  unfold g9 at hg_
  split at hg_
  · rename_i p_W p_H p_Cells
    split at hg_
    · rename_i p_Cells_n p_Cells_s p_Cells_f h_p_Cells
      cases hg_
      refine ⟨_, _, rfl, 1, [p_Cells], [.a [.v (.int .i64 p_W), .v (.int .i64 p_H), .n 0]], [(0, .ro (decL eU8 p_Cells_n p_Cells_f).length eU8.sz (rowF eU8 (decL eU8 p_Cells_n p_Cells_f)))], .o (.c (.v (.bool (true)))), rfl, rfl, by simp only [push_cast, Nat.reduceLT, Nat.reduceAdd], by simp only [push_cast, Nat.reduceLT, Nat.reduceAdd], by simp only [push_cast, Nat.reduceLT, Nat.reduceAdd], rfl, ⟨inE0_row h_p_Cells, trivial⟩, rfl, ?_⟩
      intro hpre hlen
      obtain ⟨i_p_Cells, hpre⟩ := hpre
      refine ⟨⟨inE_row h_p_Cells i_p_Cells, trivial⟩, ?_⟩
      have z_p_Cells := lens_row (E := eU8) hlen h_p_Cells
      clear i_p_Cells
      generalize decL eU8 p_Cells_n p_Cells_f = p_CellsL at *
      clear h_p_Cells
      simp (config := {maxSteps := 10000000}) only [x9, push_cast, Nat.reduceAdd, Nat.reduceSub, Nat.reduceLeDiff, Nat.reduceEqDiff, Nat.reduceBEq, Nat.reduceMul, Nat.reduceLT, reduceIte, reduceCtorEq, Int.reduceLE, Int.reduceLT, Int.reduceEq, Int.reduceMul, Int.reduceAdd, Int.reduceSub, Int.reduceNeg, Int.reduceToNat, Int.reduceNe, g11, g12, g29, g14]
      intro hl
      refine ⟨fun h => by unfold lanE lanL; rw [h]; exact ⟨rfl, rfl⟩, fun hp => ⟨fun h => h (by unfold lanE; rw [if_pos hp]), fun he => ?_⟩⟩
      have pp := planB_at hp
      refine vcLoop_upd (α := {j : Nat // (j : Int) ≤ p_H}) [1, 3] 0 (fun s => [(5, .o (.c (.v (.int .i64 (s.1 : Nat)))))]) (fun s => []) (fun s => p_H.toNat - s.1) ⟨0, by omega⟩ ?_ ?_
      · simp only [push_cast, Nat.reduceAdd, Nat.reduceSub, Nat.reduceLeDiff, Nat.reduceEqDiff, Nat.reduceBEq, Nat.reduceMul, Nat.reduceLT, reduceIte, reduceCtorEq, Int.reduceLE, Int.reduceLT, Int.reduceEq, Int.reduceMul, Int.reduceAdd, Int.reduceSub, Int.reduceNeg, Int.reduceToNat, Int.reduceNe, g11, g12, g29, g14]
      rintro ⟨j, hj⟩
      simp only [x9L2, push_cast, Nat.reduceAdd, Nat.reduceSub, Nat.reduceLeDiff, Nat.reduceEqDiff, Nat.reduceBEq, Nat.reduceMul, Nat.reduceLT, reduceIte, reduceCtorEq, Int.reduceLE, Int.reduceLT, Int.reduceEq, Int.reduceMul, Int.reduceAdd, Int.reduceSub, Int.reduceNeg, Int.reduceToNat, Int.reduceNe, g11, g12, g29, g14]
      refine fun hlt => ?_
      refine vcLoop_upd (α := {k : Nat // (k : Int) ≤ p_W}) [1, 3, 5] 0 (fun s => [(6, .o (.c (.v (.int .i64 (s.1 : Nat)))))]) (fun s => []) (fun s => p_W.toNat - s.1) ⟨0, by omega⟩ ?_ ?_
      · simp only [push_cast, Nat.reduceAdd, Nat.reduceSub, Nat.reduceLeDiff, Nat.reduceEqDiff, Nat.reduceBEq, Nat.reduceMul, Nat.reduceLT, reduceIte, reduceCtorEq, Int.reduceLE, Int.reduceLT, Int.reduceEq, Int.reduceMul, Int.reduceAdd, Int.reduceSub, Int.reduceNeg, Int.reduceToNat, Int.reduceNe, g11, g12, g29, g14]
      rintro ⟨k, hk⟩
      simp only [x9L1, push_cast, Nat.reduceAdd, Nat.reduceSub, Nat.reduceLeDiff, Nat.reduceEqDiff, Nat.reduceBEq, Nat.reduceMul, Nat.reduceLT, reduceIte, reduceCtorEq, Int.reduceLE, Int.reduceLT, Int.reduceEq, Int.reduceMul, Int.reduceAdd, Int.reduceSub, Int.reduceNeg, Int.reduceToNat, Int.reduceNe, g11, g12, g29, g14]
      refine ⟨fun hlt2 => ?_, fun hge => ⟨⟨j + 1, by omega⟩, wrapI (by omega) (by omega), by simp only; omega⟩⟩
      refine vcLoop_upd (α := {i : Nat // i ≤ (lanL p_W p_H p_CellsL).length}) [1, 3, 5, 6] 0 (fun s => [(7, .o (.c (.v (.int .i64 ((((lanL p_W p_H p_CellsL).take s.1).countP (hasLn k j) : Nat)))))), (8, .o (.c (.v (.int .i64 (s.1 : Nat)))))]) (fun s => []) (fun s => (lanL p_W p_H p_CellsL).length - s.1) ⟨0, Nat.zero_le _⟩ ?_ ?_
      · simp only [push_cast, Nat.reduceAdd, Nat.reduceSub, Nat.reduceLeDiff, Nat.reduceEqDiff, Nat.reduceBEq, Nat.reduceMul, Nat.reduceLT, reduceIte, reduceCtorEq, Int.reduceLE, Int.reduceLT, Int.reduceEq, Int.reduceMul, Int.reduceAdd, Int.reduceSub, Int.reduceNeg, Int.reduceToNat, Int.reduceNe, g11, g12, g29, g14]
        rfl
      rintro ⟨i, hi⟩
      simp (config := {implicitDefEqProofs := false}) only [x9L0, push_cast, Nat.reduceAdd, Nat.reduceSub, Nat.reduceLeDiff, Nat.reduceEqDiff, Nat.reduceBEq, Nat.reduceMul, Nat.reduceLT, reduceIte, reduceCtorEq, Int.reduceLE, Int.reduceLT, Int.reduceEq, Int.reduceMul, Int.reduceAdd, Int.reduceSub, Int.reduceNeg, Int.reduceToNat, Int.reduceNe, g11, g12, g29, g14]
      have hll := lan_len p_W p_H p_CellsL
      have hcb : ((lanL p_W p_H p_CellsL).take i).countP (hasLn k j) ≤ i := Nat.le_trans List.countP_le_length (by rw [List.length_take]; omega)
      refine ⟨fun hin => ?_, fun hge => ?_⟩
      · have hs := cnt_takeL (hasLn k j) (lanL p_W p_H p_CellsL) i hin
        refine ⟨hin, hin, fun a => ⟨a, hin⟩, fun a => ⟨a, hin⟩, fun a b => ⟨⟨a, b⟩, hin⟩, fun a b => ⟨⟨a, b⟩, hin⟩, fun a b c => ⟨⟨i + 1, by omega⟩, ⟨?_, wrapI (by omega) (by omega)⟩, by simp only; omega⟩, fun e => ⟨⟨i + 1, by omega⟩, ⟨?_, wrapI (by omega) (by omega)⟩, by simp only; omega⟩⟩
        · simp only
          rw [hs, if_pos (show hasLn k j ((lanL p_W p_H p_CellsL).getD i eLn.dflt) = true from decide_eq_true ⟨a, b, c⟩)]
          exact (wrapI (by omega) (by omega)).trans (by omega)
        · simp only
          rw [hs, if_neg]
          · rfl
          · intro g
            unfold hasLn at g
            rw [decide_eq_true_eq] at g
            rw [g.1, decide_eq_true g.2.1, decide_eq_true g.2.2] at e
            simp at e
      · obtain rfl : i = (lanL p_W p_H p_CellsL).length := by omega
        rw [List.take_length, lan_cnt hp]
        have hin : (0 ≤ (k : Int) ∧ (k : Int) < p_W) ∧ 0 ≤ (j : Int) ∧ (j : Int) < p_H := by omega
        have k2 := idx_bd hp (decide_eq_true hin : insB p_W p_H k j = true)
        have hfa := fr_at hp hin
        rw [wrapI (n := (j : Int) * p_W) (by omega) (by omega), wrapI (n := (j : Int) * p_W + k) (by omega) (by omega)]
        have hq : ((j : Int) * p_W + k).toNat < p_CellsL.length := by omega
        have hidx : 0 ≤ (j : Int) * p_W + k ∧ (j : Int) * p_W + k < p_CellsL.length := by omega
        generalize ((j : Int) * p_W + k).toNat = q at *
        have key : (((if frB p_W p_H p_CellsL k j = true then 1 else 0 : Nat) : Int) = 1 ∧ p_CellsL.getD q eU8.dflt = 1) ∨ (((if frB p_W p_H p_CellsL k j = true then 1 else 0 : Nat) : Int) = 0 ∧ ¬ p_CellsL.getD q eU8.dflt = 1) := by
          rw [hfa]
          by_cases g : p_CellsL.getD q eU8.dflt = 1
          · exact .inl ⟨by rw [if_pos (decide_eq_true g)]; rfl, g⟩
          · exact .inr ⟨by rw [if_neg (by rw [decide_eq_true_eq]; exact g)]; rfl, g⟩
        generalize ((if frB p_W p_H p_CellsL k j = true then 1 else 0 : Nat) : Int) = n at *
        exact ⟨fun a => ⟨a, hidx⟩, fun a => ⟨a, hq⟩, fun a b => ⟨⟨a, b⟩, hidx⟩, fun a b => ⟨⟨a, b⟩, hq⟩, fun a => ⟨a, fun b => ⟨a, b⟩⟩, fun a => by omega, fun _ _ => ⟨⟨k + 1, by omega⟩, wrapI (by omega) (by omega), by simp only; omega⟩⟩
    · cases hg_
  · cases hg_
/-- wayfinder/wayfinderlaw39.TourBends -/
def g10 : Con := fun args_ E_ nn_ => match args_ with
  | [.c (.n l)] => (match rowOf E_ l with
    | some (l_n, l_s, l_f) => some (.q (isRow eC l_n l_s l_f ∧ ∀ k, k < ((decL eC l_n l_f)).length → eC.wf (((decL eC l_n l_f)).getD k eC.dflt)) (.o (.c (.v (.bool (true))))))
    | none => none)
  | _ => none
theorem c10 : COk Try.prog 10 g10 := by
  refine cok_q Try.func10 x10_ok (by kernel_rfl) (cok_tab (cok_cons c11 (cok_cons c31 (cok_cons c32 cok_nil)))) ?_
  intro args_ E_ nn_ cr_ hg_
  unfold g10 at hg_
  split at hg_
  · rename_i l
    split at hg_
    · rename_i l_n l_s l_f h_l
      cases hg_
      refine ⟨_, _, rfl, 1, [l], [.c (.n 0)], [(0, .ro (decL eC l_n l_f).length eC.sz (rowF eC (decL eC l_n l_f)))], .o (.c (.v (.bool (true)))), rfl, rfl, by simp only [push_cast, Nat.reduceLT, Nat.reduceAdd], by simp only [push_cast, Nat.reduceLT, Nat.reduceAdd], by simp only [push_cast, Nat.reduceLT, Nat.reduceAdd], rfl, ⟨inE0_row h_l, trivial⟩, rfl, ?_⟩
      intro hpre hlen
      obtain ⟨i_l, hpre⟩ := hpre
      refine ⟨⟨inE_row h_l i_l, trivial⟩, ?_⟩
      have z_l := lens_row (E := eC) hlen h_l
      clear i_l
      generalize decL eC l_n l_f = lL at *
      clear h_l
      simp (config := {maxSteps := 10000000}) only [x10, push_cast, Nat.reduceAdd, Nat.reduceSub, Nat.reduceLeDiff, Nat.reduceEqDiff, Nat.reduceBEq, Nat.reduceMul, Nat.reduceLT, reduceIte, reduceCtorEq, Int.reduceLE, Int.reduceLT, Int.reduceEq, Int.reduceMul, Int.reduceAdd, Int.reduceSub, Int.reduceNeg, Int.reduceToNat, Int.reduceNe, g11, g31, g32]
      intro hl
      refine ⟨⟨by omega, by omega⟩, ?_⟩
      refine vcLoop_upd (α := {k : Nat // k ≤ lL.length}) [0, 3] 0 (fun s => [(4, .o (.c (.v (.int .i64 (s.1 : Nat)))))]) (fun s => [(1, .own lL.length 2 (rowF eC (revK lL s.1)) 26)]) (fun s => lL.length - s.1) ⟨0, Nat.zero_le _⟩ ?_ ?_
      · simp only [push_cast, Nat.reduceAdd, Nat.reduceSub, Nat.reduceLeDiff, Nat.reduceEqDiff, Nat.reduceBEq, Nat.reduceMul, Nat.reduceLT, reduceIte, reduceCtorEq, Int.reduceLE, Int.reduceLT, Int.reduceEq, Int.reduceMul, Int.reduceAdd, Int.reduceSub, Int.reduceNeg, Int.reduceToNat, Int.reduceNe, g11, g31, g32]
        exact row_zero
      rintro ⟨k, hk⟩
      simp only [x10L0, push_cast, Nat.reduceAdd, Nat.reduceSub, Nat.reduceLeDiff, Nat.reduceEqDiff, Nat.reduceBEq, Nat.reduceMul, Nat.reduceLT, reduceIte, reduceCtorEq, Int.reduceLE, Int.reduceLT, Int.reduceEq, Int.reduceMul, Int.reduceAdd, Int.reduceSub, Int.reduceNeg, Int.reduceToNat, Int.reduceNe, g11, g31, g32]
      rw [wrapI (n := (lL.length : Int) - 1) (by omega) (by omega), wrapI (n := (lL.length : Int) - 1 - k) (by omega) (by omega)]
      refine ⟨fun hlt => ?_, fun hge => ?_⟩
      · have e : ((lL.length : Int) - 1 - k).toNat = lL.length - 1 - k := by omega
        rw [e]
        refine ⟨hlt, hlt, ⟨by omega, by omega⟩, by omega, ⟨k + 1, by omega⟩, ⟨wrapI (by omega) (by omega), ?_⟩, by simp only; omega⟩
        rw [up_c _ (by rw [revK_len]; omega), revK_succ hlt]
        exact (rowEq_rowF _ _ _ _).2 trivial
      · obtain rfl : k = lL.length := by omega
        have d1 : decL eC lL.length (rowF eC (revK lL lL.length)) = revK lL lL.length := by
          have := decL_rowF (E := eC) (revK lL lL.length)
          rw [revK_len] at this; exact this
        have d2 : isRow eC lL.length 2 (rowF eC (revK lL lL.length)) := by
          have := (isRow_rowF (E := eC) (revK lL lL.length)).2 trivial
          rw [revK_len] at this; exact this
        rw [d1, revK_all] at *
        refine ⟨hpre, ⟨d2, fun i hi => ?_⟩, bend_rev lL⟩
        rw [List.length_reverse] at hi
        rw [rev_at hi]
        exact hpre _ (by omega)
    · cases hg_
  · cases hg_
end Go.Proofs.Ytnkkhmeojifckaa
set_option linter.unusedVariables false
set_option linter.unusedSimpArgs false
set_option maxRecDepth 20000
namespace Go.Proofs.Ytnkkhmeojifckaa
open Go.Sx
def x3 : XFn := ⟨100, (.seq (.reg false [O1 2 (.box 24) 0, O1 3 (.box 26) 1, K1 4 .mv (.bool false)]) (.seq (.seq (.reg false [⟨(some 11), (.call 11), [], none⟩, O1 12 (.un .not) 11, O1 13 .mv 12, G1 14 (.loadN 3) 2 13 false, G1 15 (.call 12) 14 13 false, G1 16 (.un .not) 15 13 false, ⟨(some 17), .pick, [(.t 13), (.k (.bool true)), (.t 16)], none⟩]) (.cond (.t 17) (.seq (.reg false [⟨(some 18), (.call 11), [], none⟩, O1 4 .mv 18]) .ret) .skip)) (.seq (.reg false [O1 20 (.loadN 3) 2, O1 21 (.loadN 2) 3, O2 22 (.call 13) 20 21, O1 19 .mv 22, O1 23 (.ext 0) 19, O1 24 (.ext 1) 19, O1 5 .mv 23, O1 6 .mv 24]) (.seq (.seq (.reg false [O1 25 (.loadN 3) 2, O1 26 (.call 14) 25, O1 27 (.un .not) 26]) (.cond (.t 27) (.seq (.reg false [O1 28 .mv 6, K2 29 (.bin .eql) 28 (iV 1), O1 30 .mv 29, G1 31 .mv 5 30 true, G1 32 .lenS 31 30 true, GK 33 (.bin .eql) 32 (iV 0) 30 true, ⟨(some 34), .pick, [(.t 30), (.t 33), (.k (.bool false))], none⟩, O1 4 .mv 34]) .ret) .skip)) (.seq (.seq (.reg false [O1 35 (.loadN 3) 2, O1 36 (.loadN 2) 3, O2 37 (.call 15) 35 36, K2 38 (.bin .neq) 37 (.int .u8 1)]) (.cond (.t 38) (.seq (.reg false [O1 39 .mv 6, K2 40 (.bin .eql) 39 (iV 7), O1 41 .mv 40, G1 42 .mv 5 41 true, G1 43 .lenS 42 41 true, GK 44 (.bin .eql) 43 (iV 0) 41 true, ⟨(some 45), .pick, [(.t 41), (.t 44), (.k (.bool false))], none⟩, O1 4 .mv 45]) .ret) .skip)) (.seq (.reg false [O1 46 (.loadN 3) 2, O1 47 (.loadN 2) 3, O2 48 (.call 16) 46 47, O1 7 .mv 48]) (.seq (.reg false [O1 49 .mv 7, O1 50 (.call 17) 49, O1 8 .mv 50]) (.seq (.seq (.reg true [O1 51 .mv 6, K2 52 (.bin .neq) 51 (iV 0), O1 53 .mv 52, G1 54 .mv 5 53 false, G1 55 .lenS 54 53 false, GK 56 (.bin .eql) 55 (iV 0) 53 false, ⟨(some 57), .pick, [(.t 53), (.k (.bool true)), (.t 56)], none⟩, O1 58 .mv 57, G1 59 .mv 5 58 false, G1 60 .lenS 59 58 false, G1 61 .mv 8 58 false, ⟨(some 62), (.bin .mul), [(.k (iV 2)), (.t 61)], (some (58, false))⟩, GK 63 (.bin .sub) 62 (iV 1) 58 false, G2 64 (.bin .gtr) 60 63 58 false, ⟨(some 65), .pick, [(.t 58), (.k (.bool true)), (.t 64)], none⟩, O1 66 .mv 65, G1 67 .mv 5 66 false, GK 68 (.ixS 2) 67 (iV 0) 66 false, G1 69 (.loadN 2) 68 66 false, G1 70 (.loadN 2) 3 66 false, ⟨(some 71), (.eqA true [(.i .i64), (.i .i64)]), [(.t 69), (.t 70)], (some (66, false))⟩, ⟨(some 72), .pick, [(.t 66), (.k (.bool true)), (.t 71)], none⟩, O1 73 .mv 72, G1 74 .mv 5 73 false, G1 75 .mv 5 73 false, G1 76 .lenS 75 73 false, GK 77 (.bin .sub) 76 (iV 1) 73 false, G2 78 (.ixS 2) 74 77 73 false, G1 79 (.loadN 2) 78 73 false, G1 80 (.loadN 2) 3 73 false, ⟨(some 81), (.eqA true [(.i .i64), (.i .i64)]), [(.t 79), (.t 80)], (some (73, false))⟩, ⟨(some 82), .pick, [(.t 73), (.k (.bool true)), (.t 81)], none⟩]) (.cond (.t 82) (.seq (.reg false [K1 4 .mv (.bool false)]) .ret) .skip)) (.seq (.seq (.reg false [O1 83 (.loadN 3) 2, O1 84 .mv 5, O2 85 (.call 18) 83 84, K2 86 (.bin .neq) 85 (iV 0)]) (.cond (.t 86) (.seq (.reg false [K1 4 .mv (.bool false)]) .ret) .skip)) (.seq (.reg false [O1 88 (.loadN 3) 2, O1 89 .mv 5, O2 90 (.call 19) 88 89, O1 87 .mv 90, O1 91 (.ext 0) 87, O1 92 (.ext 1) 87, O1 9 .mv 91, O1 10 .mv 92]) (.seq (.reg false [O1 93 .mv 10, K2 94 (.bin .eql) 93 (iV 0), O1 95 .mv 94, G1 96 .mv 9 95 true, G1 97 .mv 8 95 true, G2 98 (.bin .eql) 96 97 95 true, ⟨(some 99), .pick, [(.t 95), (.t 98), (.k (.bool false))], none⟩, O1 4 .mv 99]) .ret))))))))))), [(.s 4)]⟩
theorem x3_ok : xfn Try.prog Try.f3 = some x3.er := by kernel_rfl
/-- wayfinder/wayfinderlaw39.TourCovers -/
def g3 : Con := fun args_ E_ nn_ => match args_ with
  | [.a [.v (.int .i64 p_W), .v (.int .i64 p_H), .n p_Cells], .a [.v (.int .i64 start_X), .v (.int .i64 start_Y)]] => (match rowOf E_ p_Cells with
    | some (p_Cells_n, p_Cells_s, p_Cells_f) => some (.q (isRow eU8 p_Cells_n p_Cells_s p_Cells_f ∧ True) (.o (.c (.v (.bool (true))))))
    | none => none)
  | _ => none
set_option maxHeartbeats 2000000 in
theorem c3 : COk Try.prog 3 g3 := by
  refine cok_q Try.func3 x3_ok (by kernel_rfl) (cok_tab (cok_cons c11 (cok_cons c12 (cok_cons c13 (cok_cons c14 (cok_cons c15 (cok_cons c16 (cok_cons c17 (cok_cons c18 (cok_cons c19 cok_nil)))))))))) ?_
  intro args_ E_ nn_ cr_ hg_
  unfold g3 at hg_
  split at hg_
  · rename_i p_W p_H p_Cells start_X start_Y
    split at hg_
    · rename_i p_Cells_n p_Cells_s p_Cells_f h_p_Cells
      cases hg_
      refine ⟨_, _, rfl, 1, [p_Cells], [.a [.v (.int .i64 p_W), .v (.int .i64 p_H), .n 0], .a [.v (.int .i64 start_X), .v (.int .i64 start_Y)]], [(0, .ro (decL eU8 p_Cells_n p_Cells_f).length eU8.sz (rowF eU8 (decL eU8 p_Cells_n p_Cells_f)))], .o (.c (.v (.bool (true)))), rfl, rfl, by simp only [push_cast, Nat.reduceLT, Nat.reduceAdd], by simp only [push_cast, Nat.reduceLT, Nat.reduceAdd], by simp only [push_cast, Nat.reduceLT, Nat.reduceAdd], rfl, ⟨inE0_row h_p_Cells, trivial⟩, rfl, ?_⟩
      intro hpre hlen
      obtain ⟨i_p_Cells, hpre⟩ := hpre
      refine ⟨⟨inE_row h_p_Cells i_p_Cells, trivial⟩, ?_⟩
      have z_p_Cells := lens_row (E := eU8) hlen h_p_Cells
      clear i_p_Cells
      generalize decL eU8 p_Cells_n p_Cells_f = p_CellsL at *
      clear h_p_Cells
      simp (config := {maxSteps := 10000000}) only [x3, push_cast, Nat.reduceAdd, Nat.reduceSub, Nat.reduceLeDiff, Nat.reduceEqDiff, Nat.reduceBEq, Nat.reduceMul, Nat.reduceLT, reduceIte, reduceCtorEq, Int.reduceLE, Int.reduceLT, Int.reduceEq, Int.reduceMul, Int.reduceAdd, Int.reduceSub, Int.reduceNeg, Int.reduceToNat, Int.reduceNe, g11, g12, g13, g14, g15, g16, g17, g18, g19]
      intro hl
      refine ⟨fun h => by unfold touL touE; rw [h]; exact ⟨rfl, rfl⟩, fun hp => ⟨hp, fun h => by unfold touL touE; rw [hp, fr_not.2 h]; exact ⟨rfl, rfl⟩, fun h => ?_⟩⟩
      have hf := fr_iff.2 h
      obtain ⟨l0, l1, l2, l3, l4, l5⟩ := tour_law hp hf
      have rs := reg_size hp hf
      have hR : (regL p_W p_H p_CellsL start_X start_Y).length ≤ 4096 := tInv_len hp (tEnd_inv hp hf).1
      rw [touE0 hp hf, rs]
      generalize touL p_W p_H p_CellsL start_X start_Y = T at *
      generalize regL p_W p_H p_CellsL start_X start_Y = R at *
      have e1 : IntKind.i64.wrap (IntKind.i64.wrap (2 * (R.length : Int)) - 1) = 2 * (R.length : Int) - 1 := by
        rw [wrapI (n := 2 * (R.length : Int)) (by omega) (by omega)]
        exact wrapI (by omega) (by omega)
      have e2 : IntKind.i64.wrap ((T.length : Int) - 1) = ((T.length - 1 : Nat) : Int) := (wrapI (by omega) (by omega)).trans (by omega)
      have f1 : ¬ (T.length : Int) = 0 := by omega
      have f2 : ¬ 2 * (R.length : Int) - 1 < T.length := by omega
      have f3 : (0 : Int) < T.length := by omega
      have f4 : ((T.length - 1 : Nat) : Int) < T.length := by omega
      have f5 : T.length - 1 < T.length := by omega
      have f6 : (0 : Int) ≤ ((T.length - 1 : Nat) : Int) := by omega
      simp only [e1, e2, Int.toNat_natCast, l2, l3, l4, l5, f1, f2, f3, f4, f5, f6, l0, hp, hf, not_true_eq_false, not_false_eq_true, and_self, implies_true, true_and, and_true, forall_const, or_self, or_false, beq_self_eq_true, Bool.and_self, Bool.true_eq_false, false_implies, Bool.and_true]
    · cases hg_
  · cases hg_
end Go.Proofs.Ytnkkhmeojifckaa
