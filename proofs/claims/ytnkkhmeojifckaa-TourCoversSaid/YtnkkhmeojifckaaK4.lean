/- A part of the proof of a statement about this seat: how a function is stepped through, and plain laws. No conditions. -/
import Derived.Test.YtnkkhmeojifckaaRows
import Derived.Test.YtnkkhmeojifckaaSz3
import Derived.Test.YtnkkhmeojifckaaK3
import Derived.KernelRfl
set_option linter.unusedVariables false
set_option linter.unusedSimpArgs false
set_option maxRecDepth 20000
namespace Go.Proofs.Ytnkkhmeojifckaa
open Go.Sx
def cntV (W H : Int) (L : List Int) (v : Int) : Int := if planB W H L = true then cnt8 L v else 0
theorem row_of {f : Nat → Nat → SC} {n sz : Nat} {σ : Nat → Nat} {L : List CC} (h : ∀ e j, e < n → j < sz → f e j = rowF eC L e j) : rowEq n sz f (rowF eC L) (SC.ren σ) := by
  intro e j he hj
  rw [rowF_ren]; exact h e j he hj
theorem row_cells1 {f : Nat → Nat → SC} {x0 y0 : Int} {e j : Nat} (h0 : f 0 0 = .v (.int .i64 x0)) (h1 : f 0 1 = .v (.int .i64 y0)) (he : e < 1) (hj : j < 2) : f e j = rowF eC [⟨x0, y0⟩] e j := by
  obtain rfl : e = 0 := by omega
  rcases (by omega : j = 0 ∨ j = 1) with rfl | rfl
  · exact h0
  · exact h1
def g48 : Con := cntCon
theorem c48 : COk Try.prog 48 g48 := cok_count fun args w => run_callFunc_extern Try.func48 (by kernel_rfl) (by kernel_rfl) (by kernel_rfl) (e := Extern.BytealgCount.count) (by kernel_rfl) args w
def x44L0 : XC := (.block 1 (.seq (.reg false [O1 21 .mv 0, O1 22 .mv 1, O2 23 (.call 49) 21 22, O1 6 .mv 23]) (.seq (.seq (.reg false [O1 24 .mv 6, K2 25 (.bin .eql) 24 (iV (-1))]) (.cond (.t 25) (.seq (.reg false [O1 26 .mv 5, O1 4 .mv 26]) .ret) .skip)) (.seq (.reg false [O1 27 .mv 5, K2 28 (.bin .add) 27 (iV 1), O1 5 .mv 28]) (.reg false [O1 29 .mv 0, O1 30 .mv 6, O1 31 .mv 1, O1 32 .lenS 31, O2 33 (.bin .add) 30 32, O2 34 (.slc 1 true false false) 29 33, O1 0 .mv 34])))))
def x44 : XFn := ⟨35, (.seq (.reg false [K1 4 .mv (iV 0)]) (.seq (.seq (.reg false [O1 7 .mv 1, O1 8 .lenS 7, K2 9 (.bin .eql) 8 (iV 0)]) (.cond (.t 9) (.seq (.reg false [O1 10 .mv 0, O1 11 (.call 47) 10, K2 12 (.bin .add) 11 (iV 1), O1 4 .mv 12]) .ret) .skip)) (.seq (.seq (.reg false [O1 13 .mv 1, O1 14 .lenS 13, K2 15 (.bin .eql) 14 (iV 1)]) (.cond (.t 15) (.seq (.reg false [O1 16 .mv 0, O1 17 .mv 1, K2 18 (.ixS 1) 17 (iV 0), O1 19 .load1 18, O2 20 (.call 48) 16 19, O1 4 .mv 20]) .ret) .skip)) (.seq (.reg false [K1 5 .mv (iV 0)]) (.block 0 (.loop x44L0)))))), [(.s 4)]⟩
theorem x44_ok : xfn Try.prog Try.f44 = some x44.er := by kernel_rfl
def x38 : XFn := ⟨13, (.seq (.reg false [O1 2 (.box 24) 0, K1 4 .mv (iV 0)]) (.seq (.seq (.reg false [O1 5 (.loadN 3) 2, O1 6 (.call 33) 5, O1 7 (.un .not) 6]) (.cond (.t 7) (.seq (.reg false [K1 4 .mv (iV 0)]) .ret) .skip)) (.seq (.reg false [O1 8 (.fld 2) 2, O1 9 .load1 8, O1 10 .mv 1, ⟨(some 11), (.slit 5 1 1 [(.int .u8 0)] [(0, 1)]), [(.t 10)], none⟩, O2 12 (.call 44) 9 11, O1 4 .mv 12]) .ret))), [(.s 4)]⟩
theorem x38_ok : xfn Try.prog Try.f38 = some x38.er := by kernel_rfl
def x45 : XFn := ⟨22, (.seq (.reg false [O1 4 (.box 26) 1, O1 5 (.box 26) 2]) (.seq (.reg false [O1 6 .mv 0, O1 7 (.loadN 2) 4, O1 9 (.loadN 2) 5, ⟨(some 10), (.slit 26 1 2 [(iV 0), (iV 0)] [(0, 2)]), [(.t 9)], none⟩, ⟨(some 11), (.mpe (.slice none 0 0)), [(.t 6), (.t 7)], none⟩, O1 8 (.ext 0) 11, O2 12 (.app 26 2 16) 8 10, O1 13 (.ext 1) 11, ⟨none, .mps, [(.t 6), (.t 13), (.t 12)], none⟩]) (.reg false [O1 14 .mv 0, O1 15 (.loadN 2) 5, O1 17 (.loadN 2) 4, ⟨(some 18), (.slit 26 1 2 [(iV 0), (iV 0)] [(0, 2)]), [(.t 17)], none⟩, ⟨(some 19), (.mpe (.slice none 0 0)), [(.t 14), (.t 15)], none⟩, O1 16 (.ext 0) 19, O2 20 (.app 26 2 16) 16 18, O1 21 (.ext 1) 19, ⟨none, .mps, [(.t 14), (.t 21), (.t 20)], none⟩]))), []⟩
theorem x45_ok : xfn Try.prog Try.f45 = some x45.er := by kernel_rfl
def x39 : XFn := ⟨44, (.seq (.reg false [O1 3 (.box 26) 1]) (.seq (.regD [O1 8 (.loadN 2) 3, O1 9 (.fld 0) 3, O1 10 .load1 9, K2 11 (.bin .add) 10 (iV 1), O1 12 (.fld 1) 3, O1 13 .load1 12, ⟨(some 14), (.build [(iV 0), (iV 0)] [(0, 1), (1, 1)]), [(.t 11), (.t 13)], none⟩, O1 15 (.fld 0) 3, O1 16 .load1 15, K2 17 (.bin .add) 16 (iV 1), O1 18 (.fld 1) 3, O1 19 .load1 18, K2 20 (.bin .add) 19 (iV 1), ⟨(some 21), (.build [(iV 0), (iV 0)] [(0, 1), (1, 1)]), [(.t 17), (.t 20)], none⟩, O1 22 (.fld 0) 3, O1 23 .load1 22, O1 24 (.fld 1) 3, O1 25 .load1 24, K2 26 (.bin .add) 25 (iV 1), ⟨(some 27), (.build [(iV 0), (iV 0)] [(0, 1), (1, 1)]), [(.t 23), (.t 26)], none⟩, ⟨(some 4), (.alloc 26 [(iV 0), (iV 0)]), [], none⟩, ⟨(some 5), (.alloc 26 [(iV 0), (iV 0)]), [], none⟩, ⟨(some 6), (.alloc 26 [(iV 0), (iV 0)]), [], none⟩, ⟨(some 7), (.alloc 26 [(iV 0), (iV 0)]), [], none⟩, ⟨none, (.store 2), [(.t 4), (.t 8)], none⟩, ⟨none, (.store 2), [(.t 5), (.t 14)], none⟩, ⟨none, (.store 2), [(.t 6), (.t 21)], none⟩, ⟨none, (.store 2), [(.t 7), (.t 27)], none⟩] [[], [], [1], [2, 1], [], [4], [3, 2, 1, 5, 4], [], [7], [8, 7], [], [10], [11, 10], [9, 8, 7, 12, 11, 10], [], [14], [], [16], [17, 16], [15, 14, 18, 17, 16], [], [], [], [], [20, 0, 21, 22, 23], [21, 6, 3, 2, 1, 5, 4, 24, 20, 0, 22, 23], [22, 13, 9, 8, 7, 12, 11, 10, 25, 21, 6, 3, 2, 1, 5, 4, 24, 20, 0, 23], [23, 19, 15, 14, 18, 17, 16, 26, 22, 13, 9, 8, 7, 12, 11, 10, 25, 21, 6, 3, 2, 1, 5, 4, 24, 20, 0]]) (.seq (.reg false [O1 28 .mv 0, O1 29 (.loadN 2) 4, O1 30 (.loadN 2) 5, ⟨(some 31), (.call 45), [(.t 28), (.t 29), (.t 30)], none⟩]) (.seq (.reg false [O1 32 .mv 0, O1 33 (.loadN 2) 5, O1 34 (.loadN 2) 6, ⟨(some 35), (.call 45), [(.t 32), (.t 33), (.t 34)], none⟩]) (.seq (.reg false [O1 36 .mv 0, O1 37 (.loadN 2) 6, O1 38 (.loadN 2) 7, ⟨(some 39), (.call 45), [(.t 36), (.t 37), (.t 38)], none⟩]) (.reg false [O1 40 .mv 0, O1 41 (.loadN 2) 7, O1 42 (.loadN 2) 4, ⟨(some 43), (.call 45), [(.t 40), (.t 41), (.t 42)], none⟩])))))), []⟩
theorem x39_ok : xfn Try.prog Try.f39 = some x39.er := by kernel_rfl
/-- bytes.Count -/
def g44 : Con := fun args_ E_ nn_ => match args_ with
  | [.c (.n s), .c (.n sep)] => (match rowOf E_ s with
    | some (s_n, s_s, s_f) => (match rowOf E_ sep with
    | some (sep_n, sep_s, sep_f) => some (.q (isRow eU8 s_n s_s s_f ∧ isRow eU8 sep_n sep_s sep_f ∧ ((decL eU8 sep_n sep_f)).length = 1) (.o (.c (.v (.int .i64 (cnt8 (decL eU8 s_n s_f) (((decL eU8 sep_n sep_f)).getD 0 eU8.dflt)))))))
    | none => none)
    | none => none)
  | _ => none
theorem c44 : COk Try.prog 44 g44 := by
  refine cok_q Try.func44 x44_ok (by kernel_rfl) (cok_tab (cok_cons c48 cok_nil)) ?_
  intro args_ E_ nn_ cr_ hg_
  unfold g44 at hg_
  split at hg_
  · rename_i s sep
    split at hg_
    · rename_i s_n s_s s_f h_s
      split at hg_
      · rename_i sep_n sep_s sep_f h_sep
        cases hg_
        refine ⟨_, _, rfl, 2, [s, sep], [.c (.n 0), .c (.n 1)], [(0, .ro (decL eU8 s_n s_f).length eU8.sz (rowF eU8 (decL eU8 s_n s_f))), (1, .ro (decL eU8 sep_n sep_f).length eU8.sz (rowF eU8 (decL eU8 sep_n sep_f)))], .o (.c (.v (.int .i64 (cnt8 (decL eU8 s_n s_f) (((decL eU8 sep_n sep_f)).getD 0 eU8.dflt))))), rfl, rfl, by simp only [push_cast, Nat.reduceLT, Nat.reduceAdd], by simp only [push_cast, Nat.reduceLT, Nat.reduceAdd], by simp only [push_cast, Nat.reduceLT, Nat.reduceAdd], rfl, ⟨inE0_row h_s, inE0_row h_sep, trivial⟩, rfl, ?_⟩
        intro hpre hlen
        obtain ⟨i_s, hpre⟩ := hpre
        obtain ⟨i_sep, hpre⟩ := hpre
        refine ⟨⟨inE_row h_s i_s, inE_row h_sep i_sep, trivial⟩, ?_⟩
        have z_s := lens_row (E := eU8) hlen h_s
        have z_sep := lens_row (E := eU8) hlen h_sep
        clear i_s
        generalize decL eU8 s_n s_f = sL at *
        clear i_sep
        generalize decL eU8 sep_n sep_f = sepL at *
        clear h_s
        clear h_sep
        simp (config := {maxSteps := 10000000}) only [x44, push_cast, Nat.reduceAdd, Nat.reduceSub, Nat.reduceLeDiff, Nat.reduceEqDiff, Nat.reduceBEq, Nat.reduceMul, Nat.reduceLT, reduceIte, reduceCtorEq, Int.reduceLE, Int.reduceLT, Int.reduceEq, Int.reduceMul, Int.reduceAdd, Int.reduceSub, Int.reduceNeg, Int.reduceToNat, Int.reduceNe, g48]
        exact ⟨by omega, fun _ => ⟨fun _ => ⟨by omega, by omega⟩, fun h => by omega⟩⟩
      · cases hg_
    · cases hg_
  · cases hg_
/-- wayfinder/plan.Count -/
def g38 : Con := fun args_ E_ nn_ => match args_ with
  | [.a [.v (.int .i64 p_W), .v (.int .i64 p_H), .n p_Cells], .c (.v (.int .u8 value))] => (match rowOf E_ p_Cells with
    | some (p_Cells_n, p_Cells_s, p_Cells_f) => some (.q (isRow eU8 p_Cells_n p_Cells_s p_Cells_f ∧ True) (.o (.c (.v (.int .i64 (cntV p_W p_H (decL eU8 p_Cells_n p_Cells_f) value))))))
    | none => none)
  | _ => none
theorem c38 : COk Try.prog 38 g38 := by
  refine cok_q Try.func38 x38_ok (by kernel_rfl) (cok_tab (cok_cons c33 (cok_cons c44 cok_nil))) ?_
  intro args_ E_ nn_ cr_ hg_
  unfold g38 at hg_
  split at hg_
  · rename_i p_W p_H p_Cells value
    split at hg_
    · rename_i p_Cells_n p_Cells_s p_Cells_f h_p_Cells
      cases hg_
      refine ⟨_, _, rfl, 1, [p_Cells], [.a [.v (.int .i64 p_W), .v (.int .i64 p_H), .n 0], .c (.v (.int .u8 value))], [(0, .ro (decL eU8 p_Cells_n p_Cells_f).length eU8.sz (rowF eU8 (decL eU8 p_Cells_n p_Cells_f)))], .o (.c (.v (.int .i64 (cntV p_W p_H (decL eU8 p_Cells_n p_Cells_f) value)))), rfl, rfl, by simp only [push_cast, Nat.reduceLT, Nat.reduceAdd], by simp only [push_cast, Nat.reduceLT, Nat.reduceAdd], by simp only [push_cast, Nat.reduceLT, Nat.reduceAdd], rfl, ⟨inE0_row h_p_Cells, trivial⟩, rfl, ?_⟩
      intro hpre hlen
      obtain ⟨i_p_Cells, hpre⟩ := hpre
      refine ⟨⟨inE_row h_p_Cells i_p_Cells, trivial⟩, ?_⟩
      have z_p_Cells := lens_row (E := eU8) hlen h_p_Cells
      clear i_p_Cells
      generalize decL eU8 p_Cells_n p_Cells_f = p_CellsL at *
      clear h_p_Cells
      have l1 : isRow eU8 1 1 (litF [SC.v (Value.int IntKind.u8 value)] 1) ↔ True := iff_true_intro (lits_row eU8 [value]).1
      have l2 : decL eU8 1 (litF [SC.v (Value.int IntKind.u8 value)] 1) = [value] := (lits_row eU8 [value]).2
      simp (config := {maxSteps := 10000000}) only [x38, push_cast, Nat.reduceAdd, Nat.reduceSub, Nat.reduceLeDiff, Nat.reduceEqDiff, Nat.reduceBEq, Nat.reduceMul, Nat.reduceLT, reduceIte, reduceCtorEq, Int.reduceLE, Int.reduceLT, Int.reduceEq, Int.reduceMul, Int.reduceAdd, Int.reduceSub, Int.reduceNeg, Int.reduceToNat, Int.reduceNe, g33, g44, l1, l2]
      unfold cntV
      exact ⟨fun h => by rw [h]; rfl, fun h => by rw [if_pos h]⟩
    · cases hg_
  · cases hg_
/-- (wayfinder/tour.ring).join j1 -/
def g45j1 : Con := fun args_ E_ nn_ => match args_ with
  | [.c (.n r), .a [.v (.int .i64 a_X), .v (.int .i64 a_Y)], .a [.v (.int .i64 b_X), .v (.int .i64 b_Y)]] => (match E_ r with
    | some (.mp []) => some (.e (True ∧ a_X = 0 ∧ a_Y = 0 ∧ b_X = 1 ∧ b_Y = 0) (.t []) [(r, .mp [(0, 0, .n (nn_ + 0)), (1, 0, .n (nn_ + 1))]), ((nn_ + 0), .own 1 2 (rowF eC [⟨1, 0⟩]) 26), ((nn_ + 1), .own 1 2 (rowF eC [⟨0, 0⟩]) 26)] (nn_ + 2))
    | _ => none)
  | _ => none
theorem c45j1 : COk Try.prog 45 g45j1 := by
  refine cok_e Try.func45 x45_ok (by kernel_rfl) (cok_tab cok_nil) ?_
  intro args_ E_ nn_ cr_ hg_
  unfold g45j1 at hg_
  split at hg_
  · rename_i r a_X a_Y b_X b_Y
    split at hg_
    · rename_i h_r
      cases hg_
      refine ⟨_, _, _, _, rfl, 1, [r], [.c (.n 0), .a [.v (.int .i64 a_X), .v (.int .i64 a_Y)], .a [.v (.int .i64 b_X), .v (.int .i64 b_Y)]], [(0, .mp [])], .t [], [(0, .mp [(0, 0, .n 1), (1, 0, .n 2)]), (1, .own 1 2 (rowF eC [⟨1, 0⟩]) 26), (2, .own 1 2 (rowF eC [⟨0, 0⟩]) 26)], 3, rfl, rfl, by simp only [renE, Ent.ren, renM, rowF_renf] <;> rfl, rfl, by decide, by simp only [push_cast, Nat.reduceLT, Nat.reduceAdd], by simp only [push_cast, Nat.reduceLT, Nat.reduceAdd], by simp only [push_cast, Nat.reduceLT, Nat.reduceAdd], by simp only [push_cast, Nat.reduceLT, Nat.reduceAdd], rfl, ⟨⟨_, h_r⟩, trivial⟩, by simp only [keysNodup, outN, keys] <;> decide, rfl, rfl, ?_⟩
      intro hpre hlen
      obtain ⟨_, rfl, rfl, rfl, rfl⟩ := hpre
      refine ⟨⟨⟨_, h_r, by simp only [leE, leM, SC.ren, and_true, true_and, and_self] <;> first | rfl | (refine ⟨?_, ?_⟩ <;> rfl) | exact ⟨rfl, rfl, rfl⟩ | exact ⟨rfl, rfl, rfl, rfl⟩⟩, trivial⟩, ?_, ?_⟩
      · skip
        refine ⟨fun _ k2 e2 hm hne => ?_, ?_⟩
        · simp only [List.mem_cons, List.not_mem_nil, or_false, Prod.mk.injEq] at hm
          obtain ⟨rfl, _⟩ := hm
          exact absurd rfl hne
        trivial
      simp (config := {maxSteps := 10000000}) only [x45, push_cast, Nat.reduceAdd, Nat.reduceSub, Nat.reduceLeDiff, Nat.reduceEqDiff, Nat.reduceBEq, Nat.reduceMul, Nat.reduceLT, reduceIte, reduceCtorEq, Int.reduceLE, Int.reduceLT, Int.reduceEq, Int.reduceMul, Int.reduceAdd, Int.reduceSub, Int.reduceNeg, Int.reduceToNat, Int.reduceNe]
      exact ⟨row_one ⟨1, 0⟩ _, row_one ⟨0, 0⟩ _⟩
    · cases hg_
  · cases hg_
/-- (wayfinder/tour.ring).join j2 -/
def g45j2 : Con := fun args_ E_ nn_ => match args_ with
  | [.c (.n r), .a [.v (.int .i64 b_X), .v (.int .i64 b_Y)], .a [.v (.int .i64 d_X), .v (.int .i64 d_Y)]] => (match E_ r with
    | some (.mp [(a_X, a_Y, .n i0), (kb_X, kb_Y, .n i1)]) => (match E_ i0 with
    | some i0_e => (match E_ i1 with
    | some (.own i1_n i1_s i1_f i1_t) => some (.e (True ∧ r ≠ i0 ∧ r ≠ i1 ∧ i0 ≠ i1 ∧ i1_n = 1 ∧ i1_s = 2 ∧ i1_t = 26 ∧ i1_f 0 0 = .v (.int .i64 0) ∧ i1_f 0 1 = .v (.int .i64 0) ∧ b_X = 1 ∧ b_Y = 0 ∧ d_X = 1 ∧ d_Y = 1 ∧ a_X = 0 ∧ a_Y = 0 ∧ kb_X = 1 ∧ kb_Y = 0) (.t []) [(r, .mp [(0, 0, .n i0), (1, 0, .n (nn_ + 0)), (1, 1, .n (nn_ + 1))]), (i1, .dead), ((nn_ + 0), .own 2 2 (rowF eC [⟨0, 0⟩, ⟨1, 1⟩]) 26), ((nn_ + 1), .own 1 2 (rowF eC [⟨1, 0⟩]) 26)] (nn_ + 2))
    | _ => none)
    | _ => none)
    | _ => none)
  | _ => none
theorem c45j2 : COk Try.prog 45 g45j2 := by
  refine cok_e Try.func45 x45_ok (by kernel_rfl) (cok_tab cok_nil) ?_
  intro args_ E_ nn_ cr_ hg_
  unfold g45j2 at hg_
  split at hg_
  · rename_i r b_X b_Y d_X d_Y
    split at hg_
    · rename_i a_X a_Y i0 kb_X kb_Y i1 h_r
      split at hg_
      · rename_i i0_e h_i0
        split at hg_
        · rename_i i1_n i1_s i1_f i1_t h_i1
          cases hg_
          refine ⟨_, _, _, _, rfl, 3, [r, i0, i1], [.c (.n 0), .a [.v (.int .i64 b_X), .v (.int .i64 b_Y)], .a [.v (.int .i64 d_X), .v (.int .i64 d_Y)]], [(0, .mp [(a_X, a_Y, .n 1), (kb_X, kb_Y, .n 2)]), (1, .dead), (2, .own 1 2 (rowF eC [⟨0, 0⟩]) 26)], .t [], [(0, .mp [(0, 0, .n 1), (1, 0, .n 3), (1, 1, .n 4)]), (2, .dead), (3, .own 2 2 (rowF eC [⟨0, 0⟩, ⟨1, 1⟩]) 26), (4, .own 1 2 (rowF eC [⟨1, 0⟩]) 26)], 5, rfl, rfl, by simp only [renE, Ent.ren, renM, rowF_renf] <;> rfl, rfl, by decide, by simp only [push_cast, Nat.reduceLT, Nat.reduceAdd], by simp only [push_cast, Nat.reduceLT, Nat.reduceAdd], by simp only [push_cast, Nat.reduceLT, Nat.reduceAdd], by simp only [push_cast, Nat.reduceLT, Nat.reduceAdd], rfl, ⟨⟨_, h_r⟩, ⟨_, h_i0⟩, ⟨_, h_i1⟩, trivial⟩, by simp only [keysNodup, outN, keys] <;> decide, rfl, rfl, ?_⟩
          intro hpre hlen
          obtain ⟨_, d_r_i0, d_r_i1, d_i0_i1, rfl, rfl, rfl, c_i1_0_0, c_i1_0_1, rfl, rfl, rfl, rfl, rfl, rfl, rfl, rfl⟩ := hpre
          refine ⟨⟨⟨_, h_r, by simp only [leE, leM, SC.ren, and_true, true_and, and_self] <;> first | rfl | (refine ⟨?_, ?_⟩ <;> rfl) | exact ⟨rfl, rfl, rfl⟩ | exact ⟨rfl, rfl, rfl, rfl⟩⟩, ⟨_, h_i0, by cases i0_e <;> trivial⟩, ⟨_, h_i1, rfl, rfl, rfl, row_of (by intro e j he hj; first | exact row_cells1 c_i1_0_0 c_i1_0_1 he hj)⟩, trivial⟩, ?_, ?_⟩
          · skip
            refine ⟨fun _ k2 e2 hm hne => ?_, ?_⟩
            · simp only [List.mem_cons, List.not_mem_nil, or_false, Prod.mk.injEq] at hm
              rcases hm with ⟨rfl, _⟩ | ⟨rfl, _⟩ | ⟨rfl, _⟩
              · exact absurd rfl hne
              · exact fun hh => d_r_i0 (Eq.symm (show i0 = r from hh))
              · exact fun hh => d_r_i1 (Eq.symm (show i1 = r from hh))
            refine ⟨fun h => by (cases h), ?_⟩
            refine ⟨fun _ k2 e2 hm hne => ?_, ?_⟩
            · simp only [List.mem_cons, List.not_mem_nil, or_false, Prod.mk.injEq] at hm
              rcases hm with ⟨rfl, _⟩ | ⟨rfl, _⟩ | ⟨rfl, _⟩
              · exact fun hh => d_r_i1 (show r = i1 from hh)
              · exact fun hh => d_i0_i1 (show i0 = i1 from hh)
              · exact absurd rfl hne
            trivial
          simp (config := {maxSteps := 10000000}) only [x45, push_cast, Nat.reduceAdd, Nat.reduceSub, Nat.reduceLeDiff, Nat.reduceEqDiff, Nat.reduceBEq, Nat.reduceMul, Nat.reduceLT, reduceIte, reduceCtorEq, Int.reduceLE, Int.reduceLT, Int.reduceEq, Int.reduceMul, Int.reduceAdd, Int.reduceSub, Int.reduceNeg, Int.reduceToNat, Int.reduceNe]
          exact ⟨(push_eq (E := eC) (L := [⟨0, 0⟩]) (x := ⟨1, 1⟩) rfl).2, row_one ⟨1, 0⟩ _⟩
        · cases hg_
      · cases hg_
    · cases hg_
  · cases hg_
/-- (wayfinder/tour.ring).join j3 -/
def g45j3 : Con := fun args_ E_ nn_ => match args_ with
  | [.c (.n r), .a [.v (.int .i64 d_X), .v (.int .i64 d_Y)], .a [.v (.int .i64 e_X), .v (.int .i64 e_Y)]] => (match E_ r with
    | some (.mp [(a_X, a_Y, .n i0), (b_X, b_Y, .n i1), (kd_X, kd_Y, .n i2)]) => (match E_ i0 with
    | some i0_e => (match E_ i1 with
    | some i1_e => (match E_ i2 with
    | some (.own i2_n i2_s i2_f i2_t) => some (.e (True ∧ r ≠ i0 ∧ r ≠ i1 ∧ r ≠ i2 ∧ i0 ≠ i1 ∧ i0 ≠ i2 ∧ i1 ≠ i2 ∧ i2_n = 1 ∧ i2_s = 2 ∧ i2_t = 26 ∧ i2_f 0 0 = .v (.int .i64 1) ∧ i2_f 0 1 = .v (.int .i64 0) ∧ d_X = 1 ∧ d_Y = 1 ∧ e_X = 0 ∧ e_Y = 1 ∧ a_X = 0 ∧ a_Y = 0 ∧ b_X = 1 ∧ b_Y = 0 ∧ kd_X = 1 ∧ kd_Y = 1) (.t []) [(r, .mp [(0, 0, .n i0), (1, 0, .n i1), (1, 1, .n (nn_ + 0)), (0, 1, .n (nn_ + 1))]), (i2, .dead), ((nn_ + 0), .own 2 2 (rowF eC [⟨1, 0⟩, ⟨0, 1⟩]) 26), ((nn_ + 1), .own 1 2 (rowF eC [⟨1, 1⟩]) 26)] (nn_ + 2))
    | _ => none)
    | _ => none)
    | _ => none)
    | _ => none)
  | _ => none
theorem c45j3 : COk Try.prog 45 g45j3 := by
  refine cok_e Try.func45 x45_ok (by kernel_rfl) (cok_tab cok_nil) ?_
  intro args_ E_ nn_ cr_ hg_
  unfold g45j3 at hg_
  split at hg_
  · rename_i r d_X d_Y e_X e_Y
    split at hg_
    · rename_i a_X a_Y i0 b_X b_Y i1 kd_X kd_Y i2 h_r
      split at hg_
      · rename_i i0_e h_i0
        split at hg_
        · rename_i i1_e h_i1
          split at hg_
          · rename_i i2_n i2_s i2_f i2_t h_i2
            cases hg_
            refine ⟨_, _, _, _, rfl, 4, [r, i0, i1, i2], [.c (.n 0), .a [.v (.int .i64 d_X), .v (.int .i64 d_Y)], .a [.v (.int .i64 e_X), .v (.int .i64 e_Y)]], [(0, .mp [(a_X, a_Y, .n 1), (b_X, b_Y, .n 2), (kd_X, kd_Y, .n 3)]), (1, .dead), (2, .dead), (3, .own 1 2 (rowF eC [⟨1, 0⟩]) 26)], .t [], [(0, .mp [(0, 0, .n 1), (1, 0, .n 2), (1, 1, .n 4), (0, 1, .n 5)]), (3, .dead), (4, .own 2 2 (rowF eC [⟨1, 0⟩, ⟨0, 1⟩]) 26), (5, .own 1 2 (rowF eC [⟨1, 1⟩]) 26)], 6, rfl, rfl, by simp only [renE, Ent.ren, renM, rowF_renf] <;> rfl, rfl, by decide, by simp only [push_cast, Nat.reduceLT, Nat.reduceAdd], by simp only [push_cast, Nat.reduceLT, Nat.reduceAdd], by simp only [push_cast, Nat.reduceLT, Nat.reduceAdd], by simp only [push_cast, Nat.reduceLT, Nat.reduceAdd], rfl, ⟨⟨_, h_r⟩, ⟨_, h_i0⟩, ⟨_, h_i1⟩, ⟨_, h_i2⟩, trivial⟩, by simp only [keysNodup, outN, keys] <;> decide, rfl, rfl, ?_⟩
            intro hpre hlen
            obtain ⟨_, d_r_i0, d_r_i1, d_r_i2, d_i0_i1, d_i0_i2, d_i1_i2, rfl, rfl, rfl, c_i2_0_0, c_i2_0_1, rfl, rfl, rfl, rfl, rfl, rfl, rfl, rfl, rfl, rfl⟩ := hpre
            refine ⟨⟨⟨_, h_r, by simp only [leE, leM, SC.ren, and_true, true_and, and_self] <;> first | rfl | (refine ⟨?_, ?_⟩ <;> rfl) | exact ⟨rfl, rfl, rfl⟩ | exact ⟨rfl, rfl, rfl, rfl⟩⟩, ⟨_, h_i0, by cases i0_e <;> trivial⟩, ⟨_, h_i1, by cases i1_e <;> trivial⟩, ⟨_, h_i2, rfl, rfl, rfl, row_of (by intro e j he hj; first | exact row_cells1 c_i2_0_0 c_i2_0_1 he hj)⟩, trivial⟩, ?_, ?_⟩
            · skip
              refine ⟨fun _ k2 e2 hm hne => ?_, ?_⟩
              · simp only [List.mem_cons, List.not_mem_nil, or_false, Prod.mk.injEq] at hm
                rcases hm with ⟨rfl, _⟩ | ⟨rfl, _⟩ | ⟨rfl, _⟩ | ⟨rfl, _⟩
                · exact absurd rfl hne
                · exact fun hh => d_r_i0 (Eq.symm (show i0 = r from hh))
                · exact fun hh => d_r_i1 (Eq.symm (show i1 = r from hh))
                · exact fun hh => d_r_i2 (Eq.symm (show i2 = r from hh))
              refine ⟨fun h => by (cases h), ?_⟩
              refine ⟨fun h => by (cases h), ?_⟩
              refine ⟨fun _ k2 e2 hm hne => ?_, ?_⟩
              · simp only [List.mem_cons, List.not_mem_nil, or_false, Prod.mk.injEq] at hm
                rcases hm with ⟨rfl, _⟩ | ⟨rfl, _⟩ | ⟨rfl, _⟩ | ⟨rfl, _⟩
                · exact fun hh => d_r_i2 (show r = i2 from hh)
                · exact fun hh => d_i0_i2 (show i0 = i2 from hh)
                · exact fun hh => d_i1_i2 (show i1 = i2 from hh)
                · exact absurd rfl hne
              trivial
            simp (config := {maxSteps := 10000000}) only [x45, push_cast, Nat.reduceAdd, Nat.reduceSub, Nat.reduceLeDiff, Nat.reduceEqDiff, Nat.reduceBEq, Nat.reduceMul, Nat.reduceLT, reduceIte, reduceCtorEq, Int.reduceLE, Int.reduceLT, Int.reduceEq, Int.reduceMul, Int.reduceAdd, Int.reduceSub, Int.reduceNeg, Int.reduceToNat, Int.reduceNe]
            exact ⟨(push_eq (E := eC) (L := [⟨1, 0⟩]) (x := ⟨0, 1⟩) rfl).2, row_one ⟨1, 1⟩ _⟩
          · cases hg_
        · cases hg_
      · cases hg_
    · cases hg_
  · cases hg_
/-- (wayfinder/tour.ring).join j4 -/
def g45j4 : Con := fun args_ E_ nn_ => match args_ with
  | [.c (.n r), .a [.v (.int .i64 e_X), .v (.int .i64 e_Y)], .a [.v (.int .i64 a_X), .v (.int .i64 a_Y)]] => (match E_ r with
    | some (.mp [(ka_X, ka_Y, .n i0), (b_X, b_Y, .n i1), (d_X, d_Y, .n i2), (ke_X, ke_Y, .n i3)]) => (match E_ i0 with
    | some (.own i0_n i0_s i0_f i0_t) => (match E_ i1 with
    | some i1_e => (match E_ i2 with
    | some i2_e => (match E_ i3 with
    | some (.own i3_n i3_s i3_f i3_t) => some (.e (True ∧ r ≠ i0 ∧ r ≠ i1 ∧ r ≠ i2 ∧ r ≠ i3 ∧ i0 ≠ i1 ∧ i0 ≠ i2 ∧ i0 ≠ i3 ∧ i1 ≠ i2 ∧ i1 ≠ i3 ∧ i2 ≠ i3 ∧ i0_n = 1 ∧ i0_s = 2 ∧ i0_t = 26 ∧ i0_f 0 0 = .v (.int .i64 1) ∧ i0_f 0 1 = .v (.int .i64 0) ∧ i3_n = 1 ∧ i3_s = 2 ∧ i3_t = 26 ∧ i3_f 0 0 = .v (.int .i64 1) ∧ i3_f 0 1 = .v (.int .i64 1) ∧ e_X = 0 ∧ e_Y = 1 ∧ a_X = 0 ∧ a_Y = 0 ∧ ka_X = 0 ∧ ka_Y = 0 ∧ b_X = 1 ∧ b_Y = 0 ∧ d_X = 1 ∧ d_Y = 1 ∧ ke_X = 0 ∧ ke_Y = 1) (.t []) [(r, .mp [(0, 0, .n (nn_ + 1)), (1, 0, .n i1), (1, 1, .n i2), (0, 1, .n (nn_ + 0))]), (i0, .dead), (i3, .dead), ((nn_ + 0), .own 2 2 (rowF eC [⟨1, 1⟩, ⟨0, 0⟩]) 26), ((nn_ + 1), .own 2 2 (rowF eC [⟨1, 0⟩, ⟨0, 1⟩]) 26)] (nn_ + 2))
    | _ => none)
    | _ => none)
    | _ => none)
    | _ => none)
    | _ => none)
  | _ => none
theorem c45j4 : COk Try.prog 45 g45j4 := by
  refine cok_e Try.func45 x45_ok (by kernel_rfl) (cok_tab cok_nil) ?_
  intro args_ E_ nn_ cr_ hg_
  unfold g45j4 at hg_
  split at hg_
  · rename_i r e_X e_Y a_X a_Y
    split at hg_
    · rename_i ka_X ka_Y i0 b_X b_Y i1 d_X d_Y i2 ke_X ke_Y i3 h_r
      split at hg_
      · rename_i i0_n i0_s i0_f i0_t h_i0
        split at hg_
        · rename_i i1_e h_i1
          split at hg_
          · rename_i i2_e h_i2
            split at hg_
            · rename_i i3_n i3_s i3_f i3_t h_i3
              cases hg_
              refine ⟨_, _, _, _, rfl, 5, [r, i0, i1, i2, i3], [.c (.n 0), .a [.v (.int .i64 e_X), .v (.int .i64 e_Y)], .a [.v (.int .i64 a_X), .v (.int .i64 a_Y)]], [(0, .mp [(ka_X, ka_Y, .n 1), (b_X, b_Y, .n 2), (d_X, d_Y, .n 3), (ke_X, ke_Y, .n 4)]), (1, .own 1 2 (rowF eC [⟨1, 0⟩]) 26), (2, .dead), (3, .dead), (4, .own 1 2 (rowF eC [⟨1, 1⟩]) 26)], .t [], [(0, .mp [(0, 0, .n 6), (1, 0, .n 2), (1, 1, .n 3), (0, 1, .n 5)]), (1, .dead), (4, .dead), (5, .own 2 2 (rowF eC [⟨1, 1⟩, ⟨0, 0⟩]) 26), (6, .own 2 2 (rowF eC [⟨1, 0⟩, ⟨0, 1⟩]) 26)], 7, rfl, rfl, by simp only [renE, Ent.ren, renM, rowF_renf] <;> rfl, rfl, by decide, by simp only [push_cast, Nat.reduceLT, Nat.reduceAdd], by simp only [push_cast, Nat.reduceLT, Nat.reduceAdd], by simp only [push_cast, Nat.reduceLT, Nat.reduceAdd], by simp only [push_cast, Nat.reduceLT, Nat.reduceAdd], rfl, ⟨⟨_, h_r⟩, ⟨_, h_i0⟩, ⟨_, h_i1⟩, ⟨_, h_i2⟩, ⟨_, h_i3⟩, trivial⟩, by simp only [keysNodup, outN, keys] <;> decide, rfl, rfl, ?_⟩
              intro hpre hlen
              obtain ⟨_, d_r_i0, d_r_i1, d_r_i2, d_r_i3, d_i0_i1, d_i0_i2, d_i0_i3, d_i1_i2, d_i1_i3, d_i2_i3, rfl, rfl, rfl, c_i0_0_0, c_i0_0_1, rfl, rfl, rfl, c_i3_0_0, c_i3_0_1, rfl, rfl, rfl, rfl, rfl, rfl, rfl, rfl, rfl, rfl, rfl, rfl⟩ := hpre
              refine ⟨⟨⟨_, h_r, by simp only [leE, leM, SC.ren, and_true, true_and, and_self] <;> first | rfl | (refine ⟨?_, ?_⟩ <;> rfl) | exact ⟨rfl, rfl, rfl⟩ | exact ⟨rfl, rfl, rfl, rfl⟩⟩, ⟨_, h_i0, rfl, rfl, rfl, row_of (by intro e j he hj; first | exact row_cells1 c_i0_0_0 c_i0_0_1 he hj)⟩, ⟨_, h_i1, by cases i1_e <;> trivial⟩, ⟨_, h_i2, by cases i2_e <;> trivial⟩, ⟨_, h_i3, rfl, rfl, rfl, row_of (by intro e j he hj; first | exact row_cells1 c_i3_0_0 c_i3_0_1 he hj)⟩, trivial⟩, ?_, ?_⟩
              · skip
                refine ⟨fun _ k2 e2 hm hne => ?_, ?_⟩
                · simp only [List.mem_cons, List.not_mem_nil, or_false, Prod.mk.injEq] at hm
                  rcases hm with ⟨rfl, _⟩ | ⟨rfl, _⟩ | ⟨rfl, _⟩ | ⟨rfl, _⟩ | ⟨rfl, _⟩
                  · exact absurd rfl hne
                  · exact fun hh => d_r_i0 (Eq.symm (show i0 = r from hh))
                  · exact fun hh => d_r_i1 (Eq.symm (show i1 = r from hh))
                  · exact fun hh => d_r_i2 (Eq.symm (show i2 = r from hh))
                  · exact fun hh => d_r_i3 (Eq.symm (show i3 = r from hh))
                refine ⟨fun _ k2 e2 hm hne => ?_, ?_⟩
                · simp only [List.mem_cons, List.not_mem_nil, or_false, Prod.mk.injEq] at hm
                  rcases hm with ⟨rfl, _⟩ | ⟨rfl, _⟩ | ⟨rfl, _⟩ | ⟨rfl, _⟩ | ⟨rfl, _⟩
                  · exact fun hh => d_r_i0 (show r = i0 from hh)
                  · exact absurd rfl hne
                  · exact fun hh => d_i0_i1 (Eq.symm (show i1 = i0 from hh))
                  · exact fun hh => d_i0_i2 (Eq.symm (show i2 = i0 from hh))
                  · exact fun hh => d_i0_i3 (Eq.symm (show i3 = i0 from hh))
                refine ⟨fun h => by (cases h), ?_⟩
                refine ⟨fun h => by (cases h), ?_⟩
                refine ⟨fun _ k2 e2 hm hne => ?_, ?_⟩
                · simp only [List.mem_cons, List.not_mem_nil, or_false, Prod.mk.injEq] at hm
                  rcases hm with ⟨rfl, _⟩ | ⟨rfl, _⟩ | ⟨rfl, _⟩ | ⟨rfl, _⟩ | ⟨rfl, _⟩
                  · exact fun hh => d_r_i3 (show r = i3 from hh)
                  · exact fun hh => d_i0_i3 (show i0 = i3 from hh)
                  · exact fun hh => d_i1_i3 (show i1 = i3 from hh)
                  · exact fun hh => d_i2_i3 (show i2 = i3 from hh)
                  · exact absurd rfl hne
                trivial
              simp (config := {maxSteps := 10000000}) only [x45, push_cast, Nat.reduceAdd, Nat.reduceSub, Nat.reduceLeDiff, Nat.reduceEqDiff, Nat.reduceBEq, Nat.reduceMul, Nat.reduceLT, reduceIte, reduceCtorEq, Int.reduceLE, Int.reduceLT, Int.reduceEq, Int.reduceMul, Int.reduceAdd, Int.reduceSub, Int.reduceNeg, Int.reduceToNat, Int.reduceNe]
              exact ⟨(push_eq (E := eC) (L := [⟨1, 1⟩]) (x := ⟨0, 0⟩) rfl).2, (push_eq (E := eC) (L := [⟨1, 0⟩]) (x := ⟨0, 1⟩) rfl).2⟩
            · cases hg_
          · cases hg_
        · cases hg_
      · cases hg_
    · cases hg_
  · cases hg_
theorem cok_or {P : Program} {f : Nat} {g h : Con} (hg : COk P f g) (hh : COk P f h) : COk P f (fun a e n => match g a e n with | some c => some c | none => h a e n) := by
  intro args E n ha hE
  have h1 := hg args E n ha hE
  have h2 := hh args E n ha hE
  simp only
  cases hc : g args E n with
  | none => exact h2
  | some c => rw [hc] at h1; exact h1
def g45 : Con := fun a e n => match g45j1 a e n with | some c => some c | none => (match g45j2 a e n with | some c => some c | none => (match g45j3 a e n with | some c => some c | none => g45j4 a e n))
theorem c45 : COk Try.prog 45 g45 := cok_or c45j1 (cok_or c45j2 (cok_or c45j3 c45j4))
/-- (wayfinder/tour.ring).block  -/
def g39 : Con := fun args_ E_ nn_ => match args_ with
  | [.c (.n r), .a [.v (.int .i64 c_X), .v (.int .i64 c_Y)]] => (match E_ r with
    | some (.mp []) => some (.e (True ∧ c_X = 0 ∧ c_Y = 0) (.t []) [(r, .mp [(0, 0, .n (nn_ + 0)), (1, 0, .n (nn_ + 1)), (1, 1, .n (nn_ + 2)), (0, 1, .n (nn_ + 3))]), ((nn_ + 0), .own 2 2 (rowF eC [⟨1, 0⟩, ⟨0, 1⟩]) 26), ((nn_ + 1), .own 2 2 (rowF eC [⟨0, 0⟩, ⟨1, 1⟩]) 26), ((nn_ + 2), .own 2 2 (rowF eC [⟨1, 0⟩, ⟨0, 1⟩]) 26), ((nn_ + 3), .own 2 2 (rowF eC [⟨1, 1⟩, ⟨0, 0⟩]) 26)] (nn_ + 4))
    | _ => none)
  | _ => none
theorem c39 : COk Try.prog 39 g39 := by
  refine cok_e Try.func39 x39_ok (by kernel_rfl) (cok_tab (cok_cons c45 cok_nil)) ?_
  intro args_ E_ nn_ cr_ hg_
  unfold g39 at hg_
  split at hg_
  · rename_i r c_X c_Y
    split at hg_
    · rename_i h_r
      cases hg_
      refine ⟨_, _, _, _, rfl, 1, [r], [.c (.n 0), .a [.v (.int .i64 c_X), .v (.int .i64 c_Y)]], [(0, .mp [])], .t [], [(0, .mp [(0, 0, .n 1), (1, 0, .n 2), (1, 1, .n 3), (0, 1, .n 4)]), (1, .own 2 2 (rowF eC [⟨1, 0⟩, ⟨0, 1⟩]) 26), (2, .own 2 2 (rowF eC [⟨0, 0⟩, ⟨1, 1⟩]) 26), (3, .own 2 2 (rowF eC [⟨1, 0⟩, ⟨0, 1⟩]) 26), (4, .own 2 2 (rowF eC [⟨1, 1⟩, ⟨0, 0⟩]) 26)], 5, rfl, rfl, by simp only [renE, Ent.ren, renM, rowF_renf] <;> rfl, rfl, by decide, by simp only [push_cast, Nat.reduceLT, Nat.reduceAdd], by simp only [push_cast, Nat.reduceLT, Nat.reduceAdd], by simp only [push_cast, Nat.reduceLT, Nat.reduceAdd], by simp only [push_cast, Nat.reduceLT, Nat.reduceAdd], rfl, ⟨⟨_, h_r⟩, trivial⟩, by simp only [keysNodup, outN, keys] <;> decide, rfl, rfl, ?_⟩
      intro hpre hlen
      obtain ⟨_, rfl, rfl⟩ := hpre
      refine ⟨⟨⟨_, h_r, by simp only [leE, leM, SC.ren, and_true, true_and, and_self] <;> first | rfl | (refine ⟨?_, ?_⟩ <;> rfl) | exact ⟨rfl, rfl, rfl⟩ | exact ⟨rfl, rfl, rfl, rfl⟩⟩, trivial⟩, ?_, ?_⟩
      · skip
        refine ⟨fun _ k2 e2 hm hne => ?_, ?_⟩
        · simp only [List.mem_cons, List.not_mem_nil, or_false, Prod.mk.injEq] at hm
          obtain ⟨rfl, _⟩ := hm
          exact absurd rfl hne
        trivial
      simp (config := {maxSteps := 10000000}) only [x39, push_cast, Nat.reduceAdd, Nat.reduceSub, Nat.reduceLeDiff, Nat.reduceEqDiff, Nat.reduceBEq, Nat.reduceMul, Nat.reduceLT, reduceIte, reduceCtorEq, Int.reduceLE, Int.reduceLT, Int.reduceEq, Int.reduceMul, Int.reduceAdd, Int.reduceSub, Int.reduceNeg, Int.reduceToNat, Int.reduceNe, g45, g45j1, g45j2, g45j3, g45j4]
      exact ⟨by rfl, by rfl⟩
    · cases hg_
  · cases hg_
end Go.Proofs.Ytnkkhmeojifckaa
set_option linter.unusedVariables false
set_option linter.unusedSimpArgs false
set_option maxRecDepth 20000
namespace Go.Proofs.Ytnkkhmeojifckaa
open Go.Sx
def blkB (W H : Int) (L : List Int) : Bool := decide ((W % 2 = 0 ∧ H % 2 = 0) ∧ ∀ y, y < H.toNat → ∀ x, x < W.toNat → frB W H L x y = frB W H L ((x : Int) - (x : Int) % 2) ((y : Int) - (y : Int) % 2))
theorem andn1 {x : Nat} (h : x < 64) : bitI .andNot .i64 (x : Int) 1 = (x : Int) - (x : Int) % 2 := by
  have key : ∀ x : Fin 64, bitI .andNot .i64 ((x : Nat) : Int) 1 = ((x : Nat) : Int) - ((x : Nat) : Int) % 2 := by decide +kernel
  exact key ⟨x, h⟩
theorem blk_bad {W H : Int} {L : List Int} {x y : Nat} (hy : y < H.toNat) (hx : x < W.toNat) (h : frB W H L x y ≠ frB W H L ((x : Int) - (x : Int) % 2) ((y : Int) - (y : Int) % 2)) : blkB W H L = false := by
  unfold blkB
  rw [decide_eq_false_iff_not]
  rintro ⟨_, g⟩
  exact h (g y hy x hx)
def x37L0 : XC := (.seq (.reg false [O2 23 (.bin .lss) 22 21]) (.seq (.cond (.t 23) .skip (.exit 2)) (.seq (.block 3 (.seq (.reg false [O1 24 .mv 22, O1 4 .mv 24]) (.seq (.reg true [O1 25 (.loadN 3) 1, O1 26 .mv 4, O1 27 .mv 3, ⟨(some 28), (.build [(iV 0), (iV 0)] [(0, 1), (1, 1)]), [(.t 26), (.t 27)], none⟩, O2 29 (.call 34) 25 28, O1 30 (.loadN 3) 1, O1 31 .mv 4, K2 32 (.bin .andNot) 31 (iV 1), O1 33 .mv 3, K2 34 (.bin .andNot) 33 (iV 1), ⟨(some 35), (.build [(iV 0), (iV 0)] [(0, 1), (1, 1)]), [(.t 32), (.t 34)], none⟩, O2 36 (.call 34) 30 35, O2 37 (.binb .neq) 29 36]) (.cond (.t 37) (.seq (.reg false [K1 2 .mv (.bool false)]) .ret) .skip)))) (.reg false [K2 38 (.bin .add) 22 (iV 1), O1 22 .mv 38]))))
def x37L1 : XC := (.seq (.reg false [O2 18 (.bin .lss) 17 16]) (.seq (.cond (.t 18) .skip (.exit 0)) (.seq (.block 1 (.seq (.reg false [O1 19 .mv 17, O1 3 .mv 19]) (.seq (.reg false [O1 20 (.fld 0) 1, O1 21 .load1 20, K1 22 .mv (iV 0)]) (.block 2 (.loop x37L0))))) (.reg false [K2 39 (.bin .add) 17 (iV 1), O1 17 .mv 39]))))
def x37 : XFn := ⟨40, (.seq (.reg false [O1 1 (.box 24) 0, K1 2 .mv (.bool false)]) (.seq (.seq (.reg false [O1 5 (.fld 0) 1, O1 6 .load1 5, K2 7 (.bin .rem) 6 (iV 2), K2 8 (.bin .neq) 7 (iV 0), O1 9 .mv 8, G1 10 (.fld 1) 1 9 false, G1 11 .load1 10 9 false, GK 12 (.bin .rem) 11 (iV 2) 9 false, GK 13 (.bin .neq) 12 (iV 0) 9 false, ⟨(some 14), .pick, [(.t 9), (.k (.bool true)), (.t 13)], none⟩]) (.cond (.t 14) (.seq (.reg false [K1 2 .mv (.bool false)]) .ret) .skip)) (.seq (.seq (.reg false [O1 15 (.fld 1) 1, O1 16 .load1 15, K1 17 .mv (iV 0)]) (.block 0 (.loop x37L1))) (.seq (.reg false [K1 2 .mv (.bool true)]) .ret)))), [(.s 2)]⟩
theorem x37_ok : xfn Try.prog Try.f37 = some x37.er := by kernel_rfl
def x20L0 : XC := (.seq (.seq (.reg false [O1 28 (.fld 2) 1, O1 29 .load1 28, O1 30 .mv 5, O2 31 (.ixS 1) 29 30, O1 32 .load1 31, K2 33 (.bin .neq) 32 (.int .u8 1)]) (.cond (.t 33) .skip (.exit 1))) (.block 2 (.reg false [O1 34 .mv 5, K2 35 (.bin .add) 34 (iV 1), O1 5 .mv 35])))
def x20L1 : XC := (.seq (.reg false [K2 85 (.bin .lss) 84 (iV 4)]) (.seq (.cond (.t 85) .skip (.exit 5)) (.seq (.block 6 (.seq (.reg false [O2 86 (.ixN 4 2) 83 84, ⟨(some 11), (.alloc 26 [(iV 0), (iV 0)]), [], none⟩, ⟨none, (.store 2), [(.t 11), (.t 86)], none⟩]) (.seq (.seq (.reg false [O1 87 (.loadN 3) 1, O1 88 (.loadN 2) 11, O2 89 (.call 34) 87 88, O1 90 (.un .not) 89, O1 91 .mv 90, G1 92 .mv 7 91 false, G1 93 (.loadN 2) 11 91 false, ⟨(some 94), (.x (.lookM (.slice none 0 0))), [(.t 92), (.t 93)], (some (91, false))⟩, G1 95 (.isnil true) 94 91 false, ⟨(some 96), .pick, [(.t 91), (.k (.bool true)), (.t 95)], none⟩]) (.cond (.t 96) (.exit 6) .skip)) (.seq (.reg false [O1 97 .mv 7, O1 98 (.loadN 2) 11, O2 99 (.call 39) 97 98]) (.seq (.seq (.reg false [O1 100 (.fld 0) 11, O1 101 .load1 100, O1 102 (.fld 0) 9, O1 103 .load1 102, O2 104 (.bin .gtr) 101 103, O1 105 .mv 104, G1 106 (.fld 1) 11 105 false, G1 107 .load1 106 105 false, G1 108 (.fld 1) 9 105 false, G1 109 .load1 108 105 false, G2 110 (.bin .gtr) 107 109 105 false, ⟨(some 111), .pick, [(.t 105), (.k (.bool true)), (.t 110)], none⟩]) (.cond (.t 111) (.reg false [O1 112 .mv 7, O1 113 (.loadN 2) 9, O1 114 (.loadN 2) 11, ⟨(some 115), (.call 40), [(.t 112), (.t 113), (.t 114)], none⟩]) (.reg false [O1 116 .mv 7, O1 117 (.loadN 2) 11, O1 118 (.loadN 2) 9, ⟨(some 119), (.call 40), [(.t 116), (.t 117), (.t 118)], none⟩]))) (.reg false [O1 120 .mv 8, O1 121 (.loadN 2) 11, ⟨(some 122), (.slit 26 1 2 [(iV 0), (iV 0)] [(0, 2)]), [(.t 121)], none⟩, O2 123 (.app 26 2 16) 120 122, O1 8 .mv 123])))))) (.reg false [K2 124 (.bin .add) 84 (iV 1), O1 84 .mv 124]))))
def x20L2 : XC := (.seq (.seq (.reg false [O1 51 .mv 8, O1 52 .lenS 51, K2 53 (.bin .gtr) 52 (iV 0)]) (.cond (.t 53) .skip (.exit 3))) (.seq (.block 4 (.seq (.reg false [O1 56 .mv 8, K2 57 (.ixS 2) 56 (iV 0), O1 58 (.loadN 2) 57, ⟨(some 9), (.alloc 26 [(iV 0), (iV 0)]), [], none⟩, ⟨none, (.store 2), [(.t 9), (.t 58)], none⟩]) (.seq (.reg false [O1 59 (.fld 0) 9, O1 60 .load1 59, K2 61 (.bin .add) 60 (iV 2), O1 62 (.fld 1) 9, O1 63 .load1 62, ⟨(some 64), (.build [(iV 0), (iV 0)] [(0, 1), (1, 1)]), [(.t 61), (.t 63)], none⟩, O1 65 (.fld 0) 9, O1 66 .load1 65, O1 67 (.fld 1) 9, O1 68 .load1 67, K2 69 (.bin .add) 68 (iV 2), ⟨(some 70), (.build [(iV 0), (iV 0)] [(0, 1), (1, 1)]), [(.t 66), (.t 69)], none⟩, O1 71 (.fld 0) 9, O1 72 .load1 71, K2 73 (.bin .sub) 72 (iV 2), O1 74 (.fld 1) 9, O1 75 .load1 74, ⟨(some 76), (.build [(iV 0), (iV 0)] [(0, 1), (1, 1)]), [(.t 73), (.t 75)], none⟩, O1 77 (.fld 0) 9, O1 78 .load1 77, O1 79 (.fld 1) 9, O1 80 .load1 79, K2 81 (.bin .sub) 80 (iV 2), ⟨(some 82), (.build [(iV 0), (iV 0)] [(0, 1), (1, 1)]), [(.t 78), (.t 81)], none⟩, ⟨(some 83), (.build [(iV 0), (iV 0), (iV 0), (iV 0), (iV 0), (iV 0), (iV 0), (iV 0)] [(0, 2), (2, 2), (4, 2), (6, 2)]), [(.t 64), (.t 70), (.t 76), (.t 82)], none⟩, K1 84 .mv (iV 0)]) (.block 5 (.loop x20L1))))) (.reg false [O1 54 .mv 8, K2 55 (.slc 2 true false false) 54 (iV 1), O1 8 .mv 55])))
def x20L3 : XC := (.seq (.seq (.reg false [O1 137 (.loadN 2) 14, O1 138 (.loadN 2) 6, ⟨(some 139), (.eqA true [(.i .i64), (.i .i64)]), [(.t 137), (.t 138)], none⟩]) (.cond (.t 139) .skip (.exit 7))) (.block 8 (.seq (.reg false [O1 140 .mv 12, O1 141 (.loadN 2) 14, ⟨(some 142), (.slit 26 1 2 [(iV 0), (iV 0)] [(0, 2)]), [(.t 141)], none⟩, O2 143 (.app 26 2 16) 140 142, O1 12 .mv 143]) (.seq (.reg false [O1 144 .mv 7, O1 145 (.loadN 2) 14, ⟨(some 146), (.x (.lookM (.slice none 0 0))), [(.t 144), (.t 145)], none⟩, K2 147 (.ixS 2) 146 (iV 0), O1 148 (.loadN 2) 147, ⟨(some 15), (.alloc 26 [(iV 0), (iV 0)]), [], none⟩, ⟨none, (.store 2), [(.t 15), (.t 148)], none⟩]) (.seq (.seq (.reg false [O1 149 (.loadN 2) 15, O1 150 (.loadN 2) 13, ⟨(some 151), (.eqA false [(.i .i64), (.i .i64)]), [(.t 149), (.t 150)], none⟩]) (.cond (.t 151) (.reg false [O1 152 .mv 7, O1 153 (.loadN 2) 14, ⟨(some 154), (.x (.lookM (.slice none 0 0))), [(.t 152), (.t 153)], none⟩, K2 155 (.ixS 2) 154 (iV 1), O1 156 (.loadN 2) 155, ⟨none, (.store 2), [(.t 15), (.t 156)], none⟩]) .skip)) (.regD [O1 157 (.loadN 2) 14, O1 158 (.loadN 2) 15, ⟨none, (.store 2), [(.t 13), (.t 157)], none⟩, ⟨none, (.store 2), [(.t 14), (.t 158)], none⟩] [[], [], [0], [1, 2, 0]]))))))
def x20 : XFn := ⟨160, (.seq (.reg false [O1 1 (.box 24) 0, K1 2 .mv (.slice none 0 0), K1 3 .mv (iV 0)]) (.seq (.block 0 (.seq (.reg false [O1 17 (.loadN 3) 1, O1 18 (.call 33) 17, O1 19 (.un .not) 18, O1 16 .mv 19]) (.cond (.t 16) (.seq (.reg false [K1 2 .mv (.slice none 0 0), K1 3 .mv (iV 1)]) .ret) (.seq (.reg false [O1 21 (.loadN 3) 1, O1 22 (.call 37) 21, O1 23 (.un .not) 22, O1 20 .mv 23]) (.cond (.t 20) (.seq (.reg false [K1 2 .mv (.slice none 0 0), K1 3 .mv (iV 3)]) .ret) .skip))))) (.seq (.reg false [O1 24 (.loadN 3) 1, K2 25 (.call 38) 24 (.int .u8 1), O1 4 .mv 25]) (.seq (.seq (.reg false [O1 26 .mv 4, K2 27 (.bin .eql) 26 (iV 0)]) (.cond (.t 27) (.seq (.reg false [K1 2 .mv (.slice none 0 0), K1 3 .mv (iV 9)]) .ret) .skip)) (.seq (.reg false [K1 5 .mv (iV 0)]) (.seq (.block 1 (.loop x20L0)) (.seq (.regD [O1 36 .mv 5, O1 37 (.fld 0) 1, O1 38 .load1 37, O2 39 (.bin .rem) 36 38, O1 40 .mv 5, O1 41 (.fld 0) 1, O1 42 .load1 41, O2 43 (.bin .quo) 40 42, ⟨(some 44), (.build [(iV 0), (iV 0)] [(0, 1), (1, 1)]), [(.t 39), (.t 43)], none⟩, ⟨(some 6), (.alloc 26 [(iV 0), (iV 0)]), [], none⟩, ⟨none, (.store 2), [(.t 6), (.t 44)], none⟩] [[], [], [1], [0, 2, 1], [], [], [5], [4, 6, 5], [3, 0, 2, 1, 7, 4, 6, 5], [], [9, 8, 3, 0, 2, 1, 7, 4, 6, 5]]) (.seq (.reg false [⟨(some 45), .mkm, [], none⟩, O1 7 .mv 45]) (.seq (.reg false [O1 46 .mv 7, O1 47 (.loadN 2) 6, O2 48 (.call 39) 46 47]) (.seq (.seq (.reg false [O1 49 (.loadN 2) 6, ⟨(some 50), (.slit 26 1 2 [(iV 0), (iV 0)] [(0, 2)]), [(.t 49)], none⟩, O1 8 .mv 50]) (.block 3 (.loop x20L2))) (.seq (.seq (.reg false [O1 125 .mv 7, O1 126 (.x .lenM) 125, O1 127 .mv 4, O2 128 (.bin .neq) 126 127]) (.cond (.t 128) (.seq (.reg false [K1 2 .mv (.slice none 0 0), K1 3 .mv (iV 9)]) .ret) .skip)) (.seq (.reg false [O1 129 (.loadN 2) 6, ⟨(some 130), (.slit 26 1 2 [(iV 0), (iV 0)] [(0, 2)]), [(.t 129)], none⟩, O1 12 .mv 130]) (.seq (.regD [O1 131 (.loadN 2) 6, O1 132 .mv 7, O1 133 (.loadN 2) 6, ⟨(some 134), (.x (.lookM (.slice none 0 0))), [(.t 132), (.t 133)], none⟩, K2 135 (.ixS 2) 134 (iV 0), O1 136 (.loadN 2) 135, ⟨(some 13), (.alloc 26 [(iV 0), (iV 0)]), [], none⟩, ⟨(some 14), (.alloc 26 [(iV 0), (iV 0)]), [], none⟩, ⟨none, (.store 2), [(.t 13), (.t 131)], none⟩, ⟨none, (.store 2), [(.t 14), (.t 136)], none⟩] [[], [], [], [1, 2], [3, 1, 2], [4, 3, 1, 2], [], [], [6, 0, 7], [7, 5, 4, 3, 1, 2, 8, 6, 0]]) (.seq (.block 7 (.loop x20L3)) (.seq (.reg false [O1 159 .mv 12, O1 2 .mv 159, K1 3 .mv (iV 0)]) .ret))))))))))))))), [(.s 2), (.s 3)]⟩
theorem x20_ok : xfn Try.prog Try.f20 = some x20.er := by kernel_rfl
def x11 : XFn := ⟨62, (.seq (.reg false [K1 0 .mv (.bool false)]) (.seq (.reg false [⟨(some 10), (.slit 5 4 1 [(.int .u8 0), (.int .u8 0), (.int .u8 0), (.int .u8 0)] [(0, 1), (1, 1), (2, 1), (3, 1)]), [(.k (.int .u8 1)), (.k (.int .u8 1)), (.k (.int .u8 1)), (.k (.int .u8 1))], none⟩, ⟨(some 11), (.build [(iV 0), (iV 0), (.slice none 0 0)] [(0, 1), (1, 1), (2, 1)]), [(.k (iV 2)), (.k (iV 2)), (.t 10)], none⟩, ⟨(some 1), (.alloc 24 [(iV 0), (iV 0), (.slice none 0 0)]), [], none⟩, ⟨none, (.store 3), [(.t 1), (.t 11)], none⟩]) (.seq (.reg false [O1 13 (.loadN 3) 1, ⟨(some 14), (.build [(iV 0), (iV 0)] []), [], none⟩, O2 15 (.call 13) 13 14, O1 12 .mv 15, O1 16 (.ext 0) 12, O1 17 (.ext 1) 12, O1 2 .mv 16, O1 3 .mv 17]) (.seq (.reg false [O1 19 (.loadN 3) 1, O1 20 (.call 20) 19, O1 18 .mv 20, O1 21 (.ext 0) 18, O1 22 (.ext 1) 18, O1 4 .mv 21, O1 5 .mv 22]) (.seq (.reg false [O1 24 (.loadN 3) 1, O1 25 .mv 2, O2 26 (.call 27) 24 25, O1 23 .mv 26, O1 27 (.ext 0) 23, O1 28 (.ext 1) 23, O1 6 .mv 27, O1 7 .mv 28]) (.seq (.reg false [O1 30 (.loadN 3) 1, O1 31 (.call 29) 30, O1 29 .mv 31, O1 32 (.ext 0) 29, O1 33 (.ext 1) 29, O1 8 .mv 32, O1 9 .mv 33]) (.seq (.reg false [O1 34 .mv 3, K2 35 (.bin .eql) 34 (iV 0), O1 36 .mv 35, G1 37 .mv 5 36 true, GK 38 (.bin .eql) 37 (iV 0) 36 true, ⟨(some 39), .pick, [(.t 36), (.t 38), (.k (.bool false))], none⟩, O1 40 .mv 39, G1 41 .mv 4 40 true, G1 42 .lenS 41 40 true, GK 43 (.bin .eql) 42 (iV 4) 40 true, ⟨(some 44), .pick, [(.t 40), (.t 43), (.k (.bool false))], none⟩, O1 45 .mv 44, G1 46 .mv 7 45 true, GK 47 (.bin .eql) 46 (iV 0) 45 true, ⟨(some 48), .pick, [(.t 45), (.t 47), (.k (.bool false))], none⟩, O1 49 .mv 48, G1 50 .mv 6 49 true, GK 51 (.bin .eql) 50 (iV 4) 49 true, ⟨(some 52), .pick, [(.t 49), (.t 51), (.k (.bool false))], none⟩, O1 53 .mv 52, G1 54 .mv 9 53 true, GK 55 (.bin .eql) 54 (iV 0) 53 true, ⟨(some 56), .pick, [(.t 53), (.t 55), (.k (.bool false))], none⟩, O1 57 .mv 56, G1 58 .mv 8 57 true, G1 59 .lenS 58 57 true, GK 60 (.bin .eql) 59 (iV 2) 57 true, ⟨(some 61), .pick, [(.t 57), (.t 60), (.k (.bool false))], none⟩, O1 0 .mv 61]) .ret))))))), [(.s 0)]⟩
theorem x11_ok : xfn Try.prog Try.f11 = some x11.er := by kernel_rfl
/-- wayfinder/tour.blocks -/
def g37 : Con := fun args_ E_ nn_ => match args_ with
  | [.a [.v (.int .i64 p_W), .v (.int .i64 p_H), .n p_Cells]] => (match rowOf E_ p_Cells with
    | some (p_Cells_n, p_Cells_s, p_Cells_f) => some (.q (isRow eU8 p_Cells_n p_Cells_s p_Cells_f ∧ planB p_W p_H (decL eU8 p_Cells_n p_Cells_f) = true) (.o (.c (.v (.bool (blkB p_W p_H (decL eU8 p_Cells_n p_Cells_f)))))))
    | none => none)
  | _ => none
theorem c37 : COk Try.prog 37 g37 := by
  refine cok_q Try.func37 x37_ok (by kernel_rfl) (cok_tab (cok_cons c34 cok_nil)) ?_
  intro args_ E_ nn_ cr_ hg_
  unfold g37 at hg_
  split at hg_
  · rename_i p_W p_H p_Cells
    split at hg_
    · rename_i p_Cells_n p_Cells_s p_Cells_f h_p_Cells
      cases hg_
      refine ⟨_, _, rfl, 1, [p_Cells], [.a [.v (.int .i64 p_W), .v (.int .i64 p_H), .n 0]], [(0, .ro (decL eU8 p_Cells_n p_Cells_f).length eU8.sz (rowF eU8 (decL eU8 p_Cells_n p_Cells_f)))], .o (.c (.v (.bool (blkB p_W p_H (decL eU8 p_Cells_n p_Cells_f))))), rfl, rfl, by simp only [push_cast, Nat.reduceLT, Nat.reduceAdd], by simp only [push_cast, Nat.reduceLT, Nat.reduceAdd], by simp only [push_cast, Nat.reduceLT, Nat.reduceAdd], rfl, ⟨inE0_row h_p_Cells, trivial⟩, rfl, ?_⟩
      intro hpre hlen
      obtain ⟨i_p_Cells, hpre⟩ := hpre
      refine ⟨⟨inE_row h_p_Cells i_p_Cells, trivial⟩, ?_⟩
      have z_p_Cells := lens_row (E := eU8) hlen h_p_Cells
      clear i_p_Cells
      generalize decL eU8 p_Cells_n p_Cells_f = p_CellsL at *
      clear h_p_Cells
      simp (config := {maxSteps := 10000000}) only [x37, push_cast, Nat.reduceAdd, Nat.reduceSub, Nat.reduceLeDiff, Nat.reduceEqDiff, Nat.reduceBEq, Nat.reduceMul, Nat.reduceLT, reduceIte, reduceCtorEq, Int.reduceLE, Int.reduceLT, Int.reduceEq, Int.reduceMul, Int.reduceAdd, Int.reduceSub, Int.reduceNeg, Int.reduceToNat, Int.reduceNe, g34]
      have pp := planB_at hpre
      rw [Int.tmod_eq_emod_of_nonneg (by omega), Int.tmod_eq_emod_of_nonneg (by omega)]
      refine ⟨fun h => ?_, fun h1 h2 => ?_⟩
      · unfold blkB; rw [decide_eq_false (by omega)]
      refine vcLoop_upd (α := {j : Nat // (j : Int) ≤ p_H ∧ ∀ y, y < j → ∀ x, x < p_W.toNat → frB p_W p_H p_CellsL x y = frB p_W p_H p_CellsL ((x : Int) - (x : Int) % 2) ((y : Int) - (y : Int) % 2)}) [1, 16] 0 (fun s => [(17, .o (.c (.v (.int .i64 (s.1 : Nat)))))]) (fun s => []) (fun s => p_H.toNat - s.1) ⟨0, by omega, fun y hy => by omega⟩ ?_ ?_
      · simp only [push_cast, Nat.reduceAdd, Nat.reduceSub, Nat.reduceLeDiff, Nat.reduceEqDiff, Nat.reduceBEq, Nat.reduceMul, Nat.reduceLT, reduceIte, reduceCtorEq, Int.reduceLE, Int.reduceLT, Int.reduceEq, Int.reduceMul, Int.reduceAdd, Int.reduceSub, Int.reduceNeg, Int.reduceToNat, Int.reduceNe, g34]
      rintro ⟨j, hj, hrow⟩
      simp only [x37L1, push_cast, Nat.reduceAdd, Nat.reduceSub, Nat.reduceLeDiff, Nat.reduceEqDiff, Nat.reduceBEq, Nat.reduceMul, Nat.reduceLT, reduceIte, reduceCtorEq, Int.reduceLE, Int.reduceLT, Int.reduceEq, Int.reduceMul, Int.reduceAdd, Int.reduceSub, Int.reduceNeg, Int.reduceToNat, Int.reduceNe, g34]
      refine ⟨fun hlt => ?_, fun hge => ?_⟩
      · refine vcLoop_upd (α := {k : Nat // (k : Int) ≤ p_W ∧ ∀ x, x < k → frB p_W p_H p_CellsL x j = frB p_W p_H p_CellsL ((x : Int) - (x : Int) % 2) ((j : Int) - (j : Int) % 2)}) [1, 3, 16, 17, 21] 0 (fun s => [(22, .o (.c (.v (.int .i64 (s.1 : Nat)))))]) (fun s => []) (fun s => p_W.toNat - s.1) ⟨0, by omega, fun y hy => by omega⟩ ?_ ?_
        · simp only [push_cast, Nat.reduceAdd, Nat.reduceSub, Nat.reduceLeDiff, Nat.reduceEqDiff, Nat.reduceBEq, Nat.reduceMul, Nat.reduceLT, reduceIte, reduceCtorEq, Int.reduceLE, Int.reduceLT, Int.reduceEq, Int.reduceMul, Int.reduceAdd, Int.reduceSub, Int.reduceNeg, Int.reduceToNat, Int.reduceNe, g34]
        rintro ⟨k, hk, hcol⟩
        simp only [x37L0, push_cast, Nat.reduceAdd, Nat.reduceSub, Nat.reduceLeDiff, Nat.reduceEqDiff, Nat.reduceBEq, Nat.reduceMul, Nat.reduceLT, reduceIte, reduceCtorEq, Int.reduceLE, Int.reduceLT, Int.reduceEq, Int.reduceMul, Int.reduceAdd, Int.reduceSub, Int.reduceNeg, Int.reduceToNat, Int.reduceNe, g34]
        refine ⟨fun hlt2 => ?_, fun hge => ⟨⟨j + 1, by omega, fun y hy x hx => ?_⟩, wrapI (by omega) (by omega), by simp only; omega⟩⟩
        · rw [andn1 (by omega), andn1 (by omega)]
          exact ⟨hpre, hpre, fun e => (blk_bad (by omega) (by omega) e).symm, fun e => ⟨⟨k + 1, by omega, fun x hx => by
            by_cases q : x = k
            · subst q; exact e
            · exact hcol x (by omega)⟩, wrapI (by omega) (by omega), by simp only; omega⟩⟩
        · by_cases q : y = j
          · subst q; exact hcol x (by omega)
          · exact hrow y (by omega) x hx
      · unfold blkB
        rw [decide_eq_true ⟨⟨h1, h2⟩, fun y hy x hx => hrow y (by omega) x hx⟩]
    · cases hg_
  · cases hg_
end Go.Proofs.Ytnkkhmeojifckaa
