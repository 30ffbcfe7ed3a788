/- A part of the proof of a statement about this seat: how a function is stepped through, and plain laws. No conditions. -/
import Derived.Test.YtkpdofgmmpbknaaGreatRows
import Derived.Test.YtkpdofgmmpbknaaGreatWJSz4
import Derived.Test.YtkpdofgmmpbknaaGreatWJJ5
import Derived.KernelRfl
set_option linter.unusedVariables false
set_option linter.unusedSimpArgs false
set_option maxRecDepth 20000
namespace Go.Proofs.YtkpdofgmmpbknaaGreat
open Go.Sx Go.Way
instance : DecidableEq EvtL := fun a b => by
  obtain ⟨a1, a2, a3, a4, a5⟩ := a
  obtain ⟨b1, b2, b3, b4, b5⟩ := b
  exact decidable_of_iff (a1 = b1 ∧ a2 = b2 ∧ a3 = b3 ∧ a4 = b4 ∧ a5 = b5) (by simp)
def x16 : XFn := ⟨31, (.seq (.reg false [O1 2 (.box 48) 0, O1 3 (.box 48) 1, K1 4 .mv (.bool false)]) (.seq (.reg false [O1 5 (.fld 0) 2, O1 6 .load1 5, O1 7 (.fld 0) 3, O1 8 .load1 7, O2 9 (.bin .eql) 6 8, O1 10 .mv 9, G1 11 (.fld 1) 2 10 true, G1 12 (.loadN 2) 11 10 true, G1 13 (.fld 1) 3 10 true, G1 14 (.loadN 2) 13 10 true, ⟨(some 15), (.eqA false [(.i .i64), (.i .i64)]), [(.t 12), (.t 14)], (some (10, true))⟩, ⟨(some 16), .pick, [(.t 10), (.t 15), (.k (.bool false))], none⟩, O1 17 .mv 16, G1 18 (.fld 3) 2 17 true, G1 19 .load1 18 17 true, G1 20 (.fld 3) 3 17 true, G1 21 .load1 20 17 true, G2 22 (.binb .eql) 19 21 17 true, ⟨(some 23), .pick, [(.t 17), (.t 22), (.k (.bool false))], none⟩, O1 24 .mv 23, G1 25 (.fld 4) 2 24 true, G1 26 .load1 25 24 true, G1 27 (.fld 4) 3 24 true, G1 28 .load1 27 24 true, G2 29 (.call 32) 26 28 24 true, ⟨(some 30), .pick, [(.t 24), (.t 29), (.k (.bool false))], none⟩, O1 4 .mv 30]) .ret)), [(.s 4)]⟩
theorem x16_ok : xfn Tryz.prog Tryz.f16 = some x16.er := by kernel_rfl
def x13L0 : XC := (.seq (.seq (.reg false [O1 11 .mv 5, O1 12 .mv 0, O1 13 .lenS 12, O2 14 (.bin .lss) 11 13]) (.cond (.t 14) .skip (.exit 0))) (.seq (.opn 1 5 4 (.opn 0 5 4 (.block 1 (.seq (.reg true [O1 17 .mv 0, O1 18 .mv 5, O2 19 (.ixS 5) 17 18, O1 20 (.loadN 5) 19, O1 21 .mv 1, O1 22 .mv 5, O2 23 (.ixS 5) 21 22, O1 24 (.loadN 5) 23, O2 25 (.call 16) 20 24, O1 26 (.un .not) 25]) (.cond (.t 26) (.seq (.reg false [K1 4 .mv (.bool false)]) .ret) .skip))))) (.reg false [O1 15 .mv 5, K2 16 (.bin .add) 15 (iV 1), O1 5 .mv 16])))
def x13 : XFn := ⟨27, (.seq (.reg false [K1 4 .mv (.bool false)]) (.seq (.seq (.reg false [O1 6 .mv 0, O1 7 .lenS 6, O1 8 .mv 1, O1 9 .lenS 8, O2 10 (.bin .neq) 7 9]) (.cond (.t 10) (.seq (.reg false [K1 4 .mv (.bool false)]) .ret) .skip)) (.seq (.seq (.reg false [K1 5 .mv (iV 0)]) (.block 0 (.loop x13L0))) (.seq (.reg false [K1 4 .mv (.bool true)]) .ret)))), [(.s 4)]⟩
theorem x13_ok : xfn Tryz.prog Tryz.f13 = some x13.er := by kernel_rfl
def x18 : XFn := ⟨10, (.seq (.reg false [K1 4 .mv (.bool false)]) (.seq (.reg false [O1 5 .mv 0, O1 6 (.x .str) 5, O1 7 .mv 1, O1 8 (.x .str) 7, ⟨(some 9), (.x (.sbin .eql)), [(.t 6), (.t 8)], none⟩, O1 4 .mv 9]) .ret)), [(.s 4)]⟩
theorem x18_ok : xfn Tryz.prog Tryz.f18 = some x18.er := by kernel_rfl
def g32 : Con := fun args_ E_ nn_ => match args_ with
  | [.c (.n a), .c (.n b)] => (match rowOf E_ a with
    | some (a_n, a_s, a_f) => (match rowOf E_ b with
    | some (b_n, b_s, b_f) => some (.q (isRow eC a_n a_s a_f ∧ isRow eC b_n b_s b_f ∧ True) (.o (.c (.v (.bool (decide ((decL eC a_n a_f) = (decL eC b_n b_f))))))))
    | none => none)
    | none => none)
  | _ => none
theorem c32 : COk Tryz.prog 32 g32 := by
  refine cok_q Tryz.func32 x32_ok (by kernel_rfl) (cok_tab cok_nil) ?_
  intro args_ E_ nn_ cr_ hg_
  unfold g32 at hg_
  split at hg_
  · rename_i a b
    split at hg_
    · rename_i a_n a_s a_f h_a
      split at hg_
      · rename_i b_n b_s b_f h_b
        cases hg_
        refine ⟨_, _, rfl, 2, [a, b], [.c (.n 0), .c (.n 1)], [(0, .ro (decL eC a_n a_f).length eC.sz (rowF eC (decL eC a_n a_f))), (1, .ro (decL eC b_n b_f).length eC.sz (rowF eC (decL eC b_n b_f)))], .o (.c (.v (.bool (decide ((decL eC a_n a_f) = (decL eC b_n b_f)))))), rfl, rfl, and3 (by simp only [push_cast, Nat.reduceLT, Nat.reduceAdd]) ⟨rfl, ⟨inE0_row h_a, inE0_row h_b, trivial⟩, rfl, ?_⟩⟩
        intro hpre hlen
        obtain ⟨i_a, hpre⟩ := hpre
        obtain ⟨i_b, hpre⟩ := hpre
        refine ⟨⟨inE_row h_a i_a, inE_row h_b i_b, trivial⟩, ?_⟩
        have z_a := lens_row (E := eC) hlen h_a
        have z_b := lens_row (E := eC) hlen h_b
        clear i_a
        generalize decL eC a_n a_f = aL at *
        clear i_b
        generalize decL eC b_n b_f = bL at *
        clear h_a
        clear h_b
        simp (maxSteps := 9999999) only [x32, push_cast, simprocAttr]
        refine ⟨fun h => ?_, fun h => ?_⟩
        · symm; rw [decide_eq_false_iff_not]; intro e; exact h (by rw [e])
        refine vcLoop_upd (α := {k : Nat // k ≤ aL.length ∧ ∀ i, i < k → aL.getD i eC.dflt = bL.getD i eC.dflt}) [0, 1] 0 (fun s => [(5, .o (.c (.v (.int .i64 (s.1 : Nat)))))]) (fun s => []) (fun s => aL.length - s.1) ⟨0, by omega, fun i hi => by omega⟩ ?_ ?_
        · simp only [push_cast, simprocAttr]
        · rintro ⟨k, hk, hall⟩
          simp only [x32L0, push_cast, simprocAttr]
          refine ⟨fun hlt => ⟨hlt, hlt, by omega, by omega, fun hne => ?_, fun hx hy => ⟨⟨k + 1, by omega, fun i hi => ?_⟩, ?_, by simp only; omega⟩⟩, fun hge => ?_⟩
          · symm; rw [decide_eq_false_iff_not]; intro e; rw [e] at hne; simp at hne
          · by_cases hik : i = k
            · subst hik; rw [← decide_eq_true_eq (p := aL.getD i eC.dflt = bL.getD i eC.dflt), ← cc_eq, hx, hy]; simp
            · exact hall i (by omega)
          · rw [wrapI (by omega) (by omega)]; rfl
          · symm; rw [decide_eq_true_eq]; exact getD_ext eC.dflt (by omega) (fun i hi => hall i (by omega))
      · cases hg_
    · cases hg_
  · cases hg_
def g16 : Con := fun args_ E_ nn_ => match args_ with
  | [.a [.v (.int .i64 a_Tick), .v (.int .i64 a_Command_Turn), .v (.int .i64 a_Command_Forward), .v (.bool a_Bump), .n a_Scan], .a [.v (.int .i64 b_Tick), .v (.int .i64 b_Command_Turn), .v (.int .i64 b_Command_Forward), .v (.bool b_Bump), .n b_Scan]] => (match rowOf E_ a_Scan with
    | some (a_Scan_n, a_Scan_s, a_Scan_f) => (match rowOf E_ b_Scan with
    | some (b_Scan_n, b_Scan_s, b_Scan_f) => some (.q (isRow eC a_Scan_n a_Scan_s a_Scan_f ∧ isRow eC b_Scan_n b_Scan_s b_Scan_f ∧ True) (.o (.c (.v (.bool (decide ((⟨a_Tick, a_Command_Turn, a_Command_Forward, a_Bump, (decL eC a_Scan_n a_Scan_f)⟩ : EvtL) = (⟨b_Tick, b_Command_Turn, b_Command_Forward, b_Bump, (decL eC b_Scan_n b_Scan_f)⟩ : EvtL))))))))
    | none => none)
    | none => none)
  | _ => none
theorem c16 : COk Tryz.prog 16 g16 := by
  refine cok_q Tryz.func16 x16_ok (by kernel_rfl) (cok_tab (cok_cons c32 cok_nil)) ?_
  intro args_ E_ nn_ cr_ hg_
  unfold g16 at hg_
  split at hg_
  · rename_i a_Tick a_Command_Turn a_Command_Forward a_Bump a_Scan b_Tick b_Command_Turn b_Command_Forward b_Bump b_Scan
    split at hg_
    · rename_i a_Scan_n a_Scan_s a_Scan_f h_a_Scan
      split at hg_
      · rename_i b_Scan_n b_Scan_s b_Scan_f h_b_Scan
        cases hg_
        refine ⟨_, _, rfl, 2, [a_Scan, b_Scan], [.a [.v (.int .i64 a_Tick), .v (.int .i64 a_Command_Turn), .v (.int .i64 a_Command_Forward), .v (.bool a_Bump), .n 0], .a [.v (.int .i64 b_Tick), .v (.int .i64 b_Command_Turn), .v (.int .i64 b_Command_Forward), .v (.bool b_Bump), .n 1]], [(0, .ro (decL eC a_Scan_n a_Scan_f).length eC.sz (rowF eC (decL eC a_Scan_n a_Scan_f))), (1, .ro (decL eC b_Scan_n b_Scan_f).length eC.sz (rowF eC (decL eC b_Scan_n b_Scan_f)))], .o (.c (.v (.bool (decide ((⟨a_Tick, a_Command_Turn, a_Command_Forward, a_Bump, (decL eC a_Scan_n a_Scan_f)⟩ : EvtL) = (⟨b_Tick, b_Command_Turn, b_Command_Forward, b_Bump, (decL eC b_Scan_n b_Scan_f)⟩ : EvtL)))))), rfl, rfl, and3 (by simp only [push_cast, Nat.reduceLT, Nat.reduceAdd]) ⟨rfl, ⟨inE0_row h_a_Scan, inE0_row h_b_Scan, trivial⟩, rfl, ?_⟩⟩
        intro hpre hlen
        obtain ⟨i_a_Scan, hpre⟩ := hpre
        obtain ⟨i_b_Scan, hpre⟩ := hpre
        refine ⟨⟨inE_row h_a_Scan i_a_Scan, inE_row h_b_Scan i_b_Scan, trivial⟩, ?_⟩
        have z_a_Scan := lens_row (E := eC) hlen h_a_Scan
        have z_b_Scan := lens_row (E := eC) hlen h_b_Scan
        clear i_a_Scan
        generalize decL eC a_Scan_n a_Scan_f = a_ScanL at *
        clear i_b_Scan
        generalize decL eC b_Scan_n b_Scan_f = b_ScanL at *
        clear h_a_Scan
        clear h_b_Scan
        simp (maxSteps := 9999999) only [x16, push_cast, simprocAttr, g32]
        rw [Bool.eq_iff_iff]
        simp
        simp only [and_assoc]
      · cases hg_
    · cases hg_
  · cases hg_
def g13 : Con := fun args_ E_ nn_ => match args_ with
  | [.c (.n a), .c (.n b)] => (match rowD eEvt.sz E_ a with
    | some (a_n, a_s, a_f, a_c) => (match rowD eEvt.sz E_ b with
    | some (b_n, b_s, b_f, b_c) => some (.q (isDeep eEvt a_n a_s a_f a_c ∧ isDeep eEvt b_n b_s b_f b_c ∧ True) (.o (.c (.v (.bool (decide ((decD eEvt a_n a_f a_c) = (decD eEvt b_n b_f b_c))))))))
    | none => none)
    | none => none)
  | _ => none
theorem c13 : COk Tryz.prog 13 g13 := by
  refine cok_q Tryz.func13 x13_ok (by kernel_rfl) (cok_tab (cok_cons c16 cok_nil)) ?_
  intro args_ E_ nn_ cr_ hg_
  unfold g13 at hg_
  split at hg_
  · rename_i a b
    split at hg_
    · rename_i a_n a_s a_f a_c h_a
      split at hg_
      · rename_i b_n b_s b_f b_c h_b
        cases hg_
        refine ⟨_, _, rfl, 2, [a, b], [.c (.n 0), .c (.n 1)], [(0, .deep none (decD eEvt a_n a_f a_c).length eEvt.sz (deepF eEvt (decD eEvt a_n a_f a_c) a_f) (deepC eEvt (decD eEvt a_n a_f a_c)) []), (1, .deep none (decD eEvt b_n b_f b_c).length eEvt.sz (deepF eEvt (decD eEvt b_n b_f b_c) b_f) (deepC eEvt (decD eEvt b_n b_f b_c)) [])], .o (.c (.v (.bool (decide ((decD eEvt a_n a_f a_c) = (decD eEvt b_n b_f b_c)))))), rfl, rfl, and3 (by simp only [push_cast, Nat.reduceLT, Nat.reduceAdd]) ⟨rfl, ⟨inE0_deep h_a, inE0_deep h_b, trivial⟩, rfl, ?_⟩⟩
        intro hpre hlen
        obtain ⟨i_a, hpre⟩ := hpre
        obtain ⟨i_b, hpre⟩ := hpre
        refine ⟨⟨inE_deep h_a i_a, inE_deep h_b i_b, trivial⟩, ?_⟩
        have z_a := lens_deep (D := eEvt) hlen h_a
        have z_b := lens_deep (D := eEvt) hlen h_b
        clear i_a
        generalize decD eEvt a_n a_f a_c = aL at *
        clear i_b
        generalize decD eEvt b_n b_f b_c = bL at *
        clear h_a
        clear h_b
        simp (maxSteps := 9999999) only [x13, push_cast, simprocAttr, g16]
        refine ⟨fun h => ?_, fun h => ?_⟩
        · symm; rw [decide_eq_false_iff_not]; intro e; exact h (by rw [e])
        refine vcLoop_upd (α := {k : Nat // k ≤ aL.length ∧ ∀ i, i < k → aL.getD i eEvt.dflt = bL.getD i eEvt.dflt}) [0, 1] 0 (fun s => [(5, .o (.c (.v (.int .i64 (s.1 : Nat)))))]) (fun s => []) (fun s => aL.length - s.1) ⟨0, by omega, fun i hi => by omega⟩ ?_ ?_
        · simp only [push_cast, simprocAttr, g16]
        · rintro ⟨k, hk, hall⟩
          simp only [x13L0, push_cast, simprocAttr, g16]
          refine ⟨fun hlt => ⟨by omega, hlt, hlt, hlt, by omega, by omega, fun hne => ?_, fun he => ⟨⟨k + 1, by omega, fun i hi => ?_⟩, wrapI (by omega) (by omega), by simp only; omega⟩⟩, fun hge => ?_⟩
          · symm; rw [decide_eq_false_iff_not]; intro e; rw [e] at hne; exact hne rfl
          · rcases Nat.lt_succ_iff_lt_or_eq.1 hi with q | q
            · exact hall i q
            · subst q; exact he
          · symm; rw [decide_eq_true_eq]; exact getD_ext eEvt.dflt (by omega) (fun i hi => hall i (by omega))
      · cases hg_
    · cases hg_
  · cases hg_
def briefB (L : List Int) (A : List ActL) : Bool := decide (L.length ≤ 64) && decide (A.length ≤ 10) && A.all fun a => !(decide (4 < a.marks.length) || decide (40 < a.errs.length))
theorem brief_len {L : List Int} {A : List ActL} (h : briefB L A = true) : L.length ≤ 64 ∧ A.length ≤ 10 := by
  unfold briefB at h
  simp only [Bool.and_eq_true, decide_eq_true_eq] at h
  exact h.1
def x5L0 : XC := (.seq (.seq (.reg false [O1 16 .mv 5, O1 17 .mv 1, O1 18 .lenS 17, O2 19 (.bin .lss) 16 18]) (.cond (.t 19) .skip (.exit 0))) (.seq (.opn 1 5 7 (.opn 1 5 6 (.block 1 (.seq (.reg false [O1 22 .mv 1, O1 23 .mv 5, O2 24 (.ixS 8) 22 23, O1 25 (.fld 6) 24, O1 26 .load1 25, O1 27 .lenS 26, K2 28 (.bin .gtr) 27 (iV 4), O1 29 .mv 28, G1 30 .mv 1 29 false, G1 31 .mv 5 29 false, G2 32 (.ixS 8) 30 31 29 false, G1 33 (.fld 7) 32 29 false, G1 34 .load1 33 29 false, G1 35 .lenS 34 29 false, GK 36 (.bin .gtr) 35 (iV 40) 29 false, ⟨(some 37), .pick, [(.t 29), (.k (.bool true)), (.t 36)], none⟩]) (.cond (.t 37) (.seq (.reg false [K1 4 .mv (.bool false)]) .ret) .skip))))) (.reg false [O1 20 .mv 5, K2 21 (.bin .add) 20 (iV 1), O1 5 .mv 21])))
def x5 : XFn := ⟨38, (.seq (.reg false [O1 2 (.box 30) 0, K1 4 .mv (.bool false)]) (.seq (.seq (.reg false [O1 6 (.fld 0) 2, O1 7 (.fld 2) 6, O1 8 .load1 7, O1 9 .lenS 8, K2 10 (.bin .gtr) 9 (iV 64), O1 11 .mv 10, G1 12 .mv 1 11 false, G1 13 .lenS 12 11 false, GK 14 (.bin .gtr) 13 (iV 10) 11 false, ⟨(some 15), .pick, [(.t 11), (.k (.bool true)), (.t 14)], none⟩]) (.cond (.t 15) (.seq (.reg false [K1 4 .mv (.bool false)]) .ret) .skip)) (.seq (.seq (.reg false [K1 5 .mv (iV 0)]) (.block 0 (.loop x5L0))) (.seq (.reg false [K1 4 .mv (.bool true)]) .ret)))), [(.s 4)]⟩
theorem x5_ok : xfn Tryz.prog Tryz.f5 = some x5.er := by kernel_rfl
def g5 : Con := fun args_ E_ nn_ => match args_ with
  | [.a [.v (.int .i64 s_Plan_W), .v (.int .i64 s_Plan_H), .n s_Plan_Cells, .v (.int .i64 s_Bounds_Turn), .v (.int .i64 s_Bounds_Length), .v (.int .i64 s_Bounds_Slip), .v (.int .i64 s_Bounds_Range), .v (.int .i64 s_At_X), .v (.int .i64 s_At_Y), .v (.int .i64 s_At_H)], .c (.n acts)] => (match rowOf E_ s_Plan_Cells with
    | some (s_Plan_Cells_n, s_Plan_Cells_s, s_Plan_Cells_f) => (match rowD eAct.sz E_ acts with
    | some (acts_n, acts_s, acts_f, acts_c) => some (.q (isRow eU8 s_Plan_Cells_n s_Plan_Cells_s s_Plan_Cells_f ∧ isDeep eAct acts_n acts_s acts_f acts_c ∧ True) (.o (.c (.v (.bool (briefB (decL eU8 s_Plan_Cells_n s_Plan_Cells_f) (decD eAct acts_n acts_f acts_c)))))))
    | none => none)
    | none => none)
  | _ => none
theorem c5 : COk Tryz.prog 5 g5 := by
  refine cok_q Tryz.func5 x5_ok (by kernel_rfl) (cok_tab cok_nil) ?_
  intro args_ E_ nn_ cr_ hg_
  unfold g5 at hg_
  split at hg_
  · rename_i s_Plan_W s_Plan_H s_Plan_Cells s_Bounds_Turn s_Bounds_Length s_Bounds_Slip s_Bounds_Range s_At_X s_At_Y s_At_H acts
    split at hg_
    · rename_i s_Plan_Cells_n s_Plan_Cells_s s_Plan_Cells_f h_s_Plan_Cells
      split at hg_
      · rename_i acts_n acts_s acts_f acts_c h_acts
        cases hg_
        refine ⟨_, _, rfl, 2, [s_Plan_Cells, acts], [.a [.v (.int .i64 s_Plan_W), .v (.int .i64 s_Plan_H), .n 0, .v (.int .i64 s_Bounds_Turn), .v (.int .i64 s_Bounds_Length), .v (.int .i64 s_Bounds_Slip), .v (.int .i64 s_Bounds_Range), .v (.int .i64 s_At_X), .v (.int .i64 s_At_Y), .v (.int .i64 s_At_H)], .c (.n 1)], [(0, .ro (decL eU8 s_Plan_Cells_n s_Plan_Cells_f).length eU8.sz (rowF eU8 (decL eU8 s_Plan_Cells_n s_Plan_Cells_f))), (1, .deep none (decD eAct acts_n acts_f acts_c).length eAct.sz (deepF eAct (decD eAct acts_n acts_f acts_c) acts_f) (deepC eAct (decD eAct acts_n acts_f acts_c)) [])], .o (.c (.v (.bool (briefB (decL eU8 s_Plan_Cells_n s_Plan_Cells_f) (decD eAct acts_n acts_f acts_c))))), rfl, rfl, and3 (by simp only [push_cast, Nat.reduceLT, Nat.reduceAdd]) ⟨rfl, ⟨inE0_row h_s_Plan_Cells, inE0_deep h_acts, trivial⟩, rfl, ?_⟩⟩
        intro hpre hlen
        obtain ⟨i_s_Plan_Cells, hpre⟩ := hpre
        obtain ⟨i_acts, hpre⟩ := hpre
        refine ⟨⟨inE_row h_s_Plan_Cells i_s_Plan_Cells, inE_deep h_acts i_acts, trivial⟩, ?_⟩
        have z_s_Plan_Cells := lens_row (E := eU8) hlen h_s_Plan_Cells
        have z_acts := lens_deep (D := eAct) hlen h_acts
        clear i_s_Plan_Cells
        generalize decL eU8 s_Plan_Cells_n s_Plan_Cells_f = s_Plan_CellsL at *
        clear i_acts
        generalize decD eAct acts_n acts_f acts_c = actsL at *
        clear h_s_Plan_Cells
        clear h_acts
        simp (maxSteps := 9999999) only [x5, push_cast, simprocAttr]
        refine ⟨fun h => ?_, fun h1 h2 => ?_⟩
        · unfold briefB
          rcases h with h | h
          · rw [decide_eq_false (p := s_Plan_CellsL.length ≤ 64) (by omega)]; rfl
          · rw [decide_eq_false (p := actsL.length ≤ 10) (by omega)]; simp
        refine vcLoop_upd (α := {k : Nat // k ≤ actsL.length ∧ ∀ i, i < k → (decide (4 < (actsL.getD i eAct.dflt).marks.length) || decide (40 < (actsL.getD i eAct.dflt).errs.length)) = false}) [1] 0 (fun s => [(5, .o (.c (.v (.int .i64 (s.1 : Nat)))))]) (fun s => []) (fun s => actsL.length - s.1) ⟨0, by omega, fun i hi => by omega⟩ ?_ ?_
        · simp only [push_cast, simprocAttr]
        rintro ⟨k, hk, hall⟩
        simp only [x5L0, push_cast, simprocAttr]
        refine ⟨fun hlt => ⟨hlt, hlt, hlt, hlt, fun h => ⟨h, hlt⟩, fun h => ⟨h, hlt⟩, fun h3 => ?_, fun h3 h4 => ⟨⟨k + 1, by omega, fun i hi => ?_⟩, wrapI (by omega) (by omega), by simp only; omega⟩⟩, fun hge => ?_⟩
        · symm; unfold briefB
          have hm : actsL.getD k eAct.dflt ∈ actsL := by rw [List.getD_eq_getElem?_getD, List.getElem?_eq_getElem hlt, Option.getD_some]; exact List.getElem_mem hlt
          have : (actsL.all fun a => !(decide (4 < a.marks.length) || decide (40 < a.errs.length))) = false := by
            rw [Bool.eq_false_iff]; intro q
            rw [List.all_eq_true] at q
            have := q _ hm
            simp only [Bool.not_eq_true', Bool.or_eq_false_iff, decide_eq_false_iff_not] at this
            omega
          rw [this, Bool.and_false]
        · rcases Nat.lt_succ_iff_lt_or_eq.1 hi with q | q
          · exact hall i q
          · subst q; rw [decide_eq_false (by omega), decide_eq_false (by omega)]; rfl
        · symm; unfold briefB
          rw [decide_eq_true (p := s_Plan_CellsL.length ≤ 64) (by omega), decide_eq_true (p := actsL.length ≤ 10) (by omega), Bool.true_and, Bool.true_and, List.all_eq_true]
          intro z hz
          obtain ⟨i, hi, rfl⟩ := List.getElem_of_mem hz
          have := hall i (by omega)
          rw [List.getD_eq_getElem?_getD, List.getElem?_eq_getElem hi, Option.getD_some] at this
          rw [this]; rfl
      · cases hg_
    · cases hg_
  · cases hg_
def g18 : Con := fun args_ E_ nn_ => match args_ with
  | [.c (.n a), .c (.n b)] => (match rowOf E_ a with
    | some (a_n, a_s, a_f) => (match rowOf E_ b with
    | some (b_n, b_s, b_f) => some (.q (isRow eU8 a_n a_s a_f ∧ isRow eU8 b_n b_s b_f ∧ u8s (decL eU8 a_n a_f) ∧ u8s (decL eU8 b_n b_f)) (.o (.c (.v (.bool (decide ((decL eU8 a_n a_f) = (decL eU8 b_n b_f))))))))
    | none => none)
    | none => none)
  | _ => none
theorem c18 : COk Tryz.prog 18 g18 := by
  refine cok_q Tryz.func18 x18_ok (by kernel_rfl) (cok_tab cok_nil) ?_
  intro args_ E_ nn_ cr_ hg_
  unfold g18 at hg_
  split at hg_
  · rename_i a b
    split at hg_
    · rename_i a_n a_s a_f h_a
      split at hg_
      · rename_i b_n b_s b_f h_b
        cases hg_
        refine ⟨_, _, rfl, 2, [a, b], [.c (.n 0), .c (.n 1)], [(0, .ro (decL eU8 a_n a_f).length eU8.sz (rowF eU8 (decL eU8 a_n a_f))), (1, .ro (decL eU8 b_n b_f).length eU8.sz (rowF eU8 (decL eU8 b_n b_f)))], .o (.c (.v (.bool (decide ((decL eU8 a_n a_f) = (decL eU8 b_n b_f)))))), rfl, rfl, and3 (by simp only [push_cast, Nat.reduceLT, Nat.reduceAdd]) ⟨rfl, ⟨inE0_row h_a, inE0_row h_b, trivial⟩, rfl, ?_⟩⟩
        intro hpre hlen
        obtain ⟨i_a, hpre⟩ := hpre
        obtain ⟨i_b, hpre⟩ := hpre
        refine ⟨⟨inE_row h_a i_a, inE_row h_b i_b, trivial⟩, ?_⟩
        have z_a := lens_row (E := eU8) hlen h_a
        have z_b := lens_row (E := eU8) hlen h_b
        clear i_a
        generalize decL eU8 a_n a_f = aL at *
        clear i_b
        generalize decL eU8 b_n b_f = bL at *
        clear h_a
        clear h_b
        simp (maxSteps := 9999999) only [x18, push_cast, simprocAttr]
        rw [decide_eq_decide]
        exact strB_inj hpre.1 hpre.2
      · cases hg_
    · cases hg_
  · cases hg_
end Go.Proofs.YtkpdofgmmpbknaaGreat
namespace Go.Proofs.YtkpdofgmmpbknaaGreat
open Go.Sx Go.Way
theorem tick_within {r : RobS} {a : ActL} (h : okS r) (ha : actOk a = true) : withinS r.bT r.bL r.bS r.bR r.x r.y r.h a.turn a.fwd (doR r a).x (doR r a).y (doR r a).h (doV r a).bump = true ∧ (doV r a).turn = a.turn ∧ (doV r a).fwd = a.fwd := by
  obtain ⟨nx, ny, nh, h1, h2, h3, h4, h5⟩ := tick_law h ha
  rw [doR_t ha, doV_t ha]
  refine ⟨?_, rfl, rfl⟩
  rcases h5 with ⟨e, _, _⟩ | ⟨e, _, _⟩
  · simp only [e]; exact h3
  · simp only [e]; exact h2
theorem rbK_ticks (r : RobS) (A : List ActL) : ∀ k, (∀ i, i < k → actOk (A.getD i eAct.dflt) = true) → (rbK r A k).ticks = r.ticks + k
  | 0, _ => by show r.ticks = _; omega
  | k + 1, h => by
    rw [rbK_succ, doR_t (h k (by omega))]
    show (rbK r A k).ticks + 1 = _
    rw [rbK_ticks r A k (fun i hi => h i (by omega))]
    omega
theorem scan_ok {r : RobS} {a : ActL} (h : okS r) (ha : actOk a = true) : scanJ (doV r a).scan = true := by
  obtain ⟨h1, -, h3⟩ := scan_law h ha
  unfold allB at h3
  rw [Bool.and_eq_true, List.all_eq_true, decide_eq_true_eq] at h3
  rw [scanJ_iff]
  refine ⟨h3.2, fun b hb => ?_⟩
  have := h3.1 b hb
  unfold plausB at this
  rw [Bool.and_eq_true, Bool.and_eq_true, Bool.and_eq_true] at this
  have h4 := this.1.1.2
  unfold beamB at h4
  rw [decide_eq_true_eq] at h4
  exact h4
theorem run_okEvs {W H : Int} {L : List Int} {bT bL bS bR x y h : Int} {A : List ActL} (e : runE W H L bT bL bS bR x y h A = 0) (hA : A.length ≤ 300) : okEvs (runV W H L bT bL bS bR x y h A) := by
  have hv := runV_at e
  have hg := (run_good e).2
  refine ⟨by rw [hv.1]; exact hA, fun i hi => ?_⟩
  rw [hv.1] at hi
  rw [hv.2 i hi]
  have ha := hg i hi
  have ho := run_at e i (by omega)
  have hs := scan_ok ho ha
  obtain ⟨hc, -, -⟩ := act_cmd ha
  have ht : (doV (rbK (rob0 W H L bT bL bS bR x y h) A i) (A.getD i eAct.dflt)).tick = (i : Int) + 1 := by
    rw [doV_t ha]
    show (rbK _ _ _).ticks + 1 = _
    rw [rbK_ticks _ _ _ (fun j hj => hg j (by omega))]
    show (0 : Int) + i + 1 = _
    omega
  refine ⟨⟨by rw [ht]; omega, ?_, ?_, hs⟩, ht⟩
  · rw [doV_t ha]; exact hc.1
  · rw [doV_t ha]; exact hc.2
def endJ (L : List EvtL) (i : Nat) : Int := ((magicL ++ framesL (L.take i)).length : Nat)
theorem endJ_0 (L : List EvtL) : endJ L 0 = 4 := by simp [endJ, framesL, magicL]
theorem endJ_succ {L : List EvtL} {i : Nat} (h : i < L.length) : endJ L (i + 1) = endJ L i + ((frL 1 (encE (L.getD i eEvt.dflt))).length : Nat) := by
  unfold endJ
  rw [framesL_snoc h]
  simp only [List.length_append]; omega
theorem endJ_le {L : List EvtL} (h : okEvs L) (i : Nat) : endJ L i ≤ 60000 := by
  unfold endJ
  have h1 := framesL_len (l := L.take i) (okEvs_mem (okEvs_take h i))
  have h2 := h.1
  rw [List.length_take] at h1
  have h3 : magicL.length = 4 := rfl
  have h4 : 177 * min i L.length ≤ 177 * 300 := Nat.mul_le_mul_left _ (by omega)
  simp only [List.length_append]; omega
theorem cut_at {L : List EvtL} (h : okEvs L) {k n : Nat} (hn : n ≤ L.length) (h1 : endJ L n ≤ k) (h2 : n < L.length → (k : Int) < endJ L (n + 1)) (hk : k ≤ (magicL ++ framesL L).length) :
    ∃ p, cutJ ((magicL ++ framesL L).take k) (L.take n) p ∧ (p.length : Int) = k - endJ L n := by
  have hs : framesL L = framesL (L.take n) ++ framesL (L.drop n) := by rw [← framesL_app, List.take_append_drop]
  obtain ⟨m, hm⟩ : ∃ m : Nat, k = (magicL ++ framesL (L.take n)).length + m := ⟨k - (magicL ++ framesL (L.take n)).length, by unfold endJ at h1; omega⟩
  have e : (magicL ++ framesL L).take k = magicL ++ (framesL (L.take n) ++ (framesL (L.drop n)).take m) := by
    rw [hs, ← List.append_assoc, hm, List.take_append]
    rw [List.take_of_length_le (by omega), Nat.add_sub_cancel_left, List.append_assoc]
  refine ⟨(framesL (L.drop n)).take m, ⟨e, okEvs_take h n, ?_⟩, ?_⟩
  · by_cases hlt : n < L.length
    · have hd := drop_cons eEvt.dflt hlt
      have h3 := h2 hlt
      rw [endJ_succ hlt] at h3
      have hv := (h.2 n hlt).1
      generalize L.getD n eEvt.dflt = v at hd h3 hv
      have hml : m < (frL 1 (encE v)).length := by unfold endJ at h3; omega
      rw [hd]
      simp only [framesL]
      rw [List.take_append_of_le_length (by omega)]
      refine .inr ⟨v, (frL 1 (encE v)).drop m, hv, ?_, List.take_append_drop _ _⟩
      intro hh
      have := congrArg List.length hh
      rw [List.length_drop] at this
      simp at this; omega
    · rw [List.drop_eq_nil_of_le (by omega)]
      exact .inl (by simp [framesL])
  · rw [List.length_take]
    have hl : (magicL ++ framesL L).length = (magicL ++ framesL (L.take n)).length + (framesL (L.drop n)).length := by
      rw [hs]; simp only [List.length_append]; omega
    unfold endJ
    omega
end Go.Proofs.YtkpdofgmmpbknaaGreat
namespace Go.Proofs.YtkpdofgmmpbknaaGreat
open Go.Sx Go.Way
def roomL : List Int := [1, 1, 1, 1, 1, 1, 1, 1, 1]
theorem room_build : buildB 3 3 roomL = true := by decide
theorem room_at {x y : Int} (hx : 0 ≤ x ∧ x ≤ 2) (hy : 0 ≤ y ∧ y ≤ 2) : atB 3 3 roomL x y = 1 := by
  rcases (by omega : x = 0 ∨ x = 1 ∨ x = 2) with rfl | rfl | rfl <;> rcases (by omega : y = 0 ∨ y = 1 ∨ y = 2) with rfl | rfl | rfl <;> decide
theorem room_hit {fx fy tx ty : Int} (h1 : 20 < fx ∧ fx < 172) (h2 : 20 < fy ∧ fy < 172) (h3 : 20 < tx ∧ tx < 172) (h4 : 20 < ty ∧ ty < 172) (x y : Int) : hitW 3 3 roomL fx fy tx ty x y = false := by
  rw [Bool.eq_false_iff]; intro h
  unfold hitW at h
  rw [Bool.and_eq_true, decide_eq_true_eq] at h
  have z := touch_rng h.2
  rw [room_at (by omega) (by omega)] at h
  exact absurd h.1 (by decide)
theorem room_blk {fx fy tx ty : Int} (h1 : 20 < fx ∧ fx < 172) (h2 : 20 < fy ∧ fy < 172) (h3 : 20 < tx ∧ tx < 172) (h4 : 20 < ty ∧ ty < 172) : blkB 3 3 roomL fx fy tx ty = false :=
  blk_no room_build (by unfold wayB; rw [decide_eq_true_eq]; omega) (room_hit h1 h2 h3 h4)
theorem room_new : rnewE 3 3 roomL 0 0 0 1 96 96 0 = 0 := by
  rw [rnew_fit (ckV_ok.2 room_build) (by omega), if_neg]
  unfold fitB
  rw [room_blk (by omega) (by omega) (by omega) (by omega)]
  decide
def okFlat (n sz : Nat) (f : Nat → Nat → SC) : Prop := ∀ e j, e < n → j < sz → f e j = .v (vOf (f e j))
def nilS (x : Value) : Option (Nat × Nat × (Nat → Nat → Value)) := match x with
  | .slice none 0 0 => some (0, 1, fun _ _ => .bool false)
  | _ => none
def flatF (f : Nat → Nat → SC) : Nat → Nat → Value := fun e j => vOf (f e j)
def flatC (f : Nat → Nat → SC) : Nat → Nat → Option (Nat × Nat × (Nat → Nat → Value)) := fun e j => nilS (vOf (f e j))
def flatE (n sz : Nat) (f : Nat → Nat → SC) : Go.Sx.Ent := .deep none n sz (flatF f) (flatC f) []
theorem nilS_eq {x : Value} {z : Nat × Nat × (Nat → Nat → Value)} (h : nilS x = some z) : x = .slice none 0 0 ∧ z.1 = 0 := by
  unfold nilS at h
  split at h
  · cases h; exact ⟨rfl, rfl⟩
  · cases h
theorem upd_case {i : Nat} {x : Go.Sx.Ent} {E : Nat → Option Go.Sx.Ent} {k : Nat} {x' : Go.Sx.Ent} (h : upd [(i, x)] E k = some x') : (k = i ∧ x' = x) ∨ (k ≠ i ∧ E k = some x') := by
  unfold upd at h
  simp only [lk] at h
  by_cases hk : i = k
  · rw [if_pos hk] at h; cases h; exact .inl ⟨hk.symm, rfl⟩
  · rw [if_neg hk] at h; exact .inr ⟨fun e => hk e.symm, h⟩
theorem flat_inB {n sz : Nat} {f : Nat → Nat → SC} {b : Nat} : ¬ (flatE n sz f).inB b := by
  rintro ⟨e, j, he, hj, h1, h2⟩
  obtain ⟨z, hz⟩ := Option.isSome_iff_exists.1 h1
  have := (nilS_eq hz).1
  have h3 : blkOf (flatF f e j) = some b := h2
  have h4 : flatF f e j = .slice none 0 0 := this
  rw [h4] at h3
  simp [blkOf] at h3
theorem heap_toDeep {base : World} {M : Scp} {r : Rho} {w : World} {E : Nat → Option Go.Sx.Ent} {i n sz : Nat} {f : Nat → Nat → SC} {ty : TypeId} (h : HeapRel base M r E w) (hi : E i = some (.own n sz f ty)) (hf : okFlat n sz f) : HeapRel base M r (upd [(i, flatE n sz f)] E) w := by
  refine ⟨h.size, h.one, h.os, h.tape, h.output, h.frame, ?_, ?_, ?_, ?_⟩
  · intro k x hk
    rcases upd_case hk with ⟨rfl, rfl⟩ | ⟨_, h2⟩
    · obtain ⟨g0, g⟩ := h.ent _ _ hi
      refine ⟨?_, ?_, trivial⟩
      · rcases g with ⟨b, o, cap, cur, k1, k2, k3, k4, k5, k6⟩ | ⟨a, k1, k2⟩
        · exact ⟨_, cap, k1, k3, g0, fun hn => ⟨b, o, rfl, k2.lt, fun e j he hj => by rw [k2.cell, k6 e j he hj, hf e j he hj]; rfl⟩⟩
        · exact ⟨a, 0, by rw [k1, k2], by omega, g0, fun hn => by omega⟩
      · intro e j n' sz' g he hj hc
        have := nilS_eq hc
        have h4 : flatF f e j = .slice none 0 0 := this.1
        have h5 : n' = 0 := this.2
        subst h5
        rw [h4]
        exact ⟨none, 0, rfl, Nat.le_refl _, by omega, fun hn => by omega⟩
    · exact h.ent k x h2
  · intro k k' x x' hkk hk hk' hm hl b hb hb'
    rcases upd_case hk with ⟨rfl, rfl⟩ | ⟨_, h2⟩
    · cases hm
    · rcases upd_case hk' with ⟨rfl, rfl⟩ | ⟨_, h3⟩
      · refine h.apart k k' x _ hkk h2 hi hm rfl b hb ?_
        rcases hb' with hb' | hb'
        · exact .inl hb'
        · exact absurd hb' flat_inB
      · exact h.apart k k' x x' hkk h2 h3 hm hl b hb hb'
  · intro k x hk hm b hb
    rcases upd_case hk with ⟨rfl, rfl⟩ | ⟨_, h2⟩
    · cases hm
    · exact h.mine k x h2 hm b hb
  · intro k x hk hl b hb
    rcases upd_case hk with ⟨rfl, rfl⟩ | ⟨_, h2⟩
    · refine h.src k _ hi rfl b ?_
      rcases hb with hb | hb
      · exact .inl hb
      · exact absurd hb flat_inB
    · exact h.src k x h2 hl b hb
def flatG (g : Con) : Con := fun args E n => match args with
  | [_, _, _, .c (.n k)] => (match E k with
    | some (.own m sz f _) => (match g args (upd [(k, flatE m sz f)] E) n with
      | some (.d pre res ents nx) => some (.d (okFlat m sz f ∧ pre) res (fun G => ents G ++ [(k, flatE m sz f)]) nx)
      | _ => none)
    | _ => none)
  | _ => none
theorem cok_flatG {P : Program} {fn : Nat} {g : Con} (h : COk P fn g) : COk P fn (flatG g) := by
  intro args E n hargs hE
  unfold flatG
  split
  · rename_i a b c k
    split
    · rename_i m sz f ty hk
      have hE' : ∀ q : Nat → Prop, (∀ i e, E i = some e → q i ∧ e.sc q) → ∀ i e, upd [(k, flatE m sz f)] E i = some e → q i ∧ e.sc q := by
        intro q h1 i e he
        rcases upd_case he with ⟨rfl, rfl⟩ | ⟨_, h2⟩
        · exact ⟨(h1 _ _ hk).1, trivial⟩
        · exact h1 i e h2
      have key := h [a, b, c, .c (.n k)] (upd [(k, flatE m sz f)] E) n hargs (hE' _ hE)
      generalize hcr : g [a, b, c, .c (.n k)] (upd [(k, flatE m sz f)] E) n = cr at key
      split
      · rename_i pre res ents nx
        intro hp
        obtain ⟨k1, k2, k3, k4⟩ := key hp.2
        refine ⟨k1, fun G q h1 h2 h3 => ?_, fun G i e he => ?_, fun base M r w hh => ?_⟩
        · obtain ⟨g1, g2⟩ := k2 G q h1 (hE' q h2) h3
          refine ⟨g1, fun i e he => ?_⟩
          rw [lk_append] at he
          unfold upd at he
          split at he
          · rename_i x hx; cases he; exact g2 i _ hx
          · exact hE' q h2 i e (by unfold upd; rw [he])
        · rw [lk_append] at he
          unfold upd at he
          split at he
          · rename_i x hx
            cases he
            rcases k3 G i _ hx with g | g
            · refine .inl fun hn => g ?_
              unfold upd
              simp only [lk]
              split
              · rename_i q; split at q
                · rename_i hki; rw [← hki, hk] at hn; cases hn
                · cases q
              · exact hn
            · exact .inr g
          · simp only [lk] at he
            split at he
            · rename_i hki; cases he; exact .inl (by rw [← hki, hk]; simp)
            · cases he
        · have := k4 base M r w (heap_toDeep hh hk hp.1)
          refine this.mono ?_
          rintro e w' ⟨G, r', g1, rfl, g2⟩
          exact ⟨G, r', g1, rfl, by rw [upd_app]; exact g2⟩
      · trivial
    · trivial
  · trivial
def actA : ActL := ⟨0, 5, 0, 0, 0, 0, [], []⟩
theorem awk_E : runE 3 3 roomL 0 0 0 1 96 96 0 [actA] = 0 := by
  unfold runE
  rw [if_neg (by rw [room_new]; decide), if_pos (by decide)]
theorem awk_V : ∃ v, runV 3 3 roomL 0 0 0 1 96 96 0 [actA] = [v] ∧ okEv v ∧ v.tick = 1 ∧ (runP 3 3 roomL 0 0 0 1 96 96 0 [actA]).length = 1 := by
  have hv := runV_at awk_E
  have hk := run_okEvs awk_E (by decide)
  have hp := runP_at awk_E
  generalize runV 3 3 roomL 0 0 0 1 96 96 0 [actA] = V at *
  match V, hv.1 with
  | [v], _ => exact ⟨v, rfl, (hk.2 0 (by simp)).1, (hk.2 0 (by simp)).2, hp.1⟩
def litA : Nat → Nat → SC := litF [SC.v (Value.int IntKind.i64 0), SC.v (Value.int IntKind.i64 5), SC.v (Value.int IntKind.i64 0), SC.v (Value.int IntKind.i64 0), SC.v (Value.int IntKind.i64 0), SC.v (Value.int IntKind.i64 0), SC.v (Value.slice none 0 0), SC.v (Value.slice none 0 0)] 8
theorem litA_flat : okFlat 1 8 litA := by
  intro e j he hj
  obtain rfl : e = 0 := by omega
  rcases (by omega : j = 0 ∨ j = 1 ∨ j = 2 ∨ j = 3 ∨ j = 4 ∨ j = 5 ∨ j = 6 ∨ j = 7) with rfl | rfl | rfl | rfl | rfl | rfl | rfl | rfl <;> rfl
theorem litA_isD : isD eAct 1 [actA] (flatF litA) (flatC litA) := by
  refine ⟨rfl, fun e j he hj => ?_⟩
  have hj : j < 8 := hj
  obtain rfl : e = 0 := by omega
  rcases (by omega : j = 0 ∨ j = 1 ∨ j = 2 ∨ j = 3 ∨ j = 4 ∨ j = 5 ∨ j = 6 ∨ j = 7) with rfl | rfl | rfl | rfl | rfl | rfl | rfl | rfl
  all_goals first
    | exact ⟨fun v hv => (by cases hv; rfl), trivial⟩
    | exact ⟨fun v hv => (by cases hv), rfl, .inl rfl, fun a b ha => absurd ha (by omega)⟩
theorem litA_dec : decD eAct 1 (flatF litA) (flatC litA) = [actA] := decD_is litA_isD
theorem litA_deep : isDeep eAct 1 8 (flatF litA) (flatC litA) ↔ True := iff_true_intro ⟨rfl, by rw [litA_dec]; exact litA_isD⟩
noncomputable def g6f : Con := flatG g6
theorem c6f : COk Tryz.prog 6 g6f := cok_flatG c6
def x4 : XFn := ⟨46, (.seq (.reg false [K1 0 .mv (.bool false)]) (.seq (.reg false [⟨(some 6), (.slit 5 9 1 [(.int .u8 0), (.int .u8 0), (.int .u8 0), (.int .u8 0), (.int .u8 0), (.int .u8 0), (.int .u8 0), (.int .u8 0), (.int .u8 0)] [(0, 1), (1, 1), (2, 1), (3, 1), (4, 1), (5, 1), (6, 1), (7, 1), (8, 1)]), [(.k (.int .u8 1)), (.k (.int .u8 1)), (.k (.int .u8 1)), (.k (.int .u8 1)), (.k (.int .u8 1)), (.k (.int .u8 1)), (.k (.int .u8 1)), (.k (.int .u8 1)), (.k (.int .u8 1))], none⟩, ⟨(some 7), (.build [(iV 0), (iV 0), (.slice none 0 0)] [(0, 1), (1, 1), (2, 1)]), [(.k (iV 3)), (.k (iV 3)), (.t 6)], none⟩, ⟨(some 1), (.alloc 24 [(iV 0), (iV 0), (.slice none 0 0)]), [], none⟩, ⟨none, (.store 3), [(.t 1), (.t 7)], none⟩]) (.seq (.reg false [O1 9 (.loadN 3) 1, ⟨(some 10), (.build [(iV 0), (iV 0), (iV 0), (iV 0)] [(3, 1)]), [(.k (iV 1))], none⟩, ⟨(some 11), (.build [(iV 0), (iV 0), (iV 0)] [(0, 1), (1, 1)]), [(.k (iV 96)), (.k (iV 96))], none⟩, ⟨(some 12), (.build [(iV 0), (iV 0)] [(1, 1)]), [(.k (iV 5))], none⟩, ⟨(some 13), (.build [(iV 0), (iV 0), (iV 0), (iV 0), (iV 0), (iV 0), (.slice none 0 0), (.slice none 0 0)] [(0, 2)]), [(.t 12)], none⟩, ⟨(some 14), (.slit 64 1 8 [(iV 0), (iV 0), (iV 0), (iV 0), (iV 0), (iV 0), (.slice none 0 0), (.slice none 0 0)] [(0, 8)]), [(.t 13)], none⟩, ⟨(some 15), (.call 6), [(.t 9), (.t 10), (.t 11), (.t 14)], none⟩, O1 8 .mv 15, O1 16 (.ext 0) 8, O1 17 (.ext 1) 8, O1 18 (.ext 2) 8, O1 2 .mv 16, O1 3 .mv 17, O1 4 .mv 18]) (.seq (.reg false [⟨(some 19), (.call 7), [], none⟩, O1 5 .mv 19]) (.opn 2 4 4 (.seq (.reg false [O1 20 .mv 4, K2 21 (.bin .eql) 20 (iV 0), O1 22 .mv 21, G1 23 .mv 2 22 true, G1 24 .lenS 23 22 true, GK 25 (.bin .eql) 24 (iV 1) 22 true, ⟨(some 26), .pick, [(.t 22), (.t 25), (.k (.bool false))], none⟩, O1 27 .mv 26, G1 28 .mv 5 27 true, G1 29 .mv 2 27 true, GK 30 (.ixS 5) 29 (iV 0) 27 true, G1 31 (.loadN 5) 30 27 true, G2 32 (.call 9) 28 31 27 true, GK 33 (.bin .eql) 32 (iV 0) 27 true, ⟨(some 34), .pick, [(.t 27), (.t 33), (.k (.bool false))], none⟩, O1 35 .mv 34, G1 36 .mv 5 35 true, G1 37 (.call 12) 36 35 true, GK 38 (.bin .eql) 37 (iV 1) 35 true, ⟨(some 39), .pick, [(.t 35), (.t 38), (.k (.bool false))], none⟩, O1 40 .mv 39, G1 41 .mv 5 40 true, G1 42 (.call 8) 41 40 true, G1 43 .lenS 42 40 true, GK 44 (.bin .gtr) 43 (iV 4) 40 true, ⟨(some 45), .pick, [(.t 40), (.t 44), (.k (.bool false))], none⟩, O1 0 .mv 45]) .ret)))))), [(.s 0)]⟩
theorem x4_ok : xfn Tryz.prog Tryz.f4 = some x4.er := by kernel_rfl
noncomputable def g4 : Con := fun args_ E_ nn_ => match args_ with
  | [] => some (.q (True) (.o (.c (.v (.bool (true))))))
  | _ => none
set_option maxHeartbeats 4000000 in
theorem c4 : COk Tryz.prog 4 g4 := by
  refine cok_q Tryz.func4 x4_ok (by kernel_rfl) (cok_tab (cok_cons c6f (cok_cons c7 (cok_cons c9 (cok_cons c12 (cok_cons c8 cok_nil)))))) ?_
  intro args_ E_ nn_ cr_ hg_
  unfold g4 at hg_
  split at hg_
  · skip
    cases hg_
    refine ⟨_, _, rfl, 0, [], [], [], .o (.c (.v (.bool (true)))), rfl, rfl, and3 (by simp only [push_cast, Nat.reduceLT, Nat.reduceAdd]) ⟨rfl, trivial, rfl, ?_⟩⟩
    intro hpre hlen
    refine ⟨trivial, ?_⟩
    obtain ⟨v, e1, e2, e3, e4⟩ := awk_V
    have e0 := awk_E
    have d0 := litA_flat
    have d1 := litA_deep
    have d2 := litA_dec
    unfold litA at d0 d1 d2
    have z1 : ∀ V, deepC eEvt [v] V = deepC eEvt [v] V := fun _ => rfl
    have m1 : isRow eU8 9 1 (litF [SC.v (Value.int IntKind.u8 1), SC.v (Value.int IntKind.u8 1), SC.v (Value.int IntKind.u8 1), SC.v (Value.int IntKind.u8 1), SC.v (Value.int IntKind.u8 1), SC.v (Value.int IntKind.u8 1), SC.v (Value.int IntKind.u8 1), SC.v (Value.int IntKind.u8 1), SC.v (Value.int IntKind.u8 1)] 1) ↔ True := iff_true_intro (lits_row eU8 [1, 1, 1, 1, 1, 1, 1, 1, 1]).1
    have m2 : decL eU8 9 (litF [SC.v (Value.int IntKind.u8 1), SC.v (Value.int IntKind.u8 1), SC.v (Value.int IntKind.u8 1), SC.v (Value.int IntKind.u8 1), SC.v (Value.int IntKind.u8 1), SC.v (Value.int IntKind.u8 1), SC.v (Value.int IntKind.u8 1), SC.v (Value.int IntKind.u8 1), SC.v (Value.int IntKind.u8 1)] 1) = [1, 1, 1, 1, 1, 1, 1, 1, 1] := (lits_row eU8 [1, 1, 1, 1, 1, 1, 1, 1, 1]).2
    have m3 : ([1, 1, 1, 1, 1, 1, 1, 1, 1] : List Int) = roomL := rfl
    rw [m3] at m2
    simp (maxSteps := 9999999) only [x4, push_cast, simprocAttr, g6f, g7, g9, g12, g8, flatG, g6, flatE, upd, e0, e1, e4, d0, d1, d2, m1, m2, e1]
    have hu : u8s roomL := by intro x hx; simp [roomL] at hx; omega
    have hf := frL_1 e2
    have hf2 := frL_len 1 (encE v)
    have hm : magicL.length = 4 := rfl
    refine ⟨hu, ⟨e2, by rw [e3]; decide, by decide⟩, fun G => ?_⟩
    have hD : decD eEvt 1 (deepF eEvt [v] G) (deepC eEvt [v]) = [v] := decD_deep [v] G
    have hI : isDeep eEvt 1 5 (deepF eEvt [v] G) (deepC eEvt [v]) := (isDeep_deep [v] G 5).2 rfl
    rw [hD]
    exact ⟨hI, fun _ => ⟨⟨rfl, hI, by rw [List.length_append]; omega⟩, rfl, by rw [List.length_append]; omega⟩, fun h => absurd rfl h⟩
  · cases hg_
end Go.Proofs.YtkpdofgmmpbknaaGreat
