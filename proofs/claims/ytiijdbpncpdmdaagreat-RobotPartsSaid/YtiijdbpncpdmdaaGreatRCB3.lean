/- A part of the proof of a statement about this seat: how a function is stepped through, and plain laws. No conditions. -/
import Derived.Test.YtiijdbpncpdmdaaGreatRows
import Derived.Test.YtiijdbpncpdmdaaGreatRCSz4
import Derived.Test.YtiijdbpncpdmdaaGreatRCB2
import Derived.KernelRfl
set_option linter.unusedVariables false
set_option linter.unusedSimpArgs false
set_option maxRecDepth 20000
namespace Go.Proofs.YtiijdbpncpdmdaaGreat
open Go.Sx Go.Way
def x17 : XFn := ⟨31, (.seq (.reg false [O1 2 (.box 50) 0, O1 3 (.box 50) 1, K1 4 .mv (.bool false)]) (.seq (.reg false [O1 5 (.fld 0) 2, O1 6 .load1 5, O1 7 (.fld 0) 3, O1 8 .load1 7, O2 9 (.bin .eql) 6 8, O1 10 .mv 9, G1 11 (.fld 1) 2 10 true, G1 12 (.loadN 2) 11 10 true, G1 13 (.fld 1) 3 10 true, G1 14 (.loadN 2) 13 10 true, ⟨(some 15), (.eqA false [(.i .i64), (.i .i64)]), [(.t 12), (.t 14)], (some (10, true))⟩, ⟨(some 16), .pick, [(.t 10), (.t 15), (.k (.bool false))], none⟩, O1 17 .mv 16, G1 18 (.fld 3) 2 17 true, G1 19 .load1 18 17 true, G1 20 (.fld 3) 3 17 true, G1 21 .load1 20 17 true, G2 22 (.binb .eql) 19 21 17 true, ⟨(some 23), .pick, [(.t 17), (.t 22), (.k (.bool false))], none⟩, O1 24 .mv 23, G1 25 (.fld 4) 2 24 true, G1 26 .load1 25 24 true, G1 27 (.fld 4) 3 24 true, G1 28 .load1 27 24 true, G2 29 (.call 43) 26 28 24 true, ⟨(some 30), .pick, [(.t 24), (.t 29), (.k (.bool false))], none⟩, O1 4 .mv 30]) .ret)), [(.s 4)]⟩
theorem x17_ok : xfn Tryz.prog Tryz.f17 = some x17.er := by kernel_rfl
def x20L0 : XC := (.seq (.seq (.reg false [O1 11 .mv 5, O1 12 .mv 0, O1 13 .lenS 12, O2 14 (.bin .lss) 11 13]) (.cond (.t 14) .skip (.exit 0))) (.seq (.opn 1 5 4 (.opn 0 5 4 (.block 1 (.seq (.reg true [O1 17 .mv 0, O1 18 .mv 5, O2 19 (.ixS 5) 17 18, O1 20 (.loadN 5) 19, O1 21 .mv 1, O1 22 .mv 5, O2 23 (.ixS 5) 21 22, O1 24 (.loadN 5) 23, O2 25 (.call 17) 20 24, O1 26 (.un .not) 25]) (.cond (.t 26) (.seq (.reg false [K1 4 .mv (.bool false)]) .ret) .skip))))) (.reg false [O1 15 .mv 5, K2 16 (.bin .add) 15 (iV 1), O1 5 .mv 16])))
def x20 : XFn := ⟨27, (.seq (.reg false [K1 4 .mv (.bool false)]) (.seq (.seq (.reg false [O1 6 .mv 0, O1 7 .lenS 6, O1 8 .mv 1, O1 9 .lenS 8, O2 10 (.bin .neq) 7 9]) (.cond (.t 10) (.seq (.reg false [K1 4 .mv (.bool false)]) .ret) .skip)) (.seq (.seq (.reg false [K1 5 .mv (iV 0)]) (.block 0 (.loop x20L0))) (.seq (.reg false [K1 4 .mv (.bool true)]) .ret)))), [(.s 4)]⟩
theorem x20_ok : xfn Tryz.prog Tryz.f20 = some x20.er := by kernel_rfl
def g43 : Con := fun args_ E_ nn_ => match args_ with
  | [.c (.n a), .c (.n b)] => (match rowOf E_ a with
    | some (a_n, a_s, a_f) => (match rowOf E_ b with
    | some (b_n, b_s, b_f) => some (.q (isRow eC a_n a_s a_f ∧ isRow eC b_n b_s b_f ∧ True) (.o (.c (.v (.bool (decide ((decL eC a_n a_f) = (decL eC b_n b_f))))))))
    | none => none)
    | none => none)
  | _ => none
theorem c43 : COk Tryz.prog 43 g43 := by
  refine cok_q Tryz.func43 x43_ok (by kernel_rfl) (cok_tab cok_nil) ?_
  intro args_ E_ nn_ cr_ hg_
  unfold g43 at hg_
  split at hg_
  · rename_i a b
    split at hg_
    · rename_i a_n a_s a_f h_a
      split at hg_
      · rename_i b_n b_s b_f h_b
        cases hg_
        refine ⟨_, _, rfl, 2, [a, b], [.c (.n 0), .c (.n 1)], [(0, .ro (decL eC a_n a_f).length eC.sz (rowF eC (decL eC a_n a_f))), (1, .ro (decL eC b_n b_f).length eC.sz (rowF eC (decL eC b_n b_f)))], .o (.c (.v (.bool (decide ((decL eC a_n a_f) = (decL eC b_n b_f)))))), rfl, rfl, and3 (by simp only [push_cast, simprocAttr]) ⟨rfl, ⟨inE0_row h_a, inE0_row h_b, trivial⟩, rfl, ?_⟩⟩
        intro hpre hlen
        obtain ⟨i_a, hpre⟩ := hpre
        obtain ⟨i_b, hpre⟩ := hpre
        refine ⟨⟨inE_row h_a i_a, inE_row h_b i_b, trivial⟩, ?_⟩
        have z_a := lens_row (E := eC) hlen h_a
        have z_b := lens_row (E := eC) hlen h_b
        clear i_a
        generalize decL eC a_n a_f = aL at *
        clear i_b
        generalize decL eC b_n b_f = bL at *
        clear h_a
        clear h_b
        simp (maxSteps := 9999999) only [x43, push_cast, simprocAttr]
        refine ⟨fun h => ?_, fun h => ?_⟩
        · symm; rw [decide_eq_false_iff_not]; intro e; exact h (by rw [e])
        refine vcLoop_upd (α := {k : Nat // k ≤ aL.length ∧ ∀ i, i < k → aL.getD i eC.dflt = bL.getD i eC.dflt}) [0, 1] 0 (fun s => [(5, .o (.c (.v (.int .i64 (s.1 : Nat)))))]) (fun s => []) (fun s => aL.length - s.1) ⟨0, by omega, fun i hi => by omega⟩ ?_ ?_
        · simp only [push_cast, simprocAttr]
        · rintro ⟨k, hk, hall⟩
          simp only [x43L0, push_cast, simprocAttr]
          refine ⟨fun hlt => ⟨hlt, hlt, by omega, by omega, fun hne => ?_, fun hx hy => ⟨⟨k + 1, by omega, fun i hi => ?_⟩, ?_, by simp only; omega⟩⟩, fun hge => ?_⟩
          · symm; rw [decide_eq_false_iff_not]; intro e; rw [e] at hne; simp at hne
          · by_cases hik : i = k
            · subst hik; rw [← decide_eq_true_eq (p := aL.getD i eC.dflt = bL.getD i eC.dflt), ← cc_eq, hx, hy]; simp
            · exact hall i (by omega)
          · rw [wrapI (by omega) (by omega)]; rfl
          · symm; rw [decide_eq_true_eq]; exact getD_ext eC.dflt (by omega) (fun i hi => hall i (by omega))
      · cases hg_
    · cases hg_
  · cases hg_
def g17 : Con := fun args_ E_ nn_ => match args_ with
  | [.a [.v (.int .i64 a_Tick), .v (.int .i64 a_Command_Turn), .v (.int .i64 a_Command_Forward), .v (.bool a_Bump), .n a_Scan], .a [.v (.int .i64 b_Tick), .v (.int .i64 b_Command_Turn), .v (.int .i64 b_Command_Forward), .v (.bool b_Bump), .n b_Scan]] => (match rowOf E_ a_Scan with
    | some (a_Scan_n, a_Scan_s, a_Scan_f) => (match rowOf E_ b_Scan with
    | some (b_Scan_n, b_Scan_s, b_Scan_f) => some (.q (isRow eC a_Scan_n a_Scan_s a_Scan_f ∧ isRow eC b_Scan_n b_Scan_s b_Scan_f ∧ True) (.o (.c (.v (.bool (decide ((⟨a_Tick, a_Command_Turn, a_Command_Forward, a_Bump, (decL eC a_Scan_n a_Scan_f)⟩ : EvtL) = (⟨b_Tick, b_Command_Turn, b_Command_Forward, b_Bump, (decL eC b_Scan_n b_Scan_f)⟩ : EvtL))))))))
    | none => none)
    | none => none)
  | _ => none
theorem c17 : COk Tryz.prog 17 g17 := by
  refine cok_q Tryz.func17 x17_ok (by kernel_rfl) (cok_tab (cok_cons c43 cok_nil)) ?_
  intro args_ E_ nn_ cr_ hg_
  unfold g17 at hg_
  split at hg_
  · rename_i a_Tick a_Command_Turn a_Command_Forward a_Bump a_Scan b_Tick b_Command_Turn b_Command_Forward b_Bump b_Scan
    split at hg_
    · rename_i a_Scan_n a_Scan_s a_Scan_f h_a_Scan
      split at hg_
      · rename_i b_Scan_n b_Scan_s b_Scan_f h_b_Scan
        cases hg_
        refine ⟨_, _, rfl, 2, [a_Scan, b_Scan], [.a [.v (.int .i64 a_Tick), .v (.int .i64 a_Command_Turn), .v (.int .i64 a_Command_Forward), .v (.bool a_Bump), .n 0], .a [.v (.int .i64 b_Tick), .v (.int .i64 b_Command_Turn), .v (.int .i64 b_Command_Forward), .v (.bool b_Bump), .n 1]], [(0, .ro (decL eC a_Scan_n a_Scan_f).length eC.sz (rowF eC (decL eC a_Scan_n a_Scan_f))), (1, .ro (decL eC b_Scan_n b_Scan_f).length eC.sz (rowF eC (decL eC b_Scan_n b_Scan_f)))], .o (.c (.v (.bool (decide ((⟨a_Tick, a_Command_Turn, a_Command_Forward, a_Bump, (decL eC a_Scan_n a_Scan_f)⟩ : EvtL) = (⟨b_Tick, b_Command_Turn, b_Command_Forward, b_Bump, (decL eC b_Scan_n b_Scan_f)⟩ : EvtL)))))), rfl, rfl, and3 (by simp only [push_cast, simprocAttr]) ⟨rfl, ⟨inE0_row h_a_Scan, inE0_row h_b_Scan, trivial⟩, rfl, ?_⟩⟩
        intro hpre hlen
        obtain ⟨i_a_Scan, hpre⟩ := hpre
        obtain ⟨i_b_Scan, hpre⟩ := hpre
        refine ⟨⟨inE_row h_a_Scan i_a_Scan, inE_row h_b_Scan i_b_Scan, trivial⟩, ?_⟩
        have z_a_Scan := lens_row (E := eC) hlen h_a_Scan
        have z_b_Scan := lens_row (E := eC) hlen h_b_Scan
        clear i_a_Scan
        generalize decL eC a_Scan_n a_Scan_f = a_ScanL at *
        clear i_b_Scan
        generalize decL eC b_Scan_n b_Scan_f = b_ScanL at *
        clear h_a_Scan
        clear h_b_Scan
        simp (maxSteps := 9999999) only [x17, push_cast, simprocAttr, g43]
        rw [Bool.eq_iff_iff]
        simp
        simp only [and_assoc]
      · cases hg_
    · cases hg_
  · cases hg_
def g20 : Con := fun args_ E_ nn_ => match args_ with
  | [.c (.n a), .c (.n b)] => (match rowD eEvt.sz E_ a with
    | some (a_n, a_s, a_f, a_c) => (match rowD eEvt.sz E_ b with
    | some (b_n, b_s, b_f, b_c) => some (.q (isDeep eEvt a_n a_s a_f a_c ∧ isDeep eEvt b_n b_s b_f b_c ∧ True) (.o (.c (.v (.bool (decide ((decD eEvt a_n a_f a_c) = (decD eEvt b_n b_f b_c))))))))
    | none => none)
    | none => none)
  | _ => none
theorem c20 : COk Tryz.prog 20 g20 := by
  refine cok_q Tryz.func20 x20_ok (by kernel_rfl) (cok_tab (cok_cons c17 cok_nil)) ?_
  intro args_ E_ nn_ cr_ hg_
  unfold g20 at hg_
  split at hg_
  · rename_i a b
    split at hg_
    · rename_i a_n a_s a_f a_c h_a
      split at hg_
      · rename_i b_n b_s b_f b_c h_b
        cases hg_
        refine ⟨_, _, rfl, 2, [a, b], [.c (.n 0), .c (.n 1)], [(0, .deep none (decD eEvt a_n a_f a_c).length eEvt.sz (deepF eEvt (decD eEvt a_n a_f a_c) a_f) (deepC eEvt (decD eEvt a_n a_f a_c)) []), (1, .deep none (decD eEvt b_n b_f b_c).length eEvt.sz (deepF eEvt (decD eEvt b_n b_f b_c) b_f) (deepC eEvt (decD eEvt b_n b_f b_c)) [])], .o (.c (.v (.bool (decide ((decD eEvt a_n a_f a_c) = (decD eEvt b_n b_f b_c)))))), rfl, rfl, and3 (by simp only [push_cast, simprocAttr]) ⟨rfl, ⟨inE0_deep h_a, inE0_deep h_b, trivial⟩, rfl, ?_⟩⟩
        intro hpre hlen
        obtain ⟨i_a, hpre⟩ := hpre
        obtain ⟨i_b, hpre⟩ := hpre
        refine ⟨⟨inE_deep h_a i_a, inE_deep h_b i_b, trivial⟩, ?_⟩
        have z_a := lens_deep (D := eEvt) hlen h_a
        have z_b := lens_deep (D := eEvt) hlen h_b
        clear i_a
        generalize decD eEvt a_n a_f a_c = aL at *
        clear i_b
        generalize decD eEvt b_n b_f b_c = bL at *
        clear h_a
        clear h_b
        simp (maxSteps := 9999999) only [x20, push_cast, simprocAttr, g17]
        refine ⟨fun h => ?_, fun h => ?_⟩
        · symm; rw [decide_eq_false_iff_not]; intro e; exact h (by rw [e])
        refine vcLoop_upd (α := {k : Nat // k ≤ aL.length ∧ ∀ i, i < k → aL.getD i eEvt.dflt = bL.getD i eEvt.dflt}) [0, 1] 0 (fun s => [(5, .o (.c (.v (.int .i64 (s.1 : Nat)))))]) (fun s => []) (fun s => aL.length - s.1) ⟨0, by omega, fun i hi => by omega⟩ ?_ ?_
        · simp only [push_cast, simprocAttr, g17]
        · rintro ⟨k, hk, hall⟩
          simp only [x20L0, push_cast, simprocAttr, g17]
          refine ⟨fun hlt => ⟨by omega, hlt, hlt, hlt, by omega, by omega, fun hne => ?_, fun he => ⟨⟨k + 1, by omega, fun i hi => ?_⟩, wrapI (by omega) (by omega), by simp only; omega⟩⟩, fun hge => ?_⟩
          · symm; rw [decide_eq_false_iff_not]; intro e; rw [e] at hne; exact hne rfl
          · rcases Nat.lt_succ_iff_lt_or_eq.1 hi with q | q
            · exact hall i q
            · subst q; exact he
          · symm; rw [decide_eq_true_eq]; exact getD_ext eEvt.dflt (by omega) (fun i hi => hall i (by omega))
      · cases hg_
    · cases hg_
  · cases hg_
end Go.Proofs.YtiijdbpncpdmdaaGreat
