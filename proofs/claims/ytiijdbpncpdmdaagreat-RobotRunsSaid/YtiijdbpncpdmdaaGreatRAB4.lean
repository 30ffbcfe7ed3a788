/- A part of the proof of a statement about this seat: how a function is stepped through, and plain laws. No conditions. -/
import Derived.Test.YtiijdbpncpdmdaaGreatRows
import Derived.Test.YtiijdbpncpdmdaaGreatRASz4
import Derived.Test.YtiijdbpncpdmdaaGreatRAB3
import Derived.KernelRfl
set_option linter.unusedVariables false
set_option linter.unusedSimpArgs false
set_option maxRecDepth 20000
namespace Go.Proofs.YtiijdbpncpdmdaaGreat
open Go.Sx Go.Way
def x4 : XFn := ⟨57, (.seq (.reg false [O1 2 (.box 30) 0, K1 4 .mv (.bool false)]) (.seq (.seq (.reg false [⟨(some 11), (.call 6), [], none⟩, O1 12 (.un .not) 11, O1 13 .mv 12, G1 14 (.loadN 10) 2 13 false, G1 15 .mv 1 13 false, G2 16 (.call 7) 14 15 13 false, G1 17 (.un .not) 16 13 false, ⟨(some 18), .pick, [(.t 13), (.k (.bool true)), (.t 17)], none⟩]) (.cond (.t 18) (.seq (.reg false [⟨(some 19), (.call 6), [], none⟩, O1 4 .mv 19]) .ret) .skip)) (.seq (.reg false [O1 21 (.fld 0) 2, O1 22 (.loadN 3) 21, O1 23 (.fld 3) 2, O1 24 (.loadN 4) 23, O1 25 (.fld 7) 2, O1 26 (.loadN 3) 25, O1 27 .mv 1, ⟨(some 28), (.call 18), [(.t 22), (.t 24), (.t 26), (.t 27)], none⟩, O1 20 .mv 28, O1 29 (.ext 0) 20, O1 30 (.ext 1) 20, O1 31 (.ext 2) 20, O1 5 .mv 29, O1 6 .mv 30, O1 7 .mv 31]) (.seq (.reg false [O1 33 (.fld 0) 2, O1 34 (.loadN 3) 33, O1 35 (.fld 3) 2, O1 36 (.loadN 4) 35, O1 37 (.fld 7) 2, O1 38 (.loadN 3) 37, O1 39 .mv 1, ⟨(some 40), (.call 19), [(.t 34), (.t 36), (.t 38), (.t 39)], none⟩, O1 32 .mv 40, O1 41 (.ext 0) 32, O1 42 (.ext 1) 32, O1 43 (.ext 2) 32, O1 8 .mv 41, O1 9 .mv 42, O1 10 .mv 43]) (.seq (.reg false [O1 44 .mv 7, O1 45 .mv 10, O2 46 (.bin .eql) 44 45, O1 47 .mv 46, G1 48 .mv 5 47 true, G1 49 .mv 8 47 true, G2 50 (.call 20) 48 49 47 true, ⟨(some 51), .pick, [(.t 47), (.t 50), (.k (.bool false))], none⟩, O1 52 .mv 51, G1 53 .mv 6 52 true, G1 54 .mv 9 52 true, G2 55 (.call 21) 53 54 52 true, ⟨(some 56), .pick, [(.t 52), (.t 55), (.k (.bool false))], none⟩, O1 4 .mv 56]) .ret))))), [(.s 4)]⟩
theorem x4_ok : xfn Tryz.prog Tryz.f4 = some x4.er := by kernel_rfl
noncomputable def g4 : Con := fun args_ E_ nn_ => match args_ with
  | [.a [.v (.int .i64 s_Plan_W), .v (.int .i64 s_Plan_H), .n s_Plan_Cells, .v (.int .i64 s_Bounds_Turn), .v (.int .i64 s_Bounds_Length), .v (.int .i64 s_Bounds_Slip), .v (.int .i64 s_Bounds_Range), .v (.int .i64 s_At_X), .v (.int .i64 s_At_Y), .v (.int .i64 s_At_H)], .c (.n acts)] => (match rowOf E_ s_Plan_Cells with
    | some (s_Plan_Cells_n, s_Plan_Cells_s, s_Plan_Cells_f) => (match rowD eAct.sz E_ acts with
    | some (acts_n, acts_s, acts_f, acts_c) => some (.q (isRow eU8 s_Plan_Cells_n s_Plan_Cells_s s_Plan_Cells_f ∧ isDeep eAct acts_n acts_s acts_f acts_c ∧ u8s (decL eU8 s_Plan_Cells_n s_Plan_Cells_f)) (.o (.c (.v (.bool (true))))))
    | none => none)
    | none => none)
  | _ => none
theorem c4 : COk Tryz.prog 4 g4 := by
  refine cok_q Tryz.func4 x4_ok (by kernel_rfl) (cok_tab (cok_cons c6 (cok_cons c7 (cok_cons c18 (cok_cons c19 (cok_cons c20 (cok_cons c21 cok_nil))))))) ?_
  intro args_ E_ nn_ cr_ hg_
  unfold g4 at hg_
  split at hg_
  · rename_i s_Plan_W s_Plan_H s_Plan_Cells s_Bounds_Turn s_Bounds_Length s_Bounds_Slip s_Bounds_Range s_At_X s_At_Y s_At_H acts
    split at hg_
    · rename_i s_Plan_Cells_n s_Plan_Cells_s s_Plan_Cells_f h_s_Plan_Cells
      split at hg_
      · rename_i acts_n acts_s acts_f acts_c h_acts
        cases hg_
        refine ⟨_, _, rfl, 2, [s_Plan_Cells, acts], [.a [.v (.int .i64 s_Plan_W), .v (.int .i64 s_Plan_H), .n 0, .v (.int .i64 s_Bounds_Turn), .v (.int .i64 s_Bounds_Length), .v (.int .i64 s_Bounds_Slip), .v (.int .i64 s_Bounds_Range), .v (.int .i64 s_At_X), .v (.int .i64 s_At_Y), .v (.int .i64 s_At_H)], .c (.n 1)], [(0, .ro (decL eU8 s_Plan_Cells_n s_Plan_Cells_f).length eU8.sz (rowF eU8 (decL eU8 s_Plan_Cells_n s_Plan_Cells_f))), (1, .deep none (decD eAct acts_n acts_f acts_c).length eAct.sz (deepF eAct (decD eAct acts_n acts_f acts_c) acts_f) (deepC eAct (decD eAct acts_n acts_f acts_c)) [])], .o (.c (.v (.bool (true)))), rfl, rfl, and3 (by simp only [push_cast, simprocAttr]) ⟨rfl, ⟨inE0_row h_s_Plan_Cells, inE0_deep h_acts, trivial⟩, rfl, ?_⟩⟩
        intro hpre hlen
        obtain ⟨i_s_Plan_Cells, hpre⟩ := hpre
        obtain ⟨i_acts, hpre⟩ := hpre
        refine ⟨⟨inE_row h_s_Plan_Cells i_s_Plan_Cells, inE_deep h_acts i_acts, trivial⟩, ?_⟩
        have z_s_Plan_Cells := lens_row (E := eU8) hlen h_s_Plan_Cells
        have z_acts := lens_deep (D := eAct) hlen h_acts
        clear i_s_Plan_Cells
        generalize decL eU8 s_Plan_Cells_n s_Plan_Cells_f = s_Plan_CellsL at *
        clear i_acts
        generalize decD eAct acts_n acts_f acts_c = actsL at *
        clear h_s_Plan_Cells
        clear h_acts
        simp (maxSteps := 9999999) only [x4, push_cast, simprocAttr, g6, g7, g18, g19, g20, g21]
        intro hf
        have hl := few_len hf
        exact ⟨hpre, Nat.le_trans hl.2 (by omega)⟩
      · cases hg_
    · cases hg_
  · cases hg_
noncomputable def g3 : Con := fun args_ E_ nn_ => match args_ with
  | [.a [.v (.int .i64 s_Plan_W), .v (.int .i64 s_Plan_H), .n s_Plan_Cells, .v (.int .i64 s_Bounds_Turn), .v (.int .i64 s_Bounds_Length), .v (.int .i64 s_Bounds_Slip), .v (.int .i64 s_Bounds_Range), .v (.int .i64 s_At_X), .v (.int .i64 s_At_Y), .v (.int .i64 s_At_H)], .c (.n acts)] => (match rowOf E_ s_Plan_Cells with
    | some (s_Plan_Cells_n, s_Plan_Cells_s, s_Plan_Cells_f) => (match rowD eAct.sz E_ acts with
    | some (acts_n, acts_s, acts_f, acts_c) => some (.q (isRow eU8 s_Plan_Cells_n s_Plan_Cells_s s_Plan_Cells_f ∧ isDeep eAct acts_n acts_s acts_f acts_c ∧ u8s (decL eU8 s_Plan_Cells_n s_Plan_Cells_f)) (.o (.c (.v (.bool (true))))))
    | none => none)
    | none => none)
  | _ => none
end Go.Proofs.YtiijdbpncpdmdaaGreat
