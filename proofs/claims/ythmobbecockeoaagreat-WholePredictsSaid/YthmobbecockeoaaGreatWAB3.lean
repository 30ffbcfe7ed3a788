/- A part of the proof of a statement about this seat: how a function is stepped through, and plain laws. No conditions. -/
import Derived.Test.YthmobbecockeoaaGreatRows
import Derived.Test.YthmobbecockeoaaGreatWASz4
import Derived.Test.YthmobbecockeoaaGreatWAB2
import Derived.KernelRfl
set_option linter.unusedVariables false
set_option linter.unusedSimpArgs false
set_option maxRecDepth 20000
namespace Go.Proofs.YthmobbecockeoaaGreat
open Go.Sx Go.Way
def briefB (L : List Int) (A : List ActL) : Bool := decide (L.length ≤ 64) && decide (A.length ≤ 10) && A.all fun a => !(decide (4 < a.marks.length) || decide (40 < a.errs.length))
theorem brief_len {L : List Int} {A : List ActL} (h : briefB L A = true) : L.length ≤ 64 ∧ A.length ≤ 10 := by
  unfold briefB at h
  simp only [Bool.and_eq_true, decide_eq_true_eq] at h
  exact h.1
def x5L0 : XC := (.seq (.seq (.reg false [O1 16 .mv 5, O1 17 .mv 1, O1 18 .lenS 17, O2 19 (.bin .lss) 16 18]) (.cond (.t 19) .skip (.exit 0))) (.seq (.opn 1 5 7 (.opn 1 5 6 (.block 1 (.seq (.reg false [O1 22 .mv 1, O1 23 .mv 5, O2 24 (.ixS 8) 22 23, O1 25 (.fld 6) 24, O1 26 .load1 25, O1 27 .lenS 26, K2 28 (.bin .gtr) 27 (iV 4), O1 29 .mv 28, G1 30 .mv 1 29 false, G1 31 .mv 5 29 false, G2 32 (.ixS 8) 30 31 29 false, G1 33 (.fld 7) 32 29 false, G1 34 .load1 33 29 false, G1 35 .lenS 34 29 false, GK 36 (.bin .gtr) 35 (iV 40) 29 false, ⟨(some 37), .pick, [(.t 29), (.k (.bool true)), (.t 36)], none⟩]) (.cond (.t 37) (.seq (.reg false [K1 4 .mv (.bool false)]) .ret) .skip))))) (.reg false [O1 20 .mv 5, K2 21 (.bin .add) 20 (iV 1), O1 5 .mv 21])))
def x5 : XFn := ⟨38, (.seq (.reg false [O1 2 (.box 30) 0, K1 4 .mv (.bool false)]) (.seq (.seq (.reg false [O1 6 (.fld 0) 2, O1 7 (.fld 2) 6, O1 8 .load1 7, O1 9 .lenS 8, K2 10 (.bin .gtr) 9 (iV 64), O1 11 .mv 10, G1 12 .mv 1 11 false, G1 13 .lenS 12 11 false, GK 14 (.bin .gtr) 13 (iV 10) 11 false, ⟨(some 15), .pick, [(.t 11), (.k (.bool true)), (.t 14)], none⟩]) (.cond (.t 15) (.seq (.reg false [K1 4 .mv (.bool false)]) .ret) .skip)) (.seq (.seq (.reg false [K1 5 .mv (iV 0)]) (.block 0 (.loop x5L0))) (.seq (.reg false [K1 4 .mv (.bool true)]) .ret)))), [(.s 4)]⟩
theorem x5_ok : xfn Tryz.prog Tryz.f5 = some x5.er := by kernel_rfl
def g5 : Con := fun args_ E_ nn_ => match args_ with
  | [.a [.v (.int .i64 s_Plan_W), .v (.int .i64 s_Plan_H), .n s_Plan_Cells, .v (.int .i64 s_Bounds_Turn), .v (.int .i64 s_Bounds_Length), .v (.int .i64 s_Bounds_Slip), .v (.int .i64 s_Bounds_Range), .v (.int .i64 s_At_X), .v (.int .i64 s_At_Y), .v (.int .i64 s_At_H)], .c (.n acts)] => (match rowOf E_ s_Plan_Cells with
    | some (s_Plan_Cells_n, s_Plan_Cells_s, s_Plan_Cells_f) => (match rowD eAct.sz E_ acts with
    | some (acts_n, acts_s, acts_f, acts_c) => some (.q (isRow eU8 s_Plan_Cells_n s_Plan_Cells_s s_Plan_Cells_f ∧ isDeep eAct acts_n acts_s acts_f acts_c ∧ True) (.o (.c (.v (.bool (briefB (decL eU8 s_Plan_Cells_n s_Plan_Cells_f) (decD eAct acts_n acts_f acts_c)))))))
    | none => none)
    | none => none)
  | _ => none
theorem c5 : COk Tryz.prog 5 g5 := by
  refine cok_q Tryz.func5 x5_ok (by kernel_rfl) (cok_tab cok_nil) ?_
  intro args_ E_ nn_ cr_ hg_
  unfold g5 at hg_
  split at hg_
  · rename_i s_Plan_W s_Plan_H s_Plan_Cells s_Bounds_Turn s_Bounds_Length s_Bounds_Slip s_Bounds_Range s_At_X s_At_Y s_At_H acts
    split at hg_
    · rename_i s_Plan_Cells_n s_Plan_Cells_s s_Plan_Cells_f h_s_Plan_Cells
      split at hg_
      · rename_i acts_n acts_s acts_f acts_c h_acts
        cases hg_
        refine ⟨_, _, rfl, 2, [s_Plan_Cells, acts], [.a [.v (.int .i64 s_Plan_W), .v (.int .i64 s_Plan_H), .n 0, .v (.int .i64 s_Bounds_Turn), .v (.int .i64 s_Bounds_Length), .v (.int .i64 s_Bounds_Slip), .v (.int .i64 s_Bounds_Range), .v (.int .i64 s_At_X), .v (.int .i64 s_At_Y), .v (.int .i64 s_At_H)], .c (.n 1)], [(0, .ro (decL eU8 s_Plan_Cells_n s_Plan_Cells_f).length eU8.sz (rowF eU8 (decL eU8 s_Plan_Cells_n s_Plan_Cells_f))), (1, .deep none (decD eAct acts_n acts_f acts_c).length eAct.sz (deepF eAct (decD eAct acts_n acts_f acts_c) acts_f) (deepC eAct (decD eAct acts_n acts_f acts_c)) [])], .o (.c (.v (.bool (briefB (decL eU8 s_Plan_Cells_n s_Plan_Cells_f) (decD eAct acts_n acts_f acts_c))))), rfl, rfl, by simp only [push_cast, Nat.reduceLT, Nat.reduceAdd], by simp only [push_cast, Nat.reduceLT, Nat.reduceAdd], by simp only [push_cast, Nat.reduceLT, Nat.reduceAdd], rfl, ⟨inE0_row h_s_Plan_Cells, inE0_deep h_acts, trivial⟩, rfl, ?_⟩
        intro hpre hlen
        obtain ⟨i_s_Plan_Cells, hpre⟩ := hpre
        obtain ⟨i_acts, hpre⟩ := hpre
        refine ⟨⟨inE_row h_s_Plan_Cells i_s_Plan_Cells, inE_deep h_acts i_acts, trivial⟩, ?_⟩
        have z_s_Plan_Cells := lens_row (E := eU8) hlen h_s_Plan_Cells
        have z_acts := lens_deep (D := eAct) hlen h_acts
        clear i_s_Plan_Cells
        generalize decL eU8 s_Plan_Cells_n s_Plan_Cells_f = s_Plan_CellsL at *
        clear i_acts
        generalize decD eAct acts_n acts_f acts_c = actsL at *
        clear h_s_Plan_Cells
        clear h_acts
        simp (config := {maxSteps := 10000000}) only [x5, push_cast, Nat.reduceAdd, Nat.reduceSub, Nat.reduceLeDiff, Nat.reduceEqDiff, Nat.reduceBEq, Nat.reduceMul, Nat.reduceLT, ↓reduceIte, reduceCtorEq, Int.reduceLE, Int.reduceLT, Int.reduceEq, Int.reduceMul, Int.reduceAdd, Int.reduceSub, Int.reduceNeg, Int.reduceToNat, Int.reduceNe]
        refine ⟨fun h => ?_, fun h1 h2 => ?_⟩
        · unfold briefB
          rcases h with h | h
          · rw [decide_eq_false (p := s_Plan_CellsL.length ≤ 64) (by omega)]; rfl
          · rw [decide_eq_false (p := actsL.length ≤ 10) (by omega)]; simp
        refine vcLoop_upd (α := {k : Nat // k ≤ actsL.length ∧ ∀ i, i < k → (decide (4 < (actsL.getD i eAct.dflt).marks.length) || decide (40 < (actsL.getD i eAct.dflt).errs.length)) = false}) [1] 0 (fun s => [(5, .o (.c (.v (.int .i64 (s.1 : Nat)))))]) (fun s => []) (fun s => actsL.length - s.1) ⟨0, by omega, fun i hi => by omega⟩ ?_ ?_
        · simp only [push_cast, Nat.reduceAdd, Nat.reduceSub, Nat.reduceLeDiff, Nat.reduceEqDiff, Nat.reduceBEq, Nat.reduceMul, Nat.reduceLT, ↓reduceIte, reduceCtorEq, Int.reduceLE, Int.reduceLT, Int.reduceEq, Int.reduceMul, Int.reduceAdd, Int.reduceSub, Int.reduceNeg, Int.reduceToNat, Int.reduceNe]
        rintro ⟨k, hk, hall⟩
        simp only [x5L0, push_cast, Nat.reduceAdd, Nat.reduceSub, Nat.reduceLeDiff, Nat.reduceEqDiff, Nat.reduceBEq, Nat.reduceMul, Nat.reduceLT, ↓reduceIte, reduceCtorEq, Int.reduceLE, Int.reduceLT, Int.reduceEq, Int.reduceMul, Int.reduceAdd, Int.reduceSub, Int.reduceNeg, Int.reduceToNat, Int.reduceNe]
        refine ⟨fun hlt => ⟨hlt, hlt, hlt, hlt, fun h => ⟨h, hlt⟩, fun h => ⟨h, hlt⟩, fun h3 => ?_, fun h3 h4 => ⟨⟨k + 1, by omega, fun i hi => ?_⟩, wrapI (by omega) (by omega), by simp only; omega⟩⟩, fun hge => ?_⟩
        · symm; unfold briefB
          have hm : actsL.getD k eAct.dflt ∈ actsL := by rw [List.getD_eq_getElem?_getD, List.getElem?_eq_getElem hlt, Option.getD_some]; exact List.getElem_mem hlt
          have : (actsL.all fun a => !(decide (4 < a.marks.length) || decide (40 < a.errs.length))) = false := by
            rw [Bool.eq_false_iff]; intro q
            rw [List.all_eq_true] at q
            have := q _ hm
            simp only [Bool.not_eq_true', Bool.or_eq_false_iff, decide_eq_false_iff_not] at this
            omega
          rw [this, Bool.and_false]
        · rcases Nat.lt_succ_iff_lt_or_eq.1 hi with q | q
          · exact hall i q
          · subst q; rw [decide_eq_false (by omega), decide_eq_false (by omega)]; rfl
        · symm; unfold briefB
          rw [decide_eq_true (p := s_Plan_CellsL.length ≤ 64) (by omega), decide_eq_true (p := actsL.length ≤ 10) (by omega), Bool.true_and, Bool.true_and, List.all_eq_true]
          intro z hz
          obtain ⟨i, hi, rfl⟩ := List.getElem_of_mem hz
          have := hall i (by omega)
          rw [List.getD_eq_getElem?_getD, List.getElem?_eq_getElem hi, Option.getD_some] at this
          rw [this]; rfl
      · cases hg_
    · cases hg_
  · cases hg_
theorem bb_eta (x : BB) : BB.mk x.X0 x.Y0 x.X1 x.Y1 x.F x.N = x := rfl
attribute [push_cast] bb_eta
theorem imgs_bad {L : List BB} {T F bT bL bS bR : Int} {k : Nat} (hg : goodL L) (hb : vBd bT bL bS bR) (hc : vCm T F) (hk : k < L.length) (h : ¬ imgE (L.getD k eB.dflt) T F bT bL bS bR = 0) : imgE (L.getD k eB.dflt) T F bT bL bS bR = imgsE L T F bT bL bS bR ∧ imgsV L T F bT bL bS bR = [] := by
  have e : imgsE L T F bT bL bS bR = 2 := by
    unfold imgsE
    rw [if_neg]
    intro q
    rw [List.all_eq_true] at q
    have := q _ (getB_in hk)
    rw [decide_eq_true_eq] at this
    exact h this
  rcases img_02 (hg _ (getB_in hk)) hb hc with q | q
  · exact absurd q h
  · exact ⟨by rw [q, e], by unfold imgsV; rw [if_neg (by rw [e]; decide)]⟩
theorem imgs_end {L : List BB} {T F bT bL bS bR : Int} (h : ∀ i, i < L.length → imgE (L.getD i eB.dflt) T F bT bL bS bR = 0) : imgsE L T F bT bL bS bR = 0 ∧ imgsV L T F bT bL bS bR = (L.take L.length).map (fun b => imgV b T F bT bL bS bR) := by
  have e : imgsE L T F bT bL bS bR = 0 := by
    unfold imgsE
    rw [if_pos]
    rw [List.all_eq_true]
    intro b hb
    obtain ⟨i, hi, rfl⟩ := memB_at hb
    rw [decide_eq_true_eq]; exact h i hi
  exact ⟨e, by unfold imgsV; rw [if_pos e, List.take_length]⟩
theorem mapK_succ {L : List BB} (f : BB → BB) {k : Nat} (hk : k < L.length) : (L.take (k + 1)).map f = (L.take k).map f ++ [f (L.getD k eB.dflt)] := by
  rw [List.take_add_one, List.map_append, List.getElem?_eq_getElem hk, List.getD_eq_getElem?_getD, List.getElem?_eq_getElem hk]; rfl
def g9 : Con := fun args_ E_ nn_ => match args_ with
  | [.c (.n st), .a [.v (.int .i64 c_Turn), .v (.int .i64 c_Forward)], .a [.v (.int .i64 bd_Turn), .v (.int .i64 bd_Length), .v (.int .i64 bd_Slip), .v (.int .i64 bd_Range)], .c (.v (.bool bump))] => (match rowOf E_ st with
    | some (st_n, st_s, st_f) => some (.e (isRow eB st_n st_s st_f ∧ ((decL eB st_n st_f)).length ≤ 16 ∧ goodL (decL eB st_n st_f) ∧ (-32 ≤ c_Turn ∧ c_Turn ≤ 32) ∧ (0 ≤ c_Forward ∧ c_Forward ≤ 32) ∧ (0 ≤ bd_Turn ∧ bd_Turn ≤ 8) ∧ (0 ≤ bd_Length ∧ bd_Length ≤ 16) ∧ (0 ≤ bd_Slip ∧ bd_Slip ≤ 8) ∧ 1 ≤ bd_Range ∧ bd_Range ≤ 32) (.t [.c (.n (nn_ + 0)), .c (.v (.int .i64 (imgsE (decL eB st_n st_f) c_Turn (if bump = true then 0 else c_Forward) bd_Turn bd_Length bd_Slip bd_Range)))]) [((nn_ + 0), .own (imgsV (decL eB st_n st_f) c_Turn (if bump = true then 0 else c_Forward) bd_Turn bd_Length bd_Slip bd_Range).length 6 (rowF eB (imgsV (decL eB st_n st_f) c_Turn (if bump = true then 0 else c_Forward) bd_Turn bd_Length bd_Slip bd_Range)) 50)] (nn_ + 1))
    | none => none)
  | _ => none
set_option maxHeartbeats 1000000 in
theorem c9 : COk Tryz.prog 9 g9 := by
  refine cok_e Tryz.func9 x9_ok (by kernel_rfl) (cok_tab (cok_cons c20 (cok_cons c21 (cok_cons c22 (cok_cons c23 cok_nil))))) ?_
  intro args_ E_ nn_ cr_ hg_
  unfold g9 at hg_
  split at hg_
  · rename_i st c_Turn c_Forward bd_Turn bd_Length bd_Slip bd_Range bump
    split at hg_
    · rename_i st_n st_s st_f h_st
      cases hg_
      refine ⟨_, _, _, _, rfl, 1, [st], [.c (.n 0), .a [.v (.int .i64 c_Turn), .v (.int .i64 c_Forward)], .a [.v (.int .i64 bd_Turn), .v (.int .i64 bd_Length), .v (.int .i64 bd_Slip), .v (.int .i64 bd_Range)], .c (.v (.bool bump))], [(0, .ro (decL eB st_n st_f).length eB.sz (rowF eB (decL eB st_n st_f)))], .t [.c (.n 1), .c (.v (.int .i64 (imgsE (decL eB st_n st_f) c_Turn (if bump = true then 0 else c_Forward) bd_Turn bd_Length bd_Slip bd_Range)))], [(1, .own (imgsV (decL eB st_n st_f) c_Turn (if bump = true then 0 else c_Forward) bd_Turn bd_Length bd_Slip bd_Range).length 6 (rowF eB (imgsV (decL eB st_n st_f) c_Turn (if bump = true then 0 else c_Forward) bd_Turn bd_Length bd_Slip bd_Range)) 50)], 2, rfl, rfl, by simp only [renE, Ent.ren, rowF_renf] <;> rfl, rfl, by decide, by simp only [push_cast, Nat.reduceLT, Nat.reduceAdd], by simp only [push_cast, Nat.reduceLT, Nat.reduceAdd], by simp only [push_cast, Nat.reduceLT, Nat.reduceAdd], by simp only [push_cast, Nat.reduceLT, Nat.reduceAdd], rfl, ⟨inE0_row h_st, trivial⟩, by simp only [keysNodup, outN, keys] <;> decide, rfl, rfl, ?_⟩
      intro hpre hlen
      obtain ⟨i_st, hpre⟩ := hpre
      refine ⟨⟨inE_row h_st i_st, trivial⟩, by simp only [apartE] <;> (first | trivial | (simp [Ent.mut]; done)), ?_⟩
      have z_st := lens_row (E := eB) hlen h_st
      clear i_st
      generalize decL eB st_n st_f = stL at *
      clear h_st
      cases bump
      · simp only [x9, push_cast, Nat.reduceAdd, Nat.reduceSub, Nat.reduceLeDiff, Nat.reduceEqDiff, Nat.reduceBEq, Nat.reduceMul, Nat.reduceLT, ↓reduceIte, reduceCtorEq, Int.reduceLE, Int.reduceLT, Int.reduceEq, Int.reduceMul, Int.reduceAdd, Int.reduceSub, Int.reduceNeg, Int.reduceToNat, Int.reduceNe, g20, g21, g22, g23]
        refine ⟨fun h => by exfalso; omega, ?_⟩
        intro _ _ _ _ _ _ _ _ _ _ _ _ _
        refine vcLoop_upd (α := {k : Nat // k ≤ stL.length}) [0, 3, 5, 6, 30, 31] 0 (fun s => [(32, .o (.c (.v (.int .i64 (s.1 : Nat)))))]) (fun s => []) (fun s => stL.length - s.1) ⟨0, Nat.zero_le _⟩ ?_ ?_
        · simp only [push_cast, Nat.reduceAdd, Nat.reduceSub, Nat.reduceLeDiff, Nat.reduceEqDiff, Nat.reduceBEq, Nat.reduceMul, Nat.reduceLT, ↓reduceIte, reduceCtorEq, Int.reduceLE, Int.reduceLT, Int.reduceEq, Int.reduceMul, Int.reduceAdd, Int.reduceSub, Int.reduceNeg, Int.reduceToNat, Int.reduceNe, g20, g21, g22, g23]
        rintro ⟨k, hk⟩
        simp only [x9L0, push_cast, Nat.reduceAdd, Nat.reduceSub, Nat.reduceLeDiff, Nat.reduceEqDiff, Nat.reduceBEq, Nat.reduceMul, Nat.reduceLT, ↓reduceIte, reduceCtorEq, Int.reduceLE, Int.reduceLT, Int.reduceEq, Int.reduceMul, Int.reduceAdd, Int.reduceSub, Int.reduceNeg, Int.reduceToNat, Int.reduceNe, g20, g21, g22, g23]
        refine ⟨fun hlt => ⟨hlt, hlt, fun h => ?_, fun _ => ⟨⟨k + 1, by omega⟩, wrapI (by omega) (by omega), by simp only; omega⟩⟩, fun hge => ?_⟩
        · have := hpre.2.1 _ (getB_in hlt)
          unfold valB at this
          rw [this] at h; cases h
        refine vcLoop_upd (α := {k : Nat // k ≤ stL.length ∧ ∀ i, i < k → imgE (stL.getD i eB.dflt) c_Turn (c_Forward) bd_Turn bd_Length bd_Slip bd_Range = 0}) [5, 6, 42, 43] 1 (fun s => [(12, .o (.c (.n 3))), (44, .o (.c (.v (.int .i64 (s.1 : Nat)))))]) (fun s => [(3, .own ((stL.take s.1).map (fun b => imgV b c_Turn (c_Forward) bd_Turn bd_Length bd_Slip bd_Range)).length 6 (rowF eB ((stL.take s.1).map (fun b => imgV b c_Turn (c_Forward) bd_Turn bd_Length bd_Slip bd_Range))) 50)]) (fun s => stL.length - s.1) ⟨0, Nat.zero_le _, fun i hi => by omega⟩ ?_ ?_
        · simp only [push_cast, Nat.reduceAdd, Nat.reduceSub, Nat.reduceLeDiff, Nat.reduceEqDiff, Nat.reduceBEq, Nat.reduceMul, Nat.reduceLT, ↓reduceIte, reduceCtorEq, Int.reduceLE, Int.reduceLT, Int.reduceEq, Int.reduceMul, Int.reduceAdd, Int.reduceSub, Int.reduceNeg, Int.reduceToNat, Int.reduceNe, g20, g21, g22, g23]
          simp
        rintro ⟨i, hi, hall⟩
        simp only [x9L1, push_cast, Nat.reduceAdd, Nat.reduceSub, Nat.reduceLeDiff, Nat.reduceEqDiff, Nat.reduceBEq, Nat.reduceMul, Nat.reduceLT, ↓reduceIte, reduceCtorEq, Int.reduceLE, Int.reduceLT, Int.reduceEq, Int.reduceMul, Int.reduceAdd, Int.reduceSub, Int.reduceNeg, Int.reduceToNat, Int.reduceNe, g20, g21, g22, g23]
        refine ⟨fun hlt => ⟨hlt, hlt, ⟨hpre.2.1 _ (getB_in hlt), by omega⟩, fun h => ?_, fun h => ⟨by simp; omega, ⟨i + 1, by omega, fun q hq => ?_⟩, ⟨wrapI (by omega) (by omega), by simp; omega, push_eq' (x := imgV (stL.getD i eB.dflt) c_Turn (c_Forward) bd_Turn bd_Length bd_Slip bd_Range) rfl rfl (mapK_succ _ hlt)⟩, by simp only; omega⟩⟩, fun hge2 => ?_⟩
        · have z := imgs_bad (T := c_Turn) (F := c_Forward) hpre.2.1 (show vBd bd_Turn bd_Length bd_Slip bd_Range by unfold vBd; omega) (show vCm c_Turn (c_Forward) by unfold vCm; omega) hlt h
          rw [z.2]; exact ⟨z.1, rfl⟩
        · rcases Nat.lt_succ_iff_lt_or_eq.1 hq with w | w
          · exact hall q w
          · subst w; exact h
        obtain rfl : i = stL.length := by omega
        have z := imgs_end hall
        rw [z.1, z.2]
        exact ⟨rfl, rfl, same_eq' rfl⟩
      · simp only [x9, push_cast, Nat.reduceAdd, Nat.reduceSub, Nat.reduceLeDiff, Nat.reduceEqDiff, Nat.reduceBEq, Nat.reduceMul, Nat.reduceLT, ↓reduceIte, reduceCtorEq, Int.reduceLE, Int.reduceLT, Int.reduceEq, Int.reduceMul, Int.reduceAdd, Int.reduceSub, Int.reduceNeg, Int.reduceToNat, Int.reduceNe, g20, g21, g22, g23]
        refine ⟨fun h => by exfalso; omega, ?_⟩
        intro _ _ _ _ _ _ _ _ _ _ _ _ _
        refine vcLoop_upd (α := {k : Nat // k ≤ stL.length}) [0, 3, 5, 6, 30, 31] 0 (fun s => [(32, .o (.c (.v (.int .i64 (s.1 : Nat)))))]) (fun s => []) (fun s => stL.length - s.1) ⟨0, Nat.zero_le _⟩ ?_ ?_
        · simp only [push_cast, Nat.reduceAdd, Nat.reduceSub, Nat.reduceLeDiff, Nat.reduceEqDiff, Nat.reduceBEq, Nat.reduceMul, Nat.reduceLT, ↓reduceIte, reduceCtorEq, Int.reduceLE, Int.reduceLT, Int.reduceEq, Int.reduceMul, Int.reduceAdd, Int.reduceSub, Int.reduceNeg, Int.reduceToNat, Int.reduceNe, g20, g21, g22, g23]
        rintro ⟨k, hk⟩
        simp only [x9L0, push_cast, Nat.reduceAdd, Nat.reduceSub, Nat.reduceLeDiff, Nat.reduceEqDiff, Nat.reduceBEq, Nat.reduceMul, Nat.reduceLT, ↓reduceIte, reduceCtorEq, Int.reduceLE, Int.reduceLT, Int.reduceEq, Int.reduceMul, Int.reduceAdd, Int.reduceSub, Int.reduceNeg, Int.reduceToNat, Int.reduceNe, g20, g21, g22, g23]
        refine ⟨fun hlt => ⟨hlt, hlt, fun h => ?_, fun _ => ⟨⟨k + 1, by omega⟩, wrapI (by omega) (by omega), by simp only; omega⟩⟩, fun hge => ?_⟩
        · have := hpre.2.1 _ (getB_in hlt)
          unfold valB at this
          rw [this] at h; cases h
        refine vcLoop_upd (α := {k : Nat // k ≤ stL.length ∧ ∀ i, i < k → imgE (stL.getD i eB.dflt) c_Turn (0) bd_Turn bd_Length bd_Slip bd_Range = 0}) [5, 6, 42, 43] 1 (fun s => [(12, .o (.c (.n 3))), (44, .o (.c (.v (.int .i64 (s.1 : Nat)))))]) (fun s => [(3, .own ((stL.take s.1).map (fun b => imgV b c_Turn (0) bd_Turn bd_Length bd_Slip bd_Range)).length 6 (rowF eB ((stL.take s.1).map (fun b => imgV b c_Turn (0) bd_Turn bd_Length bd_Slip bd_Range))) 50)]) (fun s => stL.length - s.1) ⟨0, Nat.zero_le _, fun i hi => by omega⟩ ?_ ?_
        · simp only [push_cast, Nat.reduceAdd, Nat.reduceSub, Nat.reduceLeDiff, Nat.reduceEqDiff, Nat.reduceBEq, Nat.reduceMul, Nat.reduceLT, ↓reduceIte, reduceCtorEq, Int.reduceLE, Int.reduceLT, Int.reduceEq, Int.reduceMul, Int.reduceAdd, Int.reduceSub, Int.reduceNeg, Int.reduceToNat, Int.reduceNe, g20, g21, g22, g23]
          simp
        rintro ⟨i, hi, hall⟩
        simp only [x9L1, push_cast, Nat.reduceAdd, Nat.reduceSub, Nat.reduceLeDiff, Nat.reduceEqDiff, Nat.reduceBEq, Nat.reduceMul, Nat.reduceLT, ↓reduceIte, reduceCtorEq, Int.reduceLE, Int.reduceLT, Int.reduceEq, Int.reduceMul, Int.reduceAdd, Int.reduceSub, Int.reduceNeg, Int.reduceToNat, Int.reduceNe, g20, g21, g22, g23]
        refine ⟨fun hlt => ⟨hlt, hlt, ⟨hpre.2.1 _ (getB_in hlt), by omega⟩, fun h => ?_, fun h => ⟨by simp; omega, ⟨i + 1, by omega, fun q hq => ?_⟩, ⟨wrapI (by omega) (by omega), by simp; omega, push_eq' (x := imgV (stL.getD i eB.dflt) c_Turn (0) bd_Turn bd_Length bd_Slip bd_Range) rfl rfl (mapK_succ _ hlt)⟩, by simp only; omega⟩⟩, fun hge2 => ?_⟩
        · have z := imgs_bad (T := c_Turn) (F := 0) hpre.2.1 (show vBd bd_Turn bd_Length bd_Slip bd_Range by unfold vBd; omega) (show vCm c_Turn (0) by unfold vCm; omega) hlt h
          rw [z.2]; exact ⟨z.1, rfl⟩
        · rcases Nat.lt_succ_iff_lt_or_eq.1 hq with w | w
          · exact hall q w
          · subst w; exact h
        obtain rfl : i = stL.length := by omega
        have z := imgs_end hall
        rw [z.1, z.2]
        exact ⟨rfl, rfl, same_eq' rfl⟩
    · cases hg_
  · cases hg_
end Go.Proofs.YthmobbecockeoaaGreat
namespace Go.Proofs.YthmobbecockeoaaGreat
open Go.Sx Go.Way
theorem aw_E : imgsE [(⟨0, 0, 10, 10, 0, 1⟩ : BB)] 0 10 0 5 1 1 = 0 := by decide +kernel
theorem imgs_02 (L : List BB) (T F bT bL bS bR : Int) : imgsE L T F bT bL bS bR = 0 ∨ imgsE L T F bT bL bS bR = 2 := by
  unfold imgsE; split
  · exact .inl rfl
  · exact .inr rfl
theorem aw_V : imgsV [(⟨0, 0, 10, 10, 0, 1⟩ : BB)] 0 10 0 5 1 1 = [⟨4, -1, 26, 11, 0, 1⟩] := by decide +kernel
def x4 : XFn := ⟨19, (.seq (.reg false [K1 0 .mv (.bool false)]) (.seq (.reg false [⟨(some 4), (.build [(iV 0), (iV 0), (iV 0), (iV 0), (iV 0), (iV 0)] [(2, 1), (3, 1), (5, 1)]), [(.k (iV 10)), (.k (iV 10)), (.k (iV 1))], none⟩, ⟨(some 5), (.slit 50 1 6 [(iV 0), (iV 0), (iV 0), (iV 0), (iV 0), (iV 0)] [(0, 6)]), [(.t 4)], none⟩, ⟨(some 6), (.build [(iV 0), (iV 0)] [(1, 1)]), [(.k (iV 10))], none⟩, ⟨(some 7), (.build [(iV 0), (iV 0), (iV 0), (iV 0)] [(1, 1), (2, 1), (3, 1)]), [(.k (iV 5)), (.k (iV 1)), (.k (iV 1))], none⟩, ⟨(some 8), (.call 9), [(.t 5), (.t 6), (.t 7), (.k (.bool false))], none⟩, O1 3 .mv 8, O1 9 (.ext 0) 3, O1 10 (.ext 1) 3, O1 1 .mv 9, O1 2 .mv 10]) (.seq (.reg false [O1 11 .mv 2, K2 12 (.bin .eql) 11 (iV 0), O1 13 .mv 12, G1 14 .mv 1 13 true, ⟨(some 15), (.build [(iV 0), (iV 0), (iV 0), (iV 0), (iV 0), (iV 0)] [(0, 1), (1, 1), (2, 1), (3, 1), (5, 1)]), [(.k (iV 4)), (.k (iV (-1))), (.k (iV 26)), (.k (iV 11)), (.k (iV 1))], (some (13, true))⟩, ⟨(some 16), (.slit 50 1 6 [(iV 0), (iV 0), (iV 0), (iV 0), (iV 0), (iV 0)] [(0, 6)]), [(.t 15)], (some (13, true))⟩, G2 17 (.call 13) 14 16 13 true, ⟨(some 18), .pick, [(.t 13), (.t 17), (.k (.bool false))], none⟩, O1 0 .mv 18]) .ret))), [(.s 0)]⟩
theorem x4_ok : xfn Tryz.prog Tryz.f4 = some x4.er := by kernel_rfl
def g13 : Con := fun args_ E_ nn_ => match args_ with
  | [.c (.n a), .c (.n b)] => (match rowOf E_ a with
    | some (a_n, a_s, a_f) => (match rowOf E_ b with
    | some (b_n, b_s, b_f) => some (.q (isRow eB a_n a_s a_f ∧ isRow eB b_n b_s b_f ∧ True) (.o (.c (.v (.bool (decide ((decL eB a_n a_f) = (decL eB b_n b_f))))))))
    | none => none)
    | none => none)
  | _ => none
theorem c13 : COk Tryz.prog 13 g13 := by
  refine cok_q Tryz.func13 x13_ok (by kernel_rfl) (cok_tab cok_nil) ?_
  intro args_ E_ nn_ cr_ hg_
  unfold g13 at hg_
  split at hg_
  · rename_i a b
    split at hg_
    · rename_i a_n a_s a_f h_a
      split at hg_
      · rename_i b_n b_s b_f h_b
        cases hg_
        refine ⟨_, _, rfl, 2, [a, b], [.c (.n 0), .c (.n 1)], [(0, .ro (decL eB a_n a_f).length eB.sz (rowF eB (decL eB a_n a_f))), (1, .ro (decL eB b_n b_f).length eB.sz (rowF eB (decL eB b_n b_f)))], .o (.c (.v (.bool (decide ((decL eB a_n a_f) = (decL eB b_n b_f)))))), rfl, rfl, by simp only [push_cast, Nat.reduceLT, Nat.reduceAdd], by simp only [push_cast, Nat.reduceLT, Nat.reduceAdd], by simp only [push_cast, Nat.reduceLT, Nat.reduceAdd], rfl, ⟨inE0_row h_a, inE0_row h_b, trivial⟩, rfl, ?_⟩
        intro hpre hlen
        obtain ⟨i_a, hpre⟩ := hpre
        obtain ⟨i_b, hpre⟩ := hpre
        refine ⟨⟨inE_row h_a i_a, inE_row h_b i_b, trivial⟩, ?_⟩
        have z_a := lens_row (E := eB) hlen h_a
        have z_b := lens_row (E := eB) hlen h_b
        clear i_a
        generalize decL eB a_n a_f = aL at *
        clear i_b
        generalize decL eB b_n b_f = bL at *
        clear h_a
        clear h_b
        simp (config := {maxSteps := 10000000}) only [x13, push_cast, Nat.reduceAdd, Nat.reduceSub, Nat.reduceLeDiff, Nat.reduceEqDiff, Nat.reduceBEq, Nat.reduceMul, Nat.reduceLT, ↓reduceIte, reduceCtorEq, Int.reduceLE, Int.reduceLT, Int.reduceEq, Int.reduceMul, Int.reduceAdd, Int.reduceSub, Int.reduceNeg, Int.reduceToNat, Int.reduceNe]
        refine ⟨fun h => ?_, fun h => ?_⟩
        · symm; rw [decide_eq_false_iff_not]; intro e; exact h (by rw [e])
        refine vcLoop_upd (α := {k : Nat // k ≤ aL.length ∧ ∀ i, i < k → aL.getD i eB.dflt = bL.getD i eB.dflt}) [0, 1] 0 (fun s => [(5, .o (.c (.v (.int .i64 (s.1 : Nat)))))]) (fun s => []) (fun s => aL.length - s.1) ⟨0, by omega, fun i hi => by omega⟩ ?_ ?_
        · simp only [push_cast, Nat.reduceAdd, Nat.reduceSub, Nat.reduceLeDiff, Nat.reduceEqDiff, Nat.reduceBEq, Nat.reduceMul, Nat.reduceLT, ↓reduceIte, reduceCtorEq, Int.reduceLE, Int.reduceLT, Int.reduceEq, Int.reduceMul, Int.reduceAdd, Int.reduceSub, Int.reduceNeg, Int.reduceToNat, Int.reduceNe]
        rintro ⟨k, hk, hall⟩
        simp only [x13L0, push_cast, Nat.reduceAdd, Nat.reduceSub, Nat.reduceLeDiff, Nat.reduceEqDiff, Nat.reduceBEq, Nat.reduceMul, Nat.reduceLT, ↓reduceIte, reduceCtorEq, Int.reduceLE, Int.reduceLT, Int.reduceEq, Int.reduceMul, Int.reduceAdd, Int.reduceSub, Int.reduceNeg, Int.reduceToNat, Int.reduceNe]
        refine ⟨fun hlt => ⟨hlt, hlt, by omega, by omega, fun hne => ?_, fun x1 x2 x3 x4 x5 x6 => ⟨⟨k + 1, by omega, fun i hi => ?_⟩, wrapI (by omega) (by omega), by simp only; omega⟩⟩, fun hge => ?_⟩
        · symm; rw [decide_eq_false_iff_not]; intro e; rw [e] at hne; simp at hne
        · rcases Nat.lt_succ_iff_lt_or_eq.1 hi with q | q
          · exact hall i q
          · subst q
            rw [← bb_eta (aL.getD i eB.dflt), ← bb_eta (bL.getD i eB.dflt), x1, x2, x3, x4, x5, x6]
        · symm; rw [decide_eq_true_eq]; exact getD_ext eB.dflt (by omega) (fun i hi => hall i (by omega))
      · cases hg_
    · cases hg_
  · cases hg_
def g4 : Con := fun args_ E_ nn_ => match args_ with
  | [] => some (.q (True) (.o (.c (.v (.bool (true))))))
  | _ => none
theorem c4 : COk Tryz.prog 4 g4 := by
  refine cok_q Tryz.func4 x4_ok (by kernel_rfl) (cok_tab (cok_cons c9 (cok_cons c13 cok_nil))) ?_
  intro args_ E_ nn_ cr_ hg_
  unfold g4 at hg_
  split at hg_
  · skip
    cases hg_
    refine ⟨_, _, rfl, 0, [], [], [], .o (.c (.v (.bool (true)))), rfl, rfl, by simp only [push_cast, Nat.reduceLT, Nat.reduceAdd], by simp only [push_cast, Nat.reduceLT, Nat.reduceAdd], by simp only [push_cast, Nat.reduceLT, Nat.reduceAdd], rfl, trivial, rfl, ?_⟩
    intro hpre hlen
    refine ⟨trivial, ?_⟩
    have q1 : isRow eB 1 6 (litF [SC.v (Value.int IntKind.i64 0), SC.v (Value.int IntKind.i64 0), SC.v (Value.int IntKind.i64 10), SC.v (Value.int IntKind.i64 10), SC.v (Value.int IntKind.i64 0), SC.v (Value.int IntKind.i64 1)] 6) ↔ True := iff_true_intro (lits_row eB [(⟨0, 0, 10, 10, 0, 1⟩ : BB)]).1
    have q2 : decL eB 1 (litF [SC.v (Value.int IntKind.i64 0), SC.v (Value.int IntKind.i64 0), SC.v (Value.int IntKind.i64 10), SC.v (Value.int IntKind.i64 10), SC.v (Value.int IntKind.i64 0), SC.v (Value.int IntKind.i64 1)] 6) = [(⟨0, 0, 10, 10, 0, 1⟩ : BB)] := (lits_row eB [(⟨0, 0, 10, 10, 0, 1⟩ : BB)]).2
    have w1 : isRow eB 1 6 (litF [SC.v (Value.int IntKind.i64 4), SC.v (Value.int IntKind.i64 (-1)), SC.v (Value.int IntKind.i64 26), SC.v (Value.int IntKind.i64 11), SC.v (Value.int IntKind.i64 0), SC.v (Value.int IntKind.i64 1)] 6) ↔ True := iff_true_intro (lits_row eB [(⟨4, (-1), 26, 11, 0, 1⟩ : BB)]).1
    have w2 : decL eB 1 (litF [SC.v (Value.int IntKind.i64 4), SC.v (Value.int IntKind.i64 (-1)), SC.v (Value.int IntKind.i64 26), SC.v (Value.int IntKind.i64 11), SC.v (Value.int IntKind.i64 0), SC.v (Value.int IntKind.i64 1)] 6) = [(⟨4, (-1), 26, 11, 0, 1⟩ : BB)] := (lits_row eB [(⟨4, (-1), 26, 11, 0, 1⟩ : BB)]).2
    simp (config := {maxSteps := 10000000}) only [x4, push_cast, Nat.reduceAdd, Nat.reduceSub, Nat.reduceLeDiff, Nat.reduceEqDiff, Nat.reduceBEq, Nat.reduceMul, Nat.reduceLT, ↓reduceIte, reduceCtorEq, Int.reduceLE, Int.reduceLT, Int.reduceEq, Int.reduceMul, Int.reduceAdd, Int.reduceSub, Int.reduceNeg, Int.reduceToNat, Int.reduceNe, g9, g13, q1, q2, w1, w2, aw_E, aw_V]
    refine ⟨fun b hb => ?_, (isRow_rowF (E := eB) [(⟨4, -1, 26, 11, 0, 1⟩ : BB)]).2 trivial⟩
    simp only [List.mem_singleton] at hb
    subst hb; decide
  · cases hg_
def x3L0 : XC := (.seq (.seq (.reg false [O1 60 .mv 11, O1 61 .mv 7, O1 62 .lenS 61, O2 63 (.bin .lss) 60 62]) (.cond (.t 63) .skip (.exit 0))) (.seq (.block 1 (.seq (.regD [O1 67 .mv 2, O1 68 .mv 7, O1 69 .mv 11, O2 70 (.ixS 5) 68 69, O1 71 (.fld 1) 70, O1 72 (.loadN 2) 71, O1 73 (.fld 3) 3, O1 74 (.loadN 4) 73, O1 75 .mv 7, O1 76 .mv 11, O2 77 (.ixS 5) 75 76, O1 78 (.fld 3) 77, O1 79 .load1 78, ⟨(some 80), (.call 9), [(.t 67), (.t 72), (.t 74), (.t 79)], none⟩, O1 66 .mv 80, O1 81 (.ext 0) 66, O1 82 (.ext 1) 66, O1 12 .mv 81, O1 13 .mv 82] [[], [], [], [1, 2], [3, 1, 2], [4, 3, 1, 2], [], [6], [], [], [8, 9], [10, 8, 9], [11, 10, 8, 9], [0, 5, 4, 3, 1, 2, 7, 6, 12, 11, 10, 8, 9], [13, 0, 5, 4, 3, 1, 2, 7, 6, 12, 11, 10, 8, 9], [14, 13, 0, 5, 4, 3, 1, 2, 7, 6, 12, 11, 10, 8, 9], [14, 13, 0, 5, 4, 3, 1, 2, 7, 6, 12, 11, 10, 8, 9], [15, 14, 13, 0, 5, 4, 3, 1, 2, 7, 6, 12, 11, 10, 8, 9], [16, 14, 13, 0, 5, 4, 3, 1, 2, 7, 6, 12, 11, 10, 8, 9, 17, 15]]) (.seq (.seq (.reg false [O1 83 .mv 13, K2 84 (.bin .neq) 83 (iV 0)]) (.cond (.t 84) (.seq (.reg false [O1 85 .mv 13, K2 86 (.bin .eql) 85 (iV 2), O1 6 .mv 86]) .ret) .skip)) (.seq (.reg false [O1 87 .mv 8, O1 88 .mv 11, O2 89 (.ixS 3) 87 88, O1 90 (.loadN 3) 89, ⟨(some 14), (.alloc 28 [(iV 0), (iV 0), (iV 0)]), [], none⟩, ⟨none, (.store 3), [(.t 14), (.t 90)], none⟩]) (.seq (.seq (.reg false [O1 91 .mv 12, O1 92 .lenS 91, O1 93 .mv 2, O1 94 .lenS 93, O2 95 (.bin .neq) 92 94, O1 96 .mv 95, G1 97 .mv 12 96 false, G1 98 (.loadN 3) 14 96 false, G2 99 (.call 8) 97 98 96 false, G1 100 (.un .not) 99 96 false, ⟨(some 101), .pick, [(.t 96), (.k (.bool true)), (.t 100)], none⟩]) (.cond (.t 101) (.seq (.reg false [K1 6 .mv (.bool false)]) .ret) .skip)) (.seq (.regD [O1 103 (.fld 0) 14, O1 104 .load1 103, O1 105 (.fld 1) 14, O1 106 .load1 105, O1 107 (.fld 0) 14, O1 108 .load1 107, O1 109 (.fld 1) 14, O1 110 .load1 109, O1 111 (.fld 2) 14, O1 112 .load1 111, ⟨(some 113), (.build [(iV 0), (iV 0), (iV 0), (iV 0), (iV 0), (iV 0)] [(0, 1), (1, 1), (2, 1), (3, 1), (4, 1), (5, 1)]), [(.t 104), (.t 106), (.t 108), (.t 110), (.t 112), (.k (iV 1))], none⟩, O1 114 .mv 7, O1 115 .mv 11, O2 116 (.ixS 5) 114 115, O1 117 (.fld 1) 116, O1 118 (.loadN 2) 117, O1 119 (.fld 3) 3, O1 120 (.loadN 4) 119, ⟨(some 121), (.call 10), [(.t 113), (.t 118), (.t 120)], none⟩, O1 102 .mv 121, O1 122 (.ext 0) 102, O1 123 (.ext 1) 102, ⟨(some 15), (.alloc 50 [(iV 0), (iV 0), (iV 0), (iV 0), (iV 0), (iV 0)]), [], none⟩, ⟨none, (.store 6), [(.t 15), (.t 122)], none⟩, O1 16 .mv 123] [[], [0], [], [2], [], [4], [], [6], [], [8], [1, 0, 3, 2, 5, 4, 7, 6, 9, 8], [], [], [11, 12], [13, 11, 12], [14, 13, 11, 12], [], [16], [10, 1, 0, 3, 2, 5, 4, 7, 6, 9, 8, 15, 14, 13, 11, 12, 17, 16], [18, 10, 1, 0, 3, 2, 5, 4, 7, 6, 9, 8, 15, 14, 13, 11, 12, 17, 16], [19, 18, 10, 1, 0, 3, 2, 5, 4, 7, 6, 9, 8, 15, 14, 13, 11, 12, 17, 16], [19, 18, 10, 1, 0, 3, 2, 5, 4, 7, 6, 9, 8, 15, 14, 13, 11, 12, 17, 16], [], [22, 20, 19, 18, 10, 1, 0, 3, 2, 5, 4, 7, 6, 9, 8, 15, 14, 13, 11, 12, 17, 16], [21, 19, 18, 10, 1, 0, 3, 2, 5, 4, 7, 6, 9, 8, 15, 14, 13, 11, 12, 17, 16, 23, 22, 20]]) (.seq (.seq (.reg false [O1 124 .mv 16, K2 125 (.bin .neq) 124 (iV 0), O1 126 .mv 125, G1 127 .mv 7 126 false, G1 128 .mv 11 126 false, G2 129 (.ixS 5) 127 128 126 false, G1 130 (.fld 3) 129 126 false, G1 131 .load1 130 126 false, G1 132 (.un .not) 131 126 false, G1 133 .mv 132 126 false, G1 134 (.loadN 6) 15 133 true, G1 135 (.loadN 3) 10 133 true, G2 136 (.call 11) 134 135 133 true, G1 137 (.un .not) 136 133 true, ⟨(some 138), .pick, [(.t 133), (.t 137), (.k (.bool false))], (some (126, false))⟩, ⟨(some 139), .pick, [(.t 126), (.k (.bool true)), (.t 138)], none⟩]) (.cond (.t 139) (.seq (.reg false [K1 6 .mv (.bool false)]) .ret) .skip)) (.seq (.seq (.reg true [O1 140 (.fld 3) 3, O1 141 (.loadN 4) 140, O1 142 (.loadN 3) 10, O1 143 .mv 7, O1 144 .mv 11, O2 145 (.ixS 5) 143 144, O1 146 (.fld 1) 145, O1 147 (.loadN 2) 146, O1 148 (.loadN 3) 14, O1 149 .mv 7, O1 150 .mv 11, O2 151 (.ixS 5) 149 150, O1 152 (.fld 3) 151, O1 153 .load1 152, ⟨(some 154), (.call 12), [(.t 141), (.t 142), (.t 147), (.t 148), (.t 153)], none⟩, O1 155 (.un .not) 154]) (.cond (.t 155) (.seq (.reg false [K1 6 .mv (.bool false)]) .ret) .skip)) (.regD [O1 156 .mv 12, O1 157 (.loadN 3) 14, O1 2 .mv 156, ⟨none, (.store 3), [(.t 10), (.t 157)], none⟩] [[], [], [0], [1, 2, 0]]))))))))) (.reg false [O1 64 .mv 11, K2 65 (.bin .add) 64 (iV 1), O1 11 .mv 65])))
def x3 : XFn := ⟨158, (.seq (.reg false [O1 3 (.box 30) 0, K1 6 .mv (.bool false)]) (.seq (.seq (.reg false [⟨(some 17), (.call 4), [], none⟩, O1 18 (.un .not) 17, O1 19 .mv 18, G1 20 (.loadN 10) 3 19 false, G1 21 .mv 1 19 false, G2 22 (.call 5) 20 21 19 false, G1 23 (.un .not) 22 19 false, ⟨(some 24), .pick, [(.t 19), (.k (.bool true)), (.t 23)], none⟩, O1 25 .mv 24, G1 26 .mv 2 25 false, G1 27 .lenS 26 25 false, GK 28 (.bin .gtr) 27 (iV 4) 25 false, ⟨(some 29), .pick, [(.t 25), (.k (.bool true)), (.t 28)], none⟩]) (.cond (.t 29) (.seq (.reg false [⟨(some 30), (.call 4), [], none⟩, O1 6 .mv 30]) .ret) .skip)) (.seq (.reg false [O1 32 (.fld 0) 3, O1 33 (.loadN 3) 32, O1 34 (.fld 3) 3, O1 35 (.loadN 4) 34, O1 36 (.fld 7) 3, O1 37 (.loadN 3) 36, O1 38 .mv 1, ⟨(some 39), (.call 6), [(.t 33), (.t 35), (.t 37), (.t 38)], none⟩, O1 31 .mv 39, O1 40 (.ext 0) 31, O1 41 (.ext 1) 31, O1 42 (.ext 2) 31, O1 7 .mv 40, O1 8 .mv 41, O1 9 .mv 42]) (.seq (.seq (.reg false [O1 43 .mv 9, K2 44 (.bin .neq) 43 (iV 0)]) (.cond (.t 44) (.seq (.reg false [O1 45 .mv 7, O1 46 .lenS 45, K2 47 (.bin .eql) 46 (iV 0), O1 6 .mv 47]) .ret) .skip)) (.seq (.seq (.reg false [O1 48 .mv 2, O1 49 (.call 7) 48, O1 50 (.un .not) 49, O1 51 .mv 50, G1 52 .mv 2 51 false, G1 53 (.fld 7) 3 51 false, G1 54 (.loadN 3) 53 51 false, G2 55 (.call 8) 52 54 51 false, G1 56 (.un .not) 55 51 false, ⟨(some 57), .pick, [(.t 51), (.k (.bool true)), (.t 56)], none⟩]) (.cond (.t 57) (.seq (.reg false [K1 6 .mv (.bool true)]) .ret) .skip)) (.seq (.reg false [O1 58 (.fld 7) 3, O1 59 (.loadN 3) 58, ⟨(some 10), (.alloc 28 [(iV 0), (iV 0), (iV 0)]), [], none⟩, ⟨none, (.store 3), [(.t 10), (.t 59)], none⟩]) (.seq (.seq (.reg false [K1 11 .mv (iV 0)]) (.block 0 (.loop x3L0))) (.seq (.reg false [K1 6 .mv (.bool true)]) .ret)))))))), [(.s 6)]⟩
theorem x3_ok : xfn Tryz.prog Tryz.f3 = some x3.er := by kernel_rfl
noncomputable def g3 : Con := fun args_ E_ nn_ => match args_ with
  | [.a [.v (.int .i64 s_Plan_W), .v (.int .i64 s_Plan_H), .n s_Plan_Cells, .v (.int .i64 s_Bounds_Turn), .v (.int .i64 s_Bounds_Length), .v (.int .i64 s_Bounds_Slip), .v (.int .i64 s_Bounds_Range), .v (.int .i64 s_At_X), .v (.int .i64 s_At_Y), .v (.int .i64 s_At_H)], .c (.n acts), .c (.n st)] => (match rowOf E_ s_Plan_Cells with
    | some (s_Plan_Cells_n, s_Plan_Cells_s, s_Plan_Cells_f) => (match rowD eAct.sz E_ acts with
    | some (acts_n, acts_s, acts_f, acts_c) => (match rowOf E_ st with
    | some (st_n, st_s, st_f) => some (.q (isRow eU8 s_Plan_Cells_n s_Plan_Cells_s s_Plan_Cells_f ∧ isDeep eAct acts_n acts_s acts_f acts_c ∧ isRow eB st_n st_s st_f ∧ u8s (decL eU8 s_Plan_Cells_n s_Plan_Cells_f)) (.o (.c (.v (.bool (true))))))
    | none => none)
    | none => none)
    | none => none)
  | _ => none
set_option maxHeartbeats 1000000 in
theorem c3 : COk Tryz.prog 3 g3 := by
  refine cok_q Tryz.func3 x3_ok (by kernel_rfl) (cok_tab (cok_cons c4 (cok_cons c5 (cok_cons c6 (cok_cons c7 (cok_cons c8 (cok_cons c9 (cok_cons c10 (cok_cons c11 (cok_cons c12 cok_nil)))))))))) ?_
  intro args_ E_ nn_ cr_ hg_
  unfold g3 at hg_
  split at hg_
  · rename_i s_Plan_W s_Plan_H s_Plan_Cells s_Bounds_Turn s_Bounds_Length s_Bounds_Slip s_Bounds_Range s_At_X s_At_Y s_At_H acts st
    split at hg_
    · rename_i s_Plan_Cells_n s_Plan_Cells_s s_Plan_Cells_f h_s_Plan_Cells
      split at hg_
      · rename_i acts_n acts_s acts_f acts_c h_acts
        split at hg_
        · rename_i st_n st_s st_f h_st
          cases hg_
          refine ⟨_, _, rfl, 3, [s_Plan_Cells, acts, st], [.a [.v (.int .i64 s_Plan_W), .v (.int .i64 s_Plan_H), .n 0, .v (.int .i64 s_Bounds_Turn), .v (.int .i64 s_Bounds_Length), .v (.int .i64 s_Bounds_Slip), .v (.int .i64 s_Bounds_Range), .v (.int .i64 s_At_X), .v (.int .i64 s_At_Y), .v (.int .i64 s_At_H)], .c (.n 1), .c (.n 2)], [(0, .ro (decL eU8 s_Plan_Cells_n s_Plan_Cells_f).length eU8.sz (rowF eU8 (decL eU8 s_Plan_Cells_n s_Plan_Cells_f))), (1, .deep none (decD eAct acts_n acts_f acts_c).length eAct.sz (deepF eAct (decD eAct acts_n acts_f acts_c) acts_f) (deepC eAct (decD eAct acts_n acts_f acts_c)) []), (2, .ro (decL eB st_n st_f).length eB.sz (rowF eB (decL eB st_n st_f)))], .o (.c (.v (.bool (true)))), rfl, rfl, by simp only [push_cast, Nat.reduceLT, Nat.reduceAdd], by simp only [push_cast, Nat.reduceLT, Nat.reduceAdd], by simp only [push_cast, Nat.reduceLT, Nat.reduceAdd], rfl, ⟨inE0_row h_s_Plan_Cells, inE0_deep h_acts, inE0_row h_st, trivial⟩, rfl, ?_⟩
          intro hpre hlen
          obtain ⟨i_s_Plan_Cells, hpre⟩ := hpre
          obtain ⟨i_acts, hpre⟩ := hpre
          obtain ⟨i_st, hpre⟩ := hpre
          refine ⟨⟨inE_row h_s_Plan_Cells i_s_Plan_Cells, inE_deep h_acts i_acts, inE_row h_st i_st, trivial⟩, ?_⟩
          have z_s_Plan_Cells := lens_row (E := eU8) hlen h_s_Plan_Cells
          have z_acts := lens_deep (D := eAct) hlen h_acts
          have z_st := lens_row (E := eB) hlen h_st
          clear i_s_Plan_Cells
          generalize decL eU8 s_Plan_Cells_n s_Plan_Cells_f = s_Plan_CellsL at *
          clear i_acts
          generalize decD eAct acts_n acts_f acts_c = actsL at *
          clear i_st
          generalize decL eB st_n st_f = stL at *
          clear h_s_Plan_Cells
          clear h_acts
          clear h_st
          simp (config := {maxSteps := 10000000}) only [x3, push_cast, Nat.reduceAdd, Nat.reduceSub, Nat.reduceLeDiff, Nat.reduceEqDiff, Nat.reduceBEq, Nat.reduceMul, Nat.reduceLT, ↓reduceIte, reduceCtorEq, Int.reduceLE, Int.reduceLT, Int.reduceEq, Int.reduceMul, Int.reduceAdd, Int.reduceSub, Int.reduceNeg, Int.reduceToNat, Int.reduceNe, g4, g5, g6, g7, g8, g9, g10, g11, g12]
          intro hf h4
          have hl := brief_len hf
          refine ⟨⟨hpre, Nat.le_trans hl.2 (by omega)⟩, fun G => ⟨fun he => by rw [(run_err he).1]; rfl, fun he hs hc => ?_⟩⟩
          have hv := runV_at he
          have hp := runP_at he
          have hg := run_good he
          have hgd : goodL stL := by
            unfold setB at hs
            rw [Bool.and_eq_true, List.all_eq_true] at hs
            exact fun b hb => hs.2 b hb
          refine vcLoop_upd (α := {s : Nat × List BB // s.1 ≤ actsL.length ∧ s.2.length = stL.length ∧ goodL s.2 ∧ (s.2.any fun b => b.has (rbK (rob0 s_Plan_W s_Plan_H s_Plan_CellsL s_Bounds_Turn s_Bounds_Length s_Bounds_Slip s_Bounds_Range s_At_X s_At_Y s_At_H) actsL s.1).x (rbK (rob0 s_Plan_W s_Plan_H s_Plan_CellsL s_Bounds_Turn s_Bounds_Length s_Bounds_Slip s_Bounds_Range s_At_X s_At_Y s_At_H) actsL s.1).y (rbK (rob0 s_Plan_W s_Plan_H s_Plan_CellsL s_Bounds_Turn s_Bounds_Length s_Bounds_Slip s_Bounds_Range s_At_X s_At_Y s_At_H) actsL s.1).h) = true}) [3, 7, 8, 10] 1 (fun s => [(2, .o (.c (.n 7))), (11, .o (.c (.v (.int .i64 (s.1.1 : Nat)))))]) (fun s => [(7, .ro s.1.2.length 6 (rowF eB s.1.2)), (6, .box [.v (.int .i64 ((rbK (rob0 s_Plan_W s_Plan_H s_Plan_CellsL s_Bounds_Turn s_Bounds_Length s_Bounds_Slip s_Bounds_Range s_At_X s_At_Y s_At_H) actsL s.1.1).x)), .v (.int .i64 ((rbK (rob0 s_Plan_W s_Plan_H s_Plan_CellsL s_Bounds_Turn s_Bounds_Length s_Bounds_Slip s_Bounds_Range s_At_X s_At_Y s_At_H) actsL s.1.1).y)), .v (.int .i64 ((rbK (rob0 s_Plan_W s_Plan_H s_Plan_CellsL s_Bounds_Turn s_Bounds_Length s_Bounds_Slip s_Bounds_Range s_At_X s_At_Y s_At_H) actsL s.1.1).h))] 28)]) (fun s => actsL.length - s.1.1) ⟨(0, stL), by omega, rfl, hgd, hc⟩ ?_ ?_
          · simp only [push_cast, Nat.reduceAdd, Nat.reduceSub, Nat.reduceLeDiff, Nat.reduceEqDiff, Nat.reduceBEq, Nat.reduceMul, Nat.reduceLT, ↓reduceIte, reduceCtorEq, Int.reduceLE, Int.reduceLT, Int.reduceEq, Int.reduceMul, Int.reduceAdd, Int.reduceSub, Int.reduceNeg, Int.reduceToNat, Int.reduceNe, g4, g5, g6, g7, g8, g9, g10, g11, g12]
            exact ⟨rfl, rfl, rfl⟩
          rintro ⟨⟨k, L⟩, hk, hL, hgl, hany⟩
          simp only at hk hL hgl hany
          have hkk := rbK_keep (rob0 s_Plan_W s_Plan_H s_Plan_CellsL s_Bounds_Turn s_Bounds_Length s_Bounds_Slip s_Bounds_Range s_At_X s_At_Y s_At_H) actsL k
          have ho := run_at he k hk
          simp (config := {maxSteps := 10000000}) only [x3L0, push_cast, Nat.reduceAdd, Nat.reduceSub, Nat.reduceLeDiff, Nat.reduceEqDiff, Nat.reduceBEq, Nat.reduceMul, Nat.reduceLT, ↓reduceIte, reduceCtorEq, Int.reduceLE, Int.reduceLT, Int.reduceEq, Int.reduceMul, Int.reduceAdd, Int.reduceSub, Int.reduceNeg, Int.reduceToNat, Int.reduceNe, g4, g5, g6, g7, g8, g9, g10, g11, g12]
          intro hlt0
          have hkl : k < actsL.length := by rw [hv.1] at hlt0; exact hlt0
          have ha := hg.2 k hkl
          have hw := tick_within ho ha
          have hd := okS_do ho ha
          have hvk := hv.2 k hkl
          have hpk := hp.2 k hkl
          rw [rbK_succ] at hpk
          obtain ⟨c1, c2, -⟩ := act_cmd ha
          generalize hK : rbK (rob0 s_Plan_W s_Plan_H s_Plan_CellsL s_Bounds_Turn s_Bounds_Length s_Bounds_Slip s_Bounds_Range s_At_X s_At_Y s_At_H) actsL k = K at *
          obtain ⟨w1, w2, w3, w4, w5, w6, w7⟩ := hkk
          have w4 : K.bT = s_Bounds_Turn := w4
          have w5 : K.bL = s_Bounds_Length := w5
          have w6 : K.bS = s_Bounds_Slip := w6
          have w7 : K.bR = s_Bounds_Range := w7
          have hb := (ok_bd ho).1
          unfold vBd at hb
          rw [w4, w5, w6, w7] at hb
          rw [w4, w5, w6, w7] at hw
          simp only [hvk, hpk, hv.1, hp.1, poseO, hw.2.1, hw.2.2]
          have hr := rew_ok hw.1 (ok_near hd)
          have hpos := (ok_bd hd).2
          unfold vPs at hpos
          have hlen := imgs_len (L := L) (T := (actsL.getD k eAct.dflt).turn) (F := if (doV K (actsL.getD k eAct.dflt)).bump = true then 0 else (actsL.getD k eAct.dflt).fwd) (bT := s_Bounds_Turn) (bL := s_Bounds_Length) (bS := s_Bounds_Slip) (bR := s_Bounds_Range)
          refine ⟨hkl, hkl, hkl, hkl, ⟨by omega, hgl, by omega, by omega, by omega⟩, by rfl, fun h => ?_, fun h => ⟨hkl, hkl, fun hbad => ?_, fun _ hcov => ⟨hkl, hkl, ⟨box_of (by omega), by omega, by omega, by omega⟩, by rfl, ?_⟩⟩⟩
          · rcases imgs_02 L (actsL.getD k eAct.dflt).turn (if (doV K (actsL.getD k eAct.dflt)).bump = true then 0 else (actsL.getD k eAct.dflt).fwd) s_Bounds_Turn s_Bounds_Length s_Bounds_Slip s_Bounds_Range with q | q
            · exact absurd q h
            · exact q
          · rcases hbad with q | q
            · rw [hlen h] at q; exact q rfl
            · have := imgs_has (bump := (doV K (actsL.getD k eAct.dflt)).bump) hany hw.1 h
              exact absurd (this.symm.trans q) (by decide)
          refine ⟨fun h => ⟨h, hkl⟩, fun h => ⟨h, hkl⟩, fun h => ⟨h, fun q => ⟨h, q⟩⟩, fun hbad => ?_, fun _ _ => ⟨hkl, hkl, hkl, hkl, fun q => (by rw [hw.1] at q; cases q), fun _ => ⟨by rfl, ?_⟩⟩⟩
          · rcases hbad with q | ⟨q1, q2⟩
            · exact q hr.1
            · exact absurd ((hr.2 q1).symm.trans q2) (by decide)
          have hs1 : rbK (rob0 s_Plan_W s_Plan_H s_Plan_CellsL s_Bounds_Turn s_Bounds_Length s_Bounds_Slip s_Bounds_Range s_At_X s_At_Y s_At_H) actsL (k + 1) = doR K (actsL.getD k eAct.dflt) := by rw [rbK_succ, hK]
          exact ⟨⟨(k + 1, _), by omega, (hlen h).trans hL, imgs_good hgl ⟨hb.1, hb.2.1⟩ h, by simp only [hs1]; exact hcov⟩, ⟨wrapI (by omega) (by omega), ⟨rfl, same_eq' rfl⟩, by simp only [hs1], by simp only [hs1], by simp only [hs1]⟩, by simp only; omega⟩
        · cases hg_
      · cases hg_
    · cases hg_
  · cases hg_
end Go.Proofs.YthmobbecockeoaaGreat
