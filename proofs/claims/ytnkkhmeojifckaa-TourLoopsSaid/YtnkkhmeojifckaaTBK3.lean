/- A part of the proof of a statement about this seat: how a function is stepped through, and plain laws. No conditions. -/
import Derived.Test.YtnkkhmeojifckaaRows
import Derived.Test.YtnkkhmeojifckaaTBSz4
import Derived.Test.YtnkkhmeojifckaaTBK2
import Derived.KernelRfl
set_option linter.unusedVariables false
set_option linter.unusedSimpArgs false
set_option maxRecDepth 20000
namespace Go.Proofs.Ytnkkhmeojifckaa
open Go.Sx
theorem pick_some {W H : Int} {L : List Int} {K : List CC} {c d : CC} {k : Nat} (hk : k < 4) (hd : (nbr c).getD k eC.dflt = d) (hall : ∀ i, i < k → (frB W H L ((nbr c).getD i eC.dflt).X ((nbr c).getD i eC.dflt).Y && !decide ((nbr c).getD i eC.dflt ∈ K)) = false) (h : (frB W H L d.X d.Y && !decide (d ∈ K)) = true) : pickN W H L K c = some d := by
  subst hd
  rcases (by omega : k = 0 ∨ k = 1 ∨ k = 2 ∨ k = 3) with rfl | rfl | rfl | rfl
  · simp only [nbr, List.getD_cons_zero] at h
    simp only [pickN, nbr, List.find?, h, List.getD_cons_zero]
  · have a0 := hall 0 (by omega)
    simp only [nbr, List.getD_cons_zero, List.getD_cons_succ] at h a0
    simp only [pickN, nbr, List.find?, h, a0, List.getD_cons_zero, List.getD_cons_succ]
  · have a0 := hall 0 (by omega)
    have a1 := hall 1 (by omega)
    simp only [nbr, List.getD_cons_zero, List.getD_cons_succ] at h a0 a1
    simp only [pickN, nbr, List.find?, h, a0, a1, List.getD_cons_zero, List.getD_cons_succ]
  · have a0 := hall 0 (by omega)
    have a1 := hall 1 (by omega)
    have a2 := hall 2 (by omega)
    simp only [nbr, List.getD_cons_zero, List.getD_cons_succ] at h a0 a1 a2
    simp only [pickN, nbr, List.find?, h, a0, a1, a2, List.getD_cons_zero, List.getD_cons_succ]
theorem pick_none {W H : Int} {L : List Int} {K : List CC} {c : CC} (hall : ∀ i, i < 4 → (frB W H L ((nbr c).getD i eC.dflt).X ((nbr c).getD i eC.dflt).Y && !decide ((nbr c).getD i eC.dflt ∈ K)) = false) : pickN W H L K c = none := by
  have a0 := hall 0 (by omega)
  have a1 := hall 1 (by omega)
  have a2 := hall 2 (by omega)
  have a3 := hall 3 (by omega)
  simp only [nbr, List.getD_cons_zero, List.getD_cons_succ] at a0 a1 a2 a3
  simp only [pickN, nbr, List.find?, a0, a1, a2, a3]
theorem shF_zero (f : Nat → Nat → SC) : shF 0 f = f := rfl
theorem row_one (x : CC) (b : Bnd) : rowEq 1 2 (litF [SC.v (.int .i64 x.X), SC.v (.int .i64 x.Y)] 2) (rowF eC [x]) (SC.sub b) := by
  intro e j he hj
  rw [rowF_sub]
  obtain rfl : e = 0 := by omega
  rcases (by omega : j = 0 ∨ j = 1) with rfl | rfl <;> rfl
theorem row_drop {l : List CC} {n : Nat} {b : Bnd} (h : n = l.length - 1) : n = l.dropLast.length ∧ rowEq n 2 (rowF eC l) (rowF eC l.dropLast) (SC.sub b) := by
  subst h
  refine ⟨by simp, fun e j he hj => ?_⟩
  rw [rowF_sub]
  have e1 : l.getD e eC.dflt = l.dropLast.getD e eC.dflt := by
    rw [List.getD_eq_getElem?_getD, List.getD_eq_getElem?_getD, List.getElem?_dropLast, if_pos he]
  unfold rowF
  rw [e1]
theorem nin_ins {K : List CC} {x y : Int} (h : ¬ (⟨x, y⟩ : CC) ∈ K) : insC K x y = K ++ [⟨x, y⟩] := if_neg h
def x13L0 : XC := (.seq (.reg false [K2 43 (.bin .lss) 42 (iV 4)]) (.seq (.cond (.t 43) .skip (.exit 3)) (.seq (.block 4 (.seq (.reg false [O2 44 (.ixN 4 2) 41 42, ⟨(some 13), (.alloc 26 [(iV 0), (iV 0)]), [], none⟩, ⟨none, (.store 2), [(.t 13), (.t 44)], none⟩]) (.seq (.reg false [O1 45 (.loadN 3) 2, O1 46 (.loadN 2) 13, O2 47 (.call 34) 45 46, O1 48 .mv 47, G1 49 .mv 6 48 true, G1 50 (.loadN 2) 13 48 true, ⟨(some 51), (.x (.lookM (.bool false))), [(.t 49), (.t 50)], (some (48, true))⟩, G1 52 (.un .not) 51 48 true, ⟨(some 53), .pick, [(.t 48), (.t 52), (.k (.bool false))], none⟩]) (.cond (.t 53) (.seq (.reg false [O1 54 (.loadN 2) 13, ⟨none, (.store 2), [(.t 10), (.t 54)], none⟩, K1 11 .mv (.bool true)]) (.exit 3)) .skip)))) (.reg false [K2 55 (.bin .add) 42 (iV 1), O1 42 .mv 55]))))
def x13L1 : XC := (.seq (.seq (.reg false [O1 30 .mv 8, O1 31 .lenS 30, K2 32 (.bin .gtr) 31 (iV 0)]) (.cond (.t 32) .skip (.exit 1))) (.block 2 (.seq (.reg false [O1 33 .mv 8, O1 34 .mv 8, O1 35 .lenS 34, K2 36 (.bin .sub) 35 (iV 1), O2 37 (.ixS 2) 33 36, O1 38 (.loadN 2) 37, ⟨(some 9), (.alloc 26 [(iV 0), (iV 0)]), [], none⟩, ⟨none, (.store 2), [(.t 9), (.t 38)], none⟩]) (.seq (.reg false [⟨(some 39), (.build [(iV 0), (iV 0)] []), [], none⟩, ⟨(some 10), (.alloc 26 [(iV 0), (iV 0)]), [], none⟩, ⟨none, (.store 2), [(.t 10), (.t 39)], none⟩, K1 11 .mv (.bool false)]) (.seq (.seq (.reg false [O1 40 (.loadN 2) 9, O1 41 (.call 35) 40, K1 42 .mv (iV 0)]) (.block 3 (.loop x13L0))) (.seq (.seq (.reg false [O1 56 .mv 11]) (.cond (.t 56) (.seq (.reg false [O1 57 .mv 6, O1 58 (.loadN 2) 10, ⟨none, .upm, [(.t 57), (.t 58), (.k (.bool true))], none⟩]) (.seq (.reg false [O1 59 .mv 8, O1 60 (.loadN 2) 10, ⟨(some 61), (.slit 26 1 2 [(iV 0), (iV 0)] [(0, 2)]), [(.t 60)], none⟩, O2 62 (.app 26 2 16) 59 61, O1 8 .mv 62]) (.seq (.reg false [O1 63 .mv 7, O1 64 (.loadN 2) 10, ⟨(some 65), (.slit 26 1 2 [(iV 0), (iV 0)] [(0, 2)]), [(.t 64)], none⟩, O2 66 (.app 26 2 16) 63 65, O1 7 .mv 66]) (.exit 2)))) .skip)) (.seq (.reg false [O1 67 .mv 8, O1 68 .mv 8, O1 69 .lenS 68, K2 70 (.bin .sub) 69 (iV 1), O2 71 (.slc 2 false true false) 67 70, O1 8 .mv 71]) (.seq (.reg false [O1 72 .mv 8, O1 73 .lenS 72, K2 74 (.bin .gtr) 73 (iV 0)]) (.cond (.t 74) (.reg false [O1 75 .mv 7, O1 76 .mv 8, O1 77 .mv 8, O1 78 .lenS 77, K2 79 (.bin .sub) 78 (iV 1), O2 80 (.ixS 2) 76 79, O1 81 (.loadN 2) 80, ⟨(some 82), (.slit 26 1 2 [(iV 0), (iV 0)] [(0, 2)]), [(.t 81)], none⟩, O2 83 (.app 26 2 16) 75 82, O1 7 .mv 83]) .skip)))))))))
def x13 : XFn := ⟨85, (.seq (.reg false [O1 2 (.box 24) 0, O1 3 (.box 26) 1, K1 4 .mv (.slice none 0 0), K1 5 .mv (iV 0)]) (.seq (.block 0 (.seq (.reg false [O1 15 (.loadN 3) 2, O1 16 (.call 33) 15, O1 17 (.un .not) 16, O1 14 .mv 17]) (.cond (.t 14) (.seq (.reg false [K1 4 .mv (.slice none 0 0), K1 5 .mv (iV 1)]) .ret) (.seq (.reg false [O1 19 (.loadN 3) 2, O1 20 (.loadN 2) 3, O2 21 (.call 34) 19 20, O1 22 (.un .not) 21, O1 18 .mv 22]) (.cond (.t 18) (.seq (.reg false [K1 4 .mv (.slice none 0 0), K1 5 .mv (iV 7)]) .ret) .skip))))) (.seq (.reg false [⟨(some 23), .mkm, [], none⟩, O1 24 (.loadN 2) 3, ⟨none, .upm, [(.t 23), (.t 24), (.k (.bool true))], none⟩, O1 25 .mv 23, O1 6 .mv 25]) (.seq (.regD [O1 26 (.loadN 2) 3, ⟨(some 27), (.slit 26 1 2 [(iV 0), (iV 0)] [(0, 2)]), [(.t 26)], none⟩, O1 28 (.loadN 2) 3, ⟨(some 29), (.slit 26 1 2 [(iV 0), (iV 0)] [(0, 2)]), [(.t 28)], none⟩, O1 7 .mv 27, O1 8 .mv 29] [[], [0], [], [2], [1, 0], [3, 2, 4, 1, 0]]) (.seq (.block 1 (.loop x13L1)) (.seq (.reg false [O1 84 .mv 7, O1 4 .mv 84, K1 5 .mv (iV 0)]) .ret)))))), [(.s 4), (.s 5)]⟩
theorem x13_ok : xfn Try.prog Try.f13 = some x13.er := by kernel_rfl
def g13 : Con := fun args_ E_ nn_ => match args_ with
  | [.a [.v (.int .i64 p_W), .v (.int .i64 p_H), .n p_Cells], .a [.v (.int .i64 start_X), .v (.int .i64 start_Y)]] => (match rowOf E_ p_Cells with
    | some (p_Cells_n, p_Cells_s, p_Cells_f) => some (.e (isRow eU8 p_Cells_n p_Cells_s p_Cells_f ∧ True) (.t [.c (.n (nn_ + 0)), .c (.v (.int .i64 (touE p_W p_H (decL eU8 p_Cells_n p_Cells_f) start_X start_Y)))]) [((nn_ + 0), .own (touL p_W p_H (decL eU8 p_Cells_n p_Cells_f) start_X start_Y).length 2 (rowF eC (touL p_W p_H (decL eU8 p_Cells_n p_Cells_f) start_X start_Y)) 26)] (nn_ + 1))
    | none => none)
  | _ => none
set_option maxHeartbeats 4000000 in
theorem c13 : COk Try.prog 13 g13 := by
  refine cok_e Try.func13 x13_ok (by kernel_rfl) (cok_tab (cok_cons c33 (cok_cons c34 (cok_cons c35 cok_nil)))) ?_
  intro args_ E_ nn_ cr_ hg_
  unfold g13 at hg_
  split at hg_
  · rename_i p_W p_H p_Cells start_X start_Y
    split at hg_
    · rename_i p_Cells_n p_Cells_s p_Cells_f h_p_Cells
      cases hg_
      refine ⟨_, _, _, _, rfl, 1, [p_Cells], [.a [.v (.int .i64 p_W), .v (.int .i64 p_H), .n 0], .a [.v (.int .i64 start_X), .v (.int .i64 start_Y)]], [(0, .ro (decL eU8 p_Cells_n p_Cells_f).length eU8.sz (rowF eU8 (decL eU8 p_Cells_n p_Cells_f)))], .t [.c (.n 1), .c (.v (.int .i64 (touE p_W p_H (decL eU8 p_Cells_n p_Cells_f) start_X start_Y)))], [(1, .own (touL p_W p_H (decL eU8 p_Cells_n p_Cells_f) start_X start_Y).length 2 (rowF eC (touL p_W p_H (decL eU8 p_Cells_n p_Cells_f) start_X start_Y)) 26)], 2, rfl, rfl, by simp only [renE, Ent.ren, rowF_renf] <;> rfl, rfl, by decide, by simp only [push_cast, Nat.reduceLT, Nat.reduceAdd], by simp only [push_cast, Nat.reduceLT, Nat.reduceAdd], by simp only [push_cast, Nat.reduceLT, Nat.reduceAdd], by simp only [push_cast, Nat.reduceLT, Nat.reduceAdd], rfl, ⟨inE0_row h_p_Cells, trivial⟩, by simp only [keysNodup, outN, keys] <;> decide, rfl, rfl, ?_⟩
      intro hpre hlen
      obtain ⟨i_p_Cells, hpre⟩ := hpre
      refine ⟨⟨inE_row h_p_Cells i_p_Cells, trivial⟩, by simp only [apartE] <;> (first | trivial | (simp [Ent.mut]; done)), ?_⟩
      have z_p_Cells := lens_row (E := eU8) hlen h_p_Cells
      clear i_p_Cells
      generalize decL eU8 p_Cells_n p_Cells_f = p_CellsL at *
      clear h_p_Cells
      simp (config := {maxSteps := 10000000}) only [x13, push_cast, Nat.reduceAdd, Nat.reduceSub, Nat.reduceLeDiff, Nat.reduceEqDiff, Nat.reduceBEq, Nat.reduceMul, Nat.reduceLT, reduceIte, reduceCtorEq, Int.reduceLE, Int.reduceLT, Int.reduceEq, Int.reduceMul, Int.reduceAdd, Int.reduceSub, Int.reduceNeg, Int.reduceToNat, Int.reduceNe, g33, g34, g35, shF_zero]
      refine ⟨fun h => by unfold touL touE; rw [h]; exact ⟨rfl, rfl⟩, fun hp => ⟨hp, fun h => by unfold touL touE; rw [hp, h]; exact ⟨rfl, rfl⟩, fun hf => ?_⟩⟩
      have pp := planB_at hp
      rw [touE0 hp hf, touL0 hp hf]
      refine ⟨by rfl, ?_⟩
      refine vcLoop_upd (α := {s : TS // tWay p_W p_H p_CellsL ⟨start_X, start_Y⟩ s}) [2, 6] 0 (fun s => [(7, .o (.c (.n 4))), (8, .o (.c (.n 5)))]) (fun s => [(3, .mp (setM s.1.K)), (4, .own (s.1.O).length 2 (rowF eC (s.1.O)) 26), (5, .own (s.1.T).length 2 (rowF eC (s.1.T)) 26)]) (fun s => tMu s.1) ⟨tS0 ⟨start_X, start_Y⟩, tWay0 hf⟩ ?_ ?_
      · simp only [push_cast, Nat.reduceAdd, Nat.reduceSub, Nat.reduceLeDiff, Nat.reduceEqDiff, Nat.reduceBEq, Nat.reduceMul, Nat.reduceLT, reduceIte, reduceCtorEq, Int.reduceLE, Int.reduceLT, Int.reduceEq, Int.reduceMul, Int.reduceAdd, Int.reduceSub, Int.reduceNeg, Int.reduceToNat, Int.reduceNe, g33, g34, g35, shF_zero]
        exact ⟨leM_same _ (K := [⟨start_X, start_Y⟩]) rfl, ⟨rfl, row_one ⟨start_X, start_Y⟩ _⟩, rfl, row_one ⟨start_X, start_Y⟩ _⟩
      rintro ⟨s, hw⟩
      simp only [x13L1, push_cast, Nat.reduceAdd, Nat.reduceSub, Nat.reduceLeDiff, Nat.reduceEqDiff, Nat.reduceBEq, Nat.reduceMul, Nat.reduceLT, reduceIte, reduceCtorEq, Int.reduceLE, Int.reduceLT, Int.reduceEq, Int.reduceMul, Int.reduceAdd, Int.reduceSub, Int.reduceNeg, Int.reduceToNat, Int.reduceNe, g33, g34, g35, shF_zero]
      have hi := hw.1
      have hlK := tInv_len hp hi
      refine ⟨fun ht => ?_, fun ht => ?_⟩
      · have hlen : s.T.length ≤ 8192 ∧ s.O.length ≤ 8192 := by have := hi.sum; omega
        have e1 : ((s.T.length : Int) - 1).toNat = s.T.length - 1 := by omega
        rw [wrapI (n := (s.T.length : Int) - 1) (by omega) (by omega), e1, show s.T.getD (s.T.length - 1) eC.dflt = lastC s.T from rfl]
        have hcK := hi.tk _ (gmemC (l := s.T) (i := s.T.length - 1) (by omega))
        rw [show s.T.getD (s.T.length - 1) eC.dflt = lastC s.T from rfl] at hcK
        have hcf := frB_in (hi.fr _ hcK)
        refine ⟨by omega, by omega, by omega, ?_⟩
        refine vcLoop_upd (α := {k : Nat // k ≤ 4 ∧ ∀ i, i < k → (frB p_W p_H p_CellsL ((nbr (lastC s.T)).getD i eC.dflt).X ((nbr (lastC s.T)).getD i eC.dflt).Y && !decide ((nbr (lastC s.T)).getD i eC.dflt ∈ s.K)) = false}) [2, 6, 7, 8, 10, 41] 0 (fun z => [(11, .o (.c (.v (.bool (false))))), (42, .o (.c (.v (.int .i64 (z.1 : Nat)))))]) (fun z => []) (fun z => 4 - z.1) ⟨0, by omega, fun i hi => by omega⟩ ?_ ?_
        · simp only [push_cast, Nat.reduceAdd, Nat.reduceSub, Nat.reduceLeDiff, Nat.reduceEqDiff, Nat.reduceBEq, Nat.reduceMul, Nat.reduceLT, reduceIte, reduceCtorEq, Int.reduceLE, Int.reduceLT, Int.reduceEq, Int.reduceMul, Int.reduceAdd, Int.reduceSub, Int.reduceNeg, Int.reduceToNat, Int.reduceNe, g33, g34, g35, shF_zero]
          exact leM_same _ rfl
        rintro ⟨k, hk, hall⟩
        rcases (by omega : k = 0 ∨ k = 1 ∨ k = 2 ∨ k = 3 ∨ k = 4) with rfl | rfl | rfl | rfl | rfl
        · simp only [x13L0, push_cast, Nat.reduceAdd, Nat.reduceSub, Nat.reduceLeDiff, Nat.reduceEqDiff, Nat.reduceBEq, Nat.reduceMul, Nat.reduceLT, reduceIte, reduceCtorEq, Int.reduceLE, Int.reduceLT, Int.reduceEq, Int.reduceMul, Int.reduceAdd, Int.reduceSub, Int.reduceNeg, Int.reduceToNat, Int.reduceNe, g33, g34, g35, shF_zero]
          refine ⟨hp, fun hf1 hn => ⟨by omega, by omega, ⟨tStep p_W p_H p_CellsL s, tWay_step hp hw (by omega)⟩, ?_⟩, fun hno => ⟨⟨1, by omega, fun i hi2 => ?_⟩, ⟨by rfl, leM_same _ rfl⟩, by simp only; omega⟩⟩
          · have hpk := pick_some (K := s.K) (c := lastC s.T) (d := (⟨(lastC s.T).X + 1, (lastC s.T).Y⟩ : CC)) (k := 0) (by omega) rfl hall (by rw [hf1, decide_eq_false hn]; rfl)
            have hst : tStep p_W p_H p_CellsL s = ⟨s.K ++ [(⟨(lastC s.T).X + 1, (lastC s.T).Y⟩ : CC)], s.T ++ [(⟨(lastC s.T).X + 1, (lastC s.T).Y⟩ : CC)], s.O ++ [(⟨(lastC s.T).X + 1, (lastC s.T).Y⟩ : CC)]⟩ := by unfold tStep; rw [hpk]
            have hmu := tMu_step hp hi (by omega : 0 < s.T.length)
            refine ⟨⟨?_, ?_, ?_⟩, hmu⟩
            · simp only [hst]; exact leM_same _ (nin_ins hn)
            · simp only [hst]; exact push_eq (E := eC) (x := (⟨(lastC s.T).X + 1, (lastC s.T).Y⟩ : CC)) rfl
            · simp only [hst]; exact push_eq (E := eC) (x := (⟨(lastC s.T).X + 1, (lastC s.T).Y⟩ : CC)) rfl
          · by_cases e : i = 0
            · subst e; exact hno
            · exact hall i (by omega)
        · simp only [x13L0, push_cast, Nat.reduceAdd, Nat.reduceSub, Nat.reduceLeDiff, Nat.reduceEqDiff, Nat.reduceBEq, Nat.reduceMul, Nat.reduceLT, reduceIte, reduceCtorEq, Int.reduceLE, Int.reduceLT, Int.reduceEq, Int.reduceMul, Int.reduceAdd, Int.reduceSub, Int.reduceNeg, Int.reduceToNat, Int.reduceNe, g33, g34, g35, shF_zero]
          refine ⟨hp, fun hf1 hn => ⟨by omega, by omega, ⟨tStep p_W p_H p_CellsL s, tWay_step hp hw (by omega)⟩, ?_⟩, fun hno => ⟨⟨2, by omega, fun i hi2 => ?_⟩, ⟨by rfl, leM_same _ rfl⟩, by simp only; omega⟩⟩
          · have hpk := pick_some (K := s.K) (c := lastC s.T) (d := (⟨(lastC s.T).X, (lastC s.T).Y + 1⟩ : CC)) (k := 1) (by omega) rfl hall (by rw [hf1, decide_eq_false hn]; rfl)
            have hst : tStep p_W p_H p_CellsL s = ⟨s.K ++ [(⟨(lastC s.T).X, (lastC s.T).Y + 1⟩ : CC)], s.T ++ [(⟨(lastC s.T).X, (lastC s.T).Y + 1⟩ : CC)], s.O ++ [(⟨(lastC s.T).X, (lastC s.T).Y + 1⟩ : CC)]⟩ := by unfold tStep; rw [hpk]
            have hmu := tMu_step hp hi (by omega : 0 < s.T.length)
            refine ⟨⟨?_, ?_, ?_⟩, hmu⟩
            · simp only [hst]; exact leM_same _ (nin_ins hn)
            · simp only [hst]; exact push_eq (E := eC) (x := (⟨(lastC s.T).X, (lastC s.T).Y + 1⟩ : CC)) rfl
            · simp only [hst]; exact push_eq (E := eC) (x := (⟨(lastC s.T).X, (lastC s.T).Y + 1⟩ : CC)) rfl
          · by_cases e : i = 1
            · subst e; exact hno
            · exact hall i (by omega)
        · simp only [x13L0, push_cast, Nat.reduceAdd, Nat.reduceSub, Nat.reduceLeDiff, Nat.reduceEqDiff, Nat.reduceBEq, Nat.reduceMul, Nat.reduceLT, reduceIte, reduceCtorEq, Int.reduceLE, Int.reduceLT, Int.reduceEq, Int.reduceMul, Int.reduceAdd, Int.reduceSub, Int.reduceNeg, Int.reduceToNat, Int.reduceNe, g33, g34, g35, shF_zero]
          refine ⟨hp, fun hf1 hn => ⟨by omega, by omega, ⟨tStep p_W p_H p_CellsL s, tWay_step hp hw (by omega)⟩, ?_⟩, fun hno => ⟨⟨3, by omega, fun i hi2 => ?_⟩, ⟨by rfl, leM_same _ rfl⟩, by simp only; omega⟩⟩
          · have hpk := pick_some (K := s.K) (c := lastC s.T) (d := (⟨(lastC s.T).X - 1, (lastC s.T).Y⟩ : CC)) (k := 2) (by omega) rfl hall (by rw [hf1, decide_eq_false hn]; rfl)
            have hst : tStep p_W p_H p_CellsL s = ⟨s.K ++ [(⟨(lastC s.T).X - 1, (lastC s.T).Y⟩ : CC)], s.T ++ [(⟨(lastC s.T).X - 1, (lastC s.T).Y⟩ : CC)], s.O ++ [(⟨(lastC s.T).X - 1, (lastC s.T).Y⟩ : CC)]⟩ := by unfold tStep; rw [hpk]
            have hmu := tMu_step hp hi (by omega : 0 < s.T.length)
            refine ⟨⟨?_, ?_, ?_⟩, hmu⟩
            · simp only [hst]; exact leM_same _ (nin_ins hn)
            · simp only [hst]; exact push_eq (E := eC) (x := (⟨(lastC s.T).X - 1, (lastC s.T).Y⟩ : CC)) rfl
            · simp only [hst]; exact push_eq (E := eC) (x := (⟨(lastC s.T).X - 1, (lastC s.T).Y⟩ : CC)) rfl
          · by_cases e : i = 2
            · subst e; exact hno
            · exact hall i (by omega)
        · simp only [x13L0, push_cast, Nat.reduceAdd, Nat.reduceSub, Nat.reduceLeDiff, Nat.reduceEqDiff, Nat.reduceBEq, Nat.reduceMul, Nat.reduceLT, reduceIte, reduceCtorEq, Int.reduceLE, Int.reduceLT, Int.reduceEq, Int.reduceMul, Int.reduceAdd, Int.reduceSub, Int.reduceNeg, Int.reduceToNat, Int.reduceNe, g33, g34, g35, shF_zero]
          refine ⟨hp, fun hf1 hn => ⟨by omega, by omega, ⟨tStep p_W p_H p_CellsL s, tWay_step hp hw (by omega)⟩, ?_⟩, fun hno => ⟨⟨4, by omega, fun i hi2 => ?_⟩, ⟨by rfl, leM_same _ rfl⟩, by simp only; omega⟩⟩
          · have hpk := pick_some (K := s.K) (c := lastC s.T) (d := (⟨(lastC s.T).X, (lastC s.T).Y - 1⟩ : CC)) (k := 3) (by omega) rfl hall (by rw [hf1, decide_eq_false hn]; rfl)
            have hst : tStep p_W p_H p_CellsL s = ⟨s.K ++ [(⟨(lastC s.T).X, (lastC s.T).Y - 1⟩ : CC)], s.T ++ [(⟨(lastC s.T).X, (lastC s.T).Y - 1⟩ : CC)], s.O ++ [(⟨(lastC s.T).X, (lastC s.T).Y - 1⟩ : CC)]⟩ := by unfold tStep; rw [hpk]
            have hmu := tMu_step hp hi (by omega : 0 < s.T.length)
            refine ⟨⟨?_, ?_, ?_⟩, hmu⟩
            · simp only [hst]; exact leM_same _ (nin_ins hn)
            · simp only [hst]; exact push_eq (E := eC) (x := (⟨(lastC s.T).X, (lastC s.T).Y - 1⟩ : CC)) rfl
            · simp only [hst]; exact push_eq (E := eC) (x := (⟨(lastC s.T).X, (lastC s.T).Y - 1⟩ : CC)) rfl
          · by_cases e : i = 3
            · subst e; exact hno
            · exact hall i (by omega)
        · simp only [x13L0, push_cast, Nat.reduceAdd, Nat.reduceSub, Nat.reduceLeDiff, Nat.reduceEqDiff, Nat.reduceBEq, Nat.reduceMul, Nat.reduceLT, reduceIte, reduceCtorEq, Int.reduceLE, Int.reduceLT, Int.reduceEq, Int.reduceMul, Int.reduceAdd, Int.reduceSub, Int.reduceNeg, Int.reduceToNat, Int.reduceNe, g33, g34, g35, shF_zero]
          have hpk := pick_none hall
          have hmu := tMu_step hp hi (by omega : 0 < s.T.length)
          have hst : tStep p_W p_H p_CellsL s = ⟨s.K, s.T.dropLast, if s.T.length ≤ 1 then s.O else s.O ++ [s.T.getD (s.T.length - 2) eC.dflt]⟩ := by unfold tStep; rw [hpk]
          rw [wrapI (n := (s.T.length : Int) - 1) (by omega) (by omega), e1]
          refine ⟨⟨by omega, by omega⟩, fun h2 => ?_, fun h2 => ?_⟩
          · have e2 : IntKind.i64.wrap (((s.T.length - 1 : Nat) : Int) - 1) = ((s.T.length - 2 : Nat) : Int) := (wrapI (by omega) (by omega)).trans (by omega)
            rw [e2, Int.toNat_natCast]
            refine ⟨⟨by omega, by omega⟩, by omega, by omega, ⟨tStep p_W p_H p_CellsL s, tWay_step hp hw (by omega)⟩, ⟨?_, ?_, ?_⟩, hmu⟩
            · simp only [hst]; exact leM_same _ rfl
            · simp only [hst]; rw [if_neg (by omega)]; exact push_eq (E := eC) (x := s.T.getD (s.T.length - 2) eC.dflt) rfl
            · simp only [hst]; exact row_drop rfl
          · refine ⟨⟨tStep p_W p_H p_CellsL s, tWay_step hp hw (by omega)⟩, ⟨?_, ?_, ?_⟩, hmu⟩
            · simp only [hst]; exact leM_same _ rfl
            · simp only [hst]; rw [if_pos (by omega)]; exact same_eq rfl
            · simp only [hst]; exact row_drop rfl
      · have e := tWay_end hw (by omega)
        subst e
        exact same_eq rfl
    · cases hg_
  · cases hg_
end Go.Proofs.Ytnkkhmeojifckaa
namespace Go.Proofs.Ytnkkhmeojifckaa
open Go.Sx
def cntV (W H : Int) (L : List Int) (v : Int) : Int := if planB W H L = true then cnt8 L v else 0
theorem row_of {f : Nat → Nat → SC} {n sz : Nat} {σ : Nat → Nat} {L : List CC} (h : ∀ e j, e < n → j < sz → f e j = rowF eC L e j) : rowEq n sz f (rowF eC L) (SC.ren σ) := by
  intro e j he hj
  rw [rowF_ren]; exact h e j he hj
theorem row_cells1 {f : Nat → Nat → SC} {x0 y0 : Int} {e j : Nat} (h0 : f 0 0 = .v (.int .i64 x0)) (h1 : f 0 1 = .v (.int .i64 y0)) (he : e < 1) (hj : j < 2) : f e j = rowF eC [⟨x0, y0⟩] e j := by
  obtain rfl : e = 0 := by omega
  rcases (by omega : j = 0 ∨ j = 1) with rfl | rfl
  · exact h0
  · exact h1
def g48 : Con := cntCon
theorem c48 : COk Try.prog 48 g48 := cok_count fun args w => run_callFunc_extern Try.func48 (by kernel_rfl) (by kernel_rfl) (by kernel_rfl) (e := Extern.BytealgCount.count) (by kernel_rfl) args w
def x44L0 : XC := (.block 1 (.seq (.reg false [O1 21 .mv 0, O1 22 .mv 1, O2 23 (.call 49) 21 22, O1 6 .mv 23]) (.seq (.seq (.reg false [O1 24 .mv 6, K2 25 (.bin .eql) 24 (iV (-1))]) (.cond (.t 25) (.seq (.reg false [O1 26 .mv 5, O1 4 .mv 26]) .ret) .skip)) (.seq (.reg false [O1 27 .mv 5, K2 28 (.bin .add) 27 (iV 1), O1 5 .mv 28]) (.reg false [O1 29 .mv 0, O1 30 .mv 6, O1 31 .mv 1, O1 32 .lenS 31, O2 33 (.bin .add) 30 32, O2 34 (.slc 1 true false false) 29 33, O1 0 .mv 34])))))
def x44 : XFn := ⟨35, (.seq (.reg false [K1 4 .mv (iV 0)]) (.seq (.seq (.reg false [O1 7 .mv 1, O1 8 .lenS 7, K2 9 (.bin .eql) 8 (iV 0)]) (.cond (.t 9) (.seq (.reg false [O1 10 .mv 0, O1 11 (.call 47) 10, K2 12 (.bin .add) 11 (iV 1), O1 4 .mv 12]) .ret) .skip)) (.seq (.seq (.reg false [O1 13 .mv 1, O1 14 .lenS 13, K2 15 (.bin .eql) 14 (iV 1)]) (.cond (.t 15) (.seq (.reg false [O1 16 .mv 0, O1 17 .mv 1, K2 18 (.ixS 1) 17 (iV 0), O1 19 .load1 18, O2 20 (.call 48) 16 19, O1 4 .mv 20]) .ret) .skip)) (.seq (.reg false [K1 5 .mv (iV 0)]) (.block 0 (.loop x44L0)))))), [(.s 4)]⟩
theorem x44_ok : xfn Try.prog Try.f44 = some x44.er := by kernel_rfl
def x38 : XFn := ⟨13, (.seq (.reg false [O1 2 (.box 24) 0, K1 4 .mv (iV 0)]) (.seq (.seq (.reg false [O1 5 (.loadN 3) 2, O1 6 (.call 33) 5, O1 7 (.un .not) 6]) (.cond (.t 7) (.seq (.reg false [K1 4 .mv (iV 0)]) .ret) .skip)) (.seq (.reg false [O1 8 (.fld 2) 2, O1 9 .load1 8, O1 10 .mv 1, ⟨(some 11), (.slit 5 1 1 [(.int .u8 0)] [(0, 1)]), [(.t 10)], none⟩, O2 12 (.call 44) 9 11, O1 4 .mv 12]) .ret))), [(.s 4)]⟩
theorem x38_ok : xfn Try.prog Try.f38 = some x38.er := by kernel_rfl
def x45 : XFn := ⟨22, (.seq (.reg false [O1 4 (.box 26) 1, O1 5 (.box 26) 2]) (.seq (.reg false [O1 6 .mv 0, O1 7 (.loadN 2) 4, O1 9 (.loadN 2) 5, ⟨(some 10), (.slit 26 1 2 [(iV 0), (iV 0)] [(0, 2)]), [(.t 9)], none⟩, ⟨(some 11), (.mpe (.slice none 0 0)), [(.t 6), (.t 7)], none⟩, O1 8 (.ext 0) 11, O2 12 (.app 26 2 16) 8 10, O1 13 (.ext 1) 11, ⟨none, .mps, [(.t 6), (.t 13), (.t 12)], none⟩]) (.reg false [O1 14 .mv 0, O1 15 (.loadN 2) 5, O1 17 (.loadN 2) 4, ⟨(some 18), (.slit 26 1 2 [(iV 0), (iV 0)] [(0, 2)]), [(.t 17)], none⟩, ⟨(some 19), (.mpe (.slice none 0 0)), [(.t 14), (.t 15)], none⟩, O1 16 (.ext 0) 19, O2 20 (.app 26 2 16) 16 18, O1 21 (.ext 1) 19, ⟨none, .mps, [(.t 14), (.t 21), (.t 20)], none⟩]))), []⟩
theorem x45_ok : xfn Try.prog Try.f45 = some x45.er := by kernel_rfl
def x39 : XFn := ⟨44, (.seq (.reg false [O1 3 (.box 26) 1]) (.seq (.regD [O1 8 (.loadN 2) 3, O1 9 (.fld 0) 3, O1 10 .load1 9, K2 11 (.bin .add) 10 (iV 1), O1 12 (.fld 1) 3, O1 13 .load1 12, ⟨(some 14), (.build [(iV 0), (iV 0)] [(0, 1), (1, 1)]), [(.t 11), (.t 13)], none⟩, O1 15 (.fld 0) 3, O1 16 .load1 15, K2 17 (.bin .add) 16 (iV 1), O1 18 (.fld 1) 3, O1 19 .load1 18, K2 20 (.bin .add) 19 (iV 1), ⟨(some 21), (.build [(iV 0), (iV 0)] [(0, 1), (1, 1)]), [(.t 17), (.t 20)], none⟩, O1 22 (.fld 0) 3, O1 23 .load1 22, O1 24 (.fld 1) 3, O1 25 .load1 24, K2 26 (.bin .add) 25 (iV 1), ⟨(some 27), (.build [(iV 0), (iV 0)] [(0, 1), (1, 1)]), [(.t 23), (.t 26)], none⟩, ⟨(some 4), (.alloc 26 [(iV 0), (iV 0)]), [], none⟩, ⟨(some 5), (.alloc 26 [(iV 0), (iV 0)]), [], none⟩, ⟨(some 6), (.alloc 26 [(iV 0), (iV 0)]), [], none⟩, ⟨(some 7), (.alloc 26 [(iV 0), (iV 0)]), [], none⟩, ⟨none, (.store 2), [(.t 4), (.t 8)], none⟩, ⟨none, (.store 2), [(.t 5), (.t 14)], none⟩, ⟨none, (.store 2), [(.t 6), (.t 21)], none⟩, ⟨none, (.store 2), [(.t 7), (.t 27)], none⟩] [[], [], [1], [2, 1], [], [4], [3, 2, 1, 5, 4], [], [7], [8, 7], [], [10], [11, 10], [9, 8, 7, 12, 11, 10], [], [14], [], [16], [17, 16], [15, 14, 18, 17, 16], [], [], [], [], [20, 0, 21, 22, 23], [21, 6, 3, 2, 1, 5, 4, 24, 20, 0, 22, 23], [22, 13, 9, 8, 7, 12, 11, 10, 25, 21, 6, 3, 2, 1, 5, 4, 24, 20, 0, 23], [23, 19, 15, 14, 18, 17, 16, 26, 22, 13, 9, 8, 7, 12, 11, 10, 25, 21, 6, 3, 2, 1, 5, 4, 24, 20, 0]]) (.seq (.reg false [O1 28 .mv 0, O1 29 (.loadN 2) 4, O1 30 (.loadN 2) 5, ⟨(some 31), (.call 45), [(.t 28), (.t 29), (.t 30)], none⟩]) (.seq (.reg false [O1 32 .mv 0, O1 33 (.loadN 2) 5, O1 34 (.loadN 2) 6, ⟨(some 35), (.call 45), [(.t 32), (.t 33), (.t 34)], none⟩]) (.seq (.reg false [O1 36 .mv 0, O1 37 (.loadN 2) 6, O1 38 (.loadN 2) 7, ⟨(some 39), (.call 45), [(.t 36), (.t 37), (.t 38)], none⟩]) (.reg false [O1 40 .mv 0, O1 41 (.loadN 2) 7, O1 42 (.loadN 2) 4, ⟨(some 43), (.call 45), [(.t 40), (.t 41), (.t 42)], none⟩])))))), []⟩
theorem x39_ok : xfn Try.prog Try.f39 = some x39.er := by kernel_rfl
def g44 : Con := fun args_ E_ nn_ => match args_ with
  | [.c (.n s), .c (.n sep)] => (match rowOf E_ s with
    | some (s_n, s_s, s_f) => (match rowOf E_ sep with
    | some (sep_n, sep_s, sep_f) => some (.q (isRow eU8 s_n s_s s_f ∧ isRow eU8 sep_n sep_s sep_f ∧ ((decL eU8 sep_n sep_f)).length = 1) (.o (.c (.v (.int .i64 (cnt8 (decL eU8 s_n s_f) (((decL eU8 sep_n sep_f)).getD 0 eU8.dflt)))))))
    | none => none)
    | none => none)
  | _ => none
theorem c44 : COk Try.prog 44 g44 := by
  refine cok_q Try.func44 x44_ok (by kernel_rfl) (cok_tab (cok_cons c48 cok_nil)) ?_
  intro args_ E_ nn_ cr_ hg_
  unfold g44 at hg_
  split at hg_
  · rename_i s sep
    split at hg_
    · rename_i s_n s_s s_f h_s
      split at hg_
      · rename_i sep_n sep_s sep_f h_sep
        cases hg_
        refine ⟨_, _, rfl, 2, [s, sep], [.c (.n 0), .c (.n 1)], [(0, .ro (decL eU8 s_n s_f).length eU8.sz (rowF eU8 (decL eU8 s_n s_f))), (1, .ro (decL eU8 sep_n sep_f).length eU8.sz (rowF eU8 (decL eU8 sep_n sep_f)))], .o (.c (.v (.int .i64 (cnt8 (decL eU8 s_n s_f) (((decL eU8 sep_n sep_f)).getD 0 eU8.dflt))))), rfl, rfl, by simp only [push_cast, Nat.reduceLT, Nat.reduceAdd], by simp only [push_cast, Nat.reduceLT, Nat.reduceAdd], by simp only [push_cast, Nat.reduceLT, Nat.reduceAdd], rfl, ⟨inE0_row h_s, inE0_row h_sep, trivial⟩, rfl, ?_⟩
        intro hpre hlen
        obtain ⟨i_s, hpre⟩ := hpre
        obtain ⟨i_sep, hpre⟩ := hpre
        refine ⟨⟨inE_row h_s i_s, inE_row h_sep i_sep, trivial⟩, ?_⟩
        have z_s := lens_row (E := eU8) hlen h_s
        have z_sep := lens_row (E := eU8) hlen h_sep
        clear i_s
        generalize decL eU8 s_n s_f = sL at *
        clear i_sep
        generalize decL eU8 sep_n sep_f = sepL at *
        clear h_s
        clear h_sep
        simp (config := {maxSteps := 10000000}) only [x44, push_cast, Nat.reduceAdd, Nat.reduceSub, Nat.reduceLeDiff, Nat.reduceEqDiff, Nat.reduceBEq, Nat.reduceMul, Nat.reduceLT, reduceIte, reduceCtorEq, Int.reduceLE, Int.reduceLT, Int.reduceEq, Int.reduceMul, Int.reduceAdd, Int.reduceSub, Int.reduceNeg, Int.reduceToNat, Int.reduceNe, g48]
        exact ⟨by omega, fun _ => ⟨fun _ => ⟨by omega, by omega⟩, fun h => by omega⟩⟩
      · cases hg_
    · cases hg_
  · cases hg_
def g38 : Con := fun args_ E_ nn_ => match args_ with
  | [.a [.v (.int .i64 p_W), .v (.int .i64 p_H), .n p_Cells], .c (.v (.int .u8 value))] => (match rowOf E_ p_Cells with
    | some (p_Cells_n, p_Cells_s, p_Cells_f) => some (.q (isRow eU8 p_Cells_n p_Cells_s p_Cells_f ∧ True) (.o (.c (.v (.int .i64 (cntV p_W p_H (decL eU8 p_Cells_n p_Cells_f) value))))))
    | none => none)
  | _ => none
theorem c38 : COk Try.prog 38 g38 := by
  refine cok_q Try.func38 x38_ok (by kernel_rfl) (cok_tab (cok_cons c33 (cok_cons c44 cok_nil))) ?_
  intro args_ E_ nn_ cr_ hg_
  unfold g38 at hg_
  split at hg_
  · rename_i p_W p_H p_Cells value
    split at hg_
    · rename_i p_Cells_n p_Cells_s p_Cells_f h_p_Cells
      cases hg_
      refine ⟨_, _, rfl, 1, [p_Cells], [.a [.v (.int .i64 p_W), .v (.int .i64 p_H), .n 0], .c (.v (.int .u8 value))], [(0, .ro (decL eU8 p_Cells_n p_Cells_f).length eU8.sz (rowF eU8 (decL eU8 p_Cells_n p_Cells_f)))], .o (.c (.v (.int .i64 (cntV p_W p_H (decL eU8 p_Cells_n p_Cells_f) value)))), rfl, rfl, by simp only [push_cast, Nat.reduceLT, Nat.reduceAdd], by simp only [push_cast, Nat.reduceLT, Nat.reduceAdd], by simp only [push_cast, Nat.reduceLT, Nat.reduceAdd], rfl, ⟨inE0_row h_p_Cells, trivial⟩, rfl, ?_⟩
      intro hpre hlen
      obtain ⟨i_p_Cells, hpre⟩ := hpre
      refine ⟨⟨inE_row h_p_Cells i_p_Cells, trivial⟩, ?_⟩
      have z_p_Cells := lens_row (E := eU8) hlen h_p_Cells
      clear i_p_Cells
      generalize decL eU8 p_Cells_n p_Cells_f = p_CellsL at *
      clear h_p_Cells
      have l1 : isRow eU8 1 1 (litF [SC.v (Value.int IntKind.u8 value)] 1) ↔ True := iff_true_intro (lits_row eU8 [value]).1
      have l2 : decL eU8 1 (litF [SC.v (Value.int IntKind.u8 value)] 1) = [value] := (lits_row eU8 [value]).2
      simp (config := {maxSteps := 10000000}) only [x38, push_cast, Nat.reduceAdd, Nat.reduceSub, Nat.reduceLeDiff, Nat.reduceEqDiff, Nat.reduceBEq, Nat.reduceMul, Nat.reduceLT, reduceIte, reduceCtorEq, Int.reduceLE, Int.reduceLT, Int.reduceEq, Int.reduceMul, Int.reduceAdd, Int.reduceSub, Int.reduceNeg, Int.reduceToNat, Int.reduceNe, g33, g44, l1, l2]
      unfold cntV
      exact ⟨fun h => by rw [h]; rfl, fun h => by rw [if_pos h]⟩
    · cases hg_
  · cases hg_
def g45j1 : Con := fun args_ E_ nn_ => match args_ with
  | [.c (.n r), .a [.v (.int .i64 a_X), .v (.int .i64 a_Y)], .a [.v (.int .i64 b_X), .v (.int .i64 b_Y)]] => (match E_ r with
    | some (.mp []) => some (.e (True ∧ a_X = 0 ∧ a_Y = 0 ∧ b_X = 1 ∧ b_Y = 0) (.t []) [(r, .mp [(0, 0, .n (nn_ + 0)), (1, 0, .n (nn_ + 1))]), ((nn_ + 0), .own 1 2 (rowF eC [⟨1, 0⟩]) 26), ((nn_ + 1), .own 1 2 (rowF eC [⟨0, 0⟩]) 26)] (nn_ + 2))
    | _ => none)
  | _ => none
theorem c45j1 : COk Try.prog 45 g45j1 := by
  refine cok_e Try.func45 x45_ok (by kernel_rfl) (cok_tab cok_nil) ?_
  intro args_ E_ nn_ cr_ hg_
  unfold g45j1 at hg_
  split at hg_
  · rename_i r a_X a_Y b_X b_Y
    split at hg_
    · rename_i h_r
      cases hg_
      refine ⟨_, _, _, _, rfl, 1, [r], [.c (.n 0), .a [.v (.int .i64 a_X), .v (.int .i64 a_Y)], .a [.v (.int .i64 b_X), .v (.int .i64 b_Y)]], [(0, .mp [])], .t [], [(0, .mp [(0, 0, .n 1), (1, 0, .n 2)]), (1, .own 1 2 (rowF eC [⟨1, 0⟩]) 26), (2, .own 1 2 (rowF eC [⟨0, 0⟩]) 26)], 3, rfl, rfl, by simp only [renE, Ent.ren, renM, rowF_renf] <;> rfl, rfl, by decide, by simp only [push_cast, Nat.reduceLT, Nat.reduceAdd], by simp only [push_cast, Nat.reduceLT, Nat.reduceAdd], by simp only [push_cast, Nat.reduceLT, Nat.reduceAdd], by simp only [push_cast, Nat.reduceLT, Nat.reduceAdd], rfl, ⟨⟨_, h_r⟩, trivial⟩, by simp only [keysNodup, outN, keys] <;> decide, rfl, rfl, ?_⟩
      intro hpre hlen
      obtain ⟨_, rfl, rfl, rfl, rfl⟩ := hpre
      refine ⟨⟨⟨_, h_r, by simp only [leE, leM, SC.ren, and_true, true_and, and_self] <;> first | rfl | (refine ⟨?_, ?_⟩ <;> rfl) | exact ⟨rfl, rfl, rfl⟩ | exact ⟨rfl, rfl, rfl, rfl⟩⟩, trivial⟩, ?_, ?_⟩
      · skip
        refine ⟨fun _ k2 e2 hm hne => ?_, ?_⟩
        · simp only [List.mem_cons, List.not_mem_nil, or_false, Prod.mk.injEq] at hm
          obtain ⟨rfl, _⟩ := hm
          exact absurd rfl hne
        trivial
      simp (config := {maxSteps := 10000000}) only [x45, push_cast, Nat.reduceAdd, Nat.reduceSub, Nat.reduceLeDiff, Nat.reduceEqDiff, Nat.reduceBEq, Nat.reduceMul, Nat.reduceLT, reduceIte, reduceCtorEq, Int.reduceLE, Int.reduceLT, Int.reduceEq, Int.reduceMul, Int.reduceAdd, Int.reduceSub, Int.reduceNeg, Int.reduceToNat, Int.reduceNe]
      exact ⟨row_one ⟨1, 0⟩ _, row_one ⟨0, 0⟩ _⟩
    · cases hg_
  · cases hg_
def g45j2 : Con := fun args_ E_ nn_ => match args_ with
  | [.c (.n r), .a [.v (.int .i64 b_X), .v (.int .i64 b_Y)], .a [.v (.int .i64 d_X), .v (.int .i64 d_Y)]] => (match E_ r with
    | some (.mp [(a_X, a_Y, .n i0), (kb_X, kb_Y, .n i1)]) => (match E_ i0 with
    | some i0_e => (match E_ i1 with
    | some (.own i1_n i1_s i1_f i1_t) => some (.e (True ∧ r ≠ i0 ∧ r ≠ i1 ∧ i0 ≠ i1 ∧ i1_n = 1 ∧ i1_s = 2 ∧ i1_t = 26 ∧ i1_f 0 0 = .v (.int .i64 0) ∧ i1_f 0 1 = .v (.int .i64 0) ∧ b_X = 1 ∧ b_Y = 0 ∧ d_X = 1 ∧ d_Y = 1 ∧ a_X = 0 ∧ a_Y = 0 ∧ kb_X = 1 ∧ kb_Y = 0) (.t []) [(r, .mp [(0, 0, .n i0), (1, 0, .n (nn_ + 0)), (1, 1, .n (nn_ + 1))]), (i1, .dead), ((nn_ + 0), .own 2 2 (rowF eC [⟨0, 0⟩, ⟨1, 1⟩]) 26), ((nn_ + 1), .own 1 2 (rowF eC [⟨1, 0⟩]) 26)] (nn_ + 2))
    | _ => none)
    | _ => none)
    | _ => none)
  | _ => none
theorem c45j2 : COk Try.prog 45 g45j2 := by
  refine cok_e Try.func45 x45_ok (by kernel_rfl) (cok_tab cok_nil) ?_
  intro args_ E_ nn_ cr_ hg_
  unfold g45j2 at hg_
  split at hg_
  · rename_i r b_X b_Y d_X d_Y
    split at hg_
    · rename_i a_X a_Y i0 kb_X kb_Y i1 h_r
      split at hg_
      · rename_i i0_e h_i0
        split at hg_
        · rename_i i1_n i1_s i1_f i1_t h_i1
          cases hg_
          refine ⟨_, _, _, _, rfl, 3, [r, i0, i1], [.c (.n 0), .a [.v (.int .i64 b_X), .v (.int .i64 b_Y)], .a [.v (.int .i64 d_X), .v (.int .i64 d_Y)]], [(0, .mp [(a_X, a_Y, .n 1), (kb_X, kb_Y, .n 2)]), (1, .dead), (2, .own 1 2 (rowF eC [⟨0, 0⟩]) 26)], .t [], [(0, .mp [(0, 0, .n 1), (1, 0, .n 3), (1, 1, .n 4)]), (2, .dead), (3, .own 2 2 (rowF eC [⟨0, 0⟩, ⟨1, 1⟩]) 26), (4, .own 1 2 (rowF eC [⟨1, 0⟩]) 26)], 5, rfl, rfl, by simp only [renE, Ent.ren, renM, rowF_renf] <;> rfl, rfl, by decide, by simp only [push_cast, Nat.reduceLT, Nat.reduceAdd], by simp only [push_cast, Nat.reduceLT, Nat.reduceAdd], by simp only [push_cast, Nat.reduceLT, Nat.reduceAdd], by simp only [push_cast, Nat.reduceLT, Nat.reduceAdd], rfl, ⟨⟨_, h_r⟩, ⟨_, h_i0⟩, ⟨_, h_i1⟩, trivial⟩, by simp only [keysNodup, outN, keys] <;> decide, rfl, rfl, ?_⟩
          intro hpre hlen
          obtain ⟨_, d_r_i0, d_r_i1, d_i0_i1, rfl, rfl, rfl, c_i1_0_0, c_i1_0_1, rfl, rfl, rfl, rfl, rfl, rfl, rfl, rfl⟩ := hpre
          refine ⟨⟨⟨_, h_r, by simp only [leE, leM, SC.ren, and_true, true_and, and_self] <;> first | rfl | (refine ⟨?_, ?_⟩ <;> rfl) | exact ⟨rfl, rfl, rfl⟩ | exact ⟨rfl, rfl, rfl, rfl⟩⟩, ⟨_, h_i0, by cases i0_e <;> trivial⟩, ⟨_, h_i1, rfl, rfl, rfl, row_of (by intro e j he hj; first | exact row_cells1 c_i1_0_0 c_i1_0_1 he hj)⟩, trivial⟩, ?_, ?_⟩
          · skip
            refine ⟨fun _ k2 e2 hm hne => ?_, ?_⟩
            · simp only [List.mem_cons, List.not_mem_nil, or_false, Prod.mk.injEq] at hm
              rcases hm with ⟨rfl, _⟩ | ⟨rfl, _⟩ | ⟨rfl, _⟩
              · exact absurd rfl hne
              · exact fun hh => d_r_i0 (Eq.symm (show i0 = r from hh))
              · exact fun hh => d_r_i1 (Eq.symm (show i1 = r from hh))
            refine ⟨fun h => by (cases h), ?_⟩
            refine ⟨fun _ k2 e2 hm hne => ?_, ?_⟩
            · simp only [List.mem_cons, List.not_mem_nil, or_false, Prod.mk.injEq] at hm
              rcases hm with ⟨rfl, _⟩ | ⟨rfl, _⟩ | ⟨rfl, _⟩
              · exact fun hh => d_r_i1 (show r = i1 from hh)
              · exact fun hh => d_i0_i1 (show i0 = i1 from hh)
              · exact absurd rfl hne
            trivial
          simp (config := {maxSteps := 10000000}) only [x45, push_cast, Nat.reduceAdd, Nat.reduceSub, Nat.reduceLeDiff, Nat.reduceEqDiff, Nat.reduceBEq, Nat.reduceMul, Nat.reduceLT, reduceIte, reduceCtorEq, Int.reduceLE, Int.reduceLT, Int.reduceEq, Int.reduceMul, Int.reduceAdd, Int.reduceSub, Int.reduceNeg, Int.reduceToNat, Int.reduceNe]
          exact ⟨(push_eq (E := eC) (L := [⟨0, 0⟩]) (x := ⟨1, 1⟩) rfl).2, row_one ⟨1, 0⟩ _⟩
        · cases hg_
      · cases hg_
    · cases hg_
  · cases hg_
def g45j3 : Con := fun args_ E_ nn_ => match args_ with
  | [.c (.n r), .a [.v (.int .i64 d_X), .v (.int .i64 d_Y)], .a [.v (.int .i64 e_X), .v (.int .i64 e_Y)]] => (match E_ r with
    | some (.mp [(a_X, a_Y, .n i0), (b_X, b_Y, .n i1), (kd_X, kd_Y, .n i2)]) => (match E_ i0 with
    | some i0_e => (match E_ i1 with
    | some i1_e => (match E_ i2 with
    | some (.own i2_n i2_s i2_f i2_t) => some (.e (True ∧ r ≠ i0 ∧ r ≠ i1 ∧ r ≠ i2 ∧ i0 ≠ i1 ∧ i0 ≠ i2 ∧ i1 ≠ i2 ∧ i2_n = 1 ∧ i2_s = 2 ∧ i2_t = 26 ∧ i2_f 0 0 = .v (.int .i64 1) ∧ i2_f 0 1 = .v (.int .i64 0) ∧ d_X = 1 ∧ d_Y = 1 ∧ e_X = 0 ∧ e_Y = 1 ∧ a_X = 0 ∧ a_Y = 0 ∧ b_X = 1 ∧ b_Y = 0 ∧ kd_X = 1 ∧ kd_Y = 1) (.t []) [(r, .mp [(0, 0, .n i0), (1, 0, .n i1), (1, 1, .n (nn_ + 0)), (0, 1, .n (nn_ + 1))]), (i2, .dead), ((nn_ + 0), .own 2 2 (rowF eC [⟨1, 0⟩, ⟨0, 1⟩]) 26), ((nn_ + 1), .own 1 2 (rowF eC [⟨1, 1⟩]) 26)] (nn_ + 2))
    | _ => none)
    | _ => none)
    | _ => none)
    | _ => none)
  | _ => none
theorem c45j3 : COk Try.prog 45 g45j3 := by
  refine cok_e Try.func45 x45_ok (by kernel_rfl) (cok_tab cok_nil) ?_
  intro args_ E_ nn_ cr_ hg_
  unfold g45j3 at hg_
  split at hg_
  · rename_i r d_X d_Y e_X e_Y
    split at hg_
    · rename_i a_X a_Y i0 b_X b_Y i1 kd_X kd_Y i2 h_r
      split at hg_
      · rename_i i0_e h_i0
        split at hg_
        · rename_i i1_e h_i1
          split at hg_
          · rename_i i2_n i2_s i2_f i2_t h_i2
            cases hg_
            refine ⟨_, _, _, _, rfl, 4, [r, i0, i1, i2], [.c (.n 0), .a [.v (.int .i64 d_X), .v (.int .i64 d_Y)], .a [.v (.int .i64 e_X), .v (.int .i64 e_Y)]], [(0, .mp [(a_X, a_Y, .n 1), (b_X, b_Y, .n 2), (kd_X, kd_Y, .n 3)]), (1, .dead), (2, .dead), (3, .own 1 2 (rowF eC [⟨1, 0⟩]) 26)], .t [], [(0, .mp [(0, 0, .n 1), (1, 0, .n 2), (1, 1, .n 4), (0, 1, .n 5)]), (3, .dead), (4, .own 2 2 (rowF eC [⟨1, 0⟩, ⟨0, 1⟩]) 26), (5, .own 1 2 (rowF eC [⟨1, 1⟩]) 26)], 6, rfl, rfl, by simp only [renE, Ent.ren, renM, rowF_renf] <;> rfl, rfl, by decide, by simp only [push_cast, Nat.reduceLT, Nat.reduceAdd], by simp only [push_cast, Nat.reduceLT, Nat.reduceAdd], by simp only [push_cast, Nat.reduceLT, Nat.reduceAdd], by simp only [push_cast, Nat.reduceLT, Nat.reduceAdd], rfl, ⟨⟨_, h_r⟩, ⟨_, h_i0⟩, ⟨_, h_i1⟩, ⟨_, h_i2⟩, trivial⟩, by simp only [keysNodup, outN, keys] <;> decide, rfl, rfl, ?_⟩
            intro hpre hlen
            obtain ⟨_, d_r_i0, d_r_i1, d_r_i2, d_i0_i1, d_i0_i2, d_i1_i2, rfl, rfl, rfl, c_i2_0_0, c_i2_0_1, rfl, rfl, rfl, rfl, rfl, rfl, rfl, rfl, rfl, rfl⟩ := hpre
            refine ⟨⟨⟨_, h_r, by simp only [leE, leM, SC.ren, and_true, true_and, and_self] <;> first | rfl | (refine ⟨?_, ?_⟩ <;> rfl) | exact ⟨rfl, rfl, rfl⟩ | exact ⟨rfl, rfl, rfl, rfl⟩⟩, ⟨_, h_i0, by cases i0_e <;> trivial⟩, ⟨_, h_i1, by cases i1_e <;> trivial⟩, ⟨_, h_i2, rfl, rfl, rfl, row_of (by intro e j he hj; first | exact row_cells1 c_i2_0_0 c_i2_0_1 he hj)⟩, trivial⟩, ?_, ?_⟩
            · skip
              refine ⟨fun _ k2 e2 hm hne => ?_, ?_⟩
              · simp only [List.mem_cons, List.not_mem_nil, or_false, Prod.mk.injEq] at hm
                rcases hm with ⟨rfl, _⟩ | ⟨rfl, _⟩ | ⟨rfl, _⟩ | ⟨rfl, _⟩
                · exact absurd rfl hne
                · exact fun hh => d_r_i0 (Eq.symm (show i0 = r from hh))
                · exact fun hh => d_r_i1 (Eq.symm (show i1 = r from hh))
                · exact fun hh => d_r_i2 (Eq.symm (show i2 = r from hh))
              refine ⟨fun h => by (cases h), ?_⟩
              refine ⟨fun h => by (cases h), ?_⟩
              refine ⟨fun _ k2 e2 hm hne => ?_, ?_⟩
              · simp only [List.mem_cons, List.not_mem_nil, or_false, Prod.mk.injEq] at hm
                rcases hm with ⟨rfl, _⟩ | ⟨rfl, _⟩ | ⟨rfl, _⟩ | ⟨rfl, _⟩
                · exact fun hh => d_r_i2 (show r = i2 from hh)
                · exact fun hh => d_i0_i2 (show i0 = i2 from hh)
                · exact fun hh => d_i1_i2 (show i1 = i2 from hh)
                · exact absurd rfl hne
              trivial
            simp (config := {maxSteps := 10000000}) only [x45, push_cast, Nat.reduceAdd, Nat.reduceSub, Nat.reduceLeDiff, Nat.reduceEqDiff, Nat.reduceBEq, Nat.reduceMul, Nat.reduceLT, reduceIte, reduceCtorEq, Int.reduceLE, Int.reduceLT, Int.reduceEq, Int.reduceMul, Int.reduceAdd, Int.reduceSub, Int.reduceNeg, Int.reduceToNat, Int.reduceNe]
            exact ⟨(push_eq (E := eC) (L := [⟨1, 0⟩]) (x := ⟨0, 1⟩) rfl).2, row_one ⟨1, 1⟩ _⟩
          · cases hg_
        · cases hg_
      · cases hg_
    · cases hg_
  · cases hg_
def g45j4 : Con := fun args_ E_ nn_ => match args_ with
  | [.c (.n r), .a [.v (.int .i64 e_X), .v (.int .i64 e_Y)], .a [.v (.int .i64 a_X), .v (.int .i64 a_Y)]] => (match E_ r with
    | some (.mp [(ka_X, ka_Y, .n i0), (b_X, b_Y, .n i1), (d_X, d_Y, .n i2), (ke_X, ke_Y, .n i3)]) => (match E_ i0 with
    | some (.own i0_n i0_s i0_f i0_t) => (match E_ i1 with
    | some i1_e => (match E_ i2 with
    | some i2_e => (match E_ i3 with
    | some (.own i3_n i3_s i3_f i3_t) => some (.e (True ∧ r ≠ i0 ∧ r ≠ i1 ∧ r ≠ i2 ∧ r ≠ i3 ∧ i0 ≠ i1 ∧ i0 ≠ i2 ∧ i0 ≠ i3 ∧ i1 ≠ i2 ∧ i1 ≠ i3 ∧ i2 ≠ i3 ∧ i0_n = 1 ∧ i0_s = 2 ∧ i0_t = 26 ∧ i0_f 0 0 = .v (.int .i64 1) ∧ i0_f 0 1 = .v (.int .i64 0) ∧ i3_n = 1 ∧ i3_s = 2 ∧ i3_t = 26 ∧ i3_f 0 0 = .v (.int .i64 1) ∧ i3_f 0 1 = .v (.int .i64 1) ∧ e_X = 0 ∧ e_Y = 1 ∧ a_X = 0 ∧ a_Y = 0 ∧ ka_X = 0 ∧ ka_Y = 0 ∧ b_X = 1 ∧ b_Y = 0 ∧ d_X = 1 ∧ d_Y = 1 ∧ ke_X = 0 ∧ ke_Y = 1) (.t []) [(r, .mp [(0, 0, .n (nn_ + 1)), (1, 0, .n i1), (1, 1, .n i2), (0, 1, .n (nn_ + 0))]), (i0, .dead), (i3, .dead), ((nn_ + 0), .own 2 2 (rowF eC [⟨1, 1⟩, ⟨0, 0⟩]) 26), ((nn_ + 1), .own 2 2 (rowF eC [⟨1, 0⟩, ⟨0, 1⟩]) 26)] (nn_ + 2))
    | _ => none)
    | _ => none)
    | _ => none)
    | _ => none)
    | _ => none)
  | _ => none
theorem c45j4 : COk Try.prog 45 g45j4 := by
  refine cok_e Try.func45 x45_ok (by kernel_rfl) (cok_tab cok_nil) ?_
  intro args_ E_ nn_ cr_ hg_
  unfold g45j4 at hg_
  split at hg_
  · rename_i r e_X e_Y a_X a_Y
    split at hg_
    · rename_i ka_X ka_Y i0 b_X b_Y i1 d_X d_Y i2 ke_X ke_Y i3 h_r
      split at hg_
      · rename_i i0_n i0_s i0_f i0_t h_i0
        split at hg_
        · rename_i i1_e h_i1
          split at hg_
          · rename_i i2_e h_i2
            split at hg_
            · rename_i i3_n i3_s i3_f i3_t h_i3
              cases hg_
              refine ⟨_, _, _, _, rfl, 5, [r, i0, i1, i2, i3], [.c (.n 0), .a [.v (.int .i64 e_X), .v (.int .i64 e_Y)], .a [.v (.int .i64 a_X), .v (.int .i64 a_Y)]], [(0, .mp [(ka_X, ka_Y, .n 1), (b_X, b_Y, .n 2), (d_X, d_Y, .n 3), (ke_X, ke_Y, .n 4)]), (1, .own 1 2 (rowF eC [⟨1, 0⟩]) 26), (2, .dead), (3, .dead), (4, .own 1 2 (rowF eC [⟨1, 1⟩]) 26)], .t [], [(0, .mp [(0, 0, .n 6), (1, 0, .n 2), (1, 1, .n 3), (0, 1, .n 5)]), (1, .dead), (4, .dead), (5, .own 2 2 (rowF eC [⟨1, 1⟩, ⟨0, 0⟩]) 26), (6, .own 2 2 (rowF eC [⟨1, 0⟩, ⟨0, 1⟩]) 26)], 7, rfl, rfl, by simp only [renE, Ent.ren, renM, rowF_renf] <;> rfl, rfl, by decide, by simp only [push_cast, Nat.reduceLT, Nat.reduceAdd], by simp only [push_cast, Nat.reduceLT, Nat.reduceAdd], by simp only [push_cast, Nat.reduceLT, Nat.reduceAdd], by simp only [push_cast, Nat.reduceLT, Nat.reduceAdd], rfl, ⟨⟨_, h_r⟩, ⟨_, h_i0⟩, ⟨_, h_i1⟩, ⟨_, h_i2⟩, ⟨_, h_i3⟩, trivial⟩, by simp only [keysNodup, outN, keys] <;> decide, rfl, rfl, ?_⟩
              intro hpre hlen
              obtain ⟨_, d_r_i0, d_r_i1, d_r_i2, d_r_i3, d_i0_i1, d_i0_i2, d_i0_i3, d_i1_i2, d_i1_i3, d_i2_i3, rfl, rfl, rfl, c_i0_0_0, c_i0_0_1, rfl, rfl, rfl, c_i3_0_0, c_i3_0_1, rfl, rfl, rfl, rfl, rfl, rfl, rfl, rfl, rfl, rfl, rfl, rfl⟩ := hpre
              refine ⟨⟨⟨_, h_r, by simp only [leE, leM, SC.ren, and_true, true_and, and_self] <;> first | rfl | (refine ⟨?_, ?_⟩ <;> rfl) | exact ⟨rfl, rfl, rfl⟩ | exact ⟨rfl, rfl, rfl, rfl⟩⟩, ⟨_, h_i0, rfl, rfl, rfl, row_of (by intro e j he hj; first | exact row_cells1 c_i0_0_0 c_i0_0_1 he hj)⟩, ⟨_, h_i1, by cases i1_e <;> trivial⟩, ⟨_, h_i2, by cases i2_e <;> trivial⟩, ⟨_, h_i3, rfl, rfl, rfl, row_of (by intro e j he hj; first | exact row_cells1 c_i3_0_0 c_i3_0_1 he hj)⟩, trivial⟩, ?_, ?_⟩
              · skip
                refine ⟨fun _ k2 e2 hm hne => ?_, ?_⟩
                · simp only [List.mem_cons, List.not_mem_nil, or_false, Prod.mk.injEq] at hm
                  rcases hm with ⟨rfl, _⟩ | ⟨rfl, _⟩ | ⟨rfl, _⟩ | ⟨rfl, _⟩ | ⟨rfl, _⟩
                  · exact absurd rfl hne
                  · exact fun hh => d_r_i0 (Eq.symm (show i0 = r from hh))
                  · exact fun hh => d_r_i1 (Eq.symm (show i1 = r from hh))
                  · exact fun hh => d_r_i2 (Eq.symm (show i2 = r from hh))
                  · exact fun hh => d_r_i3 (Eq.symm (show i3 = r from hh))
                refine ⟨fun _ k2 e2 hm hne => ?_, ?_⟩
                · simp only [List.mem_cons, List.not_mem_nil, or_false, Prod.mk.injEq] at hm
                  rcases hm with ⟨rfl, _⟩ | ⟨rfl, _⟩ | ⟨rfl, _⟩ | ⟨rfl, _⟩ | ⟨rfl, _⟩
                  · exact fun hh => d_r_i0 (show r = i0 from hh)
                  · exact absurd rfl hne
                  · exact fun hh => d_i0_i1 (Eq.symm (show i1 = i0 from hh))
                  · exact fun hh => d_i0_i2 (Eq.symm (show i2 = i0 from hh))
                  · exact fun hh => d_i0_i3 (Eq.symm (show i3 = i0 from hh))
                refine ⟨fun h => by (cases h), ?_⟩
                refine ⟨fun h => by (cases h), ?_⟩
                refine ⟨fun _ k2 e2 hm hne => ?_, ?_⟩
                · simp only [List.mem_cons, List.not_mem_nil, or_false, Prod.mk.injEq] at hm
                  rcases hm with ⟨rfl, _⟩ | ⟨rfl, _⟩ | ⟨rfl, _⟩ | ⟨rfl, _⟩ | ⟨rfl, _⟩
                  · exact fun hh => d_r_i3 (show r = i3 from hh)
                  · exact fun hh => d_i0_i3 (show i0 = i3 from hh)
                  · exact fun hh => d_i1_i3 (show i1 = i3 from hh)
                  · exact fun hh => d_i2_i3 (show i2 = i3 from hh)
                  · exact absurd rfl hne
                trivial
              simp (config := {maxSteps := 10000000}) only [x45, push_cast, Nat.reduceAdd, Nat.reduceSub, Nat.reduceLeDiff, Nat.reduceEqDiff, Nat.reduceBEq, Nat.reduceMul, Nat.reduceLT, reduceIte, reduceCtorEq, Int.reduceLE, Int.reduceLT, Int.reduceEq, Int.reduceMul, Int.reduceAdd, Int.reduceSub, Int.reduceNeg, Int.reduceToNat, Int.reduceNe]
              exact ⟨(push_eq (E := eC) (L := [⟨1, 1⟩]) (x := ⟨0, 0⟩) rfl).2, (push_eq (E := eC) (L := [⟨1, 0⟩]) (x := ⟨0, 1⟩) rfl).2⟩
            · cases hg_
          · cases hg_
        · cases hg_
      · cases hg_
    · cases hg_
  · cases hg_
theorem cok_or {P : Program} {f : Nat} {g h : Con} (hg : COk P f g) (hh : COk P f h) : COk P f (fun a e n => match g a e n with | some c => some c | none => h a e n) := by
  intro args E n ha hE
  have h1 := hg args E n ha hE
  have h2 := hh args E n ha hE
  simp only
  cases hc : g args E n with
  | none => exact h2
  | some c => rw [hc] at h1; exact h1
def g45 : Con := fun a e n => match g45j1 a e n with | some c => some c | none => (match g45j2 a e n with | some c => some c | none => (match g45j3 a e n with | some c => some c | none => g45j4 a e n))
theorem c45 : COk Try.prog 45 g45 := cok_or c45j1 (cok_or c45j2 (cok_or c45j3 c45j4))
def g39 : Con := fun args_ E_ nn_ => match args_ with
  | [.c (.n r), .a [.v (.int .i64 c_X), .v (.int .i64 c_Y)]] => (match E_ r with
    | some (.mp []) => some (.e (True ∧ c_X = 0 ∧ c_Y = 0) (.t []) [(r, .mp [(0, 0, .n (nn_ + 0)), (1, 0, .n (nn_ + 1)), (1, 1, .n (nn_ + 2)), (0, 1, .n (nn_ + 3))]), ((nn_ + 0), .own 2 2 (rowF eC [⟨1, 0⟩, ⟨0, 1⟩]) 26), ((nn_ + 1), .own 2 2 (rowF eC [⟨0, 0⟩, ⟨1, 1⟩]) 26), ((nn_ + 2), .own 2 2 (rowF eC [⟨1, 0⟩, ⟨0, 1⟩]) 26), ((nn_ + 3), .own 2 2 (rowF eC [⟨1, 1⟩, ⟨0, 0⟩]) 26)] (nn_ + 4))
    | _ => none)
  | _ => none
theorem c39 : COk Try.prog 39 g39 := by
  refine cok_e Try.func39 x39_ok (by kernel_rfl) (cok_tab (cok_cons c45 cok_nil)) ?_
  intro args_ E_ nn_ cr_ hg_
  unfold g39 at hg_
  split at hg_
  · rename_i r c_X c_Y
    split at hg_
    · rename_i h_r
      cases hg_
      refine ⟨_, _, _, _, rfl, 1, [r], [.c (.n 0), .a [.v (.int .i64 c_X), .v (.int .i64 c_Y)]], [(0, .mp [])], .t [], [(0, .mp [(0, 0, .n 1), (1, 0, .n 2), (1, 1, .n 3), (0, 1, .n 4)]), (1, .own 2 2 (rowF eC [⟨1, 0⟩, ⟨0, 1⟩]) 26), (2, .own 2 2 (rowF eC [⟨0, 0⟩, ⟨1, 1⟩]) 26), (3, .own 2 2 (rowF eC [⟨1, 0⟩, ⟨0, 1⟩]) 26), (4, .own 2 2 (rowF eC [⟨1, 1⟩, ⟨0, 0⟩]) 26)], 5, rfl, rfl, by simp only [renE, Ent.ren, renM, rowF_renf] <;> rfl, rfl, by decide, by simp only [push_cast, Nat.reduceLT, Nat.reduceAdd], by simp only [push_cast, Nat.reduceLT, Nat.reduceAdd], by simp only [push_cast, Nat.reduceLT, Nat.reduceAdd], by simp only [push_cast, Nat.reduceLT, Nat.reduceAdd], rfl, ⟨⟨_, h_r⟩, trivial⟩, by simp only [keysNodup, outN, keys] <;> decide, rfl, rfl, ?_⟩
      intro hpre hlen
      obtain ⟨_, rfl, rfl⟩ := hpre
      refine ⟨⟨⟨_, h_r, by simp only [leE, leM, SC.ren, and_true, true_and, and_self] <;> first | rfl | (refine ⟨?_, ?_⟩ <;> rfl) | exact ⟨rfl, rfl, rfl⟩ | exact ⟨rfl, rfl, rfl, rfl⟩⟩, trivial⟩, ?_, ?_⟩
      · skip
        refine ⟨fun _ k2 e2 hm hne => ?_, ?_⟩
        · simp only [List.mem_cons, List.not_mem_nil, or_false, Prod.mk.injEq] at hm
          obtain ⟨rfl, _⟩ := hm
          exact absurd rfl hne
        trivial
      simp (config := {maxSteps := 10000000}) only [x39, push_cast, Nat.reduceAdd, Nat.reduceSub, Nat.reduceLeDiff, Nat.reduceEqDiff, Nat.reduceBEq, Nat.reduceMul, Nat.reduceLT, reduceIte, reduceCtorEq, Int.reduceLE, Int.reduceLT, Int.reduceEq, Int.reduceMul, Int.reduceAdd, Int.reduceSub, Int.reduceNeg, Int.reduceToNat, Int.reduceNe, g45, g45j1, g45j2, g45j3, g45j4]
      exact ⟨by rfl, by rfl⟩
    · cases hg_
  · cases hg_
end Go.Proofs.Ytnkkhmeojifckaa
