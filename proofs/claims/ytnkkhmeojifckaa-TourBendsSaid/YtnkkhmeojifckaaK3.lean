/- A part of the proof of a statement about this seat: how a function is stepped through, and plain laws. No conditions. -/
import Derived.Test.YtnkkhmeojifckaaRows
import Derived.Test.YtnkkhmeojifckaaSz3
import Derived.Test.YtnkkhmeojifckaaK2
import Derived.KernelRfl
set_option linter.unusedVariables false
set_option linter.unusedSimpArgs false
set_option maxRecDepth 20000
namespace Go.Proofs.Ytnkkhmeojifckaa
open Go.Sx
theorem pick_some {W H : Int} {L : List Int} {K : List CC} {c d : CC} {k : Nat} (hk : k < 4) (hd : (nbr c).getD k eC.dflt = d) (hall : ∀ i, i < k → (frB W H L ((nbr c).getD i eC.dflt).X ((nbr c).getD i eC.dflt).Y && !decide ((nbr c).getD i eC.dflt ∈ K)) = false) (h : (frB W H L d.X d.Y && !decide (d ∈ K)) = true) : pickN W H L K c = some d := by
  subst hd
  rcases (by omega : k = 0 ∨ k = 1 ∨ k = 2 ∨ k = 3) with rfl | rfl | rfl | rfl
  · simp only [nbr, List.getD_cons_zero] at h
    simp only [pickN, nbr, List.find?, h, List.getD_cons_zero]
  · have a0 := hall 0 (by omega)
    simp only [nbr, List.getD_cons_zero, List.getD_cons_succ] at h a0
    simp only [pickN, nbr, List.find?, h, a0, List.getD_cons_zero, List.getD_cons_succ]
  · have a0 := hall 0 (by omega)
    have a1 := hall 1 (by omega)
    simp only [nbr, List.getD_cons_zero, List.getD_cons_succ] at h a0 a1
    simp only [pickN, nbr, List.find?, h, a0, a1, List.getD_cons_zero, List.getD_cons_succ]
  · have a0 := hall 0 (by omega)
    have a1 := hall 1 (by omega)
    have a2 := hall 2 (by omega)
    simp only [nbr, List.getD_cons_zero, List.getD_cons_succ] at h a0 a1 a2
    simp only [pickN, nbr, List.find?, h, a0, a1, a2, List.getD_cons_zero, List.getD_cons_succ]
theorem pick_none {W H : Int} {L : List Int} {K : List CC} {c : CC} (hall : ∀ i, i < 4 → (frB W H L ((nbr c).getD i eC.dflt).X ((nbr c).getD i eC.dflt).Y && !decide ((nbr c).getD i eC.dflt ∈ K)) = false) : pickN W H L K c = none := by
  have a0 := hall 0 (by omega)
  have a1 := hall 1 (by omega)
  have a2 := hall 2 (by omega)
  have a3 := hall 3 (by omega)
  simp only [nbr, List.getD_cons_zero, List.getD_cons_succ] at a0 a1 a2 a3
  simp only [pickN, nbr, List.find?, a0, a1, a2, a3]
theorem shF_zero (f : Nat → Nat → SC) : shF 0 f = f := rfl
theorem row_one (x : CC) (b : Bnd) : rowEq 1 2 (litF [SC.v (.int .i64 x.X), SC.v (.int .i64 x.Y)] 2) (rowF eC [x]) (SC.sub b) := by
  intro e j he hj
  rw [rowF_sub]
  obtain rfl : e = 0 := by omega
  rcases (by omega : j = 0 ∨ j = 1) with rfl | rfl <;> rfl
theorem row_drop {l : List CC} {n : Nat} {b : Bnd} (h : n = l.length - 1) : n = l.dropLast.length ∧ rowEq n 2 (rowF eC l) (rowF eC l.dropLast) (SC.sub b) := by
  subst h
  refine ⟨by simp, fun e j he hj => ?_⟩
  rw [rowF_sub]
  have e1 : l.getD e eC.dflt = l.dropLast.getD e eC.dflt := by
    rw [List.getD_eq_getElem?_getD, List.getD_eq_getElem?_getD, List.getElem?_dropLast, if_pos he]
  unfold rowF
  rw [e1]
theorem leM_same' (b : Bnd) {K L : List CC} (h : K = L) : leM (SC.sub b) (setM K) (setM L) := leM_same b h
theorem nin_ins {K : List CC} {x y : Int} (h : ¬ (⟨x, y⟩ : CC) ∈ K) : insC K x y = K ++ [⟨x, y⟩] := if_neg h
def x13L0 : XC := (.seq (.reg false [K2 43 (.bin .lss) 42 (iV 4)]) (.seq (.cond (.t 43) .skip (.exit 3)) (.seq (.block 4 (.seq (.reg false [O2 44 (.ixN 4 2) 41 42, ⟨(some 13), (.alloc 26 [(iV 0), (iV 0)]), [], none⟩, ⟨none, (.store 2), [(.t 13), (.t 44)], none⟩]) (.seq (.reg false [O1 45 (.loadN 3) 2, O1 46 (.loadN 2) 13, O2 47 (.call 34) 45 46, O1 48 .mv 47, G1 49 .mv 6 48 true, G1 50 (.loadN 2) 13 48 true, ⟨(some 51), (.x (.lookM (.bool false))), [(.t 49), (.t 50)], (some (48, true))⟩, G1 52 (.un .not) 51 48 true, ⟨(some 53), .pick, [(.t 48), (.t 52), (.k (.bool false))], none⟩]) (.cond (.t 53) (.seq (.reg false [O1 54 (.loadN 2) 13, ⟨none, (.store 2), [(.t 10), (.t 54)], none⟩, K1 11 .mv (.bool true)]) (.exit 3)) .skip)))) (.reg false [K2 55 (.bin .add) 42 (iV 1), O1 42 .mv 55]))))
def x13L1 : XC := (.seq (.seq (.reg false [O1 30 .mv 8, O1 31 .lenS 30, K2 32 (.bin .gtr) 31 (iV 0)]) (.cond (.t 32) .skip (.exit 1))) (.block 2 (.seq (.reg false [O1 33 .mv 8, O1 34 .mv 8, O1 35 .lenS 34, K2 36 (.bin .sub) 35 (iV 1), O2 37 (.ixS 2) 33 36, O1 38 (.loadN 2) 37, ⟨(some 9), (.alloc 26 [(iV 0), (iV 0)]), [], none⟩, ⟨none, (.store 2), [(.t 9), (.t 38)], none⟩]) (.seq (.reg false [⟨(some 39), (.build [(iV 0), (iV 0)] []), [], none⟩, ⟨(some 10), (.alloc 26 [(iV 0), (iV 0)]), [], none⟩, ⟨none, (.store 2), [(.t 10), (.t 39)], none⟩, K1 11 .mv (.bool false)]) (.seq (.seq (.reg false [O1 40 (.loadN 2) 9, O1 41 (.call 35) 40, K1 42 .mv (iV 0)]) (.block 3 (.loop x13L0))) (.seq (.seq (.reg false [O1 56 .mv 11]) (.cond (.t 56) (.seq (.reg false [O1 57 .mv 6, O1 58 (.loadN 2) 10, ⟨none, .upm, [(.t 57), (.t 58), (.k (.bool true))], none⟩]) (.seq (.reg false [O1 59 .mv 8, O1 60 (.loadN 2) 10, ⟨(some 61), (.slit 26 1 2 [(iV 0), (iV 0)] [(0, 2)]), [(.t 60)], none⟩, O2 62 (.app 26 2 16) 59 61, O1 8 .mv 62]) (.seq (.reg false [O1 63 .mv 7, O1 64 (.loadN 2) 10, ⟨(some 65), (.slit 26 1 2 [(iV 0), (iV 0)] [(0, 2)]), [(.t 64)], none⟩, O2 66 (.app 26 2 16) 63 65, O1 7 .mv 66]) (.exit 2)))) .skip)) (.seq (.reg false [O1 67 .mv 8, O1 68 .mv 8, O1 69 .lenS 68, K2 70 (.bin .sub) 69 (iV 1), O2 71 (.slc 2 false true false) 67 70, O1 8 .mv 71]) (.seq (.reg false [O1 72 .mv 8, O1 73 .lenS 72, K2 74 (.bin .gtr) 73 (iV 0)]) (.cond (.t 74) (.reg false [O1 75 .mv 7, O1 76 .mv 8, O1 77 .mv 8, O1 78 .lenS 77, K2 79 (.bin .sub) 78 (iV 1), O2 80 (.ixS 2) 76 79, O1 81 (.loadN 2) 80, ⟨(some 82), (.slit 26 1 2 [(iV 0), (iV 0)] [(0, 2)]), [(.t 81)], none⟩, O2 83 (.app 26 2 16) 75 82, O1 7 .mv 83]) .skip)))))))))
def x13 : XFn := ⟨85, (.seq (.reg false [O1 2 (.box 24) 0, O1 3 (.box 26) 1, K1 4 .mv (.slice none 0 0), K1 5 .mv (iV 0)]) (.seq (.block 0 (.seq (.reg false [O1 15 (.loadN 3) 2, O1 16 (.call 33) 15, O1 17 (.un .not) 16, O1 14 .mv 17]) (.cond (.t 14) (.seq (.reg false [K1 4 .mv (.slice none 0 0), K1 5 .mv (iV 1)]) .ret) (.seq (.reg false [O1 19 (.loadN 3) 2, O1 20 (.loadN 2) 3, O2 21 (.call 34) 19 20, O1 22 (.un .not) 21, O1 18 .mv 22]) (.cond (.t 18) (.seq (.reg false [K1 4 .mv (.slice none 0 0), K1 5 .mv (iV 7)]) .ret) .skip))))) (.seq (.reg false [⟨(some 23), .mkm, [], none⟩, O1 24 (.loadN 2) 3, ⟨none, .upm, [(.t 23), (.t 24), (.k (.bool true))], none⟩, O1 25 .mv 23, O1 6 .mv 25]) (.seq (.regD [O1 26 (.loadN 2) 3, ⟨(some 27), (.slit 26 1 2 [(iV 0), (iV 0)] [(0, 2)]), [(.t 26)], none⟩, O1 28 (.loadN 2) 3, ⟨(some 29), (.slit 26 1 2 [(iV 0), (iV 0)] [(0, 2)]), [(.t 28)], none⟩, O1 7 .mv 27, O1 8 .mv 29] [[], [0], [], [2], [1, 0], [3, 2, 4, 1, 0]]) (.seq (.block 1 (.loop x13L1)) (.seq (.reg false [O1 84 .mv 7, O1 4 .mv 84, K1 5 .mv (iV 0)]) .ret)))))), [(.s 4), (.s 5)]⟩
theorem x13_ok : xfn Try.prog Try.f13 = some x13.er := by kernel_rfl
/-- wayfinder/tour.Tour -/
def g13 : Con := fun args_ E_ nn_ => match args_ with
  | [.a [.v (.int .i64 p_W), .v (.int .i64 p_H), .n p_Cells], .a [.v (.int .i64 start_X), .v (.int .i64 start_Y)]] => (match rowOf E_ p_Cells with
    | some (p_Cells_n, p_Cells_s, p_Cells_f) => some (.e (isRow eU8 p_Cells_n p_Cells_s p_Cells_f ∧ True) (.t [.c (.n (nn_ + 0)), .c (.v (.int .i64 (touE p_W p_H (decL eU8 p_Cells_n p_Cells_f) start_X start_Y)))]) [((nn_ + 0), .own (touL p_W p_H (decL eU8 p_Cells_n p_Cells_f) start_X start_Y).length 2 (rowF eC (touL p_W p_H (decL eU8 p_Cells_n p_Cells_f) start_X start_Y)) 26)] (nn_ + 1))
    | none => none)
  | _ => none
set_option maxHeartbeats 4000000 in
theorem c13 : COk Try.prog 13 g13 := by
  refine cok_e Try.func13 x13_ok (by kernel_rfl) (cok_tab (cok_cons c33 (cok_cons c34 (cok_cons c35 cok_nil)))) ?_
  intro args_ E_ nn_ cr_ hg_
  unfold g13 at hg_
  split at hg_
  · rename_i p_W p_H p_Cells start_X start_Y
    split at hg_
    · rename_i p_Cells_n p_Cells_s p_Cells_f h_p_Cells
      cases hg_
      refine ⟨_, _, _, _, rfl, 1, [p_Cells], [.a [.v (.int .i64 p_W), .v (.int .i64 p_H), .n 0], .a [.v (.int .i64 start_X), .v (.int .i64 start_Y)]], [(0, .ro (decL eU8 p_Cells_n p_Cells_f).length eU8.sz (rowF eU8 (decL eU8 p_Cells_n p_Cells_f)))], .t [.c (.n 1), .c (.v (.int .i64 (touE p_W p_H (decL eU8 p_Cells_n p_Cells_f) start_X start_Y)))], [(1, .own (touL p_W p_H (decL eU8 p_Cells_n p_Cells_f) start_X start_Y).length 2 (rowF eC (touL p_W p_H (decL eU8 p_Cells_n p_Cells_f) start_X start_Y)) 26)], 2, rfl, rfl, by simp only [renE, Ent.ren, rowF_renf] <;> rfl, rfl, by decide, by simp only [push_cast, Nat.reduceLT, Nat.reduceAdd], by simp only [push_cast, Nat.reduceLT, Nat.reduceAdd], by simp only [push_cast, Nat.reduceLT, Nat.reduceAdd], by simp only [push_cast, Nat.reduceLT, Nat.reduceAdd], rfl, ⟨inE0_row h_p_Cells, trivial⟩, by simp only [keysNodup, outN, keys] <;> decide, rfl, rfl, ?_⟩
      intro hpre hlen
      obtain ⟨i_p_Cells, hpre⟩ := hpre
      refine ⟨⟨inE_row h_p_Cells i_p_Cells, trivial⟩, by simp only [apartE] <;> (first | trivial | (simp [Ent.mut]; done)), ?_⟩
      have z_p_Cells := lens_row (E := eU8) hlen h_p_Cells
      clear i_p_Cells
      generalize decL eU8 p_Cells_n p_Cells_f = p_CellsL at *
      clear h_p_Cells
      simp (config := {maxSteps := 10000000}) only [x13, push_cast, Nat.reduceAdd, Nat.reduceSub, Nat.reduceLeDiff, Nat.reduceEqDiff, Nat.reduceBEq, Nat.reduceMul, Nat.reduceLT, reduceIte, reduceCtorEq, Int.reduceLE, Int.reduceLT, Int.reduceEq, Int.reduceMul, Int.reduceAdd, Int.reduceSub, Int.reduceNeg, Int.reduceToNat, Int.reduceNe, g33, g34, g35, shF_zero]
      refine ⟨fun h => by unfold touL touE; rw [h]; exact ⟨rfl, rfl⟩, fun hp => ⟨hp, fun h => by unfold touL touE; rw [hp, h]; exact ⟨rfl, rfl⟩, fun hf => ?_⟩⟩
      have pp := planB_at hp
      rw [touE0 hp hf, touL0 hp hf]
      refine ⟨by rfl, ?_⟩
      refine vcLoop_upd (α := {s : TS // tWay p_W p_H p_CellsL ⟨start_X, start_Y⟩ s}) [2, 6] 0 (fun s => [(7, .o (.c (.n 4))), (8, .o (.c (.n 5)))]) (fun s => [(3, .mp (setM s.1.K)), (4, .own (s.1.O).length 2 (rowF eC (s.1.O)) 26), (5, .own (s.1.T).length 2 (rowF eC (s.1.T)) 26)]) (fun s => tMu s.1) ⟨tS0 ⟨start_X, start_Y⟩, tWay0 hf⟩ ?_ ?_
      · simp only [push_cast, Nat.reduceAdd, Nat.reduceSub, Nat.reduceLeDiff, Nat.reduceEqDiff, Nat.reduceBEq, Nat.reduceMul, Nat.reduceLT, reduceIte, reduceCtorEq, Int.reduceLE, Int.reduceLT, Int.reduceEq, Int.reduceMul, Int.reduceAdd, Int.reduceSub, Int.reduceNeg, Int.reduceToNat, Int.reduceNe, g33, g34, g35, shF_zero]
        exact ⟨leM_same _ (K := [⟨start_X, start_Y⟩]) rfl, ⟨rfl, row_one ⟨start_X, start_Y⟩ _⟩, rfl, row_one ⟨start_X, start_Y⟩ _⟩
      rintro ⟨s, hw⟩
      simp only [x13L1, push_cast, Nat.reduceAdd, Nat.reduceSub, Nat.reduceLeDiff, Nat.reduceEqDiff, Nat.reduceBEq, Nat.reduceMul, Nat.reduceLT, reduceIte, reduceCtorEq, Int.reduceLE, Int.reduceLT, Int.reduceEq, Int.reduceMul, Int.reduceAdd, Int.reduceSub, Int.reduceNeg, Int.reduceToNat, Int.reduceNe, g33, g34, g35, shF_zero]
      have hi := hw.1
      have hlK := tInv_len hp hi
      refine ⟨fun ht => ?_, fun ht => ?_⟩
      · have hlen : s.T.length ≤ 8192 ∧ s.O.length ≤ 8192 := by have := hi.sum; omega
        have e1 : ((s.T.length : Int) - 1).toNat = s.T.length - 1 := by omega
        rw [wrapI (n := (s.T.length : Int) - 1) (by omega) (by omega), e1, show s.T.getD (s.T.length - 1) eC.dflt = lastC s.T from rfl]
        have hcK := hi.tk _ (gmemC (l := s.T) (i := s.T.length - 1) (by omega))
        rw [show s.T.getD (s.T.length - 1) eC.dflt = lastC s.T from rfl] at hcK
        have hcf := frB_in (hi.fr _ hcK)
        refine ⟨by omega, by omega, by omega, ?_⟩
        refine vcLoop_upd (α := {k : Nat // k ≤ 4 ∧ ∀ i, i < k → (frB p_W p_H p_CellsL ((nbr (lastC s.T)).getD i eC.dflt).X ((nbr (lastC s.T)).getD i eC.dflt).Y && !decide ((nbr (lastC s.T)).getD i eC.dflt ∈ s.K)) = false}) [2, 6, 7, 8, 10, 41] 0 (fun z => [(11, .o (.c (.v (.bool (false))))), (42, .o (.c (.v (.int .i64 (z.1 : Nat)))))]) (fun z => []) (fun z => 4 - z.1) ⟨0, by omega, fun i hi => by omega⟩ ?_ ?_
        · simp only [push_cast, Nat.reduceAdd, Nat.reduceSub, Nat.reduceLeDiff, Nat.reduceEqDiff, Nat.reduceBEq, Nat.reduceMul, Nat.reduceLT, reduceIte, reduceCtorEq, Int.reduceLE, Int.reduceLT, Int.reduceEq, Int.reduceMul, Int.reduceAdd, Int.reduceSub, Int.reduceNeg, Int.reduceToNat, Int.reduceNe, g33, g34, g35, shF_zero]
          exact leM_same _ rfl
        rintro ⟨k, hk, hall⟩
        rcases (by omega : k = 0 ∨ k = 1 ∨ k = 2 ∨ k = 3 ∨ k = 4) with rfl | rfl | rfl | rfl | rfl
        · simp only [x13L0, push_cast, Nat.reduceAdd, Nat.reduceSub, Nat.reduceLeDiff, Nat.reduceEqDiff, Nat.reduceBEq, Nat.reduceMul, Nat.reduceLT, reduceIte, reduceCtorEq, Int.reduceLE, Int.reduceLT, Int.reduceEq, Int.reduceMul, Int.reduceAdd, Int.reduceSub, Int.reduceNeg, Int.reduceToNat, Int.reduceNe, g33, g34, g35, shF_zero]
          refine ⟨hp, fun hf1 hn => ⟨by omega, by omega, ⟨tStep p_W p_H p_CellsL s, tWay_step hp hw (by omega)⟩, ?_⟩, fun hno => ⟨⟨1, by omega, fun i hi2 => ?_⟩, ⟨by rfl, leM_same _ rfl⟩, by simp only; omega⟩⟩
          · have hpk := pick_some (K := s.K) (c := lastC s.T) (d := (⟨(lastC s.T).X + 1, (lastC s.T).Y⟩ : CC)) (k := 0) (by omega) rfl hall (by rw [hf1, decide_eq_false hn]; rfl)
            have hst : tStep p_W p_H p_CellsL s = ⟨s.K ++ [(⟨(lastC s.T).X + 1, (lastC s.T).Y⟩ : CC)], s.T ++ [(⟨(lastC s.T).X + 1, (lastC s.T).Y⟩ : CC)], s.O ++ [(⟨(lastC s.T).X + 1, (lastC s.T).Y⟩ : CC)]⟩ := by unfold tStep; rw [hpk]
            have hmu := tMu_step hp hi (by omega : 0 < s.T.length)
            refine ⟨⟨?_, ?_, ?_⟩, hmu⟩
            · simp only [hst]; exact leM_same _ (nin_ins hn)
            · simp only [hst]; exact push_eq (E := eC) (x := (⟨(lastC s.T).X + 1, (lastC s.T).Y⟩ : CC)) rfl
            · simp only [hst]; exact push_eq (E := eC) (x := (⟨(lastC s.T).X + 1, (lastC s.T).Y⟩ : CC)) rfl
          · by_cases e : i = 0
            · subst e; exact hno
            · exact hall i (by omega)
        · simp only [x13L0, push_cast, Nat.reduceAdd, Nat.reduceSub, Nat.reduceLeDiff, Nat.reduceEqDiff, Nat.reduceBEq, Nat.reduceMul, Nat.reduceLT, reduceIte, reduceCtorEq, Int.reduceLE, Int.reduceLT, Int.reduceEq, Int.reduceMul, Int.reduceAdd, Int.reduceSub, Int.reduceNeg, Int.reduceToNat, Int.reduceNe, g33, g34, g35, shF_zero]
          refine ⟨hp, fun hf1 hn => ⟨by omega, by omega, ⟨tStep p_W p_H p_CellsL s, tWay_step hp hw (by omega)⟩, ?_⟩, fun hno => ⟨⟨2, by omega, fun i hi2 => ?_⟩, ⟨by rfl, leM_same _ rfl⟩, by simp only; omega⟩⟩
          · have hpk := pick_some (K := s.K) (c := lastC s.T) (d := (⟨(lastC s.T).X, (lastC s.T).Y + 1⟩ : CC)) (k := 1) (by omega) rfl hall (by rw [hf1, decide_eq_false hn]; rfl)
            have hst : tStep p_W p_H p_CellsL s = ⟨s.K ++ [(⟨(lastC s.T).X, (lastC s.T).Y + 1⟩ : CC)], s.T ++ [(⟨(lastC s.T).X, (lastC s.T).Y + 1⟩ : CC)], s.O ++ [(⟨(lastC s.T).X, (lastC s.T).Y + 1⟩ : CC)]⟩ := by unfold tStep; rw [hpk]
            have hmu := tMu_step hp hi (by omega : 0 < s.T.length)
            refine ⟨⟨?_, ?_, ?_⟩, hmu⟩
            · simp only [hst]; exact leM_same _ (nin_ins hn)
            · simp only [hst]; exact push_eq (E := eC) (x := (⟨(lastC s.T).X, (lastC s.T).Y + 1⟩ : CC)) rfl
            · simp only [hst]; exact push_eq (E := eC) (x := (⟨(lastC s.T).X, (lastC s.T).Y + 1⟩ : CC)) rfl
          · by_cases e : i = 1
            · subst e; exact hno
            · exact hall i (by omega)
        · simp only [x13L0, push_cast, Nat.reduceAdd, Nat.reduceSub, Nat.reduceLeDiff, Nat.reduceEqDiff, Nat.reduceBEq, Nat.reduceMul, Nat.reduceLT, reduceIte, reduceCtorEq, Int.reduceLE, Int.reduceLT, Int.reduceEq, Int.reduceMul, Int.reduceAdd, Int.reduceSub, Int.reduceNeg, Int.reduceToNat, Int.reduceNe, g33, g34, g35, shF_zero]
          refine ⟨hp, fun hf1 hn => ⟨by omega, by omega, ⟨tStep p_W p_H p_CellsL s, tWay_step hp hw (by omega)⟩, ?_⟩, fun hno => ⟨⟨3, by omega, fun i hi2 => ?_⟩, ⟨by rfl, leM_same _ rfl⟩, by simp only; omega⟩⟩
          · have hpk := pick_some (K := s.K) (c := lastC s.T) (d := (⟨(lastC s.T).X - 1, (lastC s.T).Y⟩ : CC)) (k := 2) (by omega) rfl hall (by rw [hf1, decide_eq_false hn]; rfl)
            have hst : tStep p_W p_H p_CellsL s = ⟨s.K ++ [(⟨(lastC s.T).X - 1, (lastC s.T).Y⟩ : CC)], s.T ++ [(⟨(lastC s.T).X - 1, (lastC s.T).Y⟩ : CC)], s.O ++ [(⟨(lastC s.T).X - 1, (lastC s.T).Y⟩ : CC)]⟩ := by unfold tStep; rw [hpk]
            have hmu := tMu_step hp hi (by omega : 0 < s.T.length)
            refine ⟨⟨?_, ?_, ?_⟩, hmu⟩
            · simp only [hst]; exact leM_same _ (nin_ins hn)
            · simp only [hst]; exact push_eq (E := eC) (x := (⟨(lastC s.T).X - 1, (lastC s.T).Y⟩ : CC)) rfl
            · simp only [hst]; exact push_eq (E := eC) (x := (⟨(lastC s.T).X - 1, (lastC s.T).Y⟩ : CC)) rfl
          · by_cases e : i = 2
            · subst e; exact hno
            · exact hall i (by omega)
        · simp only [x13L0, push_cast, Nat.reduceAdd, Nat.reduceSub, Nat.reduceLeDiff, Nat.reduceEqDiff, Nat.reduceBEq, Nat.reduceMul, Nat.reduceLT, reduceIte, reduceCtorEq, Int.reduceLE, Int.reduceLT, Int.reduceEq, Int.reduceMul, Int.reduceAdd, Int.reduceSub, Int.reduceNeg, Int.reduceToNat, Int.reduceNe, g33, g34, g35, shF_zero]
          refine ⟨hp, fun hf1 hn => ⟨by omega, by omega, ⟨tStep p_W p_H p_CellsL s, tWay_step hp hw (by omega)⟩, ?_⟩, fun hno => ⟨⟨4, by omega, fun i hi2 => ?_⟩, ⟨by rfl, leM_same _ rfl⟩, by simp only; omega⟩⟩
          · have hpk := pick_some (K := s.K) (c := lastC s.T) (d := (⟨(lastC s.T).X, (lastC s.T).Y - 1⟩ : CC)) (k := 3) (by omega) rfl hall (by rw [hf1, decide_eq_false hn]; rfl)
            have hst : tStep p_W p_H p_CellsL s = ⟨s.K ++ [(⟨(lastC s.T).X, (lastC s.T).Y - 1⟩ : CC)], s.T ++ [(⟨(lastC s.T).X, (lastC s.T).Y - 1⟩ : CC)], s.O ++ [(⟨(lastC s.T).X, (lastC s.T).Y - 1⟩ : CC)]⟩ := by unfold tStep; rw [hpk]
            have hmu := tMu_step hp hi (by omega : 0 < s.T.length)
            refine ⟨⟨?_, ?_, ?_⟩, hmu⟩
            · simp only [hst]; exact leM_same _ (nin_ins hn)
            · simp only [hst]; exact push_eq (E := eC) (x := (⟨(lastC s.T).X, (lastC s.T).Y - 1⟩ : CC)) rfl
            · simp only [hst]; exact push_eq (E := eC) (x := (⟨(lastC s.T).X, (lastC s.T).Y - 1⟩ : CC)) rfl
          · by_cases e : i = 3
            · subst e; exact hno
            · exact hall i (by omega)
        · simp only [x13L0, push_cast, Nat.reduceAdd, Nat.reduceSub, Nat.reduceLeDiff, Nat.reduceEqDiff, Nat.reduceBEq, Nat.reduceMul, Nat.reduceLT, reduceIte, reduceCtorEq, Int.reduceLE, Int.reduceLT, Int.reduceEq, Int.reduceMul, Int.reduceAdd, Int.reduceSub, Int.reduceNeg, Int.reduceToNat, Int.reduceNe, g33, g34, g35, shF_zero]
          have hpk := pick_none hall
          have hmu := tMu_step hp hi (by omega : 0 < s.T.length)
          have hst : tStep p_W p_H p_CellsL s = ⟨s.K, s.T.dropLast, if s.T.length ≤ 1 then s.O else s.O ++ [s.T.getD (s.T.length - 2) eC.dflt]⟩ := by unfold tStep; rw [hpk]
          rw [wrapI (n := (s.T.length : Int) - 1) (by omega) (by omega), e1]
          refine ⟨⟨by omega, by omega⟩, fun h2 => ?_, fun h2 => ?_⟩
          · have e2 : IntKind.i64.wrap (((s.T.length - 1 : Nat) : Int) - 1) = ((s.T.length - 2 : Nat) : Int) := (wrapI (by omega) (by omega)).trans (by omega)
            rw [e2, Int.toNat_natCast]
            refine ⟨⟨by omega, by omega⟩, by omega, by omega, ⟨tStep p_W p_H p_CellsL s, tWay_step hp hw (by omega)⟩, ⟨?_, ?_, ?_⟩, hmu⟩
            · simp only [hst]; exact leM_same _ rfl
            · simp only [hst]; rw [if_neg (by omega)]; exact push_eq (E := eC) (x := s.T.getD (s.T.length - 2) eC.dflt) rfl
            · simp only [hst]; exact row_drop rfl
          · refine ⟨⟨tStep p_W p_H p_CellsL s, tWay_step hp hw (by omega)⟩, ⟨?_, ?_, ?_⟩, hmu⟩
            · simp only [hst]; exact leM_same _ rfl
            · simp only [hst]; rw [if_pos (by omega)]; exact same_eq rfl
            · simp only [hst]; exact row_drop rfl
      · have e := tWay_end hw (by omega)
        subst e
        exact same_eq rfl
    · cases hg_
  · cases hg_
end Go.Proofs.Ytnkkhmeojifckaa
