/- A part of the proof of a statement about this seat: how a function is stepped through, and plain laws. No conditions. -/
import Derived.Test.YtjnelnofbpjdmaaRows
import Derived.Test.YtjnelnofbpjdmaaSz3
import Derived.Test.YtjnelnofbpjdmaaW3
import Derived.KernelRfl
set_option linter.unusedVariables false
set_option linter.unusedSimpArgs false
set_option maxRecDepth 20000
namespace Go.Proofs.Ytjnelnofbpjdmaa
open Go.Sx Go.Way
/-! The refined set -/
noncomputable def rfnE (W H : Int) (L : List Int) (T : List BB) (S : List CC) (rng sp : Int) : Int :=
  if rightB W H L S rng = false ∨ 16 < T.length ∨ T.all BB.ok = false then 1 else if ¬ (0 ≤ sp ∧ sp ≤ 64) then 2 else 0
noncomputable def rfnL (W H : Int) (L : List Int) (T : List BB) (S : List CC) (rng sp : Int) : List BB :=
  if rfnE W H L T S rng sp = 0 then rqL (trmO W H L S rng) T sp [] else []
theorem rfn_bad {W H : Int} {L : List Int} {T : List BB} {S : List CC} {rng sp : Int} (h : rightB W H L S rng = false ∨ 16 < T.length ∨ T.all BB.ok = false) : rfnE W H L T S rng sp = 1 ∧ rfnL W H L T S rng sp = [] := by
  have e : rfnE W H L T S rng sp = 1 := if_pos h
  exact ⟨e, by unfold rfnL; rw [if_neg (by rw [e]; omega)]⟩
theorem rfn_sp {W H : Int} {L : List Int} {T : List BB} {S : List CC} {rng sp : Int} (h : ¬ (rightB W H L S rng = false ∨ 16 < T.length ∨ T.all BB.ok = false)) (h2 : ¬ (0 ≤ sp ∧ sp ≤ 64)) : rfnE W H L T S rng sp = 2 ∧ rfnL W H L T S rng sp = [] := by
  have e : rfnE W H L T S rng sp = 2 := (if_neg h).trans (if_pos h2)
  exact ⟨e, by unfold rfnL; rw [if_neg (by rw [e]; omega)]⟩
theorem rfn_good {W H : Int} {L : List Int} {T : List BB} {S : List CC} {rng sp : Int} (h : ¬ (rightB W H L S rng = false ∨ 16 < T.length ∨ T.all BB.ok = false)) (h2 : 0 ≤ sp ∧ sp ≤ 64) : rfnE W H L T S rng sp = 0 ∧ rfnL W H L T S rng sp = rqL (trmO W H L S rng) T sp [] := by
  have e : rfnE W H L T S rng sp = 0 := (if_neg h).trans (if_neg (fun n => n h2))
  exact ⟨e, by unfold rfnL; rw [if_pos e]⟩
theorem shB_eq {x : BB} {L : List BB} {n sz : Nat} {b : Bnd} (hn : n ≤ L.length) : rowEq n sz (shF 1 (rowF eB (x :: L))) (rowF eB L) (SC.sub b) := by
  intro e j he hj
  rw [shF_at eB (x :: L) 1 (by simp only [List.length_cons]; omega), List.drop_one, List.tail_cons, rowF_sub]
theorem push2B {b x y : BB} {q : List BB} {m sz : Nat} {bd : Bnd} (hm : m ≤ q.length + 2) (hs : sz ≤ 6) :
    rowEq m sz (catF q.length (shF 1 (rowF eB (b :: q))) (litF [SC.v (.int .i64 x.X0), SC.v (.int .i64 x.Y0), SC.v (.int .i64 x.X1), SC.v (.int .i64 x.Y1), SC.v (.int .i64 x.F), SC.v (.int .i64 x.N), SC.v (.int .i64 y.X0), SC.v (.int .i64 y.Y0), SC.v (.int .i64 y.X1), SC.v (.int .i64 y.Y1), SC.v (.int .i64 y.F), SC.v (.int .i64 y.N)] 6)) (rowF eB (q ++ [x, y])) (SC.sub bd) := by
  intro e j he hj
  rw [rowF_sub, ← catF_at eB q [x, y] (show e < q.length + [x, y].length by simp only [List.length_cons, List.length_nil]; omega)]
  unfold catF
  split
  · rename_i h
    rw [shF_at eB (b :: q) 1 (by simp only [List.length_cons]; omega), List.drop_one, List.tail_cons]
  · rename_i h
    exact lits_at eB [x, y] (e - q.length) j (by simp only [List.length_cons, List.length_nil]; omega) (by show j < 6; omega)
theorem app0B {L : List BB} {n m sz : Nat} {bd : Bnd} : rowEq n sz (catF 0 (litF [] m) (rowF eB L)) (rowF eB L) (SC.sub bd) := by
  intro e j _ _
  rw [rowF_sub]
  unfold catF
  rw [if_neg (by omega), Nat.sub_zero]
theorem okShB {b : BB} {q : List BB} : okRow q.length 6 (shF 1 (rowF eB (b :: q))) := by
  intro e j he hj
  rw [shF_at eB (b :: q) 1 (by simp only [List.length_cons]; omega), List.drop_one, List.tail_cons]
  obtain ⟨v, h, ho⟩ := rowF_flat (E := eB) q e j
  rw [h]; exact ho
theorem push2C {b x y : BB} {q : List BB} {m sz : Nat} {bd : Bnd} (hm : m ≤ q.length + 2) (hs : sz ≤ 6) :
    rowEq m sz (catF q.length (catF 0 (litF [] 6) (shF 1 (rowF eB (b :: q)))) (litF [SC.v (.int .i64 x.X0), SC.v (.int .i64 x.Y0), SC.v (.int .i64 x.X1), SC.v (.int .i64 x.Y1), SC.v (.int .i64 x.F), SC.v (.int .i64 x.N), SC.v (.int .i64 y.X0), SC.v (.int .i64 y.Y0), SC.v (.int .i64 y.X1), SC.v (.int .i64 y.Y1), SC.v (.int .i64 y.F), SC.v (.int .i64 y.N)] 6)) (rowF eB (q ++ [x, y])) (SC.sub bd) := by
  have e : catF 0 (litF [] 6) (shF 1 (rowF eB (b :: q))) = shF 1 (rowF eB (b :: q)) := by
    funext e j
    unfold catF
    rw [if_neg (by omega), Nat.sub_zero]
  rw [e]
  exact push2B hm hs
def x16L0 : XC := (.seq (.reg false [O2 34 (.bin .lss) 33 32]) (.seq (.cond (.t 34) .skip (.exit 0)) (.seq (.block 1 (.seq (.reg false [O2 35 (.ixS 6) 31 33, O1 36 (.loadN 6) 35, ⟨(some 13), (.alloc 46 [(iV 0), (iV 0), (iV 0), (iV 0), (iV 0), (iV 0)]), [], none⟩, ⟨none, (.store 6), [(.t 13), (.t 36)], none⟩]) (.seq (.reg false [O1 37 (.loadN 6) 13, O1 38 (.call 42) 37, O1 39 (.un .not) 38]) (.cond (.t 39) (.seq (.reg false [K1 10 .mv (.slice none 0 0), K1 11 .mv (iV 1)]) .ret) .skip)))) (.reg false [K2 40 (.bin .add) 33 (iV 1), O1 33 .mv 40]))))
def x16L1 : XC := (.seq (.seq (.reg false [O1 47 .mv 15, O1 48 .lenS 47, K2 49 (.bin .gtr) 48 (iV 0)]) (.cond (.t 49) .skip (.exit 2))) (.block 3 (.seq (.regD [O1 51 (.loadN 3) 5, O1 52 .mv 15, K2 53 (.ixS 6) 52 (iV 0), O1 54 (.loadN 6) 53, O1 55 .mv 2, O1 56 .mv 3, ⟨(some 57), (.call 43), [(.t 51), (.t 54), (.t 55), (.t 56)], none⟩, O1 50 .mv 57, O1 58 (.ext 0) 50, O1 59 (.ext 1) 50, ⟨(some 16), (.alloc 46 [(iV 0), (iV 0), (iV 0), (iV 0), (iV 0), (iV 0)]), [], none⟩, ⟨none, (.store 6), [(.t 16), (.t 58)], none⟩, O1 17 .mv 59] [[], [], [1], [2, 1], [], [], [0, 3, 2, 1, 4, 5], [6, 0, 3, 2, 1, 4, 5], [7, 6, 0, 3, 2, 1, 4, 5], [7, 6, 0, 3, 2, 1, 4, 5], [], [10, 8, 7, 6, 0, 3, 2, 1, 4, 5], [9, 7, 6, 0, 3, 2, 1, 4, 5, 11, 10, 8]]) (.seq (.reg false [O1 60 .mv 15, K2 61 (.slc 6 true false false) 60 (iV 1), O1 15 .mv 61]) (.seq (.seq (.reg false [O1 62 .mv 17, O1 63 (.un .not) 62]) (.cond (.t 63) (.exit 3) .skip)) (.seq (.seq (.reg false [O1 64 .mv 4, K2 65 (.bin .gtr) 64 (iV 0)]) (.cond (.t 65) (.seq (.reg false [O1 67 (.loadN 6) 16, O1 68 (.call 44) 67, O1 66 .mv 68, O1 69 (.ext 0) 66, O1 70 (.ext 1) 66, O1 71 (.ext 2) 66, ⟨(some 18), (.alloc 46 [(iV 0), (iV 0), (iV 0), (iV 0), (iV 0), (iV 0)]), [], none⟩, ⟨(some 19), (.alloc 46 [(iV 0), (iV 0), (iV 0), (iV 0), (iV 0), (iV 0)]), [], none⟩, ⟨none, (.store 6), [(.t 18), (.t 69)], none⟩, ⟨none, (.store 6), [(.t 19), (.t 70)], none⟩, O1 20 .mv 71]) (.seq (.reg false [O1 72 .mv 20]) (.cond (.t 72) (.seq (.reg false [O1 73 .mv 4, K2 74 (.bin .sub) 73 (iV 1), O1 4 .mv 74]) (.seq (.reg false [O1 75 .mv 15, O1 76 (.loadN 6) 18, O1 77 (.loadN 6) 19, ⟨(some 78), (.slit 46 2 6 [(iV 0), (iV 0), (iV 0), (iV 0), (iV 0), (iV 0), (iV 0), (iV 0), (iV 0), (iV 0), (iV 0), (iV 0)] [(0, 6), (6, 6)]), [(.t 76), (.t 77)], none⟩, O2 79 (.app 46 6 48) 75 78, O1 15 .mv 79]) (.exit 3))) .skip))) .skip)) (.reg false [O1 80 .mv 14, O1 81 (.loadN 6) 16, ⟨(some 82), (.slit 46 1 6 [(iV 0), (iV 0), (iV 0), (iV 0), (iV 0), (iV 0)] [(0, 6)]), [(.t 81)], none⟩, O2 83 (.app 46 6 48) 80 82, O1 14 .mv 83])))))))
def x16 : XFn := ⟨85, (.seq (.reg false [O1 5 (.box 24) 0, K1 10 .mv (.slice none 0 0), K1 11 .mv (iV 0)]) (.seq (.seq (.reg false [O1 21 (.loadN 3) 5, O1 22 .mv 2, O1 23 .mv 3, ⟨(some 24), (.call 41), [(.t 21), (.t 22), (.t 23)], none⟩, O1 25 (.un .not) 24, O1 26 .mv 25, G1 27 .mv 1 26 false, G1 28 .lenS 27 26 false, GK 29 (.bin .gtr) 28 (iV 16) 26 false, ⟨(some 30), .pick, [(.t 26), (.k (.bool true)), (.t 29)], none⟩]) (.cond (.t 30) (.seq (.reg false [K1 10 .mv (.slice none 0 0), K1 11 .mv (iV 1)]) .ret) .skip)) (.seq (.seq (.reg false [O1 31 .mv 1, O1 32 .lenS 31, K1 33 .mv (iV 0)]) (.block 0 (.loop x16L0))) (.seq (.seq (.reg false [O1 41 .mv 4, ⟨(some 42), (.call 32), [(.t 41), (.k (iV 0)), (.k (iV 64))], none⟩, O1 43 (.un .not) 42]) (.cond (.t 43) (.seq (.reg false [K1 10 .mv (.slice none 0 0), K1 11 .mv (iV 2)]) .ret) .skip)) (.seq (.reg false [K1 14 .mv (.slice none 0 0)]) (.seq (.reg false [⟨(some 44), (.slit 46 0 6 [] []), [], none⟩, O1 45 .mv 1, O2 46 (.app 46 6 48) 44 45, O1 15 .mv 46]) (.seq (.block 2 (.loop x16L1)) (.seq (.reg false [O1 84 .mv 14, O1 10 .mv 84, K1 11 .mv (iV 0)]) .ret)))))))), [(.s 10), (.s 11)]⟩
theorem x16_ok : xfn Try.prog Try.f16 = some x16.er := by kernel_rfl
/-- wayfinder/contract.Refine -/
noncomputable def g16 : Con := fun args_ E_ nn_ => match args_ with
  | [.a [.v (.int .i64 p_W), .v (.int .i64 p_H), .n p_Cells], .c (.n set), .c (.n s), .c (.v (.int .i64 rng)), .c (.v (.int .i64 splits))] => (match rowOf E_ p_Cells with
    | some (p_Cells_n, p_Cells_s, p_Cells_f) => (match rowOf E_ set with
    | some (set_n, set_s, set_f) => (match rowOf E_ s with
    | some (s_n, s_s, s_f) => some (.e (isRow eU8 p_Cells_n p_Cells_s p_Cells_f ∧ isRow eB set_n set_s set_f ∧ isRow eC s_n s_s s_f ∧ True) (.t [.c (.n (nn_ + 0)), .c (.v (.int .i64 (rfnE p_W p_H (decL eU8 p_Cells_n p_Cells_f) (decL eB set_n set_f) (decL eC s_n s_f) rng splits)))]) [((nn_ + 0), .own (rfnL p_W p_H (decL eU8 p_Cells_n p_Cells_f) (decL eB set_n set_f) (decL eC s_n s_f) rng splits).length 6 (rowF eB (rfnL p_W p_H (decL eU8 p_Cells_n p_Cells_f) (decL eB set_n set_f) (decL eC s_n s_f) rng splits)) 46)] (nn_ + 1))
    | none => none)
    | none => none)
    | none => none)
  | _ => none
set_option maxHeartbeats 2000000 in
theorem c16 : COk Try.prog 16 g16 := by
  refine cok_e Try.func16 x16_ok (by kernel_rfl) (cok_tab (cok_cons c41 (cok_cons c42 (cok_cons c32 (cok_cons c43 (cok_cons c44 cok_nil)))))) ?_
  intro args_ E_ nn_ cr_ hg_
  unfold g16 at hg_
  split at hg_
  · rename_i p_W p_H p_Cells set s rng splits
    split at hg_
    · rename_i p_Cells_n p_Cells_s p_Cells_f h_p_Cells
      split at hg_
      · rename_i set_n set_s set_f h_set
        split at hg_
        · rename_i s_n s_s s_f h_s
          cases hg_
          refine ⟨_, _, _, _, rfl, 3, [p_Cells, set, s], [.a [.v (.int .i64 p_W), .v (.int .i64 p_H), .n 0], .c (.n 1), .c (.n 2), .c (.v (.int .i64 rng)), .c (.v (.int .i64 splits))], [(0, .ro (decL eU8 p_Cells_n p_Cells_f).length eU8.sz (rowF eU8 (decL eU8 p_Cells_n p_Cells_f))), (1, .ro (decL eB set_n set_f).length eB.sz (rowF eB (decL eB set_n set_f))), (2, .ro (decL eC s_n s_f).length eC.sz (rowF eC (decL eC s_n s_f)))], .t [.c (.n 3), .c (.v (.int .i64 (rfnE p_W p_H (decL eU8 p_Cells_n p_Cells_f) (decL eB set_n set_f) (decL eC s_n s_f) rng splits)))], [(3, .own (rfnL p_W p_H (decL eU8 p_Cells_n p_Cells_f) (decL eB set_n set_f) (decL eC s_n s_f) rng splits).length 6 (rowF eB (rfnL p_W p_H (decL eU8 p_Cells_n p_Cells_f) (decL eB set_n set_f) (decL eC s_n s_f) rng splits)) 46)], 4, rfl, rfl, by simp only [renE, Ent.ren, rowF_renf] <;> rfl, rfl, by decide, by simp only [push_cast, Nat.reduceLT, Nat.reduceAdd], by simp only [push_cast, Nat.reduceLT, Nat.reduceAdd], by simp only [push_cast, Nat.reduceLT, Nat.reduceAdd], by simp only [push_cast, Nat.reduceLT, Nat.reduceAdd], rfl, ⟨inE0_row h_p_Cells, inE0_row h_set, inE0_row h_s, trivial⟩, by simp only [keysNodup, outN, keys] <;> decide, rfl, rfl, ?_⟩
          intro hpre hlen
          obtain ⟨i_p_Cells, hpre⟩ := hpre
          obtain ⟨i_set, hpre⟩ := hpre
          obtain ⟨i_s, hpre⟩ := hpre
          refine ⟨⟨inE_row h_p_Cells i_p_Cells, inE_row h_set i_set, inE_row h_s i_s, trivial⟩, by simp only [apartE] <;> (first | trivial | (simp [Ent.mut]; done)), ?_⟩
          have z_p_Cells := lens_row (E := eU8) hlen h_p_Cells
          have z_set := lens_row (E := eB) hlen h_set
          have z_s := lens_row (E := eC) hlen h_s
          clear i_p_Cells
          generalize decL eU8 p_Cells_n p_Cells_f = p_CellsL at *
          clear i_set
          generalize decL eB set_n set_f = setL at *
          clear i_s
          generalize decL eC s_n s_f = sL at *
          clear h_p_Cells
          clear h_set
          clear h_s
          simp (config := {maxSteps := 10000000}) only [x16, push_cast, Nat.reduceAdd, Nat.reduceSub, Nat.reduceLeDiff, Nat.reduceEqDiff, Nat.reduceBEq, Nat.reduceMul, Nat.reduceLT, reduceIte, reduceCtorEq, Int.reduceLE, Int.reduceLT, Int.reduceEq, Int.reduceMul, Int.reduceAdd, Int.reduceSub, Int.reduceNeg, Int.reduceToNat, Int.reduceNe, g41, g42, g32, g43, g44]
          refine ⟨fun h => ?_, fun h1 h2 => ?_⟩
          · have e := rfn_bad (T := setL) (sp := splits) (h.imp id fun h => .inl (by omega))
            rw [e.1, e.2]; exact ⟨rfl, rfl⟩
          refine vcLoop_upd (α := {k : Nat // k ≤ setL.length ∧ ∀ i, i < k → (setL.getD i eB.dflt).ok = true}) [1, 2, 3, 4, 5, 31, 32] 0 (fun s => [(33, .o (.c (.v (.int .i64 (s.1 : Nat)))))]) (fun s => []) (fun s => setL.length - s.1) ⟨0, by omega, fun i hi => by omega⟩ ?_ ?_
          · simp only [push_cast, Nat.reduceAdd, Nat.reduceSub, Nat.reduceLeDiff, Nat.reduceEqDiff, Nat.reduceBEq, Nat.reduceMul, Nat.reduceLT, reduceIte, reduceCtorEq, Int.reduceLE, Int.reduceLT, Int.reduceEq, Int.reduceMul, Int.reduceAdd, Int.reduceSub, Int.reduceNeg, Int.reduceToNat, Int.reduceNe, g41, g42, g32, g43, g44]
          rintro ⟨k, hk, hall⟩
          simp only [x16L0, push_cast, Nat.reduceAdd, Nat.reduceSub, Nat.reduceLeDiff, Nat.reduceEqDiff, Nat.reduceBEq, Nat.reduceMul, Nat.reduceLT, reduceIte, reduceCtorEq, Int.reduceLE, Int.reduceLT, Int.reduceEq, Int.reduceMul, Int.reduceAdd, Int.reduceSub, Int.reduceNeg, Int.reduceToNat, Int.reduceNe, g41, g42, g32, g43, g44]
          refine ⟨fun hlt => ⟨hlt, hlt, fun g => ?_, fun g => ⟨⟨k + 1, by omega, fun i hi => by by_cases e : i = k; subst e; exact g; exact hall i (by omega)⟩, wrapI (by omega) (by omega), by simp only; omega⟩⟩, fun hge => ?_⟩
          · have e := rfn_bad (W := p_W) (H := p_H) (L := p_CellsL) (S := sL) (rng := rng) (T := setL) (sp := splits) (.inr (.inr (by rw [List.all_eq_false]; exact ⟨_, getB_in hlt, by unfold BB.ok; rw [g]; simp⟩)))
            rw [e.1, e.2]; exact ⟨rfl, rfl⟩
          have hok : ¬ (rightB p_W p_H p_CellsL sL rng = false ∨ 16 < setL.length ∨ setL.all BB.ok = false) := by
            rintro (h | h | h)
            · rw [h1] at h; cases h
            · omega
            · rw [List.all_eq_false] at h
              obtain ⟨c, hc, hn⟩ := h
              obtain ⟨j, hj, e⟩ := memB_at hc
              exact hn (e ▸ hall j (by omega))
          have hokm : ∀ b ∈ setL, b.ok = true := fun b hb => by obtain ⟨j, hj, e⟩ := memB_at hb; exact e ▸ hall j (by omega)
          refine ⟨fun g => ?_, fun g1 g2 => ⟨by omega, ?_⟩⟩
          · have e := rfn_sp hok g
            rw [e.1, e.2]; exact ⟨rfl, rfl⟩
          have e := rfn_good hok ⟨g1, g2⟩
          rw [e.1, e.2]
          have hr := h1
          unfold rightB at hr
          simp only [Bool.and_eq_true, decide_eq_true_eq] at hr
          refine vcLoop_upd (α := {s : List BB × Int × List BB // (∀ b ∈ s.1, b.ok = true) ∧ (0 ≤ s.2.1 ∧ s.2.1 ≤ 64) ∧ s.1.length + s.2.1.toNat + s.2.2.length ≤ 80 ∧ rqL (trmO p_W p_H p_CellsL sL rng) s.1 s.2.1 s.2.2 = rqL (trmO p_W p_H p_CellsL sL rng) setL splits []}) [2, 3, 5] 2 (fun s => [(4, .o (.c (.v (.int .i64 (s.1.2.1))))), (14, .o (.c (.n 6))), (15, .o (.c (.n 7)))]) (fun s => [(6, .own (s.1.2.2).length 6 (rowF eB (s.1.2.2)) 46), (7, .own (s.1.1).length 6 (rowF eB (s.1.1)) 46)]) (fun s => s.1.1.length + 2 * s.1.2.1.toNat) ⟨(setL, splits, []), hokm, ⟨g1, g2⟩, by show setL.length + splits.toNat + 0 ≤ 80; omega, rfl⟩ ?_ ?_
          · simp only [push_cast, Nat.reduceAdd, Nat.reduceSub, Nat.reduceLeDiff, Nat.reduceEqDiff, Nat.reduceBEq, Nat.reduceMul, Nat.reduceLT, reduceIte, reduceCtorEq, Int.reduceLE, Int.reduceLT, Int.reduceEq, Int.reduceMul, Int.reduceAdd, Int.reduceSub, Int.reduceNeg, Int.reduceToNat, Int.reduceNe, g41, g42, g32, g43, g44]
            exact app0B
          rintro ⟨⟨q, sp, out⟩, hq, hsp, hlen, hR⟩
          cases q with
          | nil =>
            simp only [x16L1, push_cast, Nat.reduceAdd, Nat.reduceSub, Nat.reduceLeDiff, Nat.reduceEqDiff, Nat.reduceBEq, Nat.reduceMul, Nat.reduceLT, reduceIte, reduceCtorEq, Int.reduceLE, Int.reduceLT, Int.reduceEq, Int.reduceMul, Int.reduceAdd, Int.reduceSub, Int.reduceNeg, Int.reduceToNat, Int.reduceNe, g41, g42, g32, g43, g44]
            simp only at hR
            rw [← hR, rqL_nil]
            exact ⟨rfl, (rowEq_rowF _ _ _ _).2 trivial⟩
          | cons b q =>
            simp only [x16L1, push_cast, Nat.reduceAdd, Nat.reduceSub, Nat.reduceLeDiff, Nat.reduceEqDiff, Nat.reduceBEq, Nat.reduceMul, Nat.reduceLT, reduceIte, reduceCtorEq, Int.reduceLE, Int.reduceLT, Int.reduceEq, Int.reduceMul, Int.reduceAdd, Int.reduceSub, Int.reduceNeg, Int.reduceToNat, Int.reduceNe, g41, g42, g32, g43, g44]
            simp only [List.length_cons] at hq hsp hlen hR
            have hb : b.ok = true := hq b List.mem_cons_self
            have hq' : ∀ x ∈ q, x.ok = true := fun x hx => hq x (List.mem_cons_of_mem _ hx)
            rw [show ((q.length : Int) + 1 - 1).toNat = q.length by omega]
            refine ⟨fun _ => ⟨by omega, by omega, ⟨hr.1.1, hr.1.2, hr.2, hb⟩, by rfl, ⟨by omega, by omega⟩, ?_⟩, fun h => absurd (by omega) h⟩
            cases ht : trmO p_W p_H p_CellsL sL rng b with
            | none =>
              exact ⟨fun _ => ⟨⟨(q, sp, out), hq', hsp, by simp only; omega, (rqL_none ht).symm.trans hR⟩, ⟨rfl, same_eq rfl, rfl, shB_eq (Nat.le_refl _)⟩, by simp only; omega⟩, fun h => by cases h⟩
            | some c =>
              have hc := trmO_ok hb ht
              rw [oB_some]
              refine ⟨fun h => by (cases h), fun _ => ⟨fun g1 => ⟨fun g2 => ?_, fun g2 => ?_⟩, fun g1 => ?_⟩⟩
              · have hs : splA c = halfA c ∧ splB c = halfB c := ⟨if_pos g2, if_pos g2⟩
                have ho := half_ok g2
                rw [hs.1, hs.2]
                exact ⟨by omega, ⟨(q ++ [halfA c, halfB c], sp - 1, out), fun x hx => by
                  rcases List.mem_append.1 hx with h | h
                  · exact hq' x h
                  · simp only [List.mem_cons, List.not_mem_nil, or_false] at h
                    rcases h with rfl | rfl
                    · exact ho.1
                    · exact ho.2, by show 0 ≤ sp - 1 ∧ sp - 1 ≤ 64; omega, by simp only [List.length_append, List.length_cons, List.length_nil]; omega, (rqL_split ht g1 g2).symm.trans hR⟩, ⟨wrapI (by omega) (by omega), same_eq rfl, by simp only [List.length_append, List.length_cons, List.length_nil], push2B (Nat.le_refl _) (Nat.le_refl _)⟩, by simp only [List.length_append, List.length_cons, List.length_nil]; omega⟩
              · exact ⟨by omega, ⟨(q, sp, out ++ [c]), hq', hsp, by simp only [List.length_append, List.length_cons, List.length_nil]; omega, (rqL_keep ht (fun h => by rw [g2] at h; exact absurd h.2 (by simp))).symm.trans hR⟩, ⟨rfl, push_eq (E := eB) (x := c) rfl, rfl, shB_eq (Nat.le_refl _)⟩, by simp only; omega⟩
              · exact ⟨by omega, ⟨(q, sp, out ++ [c]), hq', hsp, by simp only [List.length_append, List.length_cons, List.length_nil]; omega, (rqL_keep ht (fun h => g1 h.1)).symm.trans hR⟩, ⟨rfl, push_eq (E := eB) (x := c) rfl, rfl, shB_eq (Nat.le_refl _)⟩, by simp only; omega⟩
        · cases hg_
      · cases hg_
    · cases hg_
  · cases hg_
end Go.Proofs.Ytjnelnofbpjdmaa
set_option linter.unusedVariables false
set_option linter.unusedSimpArgs false
set_option maxRecDepth 20000
namespace Go.Proofs.Ytjnelnofbpjdmaa
open Go.Sx
/-! ### Plans together -/
def d8 (L : List Int) (i : Nat) : Int := L.getD i eU8.dflt
def confB (a b : Int) : Bool := decide (a ≠ 0 ∧ b ≠ 0 ∧ a ≠ b)
def clashB (L M : List Int) : Bool := (List.range L.length).any fun i => confB (d8 L i) (d8 M i)
theorem clash_iff {L M : List Int} : clashB L M = true ↔ ∃ i, i < L.length ∧ (d8 L i ≠ 0 ∧ d8 M i ≠ 0 ∧ d8 L i ≠ d8 M i) := by
  simp only [clashB, confB, List.any_eq_true, List.mem_range, decide_eq_true_eq]
theorem clash_no {L M : List Int} : clashB L M = false ↔ ∀ i, i < L.length → (d8 L i = 0 ∨ d8 M i = 0 ∨ d8 L i = d8 M i) := by
  rw [Bool.eq_false_iff]
  show ¬ (clashB L M = true) ↔ _
  rw [clash_iff]
  constructor
  · intro h i hi
    rcases Classical.em (d8 L i = 0) with h1 | h1
    · exact .inl h1
    · rcases Classical.em (d8 M i = 0) with h2 | h2
      · exact .inr (.inl h2)
      · rcases Classical.em (d8 L i = d8 M i) with h3 | h3
        · exact .inr (.inr h3)
        · exact absurd ⟨i, hi, h1, h2, h3⟩ h
  · rintro h ⟨i, hi, h1, h2, h3⟩
    rcases h i hi with h | h | h
    · exact h1 h
    · exact h2 h
    · exact h3 h
def okM (W H : Int) (L : List Int) (W2 H2 : Int) (M : List Int) : Bool := planB W H L && planB W2 H2 M && decide (W = W2 ∧ H = H2)
def mgE (W H : Int) (L : List Int) (W2 H2 : Int) (M : List Int) : Int := if okM W H L W2 H2 M = false then 1 else if clashB L M = true then 11 else 0
def mixL (L M : List Int) : List Int := (List.range L.length).map fun i => max (d8 L i) (d8 M i)
def mgL (W H : Int) (L : List Int) (W2 H2 : Int) (M : List Int) : List Int := if mgE W H L W2 H2 M = 0 then mixL L M else []
/-- The first `s` numbers are mixed. -/
def mixS (L M : List Int) (s : Nat) : List Int := (List.range L.length).map fun i => if i < s then max (d8 L i) (d8 M i) else d8 L i
def mixK (L M : List Int) (s : Nat) : List Int := (List.range s).map fun i => max (d8 L i) (d8 M i)
theorem list8_ext {a b : List Int} (hl : a.length = b.length) (h : ∀ i, i < a.length → d8 a i = d8 b i) : a = b := getD_ext eU8.dflt hl h
theorem d8_map {f : Nat → Int} {n i : Nat} (h : i < n) : d8 ((List.range n).map f) i = f i := by
  unfold d8
  rw [List.getD_eq_getElem?_getD, List.getElem?_map, List.getElem?_range h]
  rfl
theorem mixS_len (L M : List Int) (s : Nat) : (mixS L M s).length = L.length := by simp [mixS]
theorem mixL_len (L M : List Int) : (mixL L M).length = L.length := by simp [mixL]
theorem mixS_at {L M : List Int} {s i : Nat} (h : i < L.length) : d8 (mixS L M s) i = if i < s then max (d8 L i) (d8 M i) else d8 L i := d8_map h
theorem mixL_at {L M : List Int} {i : Nat} (h : i < L.length) : d8 (mixL L M) i = max (d8 L i) (d8 M i) := d8_map h
theorem mixS_zero (L M : List Int) : mixS L M 0 = L := list8_ext (mixS_len _ _ _) fun i hi => by rw [mixS_len] at hi; rw [mixS_at hi]; simp
theorem mixS_all {L M : List Int} {s : Nat} (h : L.length ≤ s) : mixS L M s = mixL L M := list8_ext (by rw [mixS_len, mixL_len]) fun i hi => by
  rw [mixS_len] at hi; rw [mixS_at hi, mixL_at hi, if_pos (by omega)]
theorem mixS_keep {L M : List Int} {s : Nat} (h : max (d8 L s) (d8 M s) = d8 L s) : mixS L M (s + 1) = mixS L M s := list8_ext (by rw [mixS_len, mixS_len]) fun i hi => by
  rw [mixS_len] at hi
  rw [mixS_at hi, mixS_at hi]
  by_cases e : i = s
  · subst e; rw [if_pos (by omega), if_neg (by omega), h]
  · by_cases g : i < s
    · rw [if_pos (by omega), if_pos g]
    · rw [if_neg (by omega), if_neg g]
theorem d8_set {L : List Int} {i j : Nat} {v : Int} (hi : i < L.length) : d8 (L.set i v) j = if j = i then v else d8 L j := getD_set hi
theorem mixS_set {L M : List Int} {s : Nat} {v : Int} (hs : s < L.length) (h : max (d8 L s) (d8 M s) = v) : mixS L M (s + 1) = (mixS L M s).set s v := list8_ext (by rw [List.length_set, mixS_len, mixS_len]) fun i hi => by
  rw [mixS_len] at hi
  rw [d8_set (by rw [mixS_len]; exact hs), mixS_at hi, mixS_at hi]
  by_cases e : i = s
  · subst e; rw [if_pos (by omega), if_pos rfl, h]
  · rw [if_neg e]
    by_cases g : i < s
    · rw [if_pos (by omega), if_pos g]
    · rw [if_neg (by omega), if_neg g]
theorem mixK_succ (L M : List Int) (s : Nat) : mixK L M (s + 1) = mixK L M s ++ [max (d8 L s) (d8 M s)] := by simp [mixK, List.range_succ]
theorem mixK_len (L M : List Int) (s : Nat) : (mixK L M s).length = s := by simp [mixK]
theorem mixK_all (L M : List Int) : mixK L M L.length = mixL L M := rfl
def belB (L M : List Int) : Bool := (List.range L.length).all fun i => decide (d8 L i = 0 ∨ d8 L i = d8 M i)
theorem bel_iff {L M : List Int} : belB L M = true ↔ ∀ i, i < L.length → (d8 L i = 0 ∨ d8 L i = d8 M i) := by
  simp only [belB, List.all_eq_true, List.mem_range, decide_eq_true_eq]
def blB (W H : Int) (L : List Int) (W2 H2 : Int) (M : List Int) : Bool := okM W H L W2 H2 M && belB L M
theorem okM_iff {W H : Int} {L : List Int} {W2 H2 : Int} {M : List Int} : okM W H L W2 H2 M = true ↔ planB W H L = true ∧ planB W2 H2 M = true ∧ W = W2 ∧ H = H2 := by
  simp only [okM, Bool.and_eq_true, decide_eq_true_eq, and_assoc]
theorem okM_len {W H : Int} {L : List Int} {W2 H2 : Int} {M : List Int} (h : okM W H L W2 H2 M = true) : L.length = M.length ∧ (1 ≤ L.length ∧ L.length ≤ 4096) := by
  rw [okM_iff] at h
  obtain ⟨h1, h2, rfl, rfl⟩ := h
  have a := planB_at h1
  have b := planB_at h2
  omega
theorem mgE1 {W H : Int} {L : List Int} {W2 H2 : Int} {M : List Int} (h : okM W H L W2 H2 M = false) : mgE W H L W2 H2 M = 1 ∧ mgL W H L W2 H2 M = [] := by simp [mgL, mgE, h]
theorem mgE11 {W H : Int} {L : List Int} {W2 H2 : Int} {M : List Int} (h : okM W H L W2 H2 M = true) (h2 : clashB L M = true) : mgE W H L W2 H2 M = 11 ∧ mgL W H L W2 H2 M = [] := by simp [mgL, mgE, h, h2]
theorem mgE0 {W H : Int} {L : List Int} {W2 H2 : Int} {M : List Int} (h : okM W H L W2 H2 M = true) (h2 : clashB L M = false) : mgE W H L W2 H2 M = 0 ∧ mgL W H L W2 H2 M = mixL L M := by simp [mgL, mgE, h, h2]
theorem okM_no {W H : Int} {L : List Int} {W2 H2 : Int} {M : List Int} (h : ((planB W H L = false ∨ planB W2 H2 M = false) ∨ ¬ W = W2) ∨ ¬ H = H2) : okM W H L W2 H2 M = false := by
  rw [Bool.eq_false_iff]
  intro k
  rw [okM_iff] at k
  rcases h with ((h | h) | h) | h
  · rw [k.1] at h; cases h
  · rw [k.2.1] at h; cases h
  · exact h k.2.2.1
  · exact h k.2.2.2
theorem bel_no {L M : List Int} {k : Nat} (hk : k < L.length) (h1 : ¬ d8 L k = 0) (h2 : ¬ d8 M k = d8 L k) : belB L M = false := by
  rw [Bool.eq_false_iff]
  intro h
  rcases bel_iff.1 h k hk with g | g
  · exact h1 g
  · exact h2 g.symm
def x14L0 : XC := (.seq (.reg false [O2 33 (.bin .lss) 32 31]) (.seq (.cond (.t 33) .skip (.exit 0)) (.seq (.block 1 (.seq (.reg false [O1 34 .mv 32, O2 35 (.ixS 1) 30 32, O1 36 .load1 35, O1 5 .mv 34, O1 6 .mv 36]) (.seq (.reg false [O1 37 .mv 6, K2 38 (.bin .neq) 37 (.int .u8 0), O1 39 .mv 38, G1 40 (.fld 2) 3 39 true, G1 41 .load1 40 39 true, G1 42 .mv 5 39 true, G2 43 (.ixS 1) 41 42 39 true, G1 44 .load1 43 39 true, G1 45 .mv 6 39 true, G2 46 (.bin .neq) 44 45 39 true, ⟨(some 47), .pick, [(.t 39), (.t 46), (.k (.bool false))], none⟩]) (.cond (.t 47) (.seq (.reg false [K1 4 .mv (.bool false)]) .ret) .skip)))) (.reg false [K2 48 (.bin .add) 32 (iV 1), O1 32 .mv 48]))))
def x14 : XFn := ⟨49, (.seq (.reg false [O1 2 (.box 24) 0, O1 3 (.box 24) 1, K1 4 .mv (.bool false)]) (.seq (.seq (.reg false [O1 7 (.loadN 3) 2, O1 8 (.call 29) 7, O1 9 (.un .not) 8, O1 10 .mv 9, G1 11 (.loadN 3) 3 10 false, G1 12 (.call 29) 11 10 false, G1 13 (.un .not) 12 10 false, ⟨(some 14), .pick, [(.t 10), (.k (.bool true)), (.t 13)], none⟩, O1 15 .mv 14, G1 16 (.fld 0) 2 15 false, G1 17 .load1 16 15 false, G1 18 (.fld 0) 3 15 false, G1 19 .load1 18 15 false, G2 20 (.bin .neq) 17 19 15 false, ⟨(some 21), .pick, [(.t 15), (.k (.bool true)), (.t 20)], none⟩, O1 22 .mv 21, G1 23 (.fld 1) 2 22 false, G1 24 .load1 23 22 false, G1 25 (.fld 1) 3 22 false, G1 26 .load1 25 22 false, G2 27 (.bin .neq) 24 26 22 false, ⟨(some 28), .pick, [(.t 22), (.k (.bool true)), (.t 27)], none⟩]) (.cond (.t 28) (.seq (.reg false [K1 4 .mv (.bool false)]) .ret) .skip)) (.seq (.seq (.reg false [O1 29 (.fld 2) 2, O1 30 .load1 29, O1 31 .lenS 30, K1 32 .mv (iV 0)]) (.block 0 (.loop x14L0))) (.seq (.reg false [K1 4 .mv (.bool true)]) .ret)))), [(.s 4)]⟩
theorem x14_ok : xfn Try.prog Try.f14 = some x14.er := by kernel_rfl
/-- wayfinder/plan.Below -/
def g14 : Con := fun args_ E_ nn_ => match args_ with
  | [.a [.v (.int .i64 a_W), .v (.int .i64 a_H), .n a_Cells], .a [.v (.int .i64 b_W), .v (.int .i64 b_H), .n b_Cells]] => (match rowOf E_ a_Cells with
    | some (a_Cells_n, a_Cells_s, a_Cells_f) => (match rowOf E_ b_Cells with
    | some (b_Cells_n, b_Cells_s, b_Cells_f) => some (.q (isRow eU8 a_Cells_n a_Cells_s a_Cells_f ∧ isRow eU8 b_Cells_n b_Cells_s b_Cells_f ∧ True) (.o (.c (.v (.bool (blB a_W a_H (decL eU8 a_Cells_n a_Cells_f) b_W b_H (decL eU8 b_Cells_n b_Cells_f)))))))
    | none => none)
    | none => none)
  | _ => none
theorem c14 : COk Try.prog 14 g14 := by
  refine cok_q Try.func14 x14_ok (by kernel_rfl) (cok_tab (cok_cons c29 cok_nil)) ?_
  intro args_ E_ nn_ cr_ hg_
  unfold g14 at hg_
  split at hg_
  · rename_i a_W a_H a_Cells b_W b_H b_Cells
    split at hg_
    · rename_i a_Cells_n a_Cells_s a_Cells_f h_a_Cells
      split at hg_
      · rename_i b_Cells_n b_Cells_s b_Cells_f h_b_Cells
        cases hg_
        refine ⟨_, _, rfl, 2, [a_Cells, b_Cells], [.a [.v (.int .i64 a_W), .v (.int .i64 a_H), .n 0], .a [.v (.int .i64 b_W), .v (.int .i64 b_H), .n 1]], [(0, .ro (decL eU8 a_Cells_n a_Cells_f).length eU8.sz (rowF eU8 (decL eU8 a_Cells_n a_Cells_f))), (1, .ro (decL eU8 b_Cells_n b_Cells_f).length eU8.sz (rowF eU8 (decL eU8 b_Cells_n b_Cells_f)))], .o (.c (.v (.bool (blB a_W a_H (decL eU8 a_Cells_n a_Cells_f) b_W b_H (decL eU8 b_Cells_n b_Cells_f))))), rfl, rfl, by simp only [push_cast, Nat.reduceLT, Nat.reduceAdd], by simp only [push_cast, Nat.reduceLT, Nat.reduceAdd], by simp only [push_cast, Nat.reduceLT, Nat.reduceAdd], rfl, ⟨inE0_row h_a_Cells, inE0_row h_b_Cells, trivial⟩, rfl, ?_⟩
        intro hpre hlen
        obtain ⟨i_a_Cells, hpre⟩ := hpre
        obtain ⟨i_b_Cells, hpre⟩ := hpre
        refine ⟨⟨inE_row h_a_Cells i_a_Cells, inE_row h_b_Cells i_b_Cells, trivial⟩, ?_⟩
        have z_a_Cells := lens_row (E := eU8) hlen h_a_Cells
        have z_b_Cells := lens_row (E := eU8) hlen h_b_Cells
        clear i_a_Cells
        generalize decL eU8 a_Cells_n a_Cells_f = a_CellsL at *
        clear i_b_Cells
        generalize decL eU8 b_Cells_n b_Cells_f = b_CellsL at *
        clear h_a_Cells
        clear h_b_Cells
        simp (config := {maxSteps := 10000000}) only [x14, push_cast, Nat.reduceAdd, Nat.reduceSub, Nat.reduceLeDiff, Nat.reduceEqDiff, Nat.reduceBEq, Nat.reduceMul, Nat.reduceLT, reduceIte, reduceCtorEq, Int.reduceLE, Int.reduceLT, Int.reduceEq, Int.reduceMul, Int.reduceAdd, Int.reduceSub, Int.reduceNeg, Int.reduceToNat, Int.reduceNe, g29]
        refine ⟨fun h => ?_, fun h1 h2 h3 h4 => ?_⟩
        · unfold blB
          rw [okM_no h]
          rfl
        have hok : okM a_W a_H a_CellsL b_W b_H b_CellsL = true := okM_iff.2 ⟨h1, h2, h3, h4⟩
        have hl := okM_len hok
        unfold blB
        rw [hok, Bool.true_and]
        refine vcLoop_upd (α := {s : Nat // s ≤ a_CellsL.length ∧ ∀ i, i < s → (d8 a_CellsL i = 0 ∨ d8 a_CellsL i = d8 b_CellsL i)}) [3, 30, 31] 0 (fun s => [(32, .o (.c (.v (.int .i64 (s.1 : Nat)))))]) (fun s => []) (fun s => a_CellsL.length - s.1) ⟨0, by omega, fun i hi => by omega⟩ ?_ ?_
        · simp only [push_cast, Nat.reduceAdd, Nat.reduceSub, Nat.reduceLeDiff, Nat.reduceEqDiff, Nat.reduceBEq, Nat.reduceMul, Nat.reduceLT, reduceIte, reduceCtorEq, Int.reduceLE, Int.reduceLT, Int.reduceEq, Int.reduceMul, Int.reduceAdd, Int.reduceSub, Int.reduceNeg, Int.reduceToNat, Int.reduceNe, g29]
        · rintro ⟨k, hk, hall⟩
          simp only [x14L0, push_cast, Nat.reduceAdd, Nat.reduceSub, Nat.reduceLeDiff, Nat.reduceEqDiff, Nat.reduceBEq, Nat.reduceMul, Nat.reduceLT, reduceIte, reduceCtorEq, Int.reduceLE, Int.reduceLT, Int.reduceEq, Int.reduceMul, Int.reduceAdd, Int.reduceSub, Int.reduceNeg, Int.reduceToNat, Int.reduceNe, g29]
          refine ⟨fun h => ⟨h, h, fun g => ⟨g, by omega⟩, fun g => ⟨g, by omega⟩, fun g g2 => (bel_no h g g2).symm, fun g => ⟨⟨k + 1, by omega, fun i hi => ?_⟩, wrapI (by omega) (by omega), by simp only; omega⟩⟩, fun h => (bel_iff.2 fun i hi => hall i (by omega)).symm⟩
          by_cases e : i = k
          · subst e
            simp only [Bool.and_eq_false_iff, bne_eq_false_iff_eq] at g
            exact g.imp id fun e => e.symm
          · exact hall i (by omega)
      · cases hg_
    · cases hg_
  · cases hg_
end Go.Proofs.Ytjnelnofbpjdmaa
