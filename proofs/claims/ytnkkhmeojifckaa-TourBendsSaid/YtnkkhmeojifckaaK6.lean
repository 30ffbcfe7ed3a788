/- A part of the proof of a statement about this seat: how a function is stepped through, and plain laws. No conditions. -/
import Derived.Test.YtnkkhmeojifckaaRows
import Derived.Test.YtnkkhmeojifckaaSz3
import Derived.Test.YtnkkhmeojifckaaK4
import Derived.KernelRfl
set_option linter.unusedVariables false
set_option linter.unusedSimpArgs false
set_option maxRecDepth 20000
namespace Go.Proofs.Ytnkkhmeojifckaa
open Go.Sx
theorem mark_get {W H : Int} {K : List CC} {e : Nat} (h : e < (W * H).toNat) : (markL W H K).getD e eB.dflt = decide (celC W e ∈ K) := by
  unfold markL
  rw [List.getD_eq_getElem?_getD, List.getElem?_map, List.getElem?_range h]
  rfl
theorem mark_at {W H : Int} {K : List CC} {d : CC} (h : cellIn W H d) : (markL W H K).getD (d.Y * W + d.X).toNat eB.dflt = decide (d ∈ K) := by
  have b := ix_bd h
  rw [mark_get (by omega), show celC W (d.Y * W + d.X).toNat = d from (ix_cel h).2 rfl]
theorem row_first {W H : Int} {c : CC} {b : Bnd} (h : cellIn W H c) : rowEq (W * H).toNat 1 (updF (replF [Value.bool false]) (c.Y * W + c.X).toNat 0 [SC.v (.bool true)]) (rowF eB (markL W H [c])) (SC.sub b) := by
  intro e j he hj
  obtain rfl : j = 0 := by omega
  rw [rowF_sub, eB_0, mark_get he]
  unfold updF
  have hi := ix_cel (i := e) h
  unfold ixC at hi
  by_cases g : e = (c.Y * W + c.X).toNat
  · rw [if_pos ⟨g, Nat.le_refl _⟩, decide_eq_true (by rw [hi.2 g]; simp)]
    rfl
  · rw [if_neg (fun q => g q.1), decide_eq_false (by rw [List.mem_singleton]; exact fun q => g (hi.1 q))]
    rfl
theorem row_nbr {c : CC} {b : Bnd} : rowEq 4 2 (litF [SC.v (.int .i64 (c.X + 1)), SC.v (.int .i64 c.Y), SC.v (.int .i64 c.X), SC.v (.int .i64 (c.Y + 1)), SC.v (.int .i64 (c.X - 1)), SC.v (.int .i64 c.Y), SC.v (.int .i64 c.X), SC.v (.int .i64 (c.Y - 1))] 2) (rowF eC (nbr c)) (SC.sub b) := by
  intro e j he hj
  rw [rowF_sub]
  rcases (by omega : e = 0 ∨ e = 1 ∨ e = 2 ∨ e = 3) with rfl | rfl | rfl | rfl <;> rcases (by omega : j = 0 ∨ j = 1) with rfl | rfl <;> rfl
theorem insC_in {K : List CC} {d : CC} (h : d ∉ K) : insC K d.X d.Y = K ++ [d] := if_neg h
def x16L0 : XC := (.seq (.seq (.reg false [O1 62 .mv 9, K2 63 (.bin .lss) 62 (iV 4)]) (.cond (.t 63) .skip (.exit 2))) (.seq (.block 3 (.seq (.reg false [O1 66 .mv 8, O1 67 .mv 9, O2 68 (.ixS 2) 66 67, O1 69 (.loadN 2) 68, ⟨(some 10), (.alloc 26 [(iV 0), (iV 0)]), [], none⟩, ⟨none, (.store 2), [(.t 10), (.t 69)], none⟩]) (.seq (.reg false [O1 70 (.loadN 3) 2, O1 71 (.loadN 2) 10, O2 72 (.call 15) 70 71, K2 73 (.bin .eql) 72 (.int .u8 1), O1 74 .mv 73, G1 75 .mv 5 74 true, G1 76 (.fld 1) 10 74 true, G1 77 .load1 76 74 true, G1 78 (.fld 0) 2 74 true, G1 79 .load1 78 74 true, G2 80 (.bin .mul) 77 79 74 true, G1 81 (.fld 0) 10 74 true, G1 82 .load1 81 74 true, G2 83 (.bin .add) 80 82 74 true, G2 84 (.ixS 1) 75 83 74 true, G1 85 .load1 84 74 true, G1 86 (.un .not) 85 74 true, ⟨(some 87), .pick, [(.t 74), (.t 86), (.k (.bool false))], none⟩]) (.cond (.t 87) (.seq (.reg false [O1 88 .mv 5, O1 89 (.fld 1) 10, O1 90 .load1 89, O1 91 (.fld 0) 2, O1 92 .load1 91, O2 93 (.bin .mul) 90 92, O1 94 (.fld 0) 10, O1 95 .load1 94, O2 96 (.bin .add) 93 95, O2 97 (.ixS 1) 88 96, ⟨none, (.store 1), [(.t 97), (.k (.bool true))], none⟩]) (.reg false [O1 98 .mv 6, O1 99 (.loadN 2) 10, ⟨(some 100), (.slit 26 1 2 [(iV 0), (iV 0)] [(0, 2)]), [(.t 99)], none⟩, O2 101 (.app 26 2 16) 98 100, O1 6 .mv 101])) .skip)))) (.reg false [O1 64 .mv 9, K2 65 (.bin .add) 64 (iV 1), O1 9 .mv 65])))
def x16L1 : XC := (.seq (.seq (.reg false [O1 29 .mv 6, O1 30 .lenS 29, K2 31 (.bin .gtr) 30 (iV 0)]) (.cond (.t 31) .skip (.exit 0))) (.block 1 (.seq (.reg false [O1 32 .mv 6, K2 33 (.ixS 2) 32 (iV 0), O1 34 (.loadN 2) 33, ⟨(some 7), (.alloc 26 [(iV 0), (iV 0)]), [], none⟩, ⟨none, (.store 2), [(.t 7), (.t 34)], none⟩]) (.seq (.reg false [O1 35 .mv 6, K2 36 (.slc 2 true false false) 35 (iV 1), O1 6 .mv 36]) (.seq (.reg false [O1 37 (.fld 0) 7, O1 38 .load1 37, K2 39 (.bin .add) 38 (iV 1), O1 40 (.fld 1) 7, O1 41 .load1 40, ⟨(some 42), (.build [(iV 0), (iV 0)] [(0, 1), (1, 1)]), [(.t 39), (.t 41)], none⟩, O1 43 (.fld 0) 7, O1 44 .load1 43, O1 45 (.fld 1) 7, O1 46 .load1 45, K2 47 (.bin .add) 46 (iV 1), ⟨(some 48), (.build [(iV 0), (iV 0)] [(0, 1), (1, 1)]), [(.t 44), (.t 47)], none⟩, O1 49 (.fld 0) 7, O1 50 .load1 49, K2 51 (.bin .sub) 50 (iV 1), O1 52 (.fld 1) 7, O1 53 .load1 52, ⟨(some 54), (.build [(iV 0), (iV 0)] [(0, 1), (1, 1)]), [(.t 51), (.t 53)], none⟩, O1 55 (.fld 0) 7, O1 56 .load1 55, O1 57 (.fld 1) 7, O1 58 .load1 57, K2 59 (.bin .sub) 58 (iV 1), ⟨(some 60), (.build [(iV 0), (iV 0)] [(0, 1), (1, 1)]), [(.t 56), (.t 59)], none⟩, ⟨(some 61), (.slit 26 4 2 [(iV 0), (iV 0), (iV 0), (iV 0), (iV 0), (iV 0), (iV 0), (iV 0)] [(0, 2), (2, 2), (4, 2), (6, 2)]), [(.t 42), (.t 48), (.t 54), (.t 60)], none⟩, O1 8 .mv 61]) (.seq (.reg false [K1 9 .mv (iV 0)]) (.block 2 (.loop x16L0))))))))
def x16 : XFn := ⟨103, (.seq (.reg false [O1 2 (.box 24) 0, O1 3 (.box 26) 1, K1 4 .mv (.slice none 0 0)]) (.seq (.reg false [O1 11 (.fld 0) 2, O1 12 .load1 11, O1 13 (.fld 1) 2, O1 14 .load1 13, O2 15 (.bin .mul) 12 14, ⟨(some 16), (.mks 4 1 1 [(.bool false)]), [(.t 15), (.t 15)], none⟩, O1 5 .mv 16]) (.seq (.reg false [O1 17 .mv 5, O1 18 (.fld 1) 3, O1 19 .load1 18, O1 20 (.fld 0) 2, O1 21 .load1 20, O2 22 (.bin .mul) 19 21, O1 23 (.fld 0) 3, O1 24 .load1 23, O2 25 (.bin .add) 22 24, O2 26 (.ixS 1) 17 25, ⟨none, (.store 1), [(.t 26), (.k (.bool true))], none⟩]) (.seq (.reg false [O1 27 (.loadN 2) 3, ⟨(some 28), (.slit 26 1 2 [(iV 0), (iV 0)] [(0, 2)]), [(.t 27)], none⟩, O1 6 .mv 28]) (.seq (.block 0 (.loop x16L1)) (.seq (.reg false [O1 102 .mv 5, O1 4 .mv 102]) .ret)))))), [(.s 4)]⟩
theorem x16_ok : xfn Try.prog Try.f16 = some x16.er := by kernel_rfl
/-- wayfinder/wayfinderref39.Region -/
def g16 : Con := fun args_ E_ nn_ => match args_ with
  | [.a [.v (.int .i64 p_W), .v (.int .i64 p_H), .n p_Cells], .a [.v (.int .i64 start_X), .v (.int .i64 start_Y)]] => (match rowOf E_ p_Cells with
    | some (p_Cells_n, p_Cells_s, p_Cells_f) => some (.e (isRow eU8 p_Cells_n p_Cells_s p_Cells_f ∧ planB p_W p_H (decL eU8 p_Cells_n p_Cells_f) = true ∧ frB p_W p_H (decL eU8 p_Cells_n p_Cells_f) start_X start_Y = true) (.o (.c (.n (nn_ + 0)))) [((nn_ + 0), .own (markL p_W p_H (regL p_W p_H (decL eU8 p_Cells_n p_Cells_f) start_X start_Y)).length 1 (rowF eB (markL p_W p_H (regL p_W p_H (decL eU8 p_Cells_n p_Cells_f) start_X start_Y))) 4)] (nn_ + 1))
    | none => none)
  | _ => none
set_option maxHeartbeats 4000000 in
theorem c16 : COk Try.prog 16 g16 := by
  refine cok_e Try.func16 x16_ok (by kernel_rfl) (cok_tab (cok_cons c15 cok_nil)) ?_
  intro args_ E_ nn_ cr_ hg_
  unfold g16 at hg_
  split at hg_
  · rename_i p_W p_H p_Cells start_X start_Y
    split at hg_
    · rename_i p_Cells_n p_Cells_s p_Cells_f h_p_Cells
      cases hg_
      refine ⟨_, _, _, _, rfl, 1, [p_Cells], [.a [.v (.int .i64 p_W), .v (.int .i64 p_H), .n 0], .a [.v (.int .i64 start_X), .v (.int .i64 start_Y)]], [(0, .ro (decL eU8 p_Cells_n p_Cells_f).length eU8.sz (rowF eU8 (decL eU8 p_Cells_n p_Cells_f)))], .o (.c (.n 1)), [(1, .own (markL p_W p_H (regL p_W p_H (decL eU8 p_Cells_n p_Cells_f) start_X start_Y)).length 1 (rowF eB (markL p_W p_H (regL p_W p_H (decL eU8 p_Cells_n p_Cells_f) start_X start_Y))) 4)], 2, rfl, rfl, by simp only [renE, Ent.ren, rowF_renf] <;> rfl, rfl, by decide, by simp only [push_cast, Nat.reduceLT, Nat.reduceAdd], by simp only [push_cast, Nat.reduceLT, Nat.reduceAdd], by simp only [push_cast, Nat.reduceLT, Nat.reduceAdd], by simp only [push_cast, Nat.reduceLT, Nat.reduceAdd], rfl, ⟨inE0_row h_p_Cells, trivial⟩, by simp only [keysNodup, outN, keys] <;> decide, rfl, rfl, ?_⟩
      intro hpre hlen
      obtain ⟨i_p_Cells, hpre⟩ := hpre
      refine ⟨⟨inE_row h_p_Cells i_p_Cells, trivial⟩, by simp only [apartE] <;> (first | trivial | (simp [Ent.mut]; done)), ?_⟩
      have z_p_Cells := lens_row (E := eU8) hlen h_p_Cells
      clear i_p_Cells
      generalize decL eU8 p_Cells_n p_Cells_f = p_CellsL at *
      clear h_p_Cells
      simp (config := {maxSteps := 10000000}) only [x16, push_cast, Nat.reduceAdd, Nat.reduceSub, Nat.reduceLeDiff, Nat.reduceEqDiff, Nat.reduceBEq, Nat.reduceMul, Nat.reduceLT, reduceIte, reduceCtorEq, Int.reduceLE, Int.reduceLT, Int.reduceEq, Int.reduceMul, Int.reduceAdd, Int.reduceSub, Int.reduceNeg, Int.reduceToNat, Int.reduceNe, g15, shF_drop]
      obtain ⟨hp, hf⟩ := hpre
      have pp := planB_at hp
      have hm := mulWH pp.1 pp.2.1
      have sin := frB_in hf
      have k2 := idx_bd hp (decide_eq_true sin : insB p_W p_H start_X start_Y = true)
      have sb := ix_bd (W := p_W) (H := p_H) (c := ⟨start_X, start_Y⟩) sin
      simp only at sb
      rw [wrapI (n := p_W * p_H) (by omega) (by omega), wrapI (n := start_Y * p_W) (by omega) (by omega), wrapI (n := start_Y * p_W + start_X) (by omega) (by omega)]
      refine ⟨⟨by omega, by omega, by omega⟩, ⟨by omega, by omega⟩, by omega, ?_⟩
      refine vcLoop_upd (α := {s : List CC × List CC // RInv p_W p_H p_CellsL ⟨start_X, start_Y⟩ s.1 s.2 ∧ rCl p_W p_H p_CellsL s.1 s.2 ∧ 2 * (4097 - s.1.length) + s.2.length ≤ 8194}) [2, 5] 0 (fun s => [(6, .o (.c (.n 4)))]) (fun s => [(3, .own (markL p_W p_H s.1.1).length 1 (rowF eB (markL p_W p_H s.1.1)) 4), (4, .own (s.1.2).length 2 (rowF eC (s.1.2)) 26)]) (fun s => 2 * (4097 - s.1.1.length) + s.1.2.length) ⟨([⟨start_X, start_Y⟩], [⟨start_X, start_Y⟩]), (rInv0 hp hf).1, (rInv0 hp hf).2, by simp⟩ ?_ ?_
      · simp only [push_cast, Nat.reduceAdd, Nat.reduceSub, Nat.reduceLeDiff, Nat.reduceEqDiff, Nat.reduceBEq, Nat.reduceMul, Nat.reduceLT, reduceIte, reduceCtorEq, Int.reduceLE, Int.reduceLT, Int.reduceEq, Int.reduceMul, Int.reduceAdd, Int.reduceSub, Int.reduceNeg, Int.reduceToNat, Int.reduceNe, g15, shF_drop, markL_len]
        exact ⟨row_first (c := ⟨start_X, start_Y⟩) sin, row_one ⟨start_X, start_Y⟩ _⟩
      rintro ⟨⟨K, Q⟩, hi, hcl, hQ⟩
      simp only at hi hcl hQ
      cases Q with
      | nil =>
        simp only [x16L1, push_cast, Nat.reduceAdd, Nat.reduceSub, Nat.reduceLeDiff, Nat.reduceEqDiff, Nat.reduceBEq, Nat.reduceMul, Nat.reduceLT, reduceIte, reduceCtorEq, Int.reduceLE, Int.reduceLT, Int.reduceEq, Int.reduceMul, Int.reduceAdd, Int.reduceSub, Int.reduceNeg, Int.reduceToNat, Int.reduceNe, g15, shF_drop, markL_len]
        have e := r_end hp hf hi hcl
        unfold regL
        rw [e]
        exact (rowEq_rowF _ _ _ _).2 trivial
      | cons c Q =>
        have cf := frB_in ((tEnd_inv hp hf).1.fr c (hi.sub c (hi.qk c List.mem_cons_self)))
        simp only [x16L1, push_cast, Nat.reduceAdd, Nat.reduceSub, Nat.reduceLeDiff, Nat.reduceEqDiff, Nat.reduceBEq, Nat.reduceMul, Nat.reduceLT, reduceIte, reduceCtorEq, Int.reduceLE, Int.reduceLT, Int.reduceEq, Int.reduceMul, Int.reduceAdd, Int.reduceSub, Int.reduceNeg, Int.reduceToNat, Int.reduceNe, g15, shF_drop, markL_len, List.drop_succ_cons, List.drop_zero]
        have eQ : ((Q.length : Int) + 1 - 1).toNat = Q.length := by omega
        rw [eQ, wrapI (n := c.X + 1) (by omega) (by omega), wrapI (n := c.Y + 1) (by omega) (by omega), wrapI (n := c.X - 1) (by omega) (by omega), wrapI (n := c.Y - 1) (by omega) (by omega)]
        refine ⟨fun _ => ⟨by omega, by omega, ⟨by omega, by omega⟩, ?_⟩, fun h => by omega⟩
        simp only [List.length_cons] at hQ
        have hlK := rInv_len hp hf hi
        obtain ⟨m1, m2⟩ := rMid0 hi hcl
        refine vcLoop_upd (α := {t : (List CC × List CC) × Nat // t.2 ≤ 4 ∧ RInv p_W p_H p_CellsL ⟨start_X, start_Y⟩ t.1.1 t.1.2 ∧ rMid p_W p_H p_CellsL t.1.1 t.1.2 c t.2 ∧ 2 * (4097 - t.1.1.length) + t.1.2.length + 1 ≤ 2 * (4097 - K.length) + (Q.length + 1)}) [2, 5, 8] 0 (fun s => [(6, .o (.c (.n 6))), (9, .o (.c (.v (.int .i64 (s.1.2 : Nat)))))]) (fun s => [(3, .own (markL p_W p_H s.1.1.1).length 1 (rowF eB (markL p_W p_H s.1.1.1)) 4), (6, .own (s.1.1.2).length 2 (rowF eC (s.1.1.2)) 26), (7, .own 4 2 (rowF eC (nbr c)) 26)]) (fun s => 4 - s.1.2) ⟨((K, Q), 0), by omega, m1, m2, by simp only; omega⟩ ?_ ?_
        · simp only [push_cast, Nat.reduceAdd, Nat.reduceSub, Nat.reduceLeDiff, Nat.reduceEqDiff, Nat.reduceBEq, Nat.reduceMul, Nat.reduceLT, reduceIte, reduceCtorEq, Int.reduceLE, Int.reduceLT, Int.reduceEq, Int.reduceMul, Int.reduceAdd, Int.reduceSub, Int.reduceNeg, Int.reduceToNat, Int.reduceNe, g15, shF_drop, markL_len]
          exact row_nbr
        rintro ⟨⟨⟨K', Q'⟩, k⟩, hk, hi', hmid, hms⟩
        simp only at hk hi' hmid hms
        simp (config := {implicitDefEqProofs := false}) only [x16L0, push_cast, Nat.reduceAdd, Nat.reduceSub, Nat.reduceLeDiff, Nat.reduceEqDiff, Nat.reduceBEq, Nat.reduceMul, Nat.reduceLT, reduceIte, reduceCtorEq, Int.reduceLE, Int.reduceLT, Int.reduceEq, Int.reduceMul, Int.reduceAdd, Int.reduceSub, Int.reduceNeg, Int.reduceToNat, Int.reduceNe, g15, shF_drop, markL_len]
        have hlK' := rInv_len hp hf hi'
        refine ⟨fun hlt => ?_, fun hge => ?_⟩
        · by_cases ha : atB p_W p_H p_CellsL ((nbr c).getD k eC.dflt).X ((nbr c).getD k eC.dflt).Y = 1
          · have hfd : frB p_W p_H p_CellsL ((nbr c).getD k eC.dflt).X ((nbr c).getD k eC.dflt).Y = true := fr_iff.2 ha
            have hin := frB_in hfd
            have hcell : cellIn p_W p_H ((nbr c).getD k eC.dflt) := hin
            have hb := ix_bd hcell
            have hk2 := idx_bd hp (decide_eq_true hin : insB p_W p_H ((nbr c).getD k eC.dflt).X ((nbr c).getD k eC.dflt).Y = true)
            rw [wrapI (n := ((nbr c).getD k eC.dflt).Y * p_W) (by omega) (by omega), wrapI (n := ((nbr c).getD k eC.dflt).Y * p_W + ((nbr c).getD k eC.dflt).X) (by omega) (by omega), mark_at hcell]
            refine ⟨by omega, by omega, hp, fun a => ⟨a, by omega, by omega⟩, fun a => ⟨a, by omega⟩, fun a hm0 => ?_, fun hno => ?_⟩
            · have hn : (nbr c).getD k eC.dflt ∉ K' := of_decide_eq_false hm0
              obtain ⟨n1, n2⟩ := rMid_add hp hf hi' hmid (by omega) hfd hn
              refine ⟨⟨by omega, by omega⟩, by omega, by omega, ⟨((K' ++ [(nbr c).getD k eC.dflt], Q' ++ [(nbr c).getD k eC.dflt]), k + 1), by simp only; omega, n1, n2, by simp only [List.length_append, List.length_singleton]; omega⟩, ⟨wrapI (by omega) (by omega), ?_, push_eq (E := eC) (x := (nbr c).getD k eC.dflt) rfl⟩, by simp only; omega⟩
              rw [up_b true (by rw [markL_len]; omega)]
              have e := mark_set (K := K') hcell
              unfold ixC at e
              rw [e, insC_in hn]
              exact (rowEq_rowF _ _ _ _).2 trivial
            · have hmem : (nbr c).getD k eC.dflt ∈ K' := by
                rw [ha] at hno
                simpa using hno
              exact ⟨⟨((K', Q'), k + 1), by simp only; omega, hi', rMid_skip hmid (fun _ => hmem), by simp only; omega⟩, ⟨wrapI (by omega) (by omega), (rowEq_rowF _ _ _ _).2 trivial, same_eq rfl⟩, by simp only; omega⟩
          · exact ⟨by omega, by omega, hp, fun a => absurd a ha, fun a => absurd a ha, fun a => absurd a ha, fun _ => ⟨⟨((K', Q'), k + 1), by simp only; omega, hi', rMid_skip hmid (fun h => absurd (fr_iff.1 h) ha), by simp only; omega⟩, ⟨wrapI (by omega) (by omega), (rowEq_rowF _ _ _ _).2 trivial, same_eq rfl⟩, by simp only; omega⟩⟩
        · obtain rfl : k = 4 := by omega
          exact ⟨⟨(K', Q'), hi', rMid_end hmid, by simp only; omega⟩, ⟨(rowEq_rowF _ _ _ _).2 trivial, same_eq rfl⟩, by simp only [List.length_cons]; omega⟩
    · cases hg_
  · cases hg_
end Go.Proofs.Ytnkkhmeojifckaa
