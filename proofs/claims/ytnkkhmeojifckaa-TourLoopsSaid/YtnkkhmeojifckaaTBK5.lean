/- A part of the proof of a statement about this seat: how a function is stepped through, and plain laws. No conditions. -/
import Derived.Test.YtnkkhmeojifckaaRows
import Derived.Test.YtnkkhmeojifckaaTBSz4
import Derived.Test.YtnkkhmeojifckaaTBK4
import Derived.KernelRfl
set_option linter.unusedVariables false
set_option linter.unusedSimpArgs false
set_option maxRecDepth 20000
namespace Go.Proofs.Ytnkkhmeojifckaa
open Go.Sx
theorem mark_get {W H : Int} {K : List CC} {e : Nat} (h : e < (W * H).toNat) : (markL W H K).getD e eB.dflt = decide (celC W e ∈ K) := by
  unfold markL
  rw [List.getD_eq_getElem?_getD, List.getElem?_map, List.getElem?_range h]
  rfl
theorem mark_at {W H : Int} {K : List CC} {d : CC} (h : cellIn W H d) : (markL W H K).getD (d.Y * W + d.X).toNat eB.dflt = decide (d ∈ K) := by
  have b := ix_bd h
  rw [mark_get (by omega), show celC W (d.Y * W + d.X).toNat = d from (ix_cel h).2 rfl]
theorem row_first {W H : Int} {c : CC} {b : Bnd} (h : cellIn W H c) : rowEq (W * H).toNat 1 (updF (replF [Value.bool false]) (c.Y * W + c.X).toNat 0 [SC.v (.bool true)]) (rowF eB (markL W H [c])) (SC.sub b) := by
  intro e j he hj
  obtain rfl : j = 0 := by omega
  rw [rowF_sub, eB_0, mark_get he]
  unfold updF
  have hi := ix_cel (i := e) h
  unfold ixC at hi
  by_cases g : e = (c.Y * W + c.X).toNat
  · rw [if_pos ⟨g, Nat.le_refl _⟩, decide_eq_true (by rw [hi.2 g]; simp)]
    rfl
  · rw [if_neg (fun q => g q.1), decide_eq_false (by rw [List.mem_singleton]; exact fun q => g (hi.1 q))]
    rfl
theorem row_nbr {c : CC} {b : Bnd} : rowEq 4 2 (litF [SC.v (.int .i64 (c.X + 1)), SC.v (.int .i64 c.Y), SC.v (.int .i64 c.X), SC.v (.int .i64 (c.Y + 1)), SC.v (.int .i64 (c.X - 1)), SC.v (.int .i64 c.Y), SC.v (.int .i64 c.X), SC.v (.int .i64 (c.Y - 1))] 2) (rowF eC (nbr c)) (SC.sub b) := by
  intro e j he hj
  rw [rowF_sub]
  rcases (by omega : e = 0 ∨ e = 1 ∨ e = 2 ∨ e = 3) with rfl | rfl | rfl | rfl <;> rcases (by omega : j = 0 ∨ j = 1) with rfl | rfl <;> rfl
theorem insC_in {K : List CC} {d : CC} (h : d ∉ K) : insC K d.X d.Y = K ++ [d] := if_neg h
def x16L0 : XC := (.seq (.seq (.reg false [O1 62 .mv 9, K2 63 (.bin .lss) 62 (iV 4)]) (.cond (.t 63) .skip (.exit 2))) (.seq (.block 3 (.seq (.reg false [O1 66 .mv 8, O1 67 .mv 9, O2 68 (.ixS 2) 66 67, O1 69 (.loadN 2) 68, ⟨(some 10), (.alloc 26 [(iV 0), (iV 0)]), [], none⟩, ⟨none, (.store 2), [(.t 10), (.t 69)], none⟩]) (.seq (.reg false [O1 70 (.loadN 3) 2, O1 71 (.loadN 2) 10, O2 72 (.call 15) 70 71, K2 73 (.bin .eql) 72 (.int .u8 1), O1 74 .mv 73, G1 75 .mv 5 74 true, G1 76 (.fld 1) 10 74 true, G1 77 .load1 76 74 true, G1 78 (.fld 0) 2 74 true, G1 79 .load1 78 74 true, G2 80 (.bin .mul) 77 79 74 true, G1 81 (.fld 0) 10 74 true, G1 82 .load1 81 74 true, G2 83 (.bin .add) 80 82 74 true, G2 84 (.ixS 1) 75 83 74 true, G1 85 .load1 84 74 true, G1 86 (.un .not) 85 74 true, ⟨(some 87), .pick, [(.t 74), (.t 86), (.k (.bool false))], none⟩]) (.cond (.t 87) (.seq (.reg false [O1 88 .mv 5, O1 89 (.fld 1) 10, O1 90 .load1 89, O1 91 (.fld 0) 2, O1 92 .load1 91, O2 93 (.bin .mul) 90 92, O1 94 (.fld 0) 10, O1 95 .load1 94, O2 96 (.bin .add) 93 95, O2 97 (.ixS 1) 88 96, ⟨none, (.store 1), [(.t 97), (.k (.bool true))], none⟩]) (.reg false [O1 98 .mv 6, O1 99 (.loadN 2) 10, ⟨(some 100), (.slit 26 1 2 [(iV 0), (iV 0)] [(0, 2)]), [(.t 99)], none⟩, O2 101 (.app 26 2 16) 98 100, O1 6 .mv 101])) .skip)))) (.reg false [O1 64 .mv 9, K2 65 (.bin .add) 64 (iV 1), O1 9 .mv 65])))
def x16L1 : XC := (.seq (.seq (.reg false [O1 29 .mv 6, O1 30 .lenS 29, K2 31 (.bin .gtr) 30 (iV 0)]) (.cond (.t 31) .skip (.exit 0))) (.block 1 (.seq (.reg false [O1 32 .mv 6, K2 33 (.ixS 2) 32 (iV 0), O1 34 (.loadN 2) 33, ⟨(some 7), (.alloc 26 [(iV 0), (iV 0)]), [], none⟩, ⟨none, (.store 2), [(.t 7), (.t 34)], none⟩]) (.seq (.reg false [O1 35 .mv 6, K2 36 (.slc 2 true false false) 35 (iV 1), O1 6 .mv 36]) (.seq (.reg false [O1 37 (.fld 0) 7, O1 38 .load1 37, K2 39 (.bin .add) 38 (iV 1), O1 40 (.fld 1) 7, O1 41 .load1 40, ⟨(some 42), (.build [(iV 0), (iV 0)] [(0, 1), (1, 1)]), [(.t 39), (.t 41)], none⟩, O1 43 (.fld 0) 7, O1 44 .load1 43, O1 45 (.fld 1) 7, O1 46 .load1 45, K2 47 (.bin .add) 46 (iV 1), ⟨(some 48), (.build [(iV 0), (iV 0)] [(0, 1), (1, 1)]), [(.t 44), (.t 47)], none⟩, O1 49 (.fld 0) 7, O1 50 .load1 49, K2 51 (.bin .sub) 50 (iV 1), O1 52 (.fld 1) 7, O1 53 .load1 52, ⟨(some 54), (.build [(iV 0), (iV 0)] [(0, 1), (1, 1)]), [(.t 51), (.t 53)], none⟩, O1 55 (.fld 0) 7, O1 56 .load1 55, O1 57 (.fld 1) 7, O1 58 .load1 57, K2 59 (.bin .sub) 58 (iV 1), ⟨(some 60), (.build [(iV 0), (iV 0)] [(0, 1), (1, 1)]), [(.t 56), (.t 59)], none⟩, ⟨(some 61), (.slit 26 4 2 [(iV 0), (iV 0), (iV 0), (iV 0), (iV 0), (iV 0), (iV 0), (iV 0)] [(0, 2), (2, 2), (4, 2), (6, 2)]), [(.t 42), (.t 48), (.t 54), (.t 60)], none⟩, O1 8 .mv 61]) (.seq (.reg false [K1 9 .mv (iV 0)]) (.block 2 (.loop x16L0))))))))
def x16 : XFn := ⟨103, (.seq (.reg false [O1 2 (.box 24) 0, O1 3 (.box 26) 1, K1 4 .mv (.slice none 0 0)]) (.seq (.reg false [O1 11 (.fld 0) 2, O1 12 .load1 11, O1 13 (.fld 1) 2, O1 14 .load1 13, O2 15 (.bin .mul) 12 14, ⟨(some 16), (.mks 4 1 1 [(.bool false)]), [(.t 15), (.t 15)], none⟩, O1 5 .mv 16]) (.seq (.reg false [O1 17 .mv 5, O1 18 (.fld 1) 3, O1 19 .load1 18, O1 20 (.fld 0) 2, O1 21 .load1 20, O2 22 (.bin .mul) 19 21, O1 23 (.fld 0) 3, O1 24 .load1 23, O2 25 (.bin .add) 22 24, O2 26 (.ixS 1) 17 25, ⟨none, (.store 1), [(.t 26), (.k (.bool true))], none⟩]) (.seq (.reg false [O1 27 (.loadN 2) 3, ⟨(some 28), (.slit 26 1 2 [(iV 0), (iV 0)] [(0, 2)]), [(.t 27)], none⟩, O1 6 .mv 28]) (.seq (.block 0 (.loop x16L1)) (.seq (.reg false [O1 102 .mv 5, O1 4 .mv 102]) .ret)))))), [(.s 4)]⟩
theorem x16_ok : xfn Try.prog Try.f16 = some x16.er := by kernel_rfl
def g16 : Con := fun args_ E_ nn_ => match args_ with
  | [.a [.v (.int .i64 p_W), .v (.int .i64 p_H), .n p_Cells], .a [.v (.int .i64 start_X), .v (.int .i64 start_Y)]] => (match rowOf E_ p_Cells with
    | some (p_Cells_n, p_Cells_s, p_Cells_f) => some (.e (isRow eU8 p_Cells_n p_Cells_s p_Cells_f ∧ planB p_W p_H (decL eU8 p_Cells_n p_Cells_f) = true ∧ frB p_W p_H (decL eU8 p_Cells_n p_Cells_f) start_X start_Y = true) (.o (.c (.n (nn_ + 0)))) [((nn_ + 0), .own (markL p_W p_H (regL p_W p_H (decL eU8 p_Cells_n p_Cells_f) start_X start_Y)).length 1 (rowF eB (markL p_W p_H (regL p_W p_H (decL eU8 p_Cells_n p_Cells_f) start_X start_Y))) 4)] (nn_ + 1))
    | none => none)
  | _ => none
set_option maxHeartbeats 4000000 in
theorem c16 : COk Try.prog 16 g16 := by
  refine cok_e Try.func16 x16_ok (by kernel_rfl) (cok_tab (cok_cons c15 cok_nil)) ?_
  intro args_ E_ nn_ cr_ hg_
  unfold g16 at hg_
  split at hg_
  · rename_i p_W p_H p_Cells start_X start_Y
    split at hg_
    · rename_i p_Cells_n p_Cells_s p_Cells_f h_p_Cells
      cases hg_
      refine ⟨_, _, _, _, rfl, 1, [p_Cells], [.a [.v (.int .i64 p_W), .v (.int .i64 p_H), .n 0], .a [.v (.int .i64 start_X), .v (.int .i64 start_Y)]], [(0, .ro (decL eU8 p_Cells_n p_Cells_f).length eU8.sz (rowF eU8 (decL eU8 p_Cells_n p_Cells_f)))], .o (.c (.n 1)), [(1, .own (markL p_W p_H (regL p_W p_H (decL eU8 p_Cells_n p_Cells_f) start_X start_Y)).length 1 (rowF eB (markL p_W p_H (regL p_W p_H (decL eU8 p_Cells_n p_Cells_f) start_X start_Y))) 4)], 2, rfl, rfl, by simp only [renE, Ent.ren, rowF_renf] <;> rfl, rfl, by decide, by simp only [push_cast, Nat.reduceLT, Nat.reduceAdd], by simp only [push_cast, Nat.reduceLT, Nat.reduceAdd], by simp only [push_cast, Nat.reduceLT, Nat.reduceAdd], by simp only [push_cast, Nat.reduceLT, Nat.reduceAdd], rfl, ⟨inE0_row h_p_Cells, trivial⟩, by simp only [keysNodup, outN, keys] <;> decide, rfl, rfl, ?_⟩
      intro hpre hlen
      obtain ⟨i_p_Cells, hpre⟩ := hpre
      refine ⟨⟨inE_row h_p_Cells i_p_Cells, trivial⟩, by simp only [apartE] <;> (first | trivial | (simp [Ent.mut]; done)), ?_⟩
      have z_p_Cells := lens_row (E := eU8) hlen h_p_Cells
      clear i_p_Cells
      generalize decL eU8 p_Cells_n p_Cells_f = p_CellsL at *
      clear h_p_Cells
      simp (config := {maxSteps := 10000000}) only [x16, push_cast, Nat.reduceAdd, Nat.reduceSub, Nat.reduceLeDiff, Nat.reduceEqDiff, Nat.reduceBEq, Nat.reduceMul, Nat.reduceLT, reduceIte, reduceCtorEq, Int.reduceLE, Int.reduceLT, Int.reduceEq, Int.reduceMul, Int.reduceAdd, Int.reduceSub, Int.reduceNeg, Int.reduceToNat, Int.reduceNe, g15, shF_drop]
      obtain ⟨hp, hf⟩ := hpre
      have pp := planB_at hp
      have hm := mulWH pp.1 pp.2.1
      have sin := frB_in hf
      have k2 := idx_bd hp (decide_eq_true sin : insB p_W p_H start_X start_Y = true)
      have sb := ix_bd (W := p_W) (H := p_H) (c := ⟨start_X, start_Y⟩) sin
      simp only at sb
      rw [wrapI (n := p_W * p_H) (by omega) (by omega), wrapI (n := start_Y * p_W) (by omega) (by omega), wrapI (n := start_Y * p_W + start_X) (by omega) (by omega)]
      refine ⟨⟨by omega, by omega, by omega⟩, ⟨by omega, by omega⟩, by omega, ?_⟩
      refine vcLoop_upd (α := {s : List CC × List CC // RInv p_W p_H p_CellsL ⟨start_X, start_Y⟩ s.1 s.2 ∧ rCl p_W p_H p_CellsL s.1 s.2 ∧ 2 * (4097 - s.1.length) + s.2.length ≤ 8194}) [2, 5] 0 (fun s => [(6, .o (.c (.n 4)))]) (fun s => [(3, .own (markL p_W p_H s.1.1).length 1 (rowF eB (markL p_W p_H s.1.1)) 4), (4, .own (s.1.2).length 2 (rowF eC (s.1.2)) 26)]) (fun s => 2 * (4097 - s.1.1.length) + s.1.2.length) ⟨([⟨start_X, start_Y⟩], [⟨start_X, start_Y⟩]), (rInv0 hp hf).1, (rInv0 hp hf).2, by simp⟩ ?_ ?_
      · simp only [push_cast, Nat.reduceAdd, Nat.reduceSub, Nat.reduceLeDiff, Nat.reduceEqDiff, Nat.reduceBEq, Nat.reduceMul, Nat.reduceLT, reduceIte, reduceCtorEq, Int.reduceLE, Int.reduceLT, Int.reduceEq, Int.reduceMul, Int.reduceAdd, Int.reduceSub, Int.reduceNeg, Int.reduceToNat, Int.reduceNe, g15, shF_drop, markL_len]
        exact ⟨row_first (c := ⟨start_X, start_Y⟩) sin, row_one ⟨start_X, start_Y⟩ _⟩
      rintro ⟨⟨K, Q⟩, hi, hcl, hQ⟩
      simp only at hi hcl hQ
      cases Q with
      | nil =>
        simp only [x16L1, push_cast, Nat.reduceAdd, Nat.reduceSub, Nat.reduceLeDiff, Nat.reduceEqDiff, Nat.reduceBEq, Nat.reduceMul, Nat.reduceLT, reduceIte, reduceCtorEq, Int.reduceLE, Int.reduceLT, Int.reduceEq, Int.reduceMul, Int.reduceAdd, Int.reduceSub, Int.reduceNeg, Int.reduceToNat, Int.reduceNe, g15, shF_drop, markL_len]
        have e := r_end hp hf hi hcl
        unfold regL
        rw [e]
        exact (rowEq_rowF _ _ _ _).2 trivial
      | cons c Q =>
        have cf := frB_in ((tEnd_inv hp hf).1.fr c (hi.sub c (hi.qk c List.mem_cons_self)))
        simp only [x16L1, push_cast, Nat.reduceAdd, Nat.reduceSub, Nat.reduceLeDiff, Nat.reduceEqDiff, Nat.reduceBEq, Nat.reduceMul, Nat.reduceLT, reduceIte, reduceCtorEq, Int.reduceLE, Int.reduceLT, Int.reduceEq, Int.reduceMul, Int.reduceAdd, Int.reduceSub, Int.reduceNeg, Int.reduceToNat, Int.reduceNe, g15, shF_drop, markL_len, List.drop_succ_cons, List.drop_zero]
        have eQ : ((Q.length : Int) + 1 - 1).toNat = Q.length := by omega
        rw [eQ, wrapI (n := c.X + 1) (by omega) (by omega), wrapI (n := c.Y + 1) (by omega) (by omega), wrapI (n := c.X - 1) (by omega) (by omega), wrapI (n := c.Y - 1) (by omega) (by omega)]
        refine ⟨fun _ => ⟨by omega, by omega, ⟨by omega, by omega⟩, ?_⟩, fun h => by omega⟩
        simp only [List.length_cons] at hQ
        have hlK := rInv_len hp hf hi
        obtain ⟨m1, m2⟩ := rMid0 hi hcl
        refine vcLoop_upd (α := {t : (List CC × List CC) × Nat // t.2 ≤ 4 ∧ RInv p_W p_H p_CellsL ⟨start_X, start_Y⟩ t.1.1 t.1.2 ∧ rMid p_W p_H p_CellsL t.1.1 t.1.2 c t.2 ∧ 2 * (4097 - t.1.1.length) + t.1.2.length + 1 ≤ 2 * (4097 - K.length) + (Q.length + 1)}) [2, 5, 8] 0 (fun s => [(6, .o (.c (.n 6))), (9, .o (.c (.v (.int .i64 (s.1.2 : Nat)))))]) (fun s => [(3, .own (markL p_W p_H s.1.1.1).length 1 (rowF eB (markL p_W p_H s.1.1.1)) 4), (6, .own (s.1.1.2).length 2 (rowF eC (s.1.1.2)) 26), (7, .own 4 2 (rowF eC (nbr c)) 26)]) (fun s => 4 - s.1.2) ⟨((K, Q), 0), by omega, m1, m2, by simp only; omega⟩ ?_ ?_
        · simp only [push_cast, Nat.reduceAdd, Nat.reduceSub, Nat.reduceLeDiff, Nat.reduceEqDiff, Nat.reduceBEq, Nat.reduceMul, Nat.reduceLT, reduceIte, reduceCtorEq, Int.reduceLE, Int.reduceLT, Int.reduceEq, Int.reduceMul, Int.reduceAdd, Int.reduceSub, Int.reduceNeg, Int.reduceToNat, Int.reduceNe, g15, shF_drop, markL_len]
          exact row_nbr
        rintro ⟨⟨⟨K', Q'⟩, k⟩, hk, hi', hmid, hms⟩
        simp only at hk hi' hmid hms
        simp (config := {implicitDefEqProofs := false}) only [x16L0, push_cast, Nat.reduceAdd, Nat.reduceSub, Nat.reduceLeDiff, Nat.reduceEqDiff, Nat.reduceBEq, Nat.reduceMul, Nat.reduceLT, reduceIte, reduceCtorEq, Int.reduceLE, Int.reduceLT, Int.reduceEq, Int.reduceMul, Int.reduceAdd, Int.reduceSub, Int.reduceNeg, Int.reduceToNat, Int.reduceNe, g15, shF_drop, markL_len]
        have hlK' := rInv_len hp hf hi'
        refine ⟨fun hlt => ?_, fun hge => ?_⟩
        · by_cases ha : atB p_W p_H p_CellsL ((nbr c).getD k eC.dflt).X ((nbr c).getD k eC.dflt).Y = 1
          · have hfd : frB p_W p_H p_CellsL ((nbr c).getD k eC.dflt).X ((nbr c).getD k eC.dflt).Y = true := fr_iff.2 ha
            have hin := frB_in hfd
            have hcell : cellIn p_W p_H ((nbr c).getD k eC.dflt) := hin
            have hb := ix_bd hcell
            have hk2 := idx_bd hp (decide_eq_true hin : insB p_W p_H ((nbr c).getD k eC.dflt).X ((nbr c).getD k eC.dflt).Y = true)
            rw [wrapI (n := ((nbr c).getD k eC.dflt).Y * p_W) (by omega) (by omega), wrapI (n := ((nbr c).getD k eC.dflt).Y * p_W + ((nbr c).getD k eC.dflt).X) (by omega) (by omega), mark_at hcell]
            refine ⟨by omega, by omega, hp, fun a => ⟨a, by omega, by omega⟩, fun a => ⟨a, by omega⟩, fun a hm0 => ?_, fun hno => ?_⟩
            · have hn : (nbr c).getD k eC.dflt ∉ K' := of_decide_eq_false hm0
              obtain ⟨n1, n2⟩ := rMid_add hp hf hi' hmid (by omega) hfd hn
              refine ⟨⟨by omega, by omega⟩, by omega, by omega, ⟨((K' ++ [(nbr c).getD k eC.dflt], Q' ++ [(nbr c).getD k eC.dflt]), k + 1), by simp only; omega, n1, n2, by simp only [List.length_append, List.length_singleton]; omega⟩, ⟨wrapI (by omega) (by omega), ?_, push_eq (E := eC) (x := (nbr c).getD k eC.dflt) rfl⟩, by simp only; omega⟩
              rw [up_b true (by rw [markL_len]; omega)]
              have e := mark_set (K := K') hcell
              unfold ixC at e
              rw [e, insC_in hn]
              exact (rowEq_rowF _ _ _ _).2 trivial
            · have hmem : (nbr c).getD k eC.dflt ∈ K' := by
                rw [ha] at hno
                simpa using hno
              exact ⟨⟨((K', Q'), k + 1), by simp only; omega, hi', rMid_skip hmid (fun _ => hmem), by simp only; omega⟩, ⟨wrapI (by omega) (by omega), (rowEq_rowF _ _ _ _).2 trivial, same_eq rfl⟩, by simp only; omega⟩
          · exact ⟨by omega, by omega, hp, fun a => absurd a ha, fun a => absurd a ha, fun a => absurd a ha, fun _ => ⟨⟨((K', Q'), k + 1), by simp only; omega, hi', rMid_skip hmid (fun h => absurd (fr_iff.1 h) ha), by simp only; omega⟩, ⟨wrapI (by omega) (by omega), (rowEq_rowF _ _ _ _).2 trivial, same_eq rfl⟩, by simp only; omega⟩⟩
        · obtain rfl : k = 4 := by omega
          exact ⟨⟨(K', Q'), hi', rMid_end hmid, by simp only; omega⟩, ⟨(rowEq_rowF _ _ _ _).2 trivial, same_eq rfl⟩, by simp only [List.length_cons]; omega⟩
    · cases hg_
  · cases hg_
end Go.Proofs.Ytnkkhmeojifckaa
namespace Go.Proofs.Ytnkkhmeojifckaa
open Go.Sx
def qJoin (q : List QE) (a b : CC) (V V' : Value) : List QE :=
  qSet (qSet q a.X a.Y V (qGet q a.X a.Y ++ [b])) b.X b.Y V' (qGet q b.X b.Y ++ [a])
def remC : List CC → CC → List CC
  | [], _ => []
  | x :: l, y => if x.X = y.X ∧ x.Y = y.Y then l else x :: remC l y
def qCut (q : List QE) (a b : CC) (V V' : Value) : List QE :=
  qSet (qSet q a.X a.Y V (remC (qGet q a.X a.Y) b)) b.X b.Y V' (remC (qGet q b.X b.Y) a)
theorem qGet_not {x y : Int} : ∀ {q : List QE}, qHas q x y = false → qGet q x y = []
  | [], _ => rfl
  | e :: q, h => by
    simp only [qHas, qGet] at h ⊢
    by_cases g : e.x = x ∧ e.y = y
    · rw [if_pos g] at h; cases h
    · rw [if_neg g] at h ⊢
      exact qGet_not h
theorem rowP1 (c : CC) : rowEq 1 2 (litF [SC.v (.int .i64 c.X), SC.v (.int .i64 c.Y)] 2) (rowF eC [c]) (fun x => x) := by
  intro e j he hj
  obtain rfl : e = 0 := by omega
  rcases (by omega : j = 0 ∨ j = 1) with rfl | rfl <;> rfl
theorem rowPA (L : List CC) (c : CC) : rowEq (L.length + 1) 2 (catF L.length (rowF eC L) (litF [SC.v (.int .i64 c.X), SC.v (.int .i64 c.Y)] 2)) (rowF eC (L ++ [c])) (fun x => x) := by
  intro e j he hj
  unfold catF rowF
  by_cases g : e < L.length
  · rw [if_pos g, List.getD_eq_getElem?_getD, List.getD_eq_getElem?_getD, List.getElem?_append_left g]
  · obtain rfl : e = L.length := by omega
    rw [if_neg g, Nat.sub_self, List.getD_eq_getElem?_getD, List.getElem?_append_right (Nat.le_refl _), Nat.sub_self]
    rcases (by omega : j = 0 ∨ j = 1) with rfl | rfl <;> rfl
theorem qJoin_m {q : List QE} {a b : CC} {V V' : Value} : updM (updM (qM q) a.X a.Y (.v V)) b.X b.Y (.v V') = qM (qJoin q a b V V') := by
  unfold qJoin; rw [qM_set, qM_set]
def two (V V' : Value) : Nat → Nat → Value := fun _ j => if j = 0 then V else V'
def blkA (c : CC) : CC := ⟨c.X + 1, c.Y⟩
def blkD (c : CC) : CC := ⟨c.X + 1, c.Y + 1⟩
def blkE (c : CC) : CC := ⟨c.X, c.Y + 1⟩
def qBlk (q : List QE) (c : CC) (V : Nat → Value) : List QE :=
  qJoin (qJoin (qJoin (qJoin q c (blkA c) (V 0) (V 1)) (blkA c) (blkD c) (V 2) (V 3)) (blkD c) (blkE c) (V 4) (V 5)) (blkE c) c (V 6) (V 7)
theorem qJoin_get1 {q : List QE} {a b : CC} {V V' : Value} (h : ¬ (a.X = b.X ∧ a.Y = b.Y)) : qGet (qJoin q a b V V') a.X a.Y = qGet q a.X a.Y ++ [b] := by
  unfold qJoin
  rw [qGet_set_ne (fun g => h ⟨g.1.symm, g.2.symm⟩), qGet_set_eq]
theorem qJoin_get2 {q : List QE} {a b : CC} {V V' : Value} : qGet (qJoin q a b V V') b.X b.Y = qGet q b.X b.Y ++ [a] := by
  unfold qJoin
  rw [qGet_set_eq]
theorem qJoin_get {q : List QE} {a b : CC} {V V' : Value} {x y : Int} (h1 : ¬ (a.X = x ∧ a.Y = y)) (h2 : ¬ (b.X = x ∧ b.Y = y)) : qGet (qJoin q a b V V') x y = qGet q x y := by
  unfold qJoin
  rw [qGet_set_ne h2, qGet_set_ne h1]
theorem qJoin_le {q : List QE} {a b : CC} {V V' : Value} {x y : Int} {k : Nat} (hab : ¬ (a.X = b.X ∧ a.Y = b.Y)) (h : (qGet q x y).length ≤ k) : (qGet (qJoin q a b V V') x y).length ≤ k + 1 := by
  by_cases h2 : b.X = x ∧ b.Y = y
  · obtain ⟨rfl, rfl⟩ := h2
    rw [qJoin_get2, List.length_append, List.length_singleton]; omega
  · by_cases h1 : a.X = x ∧ a.Y = y
    · obtain ⟨rfl, rfl⟩ := h1
      rw [qJoin_get1 hab, List.length_append, List.length_singleton]; omega
    · rw [qJoin_get h1 h2]; omega
def twoC (l : List CC) (y : CC) : Prop := ∃ x0 x1, l = [x0, x1] ∧ (x0 = y ∨ x1 = y)
theorem bindM_upd1 {x y : Int} {u u' : SC} : ∀ (q : List QE), bindM (updM (qM q) x y u) (updM (qM q) x y u') = bindC u u'
  | [] => by simp [qM, updM, bindM]
  | e :: q => by
    have h0 := bindM_upd1 (x := x) (y := y) (u := u) (u' := u') q
    have h1 := bindM_qM q (qM q)
    unfold qM at h0 h1
    by_cases g : e.x = x ∧ e.y = y
    · simp [qM, updM, g, bindM, h1]
    · simp [qM, updM, g, bindM, h0, bindC]
theorem scM_upd1 {x y : Int} {u : SC} {m : Nat → Prop} : ∀ (q : List QE), scM m (updM (qM q) x y u) = u.sc m
  | [] => by simp [qM, updM, scM]
  | e :: q => by
    have h0 := scM_upd1 (x := x) (y := y) (u := u) (m := m) q
    have h1 := scM_qM m q
    unfold qM at h0 h1
    by_cases g : e.x = x ∧ e.y = y
    · simp [qM, updM, g, scM, h1]
    · simp [qM, updM, g, scM, h0, SC.sc]
theorem leM_upd1 {x y : Int} {u u' : SC} (b : Bnd) : ∀ (q : List QE), leM (SC.sub b) (updM (qM q) x y u) (updM (qM q) x y u') = (u = u'.sub b)
  | [] => by simp [qM, updM, leM]
  | e :: q => by
    have h0 := leM_upd1 (x := x) (y := y) (u := u) (u' := u') b q
    have h1 := leM_qM_sub b (qM q) q
    unfold qM at h0 h1
    by_cases g : e.x = x ∧ e.y = y
    · simp [qM, updM, g, leM, h1]
    · simp [qM, updM, g, leM, h0, SC.sub]
attribute [push_cast] bindM_upd1 scM_upd1 leM_upd1
theorem remC_hd' {x u : CC} {X Y : Int} (h1 : x.X = X) (h2 : x.Y = Y) : remC [x, u] ⟨X, Y⟩ = [u] := by simp [remC, h1, h2]
theorem remC_tl' {x u : CC} {X Y : Int} (h0 : ¬ (x.X = X ∧ x.Y = Y)) (h1 : u.X = X) (h2 : u.Y = Y) : remC [x, u] ⟨X, Y⟩ = [x] := by simp [remC, h0, h1, h2]
theorem ne_beq {x X y Y : Int} (h : (x == X && y == Y) = false) : ¬ (x = X ∧ y = Y) := by
  rintro ⟨rfl, rfl⟩; simp at h
theorem rowE1 (x0 x1 : CC) : rowEq 1 2 (rowF eC [x0, x1]) (rowF eC [x0]) (fun x => x) := by
  intro e j he hj
  obtain rfl : e = 0 := by omega
  rfl
theorem qHas_mono {q : List QE} {x y a b : Int} {V : Value} {L : List CC} (h : qHas q x y = true) : qHas (qSet q a b V L) x y = true := by
  by_cases g : a = x ∧ b = y
  · obtain ⟨rfl, rfl⟩ := g; exact qHas_set_eq
  · rw [qHas_set_ne g]; exact h
theorem qHas_cut {q : List QE} {a b : CC} {V V' : Value} {x y : Int} (h : qHas q x y = true) : qHas (qCut q a b V V') x y = true := qHas_mono (qHas_mono h)
theorem qCut_get {q : List QE} {a b : CC} {V V' : Value} {x y : Int} (h1 : ¬ (a.X = x ∧ a.Y = y)) (h2 : ¬ (b.X = x ∧ b.Y = y)) : qGet (qCut q a b V V') x y = qGet q x y := by
  unfold qCut
  rw [qGet_set_ne h2, qGet_set_ne h1]
theorem qCut_get1 {q : List QE} {a b : CC} {V V' : Value} (h : ¬ (a.X = b.X ∧ a.Y = b.Y)) : qGet (qCut q a b V V') a.X a.Y = remC (qGet q a.X a.Y) b := by
  unfold qCut
  rw [qGet_set_ne (fun g => h ⟨g.1.symm, g.2.symm⟩), qGet_set_eq]
theorem qCut_get2 {q : List QE} {a b : CC} {V V' : Value} : qGet (qCut q a b V V') b.X b.Y = remC (qGet q b.X b.Y) a := by
  unfold qCut
  rw [qGet_set_eq]
theorem remC_len (l : List CC) (y : CC) : (remC l y).length ≤ l.length := by
  induction l with
  | nil => simp [remC]
  | cons x l ih =>
    unfold remC
    split
    · simp
    · simp only [List.length_cons]; omega
theorem qCut_le {q : List QE} {a b : CC} {V V' : Value} {x y : Int} {k : Nat} (hab : ¬ (a.X = b.X ∧ a.Y = b.Y)) (h : (qGet q x y).length ≤ k) : (qGet (qCut q a b V V') x y).length ≤ k := by
  by_cases h2 : b.X = x ∧ b.Y = y
  · obtain ⟨rfl, rfl⟩ := h2
    rw [qCut_get2]; exact Nat.le_trans (remC_len _ _) h
  · by_cases h1 : a.X = x ∧ a.Y = y
    · obtain ⟨rfl, rfl⟩ := h1
      rw [qCut_get1 hab]; exact Nat.le_trans (remC_len _ _) h
    · rw [qCut_get h1 h2]; exact h
theorem twoC_len {l : List CC} {y : CC} (h : twoC l y) : l.length ≤ 2 := by
  obtain ⟨x0, x1, rfl, _⟩ := h; simp
def mA0 (c d : CC) : CC := if c.X = d.X then ⟨c.X, c.Y + 1⟩ else ⟨c.X + 1, c.Y⟩
def mA1 (c d : CC) : CC := ⟨c.X + 1, c.Y + 1⟩
def mB1 (c d : CC) : CC := if c.X = d.X then ⟨d.X + 1, d.Y⟩ else ⟨d.X, d.Y + 1⟩
def qMrg (q : List QE) (c d : CC) (V : Nat → Value) : List QE :=
  qJoin (qJoin (qCut (qCut q (mA0 c d) (mA1 c d) (V 0) (V 1)) d (mB1 c d) (V 2) (V 3)) (mA0 c d) d (V 4) (V 5)) (mA1 c d) (mB1 c d) (V 6) (V 7)
def mOk (q : List QE) (c d : CC) : Prop :=
  (d.X = c.X + 2 ∧ d.Y = c.Y ∨ d.X = c.X ∧ d.Y = c.Y + 2) ∧
  (qHas q (mA0 c d).X (mA0 c d).Y = true ∧ qHas q (mA1 c d).X (mA1 c d).Y = true ∧ qHas q d.X d.Y = true ∧ qHas q (mB1 c d).X (mB1 c d).Y = true) ∧
  (twoC (qGet q (mA0 c d).X (mA0 c d).Y) (mA1 c d) ∧ twoC (qGet q (mA1 c d).X (mA1 c d).Y) (mA0 c d)) ∧ twoC (qGet q d.X d.Y) (mB1 c d) ∧ twoC (qGet q (mB1 c d).X (mB1 c d).Y) d
def y45 : XFn := ⟨22, (.seq (.reg false [O1 4 (.box 26) 1, O1 5 (.box 26) 2]) (.seq (.tak 0 4 (.aft 0 4 (.reg false [O1 6 .mv 0, O1 7 (.loadN 2) 4, O1 9 (.loadN 2) 5, ⟨(some 10), (.slit 26 1 2 [(iV 0), (iV 0)] [(0, 2)]), [(.t 9)], none⟩, ⟨(some 11), (.mpe (.slice none 0 0)), [(.t 6), (.t 7)], none⟩, O1 8 (.ext 0) 11, O2 12 (.app 26 2 16) 8 10, O1 13 (.ext 1) 11, ⟨none, .mps, [(.t 6), (.t 13), (.t 12)], none⟩]))) (.tak 0 5 (.aft 0 5 (.reg false [O1 14 .mv 0, O1 15 (.loadN 2) 5, O1 17 (.loadN 2) 4, ⟨(some 18), (.slit 26 1 2 [(iV 0), (iV 0)] [(0, 2)]), [(.t 17)], none⟩, ⟨(some 19), (.mpe (.slice none 0 0)), [(.t 14), (.t 15)], none⟩, O1 16 (.ext 0) 19, O2 20 (.app 26 2 16) 16 18, O1 21 (.ext 1) 19, ⟨none, .mps, [(.t 14), (.t 21), (.t 20)], none⟩]))))), []⟩
theorem y45_ok : xfn Try.prog Try.f45 = some y45.er := by kernel_rfl
def y46L0 : XC := (.seq (.reg false [O2 27 (.bin .lss) 26 25]) (.seq (.cond (.t 27) .skip (.exit 2)) (.seq (.block 3 (.seq (.reg false [O1 28 .mv 26, O1 9 .mv 28]) (.seq (.reg true [O1 29 .mv 8, O1 30 .mv 9, O2 31 (.ixS 2) 29 30, O1 32 (.loadN 2) 31, K2 33 (.ixA 2 2) 7 (iV 1), O1 34 (.loadN 2) 33, ⟨(some 35), (.eqA false [(.i .i64), (.i .i64)]), [(.t 32), (.t 34)], none⟩]) (.cond (.t 35) (.frz 8 9 (.seq (.regD [O1 36 .mv 0, K2 37 (.ixA 2 2) 7 (iV 0), O1 38 (.loadN 2) 37, O1 39 .mv 8, O1 40 .mv 9, O1 41 .mv 9, ⟨(some 42), (.slc 2 false true true), [(.t 39), (.t 40), (.t 41)], none⟩, O1 43 .mv 8, O1 44 .mv 9, K2 45 (.bin .add) 44 (iV 1), O2 46 (.slc 2 true false false) 43 45, O2 47 (.app 26 2 16) 42 46, ⟨none, .upm, [(.t 36), (.t 38), (.t 47)], none⟩] [[], [], [1], [], [], [], [3, 4, 5], [], [], [8], [7, 9, 8], [6, 3, 4, 5, 10, 7, 9, 8], [0, 2, 1, 11, 6, 3, 4, 5, 10, 7, 9, 8]]) (.exit 2))) .skip)))) (.reg false [K2 48 (.bin .add) 26 (iV 1), O1 26 .mv 48]))))
def y46L1 : XC := (.seq (.reg false [K2 18 (.bin .lss) 17 (iV 2)]) (.seq (.cond (.t 18) .skip (.exit 0)) (.seq (.block 1 (.seq (.reg false [O2 19 (.ixN 2 4) 16 17, ⟨(some 7), (.alloc 70 [(iV 0), (iV 0), (iV 0), (iV 0)]), [], none⟩, ⟨none, (.store 4), [(.t 7), (.t 19)], none⟩]) (.tak 0 7 (.aft 0 7 (.seq (.reg false [O1 20 .mv 0, K2 21 (.ixA 2 2) 7 (iV 0), O1 22 (.loadN 2) 21, ⟨(some 23), (.x (.lookM (.slice none 0 0))), [(.t 20), (.t 22)], none⟩, O1 8 .mv 23]) (.seq (.reg false [O1 24 .mv 8, O1 25 .lenS 24, K1 26 .mv (iV 0)]) (.block 2 (.loop y46L0)))))))) (.reg false [K2 49 (.bin .add) 17 (iV 1), O1 17 .mv 49]))))
def y46 : XFn := ⟨50, (.seq (.reg false [O1 4 (.box 26) 1, O1 5 (.box 26) 2]) (.seq (.reg false [O1 10 (.loadN 2) 4, O1 11 (.loadN 2) 5, ⟨(some 12), (.build [(iV 0), (iV 0), (iV 0), (iV 0)] [(0, 2), (2, 2)]), [(.t 10), (.t 11)], none⟩, O1 13 (.loadN 2) 5, O1 14 (.loadN 2) 4, ⟨(some 15), (.build [(iV 0), (iV 0), (iV 0), (iV 0)] [(0, 2), (2, 2)]), [(.t 13), (.t 14)], none⟩, ⟨(some 16), (.build [(iV 0), (iV 0), (iV 0), (iV 0), (iV 0), (iV 0), (iV 0), (iV 0)] [(0, 4), (4, 4)]), [(.t 12), (.t 15)], none⟩, K1 17 .mv (iV 0)]) (.block 0 (.loop y46L1)))), []⟩
theorem y46_ok : xfn Try.prog Try.f46 = some y46.er := by kernel_rfl
def g45m : Con := fun args_ E_ nn_ => match args_ with
  | [.c (.n r), .a [.v (.int .i64 a_X), .v (.int .i64 a_Y)], .a [.v (.int .i64 b_X), .v (.int .i64 b_Y)]] => (match E_ r with
    | some (.mp l) => (match E_ (r + 1) with
      | some (.rin ty q []) => some (.d (l = qM q ∧ ty = 26 ∧ ¬ (a_X = b_X ∧ a_Y = b_Y) ∧ (qGet q a_X a_Y).length ≤ 4 ∧ (qGet q b_X b_Y).length ≤ 4) (.t []) (fun G_ => [(r, .mp (qM (qJoin q ⟨a_X, a_Y⟩ ⟨b_X, b_Y⟩ (G_ 0 0) (G_ 0 1)))), (r + 1, .rin 26 (qJoin q ⟨a_X, a_Y⟩ ⟨b_X, b_Y⟩ (G_ 0 0) (G_ 0 1)) [])]) (nn_ + 0))
      | _ => none)
    | _ => none)
  | _ => none
set_option maxHeartbeats 4000000 in
theorem c45m : COk Try.prog 45 g45m := by
  refine cok_g Try.func45 y45_ok (by kernel_rfl) (cok_tab cok_nil) ?_
  intro args_ E_ nn_ cr_ hg_
  unfold g45m at hg_
  split at hg_
  · rename_i r a_X a_Y b_X b_Y
    split at hg_
    · rename_i l h_r
      split at hg_
      · rename_i ty q h_q
        cases hg_
        refine ⟨_, _, _, _, rfl, 2, [r, r + 1], [.c (.n 0), .a [.v (.int .i64 a_X), .v (.int .i64 a_Y)], .a [.v (.int .i64 b_X), .v (.int .i64 b_Y)]], [(0, .mp (qM q)), (1, .rin 26 q [])], .t [], (fun G_ => [(0, .mp (qM (qJoin q ⟨a_X, a_Y⟩ ⟨b_X, b_Y⟩ (G_ 0 0) (G_ 0 1)))), (1, .rin 26 (qJoin q ⟨a_X, a_Y⟩ ⟨b_X, b_Y⟩ (G_ 0 0) (G_ 0 1)) [])]), 2, rfl, rfl, (fun _ => by simp only [renE, Ent.ren, renM_qM] <;> rfl), rfl, by decide, by simp only [push_cast, simprocAttr], by simp only [push_cast, simprocAttr], by simp only [push_cast, simprocAttr], (fun _ => by simp only [push_cast, simprocAttr]), rfl, ⟨⟨_, h_r⟩, ⟨_, h_q⟩, trivial⟩, (fun _ => by simp only [keysNodup, outN, keys] <;> decide), (fun _ => rfl), (fun _ => .inl rfl), ?_⟩
        intro hpre hlen
        obtain ⟨rfl, rfl, hpre⟩ := hpre
        refine ⟨⟨⟨_, h_r, by simp only [leE, leM_qM_ren]⟩, ⟨_, h_q, rfl, rfl, rfl⟩, trivial⟩, ?_, ?_⟩
        · refine ⟨fun _ k2 e2 hm hne => ?_, fun _ k2 e2 hm hne => ?_, trivial⟩
          · simp only [List.mem_cons, List.not_mem_nil, or_false, Prod.mk.injEq] at hm
            rcases hm with ⟨rfl, _⟩ | ⟨rfl, _⟩
            · exact absurd rfl hne
            · exact fun hh => absurd (show r + 1 = r from hh) (by omega)
          · simp only [List.mem_cons, List.not_mem_nil, or_false, Prod.mk.injEq] at hm
            rcases hm with ⟨rfl, _⟩ | ⟨rfl, _⟩
            · exact fun hh => absurd (show r = r + 1 from hh) (by omega)
            · exact absurd rfl hne
        obtain ⟨hab, la, lb⟩ := hpre
        rcases ha : qHas q a_X a_Y with _ | _ <;> rcases hb : qHas q b_X b_Y with _ | _
        · simp (config := {maxSteps := 10000000}) only [y45, push_cast, Nat.reduceAdd, Nat.reduceSub, Nat.reduceLeDiff, Nat.reduceEqDiff, Nat.reduceBEq, Nat.reduceMul, Nat.reduceLT, ↓reduceIte, reduceCtorEq, Int.reduceLE, Int.reduceLT, Int.reduceEq, Int.reduceMul, Int.reduceAdd, Int.reduceSub, Int.reduceNeg, Int.reduceToNat, Int.reduceNe, ha, hb, hab, qHas_set_ne hab, getM_upd_ne hab, qVal_set_ne hab, qGet_set_ne hab, getM_qM0 ha, getM_qM0 hb, entM_qM0 ha, entM_upd0 hab hb]
          exact ⟨idxM_lt, _, ⟨rfl, rowP1 ⟨b_X, b_Y⟩⟩, fun V => ⟨idxM_lt, _, ⟨rfl, rowP1 ⟨a_X, a_Y⟩⟩, fun V1 => ⟨two V V1, qJoin_m (a := ⟨a_X, a_Y⟩) (b := ⟨b_X, b_Y⟩), by unfold qJoin two; simp [qGet_not ha, qGet_not hb]⟩⟩⟩
        · simp (config := {maxSteps := 10000000}) only [y45, push_cast, Nat.reduceAdd, Nat.reduceSub, Nat.reduceLeDiff, Nat.reduceEqDiff, Nat.reduceBEq, Nat.reduceMul, Nat.reduceLT, ↓reduceIte, reduceCtorEq, Int.reduceLE, Int.reduceLT, Int.reduceEq, Int.reduceMul, Int.reduceAdd, Int.reduceSub, Int.reduceNeg, Int.reduceToNat, Int.reduceNe, ha, hb, hab, qHas_set_ne hab, getM_upd_ne hab, qVal_set_ne hab, qGet_set_ne hab, getM_qM0 ha, getM_qM1 hb, entM_qM0 ha]
          exact ⟨idxM_lt, _, ⟨rfl, rowP1 ⟨b_X, b_Y⟩⟩, fun V => ⟨by omega, idxM_lt, _, ⟨by omega, by simp, rowPA _ ⟨a_X, a_Y⟩⟩, fun V1 => ⟨two V V1, qJoin_m (a := ⟨a_X, a_Y⟩) (b := ⟨b_X, b_Y⟩), by unfold qJoin two; simp [qGet_not ha]⟩⟩⟩
        · simp (config := {maxSteps := 10000000}) only [y45, push_cast, Nat.reduceAdd, Nat.reduceSub, Nat.reduceLeDiff, Nat.reduceEqDiff, Nat.reduceBEq, Nat.reduceMul, Nat.reduceLT, ↓reduceIte, reduceCtorEq, Int.reduceLE, Int.reduceLT, Int.reduceEq, Int.reduceMul, Int.reduceAdd, Int.reduceSub, Int.reduceNeg, Int.reduceToNat, Int.reduceNe, ha, hb, hab, qHas_set_ne hab, getM_upd_ne hab, qVal_set_ne hab, qGet_set_ne hab, getM_qM1 ha, getM_qM0 hb, entM_upd0 hab hb]
          exact ⟨by omega, idxM_lt, _, ⟨by omega, by simp, rowPA _ ⟨b_X, b_Y⟩⟩, fun V => ⟨idxM_lt, _, ⟨rfl, rowP1 ⟨a_X, a_Y⟩⟩, fun V1 => ⟨two V V1, qJoin_m (a := ⟨a_X, a_Y⟩) (b := ⟨b_X, b_Y⟩), by unfold qJoin two; simp [qGet_not hb]⟩⟩⟩
        · simp (config := {maxSteps := 10000000}) only [y45, push_cast, Nat.reduceAdd, Nat.reduceSub, Nat.reduceLeDiff, Nat.reduceEqDiff, Nat.reduceBEq, Nat.reduceMul, Nat.reduceLT, ↓reduceIte, reduceCtorEq, Int.reduceLE, Int.reduceLT, Int.reduceEq, Int.reduceMul, Int.reduceAdd, Int.reduceSub, Int.reduceNeg, Int.reduceToNat, Int.reduceNe, ha, hb, hab, qHas_set_ne hab, getM_upd_ne hab, qVal_set_ne hab, qGet_set_ne hab, getM_qM1 ha, getM_qM1 hb]
          exact ⟨by omega, idxM_lt, _, ⟨by omega, by simp, rowPA _ ⟨b_X, b_Y⟩⟩, fun V => ⟨by omega, idxM_lt, _, ⟨by omega, by simp, rowPA _ ⟨a_X, a_Y⟩⟩, fun V1 => ⟨two V V1, qJoin_m (a := ⟨a_X, a_Y⟩) (b := ⟨b_X, b_Y⟩), by unfold qJoin two; simp⟩⟩⟩
      · cases hg_
    · cases hg_
  · cases hg_
def y39 : XFn := ⟨44, (.seq (.reg false [O1 3 (.box 26) 1]) (.seq (.regD [O1 8 (.loadN 2) 3, O1 9 (.fld 0) 3, O1 10 .load1 9, K2 11 (.bin .add) 10 (iV 1), O1 12 (.fld 1) 3, O1 13 .load1 12, ⟨(some 14), (.build [(iV 0), (iV 0)] [(0, 1), (1, 1)]), [(.t 11), (.t 13)], none⟩, O1 15 (.fld 0) 3, O1 16 .load1 15, K2 17 (.bin .add) 16 (iV 1), O1 18 (.fld 1) 3, O1 19 .load1 18, K2 20 (.bin .add) 19 (iV 1), ⟨(some 21), (.build [(iV 0), (iV 0)] [(0, 1), (1, 1)]), [(.t 17), (.t 20)], none⟩, O1 22 (.fld 0) 3, O1 23 .load1 22, O1 24 (.fld 1) 3, O1 25 .load1 24, K2 26 (.bin .add) 25 (iV 1), ⟨(some 27), (.build [(iV 0), (iV 0)] [(0, 1), (1, 1)]), [(.t 23), (.t 26)], none⟩, ⟨(some 4), (.alloc 26 [(iV 0), (iV 0)]), [], none⟩, ⟨(some 5), (.alloc 26 [(iV 0), (iV 0)]), [], none⟩, ⟨(some 6), (.alloc 26 [(iV 0), (iV 0)]), [], none⟩, ⟨(some 7), (.alloc 26 [(iV 0), (iV 0)]), [], none⟩, ⟨none, (.store 2), [(.t 4), (.t 8)], none⟩, ⟨none, (.store 2), [(.t 5), (.t 14)], none⟩, ⟨none, (.store 2), [(.t 6), (.t 21)], none⟩, ⟨none, (.store 2), [(.t 7), (.t 27)], none⟩] [[], [], [1], [2, 1], [], [4], [3, 2, 1, 5, 4], [], [7], [8, 7], [], [10], [11, 10], [9, 8, 7, 12, 11, 10], [], [14], [], [16], [17, 16], [15, 14, 18, 17, 16], [], [], [], [], [20, 0, 21, 22, 23], [21, 6, 3, 2, 1, 5, 4, 24, 20, 0, 22, 23], [22, 13, 9, 8, 7, 12, 11, 10, 25, 21, 6, 3, 2, 1, 5, 4, 24, 20, 0, 23], [23, 19, 15, 14, 18, 17, 16, 26, 22, 13, 9, 8, 7, 12, 11, 10, 25, 21, 6, 3, 2, 1, 5, 4, 24, 20, 0]]) (.seq (.reg false [O1 28 .mv 0, O1 29 (.loadN 2) 4, O1 30 (.loadN 2) 5, ⟨(some 31), (.call 45), [(.t 28), (.t 29), (.t 30)], none⟩]) (.seq (.reg false [O1 32 .mv 0, O1 33 (.loadN 2) 5, O1 34 (.loadN 2) 6, ⟨(some 35), (.call 45), [(.t 32), (.t 33), (.t 34)], none⟩]) (.seq (.reg false [O1 36 .mv 0, O1 37 (.loadN 2) 6, O1 38 (.loadN 2) 7, ⟨(some 39), (.call 45), [(.t 36), (.t 37), (.t 38)], none⟩]) (.reg false [O1 40 .mv 0, O1 41 (.loadN 2) 7, O1 42 (.loadN 2) 4, ⟨(some 43), (.call 45), [(.t 40), (.t 41), (.t 42)], none⟩])))))), []⟩
theorem y39_ok : xfn Try.prog Try.f39 = some y39.er := by kernel_rfl
def g39m : Con := fun args_ E_ nn_ => match args_ with
  | [.c (.n r), .a [.v (.int .i64 c_X), .v (.int .i64 c_Y)]] => (match E_ r with
    | some (.mp l) => (match E_ (r + 1) with
      | some (.rin ty q []) => some (.d (l = qM q ∧ ty = 26 ∧ (0 ≤ c_X ∧ c_X ≤ 100000) ∧ (0 ≤ c_Y ∧ c_Y ≤ 100000) ∧ qGet q c_X c_Y = [] ∧ qGet q (c_X + 1) c_Y = [] ∧ qGet q (c_X + 1) (c_Y + 1) = [] ∧ qGet q c_X (c_Y + 1) = []) (.t []) (fun G_ => [(r, .mp (qM (qBlk q ⟨c_X, c_Y⟩ (G_ 0)))), (r + 1, .rin 26 (qBlk q ⟨c_X, c_Y⟩ (G_ 0)) [])]) (nn_ + 0))
      | _ => none)
    | _ => none)
  | _ => none
set_option maxHeartbeats 4000000 in
theorem c39m : COk Try.prog 39 g39m := by
  refine cok_g Try.func39 y39_ok (by kernel_rfl) (cok_tab (cok_cons c45m cok_nil)) ?_
  intro args_ E_ nn_ cr_ hg_
  unfold g39m at hg_
  split at hg_
  · rename_i r c_X c_Y
    split at hg_
    · rename_i l h_r
      split at hg_
      · rename_i ty q h_q
        cases hg_
        refine ⟨_, _, _, _, rfl, 2, [r, r + 1], [.c (.n 0), .a [.v (.int .i64 c_X), .v (.int .i64 c_Y)]], [(0, .mp (qM q)), (1, .rin 26 q [])], .t [], (fun G_ => [(0, .mp (qM (qBlk q ⟨c_X, c_Y⟩ (G_ 0)))), (1, .rin 26 (qBlk q ⟨c_X, c_Y⟩ (G_ 0)) [])]), 2, rfl, rfl, (fun _ => by simp only [renE, Ent.ren, renM_qM] <;> rfl), rfl, by decide, by simp only [push_cast, simprocAttr], by simp only [push_cast, simprocAttr], by simp only [push_cast, simprocAttr], (fun _ => by simp only [push_cast, simprocAttr]), rfl, ⟨⟨_, h_r⟩, ⟨_, h_q⟩, trivial⟩, (fun _ => by simp only [keysNodup, outN, keys] <;> decide), (fun _ => rfl), (fun _ => .inl rfl), ?_⟩
        intro hpre hlen
        obtain ⟨rfl, rfl, hpre⟩ := hpre
        refine ⟨⟨⟨_, h_r, by simp only [leE, leM_qM_ren]⟩, ⟨_, h_q, rfl, rfl, rfl⟩, trivial⟩, ?_, ?_⟩
        · refine ⟨fun _ k2 e2 hm hne => ?_, fun _ k2 e2 hm hne => ?_, trivial⟩
          · simp only [List.mem_cons, List.not_mem_nil, or_false, Prod.mk.injEq] at hm
            rcases hm with ⟨rfl, _⟩ | ⟨rfl, _⟩
            · exact absurd rfl hne
            · exact fun hh => absurd (show r + 1 = r from hh) (by omega)
          · simp only [List.mem_cons, List.not_mem_nil, or_false, Prod.mk.injEq] at hm
            rcases hm with ⟨rfl, _⟩ | ⟨rfl, _⟩
            · exact fun hh => absurd (show r = r + 1 from hh) (by omega)
            · exact absurd rfl hne
        obtain ⟨hx, hy, e1, e2, e3, e4⟩ := hpre
        have w1 : IntKind.i64.wrap (c_X + 1) = c_X + 1 := wrapI (by omega) (by omega)
        have w2 : IntKind.i64.wrap (c_Y + 1) = c_Y + 1 := wrapI (by omega) (by omega)
        have zz : ∀ n : Nat, (n + 1 = 0) = False := fun n => by simp
        simp (config := {maxSteps := 10000000}) only [y39, push_cast, Nat.reduceAdd, Nat.reduceSub, Nat.reduceLeDiff, Nat.reduceEqDiff, Nat.reduceBEq, Nat.reduceMul, Nat.reduceLT, ↓reduceIte, reduceCtorEq, Int.reduceLE, Int.reduceLT, Int.reduceEq, Int.reduceMul, Int.reduceAdd, Int.reduceSub, Int.reduceNeg, Int.reduceToNat, Int.reduceNe, g45m, w1, w2, e1, e2, e3, e4, zz]
        refine ⟨by rfl, by omega, fun G => ⟨⟨by omega, ?_, ?_⟩, fun G1 => ⟨⟨by omega, ?_, ?_⟩, fun G2 => ⟨⟨by omega, ?_, ?_⟩, fun G3 => ⟨fun _ j => if j < 2 then G 0 j else if j < 4 then G1 0 (j - 2) else if j < 6 then G2 0 (j - 4) else G3 0 (j - 6), rfl, rfl⟩⟩⟩⟩⟩
        all_goals (repeat (refine qJoin_le (by simp only; omega) ?_))
        all_goals simp [e1, e2, e3, e4]
      · cases hg_
    · cases hg_
  · cases hg_
def g46m : Con := fun args_ E_ nn_ => match args_ with
  | [.c (.n r), .a [.v (.int .i64 a_X), .v (.int .i64 a_Y)], .a [.v (.int .i64 b_X), .v (.int .i64 b_Y)]] => (match E_ r with
    | some (.mp l) => (match E_ (r + 1) with
      | some (.rin ty q []) => some (.d (l = qM q ∧ ty = 26 ∧ ¬ (a_X = b_X ∧ a_Y = b_Y) ∧ qHas q a_X a_Y = true ∧ qHas q b_X b_Y = true ∧ twoC (qGet q a_X a_Y) ⟨b_X, b_Y⟩ ∧ twoC (qGet q b_X b_Y) ⟨a_X, a_Y⟩) (.t []) (fun G_ => [(r, .mp (qM (qCut q ⟨a_X, a_Y⟩ ⟨b_X, b_Y⟩ (G_ 0 0) (G_ 0 1)))), (r + 1, .rin 26 (qCut q ⟨a_X, a_Y⟩ ⟨b_X, b_Y⟩ (G_ 0 0) (G_ 0 1)) [])]) (nn_ + 0))
      | _ => none)
    | _ => none)
  | _ => none
set_option maxHeartbeats 4000000 in
theorem c46m : COk Try.prog 46 g46m := by
  refine cok_g Try.func46 y46_ok (by kernel_rfl) (cok_tab cok_nil) ?_
  intro args_ E_ nn_ cr_ hg_
  unfold g46m at hg_
  split at hg_
  · rename_i r a_X a_Y b_X b_Y
    split at hg_
    · rename_i l h_r
      split at hg_
      · rename_i ty q h_q
        cases hg_
        refine ⟨_, _, _, _, rfl, 2, [r, r + 1], [.c (.n 0), .a [.v (.int .i64 a_X), .v (.int .i64 a_Y)], .a [.v (.int .i64 b_X), .v (.int .i64 b_Y)]], [(0, .mp (qM q)), (1, .rin 26 q [])], .t [], (fun G_ => [(0, .mp (qM (qCut q ⟨a_X, a_Y⟩ ⟨b_X, b_Y⟩ (G_ 0 0) (G_ 0 1)))), (1, .rin 26 (qCut q ⟨a_X, a_Y⟩ ⟨b_X, b_Y⟩ (G_ 0 0) (G_ 0 1)) [])]), 2, rfl, rfl, (fun _ => by simp only [renE, Ent.ren, renM_qM] <;> rfl), rfl, by decide, by simp only [push_cast, simprocAttr], by simp only [push_cast, simprocAttr], by simp only [push_cast, simprocAttr], (fun _ => by simp only [push_cast, simprocAttr]), rfl, ⟨⟨_, h_r⟩, ⟨_, h_q⟩, trivial⟩, (fun _ => by simp only [keysNodup, outN, keys] <;> decide), (fun _ => rfl), (fun _ => .inl rfl), ?_⟩
        intro hpre hlen
        obtain ⟨rfl, rfl, hpre⟩ := hpre
        refine ⟨⟨⟨_, h_r, by simp only [leE, leM_qM_ren]⟩, ⟨_, h_q, rfl, rfl, rfl⟩, trivial⟩, ?_, ?_⟩
        · refine ⟨fun _ k2 e2 hm hne => ?_, fun _ k2 e2 hm hne => ?_, trivial⟩
          · simp only [List.mem_cons, List.not_mem_nil, or_false, Prod.mk.injEq] at hm
            rcases hm with ⟨rfl, _⟩ | ⟨rfl, _⟩
            · exact absurd rfl hne
            · exact fun hh => absurd (show r + 1 = r from hh) (by omega)
          · simp only [List.mem_cons, List.not_mem_nil, or_false, Prod.mk.injEq] at hm
            rcases hm with ⟨rfl, _⟩ | ⟨rfl, _⟩
            · exact fun hh => absurd (show r = r + 1 from hh) (by omega)
            · exact absurd rfl hne
        obtain ⟨hab, pa, pb, ta, tb⟩ := hpre
        have wr1 : IntKind.i64.wrap 1 = 1 := by decide
        have wr2 : IntKind.i64.wrap 2 = 2 := by decide
        simp (config := {maxSteps := 10000000}) only [y46, push_cast, Nat.reduceAdd, Nat.reduceSub, Nat.reduceLeDiff, Nat.reduceEqDiff, Nat.reduceBEq, Nat.reduceMul, Nat.reduceLT, ↓reduceIte, reduceCtorEq, Int.reduceLE, Int.reduceLT, Int.reduceEq, Int.reduceMul, Int.reduceAdd, Int.reduceSub, Int.reduceNeg, Int.reduceToNat, Int.reduceNe]
        refine vcLoop_upd (α := {s : Nat × List QE // s.1 ≤ 2 ∧ (s.1 = 0 → s.2 = q) ∧ (s.1 = 1 → ∃ V, s.2 = qSet q a_X a_Y V (remC (qGet q a_X a_Y) ⟨b_X, b_Y⟩)) ∧ (s.1 = 2 → ∃ V V', s.2 = qCut q ⟨a_X, a_Y⟩ ⟨b_X, b_Y⟩ V V')}) [0, 16] 0 (fun s => [(17, .o (.c (.v (.int .i64 (s.1.1 : Nat)))))]) (fun s => [(0, .mp (qM s.1.2)), (1, .rin 26 s.1.2 [])]) (fun s => 2 - s.1.1) ⟨(0, q), by omega, fun _ => rfl, nofun, nofun⟩ ?_ ?_
        · simp only [push_cast, Nat.reduceAdd, Nat.reduceSub, Nat.reduceLeDiff, Nat.reduceEqDiff, Nat.reduceBEq, Nat.reduceMul, Nat.reduceLT, ↓reduceIte, reduceCtorEq, Int.reduceLE, Int.reduceLT, Int.reduceEq, Int.reduceMul, Int.reduceAdd, Int.reduceSub, Int.reduceNeg, Int.reduceToNat, Int.reduceNe]
        rintro ⟨⟨i, Q⟩, hi, i0, i1, i2⟩
        simp only at hi i0 i1 i2
        rcases (by omega : i = 0 ∨ i = 1 ∨ i = 2) with rfl | rfl | rfl
        · obtain rfl := i0 rfl
          have hQ := pa
          obtain ⟨x0, x1, e, gx⟩ := ta
          have gQ := e
          simp (config := {maxSteps := 10000000}) only [y46L1, push_cast, Nat.reduceAdd, Nat.reduceSub, Nat.reduceLeDiff, Nat.reduceEqDiff, Nat.reduceBEq, Nat.reduceMul, Nat.reduceLT, ↓reduceIte, reduceCtorEq, Int.reduceLE, Int.reduceLT, Int.reduceEq, Int.reduceMul, Int.reduceAdd, Int.reduceSub, Int.reduceNeg, Int.reduceToNat, Int.reduceNe, hQ, gQ, getM_qM1 hQ]
          refine vcLoop_upd (α := {j : Nat // j ≤ 1 ∧ (j = 1 → ¬ (x0.X = b_X ∧ x0.Y = b_Y))}) [0, 7, 8, 16, 17, 25] 0 (fun s => [(26, .o (.c (.v (.int .i64 (s.1 : Nat)))))]) (fun s => []) (fun s => 1 - s.1) ⟨0, by omega, nofun⟩ ?_ ?_
          · simp only [push_cast, Nat.reduceAdd, Nat.reduceSub, Nat.reduceLeDiff, Nat.reduceEqDiff, Nat.reduceBEq, Nat.reduceMul, Nat.reduceLT, ↓reduceIte, reduceCtorEq, Int.reduceLE, Int.reduceLT, Int.reduceEq, Int.reduceMul, Int.reduceAdd, Int.reduceSub, Int.reduceNeg, Int.reduceToNat, Int.reduceNe]
          rintro ⟨j, hj, hn⟩
          rcases (by omega : j = 0 ∨ j = 1) with rfl | rfl
          · simp (config := {maxSteps := 10000000}) only [y46L0, push_cast, Nat.reduceAdd, Nat.reduceSub, Nat.reduceLeDiff, Nat.reduceEqDiff, Nat.reduceBEq, Nat.reduceMul, Nat.reduceLT, ↓reduceIte, reduceCtorEq, Int.reduceLE, Int.reduceLT, Int.reduceEq, Int.reduceMul, Int.reduceAdd, Int.reduceSub, Int.reduceNeg, Int.reduceToNat, Int.reduceNe, hQ, gQ, getM_qM1 hQ, wr1, wr2, shF_drop, List.drop_succ_cons, List.drop_zero]
            exact ⟨fun f1 f2 => ⟨by rfl, [x1], ⟨rfl, fun e j _ _ => rfl⟩, fun V => ⟨⟨(1, qSet Q a_X a_Y V [x1]), by omega, nofun, fun _ => ⟨V, by rw [e, remC_hd' f1 f2]⟩, nofun⟩, ⟨rfl, qM_set.symm, rfl⟩, by simp only; omega⟩⟩, fun f => ⟨⟨1, by omega, fun _ => ne_beq f⟩, rfl, by simp only; omega⟩⟩
          · simp (config := {maxSteps := 10000000}) only [y46L0, push_cast, Nat.reduceAdd, Nat.reduceSub, Nat.reduceLeDiff, Nat.reduceEqDiff, Nat.reduceBEq, Nat.reduceMul, Nat.reduceLT, ↓reduceIte, reduceCtorEq, Int.reduceLE, Int.reduceLT, Int.reduceEq, Int.reduceMul, Int.reduceAdd, Int.reduceSub, Int.reduceNeg, Int.reduceToNat, Int.reduceNe, hQ, gQ, getM_qM1 hQ, wr1, wr2, shF_drop, List.drop_succ_cons, List.drop_zero]
            refine ⟨fun f1 f2 => ⟨by rfl, [x0], ⟨rfl, rowE1 x0 x1⟩, fun V => ⟨⟨(1, qSet Q a_X a_Y V [x0]), by omega, nofun, fun _ => ⟨V, by rw [e, remC_tl' (hn rfl) f1 f2]⟩, nofun⟩, ⟨rfl, qM_set.symm, rfl⟩, by simp only; omega⟩⟩, fun f => ?_⟩
            have f' := ne_beq f
            rcases gx with rfl | rfl
            · exact absurd ⟨rfl, rfl⟩ (hn rfl)
            · exact absurd ⟨rfl, rfl⟩ f'
        · obtain ⟨V0, hQ0⟩ := i1 rfl
          obtain ⟨x0, x1, e, gx⟩ := tb
          have hQ : qHas Q b_X b_Y = true := by rw [hQ0, qHas_set_ne hab]; exact pb
          have gQ : qGet Q b_X b_Y = [x0, x1] := by rw [hQ0, qGet_set_ne hab]; exact e
          simp (config := {maxSteps := 10000000}) only [y46L1, push_cast, Nat.reduceAdd, Nat.reduceSub, Nat.reduceLeDiff, Nat.reduceEqDiff, Nat.reduceBEq, Nat.reduceMul, Nat.reduceLT, ↓reduceIte, reduceCtorEq, Int.reduceLE, Int.reduceLT, Int.reduceEq, Int.reduceMul, Int.reduceAdd, Int.reduceSub, Int.reduceNeg, Int.reduceToNat, Int.reduceNe, hQ, gQ, getM_qM1 hQ]
          refine vcLoop_upd (α := {j : Nat // j ≤ 1 ∧ (j = 1 → ¬ (x0.X = a_X ∧ x0.Y = a_Y))}) [0, 7, 8, 16, 17, 25] 0 (fun s => [(26, .o (.c (.v (.int .i64 (s.1 : Nat)))))]) (fun s => []) (fun s => 1 - s.1) ⟨0, by omega, nofun⟩ ?_ ?_
          · simp only [push_cast, Nat.reduceAdd, Nat.reduceSub, Nat.reduceLeDiff, Nat.reduceEqDiff, Nat.reduceBEq, Nat.reduceMul, Nat.reduceLT, ↓reduceIte, reduceCtorEq, Int.reduceLE, Int.reduceLT, Int.reduceEq, Int.reduceMul, Int.reduceAdd, Int.reduceSub, Int.reduceNeg, Int.reduceToNat, Int.reduceNe]
          rintro ⟨j, hj, hn⟩
          rcases (by omega : j = 0 ∨ j = 1) with rfl | rfl
          · simp (config := {maxSteps := 10000000}) only [y46L0, push_cast, Nat.reduceAdd, Nat.reduceSub, Nat.reduceLeDiff, Nat.reduceEqDiff, Nat.reduceBEq, Nat.reduceMul, Nat.reduceLT, ↓reduceIte, reduceCtorEq, Int.reduceLE, Int.reduceLT, Int.reduceEq, Int.reduceMul, Int.reduceAdd, Int.reduceSub, Int.reduceNeg, Int.reduceToNat, Int.reduceNe, hQ, gQ, getM_qM1 hQ, wr1, wr2, shF_drop, List.drop_succ_cons, List.drop_zero]
            exact ⟨fun f1 f2 => ⟨by rfl, [x1], ⟨rfl, fun e j _ _ => rfl⟩, fun V => ⟨⟨(2, qSet Q b_X b_Y V [x1]), by omega, nofun, nofun, fun _ => ⟨V0, V, by rw [hQ0]; unfold qCut; rw [e, remC_hd' f1 f2]⟩⟩, ⟨rfl, qM_set.symm, rfl⟩, by simp only; omega⟩⟩, fun f => ⟨⟨1, by omega, fun _ => ne_beq f⟩, rfl, by simp only; omega⟩⟩
          · simp (config := {maxSteps := 10000000}) only [y46L0, push_cast, Nat.reduceAdd, Nat.reduceSub, Nat.reduceLeDiff, Nat.reduceEqDiff, Nat.reduceBEq, Nat.reduceMul, Nat.reduceLT, ↓reduceIte, reduceCtorEq, Int.reduceLE, Int.reduceLT, Int.reduceEq, Int.reduceMul, Int.reduceAdd, Int.reduceSub, Int.reduceNeg, Int.reduceToNat, Int.reduceNe, hQ, gQ, getM_qM1 hQ, wr1, wr2, shF_drop, List.drop_succ_cons, List.drop_zero]
            refine ⟨fun f1 f2 => ⟨by rfl, [x0], ⟨rfl, rowE1 x0 x1⟩, fun V => ⟨⟨(2, qSet Q b_X b_Y V [x0]), by omega, nofun, nofun, fun _ => ⟨V0, V, by rw [hQ0]; unfold qCut; rw [e, remC_tl' (hn rfl) f1 f2]⟩⟩, ⟨rfl, qM_set.symm, rfl⟩, by simp only; omega⟩⟩, fun f => ?_⟩
            have f' := ne_beq f
            rcases gx with rfl | rfl
            · exact absurd ⟨rfl, rfl⟩ (hn rfl)
            · exact absurd ⟨rfl, rfl⟩ f'
        · simp only [y46L1, push_cast, Nat.reduceAdd, Nat.reduceSub, Nat.reduceLeDiff, Nat.reduceEqDiff, Nat.reduceBEq, Nat.reduceMul, Nat.reduceLT, ↓reduceIte, reduceCtorEq, Int.reduceLE, Int.reduceLT, Int.reduceEq, Int.reduceMul, Int.reduceAdd, Int.reduceSub, Int.reduceNeg, Int.reduceToNat, Int.reduceNe]
          obtain ⟨V, V', rfl⟩ := i2 rfl
          exact ⟨two V V', rfl, rfl⟩
      · cases hg_
    · cases hg_
  · cases hg_
end Go.Proofs.Ytnkkhmeojifckaa
namespace Go.Proofs.Ytnkkhmeojifckaa
open Go.Sx
def x40 : XFn := ⟨70, (.seq (.reg false [O1 4 (.box 26) 1, O1 5 (.box 26) 2]) (.seq (.regD [O1 10 (.fld 0) 4, O1 11 .load1 10, K2 12 (.bin .add) 11 (iV 1), O1 13 (.fld 1) 4, O1 14 .load1 13, ⟨(some 15), (.build [(iV 0), (iV 0)] [(0, 1), (1, 1)]), [(.t 12), (.t 14)], none⟩, O1 16 (.fld 0) 4, O1 17 .load1 16, K2 18 (.bin .add) 17 (iV 1), O1 19 (.fld 1) 4, O1 20 .load1 19, K2 21 (.bin .add) 20 (iV 1), ⟨(some 22), (.build [(iV 0), (iV 0)] [(0, 1), (1, 1)]), [(.t 18), (.t 21)], none⟩, ⟨(some 6), (.alloc 26 [(iV 0), (iV 0)]), [], none⟩, ⟨(some 7), (.alloc 26 [(iV 0), (iV 0)]), [], none⟩, ⟨none, (.store 2), [(.t 6), (.t 15)], none⟩, ⟨none, (.store 2), [(.t 7), (.t 22)], none⟩] [[], [0], [1, 0], [], [3], [2, 1, 0, 4, 3], [], [6], [7, 6], [], [9], [10, 9], [8, 7, 6, 11, 10, 9], [], [], [13, 5, 2, 1, 0, 4, 3, 14], [14, 12, 8, 7, 6, 11, 10, 9, 15, 13, 5, 2, 1, 0, 4, 3]]) (.seq (.regD [O1 23 (.loadN 2) 5, O1 24 (.fld 0) 5, O1 25 .load1 24, O1 26 (.fld 1) 5, O1 27 .load1 26, K2 28 (.bin .add) 27 (iV 1), ⟨(some 29), (.build [(iV 0), (iV 0)] [(0, 1), (1, 1)]), [(.t 25), (.t 28)], none⟩, ⟨(some 8), (.alloc 26 [(iV 0), (iV 0)]), [], none⟩, ⟨(some 9), (.alloc 26 [(iV 0), (iV 0)]), [], none⟩, ⟨none, (.store 2), [(.t 8), (.t 23)], none⟩, ⟨none, (.store 2), [(.t 9), (.t 29)], none⟩] [[], [], [1], [], [3], [4, 3], [2, 1, 5, 4, 3], [], [], [7, 0, 8], [8, 6, 2, 1, 5, 4, 3, 9, 7, 0]]) (.seq (.seq (.reg false [O1 30 (.fld 0) 4, O1 31 .load1 30, O1 32 (.fld 0) 5, O1 33 .load1 32, O2 34 (.bin .eql) 31 33]) (.cond (.t 34) (.seq (.regD [O1 35 (.fld 0) 4, O1 36 .load1 35, O1 37 (.fld 1) 4, O1 38 .load1 37, K2 39 (.bin .add) 38 (iV 1), ⟨(some 40), (.build [(iV 0), (iV 0)] [(0, 1), (1, 1)]), [(.t 36), (.t 39)], none⟩, O1 41 (.fld 0) 4, O1 42 .load1 41, K2 43 (.bin .add) 42 (iV 1), O1 44 (.fld 1) 4, O1 45 .load1 44, K2 46 (.bin .add) 45 (iV 1), ⟨(some 47), (.build [(iV 0), (iV 0)] [(0, 1), (1, 1)]), [(.t 43), (.t 46)], none⟩, ⟨none, (.store 2), [(.t 6), (.t 40)], none⟩, ⟨none, (.store 2), [(.t 7), (.t 47)], none⟩] [[], [0], [], [2], [3, 2], [1, 0, 4, 3, 2], [], [6], [7, 6], [], [9], [10, 9], [8, 7, 6, 11, 10, 9], [5, 1, 0, 4, 3, 2], [12, 8, 7, 6, 11, 10, 9, 13, 5, 1, 0, 4, 3, 2]]) (.reg false [O1 48 (.fld 0) 5, O1 49 .load1 48, K2 50 (.bin .add) 49 (iV 1), O1 51 (.fld 1) 5, O1 52 .load1 51, ⟨(some 53), (.build [(iV 0), (iV 0)] [(0, 1), (1, 1)]), [(.t 50), (.t 52)], none⟩, ⟨none, (.store 2), [(.t 9), (.t 53)], none⟩])) .skip)) (.seq (.reg false [O1 54 .mv 0, O1 55 (.loadN 2) 6, O1 56 (.loadN 2) 7, ⟨(some 57), (.call 46), [(.t 54), (.t 55), (.t 56)], none⟩]) (.seq (.reg false [O1 58 .mv 0, O1 59 (.loadN 2) 8, O1 60 (.loadN 2) 9, ⟨(some 61), (.call 46), [(.t 58), (.t 59), (.t 60)], none⟩]) (.seq (.reg false [O1 62 .mv 0, O1 63 (.loadN 2) 6, O1 64 (.loadN 2) 8, ⟨(some 65), (.call 45), [(.t 62), (.t 63), (.t 64)], none⟩]) (.reg false [O1 66 .mv 0, O1 67 (.loadN 2) 7, O1 68 (.loadN 2) 9, ⟨(some 69), (.call 45), [(.t 66), (.t 67), (.t 68)], none⟩])))))))), []⟩
theorem x40_ok : xfn Try.prog Try.f40 = some x40.er := by kernel_rfl
def g40m : Con := fun args_ E_ nn_ => match args_ with
  | [.c (.n r), .a [.v (.int .i64 c_X), .v (.int .i64 c_Y)], .a [.v (.int .i64 d_X), .v (.int .i64 d_Y)]] => (match E_ r with
    | some (.mp l) => (match E_ (r + 1) with
      | some (.rin ty q []) => some (.d (l = qM q ∧ ty = 26 ∧ (0 ≤ c_X ∧ c_X ≤ 100000) ∧ (0 ≤ c_Y ∧ c_Y ≤ 100000) ∧ mOk q ⟨c_X, c_Y⟩ ⟨d_X, d_Y⟩) (.t []) (fun G_ => [(r, .mp (qM (qMrg q ⟨c_X, c_Y⟩ ⟨d_X, d_Y⟩ (G_ 0)))), (r + 1, .rin 26 (qMrg q ⟨c_X, c_Y⟩ ⟨d_X, d_Y⟩ (G_ 0)) [])]) (nn_ + 0))
      | _ => none)
    | _ => none)
  | _ => none
set_option maxHeartbeats 4000000 in
theorem c40m : COk Try.prog 40 g40m := by
  refine cok_g Try.func40 x40_ok (by kernel_rfl) (cok_tab (cok_cons c45m (cok_cons c46m cok_nil))) ?_
  intro args_ E_ nn_ cr_ hg_
  unfold g40m at hg_
  split at hg_
  · rename_i r c_X c_Y d_X d_Y
    split at hg_
    · rename_i l h_r
      split at hg_
      · rename_i ty q h_q
        cases hg_
        refine ⟨_, _, _, _, rfl, 2, [r, r + 1], [.c (.n 0), .a [.v (.int .i64 c_X), .v (.int .i64 c_Y)], .a [.v (.int .i64 d_X), .v (.int .i64 d_Y)]], [(0, .mp (qM q)), (1, .rin 26 q [])], .t [], (fun G_ => [(0, .mp (qM (qMrg q ⟨c_X, c_Y⟩ ⟨d_X, d_Y⟩ (G_ 0)))), (1, .rin 26 (qMrg q ⟨c_X, c_Y⟩ ⟨d_X, d_Y⟩ (G_ 0)) [])]), 2, rfl, rfl, (fun _ => by simp only [renE, Ent.ren, renM_qM] <;> rfl), rfl, by decide, by simp only [push_cast, simprocAttr], by simp only [push_cast, simprocAttr], by simp only [push_cast, simprocAttr], (fun _ => by simp only [push_cast, simprocAttr]), rfl, ⟨⟨_, h_r⟩, ⟨_, h_q⟩, trivial⟩, (fun _ => by simp only [keysNodup, outN, keys] <;> decide), (fun _ => rfl), (fun _ => .inl rfl), ?_⟩
        intro hpre hlen
        obtain ⟨rfl, rfl, hpre⟩ := hpre
        refine ⟨⟨⟨_, h_r, by simp only [leE, leM_qM_ren]⟩, ⟨_, h_q, rfl, rfl, rfl⟩, trivial⟩, ?_, ?_⟩
        · refine ⟨fun _ k2 e2 hm hne => ?_, fun _ k2 e2 hm hne => ?_, trivial⟩
          · simp only [List.mem_cons, List.not_mem_nil, or_false, Prod.mk.injEq] at hm
            rcases hm with ⟨rfl, _⟩ | ⟨rfl, _⟩
            · exact absurd rfl hne
            · exact fun hh => absurd (show r + 1 = r from hh) (by omega)
          · simp only [List.mem_cons, List.not_mem_nil, or_false, Prod.mk.injEq] at hm
            rcases hm with ⟨rfl, _⟩ | ⟨rfl, _⟩
            · exact fun hh => absurd (show r = r + 1 from hh) (by omega)
            · exact absurd rfl hne
        obtain ⟨hx, hy, hd, hh, ht, tb, tb'⟩ := hpre
        simp only at hd
        have w1 : IntKind.i64.wrap (c_X + 1) = c_X + 1 := wrapI (by omega) (by omega)
        have w2 : IntKind.i64.wrap (c_Y + 1) = c_Y + 1 := wrapI (by omega) (by omega)
        have w3 : IntKind.i64.wrap (d_X + 1) = d_X + 1 := wrapI (by omega) (by omega)
        have w4 : IntKind.i64.wrap (d_Y + 1) = d_Y + 1 := wrapI (by omega) (by omega)
        obtain ⟨h1, h2, h3, h4⟩ := hh
        obtain ⟨ta, ta'⟩ := ht
        rcases hd with ⟨hdX, hdY⟩ | ⟨hdX, hdY⟩
        · have ne : (c_X = d_X) = False := eq_false (by omega)
          have m0 : mA0 ⟨c_X, c_Y⟩ ⟨d_X, d_Y⟩ = ⟨c_X + 1, c_Y⟩ := if_neg (by simp only; omega)
          have m1 : mA1 ⟨c_X, c_Y⟩ ⟨d_X, d_Y⟩ = ⟨c_X + 1, c_Y + 1⟩ := rfl
          have m2 : mB1 ⟨c_X, c_Y⟩ ⟨d_X, d_Y⟩ = ⟨d_X, d_Y + 1⟩ := if_neg (by simp only; omega)
          rw [m0] at h1 ta ta'
          rw [m1] at h2 ta ta'
          rw [m2] at h4 tb tb'
          simp only at h1 h2 h3 h4 ta ta' tb tb'
          simp (config := {maxSteps := 10000000}) only [x40, push_cast, Nat.reduceAdd, Nat.reduceSub, Nat.reduceLeDiff, Nat.reduceEqDiff, Nat.reduceBEq, Nat.reduceMul, Nat.reduceLT, ↓reduceIte, reduceCtorEq, Int.reduceLE, Int.reduceLT, Int.reduceEq, Int.reduceMul, Int.reduceAdd, Int.reduceSub, Int.reduceNeg, Int.reduceToNat, Int.reduceNe, g45m, g46m, w1, w2, w3, w4, ne]
          refine ⟨by rfl, by rfl, ⟨by omega, h1, h2, ta, ta'⟩, fun G => ⟨⟨by omega, qHas_cut h3, qHas_cut h4, ?_, ?_⟩, fun G1 => ⟨⟨by omega, ?_, ?_⟩, fun G2 => ⟨⟨by omega, ?_, ?_⟩, fun G3 => ⟨fun _ j => if j < 2 then G 0 j else if j < 4 then G1 0 (j - 2) else if j < 6 then G2 0 (j - 4) else G3 0 (j - 6), ?_, ?_⟩⟩⟩⟩⟩
          · rw [qCut_get (by simp only; omega) (by simp only; omega)]; exact tb
          · rw [qCut_get (by simp only; omega) (by simp only; omega)]; exact tb'
          · exact qCut_le (by simp only; omega) (qCut_le (by simp only; omega) (Nat.le_trans (twoC_len ta) (by omega)))
          · exact qCut_le (by simp only; omega) (qCut_le (by simp only; omega) (Nat.le_trans (twoC_len tb) (by omega)))
          · exact qJoin_le (k := 3) (by simp only; omega) (qCut_le (by simp only; omega) (qCut_le (by simp only; omega) (Nat.le_trans (twoC_len ta') (by omega))))
          · exact qJoin_le (k := 3) (by simp only; omega) (qCut_le (by simp only; omega) (qCut_le (by simp only; omega) (Nat.le_trans (twoC_len tb') (by omega))))
          · unfold qMrg; rw [m0, m1, m2]; rfl
          · unfold qMrg; rw [m0, m1, m2]; rfl
        · replace hdX := hdX.symm
          subst hdX
          have m0 : mA0 ⟨c_X, c_Y⟩ ⟨c_X, d_Y⟩ = ⟨c_X, c_Y + 1⟩ := if_pos rfl
          have m1 : mA1 ⟨c_X, c_Y⟩ ⟨c_X, d_Y⟩ = ⟨c_X + 1, c_Y + 1⟩ := rfl
          have m2 : mB1 ⟨c_X, c_Y⟩ ⟨c_X, d_Y⟩ = ⟨c_X + 1, d_Y⟩ := if_pos rfl
          rw [m0] at h1 ta ta'
          rw [m1] at h2 ta ta'
          rw [m2] at h4 tb tb'
          simp only at h1 h2 h3 h4 ta ta' tb tb'
          simp (config := {maxSteps := 10000000}) only [x40, push_cast, Nat.reduceAdd, Nat.reduceSub, Nat.reduceLeDiff, Nat.reduceEqDiff, Nat.reduceBEq, Nat.reduceMul, Nat.reduceLT, ↓reduceIte, reduceCtorEq, Int.reduceLE, Int.reduceLT, Int.reduceEq, Int.reduceMul, Int.reduceAdd, Int.reduceSub, Int.reduceNeg, Int.reduceToNat, Int.reduceNe, g45m, g46m, w1, w2, w3, w4]
          refine ⟨by rfl, by rfl, by rfl, ⟨by omega, h1, h2, ta, ta'⟩, fun G => ⟨⟨by omega, qHas_cut h3, qHas_cut h4, ?_, ?_⟩, fun G1 => ⟨⟨by omega, ?_, ?_⟩, fun G2 => ⟨⟨by omega, ?_, ?_⟩, fun G3 => ⟨fun _ j => if j < 2 then G 0 j else if j < 4 then G1 0 (j - 2) else if j < 6 then G2 0 (j - 4) else G3 0 (j - 6), ?_, ?_⟩⟩⟩⟩⟩
          · rw [qCut_get (by simp only; omega) (by simp only; omega)]; exact tb
          · rw [qCut_get (by simp only; omega) (by simp only; omega)]; exact tb'
          · exact qCut_le (by simp only; omega) (qCut_le (by simp only; omega) (Nat.le_trans (twoC_len ta) (by omega)))
          · exact qCut_le (by simp only; omega) (qCut_le (by simp only; omega) (Nat.le_trans (twoC_len tb) (by omega)))
          · exact qJoin_le (k := 3) (by simp only; omega) (qCut_le (by simp only; omega) (qCut_le (by simp only; omega) (Nat.le_trans (twoC_len ta') (by omega))))
          · exact qJoin_le (k := 3) (by simp only; omega) (qCut_le (by simp only; omega) (qCut_le (by simp only; omega) (Nat.le_trans (twoC_len tb') (by omega))))
          · unfold qMrg; rw [m0, m1, m2]; rfl
          · unfold qMrg; rw [m0, m1, m2]; rfl
      · cases hg_
    · cases hg_
  · cases hg_
end Go.Proofs.Ytnkkhmeojifckaa
