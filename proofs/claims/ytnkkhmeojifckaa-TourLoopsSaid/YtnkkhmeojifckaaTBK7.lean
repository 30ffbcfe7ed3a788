/- A part of the proof of a statement about this seat: how a function is stepped through, and plain laws. No conditions. -/
import Derived.Test.YtnkkhmeojifckaaRows
import Derived.Test.YtnkkhmeojifckaaTBSz4
import Derived.Test.YtnkkhmeojifckaaTBK4
import Derived.Test.YtnkkhmeojifckaaTBK6
import Derived.KernelRfl
set_option linter.unusedVariables false
set_option linter.unusedSimpArgs false
set_option maxRecDepth 20000
namespace Go.Proofs.Ytnkkhmeojifckaa
open Go.Sx
theorem tk_push {m : List CC} {c u : CC} {k : Nat} {b : Bnd} (hk : k < m.length) (hu : m.getD k eC.dflt = u) : (List.take (k + 1) (c :: m)).length + 1 = (List.take (k + 1 + 1) (c :: m)).length ∧ rowEq ((List.take (k + 1) (c :: m)).length + 1) 2 (catF (List.take (k + 1) (c :: m)).length (rowF eC (List.take (k + 1) (c :: m))) (litF [SC.v (Value.int IntKind.i64 u.X), SC.v (Value.int IntKind.i64 u.Y)] 2)) (rowF eC (List.take (k + 1 + 1) (c :: m))) (SC.sub b) := by
  have et : List.take (k + 1 + 1) (c :: m) = List.take (k + 1) (c :: m) ++ [u] := by
    rw [List.take_succ_eq_append_getElem (by simpa using hk)]
    congr 1
    rw [← hu, List.getElem_cons_succ, List.getD_eq_getElem?_getD, List.getElem?_eq_getElem hk]; rfl
  rw [et]
  exact push_eq (E := eC) (x := u) rfl
def y20L0 : XC := (.seq (.seq (.reg false [O1 28 (.fld 2) 1, O1 29 .load1 28, O1 30 .mv 5, O2 31 (.ixS 1) 29 30, O1 32 .load1 31, K2 33 (.bin .neq) 32 (.int .u8 1)]) (.cond (.t 33) .skip (.exit 1))) (.block 2 (.reg false [O1 34 .mv 5, K2 35 (.bin .add) 34 (iV 1), O1 5 .mv 35])))
def y20L1b : XC := (.block 6 (.seq (.reg false [O2 86 (.ixN 4 2) 83 84, ⟨(some 11), (.alloc 26 [(iV 0), (iV 0)]), [], none⟩, ⟨none, (.store 2), [(.t 11), (.t 86)], none⟩]) (.seq (.seq (.tak 7 11 (.aft 7 11 (.reg false [O1 87 (.loadN 3) 1, O1 88 (.loadN 2) 11, O2 89 (.call 34) 87 88, O1 90 (.un .not) 89, O1 91 .mv 90, G1 92 .mv 7 91 false, G1 93 (.loadN 2) 11 91 false, ⟨(some 94), (.x (.lookM (.slice none 0 0))), [(.t 92), (.t 93)], (some (91, false))⟩, G1 95 (.isnil true) 94 91 false, ⟨(some 96), .pick, [(.t 91), (.k (.bool true)), (.t 95)], none⟩]))) (.cond (.t 96) (.exit 6) .skip)) (.seq (.reg false [O1 97 .mv 7, O1 98 (.loadN 2) 11, O2 99 (.call 39) 97 98]) (.seq (.seq (.reg false [O1 100 (.fld 0) 11, O1 101 .load1 100, O1 102 (.fld 0) 9, O1 103 .load1 102, O2 104 (.bin .gtr) 101 103, O1 105 .mv 104, G1 106 (.fld 1) 11 105 false, G1 107 .load1 106 105 false, G1 108 (.fld 1) 9 105 false, G1 109 .load1 108 105 false, G2 110 (.bin .gtr) 107 109 105 false, ⟨(some 111), .pick, [(.t 105), (.k (.bool true)), (.t 110)], none⟩]) (.cond (.t 111) (.reg false [O1 112 .mv 7, O1 113 (.loadN 2) 9, O1 114 (.loadN 2) 11, ⟨(some 115), (.call 40), [(.t 112), (.t 113), (.t 114)], none⟩]) (.reg false [O1 116 .mv 7, O1 117 (.loadN 2) 11, O1 118 (.loadN 2) 9, ⟨(some 119), (.call 40), [(.t 116), (.t 117), (.t 118)], none⟩]))) (.reg false [O1 120 .mv 8, O1 121 (.loadN 2) 11, ⟨(some 122), (.slit 26 1 2 [(iV 0), (iV 0)] [(0, 2)]), [(.t 121)], none⟩, O2 123 (.app 26 2 16) 120 122, O1 8 .mv 123]))))))
def y20L1 : XC := (.seq (.reg false [K2 85 (.bin .lss) 84 (iV 4)]) (.seq (.cond (.t 85) .skip (.exit 5)) (.seq y20L1b (.reg false [K2 124 (.bin .add) 84 (iV 1), O1 84 .mv 124]))))
def y20L2b : XC := (.block 4 (.seq (.reg false [O1 56 .mv 8, K2 57 (.ixS 2) 56 (iV 0), O1 58 (.loadN 2) 57, ⟨(some 9), (.alloc 26 [(iV 0), (iV 0)]), [], none⟩, ⟨none, (.store 2), [(.t 9), (.t 58)], none⟩]) (.seq (.reg false [O1 59 (.fld 0) 9, O1 60 .load1 59, K2 61 (.bin .add) 60 (iV 2), O1 62 (.fld 1) 9, O1 63 .load1 62, ⟨(some 64), (.build [(iV 0), (iV 0)] [(0, 1), (1, 1)]), [(.t 61), (.t 63)], none⟩, O1 65 (.fld 0) 9, O1 66 .load1 65, O1 67 (.fld 1) 9, O1 68 .load1 67, K2 69 (.bin .add) 68 (iV 2), ⟨(some 70), (.build [(iV 0), (iV 0)] [(0, 1), (1, 1)]), [(.t 66), (.t 69)], none⟩, O1 71 (.fld 0) 9, O1 72 .load1 71, K2 73 (.bin .sub) 72 (iV 2), O1 74 (.fld 1) 9, O1 75 .load1 74, ⟨(some 76), (.build [(iV 0), (iV 0)] [(0, 1), (1, 1)]), [(.t 73), (.t 75)], none⟩, O1 77 (.fld 0) 9, O1 78 .load1 77, O1 79 (.fld 1) 9, O1 80 .load1 79, K2 81 (.bin .sub) 80 (iV 2), ⟨(some 82), (.build [(iV 0), (iV 0)] [(0, 1), (1, 1)]), [(.t 78), (.t 81)], none⟩, ⟨(some 83), (.build [(iV 0), (iV 0), (iV 0), (iV 0), (iV 0), (iV 0), (iV 0), (iV 0)] [(0, 2), (2, 2), (4, 2), (6, 2)]), [(.t 64), (.t 70), (.t 76), (.t 82)], none⟩, K1 84 .mv (iV 0)]) (.block 5 (.loop y20L1)))))
def y20L2 : XC := (.seq (.seq (.reg false [O1 51 .mv 8, O1 52 .lenS 51, K2 53 (.bin .gtr) 52 (iV 0)]) (.cond (.t 53) .skip (.exit 3))) (.seq y20L2b (.reg false [O1 54 .mv 8, K2 55 (.slc 2 true false false) 54 (iV 1), O1 8 .mv 55])))
def y20L3b : XC := (.block 8 (.seq (.reg false [O1 140 .mv 12, O1 141 (.loadN 2) 14, ⟨(some 142), (.slit 26 1 2 [(iV 0), (iV 0)] [(0, 2)]), [(.t 141)], none⟩, O2 143 (.app 26 2 16) 140 142, O1 12 .mv 143]) (.seq (.tak 7 14 (.aft 7 14 (.reg false [O1 144 .mv 7, O1 145 (.loadN 2) 14, ⟨(some 146), (.x (.lookM (.slice none 0 0))), [(.t 144), (.t 145)], none⟩, K2 147 (.ixS 2) 146 (iV 0), O1 148 (.loadN 2) 147, ⟨(some 15), (.alloc 26 [(iV 0), (iV 0)]), [], none⟩, ⟨none, (.store 2), [(.t 15), (.t 148)], none⟩]))) (.seq (.seq (.reg false [O1 149 (.loadN 2) 15, O1 150 (.loadN 2) 13, ⟨(some 151), (.eqA false [(.i .i64), (.i .i64)]), [(.t 149), (.t 150)], none⟩]) (.cond (.t 151) (.tak 7 14 (.aft 7 14 (.reg false [O1 152 .mv 7, O1 153 (.loadN 2) 14, ⟨(some 154), (.x (.lookM (.slice none 0 0))), [(.t 152), (.t 153)], none⟩, K2 155 (.ixS 2) 154 (iV 1), O1 156 (.loadN 2) 155, ⟨none, (.store 2), [(.t 15), (.t 156)], none⟩]))) .skip)) (.regD [O1 157 (.loadN 2) 14, O1 158 (.loadN 2) 15, ⟨none, (.store 2), [(.t 13), (.t 157)], none⟩, ⟨none, (.store 2), [(.t 14), (.t 158)], none⟩] [[], [], [0], [1, 2, 0]])))))
def y20L3 : XC := (.seq (.seq (.reg false [O1 137 (.loadN 2) 14, O1 138 (.loadN 2) 6, ⟨(some 139), (.eqA true [(.i .i64), (.i .i64)]), [(.t 137), (.t 138)], none⟩]) (.cond (.t 139) .skip (.exit 7))) y20L3b)
def y20 : XFn := ⟨160, (.seq (.reg false [O1 1 (.box 24) 0, K1 2 .mv (.slice none 0 0), K1 3 .mv (iV 0)]) (.seq (.block 0 (.seq (.reg false [O1 17 (.loadN 3) 1, O1 18 (.call 33) 17, O1 19 (.un .not) 18, O1 16 .mv 19]) (.cond (.t 16) (.seq (.reg false [K1 2 .mv (.slice none 0 0), K1 3 .mv (iV 1)]) .ret) (.seq (.reg false [O1 21 (.loadN 3) 1, O1 22 (.call 37) 21, O1 23 (.un .not) 22, O1 20 .mv 23]) (.cond (.t 20) (.seq (.reg false [K1 2 .mv (.slice none 0 0), K1 3 .mv (iV 3)]) .ret) .skip))))) (.seq (.reg false [O1 24 (.loadN 3) 1, K2 25 (.call 38) 24 (.int .u8 1), O1 4 .mv 25]) (.seq (.seq (.reg false [O1 26 .mv 4, K2 27 (.bin .eql) 26 (iV 0)]) (.cond (.t 27) (.seq (.reg false [K1 2 .mv (.slice none 0 0), K1 3 .mv (iV 9)]) .ret) .skip)) (.seq (.reg false [K1 5 .mv (iV 0)]) (.seq (.block 1 (.loop y20L0)) (.seq (.regD [O1 36 .mv 5, O1 37 (.fld 0) 1, O1 38 .load1 37, O2 39 (.bin .rem) 36 38, O1 40 .mv 5, O1 41 (.fld 0) 1, O1 42 .load1 41, O2 43 (.bin .quo) 40 42, ⟨(some 44), (.build [(iV 0), (iV 0)] [(0, 1), (1, 1)]), [(.t 39), (.t 43)], none⟩, ⟨(some 6), (.alloc 26 [(iV 0), (iV 0)]), [], none⟩, ⟨none, (.store 2), [(.t 6), (.t 44)], none⟩] [[], [], [1], [0, 2, 1], [], [], [5], [4, 6, 5], [3, 0, 2, 1, 7, 4, 6, 5], [], [9, 8, 3, 0, 2, 1, 7, 4, 6, 5]]) (.seq (.reg false [⟨(some 45), .mkm, [], none⟩, O1 7 .mv 45]) (.mkr 7 26 (.seq (.reg false [O1 46 .mv 7, O1 47 (.loadN 2) 6, O2 48 (.call 39) 46 47]) (.seq (.seq (.reg false [O1 49 (.loadN 2) 6, ⟨(some 50), (.slit 26 1 2 [(iV 0), (iV 0)] [(0, 2)]), [(.t 49)], none⟩, O1 8 .mv 50]) (.block 3 (.loop y20L2))) (.seq (.seq (.reg false [O1 125 .mv 7, O1 126 (.x .lenM) 125, O1 127 .mv 4, O2 128 (.bin .neq) 126 127]) (.cond (.t 128) (.seq (.reg false [K1 2 .mv (.slice none 0 0), K1 3 .mv (iV 9)]) .ret) .skip)) (.seq (.reg false [O1 129 (.loadN 2) 6, ⟨(some 130), (.slit 26 1 2 [(iV 0), (iV 0)] [(0, 2)]), [(.t 129)], none⟩, O1 12 .mv 130]) (.seq (.tak 7 6 (.aft 7 6 (.regD [O1 131 (.loadN 2) 6, O1 132 .mv 7, O1 133 (.loadN 2) 6, ⟨(some 134), (.x (.lookM (.slice none 0 0))), [(.t 132), (.t 133)], none⟩, K2 135 (.ixS 2) 134 (iV 0), O1 136 (.loadN 2) 135, ⟨(some 13), (.alloc 26 [(iV 0), (iV 0)]), [], none⟩, ⟨(some 14), (.alloc 26 [(iV 0), (iV 0)]), [], none⟩, ⟨none, (.store 2), [(.t 13), (.t 131)], none⟩, ⟨none, (.store 2), [(.t 14), (.t 136)], none⟩] [[], [], [], [1, 2], [3, 1, 2], [4, 3, 1, 2], [], [], [6, 0, 7], [7, 5, 4, 3, 1, 2, 8, 6, 0]]))) (.seq (.block 7 (.loop y20L3)) (.seq (.reg false [O1 159 .mv 12, O1 2 .mv 159, K1 3 .mv (iV 0)]) .ret)))))))))))))))), [(.s 2), (.s 3)]⟩
theorem y20_ok : xfn Try.prog Try.f20 = some y20.er := by kernel_rfl
noncomputable def g20m : Con := fun args_ E_ nn_ => match args_ with
  | [.a [.v (.int .i64 p_W), .v (.int .i64 p_H), .n p_Cells]] => (match rowOf E_ p_Cells with
    | some (p_Cells_n, p_Cells_s, p_Cells_f) => some (.e (isRow eU8 p_Cells_n p_Cells_s p_Cells_f ∧ True) (.t [.c (.n (nn_ + 0)), .c (.v (.int .i64 (lopE p_W p_H (decL eU8 p_Cells_n p_Cells_f))))]) [((nn_ + 0), .own (lopL p_W p_H (decL eU8 p_Cells_n p_Cells_f)).length 2 (rowF eC (lopL p_W p_H (decL eU8 p_Cells_n p_Cells_f))) 26)] (nn_ + 1))
    | none => none)
  | _ => none
set_option maxHeartbeats 8000000 in
theorem c20m : COk Try.prog 20 g20m := by
  refine cok_e Try.func20 y20_ok (by kernel_rfl) (cok_tab (cok_cons c33 (cok_cons c37 (cok_cons c38 (cok_cons c34 (cok_cons c39m (cok_cons c40m cok_nil))))))) ?_
  intro args_ E_ nn_ cr_ hg_
  unfold g20m at hg_
  split at hg_
  · rename_i p_W p_H p_Cells
    split at hg_
    · rename_i p_Cells_n p_Cells_s p_Cells_f h_p_Cells
      cases hg_
      refine ⟨_, _, _, _, rfl, 1, [p_Cells], [.a [.v (.int .i64 p_W), .v (.int .i64 p_H), .n 0]], [(0, .ro (decL eU8 p_Cells_n p_Cells_f).length eU8.sz (rowF eU8 (decL eU8 p_Cells_n p_Cells_f)))], .t [.c (.n 1), .c (.v (.int .i64 (lopE p_W p_H (decL eU8 p_Cells_n p_Cells_f))))], [(1, .own (lopL p_W p_H (decL eU8 p_Cells_n p_Cells_f)).length 2 (rowF eC (lopL p_W p_H (decL eU8 p_Cells_n p_Cells_f))) 26)], 2, rfl, rfl, by simp only [renE, Ent.ren, rowF_renf] <;> rfl, rfl, by decide, by simp only [push_cast, Nat.reduceLT, Nat.reduceAdd], by simp only [push_cast, Nat.reduceLT, Nat.reduceAdd], by simp only [push_cast, Nat.reduceLT, Nat.reduceAdd], by simp only [push_cast, Nat.reduceLT, Nat.reduceAdd], rfl, ⟨inE0_row h_p_Cells, trivial⟩, by simp only [keysNodup, outN, keys] <;> decide, rfl, rfl, ?_⟩
      intro hpre hlen
      obtain ⟨i_p_Cells, hpre⟩ := hpre
      refine ⟨⟨inE_row h_p_Cells i_p_Cells, trivial⟩, by simp only [apartE] <;> (first | trivial | (simp [Ent.mut]; done)), ?_⟩
      have z_p_Cells := lens_row (E := eU8) hlen h_p_Cells
      clear i_p_Cells
      generalize decL eU8 p_Cells_n p_Cells_f = p_CellsL at *
      clear h_p_Cells
      simp (config := {maxSteps := 10000000}) only [y20, push_cast, Nat.reduceAdd, Nat.reduceSub, Nat.reduceLeDiff, Nat.reduceEqDiff, Nat.reduceBEq, Nat.reduceMul, Nat.reduceLT, ↓reduceIte, reduceCtorEq, Int.reduceLE, Int.reduceLT, Int.reduceEq, Int.reduceMul, Int.reduceAdd, Int.reduceSub, Int.reduceNeg, Int.reduceToNat, Int.reduceNe, g33, g37, g38, g34, g39m, g40m, shF_zero]
      refine ⟨fun h => ⟨lop1 h, lopL0 (lop1 h) (by decide)⟩, fun hp => ⟨hp, fun hb => ⟨lop3 hp hb, lopL0 (lop3 hp hb) (by decide)⟩, fun hb => ?_⟩⟩
      rw [show cntV p_W p_H p_CellsL 1 = cnt8 p_CellsL 1 from if_pos hp]
      refine ⟨fun hc => ⟨lop9 hp hb hc, lopL0 (lop9 hp hb hc) (by decide)⟩, fun hc => ?_⟩
      have pp := planB_at hp
      have hfl := fst_lt hp hc
      have hfr := fst_free hp hc
      have hev := fst_ev hp hb hc
      have hball := blk_all hb
      refine vcLoop_upd (α := {k : Nat // k ≤ fstI p_CellsL}) [1, 4] 0 (fun s => [(5, .o (.c (.v (.int .i64 (s.1 : Nat)))))]) (fun s => []) (fun s => fstI p_CellsL - s.1) ⟨0, Nat.zero_le _⟩ ?_ ?_
      · simp only [push_cast, Nat.reduceAdd, Nat.reduceSub, Nat.reduceLeDiff, Nat.reduceEqDiff, Nat.reduceBEq, Nat.reduceMul, Nat.reduceLT, ↓reduceIte, reduceCtorEq, Int.reduceLE, Int.reduceLT, Int.reduceEq, Int.reduceMul, Int.reduceAdd, Int.reduceSub, Int.reduceNeg, Int.reduceToNat, Int.reduceNe, g33, g37, g38, g34, g39m, g40m, shF_zero]
      rintro ⟨k, hk⟩
      simp only [y20L0, push_cast, Nat.reduceAdd, Nat.reduceSub, Nat.reduceLeDiff, Nat.reduceEqDiff, Nat.reduceBEq, Nat.reduceMul, Nat.reduceLT, ↓reduceIte, reduceCtorEq, Int.reduceLE, Int.reduceLT, Int.reduceEq, Int.reduceMul, Int.reduceAdd, Int.reduceSub, Int.reduceNeg, Int.reduceToNat, Int.reduceNe, g33, g37, g38, g34, g39m, g40m, shF_zero]
      have hkl : ¬ p_CellsL.getD k eU8.dflt = 1 → k < fstI p_CellsL := fun hne => by
        rcases (by omega : k = fstI p_CellsL ∨ k < fstI p_CellsL) with e | e
        · subst e; exact absurd (fst_at hfl) hne
        · exact e
      refine ⟨by omega, by omega, fun hne => ⟨⟨k + 1, hkl hne⟩, wrapI (by omega) (by omega), by have := hkl hne; simp only; omega⟩, fun h1 => ?_⟩
      have ek : k = fstI p_CellsL := fst_eq (by omega) h1 (fun j hj => fst_no (by omega))
      have t1 : Int.tmod (k : Int) p_W = (fstC p_W p_CellsL).X := by rw [Int.tmod_eq_emod_of_nonneg (by omega), ek]; rfl
      have t2 : IntKind.i64.wrap (Int.tdiv (k : Int) p_W) = (fstC p_W p_CellsL).Y := by
        rw [Int.tdiv_eq_ediv_of_nonneg (by omega), ek]
        have := frB_in hfr
        have e : ((fstI p_CellsL : Nat) : Int) / p_W = (fstC p_W p_CellsL).Y := rfl
        rw [e]
        exact wrapI (by omega) (by omega)
      rw [t1, t2]
      clear t1 t2
      generalize hcc : fstC p_W p_CellsL = c at hfr hev ⊢
      have hcb := frB_in hfr
      refine ⟨by omega, by omega, by rfl, ⟨rfl, by omega, by omega, rfl, rfl, rfl, rfl⟩, fun G => ?_⟩
      refine vcLoop_upd (α := {s : List QE × List CC // lpWay p_W p_H p_CellsL c ⟨sq s.1, s.2⟩}) [1, 4, 6, 7] 0 (fun s => [(8, .o (.c (.n 26)))]) (fun s => [(24, .mp (qM s.1.1)), (25, .rin 26 s.1.1 []), (26, .own (s.1.2).length 2 (rowF eC (s.1.2)) 26)]) (fun s => lpMu ⟨sq s.1.1, s.1.2⟩) ⟨(qBlk [] c (G 0), [c]), by simp only; rw [sq_blk]; exact lpWay0 hball hev hfr⟩ ?_ ?_
      · simp only [push_cast, Nat.reduceAdd, Nat.reduceSub, Nat.reduceLeDiff, Nat.reduceEqDiff, Nat.reduceBEq, Nat.reduceMul, Nat.reduceLT, ↓reduceIte, reduceCtorEq, Int.reduceLE, Int.reduceLT, Int.reduceEq, Int.reduceMul, Int.reduceAdd, Int.reduceSub, Int.reduceNeg, Int.reduceToNat, Int.reduceNe, g33, g37, g38, g34, g39m, g40m, shF_zero]
        exact row_one c _
      rintro ⟨⟨q, Q⟩, hw⟩
      simp only at hw
      cases Q with
      | nil =>
        have e := lpWay_end hw rfl
        have eA : sq q = (lpEnd p_W p_H p_CellsL c).A := congrArg LS.A e
        have hi : LI p_W p_H p_CellsL c (lpEnd p_W p_H p_CellsL c) := by rw [← e]; exact hw.1
        have hm := lopM_ok hi
        have hln := lp_len hball hp hev hfr
        rw [← eA, sq_len] at hln
        have hQ : qHas q c.X c.Y = true := by
          have := (hm.2.2 c).2 List.mem_cons_self
          rw [← eA] at this; rwa [qH, sq_has] at this
        have hn := ring_nb hm.1
        have hL2 : (qGet q c.X c.Y).length = 2 := by
          rw [← sq_get, eA]
          rcases hn with g | g <;> (have g : qGet (lpEnd p_W p_H p_CellsL c).A c.X c.Y = _ := g) <;> rw [g] <;> rfl
        have hhd : (qGet q c.X c.Y).getD 0 eC.dflt = (lopM p_W p_H p_CellsL c ++ [c]).getD 0 eC.dflt := by
          have h2 := hm.2.1
          rw [← eA] at h2
          rw [← sq_get]
          refine h2.symm.trans ?_
          cases lopM p_W p_H p_CellsL c <;> rfl
        simp (config := {maxSteps := 10000000}) only [y20L2, push_cast, Nat.reduceAdd, Nat.reduceSub, Nat.reduceLeDiff, Nat.reduceEqDiff, Nat.reduceBEq, Nat.reduceMul, Nat.reduceLT, ↓reduceIte, reduceCtorEq, Int.reduceLE, Int.reduceLT, Int.reduceEq, Int.reduceMul, Int.reduceAdd, Int.reduceSub, Int.reduceNeg, Int.reduceToNat, Int.reduceNe, g33, g37, g38, g34, g39m, g40m, shF_zero, hQ, getM_qM1 hQ]
        refine ⟨fun hne => ?_, fun heq => ?_⟩
        · have h9 := lop9' hp hb hc (by rw [hcc, ← hln]; exact hne)
          exact ⟨h9, lopL0 h9 (by decide)⟩
        have h0 := lop0 hp hb hc (by rw [hcc, ← hln]; simpa using heq)
        have hL : lopL p_W p_H p_CellsL = c :: lopM p_W p_H p_CellsL c := by unfold lopL; rw [if_pos h0, hcc]
        rw [hL, h0]
        rw [hhd]
        have hml := nd_le (W := p_W) (H := p_H) hm.1.2 fun u hu => frB_in (hi.j.fr u ((hm.2.2 u).2 hu))
        rw [List.length_cons] at hml
        have hml : (lopM p_W p_H p_CellsL c).length ≤ 4096 := by omega
        have ec : (c.X == c.X && c.Y == c.Y) = true := by simp
        generalize lopM p_W p_H p_CellsL c = m at *
        refine ⟨by omega, by omega, by rfl, _, ⟨by omega, rfl, rowS _ _⟩, fun V => ?_⟩
        refine vcLoop_upd (α := {s : Nat × List QE // s.1 ≤ m.length ∧ sq s.2 = (lpEnd p_W p_H p_CellsL c).A}) [6, 7, 13, 14] 0 (fun s => [(12, .o (.c (.n 27)))]) (fun s => [(24, .mp (qM s.1.2)), (25, .rin 26 s.1.2 []), (27, .own ((c :: m).take (s.1.1 + 1)).length 2 (rowF eC ((c :: m).take (s.1.1 + 1))) 26), (29, .box [.v (.int .i64 ((c :: m).getD s.1.1 eC.dflt).X), .v (.int .i64 ((c :: m).getD s.1.1 eC.dflt).Y)] 26), (30, .box [.v (.int .i64 ((m ++ [c]).getD s.1.1 eC.dflt).X), .v (.int .i64 ((m ++ [c]).getD s.1.1 eC.dflt).Y)] 26)]) (fun s => m.length - s.1.1) ⟨(0, qSet q c.X c.Y V (qGet q c.X c.Y)), Nat.zero_le _, by rw [sq_same hQ]; exact eA⟩ ?_ ?_
        · simp only [push_cast, Nat.reduceAdd, Nat.reduceSub, Nat.reduceLeDiff, Nat.reduceEqDiff, Nat.reduceBEq, Nat.reduceMul, Nat.reduceLT, ↓reduceIte, reduceCtorEq, Int.reduceLE, Int.reduceLT, Int.reduceEq, Int.reduceMul, Int.reduceAdd, Int.reduceSub, Int.reduceNeg, Int.reduceToNat, Int.reduceNe, g33, g37, g38, g34, g39m, g40m, shF_zero]
          exact ⟨qM_set.symm, rfl, row_hd (c := c) rfl⟩
        rintro ⟨⟨k, q'⟩, hk, hq'⟩
        simp only at hk hq'
        rcases Nat.lt_or_ge k m.length with hlt | hge
        · have hwk := walk_at hm hlt
          have hne := walk_ne hm hlt
          have eat : (m ++ [c]).getD k eC.dflt = m.getD k eC.dflt := getD_l hlt
          have hQu : qHas q' (m.getD k eC.dflt).X (m.getD k eC.dflt).Y = true := by
            have := (hm.2.2 _).2 (List.mem_cons_of_mem _ (gmemC hlt))
            rw [← hq'] at this; rwa [qH, sq_has] at this
          rw [← hq'] at hwk
          unfold nb qR at hwk
          rw [sq_get] at hwk
          simp only
          rw [eat]
          generalize hu : m.getD k eC.dflt = u at *
          generalize hbb : (c :: m).getD k eC.dflt = b at *
          generalize hss : (m ++ [c]).getD (k + 1) eC.dflt = s' at *
          have hnb : (u.X == c.X && u.Y == c.Y) = false := by
            rw [Bool.eq_false_iff]; intro g
            simp only [Bool.and_eq_true, beq_iff_eq] at g
            exact hne (cc_ext g.1 g.2)
          have hlen : (List.take (k + 1) (c :: m)).length ≤ 281474976709 := by rw [List.length_take, List.length_cons]; omega
          have eu : (c :: m).getD (k + 1) eC.dflt = u := by rw [List.getD_cons_succ]; exact hu
          rcases hwk with e | e
          · simp (config := {maxSteps := 10000000}) only [y20L3, y20L3b, push_cast, Nat.reduceAdd, Nat.reduceSub, Nat.reduceLeDiff, Nat.reduceEqDiff, Nat.reduceBEq, Nat.reduceMul, Nat.reduceLT, ↓reduceIte, reduceCtorEq, Int.reduceLE, Int.reduceLT, Int.reduceEq, Int.reduceMul, Int.reduceAdd, Int.reduceSub, Int.reduceNeg, Int.reduceToNat, Int.reduceNe, g33, g37, g38, g34, g39m, g40m, shF_zero, hnb, hQu, getM_qM1 hQu, e, qHas_set_eq, qGet_set_eq, qVal_set_eq]
            exact ⟨hlen, [b, s'], ⟨rfl, rowS _ _⟩, fun V => ⟨by simp, by simp, [b, s'], ⟨by simp, rfl, rowS _ _⟩, fun V1 => ⟨by rfl, ⟨(k + 1, _), hlt, (sq_two hQu e).trans hq'⟩, ⟨qM_two, rfl, tk_push hlt hu, ⟨congrArg CC.X eu.symm, congrArg CC.Y eu.symm⟩, congrArg CC.X hss.symm, congrArg CC.Y hss.symm⟩, by simp only; omega⟩⟩⟩
          · simp (config := {maxSteps := 10000000}) only [y20L3, y20L3b, push_cast, Nat.reduceAdd, Nat.reduceSub, Nat.reduceLeDiff, Nat.reduceEqDiff, Nat.reduceBEq, Nat.reduceMul, Nat.reduceLT, ↓reduceIte, reduceCtorEq, Int.reduceLE, Int.reduceLT, Int.reduceEq, Int.reduceMul, Int.reduceAdd, Int.reduceSub, Int.reduceNeg, Int.reduceToNat, Int.reduceNe, g33, g37, g38, g34, g39m, g40m, shF_zero, hnb, hQu, getM_qM1 hQu, e, qHas_set_eq, qGet_set_eq, qVal_set_eq]
            exact ⟨hlen, [s', b], ⟨rfl, rowS _ _⟩, fun V => ⟨fun f1 f2 => ⟨by simp, by simp, [s', b], ⟨by simp, rfl, rowS _ _⟩, fun V1 => ⟨by rfl, ⟨(k + 1, _), hlt, (sq_two hQu e).trans hq'⟩, ⟨qM_two, rfl, tk_push hlt hu, ⟨congrArg CC.X eu.symm, congrArg CC.Y eu.symm⟩, f1.symm.trans (congrArg CC.X hss.symm), f2.symm.trans (congrArg CC.Y hss.symm)⟩, by simp only; omega⟩⟩,
              fun f => ⟨by rfl, ⟨(k + 1, _), hlt, (sq_one hQu e).trans hq'⟩, ⟨qM_set.symm, rfl, tk_push hlt hu, ⟨congrArg CC.X eu.symm, congrArg CC.Y eu.symm⟩, congrArg CC.X hss.symm, congrArg CC.Y hss.symm⟩, by simp only; omega⟩⟩⟩
        · obtain rfl : k = m.length := by omega
          have eat : (m ++ [c]).getD m.length eC.dflt = c := by rw [getD_r (Nat.le_refl _), Nat.sub_self]; rfl
          have hQc : qHas q' c.X c.Y = true := by
            have := (hm.2.2 c).2 List.mem_cons_self
            rw [← hq'] at this; rwa [qH, sq_has] at this
          obtain ⟨z0, z1, ez⟩ : ∃ z0 z1, qGet q' c.X c.Y = [z0, z1] := by
            rw [← sq_get, hq']
            rcases hn with g | g <;> exact ⟨_, _, g⟩
          simp only
          rw [eat]
          simp (config := {maxSteps := 10000000}) only [y20L3, push_cast, Nat.reduceAdd, Nat.reduceSub, Nat.reduceLeDiff, Nat.reduceEqDiff, Nat.reduceBEq, Nat.reduceMul, Nat.reduceLT, ↓reduceIte, reduceCtorEq, Int.reduceLE, Int.reduceLT, Int.reduceEq, Int.reduceMul, Int.reduceAdd, Int.reduceSub, Int.reduceNeg, Int.reduceToNat, Int.reduceNe, g33, g37, g38, g34, g39m, g40m, shF_zero, ec]
          have et : List.take (m.length + 1) (c :: m) = c :: m := List.take_of_length_le (by simp)
          rw [et]
          exact ⟨rfl, (rowEq_rowF _ _ _ _).2 trivial⟩
      | cons d Q =>
        have hi := hw.1
        have hdh : qH (sq q) d := hi.qh d List.mem_cons_self
        have hde : evC d := hi.qe d List.mem_cons_self
        have hdf := frB_in (hi.j.fr d hdh)
        have w1 : IntKind.i64.wrap (d.X + 2) = d.X + 2 := wrapI (by omega) (by omega)
        have w2 : IntKind.i64.wrap (d.Y + 2) = d.Y + 2 := wrapI (by omega) (by omega)
        have w3 : IntKind.i64.wrap (d.X - 2) = d.X - 2 := wrapI (by omega) (by omega)
        have w4 : IntKind.i64.wrap (d.Y - 2) = d.Y - 2 := wrapI (by omega) (by omega)
        simp (config := {maxSteps := 10000000}) only [y20L2, y20L2b, push_cast, Nat.reduceAdd, Nat.reduceSub, Nat.reduceLeDiff, Nat.reduceEqDiff, Nat.reduceBEq, Nat.reduceMul, Nat.reduceLT, ↓reduceIte, reduceCtorEq, Int.reduceLE, Int.reduceLT, Int.reduceEq, Int.reduceMul, Int.reduceAdd, Int.reduceSub, Int.reduceNeg, Int.reduceToNat, Int.reduceNe, g33, g37, g38, g34, g39m, g40m, shF_zero, List.drop_succ_cons, List.drop_zero, w1, w2, w3, w4]
        refine ⟨fun _ => ⟨by omega, by omega, ?_⟩, fun h => by omega⟩
        refine vcLoop_upd (α := {z : (List QE × List CC) × Nat // z.2 ≤ 4 ∧ (⟨sq z.1.1, z.1.2⟩ : LS) = ((nb2 d).take z.2).foldl (lpD p_W p_H p_CellsL d) ⟨sq q, d :: Q⟩}) [1, 4, 6, 7, 9, 83] 0 (fun s => [(8, .o (.c (.n 26))), (84, .o (.c (.v (.int .i64 (s.1.2 : Nat)))))]) (fun s => [(24, .mp (qM s.1.1.1)), (25, .rin 26 s.1.1.1 []), (26, .own (s.1.1.2).length 2 (rowF eC (s.1.1.2)) 26)]) (fun s => 4 - s.1.2) ⟨((q, d :: Q), 0), by omega, rfl⟩ ?_ ?_
        · simp only [push_cast, Nat.reduceAdd, Nat.reduceSub, Nat.reduceLeDiff, Nat.reduceEqDiff, Nat.reduceBEq, Nat.reduceMul, Nat.reduceLT, ↓reduceIte, reduceCtorEq, Int.reduceLE, Int.reduceLT, Int.reduceEq, Int.reduceMul, Int.reduceAdd, Int.reduceSub, Int.reduceNeg, Int.reduceToNat, Int.reduceNe, g33, g37, g38, g34, g39m, g40m, shF_zero]
        rintro ⟨⟨⟨q1, Q1⟩, k⟩, hk, hz⟩
        simp only at hk hz
        obtain ⟨i1, ⟨kk, i2⟩, i3, i4, i5⟩ := lp_fold hball hp ((nb2 d).take k) ⟨sq q, d :: Q⟩ hi List.mem_cons_self (fun x hx => List.mem_of_mem_take hx)
        rw [← hz] at i1 i2 i3 i4 i5
        simp only at i2
        rcases (by omega : k = 0 ∨ k = 1 ∨ k = 2 ∨ k = 3 ∨ k = 4) with rfl | rfl | rfl | rfl | rfl
        · have gx : (d.X < d.X + 2) = True := eq_true (by omega)
          have gy : (d.Y < d.Y) = False := eq_false (by omega)
          have hen : (⟨d.X + 2, d.Y⟩ : CC) ∈ nb2 d := by simp [nb2]
          have hmp : mgP d (⟨d.X + 2, d.Y⟩ : CC) = (d, (⟨d.X + 2, d.Y⟩ : CC)) := if_pos (by simp only; omega)
          have hd1 : d ∈ Q1 := by rw [i2]; simp
          have hskip : ¬ (frB p_W p_H p_CellsL (d.X + 2) (d.Y) = true ∧ qHas q1 (d.X + 2) (d.Y) = false) → ∀ q2, sq q2 = sq q1 → (⟨sq q2, Q1⟩ : LS) = ((nb2 d).take 1).foldl (lpD p_W p_H p_CellsL d) ⟨sq q, d :: Q⟩ := by
            intro hno q2 e2
            show _ = lpD p_W p_H p_CellsL d (((nb2 d).take 0).foldl (lpD p_W p_H p_CellsL d) ⟨sq q, d :: Q⟩) (⟨d.X + 2, d.Y⟩ : CC)
            rw [← hz, e2]
            unfold lpD
            rw [if_neg]
            rw [sq_has]; exact hno
          have hadd : ∀ G G', frB p_W p_H p_CellsL (d.X + 2) (d.Y) = true → qHas q1 (d.X + 2) (d.Y) = false → (⟨sq (qMrg (qBlk q1 (⟨d.X + 2, d.Y⟩ : CC) G) (mgP d (⟨d.X + 2, d.Y⟩ : CC)).1 (mgP d (⟨d.X + 2, d.Y⟩ : CC)).2 G'), Q1 ++ [(⟨d.X + 2, d.Y⟩ : CC)]⟩ : LS) = ((nb2 d).take 1).foldl (lpD p_W p_H p_CellsL d) ⟨sq q, d :: Q⟩ := by
            intro G G' h1 h2
            show _ = lpD p_W p_H p_CellsL d (((nb2 d).take 0).foldl (lpD p_W p_H p_CellsL d) ⟨sq q, d :: Q⟩) (⟨d.X + 2, d.Y⟩ : CC)
            rw [← hz, sq_mrg, sq_blk]
            unfold lpD
            rw [if_pos ⟨h1, by rw [sq_has]; exact h2⟩]
            rfl
          rw [hmp] at hadd
          cases hh : qHas q1 (d.X + 2) (d.Y) with
          | false =>
            cases hf : frB p_W p_H p_CellsL (d.X + 2) (d.Y) with
            | false =>
              have hs := hskip (by rw [hf]; simp)
              clear hadd hskip
              simp (config := {maxSteps := 10000000}) only [y20L1, y20L1b, push_cast, Nat.reduceAdd, Nat.reduceSub, Nat.reduceLeDiff, Nat.reduceEqDiff, Nat.reduceBEq, Nat.reduceMul, Nat.reduceLT, ↓reduceIte, reduceCtorEq, Int.reduceLE, Int.reduceLT, Int.reduceEq, Int.reduceMul, Int.reduceAdd, Int.reduceSub, Int.reduceNeg, Int.reduceToNat, Int.reduceNe, g33, g37, g38, g34, g39m, g40m, shF_zero, hf, hh, getM_qM0 hh, gx, gy]
              exact ⟨hp, ⟨((q1, Q1), 1), by omega, hs q1 rfl⟩, ⟨by rfl, rfl, rfl, rfl, (rowEq_rowF _ _ _ _).2 trivial⟩, by simp only; omega⟩
            | true =>
              have ad := fun G G' => hadd G G' hf hh
              clear hadd hskip
              have hn : ¬ qH (sq q1) (⟨d.X + 2, d.Y⟩ : CC) := by unfold qH; rw [sq_has]; simp [hh]
              obtain ⟨l1, hr1⟩ := i1.r
              obtain ⟨m1, _⟩ := lp_add hball i1.j hr1 (i1.qh d hd1) hde hen hf hn
              rw [hmp] at m1
              have hout := blk_out i1.j (nb2_ev hde hen) hn
              have hnil : ∀ u : CC, (u = (⟨d.X + 2, d.Y⟩ : CC) ∨ u = blkA (⟨d.X + 2, d.Y⟩ : CC) ∨ u = blkD (⟨d.X + 2, d.Y⟩ : CC) ∨ u = blkE (⟨d.X + 2, d.Y⟩ : CC)) → qGet q1 u.X u.Y = [] := fun u hu => by
                have := qR_nil (hout u hu)
                rwa [qR, sq_get] at this
              have hef := frB_in hf
              have hlQ := Nat.le_trans i3 (lpWay_len hw)
              unfold lpMu at hlQ
              simp only at hlQ
              simp (config := {maxSteps := 10000000}) only [y20L1, y20L1b, push_cast, Nat.reduceAdd, Nat.reduceSub, Nat.reduceLeDiff, Nat.reduceEqDiff, Nat.reduceBEq, Nat.reduceMul, Nat.reduceLT, ↓reduceIte, reduceCtorEq, Int.reduceLE, Int.reduceLT, Int.reduceEq, Int.reduceMul, Int.reduceAdd, Int.reduceSub, Int.reduceNeg, Int.reduceToNat, Int.reduceNe, g33, g37, g38, g34, g39m, g40m, shF_zero, hf, hh, getM_qM0 hh, gx, gy]
              refine ⟨hp, ⟨⟨by omega, by omega⟩, ⟨by omega, by omega⟩, hnil _ (.inl rfl), hnil _ (.inr (.inl rfl)), hnil _ (.inr (.inr (.inl rfl))), hnil _ (.inr (.inr (.inr rfl)))⟩, fun G => ⟨⟨⟨by omega, by omega⟩, ⟨by omega, by omega⟩, mOk_sq (by rw [sq_blk]; exact m1)⟩, fun G1 => ⟨by omega, ⟨((_, _), 1), by omega, ad (G 0) (G1 0)⟩, ⟨by rfl, rfl, rfl, push_eq (E := eC) (x := (⟨d.X + 2, d.Y⟩ : CC)) rfl⟩, by simp only; omega⟩⟩⟩
          | true =>
            have hs := hskip (by rw [hh]; simp)
            clear hadd hskip
            have hpos : 0 < (qGet q1 (d.X + 2) (d.Y)).length := by
              have := LI_pos (u := (⟨d.X + 2, d.Y⟩ : CC)) i1 (by unfold qH; simp only; rw [sq_has]; exact hh)
              rwa [qR, sq_get] at this
            cases hf : frB p_W p_H p_CellsL (d.X + 2) (d.Y) with
            | false =>
              simp (config := {maxSteps := 10000000}) only [y20L1, y20L1b, push_cast, Nat.reduceAdd, Nat.reduceSub, Nat.reduceLeDiff, Nat.reduceEqDiff, Nat.reduceBEq, Nat.reduceMul, Nat.reduceLT, ↓reduceIte, reduceCtorEq, Int.reduceLE, Int.reduceLT, Int.reduceEq, Int.reduceMul, Int.reduceAdd, Int.reduceSub, Int.reduceNeg, Int.reduceToNat, Int.reduceNe, g33, g37, g38, g34, g39m, g40m, shF_zero, hf, hh, getM_qM1 hh, gx, gy]
              exact ⟨hp, _, ⟨hpos, rfl, rowS _ _⟩, fun V => ⟨⟨((_, _), 1), by omega, hs _ (sq_same hh)⟩, ⟨by rfl, qM_set.symm, rfl, rfl, (rowEq_rowF _ _ _ _).2 trivial⟩, by simp only; omega⟩⟩
            | true =>
              simp (config := {maxSteps := 10000000}) only [y20L1, y20L1b, push_cast, Nat.reduceAdd, Nat.reduceSub, Nat.reduceLeDiff, Nat.reduceEqDiff, Nat.reduceBEq, Nat.reduceMul, Nat.reduceLT, ↓reduceIte, reduceCtorEq, Int.reduceLE, Int.reduceLT, Int.reduceEq, Int.reduceMul, Int.reduceAdd, Int.reduceSub, Int.reduceNeg, Int.reduceToNat, Int.reduceNe, g33, g37, g38, g34, g39m, g40m, shF_zero, hf, hh, getM_qM1 hh, gx, gy]
              refine ⟨hp, fun b hb => ?_⟩
              obtain rfl : b = false := by
                cases b with
                | false => rfl
                | true => exact absurd (hb rfl) (by omega)
              exact ⟨_, ⟨hpos, rfl, rowS _ _⟩, fun V => ⟨fun _ => ⟨⟨((_, _), 1), by omega, hs _ (sq_same hh)⟩, ⟨by rfl, qM_set.symm, rfl, rfl, (rowEq_rowF _ _ _ _).2 trivial⟩, by simp only; omega⟩, nofun⟩⟩
        · have gx : (d.X < d.X) = False := eq_false (by omega)
          have gy : (d.Y < d.Y + 2) = True := eq_true (by omega)
          have hen : (⟨d.X, d.Y + 2⟩ : CC) ∈ nb2 d := by simp [nb2]
          have hmp : mgP d (⟨d.X, d.Y + 2⟩ : CC) = (d, (⟨d.X, d.Y + 2⟩ : CC)) := if_pos (by simp only; omega)
          have hd1 : d ∈ Q1 := by rw [i2]; simp
          have hskip : ¬ (frB p_W p_H p_CellsL (d.X) (d.Y + 2) = true ∧ qHas q1 (d.X) (d.Y + 2) = false) → ∀ q2, sq q2 = sq q1 → (⟨sq q2, Q1⟩ : LS) = ((nb2 d).take 2).foldl (lpD p_W p_H p_CellsL d) ⟨sq q, d :: Q⟩ := by
            intro hno q2 e2
            show _ = lpD p_W p_H p_CellsL d (((nb2 d).take 1).foldl (lpD p_W p_H p_CellsL d) ⟨sq q, d :: Q⟩) (⟨d.X, d.Y + 2⟩ : CC)
            rw [← hz, e2]
            unfold lpD
            rw [if_neg]
            rw [sq_has]; exact hno
          have hadd : ∀ G G', frB p_W p_H p_CellsL (d.X) (d.Y + 2) = true → qHas q1 (d.X) (d.Y + 2) = false → (⟨sq (qMrg (qBlk q1 (⟨d.X, d.Y + 2⟩ : CC) G) (mgP d (⟨d.X, d.Y + 2⟩ : CC)).1 (mgP d (⟨d.X, d.Y + 2⟩ : CC)).2 G'), Q1 ++ [(⟨d.X, d.Y + 2⟩ : CC)]⟩ : LS) = ((nb2 d).take 2).foldl (lpD p_W p_H p_CellsL d) ⟨sq q, d :: Q⟩ := by
            intro G G' h1 h2
            show _ = lpD p_W p_H p_CellsL d (((nb2 d).take 1).foldl (lpD p_W p_H p_CellsL d) ⟨sq q, d :: Q⟩) (⟨d.X, d.Y + 2⟩ : CC)
            rw [← hz, sq_mrg, sq_blk]
            unfold lpD
            rw [if_pos ⟨h1, by rw [sq_has]; exact h2⟩]
            rfl
          rw [hmp] at hadd
          cases hh : qHas q1 (d.X) (d.Y + 2) with
          | false =>
            cases hf : frB p_W p_H p_CellsL (d.X) (d.Y + 2) with
            | false =>
              have hs := hskip (by rw [hf]; simp)
              clear hadd hskip
              simp (config := {maxSteps := 10000000}) only [y20L1, y20L1b, push_cast, Nat.reduceAdd, Nat.reduceSub, Nat.reduceLeDiff, Nat.reduceEqDiff, Nat.reduceBEq, Nat.reduceMul, Nat.reduceLT, ↓reduceIte, reduceCtorEq, Int.reduceLE, Int.reduceLT, Int.reduceEq, Int.reduceMul, Int.reduceAdd, Int.reduceSub, Int.reduceNeg, Int.reduceToNat, Int.reduceNe, g33, g37, g38, g34, g39m, g40m, shF_zero, hf, hh, getM_qM0 hh, gx, gy]
              exact ⟨hp, ⟨((q1, Q1), 2), by omega, hs q1 rfl⟩, ⟨by rfl, rfl, rfl, rfl, (rowEq_rowF _ _ _ _).2 trivial⟩, by simp only; omega⟩
            | true =>
              have ad := fun G G' => hadd G G' hf hh
              clear hadd hskip
              have hn : ¬ qH (sq q1) (⟨d.X, d.Y + 2⟩ : CC) := by unfold qH; rw [sq_has]; simp [hh]
              obtain ⟨l1, hr1⟩ := i1.r
              obtain ⟨m1, _⟩ := lp_add hball i1.j hr1 (i1.qh d hd1) hde hen hf hn
              rw [hmp] at m1
              have hout := blk_out i1.j (nb2_ev hde hen) hn
              have hnil : ∀ u : CC, (u = (⟨d.X, d.Y + 2⟩ : CC) ∨ u = blkA (⟨d.X, d.Y + 2⟩ : CC) ∨ u = blkD (⟨d.X, d.Y + 2⟩ : CC) ∨ u = blkE (⟨d.X, d.Y + 2⟩ : CC)) → qGet q1 u.X u.Y = [] := fun u hu => by
                have := qR_nil (hout u hu)
                rwa [qR, sq_get] at this
              have hef := frB_in hf
              have hlQ := Nat.le_trans i3 (lpWay_len hw)
              unfold lpMu at hlQ
              simp only at hlQ
              simp (config := {maxSteps := 10000000}) only [y20L1, y20L1b, push_cast, Nat.reduceAdd, Nat.reduceSub, Nat.reduceLeDiff, Nat.reduceEqDiff, Nat.reduceBEq, Nat.reduceMul, Nat.reduceLT, ↓reduceIte, reduceCtorEq, Int.reduceLE, Int.reduceLT, Int.reduceEq, Int.reduceMul, Int.reduceAdd, Int.reduceSub, Int.reduceNeg, Int.reduceToNat, Int.reduceNe, g33, g37, g38, g34, g39m, g40m, shF_zero, hf, hh, getM_qM0 hh, gx, gy]
              refine ⟨hp, ⟨⟨by omega, by omega⟩, ⟨by omega, by omega⟩, hnil _ (.inl rfl), hnil _ (.inr (.inl rfl)), hnil _ (.inr (.inr (.inl rfl))), hnil _ (.inr (.inr (.inr rfl)))⟩, fun G => ⟨⟨⟨by omega, by omega⟩, ⟨by omega, by omega⟩, mOk_sq (by rw [sq_blk]; exact m1)⟩, fun G1 => ⟨by omega, ⟨((_, _), 2), by omega, ad (G 0) (G1 0)⟩, ⟨by rfl, rfl, rfl, push_eq (E := eC) (x := (⟨d.X, d.Y + 2⟩ : CC)) rfl⟩, by simp only; omega⟩⟩⟩
          | true =>
            have hs := hskip (by rw [hh]; simp)
            clear hadd hskip
            have hpos : 0 < (qGet q1 (d.X) (d.Y + 2)).length := by
              have := LI_pos (u := (⟨d.X, d.Y + 2⟩ : CC)) i1 (by unfold qH; simp only; rw [sq_has]; exact hh)
              rwa [qR, sq_get] at this
            cases hf : frB p_W p_H p_CellsL (d.X) (d.Y + 2) with
            | false =>
              simp (config := {maxSteps := 10000000}) only [y20L1, y20L1b, push_cast, Nat.reduceAdd, Nat.reduceSub, Nat.reduceLeDiff, Nat.reduceEqDiff, Nat.reduceBEq, Nat.reduceMul, Nat.reduceLT, ↓reduceIte, reduceCtorEq, Int.reduceLE, Int.reduceLT, Int.reduceEq, Int.reduceMul, Int.reduceAdd, Int.reduceSub, Int.reduceNeg, Int.reduceToNat, Int.reduceNe, g33, g37, g38, g34, g39m, g40m, shF_zero, hf, hh, getM_qM1 hh, gx, gy]
              exact ⟨hp, _, ⟨hpos, rfl, rowS _ _⟩, fun V => ⟨⟨((_, _), 2), by omega, hs _ (sq_same hh)⟩, ⟨by rfl, qM_set.symm, rfl, rfl, (rowEq_rowF _ _ _ _).2 trivial⟩, by simp only; omega⟩⟩
            | true =>
              simp (config := {maxSteps := 10000000}) only [y20L1, y20L1b, push_cast, Nat.reduceAdd, Nat.reduceSub, Nat.reduceLeDiff, Nat.reduceEqDiff, Nat.reduceBEq, Nat.reduceMul, Nat.reduceLT, ↓reduceIte, reduceCtorEq, Int.reduceLE, Int.reduceLT, Int.reduceEq, Int.reduceMul, Int.reduceAdd, Int.reduceSub, Int.reduceNeg, Int.reduceToNat, Int.reduceNe, g33, g37, g38, g34, g39m, g40m, shF_zero, hf, hh, getM_qM1 hh, gx, gy]
              refine ⟨hp, fun b hb => ?_⟩
              obtain rfl : b = false := by
                cases b with
                | false => rfl
                | true => exact absurd (hb rfl) (by omega)
              exact ⟨_, ⟨hpos, rfl, rowS _ _⟩, fun V => ⟨fun _ => ⟨⟨((_, _), 2), by omega, hs _ (sq_same hh)⟩, ⟨by rfl, qM_set.symm, rfl, rfl, (rowEq_rowF _ _ _ _).2 trivial⟩, by simp only; omega⟩, nofun⟩⟩
        · have gx : (d.X < d.X - 2) = False := eq_false (by omega)
          have gy : (d.Y < d.Y) = False := eq_false (by omega)
          have hen : (⟨d.X - 2, d.Y⟩ : CC) ∈ nb2 d := by simp [nb2]
          have hmp : mgP d (⟨d.X - 2, d.Y⟩ : CC) = ((⟨d.X - 2, d.Y⟩ : CC), d) := if_neg (by simp only; omega)
          have hd1 : d ∈ Q1 := by rw [i2]; simp
          have hskip : ¬ (frB p_W p_H p_CellsL (d.X - 2) (d.Y) = true ∧ qHas q1 (d.X - 2) (d.Y) = false) → ∀ q2, sq q2 = sq q1 → (⟨sq q2, Q1⟩ : LS) = ((nb2 d).take 3).foldl (lpD p_W p_H p_CellsL d) ⟨sq q, d :: Q⟩ := by
            intro hno q2 e2
            show _ = lpD p_W p_H p_CellsL d (((nb2 d).take 2).foldl (lpD p_W p_H p_CellsL d) ⟨sq q, d :: Q⟩) (⟨d.X - 2, d.Y⟩ : CC)
            rw [← hz, e2]
            unfold lpD
            rw [if_neg]
            rw [sq_has]; exact hno
          have hadd : ∀ G G', frB p_W p_H p_CellsL (d.X - 2) (d.Y) = true → qHas q1 (d.X - 2) (d.Y) = false → (⟨sq (qMrg (qBlk q1 (⟨d.X - 2, d.Y⟩ : CC) G) (mgP d (⟨d.X - 2, d.Y⟩ : CC)).1 (mgP d (⟨d.X - 2, d.Y⟩ : CC)).2 G'), Q1 ++ [(⟨d.X - 2, d.Y⟩ : CC)]⟩ : LS) = ((nb2 d).take 3).foldl (lpD p_W p_H p_CellsL d) ⟨sq q, d :: Q⟩ := by
            intro G G' h1 h2
            show _ = lpD p_W p_H p_CellsL d (((nb2 d).take 2).foldl (lpD p_W p_H p_CellsL d) ⟨sq q, d :: Q⟩) (⟨d.X - 2, d.Y⟩ : CC)
            rw [← hz, sq_mrg, sq_blk]
            unfold lpD
            rw [if_pos ⟨h1, by rw [sq_has]; exact h2⟩]
            rfl
          rw [hmp] at hadd
          cases hh : qHas q1 (d.X - 2) (d.Y) with
          | false =>
            cases hf : frB p_W p_H p_CellsL (d.X - 2) (d.Y) with
            | false =>
              have hs := hskip (by rw [hf]; simp)
              clear hadd hskip
              simp (config := {maxSteps := 10000000}) only [y20L1, y20L1b, push_cast, Nat.reduceAdd, Nat.reduceSub, Nat.reduceLeDiff, Nat.reduceEqDiff, Nat.reduceBEq, Nat.reduceMul, Nat.reduceLT, ↓reduceIte, reduceCtorEq, Int.reduceLE, Int.reduceLT, Int.reduceEq, Int.reduceMul, Int.reduceAdd, Int.reduceSub, Int.reduceNeg, Int.reduceToNat, Int.reduceNe, g33, g37, g38, g34, g39m, g40m, shF_zero, hf, hh, getM_qM0 hh, gx, gy]
              exact ⟨hp, ⟨((q1, Q1), 3), by omega, hs q1 rfl⟩, ⟨by rfl, rfl, rfl, rfl, (rowEq_rowF _ _ _ _).2 trivial⟩, by simp only; omega⟩
            | true =>
              have ad := fun G G' => hadd G G' hf hh
              clear hadd hskip
              have hn : ¬ qH (sq q1) (⟨d.X - 2, d.Y⟩ : CC) := by unfold qH; rw [sq_has]; simp [hh]
              obtain ⟨l1, hr1⟩ := i1.r
              obtain ⟨m1, _⟩ := lp_add hball i1.j hr1 (i1.qh d hd1) hde hen hf hn
              rw [hmp] at m1
              have hout := blk_out i1.j (nb2_ev hde hen) hn
              have hnil : ∀ u : CC, (u = (⟨d.X - 2, d.Y⟩ : CC) ∨ u = blkA (⟨d.X - 2, d.Y⟩ : CC) ∨ u = blkD (⟨d.X - 2, d.Y⟩ : CC) ∨ u = blkE (⟨d.X - 2, d.Y⟩ : CC)) → qGet q1 u.X u.Y = [] := fun u hu => by
                have := qR_nil (hout u hu)
                rwa [qR, sq_get] at this
              have hef := frB_in hf
              have hlQ := Nat.le_trans i3 (lpWay_len hw)
              unfold lpMu at hlQ
              simp only at hlQ
              simp (config := {maxSteps := 10000000}) only [y20L1, y20L1b, push_cast, Nat.reduceAdd, Nat.reduceSub, Nat.reduceLeDiff, Nat.reduceEqDiff, Nat.reduceBEq, Nat.reduceMul, Nat.reduceLT, ↓reduceIte, reduceCtorEq, Int.reduceLE, Int.reduceLT, Int.reduceEq, Int.reduceMul, Int.reduceAdd, Int.reduceSub, Int.reduceNeg, Int.reduceToNat, Int.reduceNe, g33, g37, g38, g34, g39m, g40m, shF_zero, hf, hh, getM_qM0 hh, gx, gy]
              refine ⟨hp, ⟨⟨by omega, by omega⟩, ⟨by omega, by omega⟩, hnil _ (.inl rfl), hnil _ (.inr (.inl rfl)), hnil _ (.inr (.inr (.inl rfl))), hnil _ (.inr (.inr (.inr rfl)))⟩, fun G => ⟨⟨⟨by omega, by omega⟩, ⟨by omega, by omega⟩, mOk_sq (by rw [sq_blk]; exact m1)⟩, fun G1 => ⟨by omega, ⟨((_, _), 3), by omega, ad (G 0) (G1 0)⟩, ⟨by rfl, rfl, rfl, push_eq (E := eC) (x := (⟨d.X - 2, d.Y⟩ : CC)) rfl⟩, by simp only; omega⟩⟩⟩
          | true =>
            have hs := hskip (by rw [hh]; simp)
            clear hadd hskip
            have hpos : 0 < (qGet q1 (d.X - 2) (d.Y)).length := by
              have := LI_pos (u := (⟨d.X - 2, d.Y⟩ : CC)) i1 (by unfold qH; simp only; rw [sq_has]; exact hh)
              rwa [qR, sq_get] at this
            cases hf : frB p_W p_H p_CellsL (d.X - 2) (d.Y) with
            | false =>
              simp (config := {maxSteps := 10000000}) only [y20L1, y20L1b, push_cast, Nat.reduceAdd, Nat.reduceSub, Nat.reduceLeDiff, Nat.reduceEqDiff, Nat.reduceBEq, Nat.reduceMul, Nat.reduceLT, ↓reduceIte, reduceCtorEq, Int.reduceLE, Int.reduceLT, Int.reduceEq, Int.reduceMul, Int.reduceAdd, Int.reduceSub, Int.reduceNeg, Int.reduceToNat, Int.reduceNe, g33, g37, g38, g34, g39m, g40m, shF_zero, hf, hh, getM_qM1 hh, gx, gy]
              exact ⟨hp, _, ⟨hpos, rfl, rowS _ _⟩, fun V => ⟨⟨((_, _), 3), by omega, hs _ (sq_same hh)⟩, ⟨by rfl, qM_set.symm, rfl, rfl, (rowEq_rowF _ _ _ _).2 trivial⟩, by simp only; omega⟩⟩
            | true =>
              simp (config := {maxSteps := 10000000}) only [y20L1, y20L1b, push_cast, Nat.reduceAdd, Nat.reduceSub, Nat.reduceLeDiff, Nat.reduceEqDiff, Nat.reduceBEq, Nat.reduceMul, Nat.reduceLT, ↓reduceIte, reduceCtorEq, Int.reduceLE, Int.reduceLT, Int.reduceEq, Int.reduceMul, Int.reduceAdd, Int.reduceSub, Int.reduceNeg, Int.reduceToNat, Int.reduceNe, g33, g37, g38, g34, g39m, g40m, shF_zero, hf, hh, getM_qM1 hh, gx, gy]
              refine ⟨hp, fun b hb => ?_⟩
              obtain rfl : b = false := by
                cases b with
                | false => rfl
                | true => exact absurd (hb rfl) (by omega)
              exact ⟨_, ⟨hpos, rfl, rowS _ _⟩, fun V => ⟨fun _ => ⟨⟨((_, _), 3), by omega, hs _ (sq_same hh)⟩, ⟨by rfl, qM_set.symm, rfl, rfl, (rowEq_rowF _ _ _ _).2 trivial⟩, by simp only; omega⟩, nofun⟩⟩
        · have gx : (d.X < d.X) = False := eq_false (by omega)
          have gy : (d.Y < d.Y - 2) = False := eq_false (by omega)
          have hen : (⟨d.X, d.Y - 2⟩ : CC) ∈ nb2 d := by simp [nb2]
          have hmp : mgP d (⟨d.X, d.Y - 2⟩ : CC) = ((⟨d.X, d.Y - 2⟩ : CC), d) := if_neg (by simp only; omega)
          have hd1 : d ∈ Q1 := by rw [i2]; simp
          have hskip : ¬ (frB p_W p_H p_CellsL (d.X) (d.Y - 2) = true ∧ qHas q1 (d.X) (d.Y - 2) = false) → ∀ q2, sq q2 = sq q1 → (⟨sq q2, Q1⟩ : LS) = ((nb2 d).take 4).foldl (lpD p_W p_H p_CellsL d) ⟨sq q, d :: Q⟩ := by
            intro hno q2 e2
            show _ = lpD p_W p_H p_CellsL d (((nb2 d).take 3).foldl (lpD p_W p_H p_CellsL d) ⟨sq q, d :: Q⟩) (⟨d.X, d.Y - 2⟩ : CC)
            rw [← hz, e2]
            unfold lpD
            rw [if_neg]
            rw [sq_has]; exact hno
          have hadd : ∀ G G', frB p_W p_H p_CellsL (d.X) (d.Y - 2) = true → qHas q1 (d.X) (d.Y - 2) = false → (⟨sq (qMrg (qBlk q1 (⟨d.X, d.Y - 2⟩ : CC) G) (mgP d (⟨d.X, d.Y - 2⟩ : CC)).1 (mgP d (⟨d.X, d.Y - 2⟩ : CC)).2 G'), Q1 ++ [(⟨d.X, d.Y - 2⟩ : CC)]⟩ : LS) = ((nb2 d).take 4).foldl (lpD p_W p_H p_CellsL d) ⟨sq q, d :: Q⟩ := by
            intro G G' h1 h2
            show _ = lpD p_W p_H p_CellsL d (((nb2 d).take 3).foldl (lpD p_W p_H p_CellsL d) ⟨sq q, d :: Q⟩) (⟨d.X, d.Y - 2⟩ : CC)
            rw [← hz, sq_mrg, sq_blk]
            unfold lpD
            rw [if_pos ⟨h1, by rw [sq_has]; exact h2⟩]
            rfl
          rw [hmp] at hadd
          cases hh : qHas q1 (d.X) (d.Y - 2) with
          | false =>
            cases hf : frB p_W p_H p_CellsL (d.X) (d.Y - 2) with
            | false =>
              have hs := hskip (by rw [hf]; simp)
              clear hadd hskip
              simp (config := {maxSteps := 10000000}) only [y20L1, y20L1b, push_cast, Nat.reduceAdd, Nat.reduceSub, Nat.reduceLeDiff, Nat.reduceEqDiff, Nat.reduceBEq, Nat.reduceMul, Nat.reduceLT, ↓reduceIte, reduceCtorEq, Int.reduceLE, Int.reduceLT, Int.reduceEq, Int.reduceMul, Int.reduceAdd, Int.reduceSub, Int.reduceNeg, Int.reduceToNat, Int.reduceNe, g33, g37, g38, g34, g39m, g40m, shF_zero, hf, hh, getM_qM0 hh, gx, gy]
              exact ⟨hp, ⟨((q1, Q1), 4), by omega, hs q1 rfl⟩, ⟨by rfl, rfl, rfl, rfl, (rowEq_rowF _ _ _ _).2 trivial⟩, by simp only; omega⟩
            | true =>
              have ad := fun G G' => hadd G G' hf hh
              clear hadd hskip
              have hn : ¬ qH (sq q1) (⟨d.X, d.Y - 2⟩ : CC) := by unfold qH; rw [sq_has]; simp [hh]
              obtain ⟨l1, hr1⟩ := i1.r
              obtain ⟨m1, _⟩ := lp_add hball i1.j hr1 (i1.qh d hd1) hde hen hf hn
              rw [hmp] at m1
              have hout := blk_out i1.j (nb2_ev hde hen) hn
              have hnil : ∀ u : CC, (u = (⟨d.X, d.Y - 2⟩ : CC) ∨ u = blkA (⟨d.X, d.Y - 2⟩ : CC) ∨ u = blkD (⟨d.X, d.Y - 2⟩ : CC) ∨ u = blkE (⟨d.X, d.Y - 2⟩ : CC)) → qGet q1 u.X u.Y = [] := fun u hu => by
                have := qR_nil (hout u hu)
                rwa [qR, sq_get] at this
              have hef := frB_in hf
              have hlQ := Nat.le_trans i3 (lpWay_len hw)
              unfold lpMu at hlQ
              simp only at hlQ
              simp (config := {maxSteps := 10000000}) only [y20L1, y20L1b, push_cast, Nat.reduceAdd, Nat.reduceSub, Nat.reduceLeDiff, Nat.reduceEqDiff, Nat.reduceBEq, Nat.reduceMul, Nat.reduceLT, ↓reduceIte, reduceCtorEq, Int.reduceLE, Int.reduceLT, Int.reduceEq, Int.reduceMul, Int.reduceAdd, Int.reduceSub, Int.reduceNeg, Int.reduceToNat, Int.reduceNe, g33, g37, g38, g34, g39m, g40m, shF_zero, hf, hh, getM_qM0 hh, gx, gy]
              refine ⟨hp, ⟨⟨by omega, by omega⟩, ⟨by omega, by omega⟩, hnil _ (.inl rfl), hnil _ (.inr (.inl rfl)), hnil _ (.inr (.inr (.inl rfl))), hnil _ (.inr (.inr (.inr rfl)))⟩, fun G => ⟨⟨⟨by omega, by omega⟩, ⟨by omega, by omega⟩, mOk_sq (by rw [sq_blk]; exact m1)⟩, fun G1 => ⟨by omega, ⟨((_, _), 4), by omega, ad (G 0) (G1 0)⟩, ⟨by rfl, rfl, rfl, push_eq (E := eC) (x := (⟨d.X, d.Y - 2⟩ : CC)) rfl⟩, by simp only; omega⟩⟩⟩
          | true =>
            have hs := hskip (by rw [hh]; simp)
            clear hadd hskip
            have hpos : 0 < (qGet q1 (d.X) (d.Y - 2)).length := by
              have := LI_pos (u := (⟨d.X, d.Y - 2⟩ : CC)) i1 (by unfold qH; simp only; rw [sq_has]; exact hh)
              rwa [qR, sq_get] at this
            cases hf : frB p_W p_H p_CellsL (d.X) (d.Y - 2) with
            | false =>
              simp (config := {maxSteps := 10000000}) only [y20L1, y20L1b, push_cast, Nat.reduceAdd, Nat.reduceSub, Nat.reduceLeDiff, Nat.reduceEqDiff, Nat.reduceBEq, Nat.reduceMul, Nat.reduceLT, ↓reduceIte, reduceCtorEq, Int.reduceLE, Int.reduceLT, Int.reduceEq, Int.reduceMul, Int.reduceAdd, Int.reduceSub, Int.reduceNeg, Int.reduceToNat, Int.reduceNe, g33, g37, g38, g34, g39m, g40m, shF_zero, hf, hh, getM_qM1 hh, gx, gy]
              exact ⟨hp, _, ⟨hpos, rfl, rowS _ _⟩, fun V => ⟨⟨((_, _), 4), by omega, hs _ (sq_same hh)⟩, ⟨by rfl, qM_set.symm, rfl, rfl, (rowEq_rowF _ _ _ _).2 trivial⟩, by simp only; omega⟩⟩
            | true =>
              simp (config := {maxSteps := 10000000}) only [y20L1, y20L1b, push_cast, Nat.reduceAdd, Nat.reduceSub, Nat.reduceLeDiff, Nat.reduceEqDiff, Nat.reduceBEq, Nat.reduceMul, Nat.reduceLT, ↓reduceIte, reduceCtorEq, Int.reduceLE, Int.reduceLT, Int.reduceEq, Int.reduceMul, Int.reduceAdd, Int.reduceSub, Int.reduceNeg, Int.reduceToNat, Int.reduceNe, g33, g37, g38, g34, g39m, g40m, shF_zero, hf, hh, getM_qM1 hh, gx, gy]
              refine ⟨hp, fun b hb => ?_⟩
              obtain rfl : b = false := by
                cases b with
                | false => rfl
                | true => exact absurd (hb rfl) (by omega)
              exact ⟨_, ⟨hpos, rfl, rowS _ _⟩, fun V => ⟨fun _ => ⟨⟨((_, _), 4), by omega, hs _ (sq_same hh)⟩, ⟨by rfl, qM_set.symm, rfl, rfl, (rowEq_rowF _ _ _ _).2 trivial⟩, by simp only; omega⟩, nofun⟩⟩
        · have hst : lpStep p_W p_H p_CellsL ⟨sq q, d :: Q⟩ = ⟨sq q1, Q1.drop 1⟩ := by
            show (⟨(lpC p_W p_H p_CellsL d ⟨sq q, d :: Q⟩).A, (lpC p_W p_H p_CellsL d ⟨sq q, d :: Q⟩).Q.drop 1⟩ : LS) = _
            rw [show lpC p_W p_H p_CellsL d ⟨sq q, d :: Q⟩ = ⟨sq q1, Q1⟩ from hz.symm]
          have hws := lpWay_step hball hp hw (by simp)
          have hmu := (lpStep_ok hball hp hi (by simp)).2
          rw [hst] at hws hmu
          have hq1 : 1 ≤ Q1.length := by rw [i2]; simp
          simp (config := {maxSteps := 10000000}) only [y20L1, push_cast, Nat.reduceAdd, Nat.reduceSub, Nat.reduceLeDiff, Nat.reduceEqDiff, Nat.reduceBEq, Nat.reduceMul, Nat.reduceLT, ↓reduceIte, reduceCtorEq, Int.reduceLE, Int.reduceLT, Int.reduceEq, Int.reduceMul, Int.reduceAdd, Int.reduceSub, Int.reduceNeg, Int.reduceToNat, Int.reduceNe, g33, g37, g38, g34, g39m, g40m, shF_zero]
          refine ⟨by omega, ⟨(q1, Q1.drop 1), hws⟩, ⟨rfl, rfl, by rw [List.length_drop]; omega, ?_⟩, hmu⟩
          rw [shF_drop]
          exact (rowEq_rowF _ _ _ _).2 trivial
    · cases hg_
  · cases hg_
end Go.Proofs.Ytnkkhmeojifckaa
