/- A part of the proof of a statement about this seat: how a function is stepped through, and plain laws. No conditions. -/
import Derived.Test.YtiijdbpncpdmdaaGreatRows
import Derived.Test.YtiijdbpncpdmdaaGreatRCSz4
import Derived.Test.YtiijdbpncpdmdaaGreatRCB3
import Derived.KernelRfl
set_option linter.unusedVariables false
set_option linter.unusedSimpArgs false
set_option maxRecDepth 20000
namespace Go.Proofs.YtiijdbpncpdmdaaGreat
open Go.Sx Go.Way
def shR (d e : Int) (r : RobS) : RobS := ⟨r.W, r.H, r.L, r.bT, r.bL, r.bS, r.bR, r.x, r.y, r.h, r.ticks + d, r.bumps + e⟩
def shV (d : Int) (v : EvtL) : EvtL := ⟨v.tick + d, v.turn, v.fwd, v.bump, v.scan⟩
theorem shR_do (d e : Int) (r : RobS) (a : ActL) : doR (shR d e r) a = shR d e (doR r a) := by
  cases h : actOk a
  · rw [doR_f h, doR_f h]
  · rw [doR_t h, doR_t h]
    have e1 : stO (shR d e r) a = stO r a := rfl
    unfold shR
    rw [show stO ⟨r.W, r.H, r.L, r.bT, r.bL, r.bS, r.bR, r.x, r.y, r.h, r.ticks + d, r.bumps + e⟩ a = stO r a from rfl]
    congr 1
    · simp only; omega
    · simp only; omega
theorem shR_ev (d e : Int) {r : RobS} {a : ActL} (h : actOk a = true) : doV (shR d e r) a = shV d (doV r a) := by
  rw [doV_t h, doV_t h]
  have e1 : stO (shR d e r) a = stO r a := rfl
  rw [e1]
  unfold shV shR
  simp only
  congr 1
  omega
theorem getD_drop' (A : List ActL) (k i : Nat) : (A.drop k).getD i eAct.dflt = A.getD (k + i) eAct.dflt := by
  rw [List.getD_eq_getElem?_getD, List.getD_eq_getElem?_getD, List.getElem?_drop]
theorem getD_take' (A : List ActL) {k i : Nat} (h : i < k) : (A.take k).getD i eAct.dflt = A.getD i eAct.dflt := by
  rw [List.getD_eq_getElem?_getD, List.getD_eq_getElem?_getD, List.getElem?_take_of_lt h]
theorem rbK_take (r : RobS) (A : List ActL) {k : Nat} : ∀ i, i ≤ k → rbK r (A.take k) i = rbK r A i
  | 0, _ => rfl
  | i + 1, h => by rw [rbK_succ, rbK_succ, rbK_take r A i (by omega), getD_take' A (by omega)]
theorem rbK_drop (r : RobS) (A : List ActL) (k : Nat) : ∀ i, rbK r A (k + i) = rbK (rbK r A k) (A.drop k) i
  | 0 => rfl
  | i + 1 => by rw [rbK_succ, ← rbK_drop r A k i, getD_drop', ← rbK_succ]; rfl
theorem rbK_sh (d e : Int) (r : RobS) (A : List ActL) : ∀ i, rbK (shR d e r) A i = shR d e (rbK r A i)
  | 0 => rfl
  | i + 1 => by rw [rbK_succ, rbK_succ, rbK_sh d e r A i, shR_do]
theorem rbK_ticks (r : RobS) (A : List ActL) : ∀ k, (∀ i, i < k → actOk (A.getD i eAct.dflt) = true) → (rbK r A k).ticks = r.ticks + k
  | 0, _ => by show r.ticks = _; omega
  | k + 1, h => by
    rw [rbK_succ, doR_t (h k (by omega))]
    show (rbK r A k).ticks + 1 = _
    rw [rbK_ticks r A k (fun i hi => h i (by omega))]
    omega
theorem rnew_of {W H : Int} {L : List Int} {bT bL bS bR x y h : Int} (hs : okS ⟨W, H, L, bT, bL, bS, bR, x, y, h, 0, 0⟩) : rnewE W H L bT bL bS bR x y h = 0 := by
  obtain ⟨h1, h2, h3⟩ := hs
  simp only at h1 h2 h3
  have q := fit_iff.1 h1
  rw [rnew_fit (ckV_ok.2 q.1) ⟨⟨h3.1, h3.2.1, h3.2.2.1, h3.2.2.2⟩, q.2.1, h2⟩, if_neg (by rw [h1]; decide)]
section
variable {W H : Int} {L : List Int} {bT bL bS bR x y h : Int} {A : List ActL}
theorem runE_of (h0 : rnewE W H L bT bL bS bR x y h = 0) (ha : ∀ i, i < A.length → actOk (A.getD i eAct.dflt) = true) : runE W H L bT bL bS bR x y h A = 0 := (run_ok h0 ha).1
theorem run_take (e : runE W H L bT bL bS bR x y h A = 0) {k : Nat} (hk : k ≤ A.length) : runE W H L bT bL bS bR x y h (A.take k) = 0 ∧
    runV W H L bT bL bS bR x y h (A.take k) = (runV W H L bT bL bS bR x y h A).take k ∧ runP W H L bT bL bS bR x y h (A.take k) = (runP W H L bT bL bS bR x y h A).take k := by
  have g := run_good e
  have hl : (A.take k).length = k := by rw [List.length_take]; omega
  have e1 : runE W H L bT bL bS bR x y h (A.take k) = 0 := runE_of g.1 fun i hi => by rw [getD_take' A (by omega)]; exact g.2 i (by omega)
  have v1 := runV_at e1
  have v2 := runV_at e
  have p1 := runP_at e1
  have p2 := runP_at e
  rw [hl] at v1 p1
  refine ⟨e1, getD_ext eEvt.dflt (by rw [v1.1, List.length_take, v2.1]; omega) fun i hi => ?_, getD_ext eQ.dflt (by rw [p1.1, List.length_take, p2.1]; omega) fun i hi => ?_⟩
  · rw [v1.1] at hi
    rw [v1.2 i hi, List.getD_eq_getElem?_getD (l := (runV W H L bT bL bS bR x y h A).take k), List.getElem?_take_of_lt hi, ← List.getD_eq_getElem?_getD, v2.2 i (by omega), rbK_take _ A i (by omega), getD_take' A hi]
  · rw [p1.1] at hi
    rw [p1.2 i hi, List.getD_eq_getElem?_getD (l := (runP W H L bT bL bS bR x y h A).take k), List.getElem?_take_of_lt hi, ← List.getD_eq_getElem?_getD, p2.2 i (by omega), rbK_take _ A (i + 1) (by omega)]
theorem run_drop (e : runE W H L bT bL bS bR x y h A = 0) {k : Nat} (hk : k ≤ A.length) {X Y Hd : Int} (hx : (rbK (rob0 W H L bT bL bS bR x y h) A k).x = X) (hy : (rbK (rob0 W H L bT bL bS bR x y h) A k).y = Y) (hh : (rbK (rob0 W H L bT bL bS bR x y h) A k).h = Hd) :
    runE W H L bT bL bS bR X Y Hd (A.drop k) = 0 ∧ runP W H L bT bL bS bR X Y Hd (A.drop k) = (runP W H L bT bL bS bR x y h A).drop k ∧
    (runV W H L bT bL bS bR X Y Hd (A.drop k)).length = A.length - k ∧ ∀ i, i < A.length - k → shV k ((runV W H L bT bL bS bR X Y Hd (A.drop k)).getD i eEvt.dflt) = (runV W H L bT bL bS bR x y h A).getD (k + i) eEvt.dflt := by
  have g := run_good e
  have hl : (A.drop k).length = A.length - k := List.length_drop
  have hs := run_at e k hk
  have hkp := rbK_keep (rob0 W H L bT bL bS bR x y h) A k
  have ht := rbK_ticks (rob0 W H L bT bL bS bR x y h) A k fun i hi => g.2 i (by omega)
  have hR : rbK (rob0 W H L bT bL bS bR x y h) A k = shR k (rbK (rob0 W H L bT bL bS bR x y h) A k).bumps (rob0 W H L bT bL bS bR X Y Hd) := by
    generalize rbK (rob0 W H L bT bL bS bR x y h) A k = R at *
    obtain ⟨rW, rH, rL, r1, r2, r3, r4, rx, ry, rh, rt, rb⟩ := R
    simp only at *
    obtain ⟨k1, k2, k3, k4, k5, k6, k7⟩ := hkp
    have k1 : rW = W := k1
    have k2 : rH = H := k2
    have k3 : rL = L := k3
    have k4 : r1 = bT := k4
    have k5 : r2 = bL := k5
    have k6 : r3 = bS := k6
    have k7 : r4 = bR := k7
    have ht : rt = 0 + k := ht
    subst k1 k2 k3 k4 k5 k6 k7 hx hy hh ht
    unfold shR rob0
    simp
  have hn : rnewE W H L bT bL bS bR X Y Hd = 0 := by
    rw [hR] at hs
    exact rnew_of hs
  have e1 : runE W H L bT bL bS bR X Y Hd (A.drop k) = 0 := runE_of hn fun i hi => by rw [getD_drop']; exact g.2 _ (by omega)
  have v1 := runV_at e1
  have v2 := runV_at e
  have p1 := runP_at e1
  have p2 := runP_at e
  rw [hl] at v1 p1
  have key : ∀ i, rbK (rob0 W H L bT bL bS bR x y h) A (k + i) = shR k (rbK (rob0 W H L bT bL bS bR x y h) A k).bumps (rbK (rob0 W H L bT bL bS bR X Y Hd) (A.drop k) i) := fun i => by
    rw [rbK_drop]
    conv => lhs; rw [hR]
    rw [rbK_sh]
  refine ⟨e1, getD_ext eQ.dflt (by rw [p1.1, List.length_drop, p2.1]) fun i hi => ?_, v1.1, fun i hi => ?_⟩
  · rw [p1.1] at hi
    rw [p1.2 i hi, List.getD_eq_getElem?_getD (l := (runP W H L bT bL bS bR x y h A).drop k), List.getElem?_drop, ← List.getD_eq_getElem?_getD, p2.2 (k + i) (by omega), show k + i + 1 = k + (i + 1) by omega, key]
    rfl
  · rw [v1.2 i hi, v2.2 (k + i) (by omega), key, shR_ev _ _ (g.2 (k + i) (by omega)), getD_drop']
end
theorem deep_cut {α : Type} {D : DEnc α} {L : List α} (V : Nat → Nat → Value) {l n : Nat} (h : l + n ≤ L.length) :
    decD D n (fun e j => deepF D L V (e + l) j) (fun e j => deepC D L (e + l) j) = (L.drop l).take n ∧ ∀ sz, isDeep D n sz (fun e j => deepF D L V (e + l) j) (fun e j => deepC D L (e + l) j) ↔ sz = D.sz := by
  have e := decD_is (isD_sub (D := D) L V h)
  refine ⟨e, fun sz => ⟨fun q => q.1, fun q => ⟨q, ?_⟩⟩⟩
  rw [e]; exact isD_sub L V h
theorem deep_cut0 {α : Type} {D : DEnc α} {L : List α} (V : Nat → Nat → Value) {n : Nat} (h : n ≤ L.length) :
    decD D n (deepF D L V) (deepC D L) = L.take n ∧ ∀ sz, isDeep D n sz (deepF D L V) (deepC D L) ↔ sz = D.sz := deep_cut (l := 0) V (by omega)
theorem row_cut {α : Type} {E : Enc α} {L : List α} {l n : Nat} (h : l + n ≤ L.length) :
    decL E n (shF l (rowF E L)) = (L.drop l).take n ∧ ∀ sz, isRow E n sz (shF l (rowF E L)) ↔ (n = 0 ∨ sz = E.sz) := by
  have g : ∀ e j, e < n → shF l (rowF E L) e j = rowF E ((L.drop l).take n) e j := by
    intro e j he
    have e1 : ((L.drop l).take n)[e]? = L[e + l]? := by
      rw [List.getElem?_take_of_lt he, List.getElem?_drop, Nat.add_comm]
    unfold shF rowF
    rw [List.getD_eq_getElem?_getD, List.getD_eq_getElem?_getD, e1]
  have hl : ((L.drop l).take n).length = n := by simp; omega
  have d : decL E n (shF l (rowF E L)) = (L.drop l).take n := by
    have := decL_rowF (E := E) ((L.drop l).take n)
    rw [hl] at this
    rw [← this]
    unfold decL
    refine List.map_congr_left fun e he => ?_
    rw [List.mem_range] at he
    congr 1
    funext j
    exact g e j he
  refine ⟨d, fun sz => ⟨fun q => q.1, fun q => ⟨q, fun e j he hj => ?_⟩⟩⟩
  rw [d]; exact g e j he
def x5L0 : XC := (.seq (.seq (.reg false [O1 143 .mv 18, O1 144 .mv 15, O1 145 .lenS 144, O2 146 (.bin .lss) 143 145]) (.cond (.t 146) .skip (.exit 0))) (.seq (.opn 7 10018 4 (.opn 15 18 4 (.block 1 (.seq (.reg false [O1 149 .mv 15, O1 150 .mv 18, O2 151 (.ixS 5) 149 150, O1 152 (.loadN 5) 151, ⟨(some 19), (.alloc 50 [(iV 0), (iV 0), (iV 0), (.bool false), (.slice none 0 0)]), [], none⟩, ⟨none, (.store 5), [(.t 19), (.t 152)], none⟩]) (.seq (.reg false [O1 153 (.fld 0) 19, O1 154 .load1 153, O1 155 .mv 10, O2 156 (.bin .add) 154 155, O1 157 (.fld 0) 19, ⟨none, (.store 1), [(.t 157), (.t 156)], none⟩]) (.seq (.reg true [O1 158 (.loadN 5) 19, O1 159 .mv 7, O1 160 .mv 10, O1 161 .mv 18, O2 162 (.bin .add) 160 161, O2 163 (.ixS 5) 159 162, O1 164 (.loadN 5) 163, O2 165 (.call 17) 158 164, O1 166 (.un .not) 165]) (.cond (.t 166) (.seq (.reg false [K1 6 .mv (.bool false)]) .ret) .skip))))))) (.reg false [O1 147 .mv 18, K2 148 (.bin .add) 147 (iV 1), O1 18 .mv 148])))
def x5 : XFn := ⟨167, (.seq (.reg false [O1 3 (.box 30) 0, K1 6 .mv (.bool false)]) (.seq (.seq (.reg false [⟨(some 20), (.call 6), [], none⟩, O1 21 (.un .not) 20, O1 22 .mv 21, G1 23 (.loadN 10) 3 22 false, G1 24 .mv 1 22 false, G2 25 (.call 7) 23 24 22 false, G1 26 (.un .not) 25 22 false, ⟨(some 27), .pick, [(.t 22), (.k (.bool true)), (.t 26)], none⟩]) (.cond (.t 27) (.seq (.reg false [⟨(some 28), (.call 6), [], none⟩, O1 6 .mv 28]) .ret) .skip)) (.seq (.reg false [O1 30 (.fld 0) 3, O1 31 (.loadN 3) 30, O1 32 (.fld 3) 3, O1 33 (.loadN 4) 32, O1 34 (.fld 7) 3, O1 35 (.loadN 3) 34, O1 36 .mv 1, ⟨(some 37), (.call 18), [(.t 31), (.t 33), (.t 35), (.t 36)], none⟩, O1 29 .mv 37, O1 38 (.ext 0) 29, O1 39 (.ext 1) 29, O1 40 (.ext 2) 29, O1 7 .mv 38, O1 8 .mv 39, O1 9 .mv 40]) (.seq (.seq (.reg false [O1 41 .mv 9, K2 42 (.bin .neq) 41 (iV 0)]) (.cond (.t 42) (.seq (.reg false [O1 43 .mv 7, O1 44 .lenS 43, K2 45 (.bin .eql) 44 (iV 0), O1 46 .mv 45, G1 47 .mv 8 46 true, G1 48 .lenS 47 46 true, GK 49 (.bin .eql) 48 (iV 0) 46 true, ⟨(some 50), .pick, [(.t 46), (.t 49), (.k (.bool false))], none⟩, O1 6 .mv 50]) .ret) .skip)) (.seq (.seq (.reg false [O1 51 .mv 7, O1 52 .lenS 51, O1 53 .mv 1, O1 54 .lenS 53, O2 55 (.bin .neq) 52 54, O1 56 .mv 55, G1 57 .mv 8 56 false, G1 58 .lenS 57 56 false, G1 59 .mv 1 56 false, G1 60 .lenS 59 56 false, G2 61 (.bin .neq) 58 60 56 false, ⟨(some 62), .pick, [(.t 56), (.k (.bool true)), (.t 61)], none⟩]) (.cond (.t 62) (.seq (.reg false [K1 6 .mv (.bool false)]) .ret) .skip)) (.seq (.reg false [O1 63 .mv 2, O1 64 .mv 1, O1 65 .lenS 64, K2 66 (.bin .add) 65 (iV 1), O2 67 (.call 22) 63 66, O1 10 .mv 67]) (.seq (.reg false [O1 68 (.fld 7) 3, O1 69 (.loadN 3) 68, ⟨(some 11), (.alloc 28 [(iV 0), (iV 0), (iV 0)]), [], none⟩, ⟨none, (.store 3), [(.t 11), (.t 69)], none⟩]) (.seq (.cut (.seq (.reg false [O1 70 .mv 10, K2 71 (.bin .gtr) 70 (iV 0)]) (.cond (.t 71) (.reg false [O1 72 .mv 8, O1 73 .mv 10, K2 74 (.bin .sub) 73 (iV 1), O2 75 (.ixS 3) 72 74, O1 76 (.loadN 3) 75, ⟨none, (.store 3), [(.t 11), (.t 76)], none⟩]) .skip))) (.seq (.regD [O1 78 (.fld 0) 3, O1 79 (.loadN 3) 78, O1 80 (.fld 3) 3, O1 81 (.loadN 4) 80, O1 82 (.fld 7) 3, O1 83 (.loadN 3) 82, O1 84 .mv 1, O1 85 .mv 10, O2 86 (.slc 8 false true false) 84 85, ⟨(some 87), (.call 18), [(.t 79), (.t 81), (.t 83), (.t 86)], none⟩, O1 77 .mv 87, O1 88 (.ext 0) 77, O1 89 (.ext 1) 77, O1 90 (.ext 2) 77, O1 12 .mv 88, O1 13 .mv 89, O1 14 .mv 90] [[], [0], [], [2], [], [4], [], [], [6, 7], [1, 0, 3, 2, 5, 4, 8, 6, 7], [9, 1, 0, 3, 2, 5, 4, 8, 6, 7], [10, 9, 1, 0, 3, 2, 5, 4, 8, 6, 7], [10, 9, 1, 0, 3, 2, 5, 4, 8, 6, 7], [10, 9, 1, 0, 3, 2, 5, 4, 8, 6, 7], [11, 10, 9, 1, 0, 3, 2, 5, 4, 8, 6, 7], [12, 10, 9, 1, 0, 3, 2, 5, 4, 8, 6, 7, 14, 11], [13, 10, 9, 1, 0, 3, 2, 5, 4, 8, 6, 7, 15, 12, 14, 11]]) (.seq (.regD [O1 92 (.fld 0) 3, O1 93 (.loadN 3) 92, O1 94 (.fld 3) 3, O1 95 (.loadN 4) 94, O1 96 (.loadN 3) 11, O1 97 .mv 1, O1 98 .mv 10, O2 99 (.slc 8 true false false) 97 98, ⟨(some 100), (.call 18), [(.t 93), (.t 95), (.t 96), (.t 99)], none⟩, O1 91 .mv 100, O1 101 (.ext 0) 91, O1 102 (.ext 1) 91, O1 103 (.ext 2) 91, O1 15 .mv 101, O1 16 .mv 102, O1 17 .mv 103] [[], [0], [], [2], [], [], [], [5, 6], [1, 0, 3, 2, 4, 7, 5, 6], [8, 1, 0, 3, 2, 4, 7, 5, 6], [9, 8, 1, 0, 3, 2, 4, 7, 5, 6], [9, 8, 1, 0, 3, 2, 4, 7, 5, 6], [9, 8, 1, 0, 3, 2, 4, 7, 5, 6], [10, 9, 8, 1, 0, 3, 2, 4, 7, 5, 6], [11, 9, 8, 1, 0, 3, 2, 4, 7, 5, 6, 13, 10], [12, 9, 8, 1, 0, 3, 2, 4, 7, 5, 6, 14, 11, 13, 10]]) (.seq (.seq (.reg false [O1 104 .mv 14, K2 105 (.bin .neq) 104 (iV 0), O1 106 .mv 105, G1 107 .mv 17 106 false, GK 108 (.bin .neq) 107 (iV 0) 106 false, ⟨(some 109), .pick, [(.t 106), (.k (.bool true)), (.t 108)], none⟩, O1 110 .mv 109, G1 111 .mv 12 110 false, G1 112 .mv 7 110 false, G1 113 .mv 10 110 false, G2 114 (.slc 5 false true false) 112 113 110 false, G2 115 (.call 20) 111 114 110 false, G1 116 (.un .not) 115 110 false, ⟨(some 117), .pick, [(.t 110), (.k (.bool true)), (.t 116)], none⟩, O1 118 .mv 117, G1 119 .mv 13 118 false, G1 120 .mv 8 118 false, G1 121 .mv 10 118 false, G2 122 (.slc 3 false true false) 120 121 118 false, G2 123 (.call 21) 119 122 118 false, G1 124 (.un .not) 123 118 false, ⟨(some 125), .pick, [(.t 118), (.k (.bool true)), (.t 124)], none⟩, O1 126 .mv 125, G1 127 .mv 16 126 false, G1 128 .mv 8 126 false, G1 129 .mv 10 126 false, G2 130 (.slc 3 true false false) 128 129 126 false, G2 131 (.call 21) 127 130 126 false, G1 132 (.un .not) 131 126 false, ⟨(some 133), .pick, [(.t 126), (.k (.bool true)), (.t 132)], none⟩, O1 134 .mv 133, G1 135 .mv 15 134 false, G1 136 .lenS 135 134 false, G1 137 .mv 1 134 false, G1 138 .lenS 137 134 false, G1 139 .mv 10 134 false, G2 140 (.bin .sub) 138 139 134 false, G2 141 (.bin .neq) 136 140 134 false, ⟨(some 142), .pick, [(.t 134), (.k (.bool true)), (.t 141)], none⟩]) (.cond (.t 142) (.seq (.reg false [K1 6 .mv (.bool false)]) .ret) .skip)) (.seq (.seq (.reg false [K1 18 .mv (iV 0)]) (.block 0 (.loop x5L0))) (.seq (.reg false [K1 6 .mv (.bool true)]) .ret))))))))))))), [(.s 6)]⟩
theorem x5_ok : xfn Tryz.prog Tryz.f5 = some x5.er := by kernel_rfl
noncomputable def g5 : Con := fun args_ E_ nn_ => match args_ with
  | [.a [.v (.int .i64 s_Plan_W), .v (.int .i64 s_Plan_H), .n s_Plan_Cells, .v (.int .i64 s_Bounds_Turn), .v (.int .i64 s_Bounds_Length), .v (.int .i64 s_Bounds_Slip), .v (.int .i64 s_Bounds_Range), .v (.int .i64 s_At_X), .v (.int .i64 s_At_Y), .v (.int .i64 s_At_H)], .c (.n acts), .c (.v (.int .i64 cut))] => (match rowOf E_ s_Plan_Cells with
    | some (s_Plan_Cells_n, s_Plan_Cells_s, s_Plan_Cells_f) => (match rowD eAct.sz E_ acts with
    | some (acts_n, acts_s, acts_f, acts_c) => some (.q (isRow eU8 s_Plan_Cells_n s_Plan_Cells_s s_Plan_Cells_f ∧ isDeep eAct acts_n acts_s acts_f acts_c ∧ u8s (decL eU8 s_Plan_Cells_n s_Plan_Cells_f) ∧ -9223372036854775808 ≤ cut ∧ cut ≤ 9223372036854775807) (.o (.c (.v (.bool (true))))))
    | none => none)
    | none => none)
  | _ => none
set_option maxHeartbeats 1000000 in
theorem c5 : COk Tryz.prog 5 g5 := by
  refine cok_q Tryz.func5 x5_ok (by kernel_rfl) (cok_tab (cok_cons c6 (cok_cons c7 (cok_cons c18 (cok_cons c22 (cok_cons c20 (cok_cons c21 (cok_cons c17 cok_nil)))))))) ?_
  intro args_ E_ nn_ cr_ hg_
  unfold g5 at hg_
  split at hg_
  · rename_i s_Plan_W s_Plan_H s_Plan_Cells s_Bounds_Turn s_Bounds_Length s_Bounds_Slip s_Bounds_Range s_At_X s_At_Y s_At_H acts cut
    split at hg_
    · rename_i s_Plan_Cells_n s_Plan_Cells_s s_Plan_Cells_f h_s_Plan_Cells
      split at hg_
      · rename_i acts_n acts_s acts_f acts_c h_acts
        cases hg_
        refine ⟨_, _, rfl, 2, [s_Plan_Cells, acts], [.a [.v (.int .i64 s_Plan_W), .v (.int .i64 s_Plan_H), .n 0, .v (.int .i64 s_Bounds_Turn), .v (.int .i64 s_Bounds_Length), .v (.int .i64 s_Bounds_Slip), .v (.int .i64 s_Bounds_Range), .v (.int .i64 s_At_X), .v (.int .i64 s_At_Y), .v (.int .i64 s_At_H)], .c (.n 1), .c (.v (.int .i64 cut))], [(0, .ro (decL eU8 s_Plan_Cells_n s_Plan_Cells_f).length eU8.sz (rowF eU8 (decL eU8 s_Plan_Cells_n s_Plan_Cells_f))), (1, .deep none (decD eAct acts_n acts_f acts_c).length eAct.sz (deepF eAct (decD eAct acts_n acts_f acts_c) acts_f) (deepC eAct (decD eAct acts_n acts_f acts_c)) [])], .o (.c (.v (.bool (true)))), rfl, rfl, and3 (by simp only [push_cast, simprocAttr]) ⟨rfl, ⟨inE0_row h_s_Plan_Cells, inE0_deep h_acts, trivial⟩, rfl, ?_⟩⟩
        intro hpre hlen
        obtain ⟨i_s_Plan_Cells, hpre⟩ := hpre
        obtain ⟨i_acts, hpre⟩ := hpre
        refine ⟨⟨inE_row h_s_Plan_Cells i_s_Plan_Cells, inE_deep h_acts i_acts, trivial⟩, ?_⟩
        have z_s_Plan_Cells := lens_row (E := eU8) hlen h_s_Plan_Cells
        have z_acts := lens_deep (D := eAct) hlen h_acts
        clear i_s_Plan_Cells
        generalize decL eU8 s_Plan_Cells_n s_Plan_Cells_f = s_Plan_CellsL at *
        clear i_acts
        generalize decD eAct acts_n acts_f acts_c = actsL at *
        clear h_s_Plan_Cells
        clear h_acts
        simp (maxSteps := 9999999) only [x5, push_cast, simprocAttr, g6, g7, g18, g22, g20, g21, g17]
        intro hf
        have hl := few_len hf
        refine ⟨⟨hpre.1, Nat.le_trans hl.2 (by omega)⟩, fun G => ⟨fun he => ?_, fun he => ?_⟩⟩
        · rw [(run_err he).1, (run_err he).2]; simp
        rw [wrapI (n := (actsL.length : Int) + 1) (by omega) (by omega)]
        obtain ⟨k, hk⟩ : ∃ k : Nat, cut % ((actsL.length : Int) + 1) = k := ⟨(cut % ((actsL.length : Int) + 1)).toNat, (Int.toNat_of_nonneg (Int.emod_nonneg _ (by omega))).symm⟩
        have hkl : k ≤ actsL.length := by have := Int.emod_lt_of_pos cut (show 0 < (actsL.length : Int) + 1 by omega); omega
        rw [hk]
        have hv := runV_at he
        have hp := runP_at he
        refine ⟨fun h => ?_, fun _ _ => ⟨⟨by omega, hpre.2.1, hpre.2.2, by omega⟩, ?_⟩⟩
        · rw [hv.1, hp.1] at h; omega
        refine vcCut_upd (α := Unit) [1, 3, 7, 8, 11] 0 (fun _ => [(10, .o (.c (.v (.int .i64 (k : Nat)))))]) (fun _ => [(3, .deep none (runV s_Plan_W s_Plan_H s_Plan_CellsL s_Bounds_Turn s_Bounds_Length s_Bounds_Slip s_Bounds_Range s_At_X s_At_Y s_At_H actsL).length 5 (deepF eEvt (runV s_Plan_W s_Plan_H s_Plan_CellsL s_Bounds_Turn s_Bounds_Length s_Bounds_Slip s_Bounds_Range s_At_X s_At_Y s_At_H actsL) G) (deepC eEvt (runV s_Plan_W s_Plan_H s_Plan_CellsL s_Bounds_Turn s_Bounds_Length s_Bounds_Slip s_Bounds_Range s_At_X s_At_Y s_At_H actsL)) []), (4, .ro (runP s_Plan_W s_Plan_H s_Plan_CellsL s_Bounds_Turn s_Bounds_Length s_Bounds_Slip s_Bounds_Range s_At_X s_At_Y s_At_H actsL).length 3 (rowF eQ (runP s_Plan_W s_Plan_H s_Plan_CellsL s_Bounds_Turn s_Bounds_Length s_Bounds_Slip s_Bounds_Range s_At_X s_At_Y s_At_H actsL))), (5, .box [.v (.int .i64 ((rbK (rob0 s_Plan_W s_Plan_H s_Plan_CellsL s_Bounds_Turn s_Bounds_Length s_Bounds_Slip s_Bounds_Range s_At_X s_At_Y s_At_H) actsL k).x)), .v (.int .i64 ((rbK (rob0 s_Plan_W s_Plan_H s_Plan_CellsL s_Bounds_Turn s_Bounds_Length s_Bounds_Slip s_Bounds_Range s_At_X s_At_Y s_At_H) actsL k).y)), .v (.int .i64 ((rbK (rob0 s_Plan_W s_Plan_H s_Plan_CellsL s_Bounds_Turn s_Bounds_Length s_Bounds_Slip s_Bounds_Range s_At_X s_At_Y s_At_H) actsL k).h))] 28)]) ?_ ?_
        rotate_left
        · simp only [push_cast, simprocAttr, g6, g7, g18, g22, g20, g21, g17]
          rw [hp.1]
          refine ⟨fun h => ?_, fun h => ?_⟩
          · rw [wrapI (n := (k : Int) - 1) (by omega) (by omega), show ((k : Int) - 1).toNat = k - 1 by omega, hp.2 (k - 1) (by omega), show k - 1 + 1 = k by omega]
            exact ⟨⟨by omega, by omega⟩, by omega, (), rfl, rfl, rfl⟩
          · obtain rfl : k = 0 := by omega
            exact ⟨(), rfl, rfl, rfl⟩
        intro _
        have d1 := fun V => deep_cut0 (D := eAct) (L := actsL) V (n := k) hkl
        have d2 := fun V => deep_cut (D := eAct) (L := actsL) V (l := k) (n := actsL.length - k) (by omega)
        have hn2 : ((actsL.length : Int) - k).toNat = actsL.length - k := by omega
        have hdt : (actsL.drop k).take (actsL.length - k) = actsL.drop k := List.take_of_length_le (by simp)
        have rt := run_take he hkl
        have rd := run_drop he hkl rfl rfl rfl
        simp only [hdt] at d2
        have d1a := fun V => (d1 V).1
        have d1b := fun V => (d1 V).2
        have d2a := fun V => (d2 V).1
        have d2b := fun V => (d2 V).2
        have v1 := fun V => deep_cut0 (D := eEvt) (L := (runV s_Plan_W s_Plan_H s_Plan_CellsL s_Bounds_Turn s_Bounds_Length s_Bounds_Slip s_Bounds_Range s_At_X s_At_Y s_At_H actsL)) V (n := k) (by rw [hv.1]; exact hkl)
        have v1a := fun V => (v1 V).1
        have v1b := fun V => (v1 V).2
        have p1 := row_cut (E := eQ) (L := (runP s_Plan_W s_Plan_H s_Plan_CellsL s_Bounds_Turn s_Bounds_Length s_Bounds_Slip s_Bounds_Range s_At_X s_At_Y s_At_H actsL)) (l := 0) (n := k) (by rw [hp.1]; omega)
        have p2 := row_cut (E := eQ) (L := (runP s_Plan_W s_Plan_H s_Plan_CellsL s_Bounds_Turn s_Bounds_Length s_Bounds_Slip s_Bounds_Range s_At_X s_At_Y s_At_H actsL)) (l := k) (n := actsL.length - k) (by rw [hp.1]; omega)
        have hpt : (((runP s_Plan_W s_Plan_H s_Plan_CellsL s_Bounds_Turn s_Bounds_Length s_Bounds_Slip s_Bounds_Range s_At_X s_At_Y s_At_H actsL)).drop k).take (actsL.length - k) = ((runP s_Plan_W s_Plan_H s_Plan_CellsL s_Bounds_Turn s_Bounds_Length s_Bounds_Slip s_Bounds_Range s_At_X s_At_Y s_At_H actsL)).drop k := List.take_of_length_le (by rw [List.length_drop, hp.1]; exact Nat.le_refl _)
        have hsz : eQ.sz = 3 := rfl
        obtain ⟨C, hC⟩ : ∃ C, runV s_Plan_W s_Plan_H s_Plan_CellsL s_Bounds_Turn s_Bounds_Length s_Bounds_Slip s_Bounds_Range (rbK (rob0 s_Plan_W s_Plan_H s_Plan_CellsL s_Bounds_Turn s_Bounds_Length s_Bounds_Slip s_Bounds_Range s_At_X s_At_Y s_At_H) actsL k).x (rbK (rob0 s_Plan_W s_Plan_H s_Plan_CellsL s_Bounds_Turn s_Bounds_Length s_Bounds_Slip s_Bounds_Range s_At_X s_At_Y s_At_H) actsL k).y (rbK (rob0 s_Plan_W s_Plan_H s_Plan_CellsL s_Bounds_Turn s_Bounds_Length s_Bounds_Slip s_Bounds_Range s_At_X s_At_Y s_At_H) actsL k).h (actsL.drop k) = C := ⟨_, rfl⟩
        rw [hC] at rd
        have hcl := rd.2.2.1
        have hce := rd.2.2.2
        have hwk : IntKind.i64.wrap ((actsL.length : Int) - k) = ((actsL.length - k : Nat) : Int) := by rw [wrapI (by omega) (by omega)]; omega
        simp (config := {maxSteps := 10000000}) only [push_cast, simprocAttr, g6, g7, g18, g22, g20, g21, g17, v1a, v1b, eEvt_sz, p1.1, p1.2, p2.1, p2.2, hpt, hsz, hv.1, hp.1, List.drop_zero, d1a, d1b, d2a, d2b, eAct_sz, hn2, hdt, rt.1, rt.2.1, rt.2.2, rd.1, rd.2.1, hC, hcl, hwk]
        refine ⟨hkl, by rfl, by rfl, ⟨hpre.1, by rw [List.length_take]; omega⟩, fun G1 => ⟨by rfl, hkl, by rfl, by rfl, ⟨hpre.1, by rw [List.length_drop]; omega⟩, fun G2 => ⟨by rfl, hkl, hkl, hkl, ?_⟩⟩⟩
        refine vcLoop_upd (α := {i : Nat // i ≤ actsL.length - k}) [7, 10, 15] 0 (fun s => [(18, .o (.c (.v (.int .i64 (s.1 : Nat)))))]) (fun s => []) (fun s => actsL.length - k - s.1) ⟨0, by omega⟩ ?_ ?_
        · simp only [push_cast, simprocAttr, g6, g7, g18, g22, g20, g21, g17]
        rintro ⟨i, hi⟩
        have hw1 : IntKind.i64.wrap ((k : Int) + i) = (k : Int) + i := wrapI (by omega) (by omega)
        have hw2 : ((k : Int) + i).toNat = k + i := by omega
        simp (config := {maxSteps := 10000000}) only [x5L0, push_cast, simprocAttr, g6, g7, g18, g22, g20, g21, g17, hw1, hw2]
        intro hlt
        have g := (run_good he).2
        have hsh := hce i hlt
        have ht : (((runV s_Plan_W s_Plan_H s_Plan_CellsL s_Bounds_Turn s_Bounds_Length s_Bounds_Slip s_Bounds_Range s_At_X s_At_Y s_At_H actsL)).getD (k + i) eEvt.dflt).tick = 0 + ((k + i : Nat) : Int) + 1 := by
          rw [hv.2 (k + i) (by omega), doV_t (g _ (by omega))]
          show (rbK _ _ _).ticks + 1 = _
          rw [rbK_ticks _ _ _ (fun j hj => g j (by omega))]; rfl
        have e1 : (C.getD i eEvt.dflt).tick + (k : Int) = 0 + ((k + i : Nat) : Int) + 1 := (congrArg EvtL.tick hsh).trans ht
        have e2 : (⟨IntKind.i64.wrap ((C.getD i eEvt.dflt).tick + (k : Int)), (C.getD i eEvt.dflt).turn, (C.getD i eEvt.dflt).fwd, (C.getD i eEvt.dflt).bump, (C.getD i eEvt.dflt).scan⟩ : EvtL) = ((runV s_Plan_W s_Plan_H s_Plan_CellsL s_Bounds_Turn s_Bounds_Length s_Bounds_Slip s_Bounds_Range s_At_X s_At_Y s_At_H actsL)).getD (k + i) eEvt.dflt := by
          rw [wrapI (by omega) (by omega)]; exact hsh
        exact ⟨⟨by omega, by omega⟩, hlt, hlt, hlt, ⟨by omega, by omega⟩, by omega, fun h => h e2, fun _ => ⟨⟨i + 1, by omega⟩, wrapI (by omega) (by omega), by simp only; omega⟩⟩
      · cases hg_
    · cases hg_
  · cases hg_
end Go.Proofs.YtiijdbpncpdmdaaGreat
