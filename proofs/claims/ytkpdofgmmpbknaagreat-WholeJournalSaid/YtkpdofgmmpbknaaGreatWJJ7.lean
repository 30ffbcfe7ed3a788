/- A part of the proof of a statement about this seat: how a function is stepped through, and plain laws. No conditions. -/
import Derived.Test.YtkpdofgmmpbknaaGreatRows
import Derived.Test.YtkpdofgmmpbknaaGreatWJSz4
import Derived.Test.YtkpdofgmmpbknaaGreatWJJ6
import Derived.KernelRfl
set_option linter.unusedVariables false
set_option linter.unusedSimpArgs false
set_option maxRecDepth 20000
namespace Go.Proofs.YtkpdofgmmpbknaaGreat
open Go.Sx Go.Way
def endsJ (L : List EvtL) (i : Nat) : List Int := (List.range (i + 1)).map (endJ L)
theorem endsJ_0 (L : List EvtL) : endsJ L 0 = [4] := by simp [endsJ, endJ_0]
theorem endsJ_succ (L : List EvtL) (i : Nat) : endsJ L (i + 1) = endsJ L i ++ [endJ L (i + 1)] := by
  unfold endsJ; rw [List.range_succ, List.map_append]; rfl
theorem endsJ_len (L : List EvtL) (i : Nat) : (endsJ L i).length = i + 1 := by simp [endsJ]
theorem endsJ_at {L : List EvtL} {i k : Nat} (h : k ≤ i) : (endsJ L i).getD k eI.dflt = endJ L k := by
  unfold endsJ
  rw [List.getD_eq_getElem?_getD, List.getElem?_map, List.getElem?_range (by omega)]; rfl
def poJ (x y h : Int) (PP : List QQ) (k : Nat) : QQ := if k = 0 then ⟨x, y, h⟩ else PP.getD (k - 1) eQ.dflt
theorem poJ_s (x y h : Int) (PP : List QQ) (k : Nat) : poJ x y h PP (k + 1) = PP.getD k eQ.dflt := rfl
theorem run_W {W H : Int} {L : List Int} {bT bL bS bR x y h : Int} {A : List ActL} (e : runE W H L bT bL bS bR x y h A = 0) (k : Nat) (hk : k < A.length) :
    withinS bT bL bS bR (poJ x y h (runP W H L bT bL bS bR x y h A) k).X (poJ x y h (runP W H L bT bL bS bR x y h A) k).Y (poJ x y h (runP W H L bT bL bS bR x y h A) k).H ((runV W H L bT bL bS bR x y h A).getD k eEvt.dflt).turn ((runV W H L bT bL bS bR x y h A).getD k eEvt.dflt).fwd
      ((runP W H L bT bL bS bR x y h A).getD k eQ.dflt).X ((runP W H L bT bL bS bR x y h A).getD k eQ.dflt).Y ((runP W H L bT bL bS bR x y h A).getD k eQ.dflt).H ((runV W H L bT bL bS bR x y h A).getD k eEvt.dflt).bump = true := by
  have hv := runV_at e
  have hp := runP_at e
  have ha := (run_good e).2 k hk
  have ho := run_at e k (by omega)
  have hw := tick_within ho ha
  have hkk := rbK_keep (rob0 W H L bT bL bS bR x y h) A k
  obtain ⟨w1, w2, w3, w4, w5, w6, w7⟩ := hkk
  have w4 : (rbK (rob0 W H L bT bL bS bR x y h) A k).bT = bT := w4
  have w5 : (rbK (rob0 W H L bT bL bS bR x y h) A k).bL = bL := w5
  have w6 : (rbK (rob0 W H L bT bL bS bR x y h) A k).bS = bS := w6
  have w7 : (rbK (rob0 W H L bT bL bS bR x y h) A k).bR = bR := w7
  have e1 : poJ x y h (runP W H L bT bL bS bR x y h A) k = poseO (rbK (rob0 W H L bT bL bS bR x y h) A k) := by
    cases k with
    | zero => rfl
    | succ k => rw [poJ_s, hp.2 k (by omega)]
  rw [e1, hp.2 k hk, hv.2 k hk, hw.2.1, hw.2.2, rbK_succ]
  rw [w4, w5, w6, w7] at hw
  exact hw.1
theorem ends0 (L : List EvtL) {m : Int} (h : m = 4) {b : Bnd} : 1 = (endsJ L 0).length ∧ rowEq 1 1 (litF [SC.v (Value.int IntKind.i64 m)] 1) (rowF eI (endsJ L 0)) (SC.sub b) := by
  subst h
  rw [endsJ_0]
  refine ⟨rfl, fun e j he hj => ?_⟩
  obtain rfl : e = 0 := by omega
  obtain rfl : j = 0 := by omega
  rfl
theorem deep_cut {α : Type} {D : DEnc α} {L : List α} (V : Nat → Nat → Value) {l n : Nat} (h : l + n ≤ L.length) :
    decD D n (fun e j => deepF D L V (e + l) j) (fun e j => deepC D L (e + l) j) = (L.drop l).take n ∧ ∀ sz, isDeep D n sz (fun e j => deepF D L V (e + l) j) (fun e j => deepC D L (e + l) j) ↔ sz = D.sz := by
  have e := decD_is (isD_sub (D := D) L V h)
  refine ⟨e, fun sz => ⟨fun q => q.1, fun q => ⟨q, ?_⟩⟩⟩
  rw [e]; exact isD_sub L V h
theorem deep_cut0 {α : Type} {D : DEnc α} {L : List α} (V : Nat → Nat → Value) {n : Nat} (h : n ≤ L.length) :
    decD D n (deepF D L V) (deepC D L) = L.take n ∧ ∀ sz, isDeep D n sz (deepF D L V) (deepC D L) ↔ sz = D.sz := deep_cut (l := 0) V (by omega)
def vcAllK (Γ : Nat → Con) (preds : List (List Nat)) (n : Nat) (l : List (Nat × XOper)) (K : St → Prop) (S : St) : Prop := vcAll Γ preds n l S K
def vcStp (Γ : Nat → Con) (preds : List (List Nat)) (ks : List Nat) (k : Nat → St → Prop) (S : St) (j : Nat) (x : XOper) : Prop := match rdyB ks (nthP j preds) with
  | true => vcOp Γ x S (k j)
  | false => True
theorem vcAll_nl (Γ : Nat → Con) (preds : List (List Nat)) (n : Nat) (S : St) (K : St → Prop) : vcAll Γ preds n [] S K = K S := by cases n <;> rfl
theorem vcAll_cs (Γ : Nat → Con) (preds : List (List Nat)) (n : Nat) (q : Nat × XOper) (l : List (Nat × XOper)) (S : St) (K : St → Prop) :
    vcAll Γ preds (n + 1) (q :: l) S K = vcAllL (vcStp Γ preds (keysX (q :: l)) (fun j => vcAllK Γ preds n (delN j (q :: l)) K) S) (q :: l) := rfl
def vcG3 (Γ : Nat → Con) (ps : List (List Nat)) (C : List XOper) (K : St → Prop) (S2 : St) : Prop := vcDgo Γ ps C S2.next (S2.next + nRes C) ⟨S2.env, S2.ents, S2.next + nRes C⟩ [] K
def vcG2 (Γ : Nat → Con) (preds : List (List Nat)) (m a : Nat) (B C : List XOper) (K : St → Prop) (c : Nat) (S1 : St) (acc : List Foot) : Prop :=
  c ≤ m ∧ indep [] acc preds = true ∧ barR 0 a (Go.Sx.dropN a preds) = true ∧ barR a (lenX B) (Go.Sx.dropN (a + lenX B) preds) = true ∧
    vcAll Γ preds (lenX B) (numX a B) S1 (vcG3 Γ (Go.Sx.cutP (a + lenX B) (Go.Sx.dropN (a + lenX B) preds)) C K)
theorem vcG_go (Γ : Nat → Con) (preds : List (List Nat)) (A B C : List XOper) (S : St) (K : St → Prop) :
    vcG Γ preds A B C S K = vcRun Γ A S.next ⟨S.env, S.ents, S.next + nRes A⟩ [] (vcG2 Γ preds (S.next + nRes A) (lenX A) B C K) := rfl
def x3L0 : XC := (.seq (.seq (.reg false [O1 55 .mv 12, O1 56 .mv 7, O1 57 .lenS 56, O2 58 (.bin .lss) 55 57]) (.cond (.t 58) .skip (.exit 0))) (.seq (.block 1 (.opn 7 12 4 (.seq (.seq (.reg false [O1 61 .mv 10, O1 62 .mv 7, O1 63 .mv 12, O2 64 (.ixS 5) 62 63, O1 65 (.loadN 5) 64, O2 66 (.call 9) 61 65, K2 67 (.bin .neq) 66 (iV 0)]) (.cond (.t 67) (.seq (.reg false [K1 6 .mv (.bool false)]) .ret) .skip)) (.reg false [O1 68 .mv 11, O1 69 .mv 10, O1 70 (.call 8) 69, O1 71 .lenS 70, ⟨(some 72), (.slit 3 1 1 [(iV 0)] [(0, 1)]), [(.t 71)], none⟩, O2 73 (.app 3 1 8) 68 72, O1 11 .mv 73])))) (.reg false [O1 59 .mv 12, K2 60 (.bin .add) 59 (iV 1), O1 12 .mv 60])))
def x3L1 : XC := (.seq (.seq (.reg false [O1 92 .mv 15, O1 93 .mv 7, O1 94 .lenS 93, O2 95 (.bin .lss) 92 94, O1 96 .mv 95, G1 97 .mv 11 96 true, G1 98 .mv 15 96 true, GK 99 (.bin .add) 98 (iV 1) 96 true, G2 100 (.ixS 1) 97 99 96 true, G1 101 .load1 100 96 true, G1 102 .mv 14 96 true, G2 103 (.bin .leq) 101 102 96 true, ⟨(some 104), .pick, [(.t 96), (.t 103), (.k (.bool false))], none⟩]) (.cond (.t 104) .skip (.exit 2))) (.block 3 (.reg false [O1 105 .mv 15, K2 106 (.bin .add) 105 (iV 1), O1 15 .mv 106])))
def x3L2 : XC := (.seq (.seq (.reg false [O1 143 .mv 19, O1 144 .mv 7, O1 145 .lenS 144, O2 146 (.bin .lss) 143 145]) (.cond (.t 146) .skip (.exit 4))) (.seq (.block 5 (.opn 7 19 4 (.seq (.reg false [O1 149 .mv 16, O1 150 .mv 7, O1 151 .mv 19, O2 152 (.ixS 5) 150 151, O1 153 (.loadN 5) 152, O2 154 (.call 9) 149 153, K2 155 (.bin .neq) 154 (iV 0)]) (.cond (.t 155) (.seq (.reg false [K1 6 .mv (.bool false)]) .ret) .skip)))) (.reg false [O1 147 .mv 19, K2 148 (.bin .add) 147 (iV 1), O1 19 .mv 148])))
def x3L3 : XC := (.seq (.seq (.reg false [O1 158 .mv 21, O1 159 .mv 7, O1 160 .lenS 159, O2 161 (.bin .lss) 158 160]) (.cond (.t 161) .skip (.exit 6))) (.seq (.block 7 (.seq (.reg false [O1 165 .mv 16, O1 166 .mv 21, K2 167 (.bin .add) 166 (iV 1), O2 168 (.call 15) 165 167, O1 164 .mv 168, O1 169 (.ext 0) 164, O1 170 (.ext 1) 164, ⟨(some 22), (.alloc 48 [(iV 0), (iV 0), (iV 0), (.bool false), (.slice none 0 0)]), [], none⟩, ⟨none, (.store 5), [(.t 22), (.t 169)], none⟩, O1 23 .mv 170]) (.opn 7 21 4 (.seq (.seq (.reg true [O1 171 .mv 23, O1 172 (.un .not) 171, O1 173 .mv 172, G1 174 (.loadN 5) 22 173 false, G1 175 .mv 7 173 false, G1 176 .mv 21 173 false, G2 177 (.ixS 5) 175 176 173 false, G1 178 (.loadN 5) 177 173 false, G2 179 (.call 16) 174 178 173 false, G1 180 (.un .not) 179 173 false, ⟨(some 181), .pick, [(.t 173), (.k (.bool true)), (.t 180)], none⟩, O1 182 .mv 181, G1 183 (.fld 3) 3 182 false, G1 184 (.loadN 4) 183 182 false, G1 185 (.loadN 3) 20 182 false, G1 186 (.fld 1) 22 182 false, G1 187 (.loadN 2) 186 182 false, G1 188 .mv 8 182 false, G1 189 .mv 21 182 false, G2 190 (.ixS 3) 188 189 182 false, G1 191 (.loadN 3) 190 182 false, G1 192 (.fld 3) 22 182 false, G1 193 .load1 192 182 false, ⟨(some 194), (.call 17), [(.t 184), (.t 185), (.t 187), (.t 191), (.t 193)], (some (182, false))⟩, G1 195 (.un .not) 194 182 false, ⟨(some 196), .pick, [(.t 182), (.k (.bool true)), (.t 195)], none⟩]) (.cond (.t 196) (.seq (.reg false [K1 6 .mv (.bool false)]) .ret) .skip)) (.reg false [O1 197 .mv 8, O1 198 .mv 21, O2 199 (.ixS 3) 197 198, O1 200 (.loadN 3) 199, ⟨none, (.store 3), [(.t 20), (.t 200)], none⟩]))))) (.reg false [O1 162 .mv 21, K2 163 (.bin .add) 162 (iV 1), O1 21 .mv 163])))
def x3bbbbb : XC := (.seq (.reg false [O1 201 .mv 16, O1 202 (.call 8) 201, O1 203 .mv 13, O2 204 (.call 18) 202 203, O1 205 .mv 204, G1 206 .mv 16 205 true, G1 207 (.call 19) 206 205 true, G1 208 .mv 7 205 true, G1 209 .lenS 208 205 true, G2 210 (.bin .eql) 207 209 205 true, ⟨(some 211), .pick, [(.t 205), (.t 210), (.k (.bool false))], none⟩, O1 6 .mv 211]) .ret)
def x3bbbb : XC := (.seq (.reg false [O1 156 (.fld 7) 3, O1 157 (.loadN 3) 156, ⟨(some 20), (.alloc 28 [(iV 0), (iV 0), (iV 0)]), [], none⟩, ⟨none, (.store 3), [(.t 20), (.t 157)], none⟩]) (.seq (.seq (.reg false [K1 21 .mv (iV 0)]) (.block 6 (.loop x3L3))) x3bbbbb))
def x3bbb : XC := (.seq (.seq (.reg false [O1 142 .mv 15, O1 19 .mv 142]) (.block 4 (.loop x3L2))) x3bbbb)
def x3bb : XC := (.seq (.cut (.seq (.regG [O1 115 .mv 18, K2 116 (.bin .neq) 115 (iV 0), O1 117 .mv 116, G1 118 .mv 16 117 false, G1 119 (.call 12) 118 117 false, G1 120 .mv 15 117 false, G2 121 (.bin .neq) 119 120 117 false, ⟨(some 122), .pick, [(.t 117), (.k (.bool true)), (.t 121)], none⟩, O1 123 .mv 122, G1 124 .mv 17 123 false, G1 125 .mv 14 123 false, G1 126 .mv 11 123 false, G1 127 .mv 15 123 false, G2 128 (.ixS 1) 126 127 123 false, G1 129 .load1 128 123 false, G2 130 (.bin .sub) 125 129 123 false, G2 131 (.bin .neq) 124 130 123 false, ⟨(some 132), .pick, [(.t 123), (.k (.bool true)), (.t 131)], none⟩, O1 133 .mv 132] [G1 134 .mv 16 133 false, G1 135 (.call 14) 134 133 false, G1 136 .mv 7 133 false, G1 137 .mv 15 133 false, G2 138 (.slc 5 false true false) 136 137 133 false] [G2 139 (.call 13) 135 138 133 false, G1 140 (.un .not) 139 133 false, ⟨(some 141), .pick, [(.t 133), (.k (.bool true)), (.t 140)], none⟩] [[], [0], [1, 0], [2, 1, 0], [3, 2, 1, 0], [2, 1, 0], [4, 3, 2, 1, 0, 5], [2, 1, 0, 6, 4, 3, 5], [7, 2, 1, 0, 6, 4, 3, 5], [8, 7, 2, 1, 0, 6, 4, 3, 5], [8, 7, 2, 1, 0, 6, 4, 3, 5], [8, 7, 2, 1, 0, 6, 4, 3, 5], [8, 7, 2, 1, 0, 6, 4, 3, 5], [11, 8, 7, 2, 1, 0, 6, 4, 3, 5, 12], [13, 11, 8, 7, 2, 1, 0, 6, 4, 3, 5, 12], [10, 8, 7, 2, 1, 0, 6, 4, 3, 5, 14, 13, 11, 12], [9, 8, 7, 2, 1, 0, 6, 4, 3, 5, 15, 10, 14, 13, 11, 12], [8, 7, 2, 1, 0, 6, 4, 3, 5, 16, 9, 15, 10, 14, 13, 11, 12], [17, 8, 7, 2, 1, 0, 6, 4, 3, 5, 16, 9, 15, 10, 14, 13, 11, 12], [18, 17, 8, 7, 2, 1, 0, 6, 4, 3, 5, 16, 9, 15, 10, 14, 13, 11, 12], [19, 18, 17, 8, 7, 2, 1, 0, 6, 4, 3, 5, 16, 9, 15, 10, 14, 13, 11, 12], [18, 17, 8, 7, 2, 1, 0, 6, 4, 3, 5, 16, 9, 15, 10, 14, 13, 11, 12], [18, 17, 8, 7, 2, 1, 0, 6, 4, 3, 5, 16, 9, 15, 10, 14, 13, 11, 12], [21, 18, 17, 8, 7, 2, 1, 0, 6, 4, 3, 5, 16, 9, 15, 10, 14, 13, 11, 12, 22], [20, 19, 18, 17, 8, 7, 2, 1, 0, 6, 4, 3, 5, 16, 9, 15, 10, 14, 13, 11, 12, 23, 21, 22], [24, 20, 19, 18, 17, 8, 7, 2, 1, 0, 6, 4, 3, 5, 16, 9, 15, 10, 14, 13, 11, 12, 23, 21, 22], [18, 17, 8, 7, 2, 1, 0, 6, 4, 3, 5, 16, 9, 15, 10, 14, 13, 11, 12, 25, 24, 20, 19, 23, 21, 22]]) (.cond (.t 141) (.seq (.reg false [K1 6 .mv (.bool false)]) .ret) .skip))) x3bbb)
def x3b : XC := (.seq (.reg false [O1 74 .mv 10, O1 75 (.call 8) 74, O1 13 .mv 75]) (.seq (.seq (.reg false [O1 76 .mv 13, O1 77 .lenS 76, K2 78 (.bin .lss) 77 (iV 4), O1 79 .mv 78, G1 80 .mv 8 79 false, G1 81 .lenS 80 79 false, G1 82 .mv 7 79 false, G1 83 .lenS 82 79 false, G2 84 (.bin .neq) 81 83 79 false, ⟨(some 85), .pick, [(.t 79), (.k (.bool true)), (.t 84)], none⟩]) (.cond (.t 85) (.seq (.reg false [K1 6 .mv (.bool false)]) .ret) .skip)) (.seq (.reg false [O1 86 .mv 2, O1 87 .mv 13, O1 88 .lenS 87, K2 89 (.bin .sub) 88 (iV 3), O2 90 (.call 10) 86 89, ⟨(some 91), (.bin .add), [(.k (iV 4)), (.t 90)], none⟩, O1 14 .mv 91]) (.seq (.reg false [K1 15 .mv (iV 0)]) (.seq (.block 2 (.loop x3L1)) (.seq (.reg false [O1 108 .mv 13, O1 109 .mv 14, O2 110 (.slc 1 false true false) 108 109, O1 111 (.call 11) 110, O1 107 .mv 111, O1 112 (.ext 0) 107, O1 113 (.ext 1) 107, O1 114 (.ext 2) 107, O1 16 .mv 112, O1 17 .mv 113, O1 18 .mv 114]) x3bb))))))
def x3 : XFn := ⟨212, (.seq (.reg false [O1 3 (.box 30) 0, K1 6 .mv (.bool false)]) (.seq (.seq (.reg false [⟨(some 24), (.call 4), [], none⟩, O1 25 (.un .not) 24, O1 26 .mv 25, G1 27 (.loadN 10) 3 26 false, G1 28 .mv 1 26 false, G2 29 (.call 5) 27 28 26 false, G1 30 (.un .not) 29 26 false, ⟨(some 31), .pick, [(.t 26), (.k (.bool true)), (.t 30)], none⟩]) (.cond (.t 31) (.seq (.reg false [⟨(some 32), (.call 4), [], none⟩, O1 6 .mv 32]) .ret) .skip)) (.seq (.reg false [O1 34 (.fld 0) 3, O1 35 (.loadN 3) 34, O1 36 (.fld 3) 3, O1 37 (.loadN 4) 36, O1 38 (.fld 7) 3, O1 39 (.loadN 3) 38, O1 40 .mv 1, ⟨(some 41), (.call 6), [(.t 35), (.t 37), (.t 39), (.t 40)], none⟩, O1 33 .mv 41, O1 42 (.ext 0) 33, O1 43 (.ext 1) 33, O1 44 (.ext 2) 33, O1 7 .mv 42, O1 8 .mv 43, O1 9 .mv 44]) (.seq (.seq (.reg false [O1 45 .mv 9, K2 46 (.bin .neq) 45 (iV 0)]) (.cond (.t 46) (.seq (.reg false [O1 47 .mv 7, O1 48 .lenS 47, K2 49 (.bin .eql) 48 (iV 0), O1 6 .mv 49]) .ret) .skip)) (.seq (.reg false [⟨(some 50), (.call 7), [], none⟩, O1 10 .mv 50]) (.seq (.reg false [O1 51 .mv 10, O1 52 (.call 8) 51, O1 53 .lenS 52, ⟨(some 54), (.slit 3 1 1 [(iV 0)] [(0, 1)]), [(.t 53)], none⟩, O1 11 .mv 54]) (.seq (.seq (.reg false [K1 12 .mv (iV 0)]) (.block 0 (.loop x3L0))) x3b))))))), [(.s 6)]⟩
theorem x3_ok : xfn Tryz.prog Tryz.f3 = some x3.er := by kernel_rfl
noncomputable def g3 : Con := fun args_ E_ nn_ => match args_ with
  | [.a [.v (.int .i64 s_Plan_W), .v (.int .i64 s_Plan_H), .n s_Plan_Cells, .v (.int .i64 s_Bounds_Turn), .v (.int .i64 s_Bounds_Length), .v (.int .i64 s_Bounds_Slip), .v (.int .i64 s_Bounds_Range), .v (.int .i64 s_At_X), .v (.int .i64 s_At_Y), .v (.int .i64 s_At_H)], .c (.n acts), .c (.v (.int .i64 cut))] => (match rowOf E_ s_Plan_Cells with
    | some (s_Plan_Cells_n, s_Plan_Cells_s, s_Plan_Cells_f) => (match rowD eAct.sz E_ acts with
    | some (acts_n, acts_s, acts_f, acts_c) => some (.q (isRow eU8 s_Plan_Cells_n s_Plan_Cells_s s_Plan_Cells_f ∧ isDeep eAct acts_n acts_s acts_f acts_c ∧ u8s (decL eU8 s_Plan_Cells_n s_Plan_Cells_f) ∧ -9223372036854775808 ≤ cut ∧ cut ≤ 9223372036854775807) (.o (.c (.v (.bool (true))))))
    | none => none)
    | none => none)
  | _ => none
set_option maxHeartbeats 4000000 in
theorem c3 : COk Tryz.prog 3 g3 := by
  refine cok_q Tryz.func3 x3_ok (by kernel_rfl) (cok_tab (cok_cons c4 (cok_cons c5 (cok_cons c6 (cok_cons c7 (cok_cons c9 (cok_cons c8 (cok_cons c10 (cok_cons c11 (cok_cons c12 (cok_cons c13 (cok_cons c14 (cok_cons c15 (cok_cons c16 (cok_cons c17 (cok_cons c18 (cok_cons c19 cok_nil))))))))))))))))) ?_
  intro args_ E_ nn_ cr_ hg_
  unfold g3 at hg_
  split at hg_
  · rename_i s_Plan_W s_Plan_H s_Plan_Cells s_Bounds_Turn s_Bounds_Length s_Bounds_Slip s_Bounds_Range s_At_X s_At_Y s_At_H acts cut
    split at hg_
    · rename_i s_Plan_Cells_n s_Plan_Cells_s s_Plan_Cells_f h_s_Plan_Cells
      split at hg_
      · rename_i acts_n acts_s acts_f acts_c h_acts
        cases hg_
        refine ⟨_, _, rfl, 2, [s_Plan_Cells, acts], [.a [.v (.int .i64 s_Plan_W), .v (.int .i64 s_Plan_H), .n 0, .v (.int .i64 s_Bounds_Turn), .v (.int .i64 s_Bounds_Length), .v (.int .i64 s_Bounds_Slip), .v (.int .i64 s_Bounds_Range), .v (.int .i64 s_At_X), .v (.int .i64 s_At_Y), .v (.int .i64 s_At_H)], .c (.n 1), .c (.v (.int .i64 cut))], [(0, .ro (decL eU8 s_Plan_Cells_n s_Plan_Cells_f).length eU8.sz (rowF eU8 (decL eU8 s_Plan_Cells_n s_Plan_Cells_f))), (1, .deep none (decD eAct acts_n acts_f acts_c).length eAct.sz (deepF eAct (decD eAct acts_n acts_f acts_c) acts_f) (deepC eAct (decD eAct acts_n acts_f acts_c)) [])], .o (.c (.v (.bool (true)))), rfl, rfl, and3 (by simp only [push_cast, Nat.reduceLT, Nat.reduceAdd]) ⟨rfl, ⟨inE0_row h_s_Plan_Cells, inE0_deep h_acts, trivial⟩, rfl, ?_⟩⟩
        intro hpre hlen
        obtain ⟨i_s_Plan_Cells, hpre⟩ := hpre
        obtain ⟨i_acts, hpre⟩ := hpre
        refine ⟨⟨inE_row h_s_Plan_Cells i_s_Plan_Cells, inE_deep h_acts i_acts, trivial⟩, ?_⟩
        have z_s_Plan_Cells := lens_row (E := eU8) hlen h_s_Plan_Cells
        have z_acts := lens_deep (D := eAct) hlen h_acts
        clear i_s_Plan_Cells
        generalize decL eU8 s_Plan_Cells_n s_Plan_Cells_f = s_Plan_CellsL at *
        clear i_acts
        generalize decD eAct acts_n acts_f acts_c = actsL at *
        clear h_s_Plan_Cells
        clear h_acts
        simp (maxSteps := 9999999) only [x3, push_cast, simprocAttr, g4, g5, g6, g7, g9, g8, g10, g11, g12, g13, g14, g15, g16, g17, g18, g19]
        intro hf
        have hl := brief_len hf
        refine ⟨⟨hpre.1, by omega⟩, fun G => ⟨fun he => by rw [(run_err he).1]; rfl, fun he => ?_⟩⟩
        have hk := run_okEvs he (by omega)
        have hvl := (runV_at he).1
        have hpl := (runP_at he).1
        have hW := run_W he
        have hmg : magicL.length = 4 := rfl
        generalize hEV : (runV s_Plan_W s_Plan_H s_Plan_CellsL s_Bounds_Turn s_Bounds_Length s_Bounds_Slip s_Bounds_Range s_At_X s_At_Y s_At_H actsL) = EV at *
        generalize hPP : (runP s_Plan_W s_Plan_H s_Plan_CellsL s_Bounds_Turn s_Bounds_Length s_Bounds_Slip s_Bounds_Range s_At_X s_At_Y s_At_H actsL) = PP at *
        refine ⟨by rw [hmg]; omega, ?_⟩
        refine vcLoop_upd (α := {s : Nat × (Nat → Nat → Value) // s.1 ≤ EV.length}) [2, 3, 7, 8, 10] 3 (fun s => [(11, .o (.c (.n 10))), (12, .o (.c (.v (.int .i64 (s.1.1 : Nat)))))]) (fun s => [(10, .own (endsJ EV s.1.1).length 1 (rowF eI (endsJ EV s.1.1)) 3), (5, .box [.n 11, .n 12] 72), (11, .own (magicL ++ framesL (EV.take s.1.1)).length 1 (rowF eU8 (magicL ++ framesL (EV.take s.1.1))) 5), (12, .deep (some 48) (EV.take s.1.1).length 5 (deepF eEvt (EV.take s.1.1) s.1.2) (deepC eEvt (EV.take s.1.1)) []), (3, .deep none EV.length 5 (deepF eEvt EV G) (deepC eEvt EV) []), (4, .ro PP.length 3 (rowF eQ PP))]) (fun s => EV.length - s.1.1) ⟨(0, fun _ _ => .bool false), by simp only; omega⟩ ?_ ?_
        · simp only [push_cast, simprocAttr, g4, g5, g6, g7, g9, g8, g10, g11, g12, g13, g14, g15, g16, g17, g18, g19]
          exact ⟨ends0 EV (by rw [hmg]; rfl), same_eq (by simp [framesL]), rfl, fun e j he => absurd he (by omega)⟩
        rintro ⟨⟨k, V⟩, hkl⟩
        simp only at hkl
        simp (maxSteps := 9999999) only [x3L0, push_cast, simprocAttr, g4, g5, g6, g7, g9, g8, g10, g11, g12, g13, g14, g15, g16, g17, g18, g19]
        refine ⟨fun hlt => ?_, fun hge => ?_⟩
        · have hlast := okEvs_last hk (k := k) (by omega)
          have hvk := hk.2 k hlt
          have hle := endJ_le hk k
          have hle2 := endJ_le hk (k + 1)
          have hfr := framesL_snoc hlt
          unfold endJ at hle hle2
          rw [hfr] at hle2
          refine ⟨hlt, hlt, hlt, ⟨hvk.1, by rw [hlast, hvk.2]; omega, by omega, by rw [List.length_take]; omega⟩, fun G' => ⟨by rw [List.append_assoc]; omega, by rw [endsJ_len]; omega, ⟨(k + 1, G'), by simp only; omega⟩, ⟨wrapI (by omega) (by omega), push_eq (E := eI) (by simp only; rw [endsJ_succ]; unfold endJ; rw [hfr, List.append_assoc]), same_eq (by simp only; rw [hfr, List.append_assoc]), ?_⟩, by simp only; omega⟩⟩
          rw [← take_snoc eEvt.dflt hlt]
          exact ⟨rfl, fun _ _ _ _ => ⟨rfl, cEq_refl _⟩⟩
        obtain rfl : k = EV.length := by omega
        rw [List.take_length]
        generalize hB : magicL ++ framesL EV = B at *
        have hBl : (endJ EV EV.length : Int) = B.length := by unfold endJ; rw [List.take_length, hB]
        have hBle := endJ_le hk EV.length
        have hBu : u8s B := by rw [← hB]; exact u8s_app (by intro x hx; simp [magicL] at hx; omega) (framesL_u8 _)
        have hB4 : 4 ≤ B.length := by rw [← hB, List.length_append, hmg]; omega
        have hchk : ((B.length : Int) < 4) = False := eq_false (by omega)
        simp (maxSteps := 9999999) only [x3b, push_cast, simprocAttr, g4, g5, g6, g7, g9, g8, g10, g11, g12, g13, g14, g15, g16, g17, g18, g19, hchk]
        have hwl : IntKind.i64.wrap ((B.length : Int) - 3) = B.length - 3 := wrapI (by omega) (by omega)
        have hml : 0 ≤ cut % ((B.length : Int) - 3) ∧ cut % ((B.length : Int) - 3) < B.length - 3 := ⟨Int.emod_nonneg _ (by omega), Int.emod_lt_of_pos _ (by omega)⟩
        rw [hwl]
        refine ⟨by omega, fun h => absurd (by omega) h, fun _ => ⟨⟨by omega, by omega, by omega, by omega⟩, ?_⟩⟩
        obtain ⟨c, hc, hc4, hcB⟩ : ∃ c : Nat, IntKind.i64.wrap (4 + cut % ((B.length : Int) - 3)) = c ∧ 4 ≤ c ∧ c ≤ B.length := ⟨(4 + cut % ((B.length : Int) - 3)).toNat, by rw [wrapI (by omega) (by omega)]; omega, by omega, by omega⟩
        rw [hc]
        generalize cut % ((B.length : Int) - 3) = cm at *
        refine vcLoop_upd (α := {n : Nat // n ≤ EV.length ∧ endJ EV n ≤ c}) [3, 7, 8, 11, 13, 14] 0 (fun s => [(15, .o (.c (.v (.int .i64 (s.1 : Nat)))))]) (fun s => [(13, .ro (B).length 1 (rowF eU8 (B)))]) (fun s => EV.length - s.1) ⟨0, by omega, by rw [endJ_0]; omega⟩ ?_ ?_
        · simp only [push_cast, simprocAttr, g4, g5, g6, g7, g9, g8, g10, g11, g12, g13, g14, g15, g16, g17, g18, g19]
        rintro ⟨n, hn, hnc⟩
        simp (maxSteps := 9999999) only [x3L1, push_cast, simprocAttr, g4, g5, g6, g7, g9, g8, g10, g11, g12, g13, g14, g15, g16, g17, g18, g19]
        have hw1 : IntKind.i64.wrap ((n : Int) + 1) = ((n + 1 : Nat) : Int) := by rw [wrapI (by omega) (by omega)]; omega
        rw [hw1]
        simp only [Int.toNat_natCast]
        refine ⟨fun hlt => ⟨hlt, by omega, by rw [endsJ_len]; omega⟩, fun hlt => ⟨hlt, by rw [endsJ_len]; omega⟩, fun hlt hle => ⟨⟨n + 1, by omega, by rw [endsJ_at (by omega)] at hle; exact hle⟩, rfl, by simp only; omega⟩, fun hstop => ?_⟩
        have hmax : n < EV.length → (c : Int) < endJ EV (n + 1) := by
          intro hlt
          rw [decide_eq_true hlt, Bool.true_and, decide_eq_false_iff_not, endsJ_at (by omega)] at hstop
          omega
        obtain ⟨p, hp, hpn⟩ := cut_at hk hn hnc hmax (by rw [hB]; exact hcB)
        rw [hB] at hp
        obtain ⟨e1, e2⟩ := cut_eq hp
        rw [(sl_to hcB).1, e1, e2]
        have htl : (EV.take n).length = n := by rw [List.length_take]; omega
        refine ⟨hcB, ⟨(sl_to hcB).2, ⟨_, _, hp⟩, u8s_take hBu c, by rw [List.length_take]; omega⟩, fun G1 => ?_⟩
        simp only [htl]
        simp only [x3bb, vcC_seq, vcC_cut]
        refine vcCut_upd (α := Nat → Nat → Value) [3, 7, 8, 13, 15, 16] 0 (fun y => []) (fun y => [(17, .deep (some 48) (EV.take n).length 5 (deepF eEvt (EV.take n) y) (deepC eEvt (EV.take n)) [])]) ?_ ?_
        rotate_left
        · have hat := endsJ_at (L := EV) (k := n) (i := EV.length) hn
          have v1 := fun V => deep_cut0 (D := eEvt) (L := EV) V (n := n) hn
          have v1a := fun V => (v1 V).1
          have v1b := fun V => (v1 V).2
          have hpw : ((c : Int) - endJ EV n) = (p.length : Int) := hpn.symm
          have hen : 0 ≤ endJ EV n := by unfold endJ; omega
          have hpw2 : IntKind.i64.wrap ((c : Int) - endJ EV n) = (p.length : Int) := by rw [hpw, wrapI (by omega) (by omega)]
          have d1 : ∀ V, decD eEvt n (deepF eEvt (EV.take n) V) (deepC eEvt (EV.take n)) = EV.take n := fun V => by have := decD_deep (D := eEvt) (EV.take n) V; rwa [htl] at this
          have d2 : ∀ V, isDeep eEvt n 5 (deepF eEvt (EV.take n) V) (deepC eEvt (EV.take n)) := fun V => by have := (isDeep_deep (D := eEvt) (EV.take n) V 5).2 rfl; rwa [htl] at this
          simp only [vcC_seq, vcC_regG, vcG_go]
          simp (maxSteps := 9999999) only [push_cast, simprocAttr, g4, g5, g6, g7, g9, g8, g10, g11, g12, g13, g14, g15, g16, g17, g18, g19, hat, hpw2, bne_self_eq_false, htl, d1, d2, vcAll_nl, vcAllK, vcStp, vcAllL, vcAll_cs]
          refine ⟨by rw [endsJ_len]; omega, by rw [endsJ_len]; omega, ?_⟩
          unfold vcG2
          refine ⟨by omega, by rfl, by rfl, by rfl, ?_⟩
          have hvl1 : ∀ x ∈ EV.take n, x.scan.length ≤ 100000 := fun x hx => by have := (scanJ_iff.1 (okEvs_mem (okEvs_take hk n) x hx).2.2.2).1; omega
          simp (maxSteps := 9999999) only [push_cast, simprocAttr, g4, g5, g6, g7, g9, g8, g10, g11, g12, g13, g14, g15, g16, g17, g18, g19, htl, d1, d2, v1a, v1b, hn, nthP, vcAll_nl, vcAllK, vcStp, vcAllL, vcAll_cs, vcG3]
          repeat' first | exact hvl1 | omega | rfl | exact ⟨_, fun _ _ _ _ => ⟨rfl, cEq_refl _⟩⟩ | apply And.intro | intro _
        intro V2
        simp only [htl]
        simp only [x3bbb, push_cast, simprocAttr, g4, g5, g6, g7, g9, g8, g10, g11, g12, g13, g14, g15, g16, g17, g18, g19]
        refine vcLoop_upd (α := {s : Nat × (Nat → Nat → Value) // n ≤ s.1 ∧ s.1 ≤ EV.length}) [3, 7, 8, 13, 16] 2 (fun s => [(19, .o (.c (.v (.int .i64 (s.1.1 : Nat)))))]) (fun s => [(15, .box [.n 18, .n 19] 72), (18, .own (magicL ++ framesL (EV.take s.1.1)).length 1 (rowF eU8 (magicL ++ framesL (EV.take s.1.1))) 5), (19, .deep (some 48) (EV.take s.1.1).length 5 (deepF eEvt (EV.take s.1.1) s.1.2) (deepC eEvt (EV.take s.1.1)) [])]) (fun s => EV.length - s.1.1) ⟨(n, V2), by simp only; omega, by simp only; omega⟩ ?_ ?_
        · simp only [push_cast, simprocAttr, g4, g5, g6, g7, g9, g8, g10, g11, g12, g13, g14, g15, g16, g17, g18, g19]
          exact htl.symm
        rintro ⟨⟨k, V3⟩, hnk, hkl⟩
        simp only at hnk hkl
        simp (maxSteps := 9999999) only [x3L2, push_cast, simprocAttr, g4, g5, g6, g7, g9, g8, g10, g11, g12, g13, g14, g15, g16, g17, g18, g19]
        refine ⟨fun hlt => ?_, fun hge => ?_⟩
        · have hlast := okEvs_last hk (k := k) (by omega)
          have hvk := hk.2 k hlt
          have hle := endJ_le hk k
          have hfr := framesL_snoc hlt
          unfold endJ at hle
          refine ⟨hlt, hlt, hlt, ⟨hvk.1, by rw [hlast, hvk.2]; omega, by omega, by rw [List.length_take]; omega⟩, fun G' => ⟨⟨(k + 1, G'), by simp only; omega, by simp only; omega⟩, ⟨wrapI (by omega) (by omega), same_eq (by simp only; rw [hfr, List.append_assoc]), ?_⟩, by simp only; omega⟩⟩
          rw [← take_snoc eEvt.dflt hlt]
          exact ⟨rfl, fun _ _ _ _ => ⟨rfl, cEq_refl _⟩⟩
        obtain rfl : k = EV.length := by omega
        rw [List.take_length, hB]
        simp (maxSteps := 9999999) only [x3bbbb, push_cast, simprocAttr, g4, g5, g6, g7, g9, g8, g10, g11, g12, g13, g14, g15, g16, g17, g18, g19]
        refine vcLoop_upd (α := {i : Nat // i ≤ EV.length}) [3, 7, 8, 13, 16, 20] 0 (fun s => [(21, .o (.c (.v (.int .i64 (s.1 : Nat)))))]) (fun s => [(20, .box [.v (.int .i64 ((poJ s_At_X s_At_Y s_At_H PP s.1).X)), .v (.int .i64 ((poJ s_At_X s_At_Y s_At_H PP s.1).Y)), .v (.int .i64 ((poJ s_At_X s_At_Y s_At_H PP s.1).H))] 28)]) (fun s => EV.length - s.1) ⟨0, by omega⟩ ?_ ?_
        · simp only [push_cast, simprocAttr, g4, g5, g6, g7, g9, g8, g10, g11, g12, g13, g14, g15, g16, g17, g18, g19]
          exact ⟨rfl, rfl, rfl⟩
        rintro ⟨i, hi⟩
        simp (maxSteps := 9999999) only [x3L3, push_cast, simprocAttr, g4, g5, g6, g7, g9, g8, g10, g11, g12, g13, g14, g15, g16, g17, g18, g19]
        have hk3 := hk.1
        have hwi : IntKind.i64.wrap ((i : Int) + 1) = ((i + 1 : Nat) : Int) := by rw [wrapI (by omega) (by omega)]; omega
        rw [hwi, show (((i + 1 : Nat) : Int) - 1).toNat = i by omega]
        refine ⟨fun hlt => ⟨⟨fun j hj => (hk.2 j hj).2, by omega, by omega, by omega, by have := (scanJ_iff.1 (hk.2 i hlt).1.2.2.2).1; omega⟩, hlt, hlt, hlt, fun h => ⟨h, by omega⟩, fun h => ⟨h, by omega⟩, fun h => ?_, fun _ _ => ⟨by omega, by omega, ⟨i + 1, by omega⟩, ⟨rfl, rfl, rfl, rfl⟩, by simp only; omega⟩⟩, fun hge => ?_⟩
        · rcases h with h | h
          · exact h rfl
          · rw [hW i (by omega)] at h; cases h
        obtain rfl : i = EV.length := by omega
        simp (maxSteps := 9999999) only [x3bbbbb, push_cast, simprocAttr, g4, g5, g6, g7, g9, g8, g10, g11, g12, g13, g14, g15, g16, g17, g18, g19]
        have hlE := okEvs_last hk (k := EV.length) (Nat.le_refl _)
        rw [List.take_length] at hlE
        exact ⟨by omega, hBu, hlE⟩
      · cases hg_
    · cases hg_
  · cases hg_
end Go.Proofs.YtkpdofgmmpbknaaGreat
