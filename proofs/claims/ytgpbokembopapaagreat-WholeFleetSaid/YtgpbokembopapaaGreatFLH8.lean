/- A part of the proof of a statement about this seat: how a function is stepped through, and plain laws. No conditions. -/
import Derived.Test.YtgpbokembopapaaGreatRows
import Derived.Test.YtgpbokembopapaaGreatFLSz4
import Derived.Test.YtgpbokembopapaaGreatFLH7
import Derived.KernelRfl
set_option linter.unusedVariables false
set_option linter.unusedSimpArgs false
set_option maxRecDepth 20000
namespace Go.Proofs.YtgpbokembopapaaGreat
open Go.Sx Go.Way
def x4L0:XC:=(.seq (.seq (.reg false [O1 31 .mv 6,K2 32 (.bin .lss) 31 (iV 3)]) (.cond (.t 32) .skip (.exit 0))) (.seq (.block 1 (.seq (.reg false [O1 36 .mv 6,O1 37 (.call 26) 36,O1 35 .mv 37,O1 38 (.ext 0) 35,O1 39 (.ext 1) 35,O1 7 .mv 38,O1 8 .mv 39]) (.seq (.seq (.reg false [O1 40 .mv 8,K2 41 (.bin .neq) 40 (iV 0)]) (.cond (.t 41) (.seq (.reg false [K1 4 .mv (.bool false)]) .ret) .skip)) (.reg false [O1 42 .mv 5,O1 43 .mv 7,⟨(some 44),(.slit 64 1 1 [(.pointer none)] [(0,1)]),[(.t 43)],none⟩,O2 45 (.app 64 1 8) 42 44,O1 5 .mv 45])))) (.reg false [O1 33 .mv 6,K2 34 (.bin .add) 33 (iV 1),O1 6 .mv 34])))
def x4L1:XC:=(.seq (.seq (.reg false [O1 46 .mv 9,O1 47 .mv 0,O1 48 .lenS 47,O2 49 (.bin .lss) 46 48]) (.cond (.t 49) .skip (.exit 2))) (.seq (.opn 0 9 5 (.block 3 (.seq (.reg false [O1 52 .mv 0,O1 53 .mv 9,O2 54 (.ixS 16) 52 53,O1 55 (.loadN 16) 54,⟨(some 10),(.alloc 72 [(.int .u8 0),(iV 0),(iV 0),(.bool false),(iV 0),(.slice none 0 0),(iV 0),(.bool false),(iV 0),(iV 0),(iV 0),(iV 0),(iV 0),(iV 0),(iV 0),(iV 0)]),[],none⟩,⟨none,(.store 16),[(.t 10),(.t 55)],none⟩]) (.seq (.reg false [O1 56 .mv 5,O1 57 (.fld 1) 10,O1 58 .load1 57,K2 59 (.call 21) 58 (iV 3),O2 60 (.ixS 1) 56 59,O1 61 .load1 60,O1 11 .mv 61]) (.seq (.reg false [O1 62 (.fld 0) 10,O1 63 .load1 62,K2 64 (.bin .rem) 63 (.int .u8 4)]) (.block 4 (.seq (.reg false [K2 85 (.bin .eql) 64 (.int .u8 2),O1 84 .mv 85]) (.cond (.t 84) (.reg false [O1 86 .mv 11,O1 87 (.fld 11) 10,O1 88 (.loadN 5) 87,O2 89 (.call 27) 86 88]) (.seq (.reg false [K2 91 (.bin .eql) 64 (.int .u8 3),O1 90 .mv 91]) (.cond (.t 90) (.reg false [O1 92 .mv 11,O1 93 .mv 5,O1 94 (.fld 2) 10,O1 95 .load1 94,K2 96 (.call 21) 95 (iV 3),O2 97 (.ixS 1) 93 96,O1 98 .load1 97,O2 99 (.call 28) 92 98]) (.seq (.reg false [O1 65 (.fld 3) 10,O1 66 (.fld 0) 65,O1 67 .load1 66]) (.cond (.t 67) (.reg false [O1 68 .mv 11,O1 69 (.fld 3) 10,O1 70 (.fld 1) 69,O1 71 .load1 70,O1 72 (.fld 3) 10,O1 73 (.fld 2) 72,O1 74 .load1 73,⟨(some 75),(.call 29),[(.t 68),(.t 71),(.t 74)],none⟩]) (.reg false [O1 76 .mv 11,O1 77 (.fld 3) 10,O1 78 (.fld 1) 77,O1 79 .load1 78,O1 80 (.fld 3) 10,O1 81 (.fld 3) 80,O1 82 (.loadN 5) 81,⟨(some 83),(.call 30),[(.t 76),(.t 79),(.t 82)],none⟩]))))))))))))) (.reg false [O1 50 .mv 9,K2 51 (.bin .add) 50 (iV 1),O1 9 .mv 51])))
def x4L2:XC:=(.seq (.seq (.reg false [O1 112 .mv 14,K2 113 (.bin .lss) 112 (iV 3)]) (.cond (.t 113) .skip (.exit 7))) (.seq (.block 8 (.seq (.reg false [O1 116 .mv 5,O1 117 .mv 12,O1 118 .mv 14,O2 119 (.bin .add) 117 118,K2 120 (.bin .rem) 119 (iV 3),O2 121 (.ixS 1) 116 120,O1 122 .load1 121,O1 15 .mv 122]) (.seq (.reg false [O1 123 .mv 15,O1 124 .mv 5,O1 125 .mv 12,O1 126 .mv 14,O2 127 (.bin .add) 125 126,K2 128 (.bin .add) 127 (iV 1),K2 129 (.bin .rem) 128 (iV 3),O2 130 (.ixS 1) 124 129,O1 131 .load1 130,O2 132 (.call 28) 123 131,K2 133 (.bin .neq) 132 (iV 0),O1 134 .mv 133,G1 135 .mv 15 134 false,G1 136 .mv 5 134 false,G1 137 .mv 12 134 false,G1 138 .mv 14 134 false,G2 139 (.bin .add) 137 138 134 false,GK 140 (.bin .add) 139 (iV 2) 134 false,GK 141 (.bin .rem) 140 (iV 3) 134 false,G2 142 (.ixS 1) 136 141 134 false,G1 143 .load1 142 134 false,G2 144 (.call 28) 135 143 134 false,GK 145 (.bin .neq) 144 (iV 0) 134 false,⟨(some 146),.pick,[(.t 134),(.k (.bool true)),(.t 145)],none⟩]) (.cond (.t 146) (.seq (.reg false [K1 4 .mv (.bool false)]) .ret) .skip)))) (.reg false [O1 114 .mv 14,K2 115 (.bin .add) 114 (iV 1),O1 14 .mv 115])))
def x4L3:XC:=(.seq (.seq (.reg false [O1 108 .mv 13,K2 109 (.bin .lss) 108 (iV 2)]) (.cond (.t 109) .skip (.exit 5))) (.seq (.block 6 (.seq (.reg false [K1 14 .mv (iV 0)]) (.block 7 (.loop x4L2)))) (.reg false [O1 110 .mv 13,K2 111 (.bin .add) 110 (iV 1),O1 13 .mv 111])))
def x4S:XC:=(.regD [O1 215 (.loadN 3) 19,O1 216 .mv 5,K2 217 (.ixS 1) 216 (iV 1),O1 218 .load1 217,O1 219 .mv 18,O2 220 (.call 35) 218 219,O2 221 (.call 38) 215 220,O1 214 .mv 221,O1 222 (.ext 0) 214,O1 223 (.ext 1) 214,O1 21 .mv 222,O1 22 .mv 223] [[],[],[1],[2,1],[],[3,2,1,4],[0,5,3,2,1,4],[6,0,5,3,2,1,4],[7,6,0,5,3,2,1,4],[7,6,0,5,3,2,1,4],[8,7,6,0,5,3,2,1,4],[9,7,6,0,5,3,2,1,4,10,8]])
def x4L4:XC:=(.seq (.seq (.reg false [O1 201 .mv 18,K2 202 (.bin .lss) 201 (iV 3)]) (.cond (.t 202) .skip (.exit 11))) (.seq (.block 12 (.seq (.reg false [O1 206 .mv 16,O1 207 .mv 17,O1 208 .mv 18,⟨(some 209),(.call 37),[(.t 206),(.t 207),(.t 208)],none⟩,O1 205 .mv 209,O1 210 (.ext 0) 205,O1 211 (.ext 1) 205,⟨(some 19),(.alloc 68 [(iV 0),(iV 0),(iV 0)]),[],none⟩,⟨none,(.store 3),[(.t 19),(.t 210)],none⟩,O1 20 .mv 211]) (.seq (.seq (.reg false [O1 212 .mv 20,O1 213 (.un .not) 212]) (.cond (.t 213) (.exit 12) .skip)) (.seq x4S (.seq (.reg false [O1 224 .mv 22,K2 225 (.bin .neq) 224 (iV 0),O1 226 .mv 225,G1 227 .mv 21 226 false,G1 228 .mv 5 226 false,GK 229 (.ixS 1) 228 (iV 2) 226 false,G1 230 .load1 229 226 false,G1 231 .mv 17 226 false,G2 232 (.call 35) 230 231 226 false,G2 233 (.call 23) 227 232 226 false,G1 234 (.un .not) 233 226 false,⟨(some 235),.pick,[(.t 226),(.k (.bool true)),(.t 234)],none⟩]) (.cond (.t 235) (.seq (.reg false [K1 4 .mv (.bool false)]) .ret) .skip)))))) (.reg false [O1 203 .mv 18,K2 204 (.bin .add) 203 (iV 1),O1 18 .mv 204])))
def x4R:XC:=(.regD [O1 155 .mv 5,O1 156 .mv 17,O2 157 (.ixS 1) 155 156,O1 158 .load1 157,O1 159 .mv 5,K2 160 (.ixS 1) 159 (iV 0),O1 161 .load1 160,O2 162 (.call 32) 158 161,O1 163 (.un .not) 162,O1 164 .mv 163,G1 165 .mv 5 164 false,G1 166 .mv 17 164 false,G2 167 (.ixS 1) 165 166 164 false,G1 168 .load1 167 164 false,G1 169 (.call 33) 168 164 false,G1 170 .mv 17 164 false,G2 171 (.bin .neq) 169 170 164 false,⟨(some 172),.pick,[(.t 164),(.k (.bool true)),(.t 171)],none⟩,O1 173 .mv 172,G1 174 .mv 5 173 false,G1 175 .mv 17 173 false,G2 176 (.ixS 1) 174 175 173 false,G1 177 .load1 176 173 false,G1 178 (.call 34) 177 173 false,G1 179 .mv 5 173 false,GK 180 (.ixS 1) 179 (iV 0) 173 false,G1 181 .load1 180 173 false,G1 182 .mv 17 173 false,G2 183 (.call 35) 181 182 173 false,G2 184 (.call 23) 178 183 173 false,G1 185 (.un .not) 184 173 false,⟨(some 186),.pick,[(.t 173),(.k (.bool true)),(.t 185)],none⟩,O1 187 .mv 186,G1 188 .mv 5 187 false,G1 189 .mv 17 187 false,G2 190 (.ixS 1) 188 189 187 false,G1 191 .load1 190 187 false,G1 192 (.call 36) 191 187 false,G1 193 .lenS 192 187 false,G1 194 .mv 5 187 false,GK 195 (.ixS 1) 194 (iV 0) 187 false,G1 196 .load1 195 187 false,G1 197 (.call 36) 196 187 false,G1 198 .lenS 197 187 false,G2 199 (.bin .neq) 193 198 187 false,⟨(some 200),.pick,[(.t 187),(.k (.bool true)),(.t 199)],none⟩] [[],[],[0,1],[2,0,1],[],[4],[5,4],[3,2,0,1,6,5,4],[7,3,2,0,1,6,5,4],[8,7,3,2,0,1,6,5,4],[9,8,7,3,2,0,1,6,5,4],[9,8,7,3,2,0,1,6,5,4],[10,9,8,7,3,2,0,1,6,5,4,11],[12,10,9,8,7,3,2,0,1,6,5,4,11],[13,12,10,9,8,7,3,2,0,1,6,5,4,11],[9,8,7,3,2,0,1,6,5,4],[14,13,12,10,9,8,7,3,2,0,1,6,5,4,11,15],[9,8,7,3,2,0,1,6,5,4,16,14,13,12,10,11,15],[17,9,8,7,3,2,0,1,6,5,4,16,14,13,12,10,11,15],[18,17,9,8,7,3,2,0,1,6,5,4,16,14,13,12,10,11,15],[18,17,9,8,7,3,2,0,1,6,5,4,16,14,13,12,10,11,15],[19,18,17,9,8,7,3,2,0,1,6,5,4,16,14,13,12,10,11,15,20],[21,19,18,17,9,8,7,3,2,0,1,6,5,4,16,14,13,12,10,11,15,20],[22,21,19,18,17,9,8,7,3,2,0,1,6,5,4,16,14,13,12,10,11,15,20],[18,17,9,8,7,3,2,0,1,6,5,4,16,14,13,12,10,11,15],[24,18,17,9,8,7,3,2,0,1,6,5,4,16,14,13,12,10,11,15],[25,24,18,17,9,8,7,3,2,0,1,6,5,4,16,14,13,12,10,11,15],[18,17,9,8,7,3,2,0,1,6,5,4,16,14,13,12,10,11,15],[26,25,24,18,17,9,8,7,3,2,0,1,6,5,4,16,14,13,12,10,11,15,27,23,22,21,19,20],[23,22,21,19,18,17,9,8,7,3,2,0,1,6,5,4,16,14,13,12,10,11,15,20,28,26,25,24,27],[29,23,22,21,19,18,17,9,8,7,3,2,0,1,6,5,4,16,14,13,12,10,11,15,20,28,26,25,24,27],[18,17,9,8,7,3,2,0,1,6,5,4,16,14,13,12,10,11,15,30,29,23,22,21,19,20,28,26,25,24,27],[31,18,17,9,8,7,3,2,0,1,6,5,4,16,14,13,12,10,11,15,30,29,23,22,21,19,20,28,26,25,24,27],[32,31,18,17,9,8,7,3,2,0,1,6,5,4,16,14,13,12,10,11,15,30,29,23,22,21,19,20,28,26,25,24,27],[32,31,18,17,9,8,7,3,2,0,1,6,5,4,16,14,13,12,10,11,15,30,29,23,22,21,19,20,28,26,25,24,27],[33,32,31,18,17,9,8,7,3,2,0,1,6,5,4,16,14,13,12,10,11,15,30,29,23,22,21,19,20,28,26,25,24,27,34],[35,33,32,31,18,17,9,8,7,3,2,0,1,6,5,4,16,14,13,12,10,11,15,30,29,23,22,21,19,20,28,26,25,24,27,34],[36,35,33,32,31,18,17,9,8,7,3,2,0,1,6,5,4,16,14,13,12,10,11,15,30,29,23,22,21,19,20,28,26,25,24,27,34],[37,36,35,33,32,31,18,17,9,8,7,3,2,0,1,6,5,4,16,14,13,12,10,11,15,30,29,23,22,21,19,20,28,26,25,24,27,34],[32,31,18,17,9,8,7,3,2,0,1,6,5,4,16,14,13,12,10,11,15,30,29,23,22,21,19,20,28,26,25,24,27],[39,32,31,18,17,9,8,7,3,2,0,1,6,5,4,16,14,13,12,10,11,15,30,29,23,22,21,19,20,28,26,25,24,27],[40,39,32,31,18,17,9,8,7,3,2,0,1,6,5,4,16,14,13,12,10,11,15,30,29,23,22,21,19,20,28,26,25,24,27],[41,40,39,32,31,18,17,9,8,7,3,2,0,1,6,5,4,16,14,13,12,10,11,15,30,29,23,22,21,19,20,28,26,25,24,27,37,36,35,33,34],[42,41,40,39,32,31,18,17,9,8,7,3,2,0,1,6,5,4,16,14,13,12,10,11,15,30,29,23,22,21,19,20,28,26,25,24,27,37,36,35,33,34],[38,37,36,35,33,32,31,18,17,9,8,7,3,2,0,1,6,5,4,16,14,13,12,10,11,15,30,29,23,22,21,19,20,28,26,25,24,27,34,43,42,41,40,39],[32,31,18,17,9,8,7,3,2,0,1,6,5,4,16,14,13,12,10,11,15,30,29,23,22,21,19,20,28,26,25,24,27,44,38,37,36,35,33,34,43,42,41,40,39]])
def x4C:XC:=(.cond (.t 200) (.seq (.reg false [K1 4 .mv (.bool false)]) .ret) .skip)
def x4B:XC:=(.seq (.reg false [K1 18 .mv (iV 0)]) (.block 11 (.loop x4L4)))
def x4D:XC:=(.reg false [O1 153 .mv 17,K2 154 (.bin .add) 153 (iV 1),O1 17 .mv 154])
def x4L5:XC:=(.seq (.seq (.reg false [O1 151 .mv 17,K2 152 (.bin .lss) 151 (iV 3)]) (.cond (.t 152) .skip (.exit 9))) (.seq (.block 10 (.seq (.seq x4R x4C) x4B)) x4D))
def x4:XFn:=⟨236,(.seq (.reg false [K1 4 .mv (.bool false)]) (.seq (.seq (.reg false [⟨(some 23),(.call 24),[],none⟩,O1 24 (.un .not) 23,O1 25 .mv 24,G1 26 .mv 0 25 false,G1 27 (.call 25) 26 25 false,G1 28 (.un .not) 27 25 false,⟨(some 29),.pick,[(.t 25),(.k (.bool true)),(.t 28)],none⟩]) (.cond (.t 29) (.seq (.reg false [⟨(some 30),(.call 24),[],none⟩,O1 4 .mv 30]) .ret) .skip)) (.seq (.reg false [K1 5 .mv (.slice none 0 0)]) (.seq (.seq (.reg false [K1 6 .mv (iV 0)]) (.block 0 (.loop x4L0))) (.seq (.seq (.reg false [K1 9 .mv (iV 0)]) (.block 2 (.loop x4L1))) (.seq (.reg false [K1 12 .mv (iV 0)]) (.seq (.cut (.seq (.reg false [O1 100 .mv 1,O1 101 .lenS 100,K2 102 (.bin .gtr) 101 (iV 0)]) (.cond (.t 102) (.reg false [O1 103 .mv 1,K2 104 (.ixS 1) 103 (iV 0),O1 105 .load1 104,O1 106 (.conv .i64) 105,K2 107 (.bin .rem) 106 (iV 3),O1 12 .mv 107]) .skip))) (.seq (.seq (.reg false [K1 13 .mv (iV 0)]) (.block 5 (.loop x4L3))) (.seq (.reg false [O1 147 .mv 5,K2 148 (.ixS 1) 147 (iV 0),O1 149 .load1 148,O1 150 (.call 31) 149,O1 16 .mv 150]) (.seq (.seq (.reg false [K1 17 .mv (iV 0)]) (.block 9 (.loop x4L5))) (.seq (.reg false [K1 4 .mv (.bool true)]) .ret))))))))))),[(.s 4)]⟩
theorem x4_ok:xfn Tryz.prog Tryz.f4=some x4.er:=by kernel_rfl
noncomputable def g4:Con:=fun args_ E_ nn_=>match args_ with
 | [.c (.n l),.c (.n order)]=>(match rowD eTk.sz E_ l with
  | some (l_n,l_s,l_f,l_c)=>(match rowOf E_ order with
  | some (order_n,order_s,order_f)=>some (.q (isDeep eTk l_n l_s l_f l_c∧isRow eU8 order_n order_s order_f∧u8s (decL eU8 order_n order_f)) (.o (.c (.v (.bool (true))))))
  | none=>none)
  | none=>none)
 | _=>none
set_option maxHeartbeats 40000000 in
theorem c4:COk Tryz.prog 4 g4:=by
 refine cok_q Tryz.func4 x4_ok (by kernel_rfl) (cok_tab (cok_cons c24 (cok_cons c25 (cok_cons c26 (cok_cons c21 (cok_cons c29 (cok_cons c30 (cok_cons c27 (cok_cons c28u (cok_cons c31 (cok_cons c32u (cok_cons c33 (cok_cons c34 (cok_cons c35 (cok_cons c23 (cok_cons c36 (cok_cons c37 (cok_cons c38 cok_nil)))))))))))))))))) ?_
 intro args_ E_ nn_ cr_ hg_
 unfold g4 at hg_
 split at hg_
 ·rename_i l order
  split at hg_
  ·rename_i l_n l_s l_f l_c h_l
   split at hg_
   ·rename_i order_n order_s order_f h_order
    cases hg_
    refine ⟨_,_,rfl,2,[l,order],[.c (.n 0),.c (.n 1)],[(0,.deep none (decD eTk l_n l_f l_c).length eTk.sz (deepF eTk (decD eTk l_n l_f l_c) l_f) (deepC eTk (decD eTk l_n l_f l_c)) []),(1,.ro (decL eU8 order_n order_f).length eU8.sz (rowF eU8 (decL eU8 order_n order_f)))],.o (.c (.v (.bool (true)))),rfl,rfl,and3 (by simp only [push_cast,Nat.reduceLT,Nat.reduceAdd]) ⟨rfl,⟨inE0_deep h_l,inE0_row h_order,trivial⟩,rfl,?_⟩⟩
    intro hpre hlen
    obtain ⟨i_l,hpre⟩:=hpre
    obtain ⟨i_order,hpre⟩:=hpre
    refine ⟨⟨inE_deep h_l i_l,inE_row h_order i_order,trivial⟩,?_⟩
    have z_l:=lens_deep (D:=eTk) hlen h_l
    have z_order:=lens_row (E:=eU8) hlen h_order
    clear i_l
    generalize decD eTk l_n l_f l_c=lL at *
    clear i_order
    generalize decL eU8 order_n order_f=orderL at *
    clear h_l
    clear h_order
    simp (maxSteps:=9999999) only [x4,push_cast,simprocAttr,g24,g25,g26,g21,g29,g30,g27,g28u,g31,g32u,g33,g34,g35,g23,g36,g37,g38,g28s,g28,g32s,g32,wr0,wr1,wr2,wr3,wr4,wr5,wr6,tm0,tm1,tm2,tm3,tm4,tm5,tm6]
    intro htl
    refine vcLoop_s (α:={s:Nat × (Nat→GV) // s.1≤3}) (fun s=>I4 s.1.1 s.1.2) (fun s=>3 - s.1.1) ⟨(0,fun _ _ _=>.bool false),by simp only; omega⟩ ?_ ?_
    ·simp only [push_cast,simprocAttr,g24,g25,g26,g21,g29,g30,g27,g28u,g31,g32u,g33,g34,g35,g23,g36,g37,g38,g28s,g28,g32s,g32,wr0,wr1,wr2,wr3,wr4,wr5,wr6,tm0,tm1,tm2,tm3,tm4,tm5,tm6,I4_0]
    rintro ⟨⟨k,g⟩,hk⟩
    simp only at hk
    rcases (by omega:k=0∨k=1∨k=2∨k=3) with rfl | rfl | rfl | rfl
    ·simp only [x4L0,push_cast,simprocAttr,g24,g25,g26,g21,g29,g30,g27,g28u,g31,g32u,g33,g34,g35,g23,g36,g37,g38,g28s,g28,g32s,g32,wr0,wr1,wr2,wr3,wr4,wr5,wr6,tm0,tm1,tm2,tm3,tm4,tm5,tm6,I4_0]
     refine fun G=>⟨⟨(1,upG g 0 G),by simp only; omega⟩,?_⟩
     simp only [push_cast,simprocAttr,g24,g25,g26,g21,g29,g30,g27,g28u,g31,g32u,g33,g34,g35,g23,g36,g37,g38,g28s,g28,g32s,g32,wr0,wr1,wr2,wr3,wr4,wr5,wr6,tm0,tm1,tm2,tm3,tm4,tm5,tm6,I4_1]
     exact ⟨⟨rw1_row,st_same _ _⟩,rw1_sc⟩
    ·simp only [x4L0,push_cast,simprocAttr,g24,g25,g26,g21,g29,g30,g27,g28u,g31,g32u,g33,g34,g35,g23,g36,g37,g38,g28s,g28,g32s,g32,wr0,wr1,wr2,wr3,wr4,wr5,wr6,tm0,tm1,tm2,tm3,tm4,tm5,tm6,I4_1]
     refine fun G=>⟨⟨(2,upG g 1 G),by simp only; omega⟩,?_⟩
     simp only [push_cast,simprocAttr,g24,g25,g26,g21,g29,g30,g27,g28u,g31,g32u,g33,g34,g35,g23,g36,g37,g38,g28s,g28,g32s,g32,wr0,wr1,wr2,wr3,wr4,wr5,wr6,tm0,tm1,tm2,tm3,tm4,tm5,tm6,I4_2]
     exact ⟨⟨rw2_row,st_same _ _,st_same _ _⟩,rw2_sc⟩
    ·simp only [x4L0,push_cast,simprocAttr,g24,g25,g26,g21,g29,g30,g27,g28u,g31,g32u,g33,g34,g35,g23,g36,g37,g38,g28s,g28,g32s,g32,wr0,wr1,wr2,wr3,wr4,wr5,wr6,tm0,tm1,tm2,tm3,tm4,tm5,tm6,I4_2]
     refine fun G=>⟨⟨(3,upG g 2 G),by simp only; omega⟩,?_⟩
     simp only [push_cast,simprocAttr,g24,g25,g26,g21,g29,g30,g27,g28u,g31,g32u,g33,g34,g35,g23,g36,g37,g38,g28s,g28,g32s,g32,wr0,wr1,wr2,wr3,wr4,wr5,wr6,tm0,tm1,tm2,tm3,tm4,tm5,tm6,I4_3]
     exact ⟨rw3_row,st_same _ _,st_same _ _,st_same _ _⟩
    simp only [x4L0,push_cast,simprocAttr,g24,g25,g26,g21,g29,g30,g27,g28u,g31,g32u,g33,g34,g35,g23,g36,g37,g38,g28s,g28,g32s,g32,wr0,wr1,wr2,wr3,wr4,wr5,wr6,tm0,tm1,tm2,tm3,tm4,tm5,tm6,I4_3]
    refine vcLoop_upd (α:={s:Nat × (Nat→GV) // s.1≤lL.length}) [0,1,5] 0 (fun s=>[(9,.o (.c (.v (.int .i64 (s.1.1:Nat)))))]) (fun s=>[(2,.bx 73 (stF (XK lL s.1.1 0) (s.1.2 0)) 130 (stP (XK lL s.1.1 0) (s.1.2 0))),(5,.bx 73 (stF (XK lL s.1.1 1) (s.1.2 1)) 130 (stP (XK lL s.1.1 1) (s.1.2 1))),(8,.bx 73 (stF (XK lL s.1.1 2) (s.1.2 2)) 130 (stP (XK lL s.1.1 2) (s.1.2 2)))]) (fun s=>lL.length - s.1.1) ⟨(0,g),by simp only; omega⟩ ?_ ?_
    ·simp only [push_cast,simprocAttr,g24,g25,g26,g21,g29,g30,g27,g28u,g31,g32u,g33,g34,g35,g23,g36,g37,g38,g28s,g28,g32s,g32,wr0,wr1,wr2,wr3,wr4,wr5,wr6,tm0,tm1,tm2,tm3,tm4,tm5,tm6,XK_0]
    clear hk
    rintro ⟨⟨k,g2⟩,hk⟩
    simp only at hk
    by_cases hlt:k < lL.length
    ·have ht:=XK_succ hlt
     have hok:=ok3_K lL k
     have hw3:(lL.getD k eTk.dflt).who.1 % 3=0∨(lL.getD k eTk.dflt).who.1 % 3=1∨(lL.getD k eTk.dflt).who.1 % 3=2:=by omega
     have ho3:(lL.getD k eTk.dflt).oth.1 % 3=0∨(lL.getD k eTk.dflt).oth.1 % 3=1∨(lL.getD k eTk.dflt).oth.1 % 3=2:=by omega
     rcases hw3 with hw | hw | hw<;>rcases ho3 with ho | ho | ho
     ·have ew:=whoK_at (i:=0) hw
      have eo:=whoK_at (i:=0) ho
      simp only [x4L1,push_cast,simprocAttr,g24,g25,g26,g21,g29,g30,g27,g28u,g31,g32u,g33,g34,g35,g23,g36,g37,g38,g28s,g28,g32s,g32,wr0,wr1,wr2,wr3,wr4,wr5,wr6,tm0,tm1,tm2,tm3,tm4,tm5,tm6,hw,ho]
      refine ⟨fun _=>⟨hlt,hlt,hlt,(lL.getD k eTk.dflt).who.2,fun h2=>fun G=>?_,fun h2=>⟨fun h3=>⟨(lL.getD k eTk.dflt).oth.2,(hok 0 (by decide)).1,fun G=>?_⟩,fun h3=>⟨fun hp=>⟨(hok 0 (by decide)).1,fun G=>?_⟩,fun hp=>⟨(hok 0 (by decide)).1,fun G=>?_⟩⟩⟩⟩,fun h=>absurd hlt h⟩
      ·rw [talk_2 h2,ew] at ht
       exact ⟨⟨(k+1,upG g2 0 G),hlt⟩,⟨wrapI (by omega) (by omega),st_eq (by rw [ht]; rfl),st_eq (by rw [ht]; rfl),st_eq (by rw [ht]; rfl)⟩,by simp only; omega⟩
      ·rw [talk_3s h2 h3 (by rw [ew,eo])] at ht
       exact ⟨⟨(k+1,upG g2 0 G),hlt⟩,⟨wrapI (by omega) (by omega),st_eq (by rw [ht]),st_eq (by rw [ht]),st_eq (by rw [ht])⟩,by simp only; omega⟩
      ·rw [talk_p h2 h3 hp,ew] at ht
       exact ⟨⟨(k+1,upG g2 0 G),hlt⟩,⟨wrapI (by omega) (by omega),st_eq (by rw [ht]; rfl),st_eq (by rw [ht]; rfl),st_eq (by rw [ht]; rfl)⟩,by simp only; omega⟩
      ·rw [talk_q h2 h3 hp,ew] at ht
       exact ⟨⟨(k+1,upG g2 0 G),hlt⟩,⟨wrapI (by omega) (by omega),st_eq (by rw [ht]; rfl),st_eq (by rw [ht]; rfl),st_eq (by rw [ht]; rfl)⟩,by simp only; omega⟩
     ·have ew:=whoK_at (i:=0) hw
      have eo:=whoK_at (i:=1) ho
      simp only [x4L1,push_cast,simprocAttr,g24,g25,g26,g21,g29,g30,g27,g28u,g31,g32u,g33,g34,g35,g23,g36,g37,g38,g28s,g28,g32s,g32,wr0,wr1,wr2,wr3,wr4,wr5,wr6,tm0,tm1,tm2,tm3,tm4,tm5,tm6,hw,ho]
      refine ⟨fun _=>⟨hlt,hlt,hlt,(lL.getD k eTk.dflt).who.2,fun h2=>fun G=>?_,fun h2=>⟨fun h3=>⟨(lL.getD k eTk.dflt).oth.2,⟨(hok 0 (by decide)).1,(hok 1 (by decide)).1⟩,fun G=>?_⟩,fun h3=>⟨fun hp=>⟨(hok 0 (by decide)).1,fun G=>?_⟩,fun hp=>⟨(hok 0 (by decide)).1,fun G=>?_⟩⟩⟩⟩,fun h=>absurd hlt h⟩
      ·rw [talk_2 h2,ew] at ht
       exact ⟨⟨(k+1,upG g2 0 G),hlt⟩,⟨wrapI (by omega) (by omega),st_eq (by rw [ht]; rfl),st_eq (by rw [ht]; rfl),st_eq (by rw [ht]; rfl)⟩,by simp only; omega⟩
      ·rw [talk_3 h2 h3 (by rw [ew,eo]; decide),ew,eo] at ht
       exact ⟨⟨(k+1,upG g2 0 G),hlt⟩,⟨wrapI (by omega) (by omega),st_eq (by rw [ht]; rfl),st_eq (by rw [ht]; rfl),st_eq (by rw [ht]; rfl)⟩,by simp only; omega⟩
      ·rw [talk_p h2 h3 hp,ew] at ht
       exact ⟨⟨(k+1,upG g2 0 G),hlt⟩,⟨wrapI (by omega) (by omega),st_eq (by rw [ht]; rfl),st_eq (by rw [ht]; rfl),st_eq (by rw [ht]; rfl)⟩,by simp only; omega⟩
      ·rw [talk_q h2 h3 hp,ew] at ht
       exact ⟨⟨(k+1,upG g2 0 G),hlt⟩,⟨wrapI (by omega) (by omega),st_eq (by rw [ht]; rfl),st_eq (by rw [ht]; rfl),st_eq (by rw [ht]; rfl)⟩,by simp only; omega⟩
     ·have ew:=whoK_at (i:=0) hw
      have eo:=whoK_at (i:=2) ho
      simp only [x4L1,push_cast,simprocAttr,g24,g25,g26,g21,g29,g30,g27,g28u,g31,g32u,g33,g34,g35,g23,g36,g37,g38,g28s,g28,g32s,g32,wr0,wr1,wr2,wr3,wr4,wr5,wr6,tm0,tm1,tm2,tm3,tm4,tm5,tm6,hw,ho]
      refine ⟨fun _=>⟨hlt,hlt,hlt,(lL.getD k eTk.dflt).who.2,fun h2=>fun G=>?_,fun h2=>⟨fun h3=>⟨(lL.getD k eTk.dflt).oth.2,⟨(hok 0 (by decide)).1,(hok 2 (by decide)).1⟩,fun G=>?_⟩,fun h3=>⟨fun hp=>⟨(hok 0 (by decide)).1,fun G=>?_⟩,fun hp=>⟨(hok 0 (by decide)).1,fun G=>?_⟩⟩⟩⟩,fun h=>absurd hlt h⟩
      ·rw [talk_2 h2,ew] at ht
       exact ⟨⟨(k+1,upG g2 0 G),hlt⟩,⟨wrapI (by omega) (by omega),st_eq (by rw [ht]; rfl),st_eq (by rw [ht]; rfl),st_eq (by rw [ht]; rfl)⟩,by simp only; omega⟩
      ·rw [talk_3 h2 h3 (by rw [ew,eo]; decide),ew,eo] at ht
       exact ⟨⟨(k+1,upG g2 0 G),hlt⟩,⟨wrapI (by omega) (by omega),st_eq (by rw [ht]; rfl),st_eq (by rw [ht]; rfl),st_eq (by rw [ht]; rfl)⟩,by simp only; omega⟩
      ·rw [talk_p h2 h3 hp,ew] at ht
       exact ⟨⟨(k+1,upG g2 0 G),hlt⟩,⟨wrapI (by omega) (by omega),st_eq (by rw [ht]; rfl),st_eq (by rw [ht]; rfl),st_eq (by rw [ht]; rfl)⟩,by simp only; omega⟩
      ·rw [talk_q h2 h3 hp,ew] at ht
       exact ⟨⟨(k+1,upG g2 0 G),hlt⟩,⟨wrapI (by omega) (by omega),st_eq (by rw [ht]; rfl),st_eq (by rw [ht]; rfl),st_eq (by rw [ht]; rfl)⟩,by simp only; omega⟩
     ·have ew:=whoK_at (i:=1) hw
      have eo:=whoK_at (i:=0) ho
      simp only [x4L1,push_cast,simprocAttr,g24,g25,g26,g21,g29,g30,g27,g28u,g31,g32u,g33,g34,g35,g23,g36,g37,g38,g28s,g28,g32s,g32,wr0,wr1,wr2,wr3,wr4,wr5,wr6,tm0,tm1,tm2,tm3,tm4,tm5,tm6,hw,ho]
      refine ⟨fun _=>⟨hlt,hlt,hlt,(lL.getD k eTk.dflt).who.2,fun h2=>fun G=>?_,fun h2=>⟨fun h3=>⟨(lL.getD k eTk.dflt).oth.2,⟨(hok 1 (by decide)).1,(hok 0 (by decide)).1⟩,fun G=>?_⟩,fun h3=>⟨fun hp=>⟨(hok 1 (by decide)).1,fun G=>?_⟩,fun hp=>⟨(hok 1 (by decide)).1,fun G=>?_⟩⟩⟩⟩,fun h=>absurd hlt h⟩
      ·rw [talk_2 h2,ew] at ht
       exact ⟨⟨(k+1,upG g2 1 G),hlt⟩,⟨wrapI (by omega) (by omega),st_eq (by rw [ht]; rfl),st_eq (by rw [ht]; rfl),st_eq (by rw [ht]; rfl)⟩,by simp only; omega⟩
      ·rw [talk_3 h2 h3 (by rw [ew,eo]; decide),ew,eo] at ht
       exact ⟨⟨(k+1,upG g2 1 G),hlt⟩,⟨wrapI (by omega) (by omega),st_eq (by rw [ht]; rfl),st_eq (by rw [ht]; rfl),st_eq (by rw [ht]; rfl)⟩,by simp only; omega⟩
      ·rw [talk_p h2 h3 hp,ew] at ht
       exact ⟨⟨(k+1,upG g2 1 G),hlt⟩,⟨wrapI (by omega) (by omega),st_eq (by rw [ht]; rfl),st_eq (by rw [ht]; rfl),st_eq (by rw [ht]; rfl)⟩,by simp only; omega⟩
      ·rw [talk_q h2 h3 hp,ew] at ht
       exact ⟨⟨(k+1,upG g2 1 G),hlt⟩,⟨wrapI (by omega) (by omega),st_eq (by rw [ht]; rfl),st_eq (by rw [ht]; rfl),st_eq (by rw [ht]; rfl)⟩,by simp only; omega⟩
     ·have ew:=whoK_at (i:=1) hw
      have eo:=whoK_at (i:=1) ho
      simp only [x4L1,push_cast,simprocAttr,g24,g25,g26,g21,g29,g30,g27,g28u,g31,g32u,g33,g34,g35,g23,g36,g37,g38,g28s,g28,g32s,g32,wr0,wr1,wr2,wr3,wr4,wr5,wr6,tm0,tm1,tm2,tm3,tm4,tm5,tm6,hw,ho]
      refine ⟨fun _=>⟨hlt,hlt,hlt,(lL.getD k eTk.dflt).who.2,fun h2=>fun G=>?_,fun h2=>⟨fun h3=>⟨(lL.getD k eTk.dflt).oth.2,(hok 1 (by decide)).1,fun G=>?_⟩,fun h3=>⟨fun hp=>⟨(hok 1 (by decide)).1,fun G=>?_⟩,fun hp=>⟨(hok 1 (by decide)).1,fun G=>?_⟩⟩⟩⟩,fun h=>absurd hlt h⟩
      ·rw [talk_2 h2,ew] at ht
       exact ⟨⟨(k+1,upG g2 1 G),hlt⟩,⟨wrapI (by omega) (by omega),st_eq (by rw [ht]; rfl),st_eq (by rw [ht]; rfl),st_eq (by rw [ht]; rfl)⟩,by simp only; omega⟩
      ·rw [talk_3s h2 h3 (by rw [ew,eo])] at ht
       exact ⟨⟨(k+1,upG g2 1 G),hlt⟩,⟨wrapI (by omega) (by omega),st_eq (by rw [ht]),st_eq (by rw [ht]),st_eq (by rw [ht])⟩,by simp only; omega⟩
      ·rw [talk_p h2 h3 hp,ew] at ht
       exact ⟨⟨(k+1,upG g2 1 G),hlt⟩,⟨wrapI (by omega) (by omega),st_eq (by rw [ht]; rfl),st_eq (by rw [ht]; rfl),st_eq (by rw [ht]; rfl)⟩,by simp only; omega⟩
      ·rw [talk_q h2 h3 hp,ew] at ht
       exact ⟨⟨(k+1,upG g2 1 G),hlt⟩,⟨wrapI (by omega) (by omega),st_eq (by rw [ht]; rfl),st_eq (by rw [ht]; rfl),st_eq (by rw [ht]; rfl)⟩,by simp only; omega⟩
     ·have ew:=whoK_at (i:=1) hw
      have eo:=whoK_at (i:=2) ho
      simp only [x4L1,push_cast,simprocAttr,g24,g25,g26,g21,g29,g30,g27,g28u,g31,g32u,g33,g34,g35,g23,g36,g37,g38,g28s,g28,g32s,g32,wr0,wr1,wr2,wr3,wr4,wr5,wr6,tm0,tm1,tm2,tm3,tm4,tm5,tm6,hw,ho]
      refine ⟨fun _=>⟨hlt,hlt,hlt,(lL.getD k eTk.dflt).who.2,fun h2=>fun G=>?_,fun h2=>⟨fun h3=>⟨(lL.getD k eTk.dflt).oth.2,⟨(hok 1 (by decide)).1,(hok 2 (by decide)).1⟩,fun G=>?_⟩,fun h3=>⟨fun hp=>⟨(hok 1 (by decide)).1,fun G=>?_⟩,fun hp=>⟨(hok 1 (by decide)).1,fun G=>?_⟩⟩⟩⟩,fun h=>absurd hlt h⟩
      ·rw [talk_2 h2,ew] at ht
       exact ⟨⟨(k+1,upG g2 1 G),hlt⟩,⟨wrapI (by omega) (by omega),st_eq (by rw [ht]; rfl),st_eq (by rw [ht]; rfl),st_eq (by rw [ht]; rfl)⟩,by simp only; omega⟩
      ·rw [talk_3 h2 h3 (by rw [ew,eo]; decide),ew,eo] at ht
       exact ⟨⟨(k+1,upG g2 1 G),hlt⟩,⟨wrapI (by omega) (by omega),st_eq (by rw [ht]; rfl),st_eq (by rw [ht]; rfl),st_eq (by rw [ht]; rfl)⟩,by simp only; omega⟩
      ·rw [talk_p h2 h3 hp,ew] at ht
       exact ⟨⟨(k+1,upG g2 1 G),hlt⟩,⟨wrapI (by omega) (by omega),st_eq (by rw [ht]; rfl),st_eq (by rw [ht]; rfl),st_eq (by rw [ht]; rfl)⟩,by simp only; omega⟩
      ·rw [talk_q h2 h3 hp,ew] at ht
       exact ⟨⟨(k+1,upG g2 1 G),hlt⟩,⟨wrapI (by omega) (by omega),st_eq (by rw [ht]; rfl),st_eq (by rw [ht]; rfl),st_eq (by rw [ht]; rfl)⟩,by simp only; omega⟩
     ·have ew:=whoK_at (i:=2) hw
      have eo:=whoK_at (i:=0) ho
      simp only [x4L1,push_cast,simprocAttr,g24,g25,g26,g21,g29,g30,g27,g28u,g31,g32u,g33,g34,g35,g23,g36,g37,g38,g28s,g28,g32s,g32,wr0,wr1,wr2,wr3,wr4,wr5,wr6,tm0,tm1,tm2,tm3,tm4,tm5,tm6,hw,ho]
      refine ⟨fun _=>⟨hlt,hlt,hlt,(lL.getD k eTk.dflt).who.2,fun h2=>fun G=>?_,fun h2=>⟨fun h3=>⟨(lL.getD k eTk.dflt).oth.2,⟨(hok 2 (by decide)).1,(hok 0 (by decide)).1⟩,fun G=>?_⟩,fun h3=>⟨fun hp=>⟨(hok 2 (by decide)).1,fun G=>?_⟩,fun hp=>⟨(hok 2 (by decide)).1,fun G=>?_⟩⟩⟩⟩,fun h=>absurd hlt h⟩
      ·rw [talk_2 h2,ew] at ht
       exact ⟨⟨(k+1,upG g2 2 G),hlt⟩,⟨wrapI (by omega) (by omega),st_eq (by rw [ht]; rfl),st_eq (by rw [ht]; rfl),st_eq (by rw [ht]; rfl)⟩,by simp only; omega⟩
      ·rw [talk_3 h2 h3 (by rw [ew,eo]; decide),ew,eo] at ht
       exact ⟨⟨(k+1,upG g2 2 G),hlt⟩,⟨wrapI (by omega) (by omega),st_eq (by rw [ht]; rfl),st_eq (by rw [ht]; rfl),st_eq (by rw [ht]; rfl)⟩,by simp only; omega⟩
      ·rw [talk_p h2 h3 hp,ew] at ht
       exact ⟨⟨(k+1,upG g2 2 G),hlt⟩,⟨wrapI (by omega) (by omega),st_eq (by rw [ht]; rfl),st_eq (by rw [ht]; rfl),st_eq (by rw [ht]; rfl)⟩,by simp only; omega⟩
      ·rw [talk_q h2 h3 hp,ew] at ht
       exact ⟨⟨(k+1,upG g2 2 G),hlt⟩,⟨wrapI (by omega) (by omega),st_eq (by rw [ht]; rfl),st_eq (by rw [ht]; rfl),st_eq (by rw [ht]; rfl)⟩,by simp only; omega⟩
     ·have ew:=whoK_at (i:=2) hw
      have eo:=whoK_at (i:=1) ho
      simp only [x4L1,push_cast,simprocAttr,g24,g25,g26,g21,g29,g30,g27,g28u,g31,g32u,g33,g34,g35,g23,g36,g37,g38,g28s,g28,g32s,g32,wr0,wr1,wr2,wr3,wr4,wr5,wr6,tm0,tm1,tm2,tm3,tm4,tm5,tm6,hw,ho]
      refine ⟨fun _=>⟨hlt,hlt,hlt,(lL.getD k eTk.dflt).who.2,fun h2=>fun G=>?_,fun h2=>⟨fun h3=>⟨(lL.getD k eTk.dflt).oth.2,⟨(hok 2 (by decide)).1,(hok 1 (by decide)).1⟩,fun G=>?_⟩,fun h3=>⟨fun hp=>⟨(hok 2 (by decide)).1,fun G=>?_⟩,fun hp=>⟨(hok 2 (by decide)).1,fun G=>?_⟩⟩⟩⟩,fun h=>absurd hlt h⟩
      ·rw [talk_2 h2,ew] at ht
       exact ⟨⟨(k+1,upG g2 2 G),hlt⟩,⟨wrapI (by omega) (by omega),st_eq (by rw [ht]; rfl),st_eq (by rw [ht]; rfl),st_eq (by rw [ht]; rfl)⟩,by simp only; omega⟩
      ·rw [talk_3 h2 h3 (by rw [ew,eo]; decide),ew,eo] at ht
       exact ⟨⟨(k+1,upG g2 2 G),hlt⟩,⟨wrapI (by omega) (by omega),st_eq (by rw [ht]; rfl),st_eq (by rw [ht]; rfl),st_eq (by rw [ht]; rfl)⟩,by simp only; omega⟩
      ·rw [talk_p h2 h3 hp,ew] at ht
       exact ⟨⟨(k+1,upG g2 2 G),hlt⟩,⟨wrapI (by omega) (by omega),st_eq (by rw [ht]; rfl),st_eq (by rw [ht]; rfl),st_eq (by rw [ht]; rfl)⟩,by simp only; omega⟩
      ·rw [talk_q h2 h3 hp,ew] at ht
       exact ⟨⟨(k+1,upG g2 2 G),hlt⟩,⟨wrapI (by omega) (by omega),st_eq (by rw [ht]; rfl),st_eq (by rw [ht]; rfl),st_eq (by rw [ht]; rfl)⟩,by simp only; omega⟩
     ·have ew:=whoK_at (i:=2) hw
      have eo:=whoK_at (i:=2) ho
      simp only [x4L1,push_cast,simprocAttr,g24,g25,g26,g21,g29,g30,g27,g28u,g31,g32u,g33,g34,g35,g23,g36,g37,g38,g28s,g28,g32s,g32,wr0,wr1,wr2,wr3,wr4,wr5,wr6,tm0,tm1,tm2,tm3,tm4,tm5,tm6,hw,ho]
      refine ⟨fun _=>⟨hlt,hlt,hlt,(lL.getD k eTk.dflt).who.2,fun h2=>fun G=>?_,fun h2=>⟨fun h3=>⟨(lL.getD k eTk.dflt).oth.2,(hok 2 (by decide)).1,fun G=>?_⟩,fun h3=>⟨fun hp=>⟨(hok 2 (by decide)).1,fun G=>?_⟩,fun hp=>⟨(hok 2 (by decide)).1,fun G=>?_⟩⟩⟩⟩,fun h=>absurd hlt h⟩
      ·rw [talk_2 h2,ew] at ht
       exact ⟨⟨(k+1,upG g2 2 G),hlt⟩,⟨wrapI (by omega) (by omega),st_eq (by rw [ht]; rfl),st_eq (by rw [ht]; rfl),st_eq (by rw [ht]; rfl)⟩,by simp only; omega⟩
      ·rw [talk_3s h2 h3 (by rw [ew,eo])] at ht
       exact ⟨⟨(k+1,upG g2 2 G),hlt⟩,⟨wrapI (by omega) (by omega),st_eq (by rw [ht]),st_eq (by rw [ht]),st_eq (by rw [ht])⟩,by simp only; omega⟩
      ·rw [talk_p h2 h3 hp,ew] at ht
       exact ⟨⟨(k+1,upG g2 2 G),hlt⟩,⟨wrapI (by omega) (by omega),st_eq (by rw [ht]; rfl),st_eq (by rw [ht]; rfl),st_eq (by rw [ht]; rfl)⟩,by simp only; omega⟩
      ·rw [talk_q h2 h3 hp,ew] at ht
       exact ⟨⟨(k+1,upG g2 2 G),hlt⟩,⟨wrapI (by omega) (by omega),st_eq (by rw [ht]; rfl),st_eq (by rw [ht]; rfl),st_eq (by rw [ht]; rfl)⟩,by simp only; omega⟩
    obtain ⟨B,hB⟩:∃ B,x4L1 = .seq (.seq (.reg false [O1 46 .mv 9,O1 47 .mv 0,O1 48 .lenS 47,O2 49 (.bin .lss) 46 48]) (.cond (.t 49) .skip (.exit 2))) B:=⟨_,rfl⟩
    simp only [hB,push_cast,simprocAttr,g24,g25,g26,g21,g29,g30,g27,g28u,g31,g32u,g33,g34,g35,g23,g36,g37,g38,g28s,g28,g32s,g32,wr0,wr1,wr2,wr3,wr4,wr5,wr6,tm0,tm1,tm2,tm3,tm4,tm5,tm6,hlt]
    obtain rfl:k=lL.length:=by omega
    have hX:=ok3_K lL lL.length
    refine vcCut_upd (α:={k:Nat // k < 3}) [5] 0 (fun s=>[(12,.o (.c (.v (.int .i64 (s.1:Nat)))))]) (fun s=>[(2,.bx 73 (stF (XK lL lL.length 0) (g2 0)) 130 (stP (XK lL lL.length 0) (g2 0))),(5,.bx 73 (stF (XK lL lL.length 1) (g2 1)) 130 (stP (XK lL lL.length 1) (g2 1))),(8,.bx 73 (stF (XK lL lL.length 2) (g2 2)) 130 (stP (XK lL lL.length 2) (g2 2)))]) ?_ ?_
    rotate_left
    ·simp only [push_cast,simprocAttr,g24,g25,g26,g21,g29,g30,g27,g28u,g31,g32u,g33,g34,g35,g23,g36,g37,g38,g28s,g28,g32s,g32,wr0,wr1,wr2,wr3,wr4,wr5,wr6,tm0,tm1,tm2,tm3,tm4,tm5,tm6]
     refine ⟨fun h=>⟨h,by omega,?_⟩,fun _=>⟨⟨0,by decide⟩,rfl⟩⟩
     obtain ⟨kq,h1,h2⟩:=ord_k (u8s_at hpre (k:=0) (by omega))
     exact ⟨⟨kq,h1⟩,h2⟩
    rintro ⟨kk,hkk⟩
    simp only [push_cast,simprocAttr,g24,g25,g26,g21,g29,g30,g27,g28u,g31,g32u,g33,g34,g35,g23,g36,g37,g38,g28s,g28,g32s,g32,wr0,wr1,wr2,wr3,wr4,wr5,wr6,tm0,tm1,tm2,tm3,tm4,tm5,tm6]
    generalize h0:XK lL lL.length=X0 at *
    clear hB hlt B hk
    refine vcLoop_upd (α:={s:Nat × (Nat→GV) // s.1≤2}) [5,12] 0 (fun s=>[(13,.o (.c (.v (.int .i64 (s.1.1:Nat)))))]) (fun s=>[(2,.bx 73 (stF (roundsX kk X0 s.1.1 0) (s.1.2 0)) 130 (stP (roundsX kk X0 s.1.1 0) (s.1.2 0))),(5,.bx 73 (stF (roundsX kk X0 s.1.1 1) (s.1.2 1)) 130 (stP (roundsX kk X0 s.1.1 1) (s.1.2 1))),(8,.bx 73 (stF (roundsX kk X0 s.1.1 2) (s.1.2 2)) 130 (stP (roundsX kk X0 s.1.1 2) (s.1.2 2)))]) (fun s=>2 - s.1.1) ⟨(0,g2),by simp only; omega⟩ ?_ ?_
    ·simp only [push_cast,simprocAttr,g24,g25,g26,g21,g29,g30,g27,g28u,g31,g32u,g33,g34,g35,g23,g36,g37,g38,g28s,g28,g32s,g32,wr0,wr1,wr2,wr3,wr4,wr5,wr6,tm0,tm1,tm2,tm3,tm4,tm5,tm6]
     exact ⟨st_same _ _,st_same _ _,st_same _ _⟩
    rintro ⟨⟨r,g3⟩,hr⟩
    simp only at hr
    have hR:=ok3_rounds hX kk r
    by_cases hr2:r < 2
    ·have hr3:((r:Int) < 2)=True:=eq_true (by omega)
     simp only [x4L3,push_cast,simprocAttr,g24,g25,g26,g21,g29,g30,g27,g28u,g31,g32u,g33,g34,g35,g23,g36,g37,g38,g28s,g28,g32s,g32,wr0,wr1,wr2,wr3,wr4,wr5,wr6,tm0,tm1,tm2,tm3,tm4,tm5,tm6,hr3]
     refine vcLoop_upd (α:={s:Nat × (Nat→GV) // s.1≤3}) [5,12,13] 0 (fun s=>[(14,.o (.c (.v (.int .i64 (s.1.1:Nat)))))]) (fun s=>[(2,.bx 73 (stF (roundX kk (roundsX kk X0 r) s.1.1 0) (s.1.2 0)) 130 (stP (roundX kk (roundsX kk X0 r) s.1.1 0) (s.1.2 0))),(5,.bx 73 (stF (roundX kk (roundsX kk X0 r) s.1.1 1) (s.1.2 1)) 130 (stP (roundX kk (roundsX kk X0 r) s.1.1 1) (s.1.2 1))),(8,.bx 73 (stF (roundX kk (roundsX kk X0 r) s.1.1 2) (s.1.2 2)) 130 (stP (roundX kk (roundsX kk X0 r) s.1.1 2) (s.1.2 2)))]) (fun s=>3 - s.1.1) ⟨(0,g3),by simp only; omega⟩ ?_ ?_
     ·simp only [push_cast,simprocAttr,g24,g25,g26,g21,g29,g30,g27,g28u,g31,g32u,g33,g34,g35,g23,g36,g37,g38,g28s,g28,g32s,g32,wr0,wr1,wr2,wr3,wr4,wr5,wr6,tm0,tm1,tm2,tm3,tm4,tm5,tm6]
      exact ⟨st_same _ _,st_same _ _,st_same _ _⟩
     rintro ⟨⟨i,g4⟩,hi⟩
     simp only at hi
     have hQ:=ok3_round hR kk i
     by_cases hi2:i < 3
     ·rcases (by omega:kk=0∨kk=1∨kk=2) with rfl | rfl | rfl<;>rcases (by omega:i=0∨i=1∨i=2) with rfl | rfl | rfl
      ·simp only [x4L2,push_cast,simprocAttr,g24,g25,g26,g21,g29,g30,g27,g28u,g31,g32u,g33,g34,g35,g23,g36,g37,g38,g28s,g28,g32s,g32,wr0,wr1,wr2,wr3,wr4,wr5,wr6,tm0,tm1,tm2,tm3,tm4,tm5,tm6]
       exact ⟨⟨(hQ 0 (by decide)).1,(hQ 1 (by decide)).1⟩,⟨okSt_hear ((hQ 0 (by decide)).1) ((hQ 1 (by decide)).1),(hQ 2 (by decide)).1⟩,fun G=>⟨⟨(1,upG g4 0 G),by simp only; omega⟩,⟨rfl,st_eq rfl,st_eq rfl,st_eq rfl⟩,by simp only; omega⟩⟩
      ·simp only [x4L2,push_cast,simprocAttr,g24,g25,g26,g21,g29,g30,g27,g28u,g31,g32u,g33,g34,g35,g23,g36,g37,g38,g28s,g28,g32s,g32,wr0,wr1,wr2,wr3,wr4,wr5,wr6,tm0,tm1,tm2,tm3,tm4,tm5,tm6]
       exact ⟨⟨(hQ 1 (by decide)).1,(hQ 2 (by decide)).1⟩,⟨okSt_hear ((hQ 1 (by decide)).1) ((hQ 2 (by decide)).1),(hQ 0 (by decide)).1⟩,fun G=>⟨⟨(2,upG g4 1 G),by simp only; omega⟩,⟨rfl,st_eq rfl,st_eq rfl,st_eq rfl⟩,by simp only; omega⟩⟩
      ·simp only [x4L2,push_cast,simprocAttr,g24,g25,g26,g21,g29,g30,g27,g28u,g31,g32u,g33,g34,g35,g23,g36,g37,g38,g28s,g28,g32s,g32,wr0,wr1,wr2,wr3,wr4,wr5,wr6,tm0,tm1,tm2,tm3,tm4,tm5,tm6]
       exact ⟨⟨(hQ 2 (by decide)).1,(hQ 0 (by decide)).1⟩,⟨okSt_hear ((hQ 2 (by decide)).1) ((hQ 0 (by decide)).1),(hQ 1 (by decide)).1⟩,fun G=>⟨⟨(3,upG g4 2 G),by simp only; omega⟩,⟨rfl,st_eq rfl,st_eq rfl,st_eq rfl⟩,by simp only; omega⟩⟩
      ·simp only [x4L2,push_cast,simprocAttr,g24,g25,g26,g21,g29,g30,g27,g28u,g31,g32u,g33,g34,g35,g23,g36,g37,g38,g28s,g28,g32s,g32,wr0,wr1,wr2,wr3,wr4,wr5,wr6,tm0,tm1,tm2,tm3,tm4,tm5,tm6]
       exact ⟨⟨(hQ 1 (by decide)).1,(hQ 2 (by decide)).1⟩,⟨okSt_hear ((hQ 1 (by decide)).1) ((hQ 2 (by decide)).1),(hQ 0 (by decide)).1⟩,fun G=>⟨⟨(1,upG g4 1 G),by simp only; omega⟩,⟨rfl,st_eq rfl,st_eq rfl,st_eq rfl⟩,by simp only; omega⟩⟩
      ·simp only [x4L2,push_cast,simprocAttr,g24,g25,g26,g21,g29,g30,g27,g28u,g31,g32u,g33,g34,g35,g23,g36,g37,g38,g28s,g28,g32s,g32,wr0,wr1,wr2,wr3,wr4,wr5,wr6,tm0,tm1,tm2,tm3,tm4,tm5,tm6]
       exact ⟨⟨(hQ 2 (by decide)).1,(hQ 0 (by decide)).1⟩,⟨okSt_hear ((hQ 2 (by decide)).1) ((hQ 0 (by decide)).1),(hQ 1 (by decide)).1⟩,fun G=>⟨⟨(2,upG g4 2 G),by simp only; omega⟩,⟨rfl,st_eq rfl,st_eq rfl,st_eq rfl⟩,by simp only; omega⟩⟩
      ·simp only [x4L2,push_cast,simprocAttr,g24,g25,g26,g21,g29,g30,g27,g28u,g31,g32u,g33,g34,g35,g23,g36,g37,g38,g28s,g28,g32s,g32,wr0,wr1,wr2,wr3,wr4,wr5,wr6,tm0,tm1,tm2,tm3,tm4,tm5,tm6]
       exact ⟨⟨(hQ 0 (by decide)).1,(hQ 1 (by decide)).1⟩,⟨okSt_hear ((hQ 0 (by decide)).1) ((hQ 1 (by decide)).1),(hQ 2 (by decide)).1⟩,fun G=>⟨⟨(3,upG g4 0 G),by simp only; omega⟩,⟨rfl,st_eq rfl,st_eq rfl,st_eq rfl⟩,by simp only; omega⟩⟩
      ·simp only [x4L2,push_cast,simprocAttr,g24,g25,g26,g21,g29,g30,g27,g28u,g31,g32u,g33,g34,g35,g23,g36,g37,g38,g28s,g28,g32s,g32,wr0,wr1,wr2,wr3,wr4,wr5,wr6,tm0,tm1,tm2,tm3,tm4,tm5,tm6]
       exact ⟨⟨(hQ 2 (by decide)).1,(hQ 0 (by decide)).1⟩,⟨okSt_hear ((hQ 2 (by decide)).1) ((hQ 0 (by decide)).1),(hQ 1 (by decide)).1⟩,fun G=>⟨⟨(1,upG g4 2 G),by simp only; omega⟩,⟨rfl,st_eq rfl,st_eq rfl,st_eq rfl⟩,by simp only; omega⟩⟩
      ·simp only [x4L2,push_cast,simprocAttr,g24,g25,g26,g21,g29,g30,g27,g28u,g31,g32u,g33,g34,g35,g23,g36,g37,g38,g28s,g28,g32s,g32,wr0,wr1,wr2,wr3,wr4,wr5,wr6,tm0,tm1,tm2,tm3,tm4,tm5,tm6]
       exact ⟨⟨(hQ 0 (by decide)).1,(hQ 1 (by decide)).1⟩,⟨okSt_hear ((hQ 0 (by decide)).1) ((hQ 1 (by decide)).1),(hQ 2 (by decide)).1⟩,fun G=>⟨⟨(2,upG g4 0 G),by simp only; omega⟩,⟨rfl,st_eq rfl,st_eq rfl,st_eq rfl⟩,by simp only; omega⟩⟩
      ·simp only [x4L2,push_cast,simprocAttr,g24,g25,g26,g21,g29,g30,g27,g28u,g31,g32u,g33,g34,g35,g23,g36,g37,g38,g28s,g28,g32s,g32,wr0,wr1,wr2,wr3,wr4,wr5,wr6,tm0,tm1,tm2,tm3,tm4,tm5,tm6]
       exact ⟨⟨(hQ 1 (by decide)).1,(hQ 2 (by decide)).1⟩,⟨okSt_hear ((hQ 1 (by decide)).1) ((hQ 2 (by decide)).1),(hQ 0 (by decide)).1⟩,fun G=>⟨⟨(3,upG g4 1 G),by simp only; omega⟩,⟨rfl,st_eq rfl,st_eq rfl,st_eq rfl⟩,by simp only; omega⟩⟩
     ·have hi3:((i:Int) < 3)=False:=eq_false (by omega)
      obtain ⟨B,hB⟩:∃ B,x4L2 = .seq (.seq (.reg false [O1 112 .mv 14,K2 113 (.bin .lss) 112 (iV 3)]) (.cond (.t 113) .skip (.exit 7))) B:=⟨_,rfl⟩
      simp only [hB,push_cast,simprocAttr,g24,g25,g26,g21,g29,g30,g27,g28u,g31,g32u,g33,g34,g35,g23,g36,g37,g38,g28s,g28,g32s,g32,wr0,wr1,wr2,wr3,wr4,wr5,wr6,tm0,tm1,tm2,tm3,tm4,tm5,tm6,hi3]
      obtain rfl:i=3:=by omega
      exact ⟨⟨(r+1,g4),by simp only; omega⟩,⟨wrapI (by omega) (by omega),st_eq rfl,st_eq rfl,st_eq rfl⟩,by simp only; omega⟩
    have hr3:((r:Int) < 2)=False:=eq_false (by omega)
    simp only [x4L3,push_cast,simprocAttr,g24,g25,g26,g21,g29,g30,g27,g28u,g31,g32u,g33,g34,g35,g23,g36,g37,g38,g28s,g28,g32s,g32,wr0,wr1,wr2,wr3,wr4,wr5,wr6,tm0,tm1,tm2,tm3,tm4,tm5,tm6,hr3]
    obtain rfl:r=2:=by omega
    have hE:EqX (roundsX kk X0 2):=h0 ▸ fin_eq htl hkk
    refine ⟨(hR 0 (by decide)).1,?_⟩
    generalize roundsX kk X0 2=Y at *
    refine vcLoop_upd (α:={s:Nat // s≤3}) [5,16] 0 (fun s=>[(17,.o (.c (.v (.int .i64 (s.1:Nat)))))]) (fun s=>[(2,.bx 73 (stF (Y 0) (g3 0)) 130 (stP (Y 0) (g3 0))),(5,.bx 73 (stF (Y 1) (g3 1)) 130 (stP (Y 1) (g3 1))),(8,.bx 73 (stF (Y 2) (g3 2)) 130 (stP (Y 2) (g3 2)))]) (fun s=>3 - s.1) ⟨0,by omega⟩ ?_ ?_
    ·simp only [push_cast,simprocAttr,g24,g25,g26,g21,g29,g30,g27,g28u,g31,g32u,g33,g34,g35,g23,g36,g37,g38,g28s,g28,g32s,g32,wr0,wr1,wr2,wr3,wr4,wr5,wr6,tm0,tm1,tm2,tm3,tm4,tm5,tm6]
    have fB1:=frmL_good (hE.ok 0 (by decide)).1.2.2.2
    have fB2:(frmL (relL (Y 0))).length≤1000:=by have:=foldA_len (L:=relL (Y 0)) (l:=[]); have:=relTo_len (Y 0) 8; unfold relL at *; unfold frmL; simp only [List.length_nil] at *; omega
    have fm0:=(hE.ok 0 (by decide)).2
    have fm1:=(hE.ok 1 (by decide)).2
    have fm2:=(hE.ok 2 (by decide)).2
    have fs0:=hE.same 0 (by decide)
    have fs1:=hE.same 1 (by decide)
    have fs2:=hE.same 2 (by decide)
    have fr1:=hE.rel 1 (by decide)
    have fr2:=hE.rel 2 (by decide)
    have fv1:=fun n=>hE.view (i:=1) (by decide) n
    have fv2:=fun n=>hE.view (i:=2) (by decide) n
    have fo0:=iff_true_intro (hE.ok 0 (by decide)).1
    have fo1:=iff_true_intro (hE.ok 1 (by decide)).1
    have fo2:=iff_true_intro (hE.ok 2 (by decide)).1
    have fz0:=iff_true_intro hE.size
    have fz1:=iff_true_intro (Nat.le_trans (Nat.le_of_eq (hE.siz (i:=1) (by decide))) hE.size)
    have fz2:=iff_true_intro (Nat.le_trans (Nat.le_of_eq (hE.siz (i:=2) (by decide))) hE.size)
    rintro ⟨i,hi⟩
    by_cases hi2:i < 3
    ·rcases (by omega:i=0∨i=1∨i=2) with rfl | rfl | rfl
     ·obtain ⟨R,C,B,D,hx,hR,hC,hB,hD⟩:∃ R C B D,x4L5 = .seq (.seq (.reg false [O1 151 .mv 17,K2 152 (.bin .lss) 151 (iV 3)]) (.cond (.t 152) .skip (.exit 9))) (.seq (.block 10 (.seq (.seq R C) B)) D)∧R=x4R∧C=x4C∧B=x4B∧D=x4D:=⟨_,_,_,_,rfl,rfl,rfl,rfl,rfl⟩
      simp only [hx,push_cast,simprocAttr,g24,g25,g26,g21,g29,g30,g27,g28u,g31,g32u,g33,g34,g35,g23,g36,g37,g38,g28s,g28,g32s,g32,wr0,wr1,wr2,wr3,wr4,wr5,wr6,tm0,tm1,tm2,tm3,tm4,tm5,tm6]
      refine gen_K fun Γ K hΓ hK=>?_
      have t32:Γ 32=g32u:=by rw [hΓ]; rfl
      have t33:Γ 33=g33:=by rw [hΓ]; rfl
      have t34:Γ 34=g34:=by rw [hΓ]; rfl
      have t35:Γ 35=g35:=by rw [hΓ]; rfl
      have t36:Γ 36=g36:=by rw [hΓ]; rfl
      have t23:Γ 23=g23:=by rw [hΓ]; rfl
      refine vcC_D (nx':=105) hR rfl ?_
      iterate 46
       refine vcDgo_k (gen_F fun F hF=>?_)
       simp only [optK_some,push_cast,simprocAttr,g24,g25,g26,g21,g29,g30,g27,g28u,g31,g32u,g33,g34,g35,g23,g36,g37,g38,g28s,g28,g32s,g32,wr0,wr1,wr2,wr3,wr4,wr5,wr6,tm0,tm1,tm2,tm3,tm4,tm5,tm6,t32,t33,t34,t35,t36,t23,fm0,fs0,fo0,fo0,fz0,fz0]
       subst hF
       refine ⟨trivial,?_⟩
       simp only [pushR,Rec.foot,keys,List.cons_append,List.nil_append,Nat.add_zero,Nat.reduceAdd]
      refine vcDgo_e (by decide) (by decide +kernel) ?_
      clear t32 t33 t34 t35 t36 t23
      subst hK
      subst hΓ
      subst hC
      subst hB
      simp only [x4C,x4B,push_cast,simprocAttr,g24,g25,g26,g21,g29,g30,g27,g28u,g31,g32u,g33,g34,g35,g23,g36,g37,g38,g28s,g28,g32s,g32,wr0,wr1,wr2,wr3,wr4,wr5,wr6,tm0,tm1,tm2,tm3,tm4,tm5,tm6]
      refine vcLoop_upd (α:={s:Nat // s≤3}) [5,16,17] 0 (fun s=>[(18,.o (.c (.v (.int .i64 (s.1:Nat)))))]) (fun s=>[(2,.bx 73 (stF (Y 0) (g3 0)) 130 (stP (Y 0) (g3 0))),(5,.bx 73 (stF (Y 1) (g3 1)) 130 (stP (Y 1) (g3 1))),(8,.bx 73 (stF (Y 2) (g3 2)) 130 (stP (Y 2) (g3 2)))]) (fun s=>3 - s.1) ⟨0,by omega⟩ ?_ ?_
      ·simp only [push_cast,simprocAttr,g24,g25,g26,g21,g29,g30,g27,g28u,g31,g32u,g33,g34,g35,g23,g36,g37,g38,g28s,g28,g32s,g32,wr0,wr1,wr2,wr3,wr4,wr5,wr6,tm0,tm1,tm2,tm3,tm4,tm5,tm6]
      rintro ⟨j,hj⟩
      by_cases hj2:j < 3
      ·have hj3:((j:Int) < 3)=True:=eq_true (by omega)
       cases hb:btwO (frmL (relL (Y 0))) (0:Int) (j:Int) with
       | none=>
        have hbs:(btwO (frmL (relL (Y 0))) (0:Int) (j:Int)).isSome=false:=by rw [hb]; rfl
        simp only [x4L4,push_cast,simprocAttr,g24,g25,g26,g21,g29,g30,g27,g28u,g31,g32u,g33,g34,g35,g23,g36,g37,g38,g28s,g28,g32s,g32,wr0,wr1,wr2,wr3,wr4,wr5,wr6,tm0,tm1,tm2,tm3,tm4,tm5,tm6,hj3,hbs]
        exact ⟨⟨fB1,fB2,by omega⟩,⟨j+1,by omega⟩,wrapI (by omega) (by omega),by simp only; omega⟩
       | some f=>
        have hbs:(btwO (frmL (relL (Y 0))) (0:Int) (j:Int)).isSome=true:=by rw [hb]; rfl
        have hbF:btwF (frmL (relL (Y 0))) (0:Int) (j:Int)=f:=by unfold btwF; rw [hb]; rfl
        obtain ⟨i1,i2,i3,i4⟩:=hE.img (i:=0) (j:=j) (by decide) (by omega) hb
        have i1':validF ⟨f.q,f.x,f.y⟩=true:=i1
        have i4':srtL cmpE ((conL (viewK (Y 0) (j:Int) 8)).map (imgE ⟨f.q,f.x,f.y⟩))=conL (viewK (Y 0) 0 8):=i4
        have i3':=iff_true_intro (show ∀ e∈conL (viewK (Y 0) (j:Int) 8),cellE e∧cellE (imgE ⟨f.q,f.x,f.y⟩ e) from i3)
        have j8:((j:Int) < 8)=True:=eq_true (by omega)
        have j0:(0≤(j:Int))=True:=eq_true (by omega)
        simp only [x4L4,push_cast,simprocAttr,g24,g25,g26,g21,g29,g30,g27,g28u,g31,g32u,g33,g34,g35,g23,g36,g37,g38,g28s,g28,g32s,g32,wr0,wr1,wr2,wr3,wr4,wr5,wr6,tm0,tm1,tm2,tm3,tm4,tm5,tm6,hj3,hbs,hbF]
        refine ⟨⟨fB1,fB2,by omega⟩,?_⟩
        refine gen_K fun Γ K hΓ hK=>?_
        have t35:Γ 35=g35:=by rw [hΓ]; rfl
        have t38:Γ 38=g38:=by rw [hΓ]; rfl
        refine vcC_D (nx':=130) (show x4S=_ from rfl) rfl ?_
        iterate 12
         refine vcDgo_k (gen_F fun F hF=>?_)
         simp only [optK_some,push_cast,simprocAttr,g24,g25,g26,g21,g29,g30,g27,g28u,g31,g32u,g33,g34,g35,g23,g36,g37,g38,g28s,g28,g32s,g32,wr0,wr1,wr2,wr3,wr4,wr5,wr6,tm0,tm1,tm2,tm3,tm4,tm5,tm6,t35,t38,fo0,fo1,fo2,fz0,fz1,fz2,fv1,fv2,i1',i2,i3',i4',j8,j0]
         subst hF
         refine ⟨trivial,?_⟩
         simp only [pushR,Rec.foot,keys,List.cons_append,List.nil_append,Nat.add_zero,Nat.reduceAdd]
        refine vcDgo_e (by decide) (by decide +kernel) ?_
        clear t35 t38
        subst hK
        subst hΓ
        simp only [push_cast,simprocAttr,g24,g25,g26,g21,g29,g30,g27,g28u,g31,g32u,g33,g34,g35,g23,g36,g37,g38,g28s,g28,g32s,g32,wr0,wr1,wr2,wr3,wr4,wr5,wr6,tm0,tm1,tm2,tm3,tm4,tm5,tm6,fo0,fo1,fo2,fz0,fz1,fz2,fv1,fv2,i1',i2,i3',i4',j8,j0]
        exact ⟨⟨j+1,by omega⟩,wrapI (by omega) (by omega),by simp only; omega⟩
      ·have hj3:((j:Int) < 3)=False:=eq_false (by omega)
       obtain ⟨B,hB⟩:∃ B,x4L4 = .seq (.seq (.reg false [O1 201 .mv 18,K2 202 (.bin .lss) 201 (iV 3)]) (.cond (.t 202) .skip (.exit 11))) B:=⟨_,rfl⟩
       subst hD
       simp only [hB,x4D,push_cast,simprocAttr,g24,g25,g26,g21,g29,g30,g27,g28u,g31,g32u,g33,g34,g35,g23,g36,g37,g38,g28s,g28,g32s,g32,wr0,wr1,wr2,wr3,wr4,wr5,wr6,tm0,tm1,tm2,tm3,tm4,tm5,tm6,hj3]
       exact ⟨⟨1,by decide⟩,rfl,by simp only; omega⟩
     ·obtain ⟨R,C,B,D,hx,hR,hC,hB,hD⟩:∃ R C B D,x4L5 = .seq (.seq (.reg false [O1 151 .mv 17,K2 152 (.bin .lss) 151 (iV 3)]) (.cond (.t 152) .skip (.exit 9))) (.seq (.block 10 (.seq (.seq R C) B)) D)∧R=x4R∧C=x4C∧B=x4B∧D=x4D:=⟨_,_,_,_,rfl,rfl,rfl,rfl,rfl⟩
      simp only [hx,push_cast,simprocAttr,g24,g25,g26,g21,g29,g30,g27,g28u,g31,g32u,g33,g34,g35,g23,g36,g37,g38,g28s,g28,g32s,g32,wr0,wr1,wr2,wr3,wr4,wr5,wr6,tm0,tm1,tm2,tm3,tm4,tm5,tm6]
      refine gen_K fun Γ K hΓ hK=>?_
      have t32:Γ 32=g32u:=by rw [hΓ]; rfl
      have t33:Γ 33=g33:=by rw [hΓ]; rfl
      have t34:Γ 34=g34:=by rw [hΓ]; rfl
      have t35:Γ 35=g35:=by rw [hΓ]; rfl
      have t36:Γ 36=g36:=by rw [hΓ]; rfl
      have t23:Γ 23=g23:=by rw [hΓ]; rfl
      refine vcC_D (nx':=105) hR rfl ?_
      iterate 46
       refine vcDgo_k (gen_F fun F hF=>?_)
       simp only [optK_some,push_cast,simprocAttr,g24,g25,g26,g21,g29,g30,g27,g28u,g31,g32u,g33,g34,g35,g23,g36,g37,g38,g28s,g28,g32s,g32,wr0,wr1,wr2,wr3,wr4,wr5,wr6,tm0,tm1,tm2,tm3,tm4,tm5,tm6,t32,t33,t34,t35,t36,t23,fm1,fs1,fo0,fo1,fz0,fz1,fr1,fv1]
       subst hF
       refine ⟨trivial,?_⟩
       simp only [pushR,Rec.foot,keys,List.cons_append,List.nil_append,Nat.add_zero,Nat.reduceAdd]
      refine vcDgo_e (by decide) (by decide +kernel) ?_
      clear t32 t33 t34 t35 t36 t23
      subst hK
      subst hΓ
      subst hC
      subst hB
      simp only [x4C,x4B,push_cast,simprocAttr,g24,g25,g26,g21,g29,g30,g27,g28u,g31,g32u,g33,g34,g35,g23,g36,g37,g38,g28s,g28,g32s,g32,wr0,wr1,wr2,wr3,wr4,wr5,wr6,tm0,tm1,tm2,tm3,tm4,tm5,tm6]
      refine vcLoop_upd (α:={s:Nat // s≤3}) [5,16,17] 0 (fun s=>[(18,.o (.c (.v (.int .i64 (s.1:Nat)))))]) (fun s=>[(2,.bx 73 (stF (Y 0) (g3 0)) 130 (stP (Y 0) (g3 0))),(5,.bx 73 (stF (Y 1) (g3 1)) 130 (stP (Y 1) (g3 1))),(8,.bx 73 (stF (Y 2) (g3 2)) 130 (stP (Y 2) (g3 2)))]) (fun s=>3 - s.1) ⟨0,by omega⟩ ?_ ?_
      ·simp only [push_cast,simprocAttr,g24,g25,g26,g21,g29,g30,g27,g28u,g31,g32u,g33,g34,g35,g23,g36,g37,g38,g28s,g28,g32s,g32,wr0,wr1,wr2,wr3,wr4,wr5,wr6,tm0,tm1,tm2,tm3,tm4,tm5,tm6]
      rintro ⟨j,hj⟩
      by_cases hj2:j < 3
      ·have hj3:((j:Int) < 3)=True:=eq_true (by omega)
       cases hb:btwO (frmL (relL (Y 0))) (1:Int) (j:Int) with
       | none=>
        have hbs:(btwO (frmL (relL (Y 0))) (1:Int) (j:Int)).isSome=false:=by rw [hb]; rfl
        simp only [x4L4,push_cast,simprocAttr,g24,g25,g26,g21,g29,g30,g27,g28u,g31,g32u,g33,g34,g35,g23,g36,g37,g38,g28s,g28,g32s,g32,wr0,wr1,wr2,wr3,wr4,wr5,wr6,tm0,tm1,tm2,tm3,tm4,tm5,tm6,hj3,hbs]
        exact ⟨⟨fB1,fB2,by omega⟩,⟨j+1,by omega⟩,wrapI (by omega) (by omega),by simp only; omega⟩
       | some f=>
        have hbs:(btwO (frmL (relL (Y 0))) (1:Int) (j:Int)).isSome=true:=by rw [hb]; rfl
        have hbF:btwF (frmL (relL (Y 0))) (1:Int) (j:Int)=f:=by unfold btwF; rw [hb]; rfl
        obtain ⟨i1,i2,i3,i4⟩:=hE.img (i:=1) (j:=j) (by decide) (by omega) hb
        have i1':validF ⟨f.q,f.x,f.y⟩=true:=i1
        have i4':srtL cmpE ((conL (viewK (Y 0) (j:Int) 8)).map (imgE ⟨f.q,f.x,f.y⟩))=conL (viewK (Y 0) 1 8):=i4
        have i3':=iff_true_intro (show ∀ e∈conL (viewK (Y 0) (j:Int) 8),cellE e∧cellE (imgE ⟨f.q,f.x,f.y⟩ e) from i3)
        have j8:((j:Int) < 8)=True:=eq_true (by omega)
        have j0:(0≤(j:Int))=True:=eq_true (by omega)
        simp only [x4L4,push_cast,simprocAttr,g24,g25,g26,g21,g29,g30,g27,g28u,g31,g32u,g33,g34,g35,g23,g36,g37,g38,g28s,g28,g32s,g32,wr0,wr1,wr2,wr3,wr4,wr5,wr6,tm0,tm1,tm2,tm3,tm4,tm5,tm6,hj3,hbs,hbF]
        refine ⟨⟨fB1,fB2,by omega⟩,?_⟩
        refine gen_K fun Γ K hΓ hK=>?_
        have t35:Γ 35=g35:=by rw [hΓ]; rfl
        have t38:Γ 38=g38:=by rw [hΓ]; rfl
        refine vcC_D (nx':=130) (show x4S=_ from rfl) rfl ?_
        iterate 12
         refine vcDgo_k (gen_F fun F hF=>?_)
         simp only [optK_some,push_cast,simprocAttr,g24,g25,g26,g21,g29,g30,g27,g28u,g31,g32u,g33,g34,g35,g23,g36,g37,g38,g28s,g28,g32s,g32,wr0,wr1,wr2,wr3,wr4,wr5,wr6,tm0,tm1,tm2,tm3,tm4,tm5,tm6,t35,t38,fo0,fo1,fo2,fz0,fz1,fz2,fv1,fv2,i1',i2,i3',i4',j8,j0]
         subst hF
         refine ⟨trivial,?_⟩
         simp only [pushR,Rec.foot,keys,List.cons_append,List.nil_append,Nat.add_zero,Nat.reduceAdd]
        refine vcDgo_e (by decide) (by decide +kernel) ?_
        clear t35 t38
        subst hK
        subst hΓ
        simp only [push_cast,simprocAttr,g24,g25,g26,g21,g29,g30,g27,g28u,g31,g32u,g33,g34,g35,g23,g36,g37,g38,g28s,g28,g32s,g32,wr0,wr1,wr2,wr3,wr4,wr5,wr6,tm0,tm1,tm2,tm3,tm4,tm5,tm6,fo0,fo1,fo2,fz0,fz1,fz2,fv1,fv2,i1',i2,i3',i4',j8,j0]
        exact ⟨⟨j+1,by omega⟩,wrapI (by omega) (by omega),by simp only; omega⟩
      ·have hj3:((j:Int) < 3)=False:=eq_false (by omega)
       obtain ⟨B,hB⟩:∃ B,x4L4 = .seq (.seq (.reg false [O1 201 .mv 18,K2 202 (.bin .lss) 201 (iV 3)]) (.cond (.t 202) .skip (.exit 11))) B:=⟨_,rfl⟩
       subst hD
       simp only [hB,x4D,push_cast,simprocAttr,g24,g25,g26,g21,g29,g30,g27,g28u,g31,g32u,g33,g34,g35,g23,g36,g37,g38,g28s,g28,g32s,g32,wr0,wr1,wr2,wr3,wr4,wr5,wr6,tm0,tm1,tm2,tm3,tm4,tm5,tm6,hj3]
       exact ⟨⟨2,by decide⟩,rfl,by simp only; omega⟩
     ·obtain ⟨R,C,B,D,hx,hR,hC,hB,hD⟩:∃ R C B D,x4L5 = .seq (.seq (.reg false [O1 151 .mv 17,K2 152 (.bin .lss) 151 (iV 3)]) (.cond (.t 152) .skip (.exit 9))) (.seq (.block 10 (.seq (.seq R C) B)) D)∧R=x4R∧C=x4C∧B=x4B∧D=x4D:=⟨_,_,_,_,rfl,rfl,rfl,rfl,rfl⟩
      simp only [hx,push_cast,simprocAttr,g24,g25,g26,g21,g29,g30,g27,g28u,g31,g32u,g33,g34,g35,g23,g36,g37,g38,g28s,g28,g32s,g32,wr0,wr1,wr2,wr3,wr4,wr5,wr6,tm0,tm1,tm2,tm3,tm4,tm5,tm6]
      refine gen_K fun Γ K hΓ hK=>?_
      have t32:Γ 32=g32u:=by rw [hΓ]; rfl
      have t33:Γ 33=g33:=by rw [hΓ]; rfl
      have t34:Γ 34=g34:=by rw [hΓ]; rfl
      have t35:Γ 35=g35:=by rw [hΓ]; rfl
      have t36:Γ 36=g36:=by rw [hΓ]; rfl
      have t23:Γ 23=g23:=by rw [hΓ]; rfl
      refine vcC_D (nx':=105) hR rfl ?_
      iterate 46
       refine vcDgo_k (gen_F fun F hF=>?_)
       simp only [optK_some,push_cast,simprocAttr,g24,g25,g26,g21,g29,g30,g27,g28u,g31,g32u,g33,g34,g35,g23,g36,g37,g38,g28s,g28,g32s,g32,wr0,wr1,wr2,wr3,wr4,wr5,wr6,tm0,tm1,tm2,tm3,tm4,tm5,tm6,t32,t33,t34,t35,t36,t23,fm2,fs2,fo0,fo2,fz0,fz2,fr2,fv2]
       subst hF
       refine ⟨trivial,?_⟩
       simp only [pushR,Rec.foot,keys,List.cons_append,List.nil_append,Nat.add_zero,Nat.reduceAdd]
      refine vcDgo_e (by decide) (by decide +kernel) ?_
      clear t32 t33 t34 t35 t36 t23
      subst hK
      subst hΓ
      subst hC
      subst hB
      simp only [x4C,x4B,push_cast,simprocAttr,g24,g25,g26,g21,g29,g30,g27,g28u,g31,g32u,g33,g34,g35,g23,g36,g37,g38,g28s,g28,g32s,g32,wr0,wr1,wr2,wr3,wr4,wr5,wr6,tm0,tm1,tm2,tm3,tm4,tm5,tm6]
      refine vcLoop_upd (α:={s:Nat // s≤3}) [5,16,17] 0 (fun s=>[(18,.o (.c (.v (.int .i64 (s.1:Nat)))))]) (fun s=>[(2,.bx 73 (stF (Y 0) (g3 0)) 130 (stP (Y 0) (g3 0))),(5,.bx 73 (stF (Y 1) (g3 1)) 130 (stP (Y 1) (g3 1))),(8,.bx 73 (stF (Y 2) (g3 2)) 130 (stP (Y 2) (g3 2)))]) (fun s=>3 - s.1) ⟨0,by omega⟩ ?_ ?_
      ·simp only [push_cast,simprocAttr,g24,g25,g26,g21,g29,g30,g27,g28u,g31,g32u,g33,g34,g35,g23,g36,g37,g38,g28s,g28,g32s,g32,wr0,wr1,wr2,wr3,wr4,wr5,wr6,tm0,tm1,tm2,tm3,tm4,tm5,tm6]
      rintro ⟨j,hj⟩
      by_cases hj2:j < 3
      ·have hj3:((j:Int) < 3)=True:=eq_true (by omega)
       cases hb:btwO (frmL (relL (Y 0))) (2:Int) (j:Int) with
       | none=>
        have hbs:(btwO (frmL (relL (Y 0))) (2:Int) (j:Int)).isSome=false:=by rw [hb]; rfl
        simp only [x4L4,push_cast,simprocAttr,g24,g25,g26,g21,g29,g30,g27,g28u,g31,g32u,g33,g34,g35,g23,g36,g37,g38,g28s,g28,g32s,g32,wr0,wr1,wr2,wr3,wr4,wr5,wr6,tm0,tm1,tm2,tm3,tm4,tm5,tm6,hj3,hbs]
        exact ⟨⟨fB1,fB2,by omega⟩,⟨j+1,by omega⟩,wrapI (by omega) (by omega),by simp only; omega⟩
       | some f=>
        have hbs:(btwO (frmL (relL (Y 0))) (2:Int) (j:Int)).isSome=true:=by rw [hb]; rfl
        have hbF:btwF (frmL (relL (Y 0))) (2:Int) (j:Int)=f:=by unfold btwF; rw [hb]; rfl
        obtain ⟨i1,i2,i3,i4⟩:=hE.img (i:=2) (j:=j) (by decide) (by omega) hb
        have i1':validF ⟨f.q,f.x,f.y⟩=true:=i1
        have i4':srtL cmpE ((conL (viewK (Y 0) (j:Int) 8)).map (imgE ⟨f.q,f.x,f.y⟩))=conL (viewK (Y 0) 2 8):=i4
        have i3':=iff_true_intro (show ∀ e∈conL (viewK (Y 0) (j:Int) 8),cellE e∧cellE (imgE ⟨f.q,f.x,f.y⟩ e) from i3)
        have j8:((j:Int) < 8)=True:=eq_true (by omega)
        have j0:(0≤(j:Int))=True:=eq_true (by omega)
        simp only [x4L4,push_cast,simprocAttr,g24,g25,g26,g21,g29,g30,g27,g28u,g31,g32u,g33,g34,g35,g23,g36,g37,g38,g28s,g28,g32s,g32,wr0,wr1,wr2,wr3,wr4,wr5,wr6,tm0,tm1,tm2,tm3,tm4,tm5,tm6,hj3,hbs,hbF]
        refine ⟨⟨fB1,fB2,by omega⟩,?_⟩
        refine gen_K fun Γ K hΓ hK=>?_
        have t35:Γ 35=g35:=by rw [hΓ]; rfl
        have t38:Γ 38=g38:=by rw [hΓ]; rfl
        refine vcC_D (nx':=130) (show x4S=_ from rfl) rfl ?_
        iterate 12
         refine vcDgo_k (gen_F fun F hF=>?_)
         simp only [optK_some,push_cast,simprocAttr,g24,g25,g26,g21,g29,g30,g27,g28u,g31,g32u,g33,g34,g35,g23,g36,g37,g38,g28s,g28,g32s,g32,wr0,wr1,wr2,wr3,wr4,wr5,wr6,tm0,tm1,tm2,tm3,tm4,tm5,tm6,t35,t38,fo0,fo1,fo2,fz0,fz1,fz2,fv1,fv2,i1',i2,i3',i4',j8,j0]
         subst hF
         refine ⟨trivial,?_⟩
         simp only [pushR,Rec.foot,keys,List.cons_append,List.nil_append,Nat.add_zero,Nat.reduceAdd]
        refine vcDgo_e (by decide) (by decide +kernel) ?_
        clear t35 t38
        subst hK
        subst hΓ
        simp only [push_cast,simprocAttr,g24,g25,g26,g21,g29,g30,g27,g28u,g31,g32u,g33,g34,g35,g23,g36,g37,g38,g28s,g28,g32s,g32,wr0,wr1,wr2,wr3,wr4,wr5,wr6,tm0,tm1,tm2,tm3,tm4,tm5,tm6,fo0,fo1,fo2,fz0,fz1,fz2,fv1,fv2,i1',i2,i3',i4',j8,j0]
        exact ⟨⟨j+1,by omega⟩,wrapI (by omega) (by omega),by simp only; omega⟩
      ·have hj3:((j:Int) < 3)=False:=eq_false (by omega)
       obtain ⟨B,hB⟩:∃ B,x4L4 = .seq (.seq (.reg false [O1 201 .mv 18,K2 202 (.bin .lss) 201 (iV 3)]) (.cond (.t 202) .skip (.exit 11))) B:=⟨_,rfl⟩
       subst hD
       simp only [hB,x4D,push_cast,simprocAttr,g24,g25,g26,g21,g29,g30,g27,g28u,g31,g32u,g33,g34,g35,g23,g36,g37,g38,g28s,g28,g32s,g32,wr0,wr1,wr2,wr3,wr4,wr5,wr6,tm0,tm1,tm2,tm3,tm4,tm5,tm6,hj3]
       exact ⟨⟨3,by decide⟩,rfl,by simp only; omega⟩
    have hi3:((i:Int) < 3)=False:=eq_false (by omega)
    obtain ⟨B,hB⟩:∃ B,x4L5 = .seq (.seq (.reg false [O1 151 .mv 17,K2 152 (.bin .lss) 151 (iV 3)]) (.cond (.t 152) .skip (.exit 9))) B:=⟨_,rfl⟩
    simp only [hB,push_cast,simprocAttr,g24,g25,g26,g21,g29,g30,g27,g28u,g31,g32u,g33,g34,g35,g23,g36,g37,g38,g28s,g28,g32s,g32,wr0,wr1,wr2,wr3,wr4,wr5,wr6,tm0,tm1,tm2,tm3,tm4,tm5,tm6,hi3]
   ·cases hg_
  ·cases hg_
 ·cases hg_
end Go.Proofs.YtgpbokembopapaaGreat
