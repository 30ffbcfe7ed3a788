/- A part of the proof of a statement about this seat: how a function is stepped through, and plain laws. No conditions. -/
import Derived.Test.YtgpbokembopapaaGreatRows
import Derived.Test.YtgpbokembopapaaGreatFLSz4
import Derived.Test.YtgpbokembopapaaGreatFLM2
import Derived.KernelRfl
set_option linter.unusedVariables false
set_option linter.unusedSimpArgs false
set_option maxRecDepth 20000
namespace Go.Proofs.YtgpbokembopapaaGreat
open Go.Sx Go.Way
theorem lt_ge (a b:Int):a < b∨b≤a:=by omega
theorem sq_le {a c:Int} (hc:0≤c) (h:a * a≤c * c):-c≤a∧a≤c:=by
 have key:∀ b:Int,b * b≤c * c→b≤c:=fun b hb=>by
  rcases lt_ge c b with h1 | h1
  ·have:=Int.mul_le_mul (show c+1≤b by omega) (show c+1≤b by omega) (by omega) (by omega)
   have e:(c+1) * (c+1)=c * c+2 * c+1:=by grind
   omega
  ·exact h1
 have:=key (-a) (by rw [Int.neg_mul_neg]; exact h)
 exact ⟨by omega,key a h⟩
theorem low_vec {x y d:Int} (h1:1≤d) (h2:d≤67108864) (h:x * x+y * y=d * d):vecB (low x y d).1 (low x y d).2.1 (low x y d).2.2=true:=by
 have hg:=gcd3_pos (x:=x) (y:=y) (d:=d) (by omega)
 obtain ⟨k1,k2,k3⟩:=dvd_gcd3 x y d
 have e1:=Int.ediv_mul_cancel k1
 have e2:=Int.ediv_mul_cancel k2
 have e3:=Int.ediv_mul_cancel k3
 have p1:=Int.ediv_pos_of_pos_of_dvd (show 0 < d by omega) (Int.le_of_lt hg) k3
 have p2:d / gcd3 x y d≤d:=Int.ediv_le_self _ (by omega)
 unfold low vecB
 simp only
 clear k1 k2 k3
 generalize x / gcd3 x y d=a at *
 generalize y / gcd3 x y d=b at *
 generalize d / gcd3 x y d=c at *
 generalize gcd3 x y d=g at *
 have e:(a * a+b * b) * (g * g)=c * c * (g * g):=by rw [← e1,← e2,← e3] at h; grind
 have f:=Int.eq_of_mul_eq_mul_right (by have:=Int.mul_pos hg hg; omega) e
 have n1:0≤a * a:=by rcases Int.le_total 0 a with q | q; exact Int.mul_nonneg q q; exact Int.mul_nonneg_of_nonpos_of_nonpos q q
 have n2:0≤b * b:=by rcases Int.le_total 0 b with q | q; exact Int.mul_nonneg q q; exact Int.mul_nonneg_of_nonpos_of_nonpos q q
 have s1:=sq_le (a:=a) (c:=c) (by omega) (by omega)
 have s2:=sq_le (a:=b) (c:=c) (by omega) (by omega)
 rw [decide_eq_true_eq]
 omega
theorem dirV_ok:∀ k:Fin 256,vecB (dirV k.val).1 (dirV k.val).2.1 (dirV k.val).2.2=true∧(dirV k.val).2.2≤8191:=by decide +kernel
theorem dirV_vec (h:Int):vecB (dirV h).1 (dirV h).2.1 (dirV h).2.2=true∧(dirV h).2.2≤8191:=by
 rw [← dirV_mod]
 have h0:0≤h % 256:=Int.emod_nonneg _ (by omega)
 have h1:h % 256 < 256:=Int.emod_lt_of_pos _ (by omega)
 have:=dirV_ok ⟨(h % 256).toNat,by omega⟩
 rw [show (((⟨(h % 256).toNat,by omega⟩:Fin 256).val:Nat):Int)=h % 256 from Int.toNat_of_nonneg h0] at this
 exact this
theorem beam_vec (h m:Int):vecB (beamV h m).1 (beamV h m).2.1 (beamV h m).2.2=true:=by
 obtain ⟨a1,a2⟩:=dirV_vec h
 obtain ⟨b1,b2⟩:=dirV_vec m
 have v1:=vec_bd a1
 have v2:=vec_bd b1
 unfold beamV
 generalize dirV h=p at *
 generalize dirV m=q at *
 have hx:vecB (bmX p.1 p.2.1 p.2.2 q.1 q.2.1 q.2.2).1 (bmX p.1 p.2.1 p.2.2 q.1 q.2.1 q.2.2).2.1 (bmX p.1 p.2.1 p.2.2 q.1 q.2.1 q.2.2).2.2=true:=by
  unfold bmX
  have m1:=Int.mul_pos (show 0 < p.2.2 by omega) (show 0 < q.2.2 by omega)
  have m2:=Int.mul_le_mul a2 b2 (by omega) (by omega)
  refine low_vec (by omega) (by omega) ?_
  have z1:=v1.2.2.2.2.2.2.2.2
  have z2:=v2.2.2.2.2.2.2.2.2
  generalize p.1=a at *; generalize p.2.1=b at *; generalize p.2.2=c at *
  generalize q.1=d at *; generalize q.2.1=e at *; generalize q.2.2=f at *
  have r1:(a * d - b * e) * (a * d - b * e)+(a * e+b * d) * (a * e+b * d)=(a * a+b * b) * (d * d+e * e):=by grind
  rw [r1,z1,z2]; grind
 have he:bmE p.1 p.2.1 p.2.2 q.1 q.2.1 q.2.2=0:=by
  have:=(vec_bd hx).2.1
  unfold bmE
  rw [if_neg (by rw [a1,b1]; decide),if_neg (by omega)]
 unfold bmT
 rw [if_pos he]
 exact hx
section
variable {W H:Int} {L:List Int} {px py vx vy vd most s:Int} {b c:CC}
end
theorem trL_in {px py vx vy vd lo hi:Int} {c:CC} (hv:vecB vx vy vd=true) (hp:(-262144≤px∧px≤262144)∧-262144≤py∧py≤262144) (h1:0≤lo∧lo≤2048) (h2:0≤hi∧hi≤2048) (hc:c∈trL px py vx vy vd lo hi):(-4200≤c.X∧c.X≤4200)∧-4200≤c.Y∧c.Y≤4200:=by
 unfold trL at hc
 split at hc
 ·unfold swL at hc
  rw [gridL_mem] at hc
  have a:=vec_bd hv
  have fx:=frac_bd (lo:=lo) (hi:=hi) (n:=vx) (d:=vd) (by omega) (by omega) (by omega) (by omega) (by omega)
  have fy:=frac_bd (lo:=lo) (hi:=hi) (n:=vy) (d:=vd) (by omega) (by omega) (by omega) (by omega) (by omega)
  obtain ⟨_,hx,hy⟩:=hc
  unfold rLo rHi at hx hy
  omega
 ·cases hc
theorem trL_few {px py vx vy vd lo hi:Int} (hv:vecB vx vy vd=true) (h1:0≤lo∧lo≤2048) (h2:0≤hi∧hi≤2048):(trL px py vx vy vd lo hi).length≤4900:=by
 unfold trL
 split
 ·unfold swL gridL
  have a:=vec_bd hv
  have fx:=frac_bd (lo:=lo) (hi:=hi) (n:=vx) (d:=vd) (by omega) (by omega) (by omega) (by omega) (by omega)
  have fy:=frac_bd (lo:=lo) (hi:=hi) (n:=vy) (d:=vd) (by omega) (by omega) (by omega) (by omega) (by omega)
  refine Nat.le_trans (gridUp_len _ _ _ _ _) ?_
  have e1:(rHi py vy vd lo hi - rLo py vy vd lo hi+1).toNat≤70:=by unfold rHi rLo; omega
  have e2:(rHi px vx vd lo hi - rLo px vx vd lo hi+1).toNat≤70:=by unfold rHi rLo; omega
  exact Nat.mul_le_mul e1 e2
 ·simp
def rchB (b:CC):Int:=if b.Y < 0 then 1024 else b.Y
def endB (x y h:Int) (b:CC):List CC:=if b.Y < 0 then [] else trL x y (beamV h b.X).1 (beamV h b.X).2.1 (beamV h b.X).2.2 b.Y b.Y
def cntC (ends:List CC) (c:CC):EE:=if ends.any (sameC c.X c.Y) then ⟨c.X,c.Y,1,0⟩ else ⟨c.X,c.Y,0,1⟩
def beamE (x y h:Int) (b:CC):List EE:=(trL x y (beamV h b.X).1 (beamV h b.X).2.1 (beamV h b.X).2.2 0 (rchB b)).map (cntC (endB x y h b))
def ofC (x y h:Int) (S:List CC):List EE:=S.flatMap (beamE x y h)
def ofT (x y h:Int) (S:List CC):List EE:=addL [] (ofC x y h S)
def ofL (x y h:Int) (S:List CC):List EE:=srtL cmpE (ofT x y h S)
def okE1 (e:EE):Prop:=cntB e=true∧posE e
theorem cntC_ok (E:List CC) (c:CC):okE1 (cntC E c):=by
 unfold cntC okE1
 split<;>exact ⟨rfl,by unfold posE; simp⟩
theorem beamE_ok (x y h:Int) (b:CC):∀ e∈beamE x y h b,okE1 e:=by
 intro e he
 unfold beamE at he
 obtain ⟨c,_,rfl⟩:=List.mem_map.1 he
 exact cntC_ok _ _
theorem ofC_ok (x y h:Int) (S:List CC):∀ e∈ofC x y h S,okE1 e:=by
 intro e he
 obtain ⟨b,_,hb⟩:=List.mem_flatMap.1 he
 exact beamE_ok _ _ _ _ _ hb
theorem scn_get {S:List CC} (h:scnB S=true):S.length≤32∧∀ b∈S,(0≤b.X∧b.X < 256)∧-1≤b.Y∧b.Y≤1024:=by
 unfold scnB at h
 simp only [Bool.and_eq_true,decide_eq_true_eq,Bool.not_eq_true',List.any_eq_false] at h
 refine ⟨h.1,fun b hb=>?_⟩
 have:=h.2 b hb
 unfold badB at this
 rw [decide_eq_true_eq] at this
 omega
theorem beamE_len {x y h:Int} {b:CC} (hb:-1≤b.Y∧b.Y≤1024):(beamE x y h b).length≤4900:=by
 unfold beamE
 rw [List.length_map]
 refine trL_few (beam_vec h b.X) (by omega) ?_
 unfold rchB; split<;>omega
theorem ofC_len (x y h:Int):∀ {S:List CC},(∀ b∈S,-1≤b.Y∧b.Y≤1024)→(ofC x y h S).length≤4900 * S.length
 | [],_=>by simp [ofC]
 | b :: S,hS=>by
  have h1:=beamE_len (x:=x) (y:=y) (h:=h) (hS b (by simp))
  have h2:=ofC_len x y h (S:=S) (fun b' hb=>hS b' (by simp [hb]))
  unfold ofC at h2 ⊢
  rw [List.flatMap_cons,List.length_append,List.length_cons]
  omega
theorem ofC_take {x y h:Int} {S:List CC} {k:Nat} (hk:k < S.length):ofC x y h (S.take (k+1))=ofC x y h (S.take k)++beamE x y h (S.getD k eC.dflt):=by
 unfold ofC
 rw [List.take_add_one,List.getElem?_eq_getElem hk,List.flatMap_append]
 simp only [Option.toList_some,List.flatMap_cons,List.flatMap_nil,List.append_nil,List.getD_eq_getElem?_getD,List.getElem?_eq_getElem hk,Option.getD_some]
theorem addL_app (T A B:List EE):addL T (A++B)=addL (addL T A) B:=by unfold addL; rw [List.foldl_append]
theorem ofT_part {x y h:Int} {S:List CC} (hS:scnB S=true) {k j:Nat} {b:CC} (hk:k≤S.length) (hb:b∈S) (hj:j≤(beamE x y h b).length):TalOk (addL (addL [] (ofC x y h (S.take k))) ((beamE x y h b).take j)) (4900 * k+j):=by
 obtain ⟨h1,h2⟩:=scn_get hS
 have a:=talOk_nil.addL (L:=ofC x y h (S.take k)) (ofC_ok x y h _)
 have l:=ofC_len x y h (S:=S.take k) (fun b hb=>(h2 b (List.mem_of_mem_take hb)).2)
 rw [List.length_take,Nat.min_eq_left hk] at l
 have c:=a.part (L:=beamE x y h b) (beamE_ok x y h b) hj
 refine ⟨c.nd,c.pos,fun e he=>?_,Nat.le_trans c.len (by omega)⟩
 have:=c.bd e he
 omega
theorem ofT_talOk {x y h:Int} {S:List CC} (hS:scnB S=true):TalOk (ofT x y h S) (4900 * S.length):=by
 obtain ⟨h1,h2⟩:=scn_get hS
 have a:=talOk_nil.addL (L:=ofC x y h S) (ofC_ok x y h _)
 have l:=ofC_len x y h (S:=S) (fun b hb=>(h2 b hb).2)
 refine ⟨a.nd,a.pos,fun e he=>?_,Nat.le_trans a.len (by omega)⟩
 have:=a.bd e he
 omega
theorem getC_mem {L:List CC} {k:Nat} (h:k < L.length):L.getD k eC.dflt∈L:=by
 rw [List.getD_eq_getElem?_getD,List.getElem?_eq_getElem h]; exact List.getElem_mem h
theorem mapC_getD {E M:List CC} {j:Nat} (h:j < M.length):(M.map (cntC E)).getD j eE.dflt=cntC E (M.getD j eC.dflt):=by
 rw [List.getD_eq_getElem?_getD,List.getD_eq_getElem?_getD,List.getElem?_map,List.getElem?_eq_getElem h]; rfl
theorem addL_cnt (T:List EE) {E M:List CC} {j:Nat} (h:j < M.length):addL T ((M.map (cntC E)).take (j+1))=if E.any (sameC (M.getD j eC.dflt).X (M.getD j eC.dflt).Y)=true then addT (addL T ((M.map (cntC E)).take j)) (M.getD j eC.dflt).X (M.getD j eC.dflt).Y 1 0 else addT (addL T ((M.map (cntC E)).take j)) (M.getD j eC.dflt).X (M.getD j eC.dflt).Y 0 1:=by
 rw [addL_take T (by rw [List.length_map]; exact h),mapC_getD h]
 unfold cntC
 split<;>rfl
def x14L0:XC:=(.seq (.reg false [O2 81 (.bin .lss) 80 79]) (.seq (.cond (.t 81) .skip (.exit 2)) (.seq (.block 3 (.seq (.reg false [O2 82 (.ixS 2) 78 80,O1 83 (.loadN 2) 82,⟨(some 16),(.alloc 109 [(iV 0),(iV 0)]),[],none⟩,⟨none,(.store 2),[(.t 16),(.t 83)],none⟩]) (.seq (.reg false [O1 84 .mv 12,O1 85 (.loadN 2) 16,O2 86 (.call 48) 84 85]) (.cond (.t 86) (.reg false [O1 87 .mv 6,O1 88 (.loadN 2) 16,⟨(some 89),(.call 49),[(.t 87),(.t 88),(.k (iV 1)),(.k (iV 0))],none⟩]) (.reg false [O1 90 .mv 6,O1 91 (.loadN 2) 16,⟨(some 92),(.call 49),[(.t 90),(.t 91),(.k (iV 0)),(.k (iV 1))],none⟩]))))) (.reg false [K2 93 (.bin .add) 80 (iV 1),O1 80 .mv 93]))))
def x14L1:XC:=(.seq (.reg false [O2 51 (.bin .lss) 50 49]) (.seq (.cond (.t 51) .skip (.exit 0)) (.seq (.block 1 (.seq (.reg false [O2 52 (.ixS 2) 48 50,O1 53 (.loadN 2) 52,⟨(some 9),(.alloc 89 [(iV 0),(iV 0)]),[],none⟩,⟨none,(.store 2),[(.t 9),(.t 53)],none⟩]) (.seq (.reg false [O1 54 (.fld 2) 2,O1 55 .load1 54,O1 56 (.fld 0) 9,O1 57 .load1 56,O2 58 (.call 46) 55 57,⟨(some 10),(.alloc 104 [(iV 0),(iV 0),(iV 0)]),[],none⟩,⟨none,(.store 3),[(.t 10),(.t 58)],none⟩]) (.seq (.reg false [O1 59 (.fld 1) 9,O1 60 .load1 59,O1 11 .mv 60]) (.seq (.reg false [K1 12 .mv (.slice none 0 0)]) (.seq (.seq (.reg false [O1 61 .mv 11,K2 62 (.bin .lss) 61 (iV 0)]) (.cond (.t 62) (.reg false [K1 11 .mv (iV 1024)]) (.reg false [O1 64 (.loadN 2) 7,O1 65 (.loadN 3) 10,O1 66 .mv 11,O1 67 .mv 11,⟨(some 68),(.call 47),[(.t 64),(.t 65),(.t 66),(.t 67)],none⟩,O1 63 .mv 68,O1 69 (.ext 0) 63,O1 70 (.ext 1) 63,O1 12 .mv 69]))) (.seq (.reg false [O1 72 (.loadN 2) 7,O1 73 (.loadN 3) 10,O1 74 .mv 11,⟨(some 75),(.call 47),[(.t 72),(.t 73),(.k (iV 0)),(.t 74)],none⟩,O1 71 .mv 75,O1 76 (.ext 0) 71,O1 77 (.ext 1) 71,O1 13 .mv 76,O1 14 .mv 77]) (.seq (.reg false [O1 78 .mv 13,O1 79 .lenS 78,K1 80 .mv (iV 0)]) (.block 2 (.loop x14L0)))))))))) (.reg false [K2 94 (.bin .add) 50 (iV 1),O1 50 .mv 94]))))
def x14:XFn:=⟨97,(.seq (.reg false [O1 2 (.box 30) 0,K1 4 .mv (.slice none 0 0),K1 5 .mv (iV 0)]) (.seq (.seq (.reg false [O1 17 (.fld 0) 2,O1 18 .load1 17,K2 19 (.call 44) 18 (iV 262144),O1 20 (.un .not) 19,O1 21 .mv 20,G1 22 (.fld 1) 2 21 false,G1 23 .load1 22 21 false,GK 24 (.call 44) 23 (iV 262144) 21 false,G1 25 (.un .not) 24 21 false,⟨(some 26),.pick,[(.t 21),(.k (.bool true)),(.t 25)],none⟩,O1 27 .mv 26,G1 28 (.fld 2) 2 27 false,G1 29 .load1 28 27 false,GK 30 (.bin .lss) 29 (iV 0) 27 false,⟨(some 31),.pick,[(.t 27),(.k (.bool true)),(.t 30)],none⟩,O1 32 .mv 31,G1 33 (.fld 2) 2 32 false,G1 34 .load1 33 32 false,GK 35 (.bin .geq) 34 (iV 256) 32 false,⟨(some 36),.pick,[(.t 32),(.k (.bool true)),(.t 35)],none⟩,O1 37 .mv 36,G1 38 .mv 1 37 false,G1 39 (.call 45) 38 37 false,G1 40 (.un .not) 39 37 false,⟨(some 41),.pick,[(.t 37),(.k (.bool true)),(.t 40)],none⟩]) (.cond (.t 41) (.seq (.reg false [K1 4 .mv (.slice none 0 0),K1 5 .mv (iV 1)]) .ret) .skip)) (.seq (.reg false [⟨(some 42),(.call 1050179),[],none⟩,O1 6 .mv 42]) (.seq (.reg false [O1 43 (.fld 0) 2,O1 44 .load1 43,O1 45 (.fld 1) 2,O1 46 .load1 45,⟨(some 47),(.build [(iV 0),(iV 0)] [(0,1),(1,1)]),[(.t 44),(.t 46)],none⟩,⟨(some 7),(.alloc 102 [(iV 0),(iV 0)]),[],none⟩,⟨none,(.store 2),[(.t 7),(.t 47)],none⟩]) (.seq (.seq (.reg false [O1 48 .mv 1,O1 49 .lenS 48,K1 50 .mv (iV 0)]) (.block 0 (.loop x14L1))) (.seq (.reg false [O1 95 .mv 6,O1 96 (.call 50) 95,O1 4 .mv 96,K1 5 .mv (iV 0)]) .ret)))))),[(.s 4),(.s 5)]⟩
theorem x14_ok:xfn Tryz.prog Tryz.f14=some x14.er:=by kernel_rfl
noncomputable def g48n:Con:=nilG g48
theorem c48n:COk Tryz.prog 48 g48n:=cok_nilG c48
noncomputable def g14:Con:=fun args_ E_ nn_=>match args_ with
 | [.a [.v (.int .i64 at_X),.v (.int .i64 at_Y),.v (.int .i64 at_H)],.c (.n s)]=>(match rowOf E_ s with
  | some (s_n,s_s,s_f)=>some (.e (isRow eC s_n s_s s_f∧((-262144≤at_X∧at_X≤262144)∧(-262144≤at_Y∧at_Y≤262144)∧0≤at_H∧at_H < 256)∧scnB (decL eC s_n s_f)=true) (.t [.c (.n (nn_+0)),.c (.v (.int .i64 (0)))]) [((nn_+0),.own (ofL at_X at_Y at_H (decL eC s_n s_f)).length 4 (rowF eE (ofL at_X at_Y at_H (decL eC s_n s_f))) 119)] (nn_+1))
  | none=>none)
 | _=>none
theorem c14:COk Tryz.prog 14 g14:=by
 refine cok_d Tryz.func14 x14_ok (by kernel_rfl) (cok_tab (cok_cons c44 (cok_cons c45 (cok_cons c1050179 (cok_cons c46 (cok_cons c47 (cok_cons c48n (cok_cons c49 (cok_cons c50 cok_nil))))))))) ?_
 intro args_ E_ nn_ cr_ hg_
 unfold g14 at hg_
 split at hg_
 ·rename_i at_X at_Y at_H s
  split at hg_
  ·rename_i s_n s_s s_f h_s
   cases hg_
   refine ⟨_,_,_,_,rfl,1,[s],[.a [.v (.int .i64 at_X),.v (.int .i64 at_Y),.v (.int .i64 at_H)],.c (.n 0)],[(0,.ro (decL eC s_n s_f).length eC.sz (rowF eC (decL eC s_n s_f)))],.t [.c (.n 1),.c (.v (.int .i64 (0)))],[(1,.own (ofL at_X at_Y at_H (decL eC s_n s_f)).length 4 (rowF eE (ofL at_X at_Y at_H (decL eC s_n s_f))) 119)],2,rfl,rfl,by simp only [renE,Ent.ren,rowF_renf]<;>rfl,rfl,by decide,and4 (by simp only [push_cast,Nat.reduceLT,Nat.reduceAdd]) ⟨rfl,⟨inE0_row h_s,trivial⟩,by simp only [keysNodup,outN,keys]<;>decide,rfl,.inl rfl,?_⟩⟩
   intro hpre hlen
   obtain ⟨i_s,hpre⟩:=hpre
   refine ⟨⟨inE_row h_s i_s,trivial⟩,by simp only [apartE]<;>(first | trivial | (simp [Ent.mut]; done)),?_⟩
   have z_s:=lens_row (E:=eC) hlen h_s
   clear i_s
   generalize decL eC s_n s_f=sL at *
   clear h_s
   obtain ⟨⟨⟨x1,x2⟩,⟨y1,y2⟩,q1,q2⟩,hS⟩:=hpre
   have w1:winB at_X 262144=true:=by unfold winB; rw [decide_eq_true_eq]; omega
   have w2:winB at_Y 262144=true:=by unfold winB; rw [decide_eq_true_eq]; omega
   have w3:(at_H < 0)=False:=by simp; omega
   have w4:(256≤at_H)=False:=by simp; omega
   obtain ⟨g1,g2⟩:=scn_get hS
   simp (maxSteps:=9999999) only [x14,push_cast,simprocAttr,g44,g45,g1050179,g46,g47,g48n,g49,g50,w1,w2,w3,w4,hS,g48]
   refine vcLoop_upd (α:={k:Nat // k≤sL.length}) [2,6,7,48,49] 0 (fun s=>[(50,.o (.c (.v (.int .i64 (s.1:Nat)))))]) (fun s=>[(2,.dm true (mapF eTal (addL [] (ofC at_X at_Y at_H (sL.take s.1)))))]) (fun s=>sL.length - s.1) ⟨0,by omega⟩ ?_ ?_
   ·simp only [push_cast,simprocAttr,g44,g45,g1050179,g46,g47,g48n,g49,g50,w1,w2,w3,w4,hS,g48]
    exact .inl rfl
   rintro ⟨k,hk⟩
   simp only [x14L1,push_cast,simprocAttr,g44,g45,g1050179,g46,g47,g48n,g49,g50,w1,w2,w3,w4,hS,g48]
   refine ⟨fun hlt=>⟨hlt,hlt,fun hneg=>?_,fun hpos=>?_⟩,fun hn=>?_⟩
   ·have hm:=getC_mem hlt
    have tk:=ofC_take (x:=at_X) (y:=at_Y) (h:=at_H) hlt
    generalize sL.getD k eC.dflt=b at *
    have eb:beamE at_X at_Y at_H b=(trL at_X at_Y (beamV at_H b.X).1 (beamV at_H b.X).2.1 (beamV at_H b.X).2.2 0 1024).map (cntC ([])):=by
     unfold beamE rchB endB; rw [if_pos hneg,if_pos hneg]
    have hpt:=fun j hj=>ofT_part (x:=at_X) (y:=at_Y) (h:=at_H) hS hk hm (j:=j) hj
    have hml:(beamE at_X at_Y at_H b).length≤4900:=beamE_len (g2 b hm).2
    rw [eb] at tk hpt hml
    rw [List.length_map] at hpt hml
    generalize trL at_X at_Y (beamV at_H b.X).1 (beamV at_H b.X).2.1 (beamV at_H b.X).2.2 0 1024=M at *
    refine vcLoop_upd (α:={j:Nat // j≤M.length}) [2,6,7,12,48,49,50,78,79] 0 (fun s=>[(80,.o (.c (.v (.int .i64 (s.1:Nat)))))]) (fun s=>[(2,.dm true (mapF eTal (addL (addL [] (ofC at_X at_Y at_H (sL.take k))) ((M.map (cntC [])).take s.1))))]) (fun s=>M.length - s.1) ⟨0,by omega⟩ ?_ ?_
    ·simp only [push_cast,simprocAttr,g44,g45,g1050179,g46,g47,g48n,g49,g50,w1,w2,w3,w4,hS,g48]
     exact .inl rfl
    rintro ⟨j,hj⟩
    simp only [x14L0,push_cast,simprocAttr,g44,g45,g1050179,g46,g47,g48n,g49,g50,w1,w2,w3,w4,hS,g48]
    have hok:=(hpt j (by omega)).wide (by omega)
    refine ⟨fun hl=>⟨hl,hl,fun hc=>⟨hok,⟨j+1,by omega⟩,⟨wrapI (by omega) (by omega),.inl (by rw [addL_cnt _ hl,if_pos hc])⟩,by simp only; omega⟩,fun hc=>⟨hok,⟨j+1,by omega⟩,⟨wrapI (by omega) (by omega),.inl (by rw [addL_cnt _ hl,if_neg (by rw [hc]; simp)])⟩,by simp only; omega⟩⟩,fun hn=>⟨⟨k+1,by omega⟩,⟨wrapI (by omega) (by omega),.inl (by
     have hjm:∀ F:CC→EE,(M.map F).take j=M.map F:=fun F=>List.take_of_length_le (by rw [List.length_map]; omega)
     rw [tk,addL_app,hjm])⟩,by simp only; omega⟩⟩
   ·have hm:=getC_mem hlt
    have tk:=ofC_take (x:=at_X) (y:=at_Y) (h:=at_H) hlt
    generalize sL.getD k eC.dflt=b at *
    have eb:beamE at_X at_Y at_H b=(trL at_X at_Y (beamV at_H b.X).1 (beamV at_H b.X).2.1 (beamV at_H b.X).2.2 0 b.Y).map (cntC (trL at_X at_Y (beamV at_H b.X).1 (beamV at_H b.X).2.1 (beamV at_H b.X).2.2 b.Y b.Y)):=by
     unfold beamE rchB endB; rw [if_neg hpos,if_neg hpos]
    have hpt:=fun j hj=>ofT_part (x:=at_X) (y:=at_Y) (h:=at_H) hS hk hm (j:=j) hj
    have hml:(beamE at_X at_Y at_H b).length≤4900:=beamE_len (g2 b hm).2
    rw [eb] at tk hpt hml
    rw [List.length_map] at hpt hml
    generalize trL at_X at_Y (beamV at_H b.X).1 (beamV at_H b.X).2.1 (beamV at_H b.X).2.2 0 b.Y=M at *
    generalize trL at_X at_Y (beamV at_H b.X).1 (beamV at_H b.X).2.1 (beamV at_H b.X).2.2 b.Y b.Y=E at *
    refine vcLoop_upd (α:={j:Nat // j≤M.length}) [2,6,7,12,48,49,50,78,79] 0 (fun s=>[(80,.o (.c (.v (.int .i64 (s.1:Nat)))))]) (fun s=>[(2,.dm true (mapF eTal (addL (addL [] (ofC at_X at_Y at_H (sL.take k))) ((M.map (cntC E)).take s.1))))]) (fun s=>M.length - s.1) ⟨0,by omega⟩ ?_ ?_
    ·simp only [push_cast,simprocAttr,g44,g45,g1050179,g46,g47,g48n,g49,g50,w1,w2,w3,w4,hS,g48]
     exact .inl rfl
    rintro ⟨j,hj⟩
    simp only [x14L0,push_cast,simprocAttr,g44,g45,g1050179,g46,g47,g48n,g49,g50,w1,w2,w3,w4,hS,g48]
    have hok:=(hpt j (by omega)).wide (by omega)
    refine ⟨fun hl=>⟨hl,hl,fun hc=>⟨hok,⟨j+1,by omega⟩,⟨wrapI (by omega) (by omega),.inl (by rw [addL_cnt _ hl,if_pos hc])⟩,by simp only; omega⟩,fun hc=>⟨hok,⟨j+1,by omega⟩,⟨wrapI (by omega) (by omega),.inl (by rw [addL_cnt _ hl,if_neg (by rw [hc]; simp)])⟩,by simp only; omega⟩⟩,fun hn=>⟨⟨k+1,by omega⟩,⟨wrapI (by omega) (by omega),.inl (by
     have hjm:∀ F:CC→EE,(M.map F).take j=M.map F:=fun F=>List.take_of_length_le (by rw [List.length_map]; omega)
     rw [tk,addL_app,hjm])⟩,by simp only; omega⟩⟩
   ·obtain rfl:k=sL.length:=by omega
    rw [List.take_length]
    have A:=ofT_talOk (x:=at_X) (y:=at_Y) (h:=at_H) hS
    have Al:=A.len
    exact ⟨⟨fun e he=>posE_zero (A.pos e he),(diffL_nodup _).2 A.nd,show (ofT at_X at_Y at_H sL).length≤_ by omega⟩,rfl,(rowEq_rowF _ _ _ _).2 trivial⟩
  ·cases hg_
 ·cases hg_
end Go.Proofs.YtgpbokembopapaaGreat
namespace Go.Proofs.YtgpbokembopapaaGreat
open Go.Sx Go.Way
def u8s (L:List Int):Prop:=∀ x∈L,0≤x∧x≤255
theorem drop_cons {α:Type} (d:α) {L:List α} {k:Nat} (h:k < L.length):L.drop k=L.getD k d :: L.drop (k+1):=by
 rw [List.drop_eq_getElem_cons h,List.getD_eq_getElem?_getD,List.getElem?_eq_getElem h,Option.getD_some]
theorem u8s_at {L:List Int} (h:u8s L) {k:Nat} (hk:k < L.length):0≤L.getD k eU8.dflt∧L.getD k eU8.dflt≤255:=by
 refine h _ ?_
 rw [List.getD_eq_getElem?_getD,List.getElem?_eq_getElem hk,Option.getD_some]
 exact List.getElem_mem hk
end Go.Proofs.YtgpbokembopapaaGreat
