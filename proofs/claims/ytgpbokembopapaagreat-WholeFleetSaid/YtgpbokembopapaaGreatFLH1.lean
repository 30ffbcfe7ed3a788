/- A part of the proof of a statement about this seat: how a function is stepped through, and plain laws. No conditions. -/
import Derived.Test.YtgpbokembopapaaGreatRows
import Derived.Test.YtgpbokembopapaaGreatFLSz4
import Derived.Test.YtgpbokembopapaaGreatFLMA
import Derived.KernelRfl
set_option linter.unusedVariables false
set_option linter.unusedSimpArgs false
set_option maxRecDepth 20000
namespace Go.Proofs.YtgpbokembopapaaGreat
open Go.Sx Go.Way
structure FR where
 q:Int
 x:Int
 y:Int
 deriving DecidableEq
def trn:Nat→Int→Int→Int × Int
 | 0,x,y=>(x,y)
 | n+1,x,y=>(-(trn n x y).2,(trn n x y).1)
def mulF (f g:FR):FR:=⟨(f.q % 4+g.q % 4) % 4,(trn (f.q % 4).toNat g.x g.y).1+f.x,(trn (f.q % 4).toNat g.x g.y).2+f.y⟩
def invF (f:FR):FR:=⟨(-f.q) % 4,(trn ((-f.q) % 4).toNat (-f.x) (-f.y)).1,(trn ((-f.q) % 4).toNat (-f.x) (-f.y)).2⟩
def validF (f:FR):Bool:=winB f.x 8192 && winB f.y 8192
def imgX (f:FR) (x y:Int):Int:=min (trn (f.q % 4).toNat x y).1 (trn (f.q % 4).toNat (x+1) (y+1)).1+f.x
def imgY (f:FR) (x y:Int):Int:=min (trn (f.q % 4).toNat x y).2 (trn (f.q % 4).toNat (x+1) (y+1)).2+f.y
def cmpF (a b:FR):Int:=firstNZ [cmpI a.q b.q,cmpI a.x b.x,cmpI a.y b.y]
def bd (m n:Int):Prop:=-m≤n∧n≤m
theorem trn_bd {m x y:Int} (hx:bd m x) (hy:bd m y):∀ n,bd m (trn n x y).1∧bd m (trn n x y).2
 | 0=>⟨hx,hy⟩
 | n+1=>by
  obtain ⟨h1,h2⟩:=trn_bd hx hy n
  have h3:trn (n+1) x y=(-(trn n x y).2,(trn n x y).1):=rfl
  rw [h3]
  unfold bd at *
  simp only
  omega
theorem andq3 (q:Int):bitI .and .i64 q 3=q % 4:=by
 unfold bitI
 have h3:(BitVec.ofInt IntKind.i64.bits 3)=3#64:=rfl
 have hb:IntKind.i64.bits=64:=rfl
 simp only [h3]
 have h:(BitVec.ofInt 64 q &&& 3#64).toNat=(BitVec.ofInt 64 q).toNat % 4:=by
  rw [BitVec.toNat_and]
  exact Nat.and_two_pow_sub_one_eq_mod _ 2
 have h2:(BitVec.ofInt 64 q).toNat=(q % 18446744073709551616).toNat:=BitVec.toNat_ofInt q
 show IntKind.i64.wrap (((BitVec.ofInt 64 q &&& 3#64).toNat:Nat):Int)=_
 rw [h,h2,wrapI (by omega) (by omega)]
 omega
theorem wrap_mod4 (n:Int):IntKind.i64.wrap n % 4=n % 4:=by
 unfold IntKind.wrap
 have h1:IntKind.i64.bits=64:=rfl
 have h2:IntKind.i64.signed=true:=rfl
 simp only [h1,h2]
 simp
 omega
theorem win_bd {m n:Int} (h:winB n m=true):bd m n:=by unfold winB at h; unfold bd; exact of_decide_eq_true h
def x67:XFn:=⟨9,(.seq (.reg false [K1 2 .mv (.bool false)]) (.seq (.reg false [O1 3 .mv 0,K2 4 (.bin .geq) 3 (iV 0),O1 5 .mv 4,G1 6 .mv 0 5 true,GK 7 (.bin .lss) 6 (iV 8) 5 true,⟨(some 8),.pick,[(.t 5),(.t 7),(.k (.bool false))],none⟩,O1 2 .mv 8]) .ret)),[(.s 2)]⟩
theorem x67_ok:xfn Tryz.prog Tryz.f67=some x67.er:=by kernel_rfl
def x61:XFn:=⟨9,(.seq (.reg false [K1 2 .mv (.bool false)]) (.seq (.reg false [O1 3 .mv 0,K2 4 (.bin .geq) 3 (iV 0),O1 5 .mv 4,G1 6 .mv 0 5 true,GK 7 (.bin .lss) 6 (iV 8) 5 true,⟨(some 8),.pick,[(.t 5),(.t 7),(.k (.bool false))],none⟩,O1 2 .mv 8]) .ret)),[(.s 2)]⟩
theorem x61_ok:xfn Tryz.prog Tryz.f61=some x61.er:=by kernel_rfl
def x62:XFn:=⟨9,(.seq (.reg false [K1 2 .mv (.bool false)]) (.seq (.reg false [O1 3 .mv 0,K2 4 (.bin .geq) 3 (iV (-1024)),O1 5 .mv 4,G1 6 .mv 0 5 true,GK 7 (.bin .leq) 6 (iV 1024) 5 true,⟨(some 8),.pick,[(.t 5),(.t 7),(.k (.bool false))],none⟩,O1 2 .mv 8]) .ret)),[(.s 2)]⟩
theorem x62_ok:xfn Tryz.prog Tryz.f62=some x62.er:=by kernel_rfl
def x107:XFn:=⟨14,(.seq (.reg false [K1 4 .mv (.bool false)]) (.seq (.reg false [O1 5 .mv 0,O1 6 .mv 1,O1 7 (.un .neg) 6,O2 8 (.bin .geq) 5 7,O1 9 .mv 8,G1 10 .mv 0 9 true,G1 11 .mv 1 9 true,G2 12 (.bin .leq) 10 11 9 true,⟨(some 13),.pick,[(.t 9),(.t 12),(.k (.bool false))],none⟩,O1 4 .mv 13]) .ret)),[(.s 4)]⟩
theorem x107_ok:xfn Tryz.prog Tryz.f107=some x107.er:=by kernel_rfl
def x69:XFn:=⟨11,(.seq (.reg false [O1 1 (.box 68) 0,K1 2 .mv (.bool false)]) (.seq (.reg false [O1 3 (.fld 1) 1,O1 4 .load1 3,K2 5 (.call 107) 4 (iV 8192),O1 6 .mv 5,G1 7 (.fld 2) 1 6 true,G1 8 .load1 7 6 true,GK 9 (.call 107) 8 (iV 8192) 6 true,⟨(some 10),.pick,[(.t 6),(.t 9),(.k (.bool false))],none⟩,O1 2 .mv 10]) .ret)),[(.s 2)]⟩
theorem x69_ok:xfn Tryz.prog Tryz.f69=some x69.er:=by kernel_rfl
def x111L0:XC:=(.seq (.reg false [O2 11 (.bin .lss) 10 9]) (.seq (.cond (.t 11) .skip (.exit 0)) (.seq (.block 1 (.reg false [O1 12 .mv 2,O1 13 (.un .neg) 12,O1 14 .mv 1,O1 1 .mv 13,O1 2 .mv 14])) (.reg false [K2 15 (.bin .add) 10 (iV 1),O1 10 .mv 15]))))
def x111:XFn:=⟨18,(.seq (.reg false [K1 6 .mv (iV 0),K1 7 .mv (iV 0)]) (.seq (.seq (.reg false [O1 8 .mv 0,K2 9 (.bin .and) 8 (iV 3),K1 10 .mv (iV 0)]) (.block 0 (.loop x111L0))) (.seq (.reg false [O1 16 .mv 1,O1 17 .mv 2,O1 6 .mv 16,O1 7 .mv 17]) .ret))),[(.s 6),(.s 7)]⟩
theorem x111_ok:xfn Tryz.prog Tryz.f111=some x111.er:=by kernel_rfl
def x109:XFn:=⟨34,(.seq (.reg false [O1 2 (.box 68) 0,O1 3 (.box 68) 1,⟨(some 4),(.alloc 68 [(iV 0),(iV 0),(iV 0)]),[],none⟩]) (.seq (.reg false [O1 8 (.fld 0) 2,O1 9 .load1 8,O1 10 (.fld 1) 3,O1 11 .load1 10,O1 12 (.fld 2) 3,O1 13 .load1 12,⟨(some 14),(.call 111),[(.t 9),(.t 11),(.t 13)],none⟩,O1 7 .mv 14,O1 15 (.ext 0) 7,O1 16 (.ext 1) 7,O1 5 .mv 15,O1 6 .mv 16]) (.seq (.reg false [O1 17 (.fld 0) 2,O1 18 .load1 17,K2 19 (.bin .and) 18 (iV 3),O1 20 (.fld 0) 3,O1 21 .load1 20,K2 22 (.bin .and) 21 (iV 3),O2 23 (.bin .add) 19 22,K2 24 (.bin .and) 23 (iV 3),O1 25 .mv 5,O1 26 (.fld 1) 2,O1 27 .load1 26,O2 28 (.bin .add) 25 27,O1 29 .mv 6,O1 30 (.fld 2) 2,O1 31 .load1 30,O2 32 (.bin .add) 29 31,⟨(some 33),(.build [(iV 0),(iV 0),(iV 0)] [(0,1),(1,1),(2,1)]),[(.t 24),(.t 28),(.t 32)],none⟩,⟨none,(.store 3),[(.t 4),(.t 33)],none⟩]) .ret))),[(.bn 4 3)]⟩
theorem x109_ok:xfn Tryz.prog Tryz.f109=some x109.er:=by kernel_rfl
def x110:XFn:=⟨25,(.seq (.reg false [O1 1 (.box 68) 0,⟨(some 2),(.alloc 68 [(iV 0),(iV 0),(iV 0)]),[],none⟩]) (.seq (.reg false [O1 6 (.fld 0) 1,O1 7 .load1 6,O1 8 (.un .neg) 7,K2 9 (.bin .and) 8 (iV 3),O1 3 .mv 9]) (.seq (.reg false [O1 11 .mv 3,O1 12 (.fld 1) 1,O1 13 .load1 12,O1 14 (.un .neg) 13,O1 15 (.fld 2) 1,O1 16 .load1 15,O1 17 (.un .neg) 16,⟨(some 18),(.call 111),[(.t 11),(.t 14),(.t 17)],none⟩,O1 10 .mv 18,O1 19 (.ext 0) 10,O1 20 (.ext 1) 10,O1 4 .mv 19,O1 5 .mv 20]) (.seq (.reg false [O1 21 .mv 3,O1 22 .mv 4,O1 23 .mv 5,⟨(some 24),(.build [(iV 0),(iV 0),(iV 0)] [(0,1),(1,1),(2,1)]),[(.t 21),(.t 22),(.t 23)],none⟩,⟨none,(.store 3),[(.t 2),(.t 24)],none⟩]) .ret)))),[(.bn 2 3)]⟩
theorem x110_ok:xfn Tryz.prog Tryz.f110=some x110.er:=by kernel_rfl
def x105:XFn:=⟨10,(.seq (.reg false [O1 1 (.box 68) 0,⟨(some 2),(.alloc 68 [(iV 0),(iV 0),(iV 0)]),[],none⟩,K1 3 .mv (iV 0)]) (.seq (.seq (.reg false [O1 4 (.loadN 3) 1,O1 5 (.call 69) 4,O1 6 (.un .not) 5]) (.cond (.t 6) (.seq (.reg false [⟨(some 7),(.build [(iV 0),(iV 0),(iV 0)] []),[],none⟩,⟨none,(.store 3),[(.t 2),(.t 7)],none⟩,K1 3 .mv (iV 1)]) .ret) .skip)) (.seq (.reg false [O1 8 (.loadN 3) 1,O1 9 (.call 110) 8,⟨none,(.store 3),[(.t 2),(.t 9)],none⟩,K1 3 .mv (iV 0)]) .ret))),[(.bn 2 3),(.s 3)]⟩
theorem x105_ok:xfn Tryz.prog Tryz.f105=some x105.er:=by kernel_rfl
def x70:XFn:=⟨74,(.seq (.reg false [O1 2 (.box 68) 0,O1 3 (.box 109) 1,⟨(some 4),(.alloc 109 [(iV 0),(iV 0)]),[],none⟩,K1 5 .mv (iV 0)]) (.seq (.seq (.reg false [O1 11 (.loadN 3) 2,O1 12 (.call 69) 11,O1 13 (.un .not) 12,O1 14 .mv 13,G1 15 (.fld 0) 3 14 false,G1 16 .load1 15 14 false,GK 17 (.call 107) 16 (iV 16384) 14 false,G1 18 (.un .not) 17 14 false,⟨(some 19),.pick,[(.t 14),(.k (.bool true)),(.t 18)],none⟩,O1 20 .mv 19,G1 21 (.fld 1) 3 20 false,G1 22 .load1 21 20 false,GK 23 (.call 107) 22 (iV 16384) 20 false,G1 24 (.un .not) 23 20 false,⟨(some 25),.pick,[(.t 20),(.k (.bool true)),(.t 24)],none⟩]) (.cond (.t 25) (.seq (.reg false [⟨(some 26),(.build [(iV 0),(iV 0)] []),[],none⟩,⟨none,(.store 2),[(.t 4),(.t 26)],none⟩,K1 5 .mv (iV 1)]) .ret) .skip)) (.seq (.reg false [O1 28 (.fld 0) 2,O1 29 .load1 28,O1 30 (.fld 0) 3,O1 31 .load1 30,O1 32 (.fld 1) 3,O1 33 .load1 32,⟨(some 34),(.call 111),[(.t 29),(.t 31),(.t 33)],none⟩,O1 27 .mv 34,O1 35 (.ext 0) 27,O1 36 (.ext 1) 27,O1 6 .mv 35,O1 7 .mv 36]) (.seq (.reg false [O1 38 (.fld 0) 2,O1 39 .load1 38,O1 40 (.fld 0) 3,O1 41 .load1 40,K2 42 (.bin .add) 41 (iV 1),O1 43 (.fld 1) 3,O1 44 .load1 43,K2 45 (.bin .add) 44 (iV 1),⟨(some 46),(.call 111),[(.t 39),(.t 42),(.t 45)],none⟩,O1 37 .mv 46,O1 47 (.ext 0) 37,O1 48 (.ext 1) 37,O1 8 .mv 47,O1 9 .mv 48]) (.seq (.reg false [O1 49 .mv 6,O1 50 .mv 8,O2 51 .minI 49 50,O1 52 (.fld 1) 2,O1 53 .load1 52,O2 54 (.bin .add) 51 53,O1 55 .mv 7,O1 56 .mv 9,O2 57 .minI 55 56,O1 58 (.fld 2) 2,O1 59 .load1 58,O2 60 (.bin .add) 57 59,⟨(some 61),(.build [(iV 0),(iV 0)] [(0,1),(1,1)]),[(.t 54),(.t 60)],none⟩,⟨(some 10),(.alloc 109 [(iV 0),(iV 0)]),[],none⟩,⟨none,(.store 2),[(.t 10),(.t 61)],none⟩]) (.seq (.seq (.reg false [O1 62 (.fld 0) 10,O1 63 .load1 62,K2 64 (.call 107) 63 (iV 16384),O1 65 (.un .not) 64,O1 66 .mv 65,G1 67 (.fld 1) 10 66 false,G1 68 .load1 67 66 false,GK 69 (.call 107) 68 (iV 16384) 66 false,G1 70 (.un .not) 69 66 false,⟨(some 71),.pick,[(.t 66),(.k (.bool true)),(.t 70)],none⟩]) (.cond (.t 71) (.seq (.reg false [⟨(some 72),(.build [(iV 0),(iV 0)] []),[],none⟩,⟨none,(.store 2),[(.t 4),(.t 72)],none⟩,K1 5 .mv (iV 2)]) .ret) .skip)) (.seq (.reg false [O1 73 (.loadN 2) 10,⟨none,(.store 2),[(.t 4),(.t 73)],none⟩,K1 5 .mv (iV 0)]) .ret))))))),[(.bn 4 2),(.s 5)]⟩
theorem x70_ok:xfn Tryz.prog Tryz.f70=some x70.er:=by kernel_rfl
def x106:XFn:=⟨23,(.seq (.reg false [O1 2 (.box 68) 0,O1 3 (.box 68) 1,K1 4 .mv (.bool false)]) (.seq (.regD [O1 5 (.fld 0) 2,O1 6 .load1 5,O1 7 (.fld 0) 3,O1 8 .load1 7,O2 9 (.call 73) 6 8,O1 10 (.fld 1) 2,O1 11 .load1 10,O1 12 (.fld 1) 3,O1 13 .load1 12,O2 14 (.call 73) 11 13,O1 15 (.fld 2) 2,O1 16 .load1 15,O1 17 (.fld 2) 3,O1 18 .load1 17,O2 19 (.call 73) 16 18,⟨(some 20),(.slit 3 3 1 [(iV 0),(iV 0),(iV 0)] [(0,1),(1,1),(2,1)]),[(.t 9),(.t 14),(.t 19)],none⟩,O1 21 (.call 72) 20,K2 22 (.bin .gtr) 21 (iV 0),O1 4 .mv 22] [[],[0],[],[2],[1,0,3,2],[],[5],[],[7],[6,5,8,7,4,1,0,3,2],[],[10],[],[12],[11,10,13,12,9,6,5,8,7,4,1,0,3,2],[4,1,0,3,2,9,6,5,8,7,14,11,10,13,12],[15,4,1,0,3,2,9,6,5,8,7,14,11,10,13,12],[16,15,4,1,0,3,2,9,6,5,8,7,14,11,10,13,12],[17,16,15,4,1,0,3,2,9,6,5,8,7,14,11,10,13,12]]) .ret)),[(.s 4)]⟩
theorem x106_ok:xfn Tryz.prog Tryz.f106=some x106.er:=by kernel_rfl
def x71:XFn:=⟨21,(.seq (.reg false [O1 2 (.box 119) 0,O1 3 (.box 119) 1,K1 4 .mv (iV 0)]) (.seq (.regD [O1 5 (.fld 0) 2,O1 6 (.fld 1) 5,O1 7 .load1 6,O1 8 (.fld 0) 3,O1 9 (.fld 1) 8,O1 10 .load1 9,O2 11 (.call 73) 7 10,O1 12 (.fld 0) 2,O1 13 (.fld 0) 12,O1 14 .load1 13,O1 15 (.fld 0) 3,O1 16 (.fld 0) 15,O1 17 .load1 16,O2 18 (.call 73) 14 17,⟨(some 19),(.slit 3 2 1 [(iV 0),(iV 0)] [(0,1),(1,1)]),[(.t 11),(.t 18)],none⟩,O1 20 (.call 72) 19,O1 4 .mv 20] [[],[0],[1,0],[],[3],[4,3],[2,1,0,5,4,3],[],[7],[8,7],[],[10],[11,10],[9,8,7,12,11,10,6,2,1,0,5,4,3],[6,2,1,0,5,4,3,13,9,8,7,12,11,10],[14,6,2,1,0,5,4,3,13,9,8,7,12,11,10],[15,14,6,2,1,0,5,4,3,13,9,8,7,12,11,10]]) .ret)),[(.s 4)]⟩
theorem x71_ok:xfn Tryz.prog Tryz.f71=some x71.er:=by kernel_rfl
def g67:Con:=fun args_ E_ nn_=>match args_ with
 | [.c (.v (.int .i64 n))]=>some (.q (True) (.o (.c (.v (.bool (decide (0≤n∧n < 8)))))))
 | _=>none
theorem c67:COk Tryz.prog 67 g67:=by
 refine cok_q Tryz.func67 x67_ok (by kernel_rfl) (cok_tab cok_nil) ?_
 intro args_ E_ nn_ cr_ hg_
 unfold g67 at hg_
 split at hg_
 ·rename_i n
  cases hg_
  refine ⟨_,_,rfl,0,[],[.c (.v (.int .i64 n))],[],.o (.c (.v (.bool (decide (0≤n∧n < 8))))),rfl,rfl,and3 (by simp only [push_cast,Nat.reduceLT,Nat.reduceAdd]) ⟨rfl,trivial,rfl,?_⟩⟩
  intro hpre hlen
  refine ⟨trivial,?_⟩
  simp (maxSteps:=9999999) only [x67,push_cast,simprocAttr]
  rw [Bool.eq_iff_iff]
  simp
 ·cases hg_
def g61:Con:=fun args_ E_ nn_=>match args_ with
 | [.c (.v (.int .i64 n))]=>some (.q (True) (.o (.c (.v (.bool (decide (0≤n∧n < 8)))))))
 | _=>none
theorem c61:COk Tryz.prog 61 g61:=by
 refine cok_q Tryz.func61 x61_ok (by kernel_rfl) (cok_tab cok_nil) ?_
 intro args_ E_ nn_ cr_ hg_
 unfold g61 at hg_
 split at hg_
 ·rename_i n
  cases hg_
  refine ⟨_,_,rfl,0,[],[.c (.v (.int .i64 n))],[],.o (.c (.v (.bool (decide (0≤n∧n < 8))))),rfl,rfl,and3 (by simp only [push_cast,Nat.reduceLT,Nat.reduceAdd]) ⟨rfl,trivial,rfl,?_⟩⟩
  intro hpre hlen
  refine ⟨trivial,?_⟩
  simp (maxSteps:=9999999) only [x61,push_cast,simprocAttr]
  rw [Bool.eq_iff_iff]
  simp
 ·cases hg_
def g62:Con:=fun args_ E_ nn_=>match args_ with
 | [.c (.v (.int .i64 n))]=>some (.q (True) (.o (.c (.v (.bool (winB n 1024))))))
 | _=>none
theorem c62:COk Tryz.prog 62 g62:=by
 refine cok_q Tryz.func62 x62_ok (by kernel_rfl) (cok_tab cok_nil) ?_
 intro args_ E_ nn_ cr_ hg_
 unfold g62 at hg_
 split at hg_
 ·rename_i n
  cases hg_
  refine ⟨_,_,rfl,0,[],[.c (.v (.int .i64 n))],[],.o (.c (.v (.bool (winB n 1024)))),rfl,rfl,and3 (by simp only [push_cast,Nat.reduceLT,Nat.reduceAdd]) ⟨rfl,trivial,rfl,?_⟩⟩
  intro hpre hlen
  refine ⟨trivial,?_⟩
  simp (maxSteps:=9999999) only [x62,push_cast,simprocAttr]
  unfold winB
  rw [Bool.eq_iff_iff]
  simp
 ·cases hg_
def g107:Con:=fun args_ E_ nn_=>match args_ with
 | [.c (.v (.int .i64 n)),.c (.v (.int .i64 most))]=>some (.q (0≤most∧most≤1000000000) (.o (.c (.v (.bool (winB n most))))))
 | _=>none
theorem c107:COk Tryz.prog 107 g107:=by
 refine cok_q Tryz.func107 x107_ok (by kernel_rfl) (cok_tab cok_nil) ?_
 intro args_ E_ nn_ cr_ hg_
 unfold g107 at hg_
 split at hg_
 ·rename_i n most
  cases hg_
  refine ⟨_,_,rfl,0,[],[.c (.v (.int .i64 n)),.c (.v (.int .i64 most))],[],.o (.c (.v (.bool (winB n most)))),rfl,rfl,and3 (by simp only [push_cast,Nat.reduceLT,Nat.reduceAdd]) ⟨rfl,trivial,rfl,?_⟩⟩
  intro hpre hlen
  refine ⟨trivial,?_⟩
  simp (maxSteps:=9999999) only [x107,push_cast,simprocAttr]
  unfold winB
  rw [wrapI (by omega) (by omega),Bool.eq_iff_iff]
  simp
 ·cases hg_
def g69:Con:=fun args_ E_ nn_=>match args_ with
 | [.a [.v (.int .i64 f_Q),.v (.int .i64 f_X),.v (.int .i64 f_Y)]]=>some (.q (True) (.o (.c (.v (.bool (validF (⟨f_Q,f_X,f_Y⟩:FR)))))))
 | _=>none
theorem c69:COk Tryz.prog 69 g69:=by
 refine cok_q Tryz.func69 x69_ok (by kernel_rfl) (cok_tab (cok_cons c107 cok_nil)) ?_
 intro args_ E_ nn_ cr_ hg_
 unfold g69 at hg_
 split at hg_
 ·rename_i f_Q f_X f_Y
  cases hg_
  refine ⟨_,_,rfl,0,[],[.a [.v (.int .i64 f_Q),.v (.int .i64 f_X),.v (.int .i64 f_Y)]],[],.o (.c (.v (.bool (validF (⟨f_Q,f_X,f_Y⟩:FR))))),rfl,rfl,and3 (by simp only [push_cast,Nat.reduceLT,Nat.reduceAdd]) ⟨rfl,trivial,rfl,?_⟩⟩
  intro hpre hlen
  refine ⟨trivial,?_⟩
  simp (maxSteps:=9999999) only [x69,push_cast,simprocAttr,g107]
  unfold validF
  simp
 ·cases hg_
def g111:Con:=fun args_ E_ nn_=>match args_ with
 | [.c (.v (.int .i64 q)),.c (.v (.int .i64 x)),.c (.v (.int .i64 y))]=>some (.q (bd 1000000000 x∧bd 1000000000 y) (.t [.c (.v (.int .i64 ((trn (q % 4).toNat x y).1))),.c (.v (.int .i64 ((trn (q % 4).toNat x y).2)))]))
 | _=>none
theorem c111:COk Tryz.prog 111 g111:=by
 refine cok_q Tryz.func111 x111_ok (by kernel_rfl) (cok_tab cok_nil) ?_
 intro args_ E_ nn_ cr_ hg_
 unfold g111 at hg_
 split at hg_
 ·rename_i q x y
  cases hg_
  refine ⟨_,_,rfl,0,[],[.c (.v (.int .i64 q)),.c (.v (.int .i64 x)),.c (.v (.int .i64 y))],[],.t [.c (.v (.int .i64 ((trn (q % 4).toNat x y).1))),.c (.v (.int .i64 ((trn (q % 4).toNat x y).2)))],rfl,rfl,and3 (by simp only [push_cast,Nat.reduceLT,Nat.reduceAdd]) ⟨rfl,trivial,rfl,?_⟩⟩
  intro hpre hlen
  refine ⟨trivial,?_⟩
  simp (maxSteps:=9999999) only [x111,push_cast,simprocAttr,andq3]
  refine vcLoop_upd (α:={k:Nat // k≤(q % 4).toNat}) [9] 0 (fun s=>[(1,.o (.c (.v (.int .i64 ((trn s.1 x y).1))))),(2,.o (.c (.v (.int .i64 ((trn s.1 x y).2))))),(10,.o (.c (.v (.int .i64 (s.1:Nat)))))]) (fun s=>[]) (fun s=>(q % 4).toNat - s.1) ⟨0,by omega⟩ ?_ ?_
  ·simp only [push_cast,simprocAttr,andq3]
   exact ⟨rfl,rfl⟩
  rintro ⟨k,hk⟩
  simp only [x111L0,push_cast,simprocAttr,andq3]
  have hb:=trn_bd hpre.1 hpre.2 k
  unfold bd at hb
  refine ⟨fun hlt=>⟨⟨k+1,by omega⟩,⟨?_,rfl,wrapI (by omega) (by omega)⟩,by simp only; omega⟩,fun hn=>?_⟩
  ·rw [wrapI (by omega) (by omega)]; rfl
  ·obtain rfl:k=(q % 4).toNat:=by omega
   exact ⟨rfl,rfl⟩
 ·cases hg_
def g109:Con:=fun args_ E_ nn_=>match args_ with
 | [.a [.v (.int .i64 f_Q),.v (.int .i64 f_X),.v (.int .i64 f_Y)],.a [.v (.int .i64 g_Q),.v (.int .i64 g_X),.v (.int .i64 g_Y)]]=>some (.q (bd 100000000 g_X∧bd 100000000 g_Y∧bd 100000000 f_X∧bd 100000000 f_Y) (.o (.a [.v (.int .i64 (mulF (⟨f_Q,f_X,f_Y⟩:FR) (⟨g_Q,g_X,g_Y⟩:FR)).q),.v (.int .i64 (mulF (⟨f_Q,f_X,f_Y⟩:FR) (⟨g_Q,g_X,g_Y⟩:FR)).x),.v (.int .i64 (mulF (⟨f_Q,f_X,f_Y⟩:FR) (⟨g_Q,g_X,g_Y⟩:FR)).y)])))
 | _=>none
theorem c109:COk Tryz.prog 109 g109:=by
 refine cok_q Tryz.func109 x109_ok (by kernel_rfl) (cok_tab (cok_cons c111 cok_nil)) ?_
 intro args_ E_ nn_ cr_ hg_
 unfold g109 at hg_
 split at hg_
 ·rename_i f_Q f_X f_Y g_Q g_X g_Y
  cases hg_
  refine ⟨_,_,rfl,0,[],[.a [.v (.int .i64 f_Q),.v (.int .i64 f_X),.v (.int .i64 f_Y)],.a [.v (.int .i64 g_Q),.v (.int .i64 g_X),.v (.int .i64 g_Y)]],[],.o (.a [.v (.int .i64 (mulF (⟨f_Q,f_X,f_Y⟩:FR) (⟨g_Q,g_X,g_Y⟩:FR)).q),.v (.int .i64 (mulF (⟨f_Q,f_X,f_Y⟩:FR) (⟨g_Q,g_X,g_Y⟩:FR)).x),.v (.int .i64 (mulF (⟨f_Q,f_X,f_Y⟩:FR) (⟨g_Q,g_X,g_Y⟩:FR)).y)]),rfl,rfl,and3 (by simp only [push_cast,Nat.reduceLT,Nat.reduceAdd]) ⟨rfl,trivial,rfl,?_⟩⟩
  intro hpre hlen
  refine ⟨trivial,?_⟩
  simp (maxSteps:=9999999) only [x109,push_cast,simprocAttr,g111,andq3]
  obtain ⟨h1,h2,h3,h4⟩:=hpre
  have hb:=trn_bd h1 h2 (f_Q % 4).toNat
  unfold bd at *
  refine ⟨by omega,?_,?_,?_⟩
  ·rw [wrapI (by omega) (by omega)]; rfl
  ·rw [wrapI (by omega) (by omega)]; rfl
  ·rw [wrapI (by omega) (by omega)]; rfl
 ·cases hg_
def g110:Con:=fun args_ E_ nn_=>match args_ with
 | [.a [.v (.int .i64 f_Q),.v (.int .i64 f_X),.v (.int .i64 f_Y)]]=>some (.q (bd 100000000 f_X∧bd 100000000 f_Y) (.o (.a [.v (.int .i64 (invF (⟨f_Q,f_X,f_Y⟩:FR)).q),.v (.int .i64 (invF (⟨f_Q,f_X,f_Y⟩:FR)).x),.v (.int .i64 (invF (⟨f_Q,f_X,f_Y⟩:FR)).y)])))
 | _=>none
theorem c110:COk Tryz.prog 110 g110:=by
 refine cok_q Tryz.func110 x110_ok (by kernel_rfl) (cok_tab (cok_cons c111 cok_nil)) ?_
 intro args_ E_ nn_ cr_ hg_
 unfold g110 at hg_
 split at hg_
 ·rename_i f_Q f_X f_Y
  cases hg_
  refine ⟨_,_,rfl,0,[],[.a [.v (.int .i64 f_Q),.v (.int .i64 f_X),.v (.int .i64 f_Y)]],[],.o (.a [.v (.int .i64 (invF (⟨f_Q,f_X,f_Y⟩:FR)).q),.v (.int .i64 (invF (⟨f_Q,f_X,f_Y⟩:FR)).x),.v (.int .i64 (invF (⟨f_Q,f_X,f_Y⟩:FR)).y)]),rfl,rfl,and3 (by simp only [push_cast,Nat.reduceLT,Nat.reduceAdd]) ⟨rfl,trivial,rfl,?_⟩⟩
  intro hpre hlen
  refine ⟨trivial,?_⟩
  simp (maxSteps:=9999999) only [x110,push_cast,simprocAttr,g111,andq3]
  unfold bd at *
  rw [wrapI (n:=-f_X) (by omega) (by omega),wrapI (n:=-f_Y) (by omega) (by omega),wrap_mod4,show (-f_Q) % 4 % 4=(-f_Q) % 4 by omega]
  exact ⟨by omega,rfl,rfl,rfl⟩
 ·cases hg_
def g105:Con:=fun args_ E_ nn_=>match args_ with
 | [.a [.v (.int .i64 f_Q),.v (.int .i64 f_X),.v (.int .i64 f_Y)]]=>some (.q (validF (⟨f_Q,f_X,f_Y⟩:FR)=true) (.t [.a [.v (.int .i64 (invF (⟨f_Q,f_X,f_Y⟩:FR)).q),.v (.int .i64 (invF (⟨f_Q,f_X,f_Y⟩:FR)).x),.v (.int .i64 (invF (⟨f_Q,f_X,f_Y⟩:FR)).y)],.c (.v (.int .i64 (0)))]))
 | _=>none
theorem c105:COk Tryz.prog 105 g105:=by
 refine cok_q Tryz.func105 x105_ok (by kernel_rfl) (cok_tab (cok_cons c69 (cok_cons c110 cok_nil))) ?_
 intro args_ E_ nn_ cr_ hg_
 unfold g105 at hg_
 split at hg_
 ·rename_i f_Q f_X f_Y
  cases hg_
  refine ⟨_,_,rfl,0,[],[.a [.v (.int .i64 f_Q),.v (.int .i64 f_X),.v (.int .i64 f_Y)]],[],.t [.a [.v (.int .i64 (invF (⟨f_Q,f_X,f_Y⟩:FR)).q),.v (.int .i64 (invF (⟨f_Q,f_X,f_Y⟩:FR)).x),.v (.int .i64 (invF (⟨f_Q,f_X,f_Y⟩:FR)).y)],.c (.v (.int .i64 (0)))],rfl,rfl,and3 (by simp only [push_cast,Nat.reduceLT,Nat.reduceAdd]) ⟨rfl,trivial,rfl,?_⟩⟩
  intro hpre hlen
  refine ⟨trivial,?_⟩
  simp (maxSteps:=9999999) only [x105,push_cast,simprocAttr,g69,g110]
  have hv:=hpre
  unfold validF winB at hv
  rw [Bool.and_eq_true,decide_eq_true_eq,decide_eq_true_eq] at hv
  simp only at hv
  unfold bd
  refine ⟨fun h=>?_,fun _=>by omega⟩
  rw [hpre] at h; cases h
 ·cases hg_
def g70:Con:=fun args_ E_ nn_=>match args_ with
 | [.a [.v (.int .i64 f_Q),.v (.int .i64 f_X),.v (.int .i64 f_Y)],.a [.v (.int .i64 c_X),.v (.int .i64 c_Y)]]=>some (.q ((validF (⟨f_Q,f_X,f_Y⟩:FR)=true∧winB c_X 16384=true∧winB c_Y 16384=true)∧winB (imgX (⟨f_Q,f_X,f_Y⟩:FR) c_X c_Y) 16384=true∧winB (imgY (⟨f_Q,f_X,f_Y⟩:FR) c_X c_Y) 16384=true) (.t [.a [.v (.int .i64 (imgX (⟨f_Q,f_X,f_Y⟩:FR) c_X c_Y)),.v (.int .i64 (imgY (⟨f_Q,f_X,f_Y⟩:FR) c_X c_Y))],.c (.v (.int .i64 (0)))]))
 | _=>none
theorem c70:COk Tryz.prog 70 g70:=by
 refine cok_q Tryz.func70 x70_ok (by kernel_rfl) (cok_tab (cok_cons c69 (cok_cons c107 (cok_cons c111 cok_nil)))) ?_
 intro args_ E_ nn_ cr_ hg_
 unfold g70 at hg_
 split at hg_
 ·rename_i f_Q f_X f_Y c_X c_Y
  cases hg_
  refine ⟨_,_,rfl,0,[],[.a [.v (.int .i64 f_Q),.v (.int .i64 f_X),.v (.int .i64 f_Y)],.a [.v (.int .i64 c_X),.v (.int .i64 c_Y)]],[],.t [.a [.v (.int .i64 (imgX (⟨f_Q,f_X,f_Y⟩:FR) c_X c_Y)),.v (.int .i64 (imgY (⟨f_Q,f_X,f_Y⟩:FR) c_X c_Y))],.c (.v (.int .i64 (0)))],rfl,rfl,and3 (by simp only [push_cast,Nat.reduceLT,Nat.reduceAdd]) ⟨rfl,trivial,rfl,?_⟩⟩
  intro hpre hlen
  refine ⟨trivial,?_⟩
  simp (maxSteps:=9999999) only [x70,push_cast,simprocAttr,g69,g107,g111]
  obtain ⟨⟨h1,h2,h3⟩,h4,h5⟩:=hpre
  have g1:=h1
  unfold validF at g1
  rw [Bool.and_eq_true] at g1
  have g2:=win_bd g1.1
  have g3:=win_bd g1.2
  have g4:=win_bd h2
  have g5:=win_bd h3
  simp only at g2 g3
  have b1:=trn_bd g4 g5 (f_Q % 4).toNat
  have b2:=trn_bd (m:=16385) (x:=c_X+1) (y:=c_Y+1) (by unfold bd at *; omega) (by unfold bd at *; omega) (f_Q % 4).toNat
  have e1:IntKind.i64.wrap (c_X+1)=c_X+1:=by unfold bd at *; exact wrapI (by omega) (by omega)
  have e2:IntKind.i64.wrap (c_Y+1)=c_Y+1:=by unfold bd at *; exact wrapI (by omega) (by omega)
  rw [e1,e2]
  have e3:IntKind.i64.wrap (min (trn (f_Q % 4).toNat c_X c_Y).fst (trn (f_Q % 4).toNat (c_X+1) (c_Y+1)).fst+f_X)=imgX (⟨f_Q,f_X,f_Y⟩:FR) c_X c_Y:=by unfold bd at *; rw [wrapI (by omega) (by omega)]; rfl
  have e4:IntKind.i64.wrap (min (trn (f_Q % 4).toNat c_X c_Y).snd (trn (f_Q % 4).toNat (c_X+1) (c_Y+1)).snd+f_Y)=imgY (⟨f_Q,f_X,f_Y⟩:FR) c_X c_Y:=by unfold bd at *; rw [wrapI (by omega) (by omega)]; rfl
  rw [e3,e4,h1,h2,h3,h4,h5]
  refine ⟨fun h=>by simp at h,fun _ _ _=>⟨by unfold bd at *; omega,by unfold bd at *; omega,fun h=>by simp at h,fun _ _=>⟨rfl,rfl⟩⟩⟩
 ·cases hg_
def g106:Con:=fun args_ E_ nn_=>match args_ with
 | [.a [.v (.int .i64 a_Q),.v (.int .i64 a_X),.v (.int .i64 a_Y)],.a [.v (.int .i64 b_Q),.v (.int .i64 b_X),.v (.int .i64 b_Y)]]=>some (.q (True) (.o (.c (.v (.bool (decide (0 < cmpF (⟨a_Q,a_X,a_Y⟩:FR) (⟨b_Q,b_X,b_Y⟩:FR))))))))
 | _=>none
theorem c106:COk Tryz.prog 106 g106:=by
 refine cok_q Tryz.func106 x106_ok (by kernel_rfl) (cok_tab (cok_cons c73 (cok_cons c72 cok_nil))) ?_
 intro args_ E_ nn_ cr_ hg_
 unfold g106 at hg_
 split at hg_
 ·rename_i a_Q a_X a_Y b_Q b_X b_Y
  cases hg_
  refine ⟨_,_,rfl,0,[],[.a [.v (.int .i64 a_Q),.v (.int .i64 a_X),.v (.int .i64 a_Y)],.a [.v (.int .i64 b_Q),.v (.int .i64 b_X),.v (.int .i64 b_Y)]],[],.o (.c (.v (.bool (decide (0 < cmpF (⟨a_Q,a_X,a_Y⟩:FR) (⟨b_Q,b_X,b_Y⟩:FR)))))),rfl,rfl,and3 (by simp only [push_cast,Nat.reduceLT,Nat.reduceAdd]) ⟨rfl,trivial,rfl,?_⟩⟩
  intro hpre hlen
  refine ⟨trivial,?_⟩
  have hl1:isRow eI 3 1 (litF [SC.v (Value.int IntKind.i64 (cmpI a_Q b_Q)),SC.v (Value.int IntKind.i64 (cmpI a_X b_X)),SC.v (Value.int IntKind.i64 (cmpI a_Y b_Y))] 1) ↔ True:=iff_true_intro (lits_row eI [(cmpI a_Q b_Q),(cmpI a_X b_X),(cmpI a_Y b_Y)]).1
  have hl2:decL eI 3 (litF [SC.v (Value.int IntKind.i64 (cmpI a_Q b_Q)),SC.v (Value.int IntKind.i64 (cmpI a_X b_X)),SC.v (Value.int IntKind.i64 (cmpI a_Y b_Y))] 1)=[(cmpI a_Q b_Q),(cmpI a_X b_X),(cmpI a_Y b_Y)]:=(lits_row eI [(cmpI a_Q b_Q),(cmpI a_X b_X),(cmpI a_Y b_Y)]).2
  simp (maxSteps:=9999999) only [x106,push_cast,simprocAttr,g73,g72,hl1,hl2]
  exact ⟨by rfl,rfl⟩
 ·cases hg_
def g71:Con:=fun args_ E_ nn_=>match args_ with
 | [.a [.v (.int .i64 a_Cell_X),.v (.int .i64 a_Cell_Y),.v (.int .i64 a_Hits),.v (.int .i64 a_Passes)],.a [.v (.int .i64 b_Cell_X),.v (.int .i64 b_Cell_Y),.v (.int .i64 b_Hits),.v (.int .i64 b_Passes)]]=>some (.q (True) (.o (.c (.v (.int .i64 (cmpE (⟨a_Cell_X,a_Cell_Y,a_Hits,a_Passes⟩:EE) (⟨b_Cell_X,b_Cell_Y,b_Hits,b_Passes⟩:EE)))))))
 | _=>none
theorem c71:COk Tryz.prog 71 g71:=by
 refine cok_q Tryz.func71 x71_ok (by kernel_rfl) (cok_tab (cok_cons c73 (cok_cons c72 cok_nil))) ?_
 intro args_ E_ nn_ cr_ hg_
 unfold g71 at hg_
 split at hg_
 ·rename_i a_Cell_X a_Cell_Y a_Hits a_Passes b_Cell_X b_Cell_Y b_Hits b_Passes
  cases hg_
  refine ⟨_,_,rfl,0,[],[.a [.v (.int .i64 a_Cell_X),.v (.int .i64 a_Cell_Y),.v (.int .i64 a_Hits),.v (.int .i64 a_Passes)],.a [.v (.int .i64 b_Cell_X),.v (.int .i64 b_Cell_Y),.v (.int .i64 b_Hits),.v (.int .i64 b_Passes)]],[],.o (.c (.v (.int .i64 (cmpE (⟨a_Cell_X,a_Cell_Y,a_Hits,a_Passes⟩:EE) (⟨b_Cell_X,b_Cell_Y,b_Hits,b_Passes⟩:EE))))),rfl,rfl,and3 (by simp only [push_cast,Nat.reduceLT,Nat.reduceAdd]) ⟨rfl,trivial,rfl,?_⟩⟩
  intro hpre hlen
  refine ⟨trivial,?_⟩
  have hl1:isRow eI 2 1 (litF [SC.v (Value.int IntKind.i64 (cmpI a_Cell_Y b_Cell_Y)),SC.v (Value.int IntKind.i64 (cmpI a_Cell_X b_Cell_X))] 1) ↔ True:=iff_true_intro (lits_row eI [(cmpI a_Cell_Y b_Cell_Y),(cmpI a_Cell_X b_Cell_X)]).1
  have hl2:decL eI 2 (litF [SC.v (Value.int IntKind.i64 (cmpI a_Cell_Y b_Cell_Y)),SC.v (Value.int IntKind.i64 (cmpI a_Cell_X b_Cell_X))] 1)=[(cmpI a_Cell_Y b_Cell_Y),(cmpI a_Cell_X b_Cell_X)]:=(lits_row eI [(cmpI a_Cell_Y b_Cell_Y),(cmpI a_Cell_X b_Cell_X)]).2
  simp (maxSteps:=9999999) only [x71,push_cast,simprocAttr,g73,g72,hl1,hl2]
  exact ⟨by rfl,rfl⟩
 ·cases hg_
end Go.Proofs.YtgpbokembopapaaGreat
namespace Go.Proofs.YtgpbokembopapaaGreat
open Go.Sx Go.Way
structure STN where
 me:Int
 H:Fin 8→SH
 Q:Fin 8→List QE
 R:Fin 8→Fin 8→Option FR
def hOf (x:STN) (a:Nat):SH:=if h:a < 8 then x.H ⟨a,h⟩ else []
def qOf (x:STN) (a:Nat):List QE:=if h:a < 8 then x.Q ⟨a,h⟩ else []
def rOf (x:STN) (a b:Nat):Option FR:=if h:a < 8∧b < 8 then x.R ⟨a,h.1⟩ ⟨b,h.2⟩ else none
section
open Go.Sx
abbrev GV:=Nat→Nat→Value
def sOf (x:STN) (g:GV) (a:Nat):List SE:=reV (hOf x a) (fun _ j=>g (16+a) j)
def frC (o:Option FR) (V:Value):SC:=match o with
 | some _=>.v (padd V 2)
 | none=>.v (.pointer none)
def stF (x:STN) (g:GV) (j:Nat):SC :=
 if j=0 then .v (.int .i64 x.me) else if j < 9 then .v (padd (g (j - 1) 0) 0)
 else if j < 73 then frC (rOf x ((j - 9) / 8) ((j - 9) % 8)) (g (8+(j - 9) / 8) ((j - 9) % 8)) else noC
def frS (a b:Nat) (f:FR):Sub:=.box [.int .i64 a,.int .i64 b,.int .i64 f.q,.int .i64 f.x,.int .i64 f.y] 70
def stP (x:STN) (g:GV):Pool:=fun a b=>
 if a < 8 then (match b with
  | 0=>some (g a 0,.box [g a 1,g a 2] 93)
  | 1=>some (g a 1,.dm false (mapF eSc (sOf x g a)))
  | 2=>some (g a 2,.dm false (mapF ePl (qOf x a)))
  | _=>none)
 else if a < 16∧b < 8 then (match rOf x (a - 8) b with
  | some f=>some (g a b,frS (a - 8) b f)
  | none=>none)
 else none
section
variable {x y:STN} {g g':GV} {a b:Nat} {f:FR}
theorem stF_v (x:STN) (g:GV) (j:Nat):∃ V,stF x g j = .v V:=by
 unfold stF frC
 split
 ·exact ⟨_,rfl⟩
 ·split
  ·exact ⟨_,rfl⟩
  ·split
   ·split
    ·exact ⟨_,rfl⟩
    ·exact ⟨_,rfl⟩
   ·exact ⟨_,rfl⟩
theorem stF_sub (x:STN) (g:GV) (j:Nat) (b:Bnd):(stF x g j).sub b=stF x g j:=by obtain ⟨V,h⟩:=stF_v x g j; rw [h]; rfl
theorem stF_ren (x:STN) (g:GV) (j:Nat) (σ:Nat→Nat):(stF x g j).ren σ=stF x g j:=by obtain ⟨V,h⟩:=stF_v x g j; rw [h]; rfl
theorem stF_sc (x:STN) (g:GV) (j:Nat) (m:Nat→Prop):(stF x g j).sc m:=by obtain ⟨V,h⟩:=stF_v x g j; rw [h]; trivial
theorem stF_bxS (x:STN) (g:GV) (m:Nat→Prop):bxSc m (stF x g) ↔ True:=iff_true_intro fun j=>stF_sc x g j m
theorem stF_bxE (n:Nat) (f:Nat→SC) (x:STN) (g:GV) (b:Bnd):bxEq n f (stF x g) (SC.sub b) ↔ ∀ j,j < n→f j=stF x g j:=by
 unfold bxEq
 exact forall_congr' fun j=>imp_congr_right fun _=>by rw [stF_sub]
theorem stF_renF (x:STN) (g:GV) (σ:Nat→Nat):renF σ (stF x g)=stF x g:=funext fun j=>stF_ren x g j σ
theorem stP_no (x:STN) (g:GV):noOut (stP x g):=by
 intro i j U k h
 unfold stP frS at h
 split at h
 ·split at h<;>cases h
 ·split at h
  ·split at h<;>cases h
  ·cases h
theorem stP_noT (x:STN) (g:GV):noOut (stP x g) ↔ True:=iff_true_intro (stP_no x g)
theorem stP_sc (x:STN) (g:GV) (m:Nat→Prop):poolSc m (stP x g) ↔ True:=iff_true_intro fun i j U k h=>absurd h (stP_no x g i j U k)
theorem stP_ren (x:STN) (g:GV) (σ:Nat→Nat):renPl σ (stP x g)=stP x g:=by
 funext i j
 unfold renPl
 cases h:stP x g i j with
 | none=>rfl
 | some p=>
  obtain ⟨U,s⟩:=p
  cases s with
  | out k=>exact absurd h (stP_no x g i j U k)
  | box _ _=>rfl
  | dm _ _=>rfl
theorem stP_0 (x:STN) (g:GV) (h:a < 8):stP x g a 0=some (g a 0,.box [g a 1,g a 2] 93):=by unfold stP; rw [if_pos h]; rfl
theorem stP_1 (x:STN) (g:GV) (h:a < 8):stP x g a 1=some (g a 1,.dm false (mapF eSc (sOf x g a))):=by unfold stP; rw [if_pos h]; rfl
theorem stP_2 (x:STN) (g:GV) (h:a < 8):stP x g a 2=some (g a 2,.dm false (mapF ePl (qOf x a))):=by unfold stP; rw [if_pos h]; rfl
theorem stP_r (x:STN) (g:GV) (ha:a < 8) (hb:b < 8):stP x g (8+a) b=match rOf x a b with | some f=>some (g (8+a) b,frS a b f) | none=>none:=by
 unfold stP
 rw [if_neg (by omega),if_pos (by omega),show 8+a - 8=a by omega]
theorem stF_0 (x:STN) (g:GV):stF x g 0 = .v (.int .i64 x.me):=rfl
theorem stF_a (x:STN) (g:GV) (h:a < 8):stF x g (1+a) = .v (padd (g a 0) 0):=by
 unfold stF
 rw [if_neg (by omega),if_pos (by omega),show 1+a - 1=a by omega]
theorem stF_r (x:STN) (g:GV) (ha:a < 8) (hb:b < 8):stF x g (9+a * 8+b)=frC (rOf x a b) (g (8+a) b):=by
 unfold stF
 rw [if_neg (by omega),if_neg (by omega),if_pos (by omega),show (9+a * 8+b - 9) / 8=a by omega,show (9+a * 8+b - 9) % 8=b by omega]
theorem mapF_inj {α:Type} {M:MEnc α} {L K:List α} (h:mapF M L=mapF M K):L=K:=by
 have:=congrArg (decM M) h
 rwa [decM_mapF,decM_mapF] at this
theorem st_inj (hf:stF x g=stF y g') (hp:stP x g=stP y g'):x=y:=by
 have e1:x.me=y.me:=by
  have:=congrFun hf 0
  rw [stF_0,stF_0] at this
  have h2:=SC.v.inj this
  exact (Value.int.inj h2).2
 have e2:x.H=y.H:=by
  funext ⟨a,ha⟩
  have:=congrFun (congrFun hp a) 1
  rw [stP_1 x g ha,stP_1 y g' ha] at this
  have h2:=congrArg shS (mapF_inj (Sub.dm.inj (Prod.mk.inj (Option.some.inj this)).2).2)
  unfold sOf at h2
  rw [reV_sh,reV_sh] at h2
  unfold hOf at h2
  rwa [dif_pos ha,dif_pos ha] at h2
 have e3:x.Q=y.Q:=by
  funext ⟨a,ha⟩
  have:=congrFun (congrFun hp a) 2
  rw [stP_2 x g ha,stP_2 y g' ha] at this
  have h2:=mapF_inj (Sub.dm.inj (Prod.mk.inj (Option.some.inj this)).2).2
  unfold qOf at h2
  rwa [dif_pos ha,dif_pos ha] at h2
 have e4:x.R=y.R:=by
  funext ⟨a,ha⟩ ⟨b,hb⟩
  have:=congrFun (congrFun hp (8+a)) b
  rw [stP_r x g ha hb,stP_r y g' ha hb] at this
  have r1:rOf x a b=x.R ⟨a,ha⟩ ⟨b,hb⟩:=dif_pos ⟨ha,hb⟩
  have r2:rOf y a b=y.R ⟨a,ha⟩ ⟨b,hb⟩:=dif_pos ⟨ha,hb⟩
  rw [r1,r2] at this
  cases h1:x.R ⟨a,ha⟩ ⟨b,hb⟩ with
  | none=>
   cases h2:y.R ⟨a,ha⟩ ⟨b,hb⟩ with
   | none=>rfl
   | some f=>rw [h1,h2] at this; cases this
  | some f=>
   cases h2:y.R ⟨a,ha⟩ ⟨b,hb⟩ with
   | none=>rw [h1,h2] at this; cases this
   | some f'=>
    rw [h1,h2] at this
    have:=Option.some.inj this
    have h3:=(Prod.mk.inj this).2
    unfold frS at h3
    have h4:=(Sub.box.inj h3).1
    simp only [List.cons.injEq,Value.int.injEq,true_and,and_true] at h4
    obtain ⟨q1,q2,q3⟩:=h4
    cases f; cases f'; simp only at q1 q2 q3; subst q1; subst q2; subst q3; rfl
 cases x; cases y
 simp only at e1 e2 e3 e4
 subst e1; subst e2; subst e3; subst e4; rfl
end
def isSt (n:Nat) (f:Nat→SC) (ty:TypeId) (p:Pool):Prop:=n=73∧ty=130∧∃ x g,f=stF x g∧p=stP x g
instance:Nonempty STN:=⟨⟨0,fun _=>[],fun _=>[],fun _ _=>none⟩⟩
noncomputable def decX (f:Nat→SC) (p:Pool):STN:=Classical.epsilon fun x=>∃ g,f=stF x g∧p=stP x g
noncomputable def decG (f:Nat→SC) (p:Pool):GV:=Classical.epsilon fun g=>f=stF (decX f p) g∧p=stP (decX f p) g
theorem dec_eq {n:Nat} {f:Nat→SC} {ty:TypeId} {p:Pool} (h:isSt n f ty p):f=stF (decX f p) (decG f p)∧p=stP (decX f p) (decG f p):=by
 obtain ⟨_,_,hx⟩:=h
 have h1:∃ g,f=stF (decX f p) g∧p=stP (decX f p) g:=Classical.epsilon_spec hx
 exact Classical.epsilon_spec h1
theorem isSt_st (x:STN) (g:GV):isSt 73 (stF x g) 130 (stP x g) ↔ True:=iff_true_intro ⟨rfl,rfl,x,g,rfl,rfl⟩
theorem decX_st (x:STN) (g:GV):decX (stF x g) (stP x g)=x:=by
 obtain ⟨h1,h2⟩:=dec_eq ((isSt_st x g).2 trivial)
 exact (st_inj h1 h2).symm
theorem decG_F (x:STN) (g:GV):stF x (decG (stF x g) (stP x g))=stF x g:=by
 have h:=(dec_eq ((isSt_st x g).2 trivial)).1
 rw [decX_st] at h
 exact h.symm
theorem decG_P (x:STN) (g:GV):stP x (decG (stF x g) (stP x g))=stP x g:=by
 have h:=(dec_eq ((isSt_st x g).2 trivial)).2
 rw [decX_st] at h
 exact h.symm
theorem isSt_le {n:Nat} {f:Nat→SC} {ty:TypeId} {p:Pool} {σ:Nat→Nat} (h:isSt n f ty p):leE (SC.ren σ) (.bx n f ty p) (.bx 73 (stF (decX f p) (decG f p)) 130 (stP (decX f p) (decG f p))):=by
 obtain ⟨h1,h2⟩:=dec_eq h
 obtain ⟨h3,h4,_⟩:=h
 refine ⟨h3,h4,fun j _=>?_,h2,stP_no _ _⟩
 show f j=(stF (decX f p) (decG f p) j).ren σ
 rw [stF_ren]
 exact congrFun h1 j
attribute [push_cast] stF_bxS stF_bxE stF_renF stP_noT stP_sc stP_ren isSt_st decX_st decG_F decG_P nth_rngS length_rngS stF_0
end
end Go.Proofs.YtgpbokembopapaaGreat
namespace Go.Proofs.YtgpbokembopapaaGreat
open Go.Sx Go.Way
section
open Go.Sx
def stFo (x:STN) (g:GV) (a c:Nat):Nat→SC:=fun j=>if j=1+a then .p c 0 else stF x g j
def stPo (x:STN) (g:GV) (a c:Nat):Pool:=fun i j=>if i=a then (match j with
 | 0=>some (g a 0,.out c)
 | 1=>some (g a 1,.out (c+1))
 | 2=>some (g a 2,.out (c+2))
 | _=>none) else stP x g i j
def updA (x:STN) (a:Nat) (T:SH) (L:List QE):STN:=⟨x.me,fun i=>if i.1=a then T else x.H i,fun i=>if i.1=a then L else x.Q i,x.R⟩
def updG (g:GV) (a:Nat) (S:List SE):GV:=fun i j=>if i=16+a then (S.getD j ⟨0,.bool false,[]⟩).v else g i j
def frE (a b:Nat) (f:FR):Ent:=.box [.v (.int .i64 a),.v (.int .i64 b),.v (.int .i64 f.q),.v (.int .i64 f.x),.v (.int .i64 f.y)] 70
def stPf (x:STN) (g:GV) (a b c:Nat):Pool:=setPl (stP x g) (8+a) b (some (g (8+a) b,.out c))
def setR (x:STN) (a b:Nat) (f:FR):STN:=⟨x.me,x.H,x.Q,fun i j=>if i.1=a∧j.1=b then some f else x.R i j⟩
def updV (g:GV) (a b:Nat) (V:Value):GV:=fun i j=>if i=a∧j=b then V else g i j
theorem hOf_upd (x:STN) (a i:Nat) (T:SH) (L:List QE):hOf (updA x a T L) i=if i=a∧i < 8 then T else hOf x i:=by
 unfold hOf updA
 split
 ·rename_i h
  simp only
  by_cases e:i=a
  ·rw [if_pos e,if_pos ⟨e,h⟩]
  ·rw [if_neg e,if_neg (fun q=>e q.1)]
 ·rename_i h; rw [if_neg (fun q=>h q.2)]
theorem qOf_upd (x:STN) (a i:Nat) (T:SH) (L:List QE):qOf (updA x a T L) i=if i=a∧i < 8 then L else qOf x i:=by
 unfold qOf updA
 split
 ·rename_i h
  simp only
  by_cases e:i=a
  ·rw [if_pos e,if_pos ⟨e,h⟩]
  ·rw [if_neg e,if_neg (fun q=>e q.1)]
 ·rename_i h; rw [if_neg (fun q=>h q.2)]
theorem rOf_upd (x:STN) (a i j:Nat) (T:SH) (L:List QE):rOf (updA x a T L) i j=rOf x i j:=rfl
theorem hOf_set (x:STN) (a b i:Nat) (f:FR):hOf (setR x a b f) i=hOf x i:=rfl
theorem qOf_set (x:STN) (a b i:Nat) (f:FR):qOf (setR x a b f) i=qOf x i:=rfl
theorem rOf_set (x:STN) (a b i j:Nat) (f:FR):rOf (setR x a b f) i j=if (i=a∧j=b)∧i < 8∧j < 8 then some f else rOf x i j:=by
 unfold rOf setR
 split
 ·rename_i h
  simp only
  by_cases e:i=a∧j=b
  ·rw [if_pos e,if_pos ⟨e,h⟩]
  ·rw [if_neg e,if_neg (fun q=>e q.1)]
 ·rename_i h; rw [if_neg (fun q=>h q.2)]
theorem stP_more (x:STN) (g:GV) {a j:Nat} (ha:a < 8) (hj:3≤j):stP x g a j=none:=by
 unfold stP
 rw [if_pos ha]
 match j,hj with
 | n+3,_=>rfl
theorem lk_hd {α:Type} {i:Nat} {e:α} {l:List (Nat × α)}:lk ((i,e) :: l) i=some e:=if_pos rfl
theorem lk_tl {α:Type} {i j:Nat} {e:α} {l:List (Nat × α)} (h:i≠j):lk ((i,e) :: l) j=lk l j:=if_neg h
theorem stPo_0 (x:STN) (g:GV) (a c:Nat):stPo x g a c a 0=some (g a 0,.out c):=by simp [stPo]
theorem stPo_1 (x:STN) (g:GV) (a c:Nat):stPo x g a c a 1=some (g a 1,.out (c+1)):=by simp [stPo]
theorem stPo_2 (x:STN) (g:GV) (a c:Nat):stPo x g a c a 2=some (g a 2,.out (c+2)):=by simp [stPo]
section
variable {S:St} {x:STN} {g:GV} {a b:Nat} {f:FR}
theorem told_tA (i:Nat) (x:STN) (g:GV) (ha:a < 8) (hlt:i < S.next) (hi:lk S.ents i=some (.bx 73 (stF x g) 130 (stP x g))) :
  Go.Sx.Told S (fun _:Unit=>⟨S.env,(S.next,.box [.n (S.next+1),.n (S.next+2)] 93) :: (S.next+1,.dm false (mapF eSc (sOf x g a))) :: (S.next+2,.dm false (mapF ePl (qOf x a))) :: (i,.bx 73 (stFo x g a S.next) 130 (stPo x g a S.next)) :: S.ents,S.next+3⟩):=by
 have hpool:setPl (setPl (setPl (stP x g) a 0 (some (g a 0,.out S.next))) a 1 (some (g a 1,.out (S.next+1)))) a 2 (some (g a 2,.out (S.next+1+1)))=stPo x g a S.next:=by
  funext p q
  unfold setPl stPo
  by_cases e:p=a
  ·subst e
   match q with
   | 0=>simp
   | 1=>simp
   | 2=>simp
   | n+3=>simp [stP_more x g ha (show 3≤n+3 by omega)]
  ·simp [e]
 refine told_then (told_take i 73 (stF x g) 130 (stP x g) a 0 _ _ hi (stP_0 x g ha) rfl) ?_
 refine told_then (told_take i 73 (stF x g) 130 _ a 1 (g a 1) (.dm false (mapF eSc (sOf x g a))) lk_hd (by rw [setPl_ne (by omega)]; exact stP_1 x g ha) rfl) ?_
 refine told_then (told_take i 73 (stF x g) 130 _ a 2 (g a 2) (.dm false (mapF ePl (qOf x a))) lk_hd (by rw [setPl_ne (by omega),setPl_ne (by omega)]; exact stP_2 x g ha) rfl) ?_
 rw [hpool]
 have hne:i≠S.next∧i≠S.next+1∧i≠S.next+1+1:=by omega
 refine told_then (told_names i 73 (stF x g) 130 (stPo x g a S.next) S.next [.v (g a 1),.v (g a 2)] [.n (S.next+1),.n (S.next+2)] 93 lk_hd ?_ ?_ ?_) ?_
 ·rw [lk_tl hne.1,lk_tl (by simp only; omega),lk_tl hne.1,lk_tl (by simp only; omega),lk_tl hne.1,lk_hd]; rfl
 ·intro r ho
  have h1:=ho a 1 (g a 1) (S.next+1) (stPo_1 x g a S.next)
  have h2:=ho a 2 (g a 2) (S.next+2) (stPo_2 x g a S.next)
  simp only [List.map_cons,List.map_nil,SC.den,h1,h2]
 ·intro m hm _ y hy
  simp only [List.mem_cons,List.not_mem_nil,or_false] at hy
  rcases hy with rfl | rfl
  ·exact hm a 1 (g a 1) (S.next+1) (stPo_1 x g a S.next)
  ·exact hm a 2 (g a 2) (S.next+2) (stPo_2 x g a S.next)
 refine told_then (told_cell i 73 (stF x g) (stFo x g a S.next) 130 (stPo x g a S.next) ?_ ?_ ?_) ?_
 ·rw [lk_tl (Ne.symm hne.1),lk_hd]
 ·intro r ho j _
  unfold stFo
  split
  ·rename_i e
   have h0:=ho a 0 (g a 0) S.next (stPo_0 x g a S.next)
   rw [e,stF_a x g ha]
   show padd (r S.next) 0=padd (g a 0) 0
   rw [h0]
  ·rfl
 ·intro m hm _ j
  unfold stFo
  split
  ·exact hm a 0 (g a 0) S.next (stPo_0 x g a S.next)
  ·exact stF_sc _ _ _ _
 refine told_as (fun _ _ h=>h) (fun k=>?_) rfl
 simp only [lk,Nat.add_assoc,Nat.reduceAdd]
 by_cases e1:i=k
 ·subst e1
  rw [if_neg (Ne.symm hne.1),if_neg (show ¬ S.next+1=i by omega),if_neg (show ¬ S.next+2=i by omega),if_pos rfl,if_pos rfl]
 ·rw [if_neg e1,if_neg e1,if_neg e1,if_neg e1,if_neg e1]
  by_cases e2:S.next=k
  ·rw [if_pos e2,if_pos e2]
  ·rw [if_neg e2,if_neg e2,if_neg e2]
   by_cases e3:S.next+1=k
   ·rw [if_pos e3,if_neg (by omega),if_pos e3]; rfl
   ·rw [if_neg e3,if_neg e3]; rfl
theorem sOf_upd (x:STN) (g:GV) (a i:Nat) (SS:List SE) (L:List QE) (hi:i < 8):sOf (updA x a (shS SS) L) (updG g a SS) i=if i=a then SS else sOf x g i:=by
 unfold sOf
 rw [hOf_upd]
 by_cases e:i=a
 ·rw [if_pos ⟨e,hi⟩,if_pos e]
  subst e
  have:(fun _ j=>updG g i SS (16+i) j:GV)=fun _ j=>(SS.getD j ⟨0,.bool false,[]⟩).v:=by
   funext _ j; unfold updG; rw [if_pos rfl]
  rw [this,reV_of]
 ·rw [if_neg (fun q=>e q.1),if_neg e]
  have:(fun _ j=>updG g a SS (16+i) j:GV)=fun _ j=>g (16+i) j:=by
   funext _ j; unfold updG; rw [if_neg (by omega)]
  rw [this]
theorem updG_lo (g:GV) (a i j:Nat) (SS:List SE) (h:i < 16):updG g a SS i j=g i j:=by unfold updG; rw [if_neg (by omega)]
theorem stF_upd (x:STN) (g:GV) (a:Nat) (SS:List SE) (L:List QE):stF (updA x a (shS SS) L) (updG g a SS)=stF x g:=by
 funext j
 unfold stF
 split
 ·rfl
 ·split
  ·rw [updG_lo _ _ _ _ _ (by omega)]
  ·split
   ·rw [rOf_upd,updG_lo _ _ _ _ _ (by omega)]
   ·rfl
theorem stP_upd (x:STN) (g:GV) (a:Nat) (SS:List SE) (L:List QE) (ha:a < 8):stP (updA x a (shS SS) L) (updG g a SS)=fun i j=>if i=a then (match j with
  | 0=>some (g a 0,.box [g a 1,g a 2] 93)
  | 1=>some (g a 1,.dm false (mapF eSc SS))
  | 2=>some (g a 2,.dm false (mapF ePl L))
  | _=>none) else stP x g i j:=by
 funext i j
 by_cases e:i=a
 ·subst e
  rw [if_pos rfl]
  match j with
  | 0=>rw [stP_0 _ _ ha,updG_lo _ _ _ _ _ (by omega),updG_lo _ _ _ _ _ (by omega),updG_lo _ _ _ _ _ (by omega)]; rfl
  | 1=>rw [stP_1 _ _ ha,updG_lo _ _ _ _ _ (by omega),sOf_upd x g i i SS L ha,if_pos rfl]; rfl
  | 2=>rw [stP_2 _ _ ha,updG_lo _ _ _ _ _ (by omega),qOf_upd,if_pos ⟨rfl,ha⟩]; rfl
  | n+3=>rw [stP_more _ _ ha (by omega)]; rfl
 ·rw [if_neg e]
  unfold stP
  by_cases h1:i < 8
  ·rw [if_pos h1,if_pos h1]
   match j with
   | 0=>simp only; rw [updG_lo _ _ _ _ _ (by omega),updG_lo _ _ _ _ _ (by omega),updG_lo _ _ _ _ _ (by omega)]
   | 1=>simp only; rw [updG_lo _ _ _ _ _ (by omega),sOf_upd x g a i SS L h1,if_neg e]
   | 2=>simp only; rw [updG_lo _ _ _ _ _ (by omega),qOf_upd,if_neg (fun q=>e q.1)]
   | n+3=>rfl
  ·rw [if_neg h1,if_neg h1]
   split
   ·rw [rOf_upd,updG_lo _ _ _ _ _ (by omega)]
   ·rfl
theorem told_gA (i c:Nat) (x:STN) (g:GV) (SS:List SE) (L:List QE) (ha:a < 8) (hic:i < c) (hi:lk S.ents i=some (.bx 73 (stFo x g a c) 130 (stPo x g a c))) (h0:lk S.ents c=some (.box [.n (c+1),.n (c+2)] 93)) (h1:lk S.ents (c+1)=some (.dm false (mapF eSc SS))) (h2:lk S.ents (c+2)=some (.dm false (mapF ePl L))) :
  Go.Sx.Told S (fun _:Unit=>⟨S.env,(c,.dead) :: (c+1,.dead) :: (c+2,.dead) :: (i,.bx 73 (stF (updA x a (shS SS) L) (updG g a SS)) 130 (stP (updA x a (shS SS) L) (updG g a SS))) :: S.ents,S.next⟩):=by
 have hne:i≠c∧i≠c+1∧i≠c+2:=by omega
 have hpool:setPl (setPl (setPl (stPo x g a c) a 0 (some (g a 0,.box [g a 1,g a 2] 93))) a 1 (some (g a 1,.dm false (mapF eSc SS)))) a 2 (some (g a 2,.dm false (mapF ePl L)))=stP (updA x a (shS SS) L) (updG g a SS):=by
  rw [stP_upd x g a SS L ha]
  funext p q
  unfold setPl stPo
  by_cases e:p=a
  ·subst e
   match q with
   | 0=>simp
   | 1=>simp
   | 2=>simp
   | n+3=>simp
  ·simp [e]
 have two:(.box [.n (c+1),.n (c+2)] 93:Ent).mut=true:=rfl
 refine told_then (told_put (α:=Unit) (fun _=>g a 0) i 73 (stFo x g a c) (fun _=>stF x g) 130 (stPo x g a c) a 0 (fun _=>.box [g a 1,g a 2] 93) c _ hi h0 hne.1 rfl ?_) ?_
 ·intro r w hp he
  have ho:=poolRel.out hp
  have o0:=ho a 0 _ _ (stPo_0 x g a c)
  have o1:=ho a 1 _ _ (stPo_1 x g a c)
  have o2:=ho a 2 _ _ (stPo_2 x g a c)
  obtain ⟨b0,q1,q2⟩:=he
  refine ⟨(),o0.symm,⟨b0,by rw [← o0]; exact q1,?_⟩,fun q hq=>.inl hq,fun q hq=>.inl hq,rfl,fun j _=>?_,fun m _ j=>stF_sc _ _ _ _⟩
  ·simp only [List.map_cons,List.map_nil,SC.den,o1,o2] at q2
   exact q2
  ·unfold stFo
   split
   ·rename_i e
    rw [e,stF_a x g ha]
    show padd (g a 0) 0=padd (r c) 0
    rw [o0]
   ·rfl
 refine told_then (told_put (α:=Unit) (fun _=>g a 1) i 73 (stF x g) (fun _=>stF x g) 130 _ a 1 (fun _=>.dm false (mapF eSc SS)) (c+1) _ lk_hd (by rw [lk_tl hne.2.1,lk_tl (by omega)]; exact h1) hne.2.1 rfl ?_) ?_
 ·intro r w hp he
  have o1:=poolRel.out hp a 1 _ _ ((setPl_ne (by omega)).trans (stPo_1 x g a c))
  exact ⟨(),o1.symm,by rw [← o1]; exact he,fun q hq=>hq,fun q hq=>hq,rfl,fun j _=>rfl,fun m _ j=>stF_sc _ _ _ _⟩
 refine told_then (told_put (α:=Unit) (fun _=>g a 2) i 73 (stF x g) (fun _=>stF x g) 130 _ a 2 (fun _=>.dm false (mapF ePl L)) (c+2) _ lk_hd (by rw [lk_tl hne.2.2,lk_tl (by omega),lk_tl hne.2.2,lk_tl (by omega)]; exact h2) hne.2.2 rfl ?_) ?_
 ·intro r w hp he
  have o1:=poolRel.out hp a 2 _ _ ((setPl_ne (by omega)).trans ((setPl_ne (by omega)).trans (stPo_2 x g a c)))
  exact ⟨(),o1.symm,by rw [← o1]; exact he,fun q hq=>hq,fun q hq=>hq,rfl,fun j _=>rfl,fun m _ j=>stF_sc _ _ _ _⟩
 rw [hpool,← stF_upd x g a SS L]
 refine told_as (fun _ _ h=>h) (fun k=>?_) rfl
 simp only [lk]
 by_cases e1:i=k
 ·subst e1
  rw [if_neg (Ne.symm hne.1),if_neg (Ne.symm hne.2.1),if_neg (Ne.symm hne.2.2),if_pos rfl,if_pos rfl]
 ·rw [if_neg e1,if_neg e1,if_neg e1,if_neg e1]
  by_cases e2:c=k
  ·rw [if_pos e2,if_neg (by omega),if_neg (by omega),if_pos e2]
  ·rw [if_neg e2,if_neg e2]
   by_cases e3:c+1=k
   ·rw [if_pos e3,if_neg (by omega),if_pos e3]
   ·rw [if_neg e3,if_neg e3]
theorem told_tF (i t:Nat) (x:STN) (g:GV) (f:FR) (ha:a < 8) (hb:b < 8) (hf:rOf x a b=some f) (hlt:i < S.next) (hi:lk S.ents i=some (.bx 73 (stF x g) 130 (stP x g))) (ht:lk S.env t=some (.o (.c (.v (padd (g (8+a) b) 2))))) :
  Go.Sx.Told S (fun _:Unit=>⟨(t,.o (.c (.p S.next 2))) :: S.env,(S.next,frE a b f) :: (i,.bx 73 (stF x g) 130 (stPf x g a b S.next)) :: S.ents,S.next+1⟩):=by
 have hp:stP x g (8+a) b=some (g (8+a) b,frS a b f):=by rw [stP_r x g ha hb,hf]
 refine told_then (told_take i 73 (stF x g) 130 (stP x g) (8+a) b _ _ hi hp rfl) ?_
 refine told_then (told_slot i 73 (stF x g) 130 (stPf x g a b S.next) t _ (.o (.c (.p S.next 2))) lk_hd ht ?_ ?_) ?_
 ·intro r ho
  have o:=ho (8+a) b _ _ (setPl_at _ _ _ _)
  show padd (r S.next) 2=padd (g (8+a) b) 2
  rw [o]
 ·intro m hm _
  exact hm (8+a) b _ _ (setPl_at _ _ _ _)
 refine told_as (fun _ _ h=>h) (fun k=>?_) rfl
 simp only [lk]
 by_cases e1:i=k
 ·subst e1
  rw [if_neg (by omega),if_pos rfl,if_pos rfl]; rfl
 ·rw [if_neg e1,if_neg e1]; rfl
theorem told_gF (i c:Nat) (x:STN) (g:GV) (f:FR) (ha:a < 8) (hb:b < 8) (hf:rOf x a b=some f) (hic:i≠c) (hi:lk S.ents i=some (.bx 73 (stF x g) 130 (stPf x g a b c))) (hc:lk S.ents c=some (frE a b f)) :
  Go.Sx.Told S (fun _:Unit=>⟨S.env,(c,.dead) :: (i,.bx 73 (stF x g) 130 (stP x g)) :: S.ents,S.next⟩):=by
 have hp:stP x g (8+a) b=some (g (8+a) b,frS a b f):=by rw [stP_r x g ha hb,hf]
 have hpool:setPl (stPf x g a b c) (8+a) b (some (g (8+a) b,frS a b f))=stP x g:=by
  funext p q
  unfold stPf setPl
  by_cases e:p=8+a∧q=b
  ·rw [if_pos e,e.1,e.2,hp]
  ·rw [if_neg e,if_neg e]
 refine told_then (told_put (α:=Unit) (fun _=>g (8+a) b) i 73 (stF x g) (fun _=>stF x g) 130 (stPf x g a b c) (8+a) b (fun _=>frS a b f) c _ hi hc hic rfl ?_) ?_
 ·intro r w hp he
  have o:=poolRel.out hp (8+a) b _ _ (setPl_at _ _ _ _)
  refine ⟨(),o.symm,?_,fun q hq=>.inl hq,fun q hq=>.inl hq,rfl,fun j _=>rfl,fun m _ j=>stF_sc _ _ _ _⟩
  rw [← o]; exact he
 rw [hpool]
 refine told_as (fun _ _ h=>h) (fun k=>?_) rfl
 simp only [lk]
 by_cases e1:i=k
 ·subst e1
  rw [if_neg (Ne.symm hic),if_pos rfl,if_pos rfl]
 ·rw [if_neg e1,if_neg e1]
theorem told_nF (i k:Nat) (x:STN) (g:GV) (f:FR) (P:Pool) (ix:Nat) (ha:a < 8) (hb:b < 8) (hik:i≠k) (hP:∀ p q,¬ (p=8+a∧q=b)→P p q=stP x g p q) (hix:ix=9+a * 8+b) (hi:lk S.ents i=some (.bx 73 (fun j=>setF (stF x g) ix [.p k 2] j) 130 P)) (hk:lk S.ents k=some (frE a b f)) :
  Go.Sx.Told S (fun V:Value=>⟨S.env,(i,.bx 73 (stF (setR x a b f) (updV g (8+a) b V)) 130 (stP (setR x a b f) (updV g (8+a) b V))) :: (k,.dead) :: S.ents,S.next⟩):=by
 subst hix
 have hu:∀ V p q,¬ (p=8+a∧q=b)→updV g (8+a) b V p q=g p q:=fun V p q h=>if_neg h
 have hpool:∀ V,setPl P (8+a) b (some (V,frS a b f))=stP (setR x a b f) (updV g (8+a) b V):=by
  intro V
  funext p q
  by_cases e:p=8+a∧q=b
  ·obtain ⟨rfl,rfl⟩:=e
   rw [setPl_at,stP_r _ _ ha hb,rOf_set,if_pos ⟨⟨rfl,rfl⟩,ha,hb⟩]
   simp only [updV,and_self,if_true]
  ·rw [setPl_ne e,hP p q e]
   unfold stP
   by_cases h1:p < 8
   ·rw [if_pos h1,if_pos h1]
    match q with
    | 0=>simp only; rw [hu _ _ _ (by omega),hu _ _ _ (by omega),hu _ _ _ (by omega)]
    | 1=>
     simp only; rw [hu _ _ _ (by omega)]
     have:sOf (setR x a b f) (updV g (8+a) b V) p=sOf x g p:=by
      unfold sOf
      rw [hOf_set]
      have:(fun _ j=>updV g (8+a) b V (16+p) j:GV)=fun _ j=>g (16+p) j:=by funext _ j; exact hu _ _ _ (by omega)
      rw [this]
     rw [this]
    | 2=>simp only; rw [hu _ _ _ (by omega),qOf_set]
    | n+3=>rfl
   ·rw [if_neg h1,if_neg h1]
    by_cases h2:p < 16∧q < 8
    ·rw [if_pos h2,if_pos h2,rOf_set,if_neg (by omega),hu _ _ _ e]
    ·rw [if_neg h2,if_neg h2]
 refine told_then2 (told_put (α:=Value) (fun V=>V) i 73 _ (fun V=>stF (setR x a b f) (updV g (8+a) b V)) 130 P (8+a) b (fun _=>frS a b f) k _ hi hk hik rfl ?_) ?_
 ·intro r w hp he
  refine ⟨r k,rfl,he,fun q hq=>.inl hq,fun q hq=>.inl hq,rfl,fun j hj=>?_,fun m _ j=>stF_sc _ _ _ _⟩
  unfold setF
  by_cases e:j=9+a * 8+b
  ·subst e
   rw [stF_r _ _ ha hb,rOf_set,if_pos ⟨⟨rfl,rfl⟩,ha,hb⟩,if_pos (Nat.le_refl _),Nat.sub_self]
   show padd (updV g (8+a) b (r k) (8+a) b) 2=padd (r k) 2
   unfold updV; rw [if_pos ⟨rfl,rfl⟩]
  ·have h1:stF (setR x a b f) (updV g (8+a) b (r k)) j=stF x g j:=by
    unfold stF
    split
    ·rfl
    ·split
     ·rw [hu _ _ _ (by omega)]
     ·rw [rOf_set,if_neg (by omega),hu _ _ _ (by omega)]
   rw [h1]
   split
   ·rename_i h2
    have:nth [SC.p k 2] (j - (9+a * 8+b))=none:=by
     rw [nth_eq]; exact List.getElem?_eq_none (by simp; omega)
    rw [this]
   ·rfl
 ·intro V
  rw [hpool V]
  exact told_as (fun _ _ h=>h) (fun _=>rfl) rfl
end
end
end Go.Proofs.YtgpbokembopapaaGreat
