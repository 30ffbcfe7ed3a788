/- A part of the proof of a statement about this seat: how a function is stepped through, and plain laws. No conditions. -/
import Derived.Test.YtgpbokembopapaaGreatRows
import Derived.Test.YtgpbokembopapaaGreatFLSz4
import Derived.Test.YtgpbokembopapaaGreatFLM5
import Derived.KernelRfl
set_option linter.unusedVariables false
set_option linter.unusedSimpArgs false
set_option maxRecDepth 20000
namespace Go.Proofs.YtgpbokembopapaaGreat
open Go.Sx Go.Way
section
open Go.Sx
variable {P:Program} {α:Type}
def nxtConE (M:MEnc α) (d:α):Con:=fun args E n=>match args with
 | [.c (.p it 0)]=>match E it with
  | some (.itr i m sn)=>match E i with
   | some (.dm k l)=>if sn.length < m then some (.d (m=l.length∧someOf m sn∧isM M k l) (fun G=>∃ j:Nat,j < m∧j ∉ sn∧G=fun _ _=>.int .i64 j)
     (fun G=>.t [.c (.v (.bool true)),constS (dmK k (M.enc ((decM M l).getD (idxG G) d)).x (M.enc ((decM M l).getD (idxG G) d)).y),constS (M.enc ((decM M l).getD (idxG G) d)).val]) (fun G=>[(it,.itr i m (sn++[idxG G]))]) n)
    else some (.e (m=l.length∧someOf m sn) (.t [.c (.v (.bool false))]) [] n)
   | _=>none
  | _=>none
 | _=>none
def etyConE (M:MEnc α) (d:α):Con:=fun args E n=>match args with
 | [.c (.p it 0)]=>match E it with
  | some (.itr i m sn)=>match E i with
   | some (.dm k l)=>match sn.getLast? with
    | some j=>some (.e (m=l.length∧j < m∧isM M k l) (.t [constS (dmK k (M.enc ((decM M l).getD j d)).x (M.enc ((decM M l).getD j d)).y),constS (M.enc ((decM M l).getD j d)).val]) [] n)
    | none=>none
   | _=>none
  | _=>none
 | _=>none
attribute [push_cast] nxtConE etyConE
end
end Go.Proofs.YtgpbokembopapaaGreat
namespace Go.Proofs.YtgpbokembopapaaGreat
open Go.Sx Go.Way
structure PL where
 v:Int
 g:Bool
 x:Int
 y:Int
 h:Int
def idB (n:Int):Bool:=decide (0≤n∧n < 64)
def plB (p:PL):Bool:=decide (1≤p.v∧p.v≤1073741824) && (if p.g=true then decide (p.x=0∧p.y=0∧p.h=0) else decide ((-262144≤p.x∧p.x≤262144)∧(-262144≤p.y∧p.y≤262144)∧0≤p.h∧p.h < 256))
def numB (b:Bool):Int:=if b=true then 1 else 0
def cmpB (a b:CC):Int:=firstNZ [cmpI a.X b.X,cmpI a.Y b.Y]
def lexB:List CC→List CC→Int
 | [],[]=>0
 | [],_ :: _=>-1
 | _ :: _,[]=>1
 | x :: a,y :: b=>if cmpB x y≠0 then cmpB x y else lexB a b
def cmpS (a b:List CC):Int:=if cmpI a.length b.length≠0 then cmpI a.length b.length else lexB a b
def cmpP (p q:PL):Int:=firstNZ [cmpI p.v q.v,cmpI (numB p.g) (numB q.g),cmpI p.x q.x,cmpI p.y q.y,cmpI p.h q.h]
theorem lexB_step {a b:List CC} {k:Nat} (ha:k < a.length) (hb:k < b.length):lexB (a.drop k) (b.drop k)=if cmpB (a.getD k eC.dflt) (b.getD k eC.dflt)≠0 then cmpB (a.getD k eC.dflt) (b.getD k eC.dflt) else lexB (a.drop (k+1)) (b.drop (k+1)):=by
 rw [drop_cons eC.dflt ha,drop_cons eC.dflt hb]; rfl
theorem lexB_more {a b:List CC} {k:Nat} (ha:k < a.length) (hb:b.length≤k):lexB (a.drop k) (b.drop k)=1:=by
 rw [drop_cons eC.dflt ha,List.drop_eq_nil_of_le hb]; rfl
theorem lexB_end {a b:List CC} {k:Nat} (ha:a.length≤k):lexB (a.drop k) (b.drop k)=if k < b.length then -1 else 0:=by
 rw [List.drop_eq_nil_of_le ha]
 split
 ·rename_i h; rw [drop_cons eC.dflt h]; rfl
 ·rename_i h; rw [List.drop_eq_nil_of_le (by omega)]; rfl
def x75:XFn:=⟨9,(.seq (.reg false [K1 2 .mv (.bool false)]) (.seq (.reg false [O1 3 .mv 0,K2 4 (.bin .geq) 3 (iV 0),O1 5 .mv 4,G1 6 .mv 0 5 true,GK 7 (.bin .lss) 6 (iV 64) 5 true,⟨(some 8),.pick,[(.t 5),(.t 7),(.k (.bool false))],none⟩,O1 2 .mv 8]) .ret)),[(.s 2)]⟩
theorem x75_ok:xfn Tryz.prog Tryz.f75=some x75.er:=by kernel_rfl
def x76:XFn:=⟨17,(.seq (.reg false [K1 4 .mv (iV 0)]) (.seq (.seq (.reg false [O1 6 .mv 0,O1 7 .lenS 6,O1 8 .mv 1,O1 9 .lenS 8,O2 10 (.call 73) 7 9,O1 5 .mv 10]) (.seq (.reg false [O1 11 .mv 5,K2 12 (.bin .neq) 11 (iV 0)]) (.cond (.t 12) (.seq (.reg false [O1 13 .mv 5,O1 4 .mv 13]) .ret) .skip))) (.seq (.reg false [O1 14 .mv 0,O1 15 .mv 1,⟨(some 16),(.call 114),[(.t 14),(.t 15),(.k (.func (.func 115) #[] #[]))],none⟩,O1 4 .mv 16]) .ret))),[(.s 4)]⟩
theorem x76_ok:xfn Tryz.prog Tryz.f76=some x76.er:=by kernel_rfl
def x77:XFn:=⟨39,(.seq (.reg false [O1 1 (.box 32) 0,K1 2 .mv (.bool false)]) (.seq (.seq (.reg false [O1 3 (.fld 0) 1,O1 4 .load1 3,K2 5 (.bin .lss) 4 (iV 1),O1 6 .mv 5,G1 7 (.fld 0) 1 6 false,G1 8 .load1 7 6 false,GK 9 (.bin .gtr) 8 (iV 1073741824) 6 false,⟨(some 10),.pick,[(.t 6),(.k (.bool true)),(.t 9)],none⟩]) (.cond (.t 10) (.seq (.reg false [K1 2 .mv (.bool false)]) .ret) .skip)) (.seq (.seq (.reg false [O1 11 (.fld 1) 1,O1 12 .load1 11]) (.cond (.t 12) (.seq (.reg false [O1 13 (.fld 2) 1,O1 14 (.loadN 3) 13,⟨(some 15),(.build [(iV 0),(iV 0),(iV 0)] []),[],none⟩,⟨(some 16),(.eqA false [(.i .i64),(.i .i64),(.i .i64)]),[(.t 14),(.t 15)],none⟩,O1 2 .mv 16]) .ret) .skip)) (.seq (.reg false [O1 17 (.fld 2) 1,O1 18 (.fld 0) 17,O1 19 .load1 18,O1 20 (.call 116) 19,O1 21 .mv 20,G1 22 (.fld 2) 1 21 true,G1 23 (.fld 1) 22 21 true,G1 24 .load1 23 21 true,G1 25 (.call 116) 24 21 true,⟨(some 26),.pick,[(.t 21),(.t 25),(.k (.bool false))],none⟩,O1 27 .mv 26,G1 28 (.fld 2) 1 27 true,G1 29 (.fld 2) 28 27 true,G1 30 .load1 29 27 true,GK 31 (.bin .geq) 30 (iV 0) 27 true,⟨(some 32),.pick,[(.t 27),(.t 31),(.k (.bool false))],none⟩,O1 33 .mv 32,G1 34 (.fld 2) 1 33 true,G1 35 (.fld 2) 34 33 true,G1 36 .load1 35 33 true,GK 37 (.bin .lss) 36 (iV 256) 33 true,⟨(some 38),.pick,[(.t 33),(.t 37),(.k (.bool false))],none⟩,O1 2 .mv 38]) .ret)))),[(.s 2)]⟩
theorem x77_ok:xfn Tryz.prog Tryz.f77=some x77.er:=by kernel_rfl
def x78:XFn:=⟨40,(.seq (.reg false [O1 2 (.box 32) 0,O1 3 (.box 32) 1,K1 4 .mv (iV 0)]) (.seq (.regD [O1 5 (.fld 0) 2,O1 6 .load1 5,O1 7 (.fld 0) 3,O1 8 .load1 7,O2 9 (.call 73) 6 8,O1 10 (.fld 1) 2,O1 11 .load1 10,O1 12 (.call 117) 11,O1 13 (.fld 1) 3,O1 14 .load1 13,O1 15 (.call 117) 14,O2 16 (.call 73) 12 15,O1 17 (.fld 2) 2,O1 18 (.fld 0) 17,O1 19 .load1 18,O1 20 (.fld 2) 3,O1 21 (.fld 0) 20,O1 22 .load1 21,O2 23 (.call 73) 19 22,O1 24 (.fld 2) 2,O1 25 (.fld 1) 24,O1 26 .load1 25,O1 27 (.fld 2) 3,O1 28 (.fld 1) 27,O1 29 .load1 28,O2 30 (.call 73) 26 29,O1 31 (.fld 2) 2,O1 32 (.fld 2) 31,O1 33 .load1 32,O1 34 (.fld 2) 3,O1 35 (.fld 2) 34,O1 36 .load1 35,O2 37 (.call 73) 33 36,⟨(some 38),(.slit 3 5 1 [(iV 0),(iV 0),(iV 0),(iV 0),(iV 0)] [(0,1),(1,1),(2,1),(3,1),(4,1)]),[(.t 9),(.t 16),(.t 23),(.t 30),(.t 37)],none⟩,O1 39 (.call 72) 38,O1 4 .mv 39] [[],[0],[],[2],[1,0,3,2],[],[5],[6,5,4,1,0,3,2],[],[8],[9,8,7,6,5,4,1,0,3,2],[7,6,5,4,1,0,3,2,10,9,8],[],[12],[13,12],[],[15],[16,15],[14,13,12,17,16,15,11,7,6,5,4,1,0,3,2,10,9,8],[],[19],[20,19],[],[22],[23,22],[21,20,19,24,23,22,18,14,13,12,17,16,15,11,7,6,5,4,1,0,3,2,10,9,8],[],[26],[27,26],[],[29],[30,29],[28,27,26,31,30,29,25,21,20,19,24,23,22,18,14,13,12,17,16,15,11,7,6,5,4,1,0,3,2,10,9,8],[4,1,0,3,2,11,7,6,5,10,9,8,18,14,13,12,17,16,15,25,21,20,19,24,23,22,32,28,27,26,31,30,29],[33,4,1,0,3,2,11,7,6,5,10,9,8,18,14,13,12,17,16,15,25,21,20,19,24,23,22,32,28,27,26,31,30,29],[34,33,4,1,0,3,2,11,7,6,5,10,9,8,18,14,13,12,17,16,15,25,21,20,19,24,23,22,32,28,27,26,31,30,29]]) .ret)),[(.s 4)]⟩
theorem x78_ok:xfn Tryz.prog Tryz.f78=some x78.er:=by kernel_rfl
def x114L0:XC:=(.seq (.reg false [O2 14 (.bin .lss) 13 12]) (.seq (.cond (.t 14) .skip (.exit 0)) (.seq (.block 1 (.seq (.reg false [O1 15 .mv 13,O2 16 (.ixS 2) 11 13,O1 17 (.loadN 2) 16,⟨(some 8),(.alloc 89 [(iV 0),(iV 0)]),[],none⟩,O1 7 .mv 15,⟨none,(.store 2),[(.t 8),(.t 17)],none⟩]) (.seq (.seq (.reg false [O1 18 .mv 7,O1 19 .mv 1,O1 20 .lenS 19,O2 21 (.bin .geq) 18 20]) (.cond (.t 21) (.seq (.reg false [K1 6 .mv (iV 1)]) .ret) .skip)) (.seq (.reg false [O1 22 .mv 1,O1 23 .mv 7,O2 24 (.ixS 2) 22 23,O1 25 (.loadN 2) 24,⟨(some 9),(.alloc 89 [(iV 0),(iV 0)]),[],none⟩,⟨none,(.store 2),[(.t 9),(.t 25)],none⟩]) (.seq (.reg false [O1 26 .mv 2,O1 27 (.loadN 2) 8,O1 28 (.loadN 2) 9,⟨(some 29),.callv,[(.t 26),(.t 27),(.t 28)],none⟩,O1 10 .mv 29]) (.seq (.reg false [O1 30 .mv 10,K2 31 (.bin .neq) 30 (iV 0)]) (.cond (.t 31) (.seq (.reg false [O1 32 .mv 10,O1 6 .mv 32]) .ret) .skip))))))) (.reg false [K2 33 (.bin .add) 13 (iV 1),O1 13 .mv 33]))))
def x114:XFn:=⟨39,(.seq (.reg false [K1 6 .mv (iV 0)]) (.seq (.seq (.reg false [O1 11 .mv 0,O1 12 .lenS 11,K1 13 .mv (iV 0)]) (.block 0 (.loop x114L0))) (.seq (.seq (.reg false [O1 34 .mv 0,O1 35 .lenS 34,O1 36 .mv 1,O1 37 .lenS 36,O2 38 (.bin .lss) 35 37]) (.cond (.t 38) (.seq (.reg false [K1 6 .mv (iV (-1))]) .ret) .skip)) (.seq (.reg false [K1 6 .mv (iV 0)]) .ret)))),[(.s 6)]⟩
theorem x114_ok:xfn Tryz.prog Tryz.f114=some x114.er:=by kernel_rfl
def x115:XFn:=⟨17,(.seq (.reg false [O1 2 (.box 89) 0,O1 3 (.box 89) 1,K1 4 .mv (iV 0)]) (.seq (.regD [O1 5 (.fld 0) 2,O1 6 .load1 5,O1 7 (.fld 0) 3,O1 8 .load1 7,O2 9 (.call 73) 6 8,O1 10 (.fld 1) 2,O1 11 .load1 10,O1 12 (.fld 1) 3,O1 13 .load1 12,O2 14 (.call 73) 11 13,⟨(some 15),(.slit 3 2 1 [(iV 0),(iV 0)] [(0,1),(1,1)]),[(.t 9),(.t 14)],none⟩,O1 16 (.call 72) 15,O1 4 .mv 16] [[],[0],[],[2],[1,0,3,2],[],[5],[],[7],[6,5,8,7,4,1,0,3,2],[4,1,0,3,2,9,6,5,8,7],[10,4,1,0,3,2,9,6,5,8,7],[11,10,4,1,0,3,2,9,6,5,8,7]]) .ret)),[(.s 4)]⟩
theorem x115_ok:xfn Tryz.prog Tryz.f115=some x115.er:=by kernel_rfl
def x116:XFn:=⟨9,(.seq (.reg false [K1 2 .mv (.bool false)]) (.seq (.reg false [O1 3 .mv 0,K2 4 (.bin .geq) 3 (iV (-262144)),O1 5 .mv 4,G1 6 .mv 0 5 true,GK 7 (.bin .leq) 6 (iV 262144) 5 true,⟨(some 8),.pick,[(.t 5),(.t 7),(.k (.bool false))],none⟩,O1 2 .mv 8]) .ret)),[(.s 2)]⟩
theorem x116_ok:xfn Tryz.prog Tryz.f116=some x116.er:=by kernel_rfl
def x117:XFn:=⟨4,(.seq (.reg false [K1 2 .mv (iV 0)]) (.seq (.seq (.reg false [O1 3 .mv 0]) (.cond (.t 3) (.seq (.reg false [K1 2 .mv (iV 1)]) .ret) .skip)) (.seq (.reg false [K1 2 .mv (iV 0)]) .ret))),[(.s 2)]⟩
theorem x117_ok:xfn Tryz.prog Tryz.f117=some x117.er:=by kernel_rfl
def x41L0:XC:=(.seq (.reg false [O2 14 (.bin .lss) 13 12]) (.seq (.cond (.t 14) .skip (.exit 0)) (.seq (.block 1 (.seq (.reg false [O1 15 .mv 13,O1 5 .mv 15]) (.seq (.reg true [O1 16 .mv 0,O1 17 .mv 5,O2 18 (.ixS 1) 16 17,O1 19 .load1 18,O1 20 .mv 1,O1 21 .mv 5,O2 22 (.ixS 1) 20 21,O1 23 .load1 22,O2 24 (.bin .neq) 19 23]) (.cond (.t 24) (.seq (.reg false [K1 4 .mv (.bool false)]) .ret) .skip)))) (.reg false [K2 25 (.bin .add) 13 (iV 1),O1 13 .mv 25]))))
def x41:XFn:=⟨26,(.seq (.reg false [K1 4 .mv (.bool false)]) (.seq (.seq (.reg false [O1 6 .mv 0,O1 7 .lenS 6,O1 8 .mv 1,O1 9 .lenS 8,O2 10 (.bin .neq) 7 9]) (.cond (.t 10) (.seq (.reg false [K1 4 .mv (.bool false)]) .ret) .skip)) (.seq (.seq (.reg false [O1 11 .mv 0,O1 12 .lenS 11,K1 13 .mv (iV 0)]) (.block 0 (.loop x41L0))) (.seq (.reg false [K1 4 .mv (.bool true)]) .ret)))),[(.s 4)]⟩
theorem x41_ok:xfn Tryz.prog Tryz.f41=some x41.er:=by kernel_rfl
def x42L0:XC:=(.seq (.reg false [O2 14 (.bin .lss) 13 12]) (.seq (.cond (.t 14) .skip (.exit 0)) (.seq (.block 1 (.seq (.reg false [O1 15 .mv 13,O1 5 .mv 15]) (.seq (.reg true [O1 16 .mv 0,O1 17 .mv 5,O2 18 (.ixS 2) 16 17,O1 19 (.loadN 2) 18,O1 20 .mv 1,O1 21 .mv 5,O2 22 (.ixS 2) 20 21,O1 23 (.loadN 2) 22,⟨(some 24),(.eqA true [(.i .i64),(.i .i64)]),[(.t 19),(.t 23)],none⟩]) (.cond (.t 24) (.seq (.reg false [K1 4 .mv (.bool false)]) .ret) .skip)))) (.reg false [K2 25 (.bin .add) 13 (iV 1),O1 13 .mv 25]))))
def x42:XFn:=⟨26,(.seq (.reg false [K1 4 .mv (.bool false)]) (.seq (.seq (.reg false [O1 6 .mv 0,O1 7 .lenS 6,O1 8 .mv 1,O1 9 .lenS 8,O2 10 (.bin .neq) 7 9]) (.cond (.t 10) (.seq (.reg false [K1 4 .mv (.bool false)]) .ret) .skip)) (.seq (.seq (.reg false [O1 11 .mv 0,O1 12 .lenS 11,K1 13 .mv (iV 0)]) (.block 0 (.loop x42L0))) (.seq (.reg false [K1 4 .mv (.bool true)]) .ret)))),[(.s 4)]⟩
theorem x42_ok:xfn Tryz.prog Tryz.f42=some x42.er:=by kernel_rfl
def x43:XFn:=⟨8,(.seq (.reg false [K1 2 .mv (.slice none 0 0)]) (.seq (.seq (.reg false [O1 3 .mv 0,O1 4 (.isnil false) 3]) (.cond (.t 4) (.seq (.reg false [K1 2 .mv (.slice none 0 0)]) .ret) .skip)) (.seq (.reg false [⟨(some 5),(.slit 89 0 2 [] []),[],none⟩,O1 6 .mv 0,O2 7 (.app 89 2 16) 5 6,O1 2 .mv 7]) .ret))),[(.s 2)]⟩
theorem x43_ok:xfn Tryz.prog Tryz.f43=some x43.er:=by kernel_rfl
def g75:Con:=fun args_ E_ nn_=>match args_ with
 | [.c (.v (.int .i64 id))]=>some (.q (True) (.o (.c (.v (.bool (idB id))))))
 | _=>none
theorem c75:COk Tryz.prog 75 g75:=by
 refine cok_q Tryz.func75 x75_ok (by kernel_rfl) (cok_tab cok_nil) ?_
 intro args_ E_ nn_ cr_ hg_
 unfold g75 at hg_
 split at hg_
 ·rename_i id
  cases hg_
  refine ⟨_,_,rfl,0,[],[.c (.v (.int .i64 id))],[],.o (.c (.v (.bool (idB id)))),rfl,rfl,and3 (by simp only [push_cast,Nat.reduceLT,Nat.reduceAdd]) ⟨rfl,trivial,rfl,?_⟩⟩
  intro hpre hlen
  refine ⟨trivial,?_⟩
  simp (maxSteps:=9999999) only [x75,push_cast,simprocAttr]
  unfold idB
  rw [Bool.eq_iff_iff]
  simp
 ·cases hg_
def g116:Con:=fun args_ E_ nn_=>match args_ with
 | [.c (.v (.int .i64 n))]=>some (.q (True) (.o (.c (.v (.bool (decide (-262144≤n∧n≤262144)))))))
 | _=>none
theorem c116:COk Tryz.prog 116 g116:=by
 refine cok_q Tryz.func116 x116_ok (by kernel_rfl) (cok_tab cok_nil) ?_
 intro args_ E_ nn_ cr_ hg_
 unfold g116 at hg_
 split at hg_
 ·rename_i n
  cases hg_
  refine ⟨_,_,rfl,0,[],[.c (.v (.int .i64 n))],[],.o (.c (.v (.bool (decide (-262144≤n∧n≤262144))))),rfl,rfl,and3 (by simp only [push_cast,Nat.reduceLT,Nat.reduceAdd]) ⟨rfl,trivial,rfl,?_⟩⟩
  intro hpre hlen
  refine ⟨trivial,?_⟩
  simp (maxSteps:=9999999) only [x116,push_cast,simprocAttr]
  rw [Bool.eq_iff_iff]
  simp
 ·cases hg_
def g117:Con:=fun args_ E_ nn_=>match args_ with
 | [.c (.v (.bool b))]=>some (.q (True) (.o (.c (.v (.int .i64 (numB b))))))
 | _=>none
theorem c117:COk Tryz.prog 117 g117:=by
 refine cok_q Tryz.func117 x117_ok (by kernel_rfl) (cok_tab cok_nil) ?_
 intro args_ E_ nn_ cr_ hg_
 unfold g117 at hg_
 split at hg_
 ·rename_i b
  cases hg_
  refine ⟨_,_,rfl,0,[],[.c (.v (.bool b))],[],.o (.c (.v (.int .i64 (numB b)))),rfl,rfl,and3 (by simp only [push_cast,Nat.reduceLT,Nat.reduceAdd]) ⟨rfl,trivial,rfl,?_⟩⟩
  intro hpre hlen
  refine ⟨trivial,?_⟩
  simp (maxSteps:=9999999) only [x117,push_cast,simprocAttr]
  unfold numB
  exact ⟨fun h=>by rw [if_pos h],fun h=>by rw [h]; rfl⟩
 ·cases hg_
def g77:Con:=fun args_ E_ nn_=>match args_ with
 | [.a [.v (.int .i64 p_Version),.v (.bool p_Gone),.v (.int .i64 p_Pose_X),.v (.int .i64 p_Pose_Y),.v (.int .i64 p_Pose_H)]]=>some (.q (True) (.o (.c (.v (.bool (plB (⟨p_Version,p_Gone,p_Pose_X,p_Pose_Y,p_Pose_H⟩:PL)))))))
 | _=>none
theorem c77:COk Tryz.prog 77 g77:=by
 refine cok_q Tryz.func77 x77_ok (by kernel_rfl) (cok_tab (cok_cons c116 cok_nil)) ?_
 intro args_ E_ nn_ cr_ hg_
 unfold g77 at hg_
 split at hg_
 ·rename_i p_Version p_Gone p_Pose_X p_Pose_Y p_Pose_H
  cases hg_
  refine ⟨_,_,rfl,0,[],[.a [.v (.int .i64 p_Version),.v (.bool p_Gone),.v (.int .i64 p_Pose_X),.v (.int .i64 p_Pose_Y),.v (.int .i64 p_Pose_H)]],[],.o (.c (.v (.bool (plB (⟨p_Version,p_Gone,p_Pose_X,p_Pose_Y,p_Pose_H⟩:PL))))),rfl,rfl,and3 (by simp only [push_cast,Nat.reduceLT,Nat.reduceAdd]) ⟨rfl,trivial,rfl,?_⟩⟩
  intro hpre hlen
  refine ⟨trivial,?_⟩
  simp (maxSteps:=9999999) only [x77,push_cast,simprocAttr,g116]
  unfold plB
  refine ⟨fun h=>by rw [decide_eq_false (show ¬(1≤p_Version∧p_Version≤1073741824) by omega)]; rfl,fun h1 h2=>⟨fun hg=>?_,fun hg=>?_⟩⟩
  ·rw [decide_eq_true (show 1≤p_Version∧p_Version≤1073741824 by omega),Bool.true_and,if_pos hg,Bool.eq_iff_iff]
   simp
  ·rw [decide_eq_true (show 1≤p_Version∧p_Version≤1073741824 by omega),Bool.true_and,if_neg (by rw [hg]; simp),Bool.eq_iff_iff]
   simp [and_assoc]
 ·cases hg_
def g115:Con:=fun args_ E_ nn_=>match args_ with
 | [.a [.v (.int .i64 x_Mark),.v (.int .i64 x_Reading)],.a [.v (.int .i64 y_Mark),.v (.int .i64 y_Reading)]]=>some (.q (True) (.o (.c (.v (.int .i64 (cmpB ⟨x_Mark,x_Reading⟩ ⟨y_Mark,y_Reading⟩))))))
 | _=>none
theorem c115:COk Tryz.prog 115 g115:=by
 refine cok_q Tryz.func115 x115_ok (by kernel_rfl) (cok_tab (cok_cons c73 (cok_cons c72 cok_nil))) ?_
 intro args_ E_ nn_ cr_ hg_
 unfold g115 at hg_
 split at hg_
 ·rename_i x_Mark x_Reading y_Mark y_Reading
  cases hg_
  refine ⟨_,_,rfl,0,[],[.a [.v (.int .i64 x_Mark),.v (.int .i64 x_Reading)],.a [.v (.int .i64 y_Mark),.v (.int .i64 y_Reading)]],[],.o (.c (.v (.int .i64 (cmpB ⟨x_Mark,x_Reading⟩ ⟨y_Mark,y_Reading⟩)))),rfl,rfl,and3 (by simp only [push_cast,Nat.reduceLT,Nat.reduceAdd]) ⟨rfl,trivial,rfl,?_⟩⟩
  intro hpre hlen
  refine ⟨trivial,?_⟩
  have hl1:isRow eI 2 1 (litF [SC.v (Value.int IntKind.i64 (cmpI x_Mark y_Mark)),SC.v (Value.int IntKind.i64 (cmpI x_Reading y_Reading))] 1) ↔ True:=iff_true_intro (lits_row eI [(cmpI x_Mark y_Mark),(cmpI x_Reading y_Reading)]).1
  have hl2:decL eI 2 (litF [SC.v (Value.int IntKind.i64 (cmpI x_Mark y_Mark)),SC.v (Value.int IntKind.i64 (cmpI x_Reading y_Reading))] 1)=[(cmpI x_Mark y_Mark),(cmpI x_Reading y_Reading)]:=(lits_row eI [(cmpI x_Mark y_Mark),(cmpI x_Reading y_Reading)]).2
  simp (maxSteps:=9999999) only [x115,push_cast,simprocAttr,g73,g72,hl1,hl2]
  exact ⟨by rfl,rfl⟩
 ·cases hg_
def g78:Con:=fun args_ E_ nn_=>match args_ with
 | [.a [.v (.int .i64 a_Version),.v (.bool a_Gone),.v (.int .i64 a_Pose_X),.v (.int .i64 a_Pose_Y),.v (.int .i64 a_Pose_H)],.a [.v (.int .i64 b_Version),.v (.bool b_Gone),.v (.int .i64 b_Pose_X),.v (.int .i64 b_Pose_Y),.v (.int .i64 b_Pose_H)]]=>some (.q (True) (.o (.c (.v (.int .i64 (cmpP (⟨a_Version,a_Gone,a_Pose_X,a_Pose_Y,a_Pose_H⟩:PL) (⟨b_Version,b_Gone,b_Pose_X,b_Pose_Y,b_Pose_H⟩:PL)))))))
 | _=>none
theorem c78:COk Tryz.prog 78 g78:=by
 refine cok_q Tryz.func78 x78_ok (by kernel_rfl) (cok_tab (cok_cons c73 (cok_cons c72 (cok_cons c117 cok_nil)))) ?_
 intro args_ E_ nn_ cr_ hg_
 unfold g78 at hg_
 split at hg_
 ·rename_i a_Version a_Gone a_Pose_X a_Pose_Y a_Pose_H b_Version b_Gone b_Pose_X b_Pose_Y b_Pose_H
  cases hg_
  refine ⟨_,_,rfl,0,[],[.a [.v (.int .i64 a_Version),.v (.bool a_Gone),.v (.int .i64 a_Pose_X),.v (.int .i64 a_Pose_Y),.v (.int .i64 a_Pose_H)],.a [.v (.int .i64 b_Version),.v (.bool b_Gone),.v (.int .i64 b_Pose_X),.v (.int .i64 b_Pose_Y),.v (.int .i64 b_Pose_H)]],[],.o (.c (.v (.int .i64 (cmpP (⟨a_Version,a_Gone,a_Pose_X,a_Pose_Y,a_Pose_H⟩:PL) (⟨b_Version,b_Gone,b_Pose_X,b_Pose_Y,b_Pose_H⟩:PL))))),rfl,rfl,and3 (by simp only [push_cast,Nat.reduceLT,Nat.reduceAdd]) ⟨rfl,trivial,rfl,?_⟩⟩
  intro hpre hlen
  refine ⟨trivial,?_⟩
  have hl1:isRow eI 5 1 (litF [SC.v (Value.int IntKind.i64 (cmpI a_Version b_Version)),SC.v (Value.int IntKind.i64 (cmpI (numB a_Gone) (numB b_Gone))),SC.v (Value.int IntKind.i64 (cmpI a_Pose_X b_Pose_X)),SC.v (Value.int IntKind.i64 (cmpI a_Pose_Y b_Pose_Y)),SC.v (Value.int IntKind.i64 (cmpI a_Pose_H b_Pose_H))] 1) ↔ True:=iff_true_intro (lits_row eI [(cmpI a_Version b_Version),(cmpI (numB a_Gone) (numB b_Gone)),(cmpI a_Pose_X b_Pose_X),(cmpI a_Pose_Y b_Pose_Y),(cmpI a_Pose_H b_Pose_H)]).1
  have hl2:decL eI 5 (litF [SC.v (Value.int IntKind.i64 (cmpI a_Version b_Version)),SC.v (Value.int IntKind.i64 (cmpI (numB a_Gone) (numB b_Gone))),SC.v (Value.int IntKind.i64 (cmpI a_Pose_X b_Pose_X)),SC.v (Value.int IntKind.i64 (cmpI a_Pose_Y b_Pose_Y)),SC.v (Value.int IntKind.i64 (cmpI a_Pose_H b_Pose_H))] 1)=[(cmpI a_Version b_Version),(cmpI (numB a_Gone) (numB b_Gone)),(cmpI a_Pose_X b_Pose_X),(cmpI a_Pose_Y b_Pose_Y),(cmpI a_Pose_H b_Pose_H)]:=(lits_row eI [(cmpI a_Version b_Version),(cmpI (numB a_Gone) (numB b_Gone)),(cmpI a_Pose_X b_Pose_X),(cmpI a_Pose_Y b_Pose_Y),(cmpI a_Pose_H b_Pose_H)]).2
  simp (maxSteps:=9999999) only [x78,push_cast,simprocAttr,g73,g72,g117,hl1,hl2]
  exact ⟨by rfl,rfl⟩
 ·cases hg_
def g114:Con:=fun args_ E_ nn_=>match args_ with
 | [.c (.n s1),.c (.n s2),.c (.v (.func (.func 115) f_a f_b))]=>(match rowOf E_ s1 with
  | some (s1_n,s1_s,s1_f)=>(match rowOf E_ s2 with
  | some (s2_n,s2_s,s2_f)=>some (.q (isRow eC s1_n s1_s s1_f∧isRow eC s2_n s2_s s2_f∧f_a=#[]∧f_b=#[]) (.o (.c (.v (.int .i64 (lexB (decL eC s1_n s1_f) (decL eC s2_n s2_f)))))))
  | none=>none)
  | none=>none)
 | _=>none
theorem c114:COk Tryz.prog 114 g114:=by
 refine cok_q Tryz.func114 x114_ok (by kernel_rfl) (cok_tab (cok_cons c115 cok_nil)) ?_
 intro args_ E_ nn_ cr_ hg_
 unfold g114 at hg_
 split at hg_
 ·rename_i s1 s2 f_a f_b
  split at hg_
  ·rename_i s1_n s1_s s1_f h_s1
   split at hg_
   ·rename_i s2_n s2_s s2_f h_s2
    cases hg_
    refine ⟨_,_,rfl,2,[s1,s2],[.c (.n 0),.c (.n 1),.c (.v (.func (.func 115) f_a f_b))],[(0,.ro (decL eC s1_n s1_f).length eC.sz (rowF eC (decL eC s1_n s1_f))),(1,.ro (decL eC s2_n s2_f).length eC.sz (rowF eC (decL eC s2_n s2_f)))],.o (.c (.v (.int .i64 (lexB (decL eC s1_n s1_f) (decL eC s2_n s2_f))))),rfl,rfl,and3 (by simp only [push_cast,Nat.reduceLT,Nat.reduceAdd]) ⟨rfl,⟨inE0_row h_s1,inE0_row h_s2,trivial⟩,rfl,?_⟩⟩
    intro hpre hlen
    obtain ⟨i_s1,hpre⟩:=hpre
    obtain ⟨i_s2,hpre⟩:=hpre
    refine ⟨⟨inE_row h_s1 i_s1,inE_row h_s2 i_s2,trivial⟩,?_⟩
    have z_s1:=lens_row (E:=eC) hlen h_s1
    have z_s2:=lens_row (E:=eC) hlen h_s2
    clear i_s1
    generalize decL eC s1_n s1_f=s1L at *
    clear i_s2
    generalize decL eC s2_n s2_f=s2L at *
    clear h_s1
    clear h_s2
    obtain ⟨rfl,rfl⟩:=hpre
    simp (maxSteps:=9999999) only [x114,push_cast,simprocAttr,g115]
    refine vcLoop_upd (α:={k:Nat // k≤s1L.length∧k≤s2L.length∧lexB (s1L.drop k) (s2L.drop k)=lexB s1L s2L}) [0,1,2,11,12] 0 (fun s=>[(13,.o (.c (.v (.int .i64 (s.1:Nat)))))]) (fun s=>[]) (fun s=>s1L.length - s.1) ⟨0,by omega,by omega,rfl⟩ ?_ ?_
    ·simp only [push_cast,simprocAttr,g115]
    rintro ⟨k,hk,hk2,hx⟩
    simp only [x114L0,push_cast,simprocAttr,g115]
    refine ⟨fun hlt=>⟨hlt,hlt,fun h=>?_,fun h=>⟨by omega,by omega,fun h3=>?_,fun h3=>?_⟩⟩,fun hn=>⟨fun h=>?_,fun h=>?_⟩⟩
    ·rw [← hx,lexB_more hlt h]
    ·rw [← hx,lexB_step hlt (by omega),if_pos h3]
    ·exact ⟨⟨k+1,by omega,by omega,by rw [← hx,lexB_step hlt (by omega),if_neg (fun q=>q h3)]⟩,wrapI (by omega) (by omega),by simp only; omega⟩
    ·rw [← hx,lexB_end (by omega),if_pos (by omega)]
    ·rw [← hx,lexB_end (by omega),if_neg (by omega)]
   ·cases hg_
  ·cases hg_
 ·cases hg_
def g76:Con:=fun args_ E_ nn_=>match args_ with
 | [.c (.n a),.c (.n b)]=>(match rowOf E_ a with
  | some (a_n,a_s,a_f)=>(match rowOf E_ b with
  | some (b_n,b_s,b_f)=>some (.q (isRow eC a_n a_s a_f∧isRow eC b_n b_s b_f∧True) (.o (.c (.v (.int .i64 (cmpS (decL eC a_n a_f) (decL eC b_n b_f)))))))
  | none=>none)
  | none=>none)
 | _=>none
theorem c76:COk Tryz.prog 76 g76:=by
 refine cok_q Tryz.func76 x76_ok (by kernel_rfl) (cok_tab (cok_cons c73 (cok_cons c114 cok_nil))) ?_
 intro args_ E_ nn_ cr_ hg_
 unfold g76 at hg_
 split at hg_
 ·rename_i a b
  split at hg_
  ·rename_i a_n a_s a_f h_a
   split at hg_
   ·rename_i b_n b_s b_f h_b
    cases hg_
    refine ⟨_,_,rfl,2,[a,b],[.c (.n 0),.c (.n 1)],[(0,.ro (decL eC a_n a_f).length eC.sz (rowF eC (decL eC a_n a_f))),(1,.ro (decL eC b_n b_f).length eC.sz (rowF eC (decL eC b_n b_f)))],.o (.c (.v (.int .i64 (cmpS (decL eC a_n a_f) (decL eC b_n b_f))))),rfl,rfl,and3 (by simp only [push_cast,Nat.reduceLT,Nat.reduceAdd]) ⟨rfl,⟨inE0_row h_a,inE0_row h_b,trivial⟩,rfl,?_⟩⟩
    intro hpre hlen
    obtain ⟨i_a,hpre⟩:=hpre
    obtain ⟨i_b,hpre⟩:=hpre
    refine ⟨⟨inE_row h_a i_a,inE_row h_b i_b,trivial⟩,?_⟩
    have z_a:=lens_row (E:=eC) hlen h_a
    have z_b:=lens_row (E:=eC) hlen h_b
    clear i_a
    generalize decL eC a_n a_f=aL at *
    clear i_b
    generalize decL eC b_n b_f=bL at *
    clear h_a
    clear h_b
    simp (maxSteps:=9999999) only [x76,push_cast,simprocAttr,g73,g114]
    unfold cmpS
    exact ⟨fun h=>by rw [if_pos h],fun h=>by rw [if_neg (by simp [h])]⟩
   ·cases hg_
  ·cases hg_
 ·cases hg_
def g41:Con:=fun args_ E_ nn_=>match args_ with
 | [.c (.n s1),.c (.n s2)]=>(match rowOf E_ s1 with
  | some (s1_n,s1_s,s1_f)=>(match rowOf E_ s2 with
  | some (s2_n,s2_s,s2_f)=>some (.q (isRow eI s1_n s1_s s1_f∧isRow eI s2_n s2_s s2_f∧True) (.o (.c (.v (.bool (decide ((decL eI s1_n s1_f)=(decL eI s2_n s2_f))))))))
  | none=>none)
  | none=>none)
 | _=>none
theorem c41:COk Tryz.prog 41 g41:=by
 refine cok_q Tryz.func41 x41_ok (by kernel_rfl) (cok_tab cok_nil) ?_
 intro args_ E_ nn_ cr_ hg_
 unfold g41 at hg_
 split at hg_
 ·rename_i s1 s2
  split at hg_
  ·rename_i s1_n s1_s s1_f h_s1
   split at hg_
   ·rename_i s2_n s2_s s2_f h_s2
    cases hg_
    refine ⟨_,_,rfl,2,[s1,s2],[.c (.n 0),.c (.n 1)],[(0,.ro (decL eI s1_n s1_f).length eI.sz (rowF eI (decL eI s1_n s1_f))),(1,.ro (decL eI s2_n s2_f).length eI.sz (rowF eI (decL eI s2_n s2_f)))],.o (.c (.v (.bool (decide ((decL eI s1_n s1_f)=(decL eI s2_n s2_f)))))),rfl,rfl,and3 (by simp only [push_cast,Nat.reduceLT,Nat.reduceAdd]) ⟨rfl,⟨inE0_row h_s1,inE0_row h_s2,trivial⟩,rfl,?_⟩⟩
    intro hpre hlen
    obtain ⟨i_s1,hpre⟩:=hpre
    obtain ⟨i_s2,hpre⟩:=hpre
    refine ⟨⟨inE_row h_s1 i_s1,inE_row h_s2 i_s2,trivial⟩,?_⟩
    have z_s1:=lens_row (E:=eI) hlen h_s1
    have z_s2:=lens_row (E:=eI) hlen h_s2
    clear i_s1
    generalize decL eI s1_n s1_f=s1L at *
    clear i_s2
    generalize decL eI s2_n s2_f=s2L at *
    clear h_s1
    clear h_s2
    simp (maxSteps:=9999999) only [x41,push_cast,simprocAttr]
    refine ⟨fun h=>(decide_eq_false fun e=>h (by rw [e])).symm,fun hl=>?_⟩
    refine vcLoop_upd (α:={k:Nat // k≤s1L.length∧∀ i,i < k→s1L.getD i eI.dflt=s2L.getD i eI.dflt}) [0,1,12] 0 (fun s=>[(13,.o (.c (.v (.int .i64 (s.1:Nat)))))]) (fun s=>[]) (fun s=>s1L.length - s.1) ⟨0,by omega,fun i hi=>by omega⟩ ?_ ?_
    ·simp only [push_cast,simprocAttr]
    rintro ⟨k,hk,hall⟩
    simp only [x41L0,push_cast,simprocAttr]
    refine ⟨fun hlt=>⟨hlt,hlt,by omega,by omega,fun h=>(decide_eq_false fun e=>h (by rw [e])).symm,fun h=>⟨⟨k+1,by omega,fun i hi=>?_⟩,wrapI (by omega) (by omega),by simp only; omega⟩⟩,fun hn=>(decide_eq_true (getD_ext (by omega) fun i hi=>hall i (by omega))).symm⟩
    by_cases e:i=k
    ·subst e; exact h
    ·exact hall i (by omega)
   ·cases hg_
  ·cases hg_
 ·cases hg_
def g42:Con:=fun args_ E_ nn_=>match args_ with
 | [.c (.n s1),.c (.n s2)]=>(match rowOf E_ s1 with
  | some (s1_n,s1_s,s1_f)=>(match rowOf E_ s2 with
  | some (s2_n,s2_s,s2_f)=>some (.q (isRow eC s1_n s1_s s1_f∧isRow eC s2_n s2_s s2_f∧True) (.o (.c (.v (.bool (decide ((decL eC s1_n s1_f)=(decL eC s2_n s2_f))))))))
  | none=>none)
  | none=>none)
 | _=>none
theorem c42:COk Tryz.prog 42 g42:=by
 refine cok_q Tryz.func42 x42_ok (by kernel_rfl) (cok_tab cok_nil) ?_
 intro args_ E_ nn_ cr_ hg_
 unfold g42 at hg_
 split at hg_
 ·rename_i s1 s2
  split at hg_
  ·rename_i s1_n s1_s s1_f h_s1
   split at hg_
   ·rename_i s2_n s2_s s2_f h_s2
    cases hg_
    refine ⟨_,_,rfl,2,[s1,s2],[.c (.n 0),.c (.n 1)],[(0,.ro (decL eC s1_n s1_f).length eC.sz (rowF eC (decL eC s1_n s1_f))),(1,.ro (decL eC s2_n s2_f).length eC.sz (rowF eC (decL eC s2_n s2_f)))],.o (.c (.v (.bool (decide ((decL eC s1_n s1_f)=(decL eC s2_n s2_f)))))),rfl,rfl,and3 (by simp only [push_cast,Nat.reduceLT,Nat.reduceAdd]) ⟨rfl,⟨inE0_row h_s1,inE0_row h_s2,trivial⟩,rfl,?_⟩⟩
    intro hpre hlen
    obtain ⟨i_s1,hpre⟩:=hpre
    obtain ⟨i_s2,hpre⟩:=hpre
    refine ⟨⟨inE_row h_s1 i_s1,inE_row h_s2 i_s2,trivial⟩,?_⟩
    have z_s1:=lens_row (E:=eC) hlen h_s1
    have z_s2:=lens_row (E:=eC) hlen h_s2
    clear i_s1
    generalize decL eC s1_n s1_f=s1L at *
    clear i_s2
    generalize decL eC s2_n s2_f=s2L at *
    clear h_s1
    clear h_s2
    simp (maxSteps:=9999999) only [x42,push_cast,simprocAttr]
    refine ⟨fun h=>(decide_eq_false fun e=>h (by rw [e])).symm,fun hl=>?_⟩
    refine vcLoop_upd (α:={k:Nat // k≤s1L.length∧∀ i,i < k→s1L.getD i eC.dflt=s2L.getD i eC.dflt}) [0,1,12] 0 (fun s=>[(13,.o (.c (.v (.int .i64 (s.1:Nat)))))]) (fun s=>[]) (fun s=>s1L.length - s.1) ⟨0,by omega,fun i hi=>by omega⟩ ?_ ?_
    ·simp only [push_cast,simprocAttr]
    rintro ⟨k,hk,hall⟩
    simp only [x42L0,push_cast,simprocAttr]
    refine ⟨fun hlt=>⟨hlt,hlt,by omega,by omega,fun hb=>(decide_eq_false fun e=>?_).symm,fun h1 h2=>⟨⟨k+1,by omega,fun i hi=>?_⟩,wrapI (by omega) (by omega),by simp only; omega⟩⟩,fun hn=>(decide_eq_true (getD_ext (by omega) fun i hi=>hall i (by omega))).symm⟩
    ·rw [e] at hb; simp at hb
    ·by_cases e:i=k
     ·subst e
      have:∀ a b:CC,a.X=b.X→a.Y=b.Y→a=b:=fun a b q1 q2=>by cases a; cases b; simp only at q1 q2; rw [q1,q2]
      exact this _ _ h1 h2
     ·exact hall i (by omega)
   ·cases hg_
  ·cases hg_
 ·cases hg_
def g43:Con:=fun args_ E_ nn_=>match args_ with
 | [.c (.n s)]=>(match rowOf E_ s with
  | some (s_n,s_s,s_f)=>some (.e (isRow eC s_n s_s s_f∧((decL eC s_n s_f)).length≤100000) (.o (.c (.n (nn_+0)))) [((nn_+0),.own ((decL eC s_n s_f)).length 2 (rowF eC ((decL eC s_n s_f))) 89)] (nn_+1))
  | none=>none)
 | _=>none
theorem c43:COk Tryz.prog 43 g43:=by
 refine cok_e Tryz.func43 x43_ok (by kernel_rfl) (cok_tab cok_nil) ?_
 intro args_ E_ nn_ cr_ hg_
 unfold g43 at hg_
 split at hg_
 ·rename_i s
  split at hg_
  ·rename_i s_n s_s s_f h_s
   cases hg_
   refine ⟨_,_,_,_,rfl,1,[s],[.c (.n 0)],[(0,.ro (decL eC s_n s_f).length eC.sz (rowF eC (decL eC s_n s_f)))],.o (.c (.n 1)),[(1,.own ((decL eC s_n s_f)).length 2 (rowF eC ((decL eC s_n s_f))) 89)],2,rfl,rfl,by simp only [renE,Ent.ren,rowF_renf]<;>rfl,rfl,by decide,and4 (by simp only [push_cast,Nat.reduceLT,Nat.reduceAdd]) ⟨rfl,⟨inE0_row h_s,trivial⟩,by simp only [keysNodup,outN,keys]<;>decide,rfl,rfl,?_⟩⟩
   intro hpre hlen
   obtain ⟨i_s,hpre⟩:=hpre
   refine ⟨⟨inE_row h_s i_s,trivial⟩,by simp only [apartE]<;>(first | trivial | (simp [Ent.mut]; done)),?_⟩
   have z_s:=lens_row (E:=eC) hlen h_s
   clear i_s
   generalize decL eC s_n s_f=sL at *
   clear h_s
   simp (maxSteps:=9999999) only [x43,push_cast,simprocAttr]
   intro b
   exact fun h=>⟨h,fun _=>⟨by omega,fun e j he hj=>by rw [rowF_sub]; simp [catF]⟩⟩
  ·cases hg_
 ·cases hg_
end Go.Proofs.YtgpbokembopapaaGreat
