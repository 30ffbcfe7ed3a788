/- A part of the proof of a statement about this seat: how a function is stepped through, and plain laws. No conditions. -/
import Derived.Test.YtgpbokembopapaaGreatRows
import Derived.Test.YtgpbokembopapaaGreatFLSz4
import Derived.Test.YtgpbokembopapaaGreatFLM6
import Derived.KernelRfl
set_option linter.unusedVariables false
set_option linter.unusedSimpArgs false
set_option maxRecDepth 20000
namespace Go.Proofs.YtgpbokembopapaaGreat
open Go.Sx Go.Way
structure SE where
 i:Int
 v:Value
 l:List CC
def eSc:MEnc SE where
 k:=false
 enc:=fun s=>⟨s.i,0,s.v,some (none,s.l.length,2,rowG eC s.l)⟩
 dec:=fun d=>⟨d.x,d.val,match d.row with | some (_,n,_,g)=>decL eC n (fun a b=>.v (g a b)) | none=>[]⟩
 de:=fun p=>by
  show SE.mk p.i p.v (decL eC p.l.length (vF (rowG eC p.l)))=p
  rw [rowG_f,decL_rowF]
structure QE where
 i:Int
 p:PL
def ePl:MEnc QE where
 k:=false
 enc:=fun q=>⟨q.i,0,.agg #[.int .i64 q.p.v,.bool q.p.g,.int .i64 q.p.x,.int .i64 q.p.y,.int .i64 q.p.h],none⟩
 dec:=fun d=>⟨d.x,match d.val with | .agg cs=>⟨intV (cs.getD 0 (.bool false)),boolV (cs.getD 1 (.bool false)),intV (cs.getD 2 (.bool false)),intV (cs.getD 3 (.bool false)),intV (cs.getD 4 (.bool false))⟩ | _=>⟨0,false,0,0,0⟩⟩
 de:=fun p=>rfl
theorem eSc_row (s:SE):(eSc.enc s).row=some (none,s.l.length,2,rowG eC s.l):=rfl
theorem eSc_val (s:SE):(eSc.enc s).val=s.v:=rfl
theorem eSc_k:eSc.k=false:=rfl
theorem ePl_row (q:QE):(ePl.enc q).row=none:=rfl
theorem ePl_val (q:QE):(ePl.enc q).val = .agg #[.int .i64 q.p.v,.bool q.p.g,.int .i64 q.p.x,.int .i64 q.p.y,.int .i64 q.p.h]:=rfl
theorem ePl_k:ePl.k=false:=rfl
attribute [push_cast] eSc_row eSc_val eSc_k ePl_row ePl_val ePl_k
def lkS:List SE→Int→Option SE
 | [],_=>none
 | s :: S,x=>if s.i=x then some s else lkS S x
def lkP:List QE→Int→Option QE
 | [],_=>none
 | s :: S,x=>if s.i=x then some s else lkP S x
def setS:List SE→Int→Value→List CC→List SE
 | [],x,V,l=>[⟨x,V,l⟩]
 | s :: S,x,V,l=>if s.i=x then ⟨x,V,l⟩ :: S else s :: setS S x V l
def setP:List QE→Int→PL→List QE
 | [],x,p=>[⟨x,p⟩]
 | s :: S,x,p=>if s.i=x then ⟨x,p⟩ :: S else s :: setP S x p
theorem same_f (d:DM) (x:Int):sameDM false d x 0=decide (d.x=x):=by
 rfl
theorem findDM_S (x:Int):∀ S:List SE,findDM false (mapF eSc S) x 0=(lkS S x).map eSc.enc
 | []=>rfl
 | e :: L=>by
  have hs:=same_f (eSc.enc e) x
  show (if sameDM false (eSc.enc e) x 0=true then some (eSc.enc e) else findDM false (mapF eSc L) x 0)=_
  unfold lkS
  have hx:(eSc.enc e).x=e.i:=rfl
  rw [hx] at hs
  by_cases g:e.i=x
  ·rw [decide_eq_true g] at hs; rw [if_pos hs,if_pos g]; rfl
  ·rw [decide_eq_false g] at hs; rw [if_neg (by rw [hs]; simp),if_neg g]; exact findDM_S x L
theorem findDM_Q (x:Int):∀ S:List QE,findDM false (mapF ePl S) x 0=(lkP S x).map ePl.enc
 | []=>rfl
 | e :: L=>by
  have hs:=same_f (ePl.enc e) x
  show (if sameDM false (ePl.enc e) x 0=true then some (ePl.enc e) else findDM false (mapF ePl L) x 0)=_
  unfold lkP
  have hx:(ePl.enc e).x=e.i:=rfl
  rw [hx] at hs
  by_cases g:e.i=x
  ·rw [decide_eq_true g] at hs; rw [if_pos hs,if_pos g]; rfl
  ·rw [decide_eq_false g] at hs; rw [if_neg (by rw [hs]; simp),if_neg g]; exact findDM_Q x L
theorem updDM_S (x:Int) (V:Value) (l:List CC):∀ S:List SE,updDM false (mapF eSc S) x 0 V (some (none,l.length,2,rowG eC l))=mapF eSc (setS S x V l)
 | []=>rfl
 | e :: L=>by
  have hs:=same_f (eSc.enc e) x
  have hx:(eSc.enc e).x=e.i:=rfl
  rw [hx] at hs
  show (if sameDM false (eSc.enc e) x 0=true then _ else _)=_
  unfold setS
  by_cases g:e.i=x
  ·rw [decide_eq_true g] at hs; rw [if_pos hs,if_pos g]; rfl
  ·rw [decide_eq_false g] at hs; rw [if_neg (by rw [hs]; simp),if_neg g]
   show eSc.enc e :: updDM false (mapF eSc L) x 0 V _=eSc.enc e :: mapF eSc (setS L x V l)
   rw [updDM_S x V l L]
theorem updDM_Q (x:Int) (p:PL):∀ S:List QE,updDM false (mapF ePl S) x 0 (.agg #[.int .i64 p.v,.bool p.g,.int .i64 p.x,.int .i64 p.y,.int .i64 p.h]) none=mapF ePl (setP S x p)
 | []=>rfl
 | e :: L=>by
  have hs:=same_f (ePl.enc e) x
  have hx:(ePl.enc e).x=e.i:=rfl
  rw [hx] at hs
  show (if sameDM false (ePl.enc e) x 0=true then _ else _)=_
  unfold setP
  by_cases g:e.i=x
  ·rw [decide_eq_true g] at hs; rw [if_pos hs,if_pos g]; rfl
  ·rw [decide_eq_false g] at hs; rw [if_neg (by rw [hs]; simp),if_neg g]
   show ePl.enc e :: updDM false (mapF ePl L) x 0 _ none=ePl.enc e :: mapF ePl (setP L x p)
   rw [updDM_Q x p L]
def scO (S:List SE) (x:Int):List CC:=match lkS S x with | some s=>s.l | none=>[]
def plO (Q:List QE) (x:Int):PL:=match lkP Q x with | some q=>q.p | none=>⟨0,false,0,0,0⟩
def okS (S:List SE):Prop:=∀ s∈S,scnB s.l=true∧idB s.i=true
def okQ (Q:List QE):Prop:=∀ q∈Q,plB q.p=true∧idB q.i=true
def putE (id:Int) (s:List CC):Int:=if scnB s=false then 1 else if idB id=false then 2 else 0
def plcE (id:Int) (p:PL):Int:=if plB p=false then 1 else if idB id=false then 2 else 0
def putL (S:List SE) (id:Int) (s:List CC) (V:Value):List SE:=if putE id s=0 then (match lkS S id with | some o=>if 0 < cmpS s o.l then setS S id V s else S | none=>setS S id V s) else S
def plcL (Q:List QE) (id:Int) (p:PL):List QE:=if plcE id p=0 then (match lkP Q id with | some o=>if 0 < cmpP p o.p then setP Q id p else Q | none=>setP Q id p) else Q
def idsL (S:List SE) (Q:List QE) (k:Nat):List Int:=((List.range k).filter fun i:Nat=>(lkS S (i:Int)).isSome || (lkP Q (i:Int)).isSome).map fun i=>((i:Nat):Int)
theorem lkS_mem {x:Int} {s:SE}:∀ {S:List SE},lkS S x=some s→s∈S∧s.i=x
 | a :: S,h=>by
  unfold lkS at h
  split at h
  ·rename_i g; cases h; exact ⟨by simp,g⟩
  ·obtain ⟨h1,h2⟩:=lkS_mem h; exact ⟨by simp [h1],h2⟩
theorem lkP_mem {x:Int} {s:QE}:∀ {S:List QE},lkP S x=some s→s∈S∧s.i=x
 | a :: S,h=>by
  unfold lkP at h
  split at h
  ·rename_i g; cases h; exact ⟨by simp,g⟩
  ·obtain ⟨h1,h2⟩:=lkP_mem h; exact ⟨by simp [h1],h2⟩
theorem idsL_succ (S:List SE) (Q:List QE) (k:Nat):idsL S Q (k+1)=if ((lkS S (k:Int)).isSome || (lkP Q (k:Int)).isSome)=true then idsL S Q k++[(k:Int)] else idsL S Q k:=by
 unfold idsL
 rw [List.range_succ,List.filter_append,List.map_append]
 split
 ·rename_i h; simp [h]
 ·rename_i h; simp [h]
theorem idsL_len (S:List SE) (Q:List QE) (k:Nat):(idsL S Q k).length≤k:=by
 unfold idsL
 rw [List.length_map]
 exact Nat.le_trans (List.length_filter_le _ _) (by simp)
section
variable {S:List SE} {Q:List QE} {id:Int} {s:List CC} {p:PL} {V:Value}
theorem putE_1 (h:scnB s=false):putE id s=1:=by unfold putE; rw [if_pos h]
theorem putE_2 (h:scnB s=true) (h2:idB id=false):putE id s=2:=by unfold putE; rw [if_neg (by rw [h]; simp),if_pos h2]
theorem putE_0 (h:scnB s=true) (h2:idB id=true):putE id s=0:=by unfold putE; rw [if_neg (by rw [h]; simp),if_neg (by rw [h2]; simp)]
theorem put_bad (h:putE id s≠0):putL S id s V=S:=by unfold putL; rw [if_neg h]
theorem put_new (h:putE id s=0) (hf:lkS S id=none):putL S id s V=setS S id V s:=by unfold putL; rw [if_pos h,hf]
theorem put_more {o:SE} (h:putE id s=0) (hf:lkS S id=some o) (hc:0 < cmpS s o.l):putL S id s V=setS S id V s:=by unfold putL; rw [if_pos h,hf]; exact if_pos hc
theorem put_keep {o:SE} (h:putE id s=0) (hf:lkS S id=some o) (hc:¬ 0 < cmpS s o.l):putL S id s V=S:=by unfold putL; rw [if_pos h,hf]; exact if_neg hc
theorem plcE_1 (h:plB p=false):plcE id p=1:=by unfold plcE; rw [if_pos h]
theorem plcE_2 (h:plB p=true) (h2:idB id=false):plcE id p=2:=by unfold plcE; rw [if_neg (by rw [h]; simp),if_pos h2]
theorem plcE_0 (h:plB p=true) (h2:idB id=true):plcE id p=0:=by unfold plcE; rw [if_neg (by rw [h]; simp),if_neg (by rw [h2]; simp)]
theorem plc_bad (h:plcE id p≠0):plcL Q id p=Q:=by unfold plcL; rw [if_neg h]
theorem plc_new (h:plcE id p=0) (hf:lkP Q id=none):plcL Q id p=setP Q id p:=by unfold plcL; rw [if_pos h,hf]
theorem plc_more {o:QE} (h:plcE id p=0) (hf:lkP Q id=some o) (hc:0 < cmpP p o.p):plcL Q id p=setP Q id p:=by unfold plcL; rw [if_pos h,hf]; exact if_pos hc
theorem plc_keep {o:QE} (h:plcE id p=0) (hf:lkP Q id=some o) (hc:¬ 0 < cmpP p o.p):plcL Q id p=Q:=by unfold plcL; rw [if_pos h,hf]; exact if_neg hc
end
def x7:XFn:=⟨5,(.seq (.reg false [K1 0 .mv (.pointer none)]) (.seq (.reg false [⟨(some 1),(.call 1050019),[],none⟩,⟨(some 2),(.call 1050035),[],none⟩,⟨(some 3),(.build [(.map none),(.map none)] [(0,1),(1,1)]),[(.t 1),(.t 2)],none⟩,O1 4 (.box 93) 3,O1 0 .mv 4]) .ret)),[(.s 0)]⟩
theorem x7_ok:xfn Tryz.prog Tryz.f7=some x7.er:=by kernel_rfl
def x39:XFn:=⟨43,(.seq (.reg false [K1 6 .mv (iV 0)]) (.seq (.seq (.reg false [O1 9 .mv 0,⟨(some 10),(.x (.eqP false)),[(.t 9),(.k (.pointer none))],none⟩,O1 11 .mv 10,G1 12 .mv 2 11 false,G1 13 (.call 74) 12 11 false,G1 14 (.un .not) 13 11 false,⟨(some 15),.pick,[(.t 11),(.k (.bool true)),(.t 14)],none⟩]) (.cond (.t 15) (.seq (.reg false [K1 6 .mv (iV 1)]) .ret) .skip)) (.seq (.seq (.reg false [O1 16 .mv 1,O1 17 (.call 75) 16,O1 18 (.un .not) 17]) (.cond (.t 18) (.seq (.reg false [K1 6 .mv (iV 2)]) .ret) .skip)) (.seq (.seq (.reg false [O1 20 .mv 0,O1 21 .nilc 20,O1 22 (.fld 0) 21,O1 23 .load1 22,O1 24 .mv 1,O2 25 (.call 1050016) 23 24,O1 19 .mv 25,O1 26 (.ext 0) 19,O1 27 (.ext 1) 19,O1 7 .mv 26,O1 8 .mv 27]) (.seq (.reg false [O1 28 .mv 8,O1 29 (.un .not) 28,O1 30 .mv 29,G1 31 .mv 2 30 false,G1 32 .mv 7 30 false,G2 33 (.call 76) 31 32 30 false,GK 34 (.bin .gtr) 33 (iV 0) 30 false,⟨(some 35),.pick,[(.t 30),(.k (.bool true)),(.t 34)],none⟩]) (.cond (.t 35) (.regD [O1 36 .mv 0,O1 37 .nilc 36,O1 38 (.fld 0) 37,O1 39 .load1 38,O1 40 .mv 1,O1 41 .mv 2,O1 42 (.call 43) 41,⟨none,(.call 1050018),[(.t 39),(.t 40),(.t 42)],none⟩] [[],[0],[1,0],[2,1,0],[],[],[5],[3,2,1,0,4,6,5]]) .skip))) (.seq (.reg false [K1 6 .mv (iV 0)]) .ret))))),[(.s 6)]⟩
theorem x39_ok:xfn Tryz.prog Tryz.f39=some x39.er:=by kernel_rfl
def x40:XFn:=⟨42,(.seq (.reg false [O1 5 (.box 32) 2,K1 6 .mv (iV 0)]) (.seq (.seq (.reg false [O1 9 .mv 0,⟨(some 10),(.x (.eqP false)),[(.t 9),(.k (.pointer none))],none⟩,O1 11 .mv 10,G1 12 (.loadN 5) 5 11 false,G1 13 (.call 77) 12 11 false,G1 14 (.un .not) 13 11 false,⟨(some 15),.pick,[(.t 11),(.k (.bool true)),(.t 14)],none⟩]) (.cond (.t 15) (.seq (.reg false [K1 6 .mv (iV 1)]) .ret) .skip)) (.seq (.seq (.reg false [O1 16 .mv 1,O1 17 (.call 75) 16,O1 18 (.un .not) 17]) (.cond (.t 18) (.seq (.reg false [K1 6 .mv (iV 2)]) .ret) .skip)) (.seq (.seq (.reg false [O1 20 .mv 0,O1 21 .nilc 20,O1 22 (.fld 1) 21,O1 23 .load1 22,O1 24 .mv 1,O2 25 (.call 1050032) 23 24,O1 19 .mv 25,O1 26 (.ext 0) 19,O1 27 (.ext 1) 19,⟨(some 7),(.alloc 32 [(iV 0),(.bool false),(iV 0),(iV 0),(iV 0)]),[],none⟩,⟨none,(.store 5),[(.t 7),(.t 26)],none⟩,O1 8 .mv 27]) (.seq (.reg false [O1 28 .mv 8,O1 29 (.un .not) 28,O1 30 .mv 29,G1 31 (.loadN 5) 5 30 false,G1 32 (.loadN 5) 7 30 false,G2 33 (.call 78) 31 32 30 false,GK 34 (.bin .gtr) 33 (iV 0) 30 false,⟨(some 35),.pick,[(.t 30),(.k (.bool true)),(.t 34)],none⟩]) (.cond (.t 35) (.regD [O1 36 .mv 0,O1 37 .nilc 36,O1 38 (.fld 1) 37,O1 39 .load1 38,O1 40 .mv 1,O1 41 (.loadN 5) 5,⟨none,(.call 1050034),[(.t 39),(.t 40),(.t 41)],none⟩] [[],[0],[1,0],[2,1,0],[],[],[3,2,1,0,4,5]]) .skip))) (.seq (.reg false [K1 6 .mv (iV 0)]) .ret))))),[(.s 6)]⟩
theorem x40_ok:xfn Tryz.prog Tryz.f40=some x40.er:=by kernel_rfl
def x12:XFn:=⟨22,(.seq (.reg false [K1 4 .mv (.slice none 0 0),K1 5 .mv (.bool false)]) (.seq (.seq (.reg false [O1 8 .mv 0,⟨(some 9),(.x (.eqP false)),[(.t 8),(.k (.pointer none))],none⟩]) (.cond (.t 9) (.seq (.reg false [K1 4 .mv (.slice none 0 0),K1 5 .mv (.bool false)]) .ret) .skip)) (.seq (.reg false [O1 11 .mv 0,O1 12 .nilc 11,O1 13 (.fld 0) 12,O1 14 .load1 13,O1 15 .mv 1,O2 16 (.call 1050016) 14 15,O1 10 .mv 16,O1 17 (.ext 0) 10,O1 18 (.ext 1) 10,O1 6 .mv 17,O1 7 .mv 18]) (.seq (.reg false [O1 19 .mv 6,O1 20 (.call 43) 19,O1 21 .mv 7,O1 4 .mv 20,O1 5 .mv 21]) .ret)))),[(.s 4),(.s 5)]⟩
theorem x12_ok:xfn Tryz.prog Tryz.f12=some x12.er:=by kernel_rfl
def x13:XFn:=⟨22,(.seq (.reg false [⟨(some 4),(.alloc 32 [(iV 0),(.bool false),(iV 0),(iV 0),(iV 0)]),[],none⟩,K1 5 .mv (.bool false)]) (.seq (.seq (.reg false [O1 8 .mv 0,⟨(some 9),(.x (.eqP false)),[(.t 8),(.k (.pointer none))],none⟩]) (.cond (.t 9) (.seq (.reg false [⟨(some 10),(.build [(iV 0),(.bool false),(iV 0),(iV 0),(iV 0)] []),[],none⟩,⟨none,(.store 5),[(.t 4),(.t 10)],none⟩,K1 5 .mv (.bool false)]) .ret) .skip)) (.seq (.reg false [O1 12 .mv 0,O1 13 .nilc 12,O1 14 (.fld 1) 13,O1 15 .load1 14,O1 16 .mv 1,O2 17 (.call 1050032) 15 16,O1 11 .mv 17,O1 18 (.ext 0) 11,O1 19 (.ext 1) 11,⟨(some 6),(.alloc 32 [(iV 0),(.bool false),(iV 0),(iV 0),(iV 0)]),[],none⟩,⟨none,(.store 5),[(.t 6),(.t 18)],none⟩,O1 7 .mv 19]) (.seq (.reg false [O1 20 (.loadN 5) 6,O1 21 .mv 7,⟨none,(.store 5),[(.t 4),(.t 20)],none⟩,O1 5 .mv 21]) .ret)))),[(.bn 4 5),(.s 5)]⟩
theorem x13_ok:xfn Tryz.prog Tryz.f13=some x13.er:=by kernel_rfl
def x11L0:XC:=(.seq (.reg false [K2 13 (.bin .lss) 12 (iV 64)]) (.seq (.cond (.t 13) .skip (.exit 0)) (.seq (.block 1 (.seq (.reg false [O1 14 .mv 12,O1 4 .mv 14]) (.seq (.reg false [O1 16 .mv 0,O1 17 .nilc 16,O1 18 (.fld 0) 17,O1 19 .load1 18,O1 20 .mv 4,O2 21 (.call 1050016) 19 20,O1 15 .mv 21,O1 22 (.ext 0) 15,O1 23 (.ext 1) 15,O1 5 .mv 22,O1 6 .mv 23]) (.seq (.reg false [O1 25 .mv 0,O1 26 .nilc 25,O1 27 (.fld 1) 26,O1 28 .load1 27,O1 29 .mv 4,O2 30 (.call 1050032) 28 29,O1 24 .mv 30,O1 31 (.ext 0) 24,O1 32 (.ext 1) 24,⟨(some 7),(.alloc 32 [(iV 0),(.bool false),(iV 0),(iV 0),(iV 0)]),[],none⟩,⟨none,(.store 5),[(.t 7),(.t 31)],none⟩,O1 8 .mv 32]) (.seq (.reg false [O1 33 .mv 6,O1 34 .mv 33,G1 35 .mv 8 34 false,⟨(some 36),.pick,[(.t 34),(.k (.bool true)),(.t 35)],none⟩]) (.cond (.t 36) (.reg false [O1 37 .mv 3,O1 38 .mv 4,⟨(some 39),(.slit 3 1 1 [(iV 0)] [(0,1)]),[(.t 38)],none⟩,O2 40 (.app 3 1 8) 37 39,O1 3 .mv 40]) .skip)))))) (.reg false [K2 41 (.bin .add) 12 (iV 1),O1 12 .mv 41]))))
def x11:XFn:=⟨43,(.seq (.reg false [K1 2 .mv (.slice none 0 0)]) (.seq (.reg false [K1 3 .mv (.slice none 0 0)]) (.seq (.seq (.reg false [O1 9 .mv 0,⟨(some 10),(.x (.eqP false)),[(.t 9),(.k (.pointer none))],none⟩]) (.cond (.t 10) (.seq (.reg false [O1 11 .mv 3,O1 2 .mv 11]) .ret) .skip)) (.seq (.seq (.reg false [K1 12 .mv (iV 0)]) (.block 0 (.loop x11L0))) (.seq (.reg false [O1 42 .mv 3,O1 2 .mv 42]) .ret))))),[(.s 2)]⟩
theorem x11_ok:xfn Tryz.prog Tryz.f11=some x11.er:=by kernel_rfl
theorem mt90:mapT Tryz.prog 90=some (false,(.slice none 0 0)):=by kernel_rfl
def g1050016:Con:=lookCon true false (.slice none 0 0)
theorem c1050016:COk Tryz.prog 1050016 g1050016:=cok_lookO (t:=90) mt90
def g1050018:Con:=updCon false
theorem c1050018:COk Tryz.prog 1050018 g1050018:=cok_upd (t:=90) mt90
def g1050019:Con:=mkmCon false
theorem c1050019:COk Tryz.prog 1050019 g1050019:=cok_mkm (t:=90) mt90
theorem mt91:mapT Tryz.prog 91=some (false,(.agg #[.int .i64 0,.bool false,.int .i64 0,.int .i64 0,.int .i64 0])):=by kernel_rfl
def g1050032:Con:=lookCon true false (.agg #[.int .i64 0,.bool false,.int .i64 0,.int .i64 0,.int .i64 0])
theorem c1050032:COk Tryz.prog 1050032 g1050032:=cok_lookO (t:=91) mt91
def g1050034:Con:=updCon false
theorem c1050034:COk Tryz.prog 1050034 g1050034:=cok_upd (t:=91) mt91
def g1050035:Con:=mkmCon false
theorem c1050035:COk Tryz.prog 1050035 g1050035:=cok_mkm (t:=91) mt91
def g43n:Con:=nilG g43
theorem c43n:COk Tryz.prog 43 g43n:=cok_nilG c43
def g7:Con:=fun args_ E_ nn_=>match args_ with
 | []=>some (.e (True) (.o (.c (.p (nn_+2) 0))) [((nn_+0),.dm false []),((nn_+1),.dm false []),((nn_+2),.box [.n (nn_+0),.n (nn_+1)] 93)] (nn_+3))
 | _=>none
theorem c7:COk Tryz.prog 7 g7:=by
 refine cok_d Tryz.func7 x7_ok (by kernel_rfl) (cok_tab (cok_cons c1050019 (cok_cons c1050035 cok_nil))) ?_
 intro args_ E_ nn_ cr_ hg_
 unfold g7 at hg_
 split at hg_
 ·skip
  cases hg_
  refine ⟨_,_,_,_,rfl,0,[],[],[],.o (.c (.p 2 0)),[(0,.dm false []),(1,.dm false []),(2,.box [.n 0,.n 1] 93)],3,rfl,rfl,by simp only [renE,Ent.ren,rowF_renf]<;>rfl,rfl,by decide,and4 (by simp only [push_cast,Nat.reduceLT,Nat.reduceAdd]) ⟨rfl,trivial,by simp only [keysNodup,outN,keys]<;>decide,rfl,.inr trivial,?_⟩⟩
  intro hpre hlen
  refine ⟨trivial,by simp only [apartE]<;>(first | trivial | (simp [Ent.mut]; done)),?_⟩
  simp (maxSteps:=9999999) only [x7,push_cast,simprocAttr,g1050019,g1050035]
 ·cases hg_
def g12:Con:=fun args_ E_ nn_=>match args_ with
 | [.c (.p a 0),.c (.v (.int .i64 id))]=>(match E_ a with
  | some (.box [.n a_scans,.n a_places] a_ty)=>(match E_ a_scans with
  | some (.dm a_scans_k a_scans_l)=>(match E_ a_places with
  | some (.dm a_places_k a_places_l)=>some (.e (isM eSc a_scans_k a_scans_l∧isM ePl a_places_k a_places_l∧a≠a_scans∧a≠a_places∧a_scans≠a_places∧okS (decM eSc a_scans_l)) (.t [.c (.n (nn_+0)),.c (.v (.bool ((lkS (decM eSc a_scans_l) id).isSome)))]) [((nn_+0),.own (scO (decM eSc a_scans_l) id).length 2 (rowF eC (scO (decM eSc a_scans_l) id)) 89),(a,.box [.n a_scans,.n a_places] a_ty),(a_scans,.dm false (mapF eSc ((decM eSc a_scans_l)))),(a_places,.dm false (mapF ePl ((decM ePl a_places_l))))] (nn_+1))
  | _=>none)
  | _=>none)
  | _=>none)
 | _=>none
theorem c12:COk Tryz.prog 12 g12:=by
 refine cok_d Tryz.func12 x12_ok (by kernel_rfl) (cok_tab (cok_cons c1050016 (cok_cons c43n cok_nil))) ?_
 intro args_ E_ nn_ cr_ hg_
 unfold g12 at hg_
 split at hg_
 ·rename_i a id
  split at hg_
  ·rename_i a_scans a_places a_ty h_a
   split at hg_
   ·rename_i a_scans_k a_scans_l h_a_scans
    split at hg_
    ·rename_i a_places_k a_places_l h_a_places
     cases hg_
     refine ⟨_,_,_,_,rfl,3,[a,a_scans,a_places],[.c (.p 0 0),.c (.v (.int .i64 id))],[(0,.box [.n 1,.n 2] a_ty),(1,.dm eSc.k (mapF eSc (decM eSc a_scans_l))),(2,.dm ePl.k (mapF ePl (decM ePl a_places_l)))],.t [.c (.n 3),.c (.v (.bool ((lkS (decM eSc a_scans_l) id).isSome)))],[(3,.own (scO (decM eSc a_scans_l) id).length 2 (rowF eC (scO (decM eSc a_scans_l) id)) 89),(0,.box [.n 1,.n 2] a_ty),(1,.dm false (mapF eSc ((decM eSc a_scans_l)))),(2,.dm false (mapF ePl ((decM ePl a_places_l))))],4,rfl,rfl,by simp only [renE,Ent.ren,rowF_renf]<;>rfl,rfl,by decide,and4 (by simp only [push_cast,Nat.reduceLT,Nat.reduceAdd]) ⟨rfl,⟨⟨_,h_a⟩,⟨_,h_a_scans⟩,⟨_,h_a_places⟩,trivial⟩,by simp only [keysNodup,outN,keys]<;>decide,rfl,.inr ⟨.inl rfl,.inl rfl,.inl rfl,trivial⟩,?_⟩⟩
     intro hpre hlen
     obtain ⟨i_a_scans,hpre⟩:=hpre
     obtain ⟨i_a_places,hpre⟩:=hpre
     obtain ⟨n_a_a_scans,hpre⟩:=hpre
     obtain ⟨n_a_a_places,hpre⟩:=hpre
     obtain ⟨n_a_scans_a_places,hpre⟩:=hpre
     have hap:apartE (sg 3 nn_ [a,a_scans,a_places]) [(0,.box [.n 1,.n 2] a_ty),(1,.dm eSc.k (mapF eSc (decM eSc a_scans_l))),(2,.dm ePl.k (mapF ePl (decM ePl a_places_l)))] [(0,.box [.n 1,.n 2] a_ty),(1,.dm eSc.k (mapF eSc (decM eSc a_scans_l))),(2,.dm ePl.k (mapF ePl (decM ePl a_places_l)))]:=by
      refine ⟨fun _ k2 e2 hm hne=>?_,?_⟩
      ·simp only [List.mem_cons,List.not_mem_nil,or_false,Prod.mk.injEq] at hm
       rcases hm with ⟨rfl,_⟩ | ⟨rfl,_⟩ | ⟨rfl,_⟩
       ·exact absurd rfl hne
       ·exact fun hh=>n_a_a_scans (Eq.symm (show a_scans=a from hh))
       ·exact fun hh=>n_a_a_places (Eq.symm (show a_places=a from hh))
      refine ⟨fun _ k2 e2 hm hne=>?_,?_⟩
      ·simp only [List.mem_cons,List.not_mem_nil,or_false,Prod.mk.injEq] at hm
       rcases hm with ⟨rfl,_⟩ | ⟨rfl,_⟩ | ⟨rfl,_⟩
       ·exact fun hh=>n_a_a_scans (show a=a_scans from hh)
       ·exact absurd rfl hne
       ·exact fun hh=>n_a_scans_a_places (Eq.symm (show a_places=a_scans from hh))
      refine ⟨fun _ k2 e2 hm hne=>?_,?_⟩
      ·simp only [List.mem_cons,List.not_mem_nil,or_false,Prod.mk.injEq] at hm
       rcases hm with ⟨rfl,_⟩ | ⟨rfl,_⟩ | ⟨rfl,_⟩
       ·exact fun hh=>n_a_a_places (show a=a_places from hh)
       ·exact fun hh=>n_a_scans_a_places (show a_scans=a_places from hh)
       ·exact absurd rfl hne
      trivial
     refine ⟨⟨⟨_,h_a,by simp only [leE,mapEq,SC.ren,and_true,true_and,and_self]<;>first | rfl | exact ⟨rfl,rfl⟩⟩,⟨_,h_a_scans,isM_le i_a_scans⟩,⟨_,h_a_places,isM_le i_a_places⟩,trivial⟩,hap,?_⟩
     clear i_a_scans
     generalize decM eSc a_scans_l=a_scansL at *
     clear i_a_places
     generalize decM ePl a_places_l=a_placesL at *
     clear h_a_scans
     clear h_a_places
     have hd:=findDM_S id a_scansL
     cases hf:lkS a_scansL id with
     | none=>
      rw [hf] at hd
      simp only [Option.map_none] at hd
      simp (maxSteps:=9999999) only [x12,push_cast,simprocAttr,g1050016,g43n,g43,hd]
      have hs:scO a_scansL id=[]:=by unfold scO; rw [hf]
      rw [hs]
      exact ⟨rfl,rfl,(rowEq_rowF _ _ _ _).2 trivial⟩
     | some s=>
      rw [hf] at hd
      simp only [Option.map_some] at hd
      simp (maxSteps:=9999999) only [x12,push_cast,simprocAttr,g1050016,g43n,g43,hd]
      have hs:scO a_scansL id=s.l:=by unfold scO; rw [hf]
      rw [hs]
      exact ⟨by have:=(scn_get (hpre _ (lkS_mem hf).1).1).1; omega,rfl,rfl,(rowEq_rowF _ _ _ _).2 trivial⟩
    ·cases hg_
   ·cases hg_
  ·cases hg_
 ·cases hg_
def g13:Con:=fun args_ E_ nn_=>match args_ with
 | [.c (.p a 0),.c (.v (.int .i64 id))]=>(match E_ a with
  | some (.box [.n a_scans,.n a_places] a_ty)=>(match E_ a_scans with
  | some (.dm a_scans_k a_scans_l)=>(match E_ a_places with
  | some (.dm a_places_k a_places_l)=>some (.e (isM eSc a_scans_k a_scans_l∧isM ePl a_places_k a_places_l∧a≠a_scans∧a≠a_places∧a_scans≠a_places∧True) (.t [.a [.v (.int .i64 (plO (decM ePl a_places_l) id).v),.v (.bool (plO (decM ePl a_places_l) id).g),.v (.int .i64 (plO (decM ePl a_places_l) id).x),.v (.int .i64 (plO (decM ePl a_places_l) id).y),.v (.int .i64 (plO (decM ePl a_places_l) id).h)],.c (.v (.bool ((lkP (decM ePl a_places_l) id).isSome)))]) [(a,.box [.n a_scans,.n a_places] a_ty),(a_scans,.dm false (mapF eSc ((decM eSc a_scans_l)))),(a_places,.dm false (mapF ePl ((decM ePl a_places_l))))] (nn_+0))
  | _=>none)
  | _=>none)
  | _=>none)
 | _=>none
theorem c13:COk Tryz.prog 13 g13:=by
 refine cok_d Tryz.func13 x13_ok (by kernel_rfl) (cok_tab (cok_cons c1050032 cok_nil)) ?_
 intro args_ E_ nn_ cr_ hg_
 unfold g13 at hg_
 split at hg_
 ·rename_i a id
  split at hg_
  ·rename_i a_scans a_places a_ty h_a
   split at hg_
   ·rename_i a_scans_k a_scans_l h_a_scans
    split at hg_
    ·rename_i a_places_k a_places_l h_a_places
     cases hg_
     refine ⟨_,_,_,_,rfl,3,[a,a_scans,a_places],[.c (.p 0 0),.c (.v (.int .i64 id))],[(0,.box [.n 1,.n 2] a_ty),(1,.dm eSc.k (mapF eSc (decM eSc a_scans_l))),(2,.dm ePl.k (mapF ePl (decM ePl a_places_l)))],.t [.a [.v (.int .i64 (plO (decM ePl a_places_l) id).v),.v (.bool (plO (decM ePl a_places_l) id).g),.v (.int .i64 (plO (decM ePl a_places_l) id).x),.v (.int .i64 (plO (decM ePl a_places_l) id).y),.v (.int .i64 (plO (decM ePl a_places_l) id).h)],.c (.v (.bool ((lkP (decM ePl a_places_l) id).isSome)))],[(0,.box [.n 1,.n 2] a_ty),(1,.dm false (mapF eSc ((decM eSc a_scans_l)))),(2,.dm false (mapF ePl ((decM ePl a_places_l))))],3,rfl,rfl,by simp only [renE,Ent.ren,rowF_renf]<;>rfl,rfl,by decide,and4 (by simp only [push_cast,Nat.reduceLT,Nat.reduceAdd]) ⟨rfl,⟨⟨_,h_a⟩,⟨_,h_a_scans⟩,⟨_,h_a_places⟩,trivial⟩,by simp only [keysNodup,outN,keys]<;>decide,rfl,.inr ⟨.inl rfl,.inl rfl,.inl rfl,trivial⟩,?_⟩⟩
     intro hpre hlen
     obtain ⟨i_a_scans,hpre⟩:=hpre
     obtain ⟨i_a_places,hpre⟩:=hpre
     obtain ⟨n_a_a_scans,hpre⟩:=hpre
     obtain ⟨n_a_a_places,hpre⟩:=hpre
     obtain ⟨n_a_scans_a_places,hpre⟩:=hpre
     have hap:apartE (sg 3 nn_ [a,a_scans,a_places]) [(0,.box [.n 1,.n 2] a_ty),(1,.dm eSc.k (mapF eSc (decM eSc a_scans_l))),(2,.dm ePl.k (mapF ePl (decM ePl a_places_l)))] [(0,.box [.n 1,.n 2] a_ty),(1,.dm eSc.k (mapF eSc (decM eSc a_scans_l))),(2,.dm ePl.k (mapF ePl (decM ePl a_places_l)))]:=by
      refine ⟨fun _ k2 e2 hm hne=>?_,?_⟩
      ·simp only [List.mem_cons,List.not_mem_nil,or_false,Prod.mk.injEq] at hm
       rcases hm with ⟨rfl,_⟩ | ⟨rfl,_⟩ | ⟨rfl,_⟩
       ·exact absurd rfl hne
       ·exact fun hh=>n_a_a_scans (Eq.symm (show a_scans=a from hh))
       ·exact fun hh=>n_a_a_places (Eq.symm (show a_places=a from hh))
      refine ⟨fun _ k2 e2 hm hne=>?_,?_⟩
      ·simp only [List.mem_cons,List.not_mem_nil,or_false,Prod.mk.injEq] at hm
       rcases hm with ⟨rfl,_⟩ | ⟨rfl,_⟩ | ⟨rfl,_⟩
       ·exact fun hh=>n_a_a_scans (show a=a_scans from hh)
       ·exact absurd rfl hne
       ·exact fun hh=>n_a_scans_a_places (Eq.symm (show a_places=a_scans from hh))
      refine ⟨fun _ k2 e2 hm hne=>?_,?_⟩
      ·simp only [List.mem_cons,List.not_mem_nil,or_false,Prod.mk.injEq] at hm
       rcases hm with ⟨rfl,_⟩ | ⟨rfl,_⟩ | ⟨rfl,_⟩
       ·exact fun hh=>n_a_a_places (show a=a_places from hh)
       ·exact fun hh=>n_a_scans_a_places (show a_scans=a_places from hh)
       ·exact absurd rfl hne
      trivial
     refine ⟨⟨⟨_,h_a,by simp only [leE,mapEq,SC.ren,and_true,true_and,and_self]<;>first | rfl | exact ⟨rfl,rfl⟩⟩,⟨_,h_a_scans,isM_le i_a_scans⟩,⟨_,h_a_places,isM_le i_a_places⟩,trivial⟩,hap,?_⟩
     clear i_a_scans
     generalize decM eSc a_scans_l=a_scansL at *
     clear i_a_places
     generalize decM ePl a_places_l=a_placesL at *
     clear h_a_scans
     clear h_a_places
     have hd:=findDM_Q id a_placesL
     cases hf:lkP a_placesL id with
     | none=>
      rw [hf] at hd
      simp only [Option.map_none] at hd
      simp (maxSteps:=9999999) only [x13,push_cast,simprocAttr,g1050032,hd]
      have hs:plO a_placesL id=⟨0,false,0,0,0⟩:=by unfold plO; rw [hf]
      rw [hs]
      exact ⟨⟨rfl,rfl,rfl,rfl,rfl⟩,rfl⟩
     | some s=>
      rw [hf] at hd
      simp only [Option.map_some] at hd
      simp (maxSteps:=9999999) only [x13,push_cast,simprocAttr,g1050032,hd]
      have hs:plO a_placesL id=s.p:=by unfold plO; rw [hf]
      rw [hs]
      exact ⟨⟨rfl,rfl,rfl,rfl,rfl⟩,rfl⟩
    ·cases hg_
   ·cases hg_
  ·cases hg_
 ·cases hg_
def g40:Con:=fun args_ E_ nn_=>match args_ with
 | [.c (.p a 0),.c (.v (.int .i64 id)),.a [.v (.int .i64 p_Version),.v (.bool p_Gone),.v (.int .i64 p_Pose_X),.v (.int .i64 p_Pose_Y),.v (.int .i64 p_Pose_H)]]=>(match E_ a with
  | some (.box [.n a_scans,.n a_places] a_ty)=>(match E_ a_scans with
  | some (.dm a_scans_k a_scans_l)=>(match E_ a_places with
  | some (.dm a_places_k a_places_l)=>some (.e (isM eSc a_scans_k a_scans_l∧isM ePl a_places_k a_places_l∧a≠a_scans∧a≠a_places∧a_scans≠a_places∧True) (.o (.c (.v (.int .i64 (plcE id (⟨p_Version,p_Gone,p_Pose_X,p_Pose_Y,p_Pose_H⟩:PL)))))) [(a,.box [.n a_scans,.n a_places] a_ty),(a_scans,.dm false (mapF eSc ((decM eSc a_scans_l)))),(a_places,.dm false (mapF ePl (plcL (decM ePl a_places_l) id (⟨p_Version,p_Gone,p_Pose_X,p_Pose_Y,p_Pose_H⟩:PL))))] (nn_+0))
  | _=>none)
  | _=>none)
  | _=>none)
 | _=>none
theorem c40:COk Tryz.prog 40 g40:=by
 refine cok_d Tryz.func40 x40_ok (by kernel_rfl) (cok_tab (cok_cons c77 (cok_cons c75 (cok_cons c78 (cok_cons c1050032 (cok_cons c1050034 cok_nil)))))) ?_
 intro args_ E_ nn_ cr_ hg_
 unfold g40 at hg_
 split at hg_
 ·rename_i a id p_Version p_Gone p_Pose_X p_Pose_Y p_Pose_H
  split at hg_
  ·rename_i a_scans a_places a_ty h_a
   split at hg_
   ·rename_i a_scans_k a_scans_l h_a_scans
    split at hg_
    ·rename_i a_places_k a_places_l h_a_places
     cases hg_
     refine ⟨_,_,_,_,rfl,3,[a,a_scans,a_places],[.c (.p 0 0),.c (.v (.int .i64 id)),.a [.v (.int .i64 p_Version),.v (.bool p_Gone),.v (.int .i64 p_Pose_X),.v (.int .i64 p_Pose_Y),.v (.int .i64 p_Pose_H)]],[(0,.box [.n 1,.n 2] a_ty),(1,.dm eSc.k (mapF eSc (decM eSc a_scans_l))),(2,.dm ePl.k (mapF ePl (decM ePl a_places_l)))],.o (.c (.v (.int .i64 (plcE id (⟨p_Version,p_Gone,p_Pose_X,p_Pose_Y,p_Pose_H⟩:PL))))),[(0,.box [.n 1,.n 2] a_ty),(1,.dm false (mapF eSc ((decM eSc a_scans_l)))),(2,.dm false (mapF ePl (plcL (decM ePl a_places_l) id (⟨p_Version,p_Gone,p_Pose_X,p_Pose_Y,p_Pose_H⟩:PL))))],3,rfl,rfl,by simp only [renE,Ent.ren,rowF_renf]<;>rfl,rfl,by decide,and4 (by simp only [push_cast,Nat.reduceLT,Nat.reduceAdd]) ⟨rfl,⟨⟨_,h_a⟩,⟨_,h_a_scans⟩,⟨_,h_a_places⟩,trivial⟩,by simp only [keysNodup,outN,keys]<;>decide,rfl,.inr ⟨.inl rfl,.inl rfl,.inl rfl,trivial⟩,?_⟩⟩
     intro hpre hlen
     obtain ⟨i_a_scans,hpre⟩:=hpre
     obtain ⟨i_a_places,hpre⟩:=hpre
     obtain ⟨n_a_a_scans,hpre⟩:=hpre
     obtain ⟨n_a_a_places,hpre⟩:=hpre
     obtain ⟨n_a_scans_a_places,hpre⟩:=hpre
     have hap:apartE (sg 3 nn_ [a,a_scans,a_places]) [(0,.box [.n 1,.n 2] a_ty),(1,.dm eSc.k (mapF eSc (decM eSc a_scans_l))),(2,.dm ePl.k (mapF ePl (decM ePl a_places_l)))] [(0,.box [.n 1,.n 2] a_ty),(1,.dm eSc.k (mapF eSc (decM eSc a_scans_l))),(2,.dm ePl.k (mapF ePl (decM ePl a_places_l)))]:=by
      refine ⟨fun _ k2 e2 hm hne=>?_,?_⟩
      ·simp only [List.mem_cons,List.not_mem_nil,or_false,Prod.mk.injEq] at hm
       rcases hm with ⟨rfl,_⟩ | ⟨rfl,_⟩ | ⟨rfl,_⟩
       ·exact absurd rfl hne
       ·exact fun hh=>n_a_a_scans (Eq.symm (show a_scans=a from hh))
       ·exact fun hh=>n_a_a_places (Eq.symm (show a_places=a from hh))
      refine ⟨fun _ k2 e2 hm hne=>?_,?_⟩
      ·simp only [List.mem_cons,List.not_mem_nil,or_false,Prod.mk.injEq] at hm
       rcases hm with ⟨rfl,_⟩ | ⟨rfl,_⟩ | ⟨rfl,_⟩
       ·exact fun hh=>n_a_a_scans (show a=a_scans from hh)
       ·exact absurd rfl hne
       ·exact fun hh=>n_a_scans_a_places (Eq.symm (show a_places=a_scans from hh))
      refine ⟨fun _ k2 e2 hm hne=>?_,?_⟩
      ·simp only [List.mem_cons,List.not_mem_nil,or_false,Prod.mk.injEq] at hm
       rcases hm with ⟨rfl,_⟩ | ⟨rfl,_⟩ | ⟨rfl,_⟩
       ·exact fun hh=>n_a_a_places (show a=a_places from hh)
       ·exact fun hh=>n_a_scans_a_places (show a_scans=a_places from hh)
       ·exact absurd rfl hne
      trivial
     refine ⟨⟨⟨_,h_a,by simp only [leE,mapEq,SC.ren,and_true,true_and,and_self]<;>first | rfl | exact ⟨rfl,rfl⟩⟩,⟨_,h_a_scans,isM_le i_a_scans⟩,⟨_,h_a_places,isM_le i_a_places⟩,trivial⟩,hap,?_⟩
     clear i_a_scans
     generalize decM eSc a_scans_l=a_scansL at *
     clear i_a_places
     generalize decM ePl a_places_l=a_placesL at *
     clear h_a_scans
     clear h_a_places
     have hd:=findDM_Q id a_placesL
     cases hf:lkP a_placesL id with
     | none=>
      rw [hf] at hd
      simp only [Option.map_none] at hd
      simp (maxSteps:=9999999) only [x40,push_cast,simprocAttr,g77,g75,g78,g1050032,g1050034,hd]
      refine ⟨fun h=>⟨(plcE_1 h).symm,.inl (by rw [plc_bad (by rw [plcE_1 h]; decide)])⟩,fun h=>⟨fun h2=>⟨(plcE_2 h h2).symm,.inl (by rw [plc_bad (by rw [plcE_2 h h2]; decide)])⟩,fun h2=>⟨by rfl,(plcE_0 h h2).symm,.inl ?_⟩⟩⟩
      rw [plc_new (plcE_0 h h2) hf]
      exact (updDM_Q id (⟨p_Version,p_Gone,p_Pose_X,p_Pose_Y,p_Pose_H⟩:PL) a_placesL).symm
     | some s=>
      rw [hf] at hd
      simp only [Option.map_some] at hd
      simp (maxSteps:=9999999) only [x40,push_cast,simprocAttr,g77,g75,g78,g1050032,g1050034,hd]
      refine ⟨fun h=>⟨(plcE_1 h).symm,.inl (by rw [plc_bad (by rw [plcE_1 h]; decide)])⟩,fun h=>⟨fun h2=>⟨(plcE_2 h h2).symm,.inl (by rw [plc_bad (by rw [plcE_2 h h2]; decide)])⟩,fun h2=>⟨fun hc=>⟨by rfl,(plcE_0 h h2).symm,.inl ?_⟩,fun hc=>⟨(plcE_0 h h2).symm,.inl (by rw [plc_keep (plcE_0 h h2) hf hc])⟩⟩⟩⟩
      rw [plc_more (plcE_0 h h2) hf hc]
      exact (updDM_Q id (⟨p_Version,p_Gone,p_Pose_X,p_Pose_Y,p_Pose_H⟩:PL) a_placesL).symm
    ·cases hg_
   ·cases hg_
  ·cases hg_
 ·cases hg_
def g39:Con:=fun args_ E_ nn_=>match args_ with
 | [.c (.p a 0),.c (.v (.int .i64 id)),.c (.n s)]=>(match E_ a with
  | some (.box [.n a_scans,.n a_places] a_ty)=>(match rowOf E_ s with
  | some (s_n,s_s,s_f)=>(match E_ a_scans with
  | some (.dm a_scans_k a_scans_l)=>(match E_ a_places with
  | some (.dm a_places_k a_places_l)=>some (.d (isRow eC s_n s_s s_f∧isM eSc a_scans_k a_scans_l∧isM ePl a_places_k a_places_l∧a≠a_scans∧a≠a_places∧a_scans≠a_places∧okS (decM eSc a_scans_l)) (fun G_=>True) (fun G_=>.o (.c (.v (.int .i64 (putE id (decL eC s_n s_f)))))) (fun G_=>[(a,.box [.n a_scans,.n a_places] a_ty),(a_scans,.dm false (mapF eSc (putL (decM eSc a_scans_l) id (decL eC s_n s_f) (G_ 0 0)))),(a_places,.dm false (mapF ePl ((decM ePl a_places_l)))),(s,.ro ((decL eC s_n s_f)).length 2 (rowF eC ((decL eC s_n s_f))))]) (nn_+0))
  | _=>none)
  | _=>none)
  | none=>none)
  | _=>none)
 | _=>none
theorem c39:COk Tryz.prog 39 g39:=by
 refine cok_g Tryz.func39 x39_ok (by kernel_rfl) (cok_tab (cok_cons c74 (cok_cons c75 (cok_cons c76 (cok_cons c43 (cok_cons c1050016 (cok_cons c1050018 cok_nil))))))) ?_
 intro args_ E_ nn_ cr_ hg_
 unfold g39 at hg_
 split at hg_
 ·rename_i a id s
  split at hg_
  ·rename_i a_scans a_places a_ty h_a
   split at hg_
   ·rename_i s_n s_s s_f h_s
    split at hg_
    ·rename_i a_scans_k a_scans_l h_a_scans
     split at hg_
     ·rename_i a_places_k a_places_l h_a_places
      cases hg_
      refine ⟨_,_,_,_,_,rfl,4,[a,s,a_scans,a_places],[.c (.p 0 0),.c (.v (.int .i64 id)),.c (.n 1)],[(0,.box [.n 2,.n 3] a_ty),(1,.ro (decL eC s_n s_f).length eC.sz (rowF eC (decL eC s_n s_f))),(2,.dm eSc.k (mapF eSc (decM eSc a_scans_l))),(3,.dm ePl.k (mapF ePl (decM ePl a_places_l)))],(fun G_=>.o (.c (.v (.int .i64 (putE id (decL eC s_n s_f)))))),(fun G_=>[(0,.box [.n 2,.n 3] a_ty),(2,.dm false (mapF eSc (putL (decM eSc a_scans_l) id (decL eC s_n s_f) (G_ 0 0)))),(3,.dm false (mapF ePl ((decM ePl a_places_l)))),(1,.ro ((decL eC s_n s_f)).length 2 (rowF eC ((decL eC s_n s_f))))]),4,rfl,(fun _=>rfl),(fun _=>by simp only [renE,Ent.ren,renAl,rowF_renf]<;>rfl),rfl,by decide,by simp only [push_cast,Nat.reduceLT,Nat.reduceAdd],by simp only [push_cast,Nat.reduceLT,Nat.reduceAdd],(fun _=>by simp only [push_cast,Nat.reduceLT,Nat.reduceAdd]),(fun _=>by simp only [push_cast,Nat.reduceLT,Nat.reduceAdd]),rfl,⟨⟨_,h_a⟩,inE0_row h_s,⟨_,h_a_scans⟩,⟨_,h_a_places⟩,trivial⟩,(fun _=>by simp only [keysNodup,outN,keys]<;>decide),(fun _=>rfl),(fun _=>.inr ⟨.inl rfl,.inl rfl,.inl rfl,.inl rfl,trivial⟩),?_⟩
      intro hpre hlen
      obtain ⟨i_s,hpre⟩:=hpre
      obtain ⟨i_a_scans,hpre⟩:=hpre
      obtain ⟨i_a_places,hpre⟩:=hpre
      obtain ⟨n_a_a_scans,hpre⟩:=hpre
      obtain ⟨n_a_a_places,hpre⟩:=hpre
      obtain ⟨n_a_scans_a_places,hpre⟩:=hpre
      have hap:apartE (sg 4 nn_ [a,s,a_scans,a_places]) [(0,.box [.n 2,.n 3] a_ty),(1,.ro (decL eC s_n s_f).length eC.sz (rowF eC (decL eC s_n s_f))),(2,.dm eSc.k (mapF eSc (decM eSc a_scans_l))),(3,.dm ePl.k (mapF ePl (decM ePl a_places_l)))] [(0,.box [.n 2,.n 3] a_ty),(1,.ro (decL eC s_n s_f).length eC.sz (rowF eC (decL eC s_n s_f))),(2,.dm eSc.k (mapF eSc (decM eSc a_scans_l))),(3,.dm ePl.k (mapF ePl (decM ePl a_places_l)))]:=by
       refine ⟨fun _ k2 e2 hm hne=>?_,?_⟩
       ·simp only [List.mem_cons,List.not_mem_nil,or_false,Prod.mk.injEq] at hm
        rcases hm with ⟨rfl,_⟩ | ⟨rfl,_⟩ | ⟨rfl,_⟩ | ⟨rfl,_⟩
        ·exact absurd rfl hne
        ·exact fun hh=>by
          have hh2:s=a:=hh
          have hh3:=h_s
          rw [hh2] at hh3; unfold rowOf at hh3; rw [h_a] at hh3; cases hh3
        ·exact fun hh=>n_a_a_scans (Eq.symm (show a_scans=a from hh))
        ·exact fun hh=>n_a_a_places (Eq.symm (show a_places=a from hh))
       refine ⟨fun h=>by (cases h),?_⟩
       refine ⟨fun _ k2 e2 hm hne=>?_,?_⟩
       ·simp only [List.mem_cons,List.not_mem_nil,or_false,Prod.mk.injEq] at hm
        rcases hm with ⟨rfl,_⟩ | ⟨rfl,_⟩ | ⟨rfl,_⟩ | ⟨rfl,_⟩
        ·exact fun hh=>n_a_a_scans (show a=a_scans from hh)
        ·exact fun hh=>by
          have hh2:s=a_scans:=hh
          have hh3:=h_s
          rw [hh2] at hh3; unfold rowOf at hh3; rw [h_a_scans] at hh3; cases hh3
        ·exact absurd rfl hne
        ·exact fun hh=>n_a_scans_a_places (Eq.symm (show a_places=a_scans from hh))
       refine ⟨fun _ k2 e2 hm hne=>?_,?_⟩
       ·simp only [List.mem_cons,List.not_mem_nil,or_false,Prod.mk.injEq] at hm
        rcases hm with ⟨rfl,_⟩ | ⟨rfl,_⟩ | ⟨rfl,_⟩ | ⟨rfl,_⟩
        ·exact fun hh=>n_a_a_places (show a=a_places from hh)
        ·exact fun hh=>by
          have hh2:s=a_places:=hh
          have hh3:=h_s
          rw [hh2] at hh3; unfold rowOf at hh3; rw [h_a_places] at hh3; cases hh3
        ·exact fun hh=>n_a_scans_a_places (show a_scans=a_places from hh)
        ·exact absurd rfl hne
       trivial
      refine ⟨⟨⟨_,h_a,by simp only [leE,mapEq,SC.ren,and_true,true_and,and_self]<;>first | rfl | exact ⟨rfl,rfl⟩⟩,inE_row h_s i_s,⟨_,h_a_scans,isM_le i_a_scans⟩,⟨_,h_a_places,isM_le i_a_places⟩,trivial⟩,hap,?_⟩
      have z_s:=lens_row (E:=eC) hlen h_s
      clear i_s
      generalize decL eC s_n s_f=sL at *
      clear i_a_scans
      generalize decM eSc a_scans_l=a_scansL at *
      clear i_a_places
      generalize decM ePl a_places_l=a_placesL at *
      clear h_s
      clear h_a_scans
      clear h_a_places
      have hd:=findDM_S id a_scansL
      cases hf:lkS a_scansL id with
      | none=>
       rw [hf] at hd
       simp only [Option.map_none] at hd
       simp (maxSteps:=9999999) only [x39,push_cast,simprocAttr,g74,g75,g76,g43,g1050016,g1050018,hd]
       refine ⟨fun h=>⟨fun _ _=>.bool false,(putE_1 h).symm,.inl (by rw [put_bad (by rw [putE_1 h]; decide)])⟩,fun h=>⟨fun h2=>⟨fun _ _=>.bool false,(putE_2 h h2).symm,.inl (by rw [put_bad (by rw [putE_2 h h2]; decide)])⟩,fun h2=>?_⟩⟩
       exact ⟨by have:=(scn_get h).1; omega,by rfl,by rfl,fun G=>⟨by rfl,G,(putE_0 h h2).symm,.inl (by rw [put_new (putE_0 h h2) hf]; exact (updDM_S id (G 0 0) sL a_scansL).symm)⟩⟩
      | some s=>
       rw [hf] at hd
       simp only [Option.map_some] at hd
       simp (maxSteps:=9999999) only [x39,push_cast,simprocAttr,g74,g75,g76,g43,g1050016,g1050018,hd]
       refine ⟨fun h=>⟨fun _ _=>.bool false,(putE_1 h).symm,.inl (by rw [put_bad (by rw [putE_1 h]; decide)])⟩,fun h=>⟨fun h2=>⟨fun _ _=>.bool false,(putE_2 h h2).symm,.inl (by rw [put_bad (by rw [putE_2 h h2]; decide)])⟩,fun h2=>?_⟩⟩
       exact ⟨fun hc=>⟨by have:=(scn_get h).1; omega,by rfl,by rfl,fun G=>⟨by rfl,G,(putE_0 h h2).symm,.inl (by rw [put_more (putE_0 h h2) hf hc]; exact (updDM_S id (G 0 0) sL a_scansL).symm)⟩⟩,fun hc=>⟨fun _ _=>.bool false,(putE_0 h h2).symm,.inl (by rw [put_keep (putE_0 h h2) hf hc])⟩⟩
     ·cases hg_
    ·cases hg_
   ·cases hg_
  ·cases hg_
 ·cases hg_
def g11:Con:=fun args_ E_ nn_=>match args_ with
 | [.c (.p a 0)]=>(match E_ a with
  | some (.box [.n a_scans,.n a_places] a_ty)=>(match E_ a_scans with
  | some (.dm a_scans_k a_scans_l)=>(match E_ a_places with
  | some (.dm a_places_k a_places_l)=>some (.e (isM eSc a_scans_k a_scans_l∧isM ePl a_places_k a_places_l∧a≠a_scans∧a≠a_places∧a_scans≠a_places∧True) (.o (.c (.n (nn_+0)))) [((nn_+0),.own (idsL (decM eSc a_scans_l) (decM ePl a_places_l) 64).length 1 (rowF eI (idsL (decM eSc a_scans_l) (decM ePl a_places_l) 64)) 3),(a,.box [.n a_scans,.n a_places] a_ty),(a_scans,.dm false (mapF eSc ((decM eSc a_scans_l)))),(a_places,.dm false (mapF ePl ((decM ePl a_places_l))))] (nn_+1))
  | _=>none)
  | _=>none)
  | _=>none)
 | _=>none
theorem c11:COk Tryz.prog 11 g11:=by
 refine cok_d Tryz.func11 x11_ok (by kernel_rfl) (cok_tab (cok_cons c1050016 (cok_cons c1050032 cok_nil))) ?_
 intro args_ E_ nn_ cr_ hg_
 unfold g11 at hg_
 split at hg_
 ·rename_i a
  split at hg_
  ·rename_i a_scans a_places a_ty h_a
   split at hg_
   ·rename_i a_scans_k a_scans_l h_a_scans
    split at hg_
    ·rename_i a_places_k a_places_l h_a_places
     cases hg_
     refine ⟨_,_,_,_,rfl,3,[a,a_scans,a_places],[.c (.p 0 0)],[(0,.box [.n 1,.n 2] a_ty),(1,.dm eSc.k (mapF eSc (decM eSc a_scans_l))),(2,.dm ePl.k (mapF ePl (decM ePl a_places_l)))],.o (.c (.n 3)),[(3,.own (idsL (decM eSc a_scans_l) (decM ePl a_places_l) 64).length 1 (rowF eI (idsL (decM eSc a_scans_l) (decM ePl a_places_l) 64)) 3),(0,.box [.n 1,.n 2] a_ty),(1,.dm false (mapF eSc ((decM eSc a_scans_l)))),(2,.dm false (mapF ePl ((decM ePl a_places_l))))],4,rfl,rfl,by simp only [renE,Ent.ren,rowF_renf]<;>rfl,rfl,by decide,and4 (by simp only [push_cast,Nat.reduceLT,Nat.reduceAdd]) ⟨rfl,⟨⟨_,h_a⟩,⟨_,h_a_scans⟩,⟨_,h_a_places⟩,trivial⟩,by simp only [keysNodup,outN,keys]<;>decide,rfl,.inr ⟨.inl rfl,.inl rfl,.inl rfl,trivial⟩,?_⟩⟩
     intro hpre hlen
     obtain ⟨i_a_scans,hpre⟩:=hpre
     obtain ⟨i_a_places,hpre⟩:=hpre
     obtain ⟨n_a_a_scans,hpre⟩:=hpre
     obtain ⟨n_a_a_places,hpre⟩:=hpre
     obtain ⟨n_a_scans_a_places,hpre⟩:=hpre
     have hap:apartE (sg 3 nn_ [a,a_scans,a_places]) [(0,.box [.n 1,.n 2] a_ty),(1,.dm eSc.k (mapF eSc (decM eSc a_scans_l))),(2,.dm ePl.k (mapF ePl (decM ePl a_places_l)))] [(0,.box [.n 1,.n 2] a_ty),(1,.dm eSc.k (mapF eSc (decM eSc a_scans_l))),(2,.dm ePl.k (mapF ePl (decM ePl a_places_l)))]:=by
      refine ⟨fun _ k2 e2 hm hne=>?_,?_⟩
      ·simp only [List.mem_cons,List.not_mem_nil,or_false,Prod.mk.injEq] at hm
       rcases hm with ⟨rfl,_⟩ | ⟨rfl,_⟩ | ⟨rfl,_⟩
       ·exact absurd rfl hne
       ·exact fun hh=>n_a_a_scans (Eq.symm (show a_scans=a from hh))
       ·exact fun hh=>n_a_a_places (Eq.symm (show a_places=a from hh))
      refine ⟨fun _ k2 e2 hm hne=>?_,?_⟩
      ·simp only [List.mem_cons,List.not_mem_nil,or_false,Prod.mk.injEq] at hm
       rcases hm with ⟨rfl,_⟩ | ⟨rfl,_⟩ | ⟨rfl,_⟩
       ·exact fun hh=>n_a_a_scans (show a=a_scans from hh)
       ·exact absurd rfl hne
       ·exact fun hh=>n_a_scans_a_places (Eq.symm (show a_places=a_scans from hh))
      refine ⟨fun _ k2 e2 hm hne=>?_,?_⟩
      ·simp only [List.mem_cons,List.not_mem_nil,or_false,Prod.mk.injEq] at hm
       rcases hm with ⟨rfl,_⟩ | ⟨rfl,_⟩ | ⟨rfl,_⟩
       ·exact fun hh=>n_a_a_places (show a=a_places from hh)
       ·exact fun hh=>n_a_scans_a_places (show a_scans=a_places from hh)
       ·exact absurd rfl hne
      trivial
     refine ⟨⟨⟨_,h_a,by simp only [leE,mapEq,SC.ren,and_true,true_and,and_self]<;>first | rfl | exact ⟨rfl,rfl⟩⟩,⟨_,h_a_scans,isM_le i_a_scans⟩,⟨_,h_a_places,isM_le i_a_places⟩,trivial⟩,hap,?_⟩
     clear i_a_scans
     generalize decM eSc a_scans_l=a_scansL at *
     clear i_a_places
     generalize decM ePl a_places_l=a_placesL at *
     clear h_a_scans
     clear h_a_places
     simp (maxSteps:=9999999) only [x11,push_cast,simprocAttr,g1050016,g1050032]
     refine vcLoop_upd (α:={k:Nat // k≤64}) [0] 1 (fun s=>[(3,.o (.c (.n 3))),(12,.o (.c (.v (.int .i64 (s.1:Nat)))))]) (fun s=>[(3,.own (idsL a_scansL a_placesL s.1).length 1 (rowF eI (idsL a_scansL a_placesL s.1)) 3),(0,.box [.n 1,.n 2] a_ty),(1,.dm false (mapF eSc (a_scansL))),(2,.dm false (mapF ePl (a_placesL)))]) (fun s=>64 - s.1) ⟨0,by omega⟩ ?_ ?_
     ·simp only [push_cast,simprocAttr,g1050016,g1050032]
      rfl
     rintro ⟨k,hk⟩
     have hl:=idsL_len a_scansL a_placesL k
     have hs:=idsL_succ a_scansL a_placesL k
     have hd1:=findDM_S (k:Int) a_scansL
     have hd2:=findDM_Q (k:Int) a_placesL
     cases hf1:lkS a_scansL (k:Int) with
     | none=>
      cases hf2:lkP a_placesL (k:Int) with
      | none=>
       rw [hf1] at hd1 hs; rw [hf2] at hd2 hs
       simp only [Option.map_none,Option.map_some] at hd1 hd2
       simp only [x11L0,push_cast,simprocAttr,g1050016,g1050032,hd1,hd2]
       have hs:idsL a_scansL a_placesL (k+1)=idsL a_scansL a_placesL k:=by rw [hs,if_neg (by simp)]
       refine ⟨fun h=>⟨⟨k+1,by omega⟩,⟨wrapI (by omega) (by omega),same_eq hs⟩,by simp only; omega⟩,fun h=>?_⟩
       obtain rfl:k=64:=by omega
       exact ⟨rfl,(rowEq_rowF _ _ _ _).2 trivial⟩
      | some w=>
       rw [hf1] at hd1 hs; rw [hf2] at hd2 hs
       simp only [Option.map_none,Option.map_some] at hd1 hd2
       simp only [x11L0,push_cast,simprocAttr,g1050016,g1050032,hd1,hd2]
       have hs:idsL a_scansL a_placesL (k+1)=idsL a_scansL a_placesL k++[(k:Int)]:=by rw [hs,if_pos (by simp)]
       refine ⟨fun h=>⟨by omega,⟨k+1,by omega⟩,⟨wrapI (by omega) (by omega),push_eq (E:=eI) (x:=(k:Int)) hs⟩,by simp only; omega⟩,fun h=>?_⟩
       obtain rfl:k=64:=by omega
       exact ⟨rfl,(rowEq_rowF _ _ _ _).2 trivial⟩
     | some u=>
      cases hf2:lkP a_placesL (k:Int) with
      | none=>
       rw [hf1] at hd1 hs; rw [hf2] at hd2 hs
       simp only [Option.map_none,Option.map_some] at hd1 hd2
       simp only [x11L0,push_cast,simprocAttr,g1050016,g1050032,hd1,hd2]
       have hs:idsL a_scansL a_placesL (k+1)=idsL a_scansL a_placesL k++[(k:Int)]:=by rw [hs,if_pos (by simp)]
       refine ⟨fun h=>⟨by omega,⟨k+1,by omega⟩,⟨wrapI (by omega) (by omega),push_eq (E:=eI) (x:=(k:Int)) hs⟩,by simp only; omega⟩,fun h=>?_⟩
       obtain rfl:k=64:=by omega
       exact ⟨rfl,(rowEq_rowF _ _ _ _).2 trivial⟩
      | some w=>
       rw [hf1] at hd1 hs; rw [hf2] at hd2 hs
       simp only [Option.map_none,Option.map_some] at hd1 hd2
       simp only [x11L0,push_cast,simprocAttr,g1050016,g1050032,hd1,hd2]
       have hs:idsL a_scansL a_placesL (k+1)=idsL a_scansL a_placesL k++[(k:Int)]:=by rw [hs,if_pos (by simp)]
       refine ⟨fun h=>⟨by omega,⟨k+1,by omega⟩,⟨wrapI (by omega) (by omega),push_eq (E:=eI) (x:=(k:Int)) hs⟩,by simp only; omega⟩,fun h=>?_⟩
       obtain rfl:k=64:=by omega
       exact ⟨rfl,(rowEq_rowF _ _ _ _).2 trivial⟩
    ·cases hg_
   ·cases hg_
  ·cases hg_
 ·cases hg_
end Go.Proofs.YtgpbokembopapaaGreat
