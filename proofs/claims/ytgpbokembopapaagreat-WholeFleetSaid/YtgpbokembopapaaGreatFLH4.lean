/- A part of the proof of a statement about this seat: how a function is stepped through, and plain laws. No conditions. -/
import Derived.Test.YtgpbokembopapaaGreatRows
import Derived.Test.YtgpbokembopapaaGreatFLSz4
import Derived.Test.YtgpbokembopapaaGreatFLH3
import Derived.KernelRfl
set_option linter.unusedVariables false
set_option linter.unusedSimpArgs false
set_option maxRecDepth 20000
namespace Go.Proofs.YtgpbokembopapaaGreat
open Go.Sx Go.Way
def x28L0:XC:=(.seq (.reg false [K2 20 (.bin .lss) 19 (iV 8)]) (.seq (.cond (.t 20) .skip (.exit 0)) (.seq (.block 1 (.seq (.reg false [O1 21 .mv 19,O2 22 (.ix1 8 1) 18 19,O1 5 .mv 21,O1 6 .mv 22]) (.gst (.gsa (.reg false [O1 23 .mv 6,O1 24 .mv 1,O1 25 .mv 5,O1 26 .nilc 24,O1 27 (.fld 1) 26,O2 28 (.ixA 8 1) 27 25,O1 29 .load1 28,O2 30 (.call 9) 23 29]))))) (.reg false [K2 31 (.bin .add) 19 (iV 1),O1 19 .mv 31]))))
def x28L1:XC:=(.seq (.reg false [O2 36 (.bin .lss) 35 34]) (.seq (.cond (.t 36) .skip (.exit 2)) (.seq (.block 3 (.seq (.reg false [O2 37 (.ixS 5) 33 35,O1 38 (.loadN 5) 37,⟨(some 8),(.alloc 70 [(iV 0),(iV 0),(iV 0),(iV 0),(iV 0)]),[],none⟩,⟨none,(.store 5),[(.t 8),(.t 38)],none⟩]) (.reg false [O1 39 .mv 0,O1 40 (.loadN 5) 8,O2 41 (.call 63) 39 40]))) (.reg false [K2 42 (.bin .add) 35 (iV 1),O1 35 .mv 42]))))
def x28:XFn:=⟨43,(.seq (.reg false [K1 4 .mv (iV 0)]) (.seq (.seq (.reg false [O1 9 .mv 0,⟨(some 10),(.x (.eqP false)),[(.t 9),(.k (.pointer none))],none⟩,O1 11 .mv 10,G1 12 .mv 1 11 false,⟨(some 13),(.x (.eqP false)),[(.t 12),(.k (.pointer none))],(some (11,false))⟩,⟨(some 14),.pick,[(.t 11),(.k (.bool true)),(.t 13)],none⟩]) (.cond (.t 14) (.seq (.reg false [K1 4 .mv (iV 1)]) .ret) .skip)) (.seq (.seq (.reg false [O1 15 .mv 0,O1 16 .nilc 15,O1 17 (.fld 1) 16,O1 18 (.loadN 8) 17,K1 19 .mv (iV 0)]) (.block 0 (.loop x28L0))) (.seq (.seq (.reg false [O1 32 .mv 1,O1 33 (.call 36) 32,O1 34 .lenS 33,K1 35 .mv (iV 0)]) (.block 2 (.loop x28L1))) (.seq (.reg false [K1 4 .mv (iV 0)]) .ret))))),[(.s 4)]⟩
theorem x28_ok:xfn Tryz.prog Tryz.f28=some x28.er:=by kernel_rfl
noncomputable def g28:Con:=fun args_ E_ nn_=>match args_ with
 | [.c (.p s 0),.c (.p o 0)]=>(match E_ s with
  | some (.bx s_n s_f s_ty s_p)=>(match E_ o with
  | some (.bx o_n o_f o_ty o_p)=>some (.d (isSt s_n s_f s_ty s_p∧isSt o_n o_f o_ty o_p∧s≠o∧okSt (decX s_f s_p)∧okSt (decX o_f o_p)) (fun G_=>True) (fun G_=>.o (.c (.v (.int .i64 (0))))) (fun G_=>[(s,.bx 73 (stF (hearD (decX s_f s_p) (decX o_f o_p)) (G_)) 130 (stP (hearD (decX s_f s_p) (decX o_f o_p)) (G_))),(o,.bx 73 (stF ((decX o_f o_p)) ((decG o_f o_p))) 130 (stP ((decX o_f o_p)) ((decG o_f o_p))))]) (nn_+0))
  | _=>none)
  | _=>none)
 | _=>none
theorem c28:COk Tryz.prog 28 g28:=by
 refine cok_g Tryz.func28 x28_ok (by kernel_rfl) (cok_tab (cok_cons c9 (cok_cons c36 (cok_cons c63 cok_nil)))) ?_
 intro args_ E_ nn_ cr_ hg_
 unfold g28 at hg_
 split at hg_
 ·rename_i s o
  split at hg_
  ·rename_i s_n s_f s_ty s_p h_s
   split at hg_
   ·rename_i o_n o_f o_ty o_p h_o
    cases hg_
    refine ⟨_,_,_,_,_,rfl,2,[s,o],[.c (.p 0 0),.c (.p 1 0)],[(0,.bx 73 (stF (decX s_f s_p) (decG s_f s_p)) 130 (stP (decX s_f s_p) (decG s_f s_p))),(1,.bx 73 (stF (decX o_f o_p) (decG o_f o_p)) 130 (stP (decX o_f o_p) (decG o_f o_p)))],(fun G_=>.o (.c (.v (.int .i64 (0))))),(fun G_=>[(0,.bx 73 (stF (hearD (decX s_f s_p) (decX o_f o_p)) (G_)) 130 (stP (hearD (decX s_f s_p) (decX o_f o_p)) (G_))),(1,.bx 73 (stF ((decX o_f o_p)) ((decG o_f o_p))) 130 (stP ((decX o_f o_p)) ((decG o_f o_p))))]),2,rfl,(fun _=>rfl),(fun _=>by simp only [renE,Ent.ren,renAl,rowF_renf,stF_renF,stP_ren]<;>rfl),rfl,by decide,by simp only [push_cast,Nat.reduceLT,Nat.reduceAdd],by simp only [push_cast,Nat.reduceLT,Nat.reduceAdd],(fun _=>by simp only [push_cast,Nat.reduceLT,Nat.reduceAdd]),(fun _=>by simp only [push_cast,Nat.reduceLT,Nat.reduceAdd]),rfl,⟨⟨_,h_s⟩,⟨_,h_o⟩,trivial⟩,(fun _=>by simp only [keysNodup,outN,keys]<;>decide),(fun _=>rfl),(fun _=>.inr ⟨.inl rfl,.inl rfl,trivial⟩),?_⟩
    intro hpre hlen
    obtain ⟨i_s,hpre⟩:=hpre
    obtain ⟨i_o,hpre⟩:=hpre
    obtain ⟨n_s_o,hpre⟩:=hpre
    have hap:apartE (sg 2 nn_ [s,o]) [(0,.bx 73 (stF (decX s_f s_p) (decG s_f s_p)) 130 (stP (decX s_f s_p) (decG s_f s_p))),(1,.bx 73 (stF (decX o_f o_p) (decG o_f o_p)) 130 (stP (decX o_f o_p) (decG o_f o_p)))] [(0,.bx 73 (stF (decX s_f s_p) (decG s_f s_p)) 130 (stP (decX s_f s_p) (decG s_f s_p))),(1,.bx 73 (stF (decX o_f o_p) (decG o_f o_p)) 130 (stP (decX o_f o_p) (decG o_f o_p)))]:=by
     refine ⟨fun _ k2 e2 hm hne=>?_,?_⟩
     ·simp only [List.mem_cons,List.not_mem_nil,or_false,Prod.mk.injEq] at hm
      rcases hm with ⟨rfl,_⟩ | ⟨rfl,_⟩
      ·exact absurd rfl hne
      ·exact fun hh=>n_s_o (Eq.symm (show o=s from hh))
     refine ⟨fun _ k2 e2 hm hne=>?_,?_⟩
     ·simp only [List.mem_cons,List.not_mem_nil,or_false,Prod.mk.injEq] at hm
      rcases hm with ⟨rfl,_⟩ | ⟨rfl,_⟩
      ·exact fun hh=>n_s_o (show s=o from hh)
      ·exact absurd rfl hne
     trivial
    refine ⟨⟨⟨_,h_s,isSt_le i_s⟩,⟨_,h_o,isSt_le i_o⟩,trivial⟩,hap,?_⟩
    clear i_s
    generalize decG s_f s_p=sG at *
    generalize decX s_f s_p=sX at *
    clear i_o
    generalize decG o_f o_p=oG at *
    generalize decX o_f o_p=oX at *
    clear h_s
    clear h_o
    simp (maxSteps:=9999999) only [x28,push_cast,simprocAttr,g9,g36,g63]
    obtain ⟨hs,ho⟩:=hpre
    obtain ⟨_,hH,hQ,_⟩:=hs
    obtain ⟨_,hH',hQ',hR'⟩:=ho
    refine vcLoop_upd (α:={s:Nat × GV // s.1≤8∧∀ i j,i < 16→s.2 i j=sG i j}) [0,1,18] 0 (fun s=>[(19,.o (.c (.v (.int .i64 (s.1.1:Nat)))))]) (fun s=>[(0,.bx 73 (stF (hearK sX oX s.1.1) (s.1.2)) 130 (stP (hearK sX oX s.1.1) (s.1.2))),(1,.bx 73 (stF (oX) (oG)) 130 (stP (oX) (oG)))]) (fun s=>8 - s.1.1) ⟨(0,sG),by simp only; omega,fun _ _ _=>rfl⟩ ?_ ?_
    ·simp only [push_cast,simprocAttr,g9,g36,g63]
     exact st_eq (hearK_0 sX oX).symm
    rintro ⟨⟨k,g⟩,hk,hg⟩
    simp only at hk hg
    by_cases hlt:k < 8
    ·have h1:((k:Int) < 8)=True:=eq_true (by omega)
     have hK:k * 1 < 8:=by omega
     have hK2:1+k * 1 < 73:=by omega
     have hF:stF sX sG (1+k * 1) = .v (padd (g k 0) 0):=by rw [Nat.mul_one,stF_a sX sG hlt,hg k 0 (by omega)]
     simp only [x28L0,push_cast,simprocAttr,g9,g36,g63,h1,hK,hF]
     refine ⟨_,_,told_then (told_tA (a:=k) 0 (hearK sX oX k) g hlt (by simp only; omega) rfl) (told_then (told_tS (a:=k) 0 6 2 (hearK sX oX k) g rfl rfl) (told_tA (a:=k) 1 oX oG hlt (by simp only; omega) rfl)),?_⟩
     rintro ⟨⟩
     simp only [push_cast,simprocAttr,g9,g36,g63,h1,hK2,stFo_at]
     refine ⟨⟨okS_of (by rw [hOf_hearK _ _ (Nat.le_refl k)]; exact hH k),okS_of (hH' k)⟩,fun G=>⟨_,_,told_then (told_gA (a:=k) 0 2 (hearK sX oX k) g _ _ hlt (by decide) rfl rfl rfl rfl) (told_gB (a:=k) 1 5 oX oG hlt (by decide) rfl rfl rfl rfl),?_⟩⟩
     rintro ⟨⟩
     simp only [push_cast,simprocAttr,g9,g36,g63]
     refine ⟨⟨(k+1,_),hlt,fun i j hi=>?_⟩,⟨wrapI (by omega) (by omega),st_eq ?_⟩,by simp only; omega⟩
     ·exact (updG_lo g k i j _ hi).trans (hg i j hi)
     ·simp only
      rw [reV_sh,joinS_eq,joinP_eq,sOf_sh,sOf_sh,hOf_hearK _ _ (Nat.le_refl k),qOf_hearK _ _ (Nat.le_refl k)]
      exact hearK_succ sX oX hlt
    ·have h1:((k:Int) < 8)=False:=eq_false (by omega)
     simp only [x28L0,push_cast,simprocAttr,g9,g36,g63,h1]
     obtain rfl:k=8:=by omega
     have hlen:=relTo_len oX 8
     have hgood:∀ i,i < (relL oX).length→goodR ((relL oX).getD i eRl.dflt):=fun i hi=>relL_good hR' (getR_mem hi)
     refine vcLoop_upd (α:={s:Nat × GV // s.1≤(relL oX).length}) [0,33,34] 0 (fun s=>[(35,.o (.c (.v (.int .i64 (s.1.1:Nat)))))]) (fun s=>[(0,.bx 73 (stF (((relL oX).take s.1.1).foldl takeD (hearK sX oX 8)) (s.1.2)) 130 (stP (((relL oX).take s.1.1).foldl takeD (hearK sX oX 8)) (s.1.2))),(1,.bx 73 (stF (oX) (oG)) 130 (stP (oX) (oG))),(2,.own (relL oX).length 5 (rowF eRl (relL oX)) 70)]) (fun s=>(relL oX).length - s.1.1) ⟨(0,g),by simp only; omega⟩ ?_ ?_
     ·simp only [push_cast,simprocAttr,g9,g36,g63]
      exact st_eq rfl
     rintro ⟨⟨q,g2⟩,hq⟩
     simp only at hq
     simp only [x28L1,push_cast,simprocAttr,g9,g36,g63]
     refine ⟨fun hl=>⟨hl,hl,hgood q hl,fun G=>⟨⟨(q+1,G),hl⟩,⟨wrapI (by omega) (by unfold relL at hl; omega),st_eq (by simp only; rw [foldR_take _ hl])⟩,by simp only; omega⟩⟩,fun hn=>⟨g2,st_eq ?_⟩⟩
     obtain rfl:q=(relL oX).length:=by omega
     rw [List.take_length]; rfl
   ·cases hg_
  ·cases hg_
 ·cases hg_
noncomputable def g28s:Con:=fun args_ E_ nn_=>match args_ with
 | [.c (.p s 0),.c (.p o 0)]=>(if s=o then (match E_ s with
  | some (.bx s_n s_f s_ty s_p)=>some (.d (isSt s_n s_f s_ty s_p∧okSt (decX s_f s_p)) (fun G_=>True) (fun G_=>.o (.c (.v (.int .i64 (0))))) (fun G_=>[(s,.bx 73 (stF ((decX s_f s_p)) (G_)) 130 (stP ((decX s_f s_p)) (G_)))]) (nn_+0))
  | _=>none)
  else none)
 | _=>none
theorem c28s:COk Tryz.prog 28 g28s:=by
 refine cok_g Tryz.func28 x28_ok (by kernel_rfl) (cok_tab (cok_cons c9s (cok_cons c36 (cok_cons c63 cok_nil)))) ?_
 intro args_ E_ nn_ cr_ hg_
 unfold g28s at hg_
 split at hg_
 ·rename_i s o
  split at hg_
  ·rename_i same_
   subst same_
   split at hg_
   ·rename_i s_n s_f s_ty s_p h_s
    cases hg_
    refine ⟨_,_,_,_,_,rfl,1,[s],[.c (.p 0 0),.c (.p 0 0)],[(0,.bx 73 (stF (decX s_f s_p) (decG s_f s_p)) 130 (stP (decX s_f s_p) (decG s_f s_p)))],(fun G_=>.o (.c (.v (.int .i64 (0))))),(fun G_=>[(0,.bx 73 (stF ((decX s_f s_p)) (G_)) 130 (stP ((decX s_f s_p)) (G_)))]),1,rfl,(fun _=>rfl),(fun _=>by simp only [renE,Ent.ren,renAl,rowF_renf,stF_renF,stP_ren]<;>rfl),rfl,by decide,by simp only [push_cast,Nat.reduceLT,Nat.reduceAdd],by simp only [push_cast,Nat.reduceLT,Nat.reduceAdd],(fun _=>by simp only [push_cast,Nat.reduceLT,Nat.reduceAdd]),(fun _=>by simp only [push_cast,Nat.reduceLT,Nat.reduceAdd]),rfl,⟨⟨_,h_s⟩,trivial⟩,(fun _=>by simp only [keysNodup,outN,keys]<;>decide),(fun _=>rfl),(fun _=>.inr ⟨.inl rfl,trivial⟩),?_⟩
    intro hpre hlen
    obtain ⟨i_s,hpre⟩:=hpre
    have hap:apartE (sg 1 nn_ [s]) [(0,.bx 73 (stF (decX s_f s_p) (decG s_f s_p)) 130 (stP (decX s_f s_p) (decG s_f s_p)))] [(0,.bx 73 (stF (decX s_f s_p) (decG s_f s_p)) 130 (stP (decX s_f s_p) (decG s_f s_p)))]:=by
     refine ⟨fun _ k2 e2 hm hne=>?_,?_⟩
     ·simp only [List.mem_cons,List.not_mem_nil,or_false,Prod.mk.injEq] at hm
      obtain ⟨rfl,_⟩:=hm
      exact absurd rfl hne
     trivial
    refine ⟨⟨⟨_,h_s,isSt_le i_s⟩,trivial⟩,hap,?_⟩
    clear i_s
    generalize decG s_f s_p=sG at *
    generalize decX s_f s_p=sX at *
    clear h_s
    simp (maxSteps:=9999999) only [x28,push_cast,simprocAttr,g9s,g36,g63]
    obtain ⟨_,hH,hQ,hR⟩:=hpre
    refine vcLoop_upd (α:={k:Nat // k≤8}) [0,1,18] 0 (fun s=>[(19,.o (.c (.v (.int .i64 (s.1:Nat)))))]) (fun s=>[(0,.bx 73 (stF (sX) (sG)) 130 (stP (sX) (sG)))]) (fun s=>8 - s.1) ⟨0,by omega⟩ ?_ ?_
    ·simp only [push_cast,simprocAttr,g9s,g36,g63]
    rintro ⟨k,hk⟩
    by_cases hlt:k < 8
    ·have h1:((k:Int) < 8)=True:=eq_true (by omega)
     have hK:k * 1 < 8:=by omega
     have hK2:1+k * 1 < 73:=by omega
     have hF:stF sX sG (1+k * 1) = .v (padd (sG k 0) 0):=by rw [Nat.mul_one,stF_a sX sG hlt]
     simp only [x28L0,push_cast,simprocAttr,g9s,g36,g63,h1,hK,hF]
     refine ⟨_,_,told_then (told_tA (a:=k) 0 sX sG hlt (by simp only; omega) rfl) (told_tS (a:=k) 0 6 1 sX sG rfl rfl),?_⟩
     rintro ⟨⟩
     simp only [push_cast,simprocAttr,g9s,g36,g63,h1,hK2,stFo_at]
     refine ⟨⟨okS_of (hH k),hQ k⟩,_,_,told_gB (a:=k) 0 1 sX sG hlt (by decide) rfl rfl rfl rfl,?_⟩
     rintro ⟨⟩
     simp only [push_cast,simprocAttr,g9s,g36,g63]
     exact ⟨⟨k+1,hlt⟩,wrapI (by omega) (by omega),by simp only; omega⟩
    ·have h1:((k:Int) < 8)=False:=eq_false (by omega)
     simp only [x28L0,push_cast,simprocAttr,g9s,g36,g63,h1]
     have hlen:=relTo_len sX 8
     have hgood:∀ i,i < (relL sX).length→goodR ((relL sX).getD i eRl.dflt):=fun i hi=>relL_good hR (getR_mem hi)
     refine vcLoop_upd (α:={s:Nat × GV // s.1≤(relL sX).length}) [0,33,34] 0 (fun s=>[(35,.o (.c (.v (.int .i64 (s.1.1:Nat)))))]) (fun s=>[(0,.bx 73 (stF (sX) (s.1.2)) 130 (stP (sX) (s.1.2))),(1,.own (relL sX).length 5 (rowF eRl (relL sX)) 70)]) (fun s=>(relL sX).length - s.1.1) ⟨(0,sG),by simp only; omega⟩ ?_ ?_
     ·simp only [push_cast,simprocAttr,g9s,g36,g63]
     rintro ⟨⟨q,g2⟩,hq⟩
     simp only at hq
     simp only [x28L1,push_cast,simprocAttr,g9s,g36,g63]
     refine ⟨fun hl=>⟨hl,hl,hgood q hl,fun G=>⟨⟨(q+1,G),hl⟩,⟨wrapI (by omega) (by unfold relL at hl; omega),st_eq (take_known hR (getR_mem hl))⟩,by simp only; omega⟩⟩,fun hn=>⟨g2,st_eq rfl⟩⟩
   ·cases hg_
  ·cases hg_
 ·cases hg_
end Go.Proofs.YtgpbokembopapaaGreat
namespace Go.Proofs.YtgpbokembopapaaGreat
open Go.Sx Go.Way
theorem RL_ext {a b:RL} (h1:a.A=b.A) (h2:a.B=b.B) (h3:a.Q=b.Q) (h4:a.X=b.X) (h5:a.Y=b.Y):a=b:=by
 cases a; cases b; simp only at h1 h2 h3 h4 h5; subst h1; subst h2; subst h3; subst h4; subst h5; rfl
instance:DecidableEq RL:=fun a b=>decidable_of_iff (a.A=b.A∧a.B=b.B∧a.Q=b.Q∧a.X=b.X∧a.Y=b.Y) ⟨fun ⟨h1,h2,h3,h4,h5⟩=>RL_ext h1 h2 h3 h4 h5,fun h=>by subst h; exact ⟨rfl,rfl,rfl,rfl,rfl⟩⟩
theorem scO_sh {S S':List SE} (h:shS S=shS S') (x:Int):scO S x=scO S' x:=by rw [scO_map,scO_map,lkS_some h]
theorem sameA_sh {S S' T T':List SE} (h:shS S=shS S') (h':shS T=shS T') (Q Q':List QE):sameA S Q T Q'=sameA S' Q T' Q':=by
 have e:∀ id,sameAt S Q T Q' id=sameAt S' Q T' Q' id:=by
  intro id
  unfold sameAt
  rw [some_map (lkS S id) SE.l,some_map (lkS T id) SE.l,some_map (lkS S' id) SE.l,some_map (lkS T' id) SE.l,lkS_some h,lkS_some h',scO_sh h,scO_sh h']
 unfold sameA
 rw [idsL_sh h,idsL_sh h']
 congr 1
 exact congrArg _ (funext e)
def cloS (T:SH) (Q:List QE):SH:=joinS [] T Q
def cloP (T:SH) (Q:List QE):List QE:=joinP [] T Q
def sameCl (T:SH) (Q:List QE) (T':SH) (Q':List QE):Bool:=sameA (shv (cloS T Q)) (cloP T Q) (shv (cloS T' Q')) (cloP T' Q')
def sameSt (x y:STN):Bool:=decide (relL x=relL y) && (List.range 8).all fun i=>sameCl (hOf x i) (qOf x i) (hOf y i) (qOf y i)
theorem sameSt_rel {x y:STN} (h:relL x≠relL y):sameSt x y=false:=by unfold sameSt; rw [decide_eq_false h]; rfl
theorem sameSt_no {x y:STN} {i:Nat} (hi:i < 8) (h:sameCl (hOf x i) (qOf x i) (hOf y i) (qOf y i)=false):sameSt x y=false:=by
 unfold sameSt
 have:((List.range 8).all fun i=>sameCl (hOf x i) (qOf x i) (hOf y i) (qOf y i))=false:=by
  rw [List.all_eq_false]
  exact ⟨i,List.mem_range.2 hi,by rw [h]; simp⟩
 rw [this,Bool.and_false]
theorem sameSt_yes {x y:STN} (h:relL x=relL y) (ha:∀ i,i < 8→sameCl (hOf x i) (qOf x i) (hOf y i) (qOf y i)=true):sameSt x y=true:=by
 unfold sameSt
 rw [decide_eq_true h,Bool.true_and,List.all_eq_true]
 exact fun i hi=>ha i (List.mem_range.1 hi)
theorem okS_clo {T:SH} {Q:List QE} {G:Nat→Nat→Value}:okS (reV (cloS T Q) G):=by
 rw [okH_S,reV_sh]
 exact okH_joinS (fun p hp=>by cases hp)
def x108:XFn:=⟨11,(.seq (.reg false [K1 2 .mv (.pointer none)]) (.seq (.seq (.reg false [O1 4 .mv 0,⟨(some 5),(.x (.eqP false)),[(.t 4),(.k (.pointer none))],none⟩]) (.cond (.t 5) (.seq (.reg false [K1 2 .mv (.pointer none)]) .ret) .skip)) (.seq (.reg false [⟨(some 6),(.call 7),[],none⟩,O1 3 .mv 6]) (.seq (.reg false [O1 7 .mv 3,O1 8 .mv 0,O2 9 (.call 9) 7 8]) (.seq (.reg false [O1 10 .mv 3,O1 2 .mv 10]) .ret))))),[(.s 2)]⟩
theorem x108_ok:xfn Tryz.prog Tryz.f108=some x108.er:=by kernel_rfl
def x66:XFn:=⟨19,(.seq (.reg false [K1 4 .mv (.pointer none)]) (.seq (.seq (.reg false [O1 5 .mv 0,⟨(some 6),(.x (.eqP false)),[(.t 5),(.k (.pointer none))],none⟩,O1 7 .mv 6,G1 8 .mv 1 7 false,G1 9 (.call 61) 8 7 false,G1 10 (.un .not) 9 7 false,⟨(some 11),.pick,[(.t 7),(.k (.bool true)),(.t 10)],none⟩]) (.cond (.t 11) (.seq (.reg false [K1 4 .mv (.pointer none)]) .ret) .skip)) (.gst (.seq (.gsa (.reg false [O1 12 .mv 0,O1 13 .mv 1,O1 14 .nilc 12,O1 15 (.fld 1) 14,O2 16 (.ixA 8 1) 15 13,O1 17 .load1 16,O1 18 (.call 108) 17,O1 4 .mv 18])) .ret)))),[(.s 4)]⟩
theorem x66_ok:xfn Tryz.prog Tryz.f66=some x66.er:=by kernel_rfl
def x32L0:XC:=(.seq (.reg false [O2 21 (.bin .lss) 20 19]) (.seq (.cond (.t 21) .skip (.exit 0)) (.seq (.block 1 (.seq (.reg false [O1 22 .mv 20,O1 7 .mv 22]) (.seq (.reg true [O1 23 .mv 5,O1 24 .mv 7,O2 25 (.ixS 5) 23 24,O1 26 (.loadN 5) 25,O1 27 .mv 6,O1 28 .mv 7,O2 29 (.ixS 5) 27 28,O1 30 (.loadN 5) 29,⟨(some 31),(.eqA true [(.i .i64),(.i .i64),(.i .i64),(.i .i64),(.i .i64)]),[(.t 26),(.t 30)],none⟩]) (.cond (.t 31) (.seq (.reg false [K1 4 .mv (.bool false)]) .ret) .skip)))) (.reg false [K2 32 (.bin .add) 20 (iV 1),O1 20 .mv 32]))))
def x32L1:XC:=(.seq (.reg false [K2 34 (.bin .lss) 33 (iV 8)]) (.seq (.cond (.t 34) .skip (.exit 2)) (.seq (.block 3 (.seq (.reg false [O1 35 .mv 33,O1 8 .mv 35]) (.seq (.reg false [O1 36 .mv 0,O1 37 .mv 8,O2 38 (.call 66) 36 37,O1 39 .mv 1,O1 40 .mv 8,O2 41 (.call 66) 39 40,O2 42 (.call 10) 38 41,O1 43 (.un .not) 42]) (.cond (.t 43) (.seq (.reg false [K1 4 .mv (.bool false)]) .ret) .skip)))) (.reg false [K2 44 (.bin .add) 33 (iV 1),O1 33 .mv 44]))))
def x32:XFn:=⟨45,(.seq (.reg false [K1 4 .mv (.bool false)]) (.seq (.reg false [O1 9 .mv 0,O1 10 (.call 36) 9,O1 11 .mv 1,O1 12 (.call 36) 11,O1 5 .mv 10,O1 6 .mv 12]) (.seq (.seq (.reg false [O1 13 .mv 5,O1 14 .lenS 13,O1 15 .mv 6,O1 16 .lenS 15,O2 17 (.bin .neq) 14 16]) (.cond (.t 17) (.seq (.reg false [K1 4 .mv (.bool false)]) .ret) .skip)) (.seq (.seq (.reg false [O1 18 .mv 5,O1 19 .lenS 18,K1 20 .mv (iV 0)]) (.block 0 (.loop x32L0))) (.seq (.seq (.reg false [K1 33 .mv (iV 0)]) (.block 2 (.loop x32L1))) (.seq (.reg false [K1 4 .mv (.bool true)]) .ret)))))),[(.s 4)]⟩
theorem x32_ok:xfn Tryz.prog Tryz.f32=some x32.er:=by kernel_rfl
def g108:Con:=fun args_ E_ nn_=>match args_ with
 | [.c (.p a 0)]=>(match E_ a with
  | some (.box [.n a_scans,.n a_places] a_ty)=>(match E_ a_scans with
  | some (.dm a_scans_k a_scans_l)=>(match E_ a_places with
  | some (.dm a_places_k a_places_l)=>some (.d (isM eSc a_scans_k a_scans_l∧isM ePl a_places_k a_places_l∧a≠a_scans∧a≠a_places∧a_scans≠a_places∧okS (decM eSc a_scans_l)) (fun G_=>True) (fun G_=>.o (.c (.p (nn_+2) 0))) (fun G_=>[((nn_+0),.dm false (mapF eSc (reV (cloS (shS (decM eSc a_scans_l)) (decM ePl a_places_l)) G_))),((nn_+1),.dm false (mapF ePl (cloP (shS (decM eSc a_scans_l)) (decM ePl a_places_l)))),((nn_+2),.box [.n (nn_+0),.n (nn_+1)] 93),(a,.box [.n a_scans,.n a_places] a_ty),(a_scans,.dm false (mapF eSc ((decM eSc a_scans_l)))),(a_places,.dm false (mapF ePl ((decM ePl a_places_l))))]) (nn_+3))
  | _=>none)
  | _=>none)
  | _=>none)
 | _=>none
theorem c108:COk Tryz.prog 108 g108:=by
 refine cok_g Tryz.func108 x108_ok (by kernel_rfl) (cok_tab (cok_cons c7 (cok_cons c9 cok_nil))) ?_
 intro args_ E_ nn_ cr_ hg_
 unfold g108 at hg_
 split at hg_
 ·rename_i a
  split at hg_
  ·rename_i a_scans a_places a_ty h_a
   split at hg_
   ·rename_i a_scans_k a_scans_l h_a_scans
    split at hg_
    ·rename_i a_places_k a_places_l h_a_places
     cases hg_
     refine ⟨_,_,_,_,_,rfl,3,[a,a_scans,a_places],[.c (.p 0 0)],[(0,.box [.n 1,.n 2] a_ty),(1,.dm eSc.k (mapF eSc (decM eSc a_scans_l))),(2,.dm ePl.k (mapF ePl (decM ePl a_places_l)))],(fun G_=>.o (.c (.p 5 0))),(fun G_=>[(3,.dm false (mapF eSc (reV (cloS (shS (decM eSc a_scans_l)) (decM ePl a_places_l)) G_))),(4,.dm false (mapF ePl (cloP (shS (decM eSc a_scans_l)) (decM ePl a_places_l)))),(5,.box [.n 3,.n 4] 93),(0,.box [.n 1,.n 2] a_ty),(1,.dm false (mapF eSc ((decM eSc a_scans_l)))),(2,.dm false (mapF ePl ((decM ePl a_places_l))))]),6,rfl,(fun _=>rfl),(fun _=>by simp only [renE,Ent.ren,renAl,rowF_renf]<;>rfl),rfl,by decide,by simp only [push_cast,Nat.reduceLT,Nat.reduceAdd],by simp only [push_cast,Nat.reduceLT,Nat.reduceAdd],(fun _=>by simp only [push_cast,Nat.reduceLT,Nat.reduceAdd]),(fun _=>by simp only [push_cast,Nat.reduceLT,Nat.reduceAdd]),rfl,⟨⟨_,h_a⟩,⟨_,h_a_scans⟩,⟨_,h_a_places⟩,trivial⟩,(fun _=>by simp only [keysNodup,outN,keys]<;>decide),(fun _=>rfl),(fun _=>.inr ⟨.inl rfl,.inl rfl,.inl rfl,trivial⟩),?_⟩
     intro hpre hlen
     obtain ⟨i_a_scans,hpre⟩:=hpre
     obtain ⟨i_a_places,hpre⟩:=hpre
     obtain ⟨n_a_a_scans,hpre⟩:=hpre
     obtain ⟨n_a_a_places,hpre⟩:=hpre
     obtain ⟨n_a_scans_a_places,hpre⟩:=hpre
     have hap:apartE (sg 3 nn_ [a,a_scans,a_places]) [(0,.box [.n 1,.n 2] a_ty),(1,.dm eSc.k (mapF eSc (decM eSc a_scans_l))),(2,.dm ePl.k (mapF ePl (decM ePl a_places_l)))] [(0,.box [.n 1,.n 2] a_ty),(1,.dm eSc.k (mapF eSc (decM eSc a_scans_l))),(2,.dm ePl.k (mapF ePl (decM ePl a_places_l)))]:=by
      refine ⟨fun _ k2 e2 hm hne=>?_,?_⟩
      ·simp only [List.mem_cons,List.not_mem_nil,or_false,Prod.mk.injEq] at hm
       rcases hm with ⟨rfl,_⟩ | ⟨rfl,_⟩ | ⟨rfl,_⟩
       ·exact absurd rfl hne
       ·exact fun hh=>n_a_a_scans (Eq.symm (show a_scans=a from hh))
       ·exact fun hh=>n_a_a_places (Eq.symm (show a_places=a from hh))
      refine ⟨fun _ k2 e2 hm hne=>?_,?_⟩
      ·simp only [List.mem_cons,List.not_mem_nil,or_false,Prod.mk.injEq] at hm
       rcases hm with ⟨rfl,_⟩ | ⟨rfl,_⟩ | ⟨rfl,_⟩
       ·exact fun hh=>n_a_a_scans (show a=a_scans from hh)
       ·exact absurd rfl hne
       ·exact fun hh=>n_a_scans_a_places (Eq.symm (show a_places=a_scans from hh))
      refine ⟨fun _ k2 e2 hm hne=>?_,?_⟩
      ·simp only [List.mem_cons,List.not_mem_nil,or_false,Prod.mk.injEq] at hm
       rcases hm with ⟨rfl,_⟩ | ⟨rfl,_⟩ | ⟨rfl,_⟩
       ·exact fun hh=>n_a_a_places (show a=a_places from hh)
       ·exact fun hh=>n_a_scans_a_places (show a_scans=a_places from hh)
       ·exact absurd rfl hne
      trivial
     refine ⟨⟨⟨_,h_a,by simp only [leE,mapEq,SC.ren,and_true,true_and,and_self]<;>first | rfl | exact ⟨rfl,rfl⟩⟩,⟨_,h_a_scans,isM_le i_a_scans⟩,⟨_,h_a_places,isM_le i_a_places⟩,trivial⟩,hap,?_⟩
     clear i_a_scans
     generalize decM eSc a_scans_l=a_scansL at *
     clear i_a_places
     generalize decM ePl a_places_l=a_placesL at *
     clear h_a_scans
     clear h_a_places
     simp (maxSteps:=9999999) only [x108,push_cast,simprocAttr,g7,g9]
     have e1:=joinS_eq [] a_scansL a_placesL
     have e2:=joinP_eq [] a_scansL a_placesL
     exact ⟨⟨(fun s h=>by cases h),hpre⟩,fun G=>⟨G,.inl (congrArg (fun T=>mapF eSc (reV T G)) e1.symm),.inl (congrArg (mapF ePl) e2.symm)⟩⟩
    ·cases hg_
   ·cases hg_
  ·cases hg_
 ·cases hg_
noncomputable def g66:Con:=fun args_ E_ nn_=>match args_ with
 | [.c (.p s 0),.c (.v (.int .i64 n))]=>(match E_ s with
  | some (.bx s_n s_f s_ty s_p)=>some (.d (isSt s_n s_f s_ty s_p∧(0≤n∧n < 8)∧okSt (decX s_f s_p)) (fun G_=>True) (fun G_=>.o (.c (.p (nn_+2) 0))) (fun G_=>[((nn_+0),.dm false (mapF eSc (reV (cloS (hOf (decX s_f s_p) n.toNat) (qOf (decX s_f s_p) n.toNat)) G_))),((nn_+1),.dm false (mapF ePl (cloP (hOf (decX s_f s_p) n.toNat) (qOf (decX s_f s_p) n.toNat)))),((nn_+2),.box [.n (nn_+0),.n (nn_+1)] 93),(s,.bx 73 (stF ((decX s_f s_p)) ((decG s_f s_p))) 130 (stP ((decX s_f s_p)) ((decG s_f s_p))))]) (nn_+3))
  | _=>none)
 | _=>none
theorem c66:COk Tryz.prog 66 g66:=by
 refine cok_g Tryz.func66 x66_ok (by kernel_rfl) (cok_tab (cok_cons c61 (cok_cons c108 cok_nil))) ?_
 intro args_ E_ nn_ cr_ hg_
 unfold g66 at hg_
 split at hg_
 ·rename_i s n
  split at hg_
  ·rename_i s_n s_f s_ty s_p h_s
   cases hg_
   refine ⟨_,_,_,_,_,rfl,1,[s],[.c (.p 0 0),.c (.v (.int .i64 n))],[(0,.bx 73 (stF (decX s_f s_p) (decG s_f s_p)) 130 (stP (decX s_f s_p) (decG s_f s_p)))],(fun G_=>.o (.c (.p 3 0))),(fun G_=>[(1,.dm false (mapF eSc (reV (cloS (hOf (decX s_f s_p) n.toNat) (qOf (decX s_f s_p) n.toNat)) G_))),(2,.dm false (mapF ePl (cloP (hOf (decX s_f s_p) n.toNat) (qOf (decX s_f s_p) n.toNat)))),(3,.box [.n 1,.n 2] 93),(0,.bx 73 (stF ((decX s_f s_p)) ((decG s_f s_p))) 130 (stP ((decX s_f s_p)) ((decG s_f s_p))))]),4,rfl,(fun _=>rfl),(fun _=>by simp only [renE,Ent.ren,renAl,rowF_renf,stF_renF,stP_ren]<;>rfl),rfl,by decide,by simp only [push_cast,Nat.reduceLT,Nat.reduceAdd],by simp only [push_cast,Nat.reduceLT,Nat.reduceAdd],(fun _=>by simp only [push_cast,Nat.reduceLT,Nat.reduceAdd]),(fun _=>by simp only [push_cast,Nat.reduceLT,Nat.reduceAdd]),rfl,⟨⟨_,h_s⟩,trivial⟩,(fun _=>by simp only [keysNodup,outN,keys]<;>decide),(fun _=>rfl),(fun _=>.inr ⟨.inl rfl,trivial⟩),?_⟩
   intro hpre hlen
   obtain ⟨i_s,hpre⟩:=hpre
   have hap:apartE (sg 1 nn_ [s]) [(0,.bx 73 (stF (decX s_f s_p) (decG s_f s_p)) 130 (stP (decX s_f s_p) (decG s_f s_p)))] [(0,.bx 73 (stF (decX s_f s_p) (decG s_f s_p)) 130 (stP (decX s_f s_p) (decG s_f s_p)))]:=by
    refine ⟨fun _ k2 e2 hm hne=>?_,?_⟩
    ·simp only [List.mem_cons,List.not_mem_nil,or_false,Prod.mk.injEq] at hm
     obtain ⟨rfl,_⟩:=hm
     exact absurd rfl hne
    trivial
   refine ⟨⟨⟨_,h_s,isSt_le i_s⟩,trivial⟩,hap,?_⟩
   clear i_s
   generalize decG s_f s_p=sG at *
   generalize decX s_f s_p=sX at *
   clear h_s
   simp (maxSteps:=9999999) only [x66,push_cast,simprocAttr,g61,g108]
   obtain ⟨hn,_,hH,_,_⟩:=hpre
   refine ⟨fun h=>absurd hn h,fun h1 h2=>?_⟩
   have e1:n.toNat < 8:=by omega
   have e2:1+n.toNat * 1 < 73:=by omega
   refine ⟨_,_,told_tA (a:=n.toNat) 0 sX sG e1 (by simp only; omega) rfl,?_⟩
   rintro ⟨⟩
   simp only [push_cast,simprocAttr,g61,g108,e2,stFo_at,h1,h2]
   refine ⟨okS_of (hH _),fun G=>⟨_,_,told_gB (a:=n.toNat) 0 1 sX sG e1 (by decide) rfl rfl rfl rfl,?_⟩⟩
   rintro ⟨⟩
   simp only [push_cast,simprocAttr,g61,g108]
   exact ⟨G,.inl (by rw [sOf_sh]),.inl (by rw [sOf_sh])⟩
  ·cases hg_
 ·cases hg_
noncomputable def g32:Con:=fun args_ E_ nn_=>match args_ with
 | [.c (.p s 0),.c (.p o 0)]=>(match E_ s with
  | some (.bx s_n s_f s_ty s_p)=>(match E_ o with
  | some (.bx o_n o_f o_ty o_p)=>some (.e (isSt s_n s_f s_ty s_p∧isSt o_n o_f o_ty o_p∧s≠o∧okSt (decX s_f s_p)∧okSt (decX o_f o_p)) (.o (.c (.v (.bool (sameSt (decX s_f s_p) (decX o_f o_p)))))) [(s,.bx 73 (stF ((decX s_f s_p)) ((decG s_f s_p))) 130 (stP ((decX s_f s_p)) ((decG s_f s_p)))),(o,.bx 73 (stF ((decX o_f o_p)) ((decG o_f o_p))) 130 (stP ((decX o_f o_p)) ((decG o_f o_p))))] (nn_+0))
  | _=>none)
  | _=>none)
 | _=>none
theorem c32:COk Tryz.prog 32 g32:=by
 refine cok_d Tryz.func32 x32_ok (by kernel_rfl) (cok_tab (cok_cons c36 (cok_cons c66 (cok_cons c10 cok_nil)))) ?_
 intro args_ E_ nn_ cr_ hg_
 unfold g32 at hg_
 split at hg_
 ·rename_i s o
  split at hg_
  ·rename_i s_n s_f s_ty s_p h_s
   split at hg_
   ·rename_i o_n o_f o_ty o_p h_o
    cases hg_
    refine ⟨_,_,_,_,rfl,2,[s,o],[.c (.p 0 0),.c (.p 1 0)],[(0,.bx 73 (stF (decX s_f s_p) (decG s_f s_p)) 130 (stP (decX s_f s_p) (decG s_f s_p))),(1,.bx 73 (stF (decX o_f o_p) (decG o_f o_p)) 130 (stP (decX o_f o_p) (decG o_f o_p)))],.o (.c (.v (.bool (sameSt (decX s_f s_p) (decX o_f o_p))))),[(0,.bx 73 (stF ((decX s_f s_p)) ((decG s_f s_p))) 130 (stP ((decX s_f s_p)) ((decG s_f s_p)))),(1,.bx 73 (stF ((decX o_f o_p)) ((decG o_f o_p))) 130 (stP ((decX o_f o_p)) ((decG o_f o_p))))],2,rfl,rfl,by simp only [renE,Ent.ren,rowF_renf,stF_renF,stP_ren]<;>rfl,rfl,by decide,and4 (by simp only [push_cast,Nat.reduceLT,Nat.reduceAdd]) ⟨rfl,⟨⟨_,h_s⟩,⟨_,h_o⟩,trivial⟩,by simp only [keysNodup,outN,keys]<;>decide,rfl,.inr ⟨.inl rfl,.inl rfl,trivial⟩,?_⟩⟩
    intro hpre hlen
    obtain ⟨i_s,hpre⟩:=hpre
    obtain ⟨i_o,hpre⟩:=hpre
    obtain ⟨n_s_o,hpre⟩:=hpre
    have hap:apartE (sg 2 nn_ [s,o]) [(0,.bx 73 (stF (decX s_f s_p) (decG s_f s_p)) 130 (stP (decX s_f s_p) (decG s_f s_p))),(1,.bx 73 (stF (decX o_f o_p) (decG o_f o_p)) 130 (stP (decX o_f o_p) (decG o_f o_p)))] [(0,.bx 73 (stF (decX s_f s_p) (decG s_f s_p)) 130 (stP (decX s_f s_p) (decG s_f s_p))),(1,.bx 73 (stF (decX o_f o_p) (decG o_f o_p)) 130 (stP (decX o_f o_p) (decG o_f o_p)))]:=by
     refine ⟨fun _ k2 e2 hm hne=>?_,?_⟩
     ·simp only [List.mem_cons,List.not_mem_nil,or_false,Prod.mk.injEq] at hm
      rcases hm with ⟨rfl,_⟩ | ⟨rfl,_⟩
      ·exact absurd rfl hne
      ·exact fun hh=>n_s_o (Eq.symm (show o=s from hh))
     refine ⟨fun _ k2 e2 hm hne=>?_,?_⟩
     ·simp only [List.mem_cons,List.not_mem_nil,or_false,Prod.mk.injEq] at hm
      rcases hm with ⟨rfl,_⟩ | ⟨rfl,_⟩
      ·exact fun hh=>n_s_o (show s=o from hh)
      ·exact absurd rfl hne
     trivial
    refine ⟨⟨⟨_,h_s,isSt_le i_s⟩,⟨_,h_o,isSt_le i_o⟩,trivial⟩,hap,?_⟩
    clear i_s
    generalize decG s_f s_p=sG at *
    generalize decX s_f s_p=sX at *
    clear i_o
    generalize decG o_f o_p=oG at *
    generalize decX o_f o_p=oX at *
    clear h_s
    clear h_o
    simp (maxSteps:=9999999) only [x32,push_cast,simprocAttr,g36,g66,g10]
    obtain ⟨hs,ho⟩:=hpre
    have hlx:=relTo_len sX 8
    refine ⟨fun h=>(sameSt_rel (fun e=>h (by rw [e]))).symm,fun hlen=>?_⟩
    have hlen2:(relL sX).length=(relL oX).length:=by omega
    refine vcLoop_upd (α:={k:Nat // k≤(relL sX).length∧∀ i,i < k→(relL sX).getD i eRl.dflt=(relL oX).getD i eRl.dflt}) [0,1,5,6,19] 0 (fun s=>[(20,.o (.c (.v (.int .i64 (s.1:Nat)))))]) (fun s=>[(2,.own (relL sX).length 5 (rowF eRl (relL sX)) 70),(3,.own (relL oX).length 5 (rowF eRl (relL oX)) 70),(0,.bx 73 (stF (sX) (sG)) 130 (stP (sX) (sG))),(1,.bx 73 (stF (oX) (oG)) 130 (stP (oX) (oG)))]) (fun s=>(relL sX).length - s.1) ⟨0,by omega,fun i h=>by omega⟩ ?_ ?_
    ·simp only [push_cast,simprocAttr,g36,g66,g10]
    rintro ⟨k,hk,hall⟩
    simp only [x32L0,push_cast,simprocAttr,g36,g66,g10]
    refine ⟨fun hlt=>⟨hlt,hlt,by omega,by omega,fun hb=>(sameSt_rel fun e=>?_).symm,fun q1 q2 q3 q4 q5=>⟨⟨k+1,hlt,fun i hi=>?_⟩,wrapI (by omega) (by unfold relL at hlt; omega),by simp only; omega⟩⟩,fun hn=>?_⟩
    ·rw [e] at hb; simp at hb
    ·by_cases e:i=k
     ·subst e; exact RL_ext q1 q2 q3 q4 q5
     ·exact hall i (by omega)
    have hrel:relL sX=relL oX:=getD_ext hlen2 fun i hi=>hall i (by omega)
    refine vcLoop_upd (α:={k:Nat // k≤8∧∀ i,i < k→sameCl (hOf sX i) (qOf sX i) (hOf oX i) (qOf oX i)=true}) [0,1] 0 (fun s=>[(33,.o (.c (.v (.int .i64 (s.1:Nat)))))]) (fun s=>[(0,.bx 73 (stF (sX) (sG)) 130 (stP (sX) (sG))),(1,.bx 73 (stF (oX) (oG)) 130 (stP (oX) (oG)))]) (fun s=>8 - s.1) ⟨0,by omega,fun i h=>by omega⟩ ?_ ?_
    ·simp only [push_cast,simprocAttr,g36,g66,g10]
    rintro ⟨q,hq,hqa⟩
    simp only [x32L1,push_cast,simprocAttr,g36,g66,g10,hs,ho]
    have hsm:∀ G G2:Nat→Nat→Value,sameA (reV (cloS (hOf sX q) (qOf sX q)) G) (cloP (hOf sX q) (qOf sX q)) (reV (cloS (hOf oX q) (qOf oX q)) G2) (cloP (hOf oX q) (qOf oX q))=sameCl (hOf sX q) (qOf sX q) (hOf oX q) (qOf oX q):=fun G G2=>sameA_sh (by rw [reV_sh,shv_sh]) (by rw [reV_sh,shv_sh]) _ _
    refine ⟨fun h=>⟨h,fun G1=>⟨h,fun G2=>⟨⟨okS_clo,okS_clo⟩,fun hf=>?_,fun ht=>⟨⟨q+1,by omega,fun i hi=>?_⟩,wrapI (by omega) (by omega),by simp only; omega⟩⟩⟩⟩,fun hn=>(sameSt_yes hrel fun i hi=>hqa i (by omega)).symm⟩
    ·rw [hsm] at hf; exact (sameSt_no (show q < 8 by omega) hf).symm
    ·rw [hsm] at ht
     by_cases e:i=q
     ·subst e; exact ht
     ·exact hqa i (by omega)
   ·cases hg_
  ·cases hg_
 ·cases hg_
noncomputable def g32s:Con:=fun args_ E_ nn_=>match args_ with
 | [.c (.p s 0),.c (.p o 0)]=>(if s=o then (match E_ s with
  | some (.bx s_n s_f s_ty s_p)=>some (.e (isSt s_n s_f s_ty s_p∧okSt (decX s_f s_p)) (.o (.c (.v (.bool (sameSt (decX s_f s_p) (decX s_f s_p)))))) [(s,.bx 73 (stF ((decX s_f s_p)) ((decG s_f s_p))) 130 (stP ((decX s_f s_p)) ((decG s_f s_p))))] (nn_+0))
  | _=>none)
  else none)
 | _=>none
theorem c32s:COk Tryz.prog 32 g32s:=by
 refine cok_d Tryz.func32 x32_ok (by kernel_rfl) (cok_tab (cok_cons c36 (cok_cons c66 (cok_cons c10 cok_nil)))) ?_
 intro args_ E_ nn_ cr_ hg_
 unfold g32s at hg_
 split at hg_
 ·rename_i s o
  split at hg_
  ·rename_i same_
   subst same_
   split at hg_
   ·rename_i s_n s_f s_ty s_p h_s
    cases hg_
    refine ⟨_,_,_,_,rfl,1,[s],[.c (.p 0 0),.c (.p 0 0)],[(0,.bx 73 (stF (decX s_f s_p) (decG s_f s_p)) 130 (stP (decX s_f s_p) (decG s_f s_p)))],.o (.c (.v (.bool (sameSt (decX s_f s_p) (decX s_f s_p))))),[(0,.bx 73 (stF ((decX s_f s_p)) ((decG s_f s_p))) 130 (stP ((decX s_f s_p)) ((decG s_f s_p))))],1,rfl,rfl,by simp only [renE,Ent.ren,rowF_renf,stF_renF,stP_ren]<;>rfl,rfl,by decide,and4 (by simp only [push_cast,Nat.reduceLT,Nat.reduceAdd]) ⟨rfl,⟨⟨_,h_s⟩,trivial⟩,by simp only [keysNodup,outN,keys]<;>decide,rfl,.inr ⟨.inl rfl,trivial⟩,?_⟩⟩
    intro hpre hlen
    obtain ⟨i_s,hpre⟩:=hpre
    have hap:apartE (sg 1 nn_ [s]) [(0,.bx 73 (stF (decX s_f s_p) (decG s_f s_p)) 130 (stP (decX s_f s_p) (decG s_f s_p)))] [(0,.bx 73 (stF (decX s_f s_p) (decG s_f s_p)) 130 (stP (decX s_f s_p) (decG s_f s_p)))]:=by
     refine ⟨fun _ k2 e2 hm hne=>?_,?_⟩
     ·simp only [List.mem_cons,List.not_mem_nil,or_false,Prod.mk.injEq] at hm
      obtain ⟨rfl,_⟩:=hm
      exact absurd rfl hne
     trivial
    refine ⟨⟨⟨_,h_s,isSt_le i_s⟩,trivial⟩,hap,?_⟩
    clear i_s
    generalize decG s_f s_p=sG at *
    generalize decX s_f s_p=sX at *
    clear h_s
    simp (maxSteps:=9999999) only [x32,push_cast,simprocAttr,g36,g66,g10]
    have hs:=hpre
    have hlx:=relTo_len sX 8
    have hlen2:(relL sX).length=(relL sX).length:=rfl
    refine vcLoop_upd (α:={k:Nat // k≤(relL sX).length∧∀ i,i < k→(relL sX).getD i eRl.dflt=(relL sX).getD i eRl.dflt}) [0,1,5,6,19] 0 (fun s=>[(20,.o (.c (.v (.int .i64 (s.1:Nat)))))]) (fun s=>[(1,.own (relL sX).length 5 (rowF eRl (relL sX)) 70),(2,.own (relL sX).length 5 (rowF eRl (relL sX)) 70),(0,.bx 73 (stF (sX) (sG)) 130 (stP (sX) (sG)))]) (fun s=>(relL sX).length - s.1) ⟨0,by omega,fun i h=>by omega⟩ ?_ ?_
    ·simp only [push_cast,simprocAttr,g36,g66,g10]
    rintro ⟨k,hk,hall⟩
    simp only [x32L0,push_cast,simprocAttr,g36,g66,g10]
    refine ⟨fun hlt=>⟨hlt,hlt,by omega,by omega,⟨⟨k+1,hlt,fun i hi=>rfl⟩,wrapI (by omega) (by unfold relL at hlt; omega),by simp only; omega⟩⟩,fun hn=>?_⟩
    have hrel:relL sX=relL sX:=getD_ext hlen2 fun i hi=>hall i (by omega)
    refine vcLoop_upd (α:={k:Nat // k≤8∧∀ i,i < k→sameCl (hOf sX i) (qOf sX i) (hOf sX i) (qOf sX i)=true}) [0,1] 0 (fun s=>[(33,.o (.c (.v (.int .i64 (s.1:Nat)))))]) (fun s=>[(0,.bx 73 (stF (sX) (sG)) 130 (stP (sX) (sG)))]) (fun s=>8 - s.1) ⟨0,by omega,fun i h=>by omega⟩ ?_ ?_
    ·simp only [push_cast,simprocAttr,g36,g66,g10]
    rintro ⟨q,hq,hqa⟩
    simp only [x32L1,push_cast,simprocAttr,g36,g66,g10,hs]
    have hsm:∀ G G2:Nat→Nat→Value,sameA (reV (cloS (hOf sX q) (qOf sX q)) G) (cloP (hOf sX q) (qOf sX q)) (reV (cloS (hOf sX q) (qOf sX q)) G2) (cloP (hOf sX q) (qOf sX q))=sameCl (hOf sX q) (qOf sX q) (hOf sX q) (qOf sX q):=fun G G2=>sameA_sh (by rw [reV_sh,shv_sh]) (by rw [reV_sh,shv_sh]) _ _
    refine ⟨fun h=>⟨h,fun G1=>⟨h,fun G2=>⟨⟨okS_clo,okS_clo⟩,fun hf=>?_,fun ht=>⟨⟨q+1,by omega,fun i hi=>?_⟩,wrapI (by omega) (by omega),by simp only; omega⟩⟩⟩⟩,fun hn=>(sameSt_yes hrel fun i hi=>hqa i (by omega)).symm⟩
    ·rw [hsm] at hf; exact (sameSt_no (show q < 8 by omega) hf).symm
    ·rw [hsm] at ht
     by_cases e:i=q
     ·subst e; exact ht
     ·exact hqa i (by omega)
   ·cases hg_
  ·cases hg_
 ·cases hg_
end Go.Proofs.YtgpbokembopapaaGreat
