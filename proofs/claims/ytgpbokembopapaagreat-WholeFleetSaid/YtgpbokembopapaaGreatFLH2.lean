/- A part of the proof of a statement about this seat: how a function is stepped through, and plain laws. No conditions. -/
import Derived.Test.YtgpbokembopapaaGreatRows
import Derived.Test.YtgpbokembopapaaGreatFLSz4
import Derived.Test.YtgpbokembopapaaGreatFLH1
import Derived.KernelRfl
set_option linter.unusedVariables false
set_option linter.unusedSimpArgs false
set_option maxRecDepth 20000
namespace Go.Proofs.YtgpbokembopapaaGreat
open Go.Sx Go.Way
def okRel (x:STN):Prop:=∀ a b f,rOf x a b=some f→a < b∧(0≤f.q∧f.q < 4)∧bd 1024 f.x∧bd 1024 f.y
def okMe (x:STN):Prop:=0≤x.me∧x.me < 8
def okSt (x:STN):Prop:=okMe x∧(∀ a,okH (hOf x a))∧(∀ a,okQ (qOf x a))∧okRel x
theorem sOf_sh (x:STN) (g:GV) (a:Nat):shS (sOf x g a)=hOf x a:=reV_sh _ _
theorem okS_of {x:STN} {g:GV} {a:Nat} (h:okH (hOf x a)):okS (sOf x g a):=by rw [okH_S,sOf_sh]; exact h
section
open Go.Sx
theorem stFo_at (x:STN) (g:GV) (a c:Nat):stFo x g a c (1+a * 1) = .p c 0:=by unfold stFo; rw [if_pos (by omega)]
theorem stFo_me (x:STN) (g:GV) (a c:Nat):stFo x g a c 0 = .v (.int .i64 x.me):=by unfold stFo; rw [if_neg (by omega)]; rfl
theorem st_same (x:STN) (g:GV):(∀ j,j < 73→stF x g j=stF x g j)∧stP x g=stP x g:=⟨fun _ _=>rfl,rfl⟩
theorem st_eq {x y:STN} {g:GV} (h:x=y):(∀ j,j < 73→stF x g j=stF y g j)∧stP x g=stP y g:=by subst h; exact st_same x g
end
def x33:XFn:=⟨9,(.seq (.reg false [K1 2 .mv (iV 0)]) (.seq (.seq (.reg false [O1 3 .mv 0,⟨(some 4),(.x (.eqP false)),[(.t 3),(.k (.pointer none))],none⟩]) (.cond (.t 4) (.seq (.reg false [K1 2 .mv (iV 0)]) .ret) .skip)) (.seq (.reg false [O1 5 .mv 0,O1 6 .nilc 5,O1 7 (.fld 0) 6,O1 8 .load1 7,O1 2 .mv 8]) .ret))),[(.s 2)]⟩
theorem x33_ok:xfn Tryz.prog Tryz.f33=some x33.er:=by kernel_rfl
def x29:XFn:=⟨21,(.seq (.reg false [K1 6 .mv (iV 0)]) (.seq (.seq (.reg false [O1 7 .mv 0,⟨(some 8),(.x (.eqP false)),[(.t 7),(.k (.pointer none))],none⟩]) (.cond (.t 8) (.seq (.reg false [K1 6 .mv (iV 1)]) .ret) .skip)) (.gst (.seq (.regD [O1 9 .mv 0,O1 10 .mv 0,O1 11 .nilc 10,O1 12 (.fld 0) 11,O1 13 .load1 12,O1 14 .nilc 9,O1 15 (.fld 1) 14,O2 16 (.ixA 8 1) 15 13,O1 17 .load1 16,O1 18 .mv 1,O1 19 .mv 2,⟨(some 20),(.call 39),[(.t 17),(.t 18),(.t 19)],none⟩,O1 6 .mv 20] [[],[],[1],[2,1],[3,2,1],[0],[5,0],[6,5,0,4,3,2,1],[7,6,5,0,4,3,2,1],[],[],[8,7,6,5,0,4,3,2,1,9,10],[11,8,7,6,5,0,4,3,2,1,9,10]]) (.gst .ret))))),[(.s 6)]⟩
theorem x29_ok:xfn Tryz.prog Tryz.f29=some x29.er:=by kernel_rfl
def x30:XFn:=⟨21,(.seq (.reg false [O1 5 (.box 32) 2,K1 6 .mv (iV 0)]) (.seq (.seq (.reg false [O1 7 .mv 0,⟨(some 8),(.x (.eqP false)),[(.t 7),(.k (.pointer none))],none⟩]) (.cond (.t 8) (.seq (.reg false [K1 6 .mv (iV 1)]) .ret) .skip)) (.gst (.seq (.regD [O1 9 .mv 0,O1 10 .mv 0,O1 11 .nilc 10,O1 12 (.fld 0) 11,O1 13 .load1 12,O1 14 .nilc 9,O1 15 (.fld 1) 14,O2 16 (.ixA 8 1) 15 13,O1 17 .load1 16,O1 18 .mv 1,O1 19 (.loadN 5) 5,⟨(some 20),(.call 40),[(.t 17),(.t 18),(.t 19)],none⟩,O1 6 .mv 20] [[],[],[1],[2,1],[3,2,1],[0],[5,0],[6,5,0,4,3,2,1],[7,6,5,0,4,3,2,1],[],[],[8,7,6,5,0,4,3,2,1,9,10],[11,8,7,6,5,0,4,3,2,1,9,10]]) (.gst .ret))))),[(.s 6)]⟩
theorem x30_ok:xfn Tryz.prog Tryz.f30=some x30.er:=by kernel_rfl
noncomputable def g33:Con:=fun args_ E_ nn_=>match args_ with
 | [.c (.p s 0)]=>(match E_ s with
  | some (.bx s_n s_f s_ty s_p)=>some (.e (isSt s_n s_f s_ty s_p∧True) (.o (.c (.v (.int .i64 ((decX s_f s_p).me))))) [(s,.bx 73 (stF ((decX s_f s_p)) ((decG s_f s_p))) 130 (stP ((decX s_f s_p)) ((decG s_f s_p))))] (nn_+0))
  | _=>none)
 | _=>none
theorem c33:COk Tryz.prog 33 g33:=by
 refine cok_d Tryz.func33 x33_ok (by kernel_rfl) (cok_tab cok_nil) ?_
 intro args_ E_ nn_ cr_ hg_
 unfold g33 at hg_
 split at hg_
 ·rename_i s
  split at hg_
  ·rename_i s_n s_f s_ty s_p h_s
   cases hg_
   refine ⟨_,_,_,_,rfl,1,[s],[.c (.p 0 0)],[(0,.bx 73 (stF (decX s_f s_p) (decG s_f s_p)) 130 (stP (decX s_f s_p) (decG s_f s_p)))],.o (.c (.v (.int .i64 ((decX s_f s_p).me)))),[(0,.bx 73 (stF ((decX s_f s_p)) ((decG s_f s_p))) 130 (stP ((decX s_f s_p)) ((decG s_f s_p))))],1,rfl,rfl,by simp only [renE,Ent.ren,rowF_renf,stF_renF,stP_ren]<;>rfl,rfl,by decide,and4 (by simp only [push_cast,Nat.reduceLT,Nat.reduceAdd]) ⟨rfl,⟨⟨_,h_s⟩,trivial⟩,by simp only [keysNodup,outN,keys]<;>decide,rfl,.inr ⟨.inl rfl,trivial⟩,?_⟩⟩
   intro hpre hlen
   obtain ⟨i_s,hpre⟩:=hpre
   have hap:apartE (sg 1 nn_ [s]) [(0,.bx 73 (stF (decX s_f s_p) (decG s_f s_p)) 130 (stP (decX s_f s_p) (decG s_f s_p)))] [(0,.bx 73 (stF (decX s_f s_p) (decG s_f s_p)) 130 (stP (decX s_f s_p) (decG s_f s_p)))]:=by
    refine ⟨fun _ k2 e2 hm hne=>?_,?_⟩
    ·simp only [List.mem_cons,List.not_mem_nil,or_false,Prod.mk.injEq] at hm
     obtain ⟨rfl,_⟩:=hm
     exact absurd rfl hne
    trivial
   refine ⟨⟨⟨_,h_s,isSt_le i_s⟩,trivial⟩,hap,?_⟩
   clear i_s
   generalize decG s_f s_p=sG at *
   generalize decX s_f s_p=sX at *
   clear h_s
   simp (maxSteps:=9999999) only [x33,push_cast,simprocAttr]
  ·cases hg_
 ·cases hg_
noncomputable def g29:Con:=fun args_ E_ nn_=>match args_ with
 | [.c (.p s 0),.c (.v (.int .i64 id)),.c (.n scan)]=>(match E_ s with
  | some (.bx s_n s_f s_ty s_p)=>(match rowOf E_ scan with
  | some (scan_n,scan_s,scan_f)=>some (.d (isSt s_n s_f s_ty s_p∧isRow eC scan_n scan_s scan_f∧okSt (decX s_f s_p)∧True) (fun G_=>True) (fun G_=>.o (.c (.v (.int .i64 (putE id (decL eC scan_n scan_f)))))) (fun G_=>[(s,.bx 73 (stF (updA (decX s_f s_p) ((decX s_f s_p)).me.toNat (putH (hOf (decX s_f s_p) ((decX s_f s_p)).me.toNat) id (decL eC scan_n scan_f)) (qOf (decX s_f s_p) ((decX s_f s_p)).me.toNat)) (G_)) 130 (stP (updA (decX s_f s_p) ((decX s_f s_p)).me.toNat (putH (hOf (decX s_f s_p) ((decX s_f s_p)).me.toNat) id (decL eC scan_n scan_f)) (qOf (decX s_f s_p) ((decX s_f s_p)).me.toNat)) (G_))),(scan,.ro ((decL eC scan_n scan_f)).length 2 (rowF eC ((decL eC scan_n scan_f))))]) (nn_+0))
  | none=>none)
  | _=>none)
 | _=>none
theorem c29:COk Tryz.prog 29 g29:=by
 refine cok_g Tryz.func29 x29_ok (by kernel_rfl) (cok_tab (cok_cons c39 cok_nil)) ?_
 intro args_ E_ nn_ cr_ hg_
 unfold g29 at hg_
 split at hg_
 ·rename_i s id scan
  split at hg_
  ·rename_i s_n s_f s_ty s_p h_s
   split at hg_
   ·rename_i scan_n scan_s scan_f h_scan
    cases hg_
    refine ⟨_,_,_,_,_,rfl,2,[s,scan],[.c (.p 0 0),.c (.v (.int .i64 id)),.c (.n 1)],[(0,.bx 73 (stF (decX s_f s_p) (decG s_f s_p)) 130 (stP (decX s_f s_p) (decG s_f s_p))),(1,.ro (decL eC scan_n scan_f).length eC.sz (rowF eC (decL eC scan_n scan_f)))],(fun G_=>.o (.c (.v (.int .i64 (putE id (decL eC scan_n scan_f)))))),(fun G_=>[(0,.bx 73 (stF (updA (decX s_f s_p) ((decX s_f s_p)).me.toNat (putH (hOf (decX s_f s_p) ((decX s_f s_p)).me.toNat) id (decL eC scan_n scan_f)) (qOf (decX s_f s_p) ((decX s_f s_p)).me.toNat)) (G_)) 130 (stP (updA (decX s_f s_p) ((decX s_f s_p)).me.toNat (putH (hOf (decX s_f s_p) ((decX s_f s_p)).me.toNat) id (decL eC scan_n scan_f)) (qOf (decX s_f s_p) ((decX s_f s_p)).me.toNat)) (G_))),(1,.ro ((decL eC scan_n scan_f)).length 2 (rowF eC ((decL eC scan_n scan_f))))]),2,rfl,(fun _=>rfl),(fun _=>by simp only [renE,Ent.ren,renAl,rowF_renf,stF_renF,stP_ren]<;>rfl),rfl,by decide,by simp only [push_cast,Nat.reduceLT,Nat.reduceAdd],by simp only [push_cast,Nat.reduceLT,Nat.reduceAdd],(fun _=>by simp only [push_cast,Nat.reduceLT,Nat.reduceAdd]),(fun _=>by simp only [push_cast,Nat.reduceLT,Nat.reduceAdd]),rfl,⟨⟨_,h_s⟩,inE0_row h_scan,trivial⟩,(fun _=>by simp only [keysNodup,outN,keys]<;>decide),(fun _=>rfl),(fun _=>.inr ⟨.inl rfl,.inl rfl,trivial⟩),?_⟩
    intro hpre hlen
    obtain ⟨i_s,hpre⟩:=hpre
    obtain ⟨i_scan,hpre⟩:=hpre
    have hap:apartE (sg 2 nn_ [s,scan]) [(0,.bx 73 (stF (decX s_f s_p) (decG s_f s_p)) 130 (stP (decX s_f s_p) (decG s_f s_p))),(1,.ro (decL eC scan_n scan_f).length eC.sz (rowF eC (decL eC scan_n scan_f)))] [(0,.bx 73 (stF (decX s_f s_p) (decG s_f s_p)) 130 (stP (decX s_f s_p) (decG s_f s_p))),(1,.ro (decL eC scan_n scan_f).length eC.sz (rowF eC (decL eC scan_n scan_f)))]:=by
     refine ⟨fun _ k2 e2 hm hne=>?_,?_⟩
     ·simp only [List.mem_cons,List.not_mem_nil,or_false,Prod.mk.injEq] at hm
      rcases hm with ⟨rfl,_⟩ | ⟨rfl,_⟩
      ·exact absurd rfl hne
      ·exact fun hh=>by
        have hh2:scan=s:=hh
        have hh3:=h_scan
        rw [hh2] at hh3; unfold rowOf at hh3; rw [h_s] at hh3; cases hh3
     refine ⟨fun h=>by (cases h),?_⟩
     trivial
    refine ⟨⟨⟨_,h_s,isSt_le i_s⟩,inE_row h_scan i_scan,trivial⟩,hap,?_⟩
    have z_scan:=lens_row (E:=eC) hlen h_scan
    clear i_s
    generalize decG s_f s_p=sG at *
    generalize decX s_f s_p=sX at *
    clear i_scan
    generalize decL eC scan_n scan_f=scanL at *
    clear h_s
    clear h_scan
    simp (maxSteps:=9999999) only [x29,push_cast,simprocAttr,g39]
    obtain ⟨⟨hm,hH,hQ,hR⟩,hpre⟩:=hpre
    obtain ⟨hm1,hm2⟩:=hm
    have e1:sX.me.toNat < 8:=by omega
    have e2:(1+sX.me.toNat * 1 < 73)=True:=eq_true (by omega)
    have e3:(0≤sX.me)=True:=eq_true hm1
    have e4:(sX.me < 8)=True:=eq_true hm2
    refine ⟨_,_,told_tA (a:=sX.me.toNat) 0 sX sG e1 (by simp only; omega) rfl,?_⟩
    rintro ⟨⟩
    simp only [push_cast,simprocAttr,g39,stFo_at,stFo_me,e2,e3,e4]
    refine ⟨by rfl,by rfl,okS_of (hH _),fun G=>⟨by rfl,_,_,told_gA (a:=sX.me.toNat) 0 2 sX sG _ _ e1 (by decide) rfl rfl rfl rfl,?_⟩⟩
    rintro ⟨⟩
    simp only [push_cast,simprocAttr,g39]
    exact ⟨_,st_eq (by rw [putH_S,sOf_sh])⟩
   ·cases hg_
  ·cases hg_
 ·cases hg_
noncomputable def g30:Con:=fun args_ E_ nn_=>match args_ with
 | [.c (.p s 0),.c (.v (.int .i64 id)),.a [.v (.int .i64 p_Version),.v (.bool p_Gone),.v (.int .i64 p_Pose_X),.v (.int .i64 p_Pose_Y),.v (.int .i64 p_Pose_H)]]=>(match E_ s with
  | some (.bx s_n s_f s_ty s_p)=>some (.d (isSt s_n s_f s_ty s_p∧okSt (decX s_f s_p)∧True) (fun G_=>True) (fun G_=>.o (.c (.v (.int .i64 (plcE id (⟨p_Version,p_Gone,p_Pose_X,p_Pose_Y,p_Pose_H⟩:PL)))))) (fun G_=>[(s,.bx 73 (stF (updA (decX s_f s_p) ((decX s_f s_p)).me.toNat (hOf (decX s_f s_p) ((decX s_f s_p)).me.toNat) (plcL (qOf (decX s_f s_p) ((decX s_f s_p)).me.toNat) id (⟨p_Version,p_Gone,p_Pose_X,p_Pose_Y,p_Pose_H⟩:PL))) (G_)) 130 (stP (updA (decX s_f s_p) ((decX s_f s_p)).me.toNat (hOf (decX s_f s_p) ((decX s_f s_p)).me.toNat) (plcL (qOf (decX s_f s_p) ((decX s_f s_p)).me.toNat) id (⟨p_Version,p_Gone,p_Pose_X,p_Pose_Y,p_Pose_H⟩:PL))) (G_)))]) (nn_+0))
  | _=>none)
 | _=>none
theorem c30:COk Tryz.prog 30 g30:=by
 refine cok_g Tryz.func30 x30_ok (by kernel_rfl) (cok_tab (cok_cons c40 cok_nil)) ?_
 intro args_ E_ nn_ cr_ hg_
 unfold g30 at hg_
 split at hg_
 ·rename_i s id p_Version p_Gone p_Pose_X p_Pose_Y p_Pose_H
  split at hg_
  ·rename_i s_n s_f s_ty s_p h_s
   cases hg_
   refine ⟨_,_,_,_,_,rfl,1,[s],[.c (.p 0 0),.c (.v (.int .i64 id)),.a [.v (.int .i64 p_Version),.v (.bool p_Gone),.v (.int .i64 p_Pose_X),.v (.int .i64 p_Pose_Y),.v (.int .i64 p_Pose_H)]],[(0,.bx 73 (stF (decX s_f s_p) (decG s_f s_p)) 130 (stP (decX s_f s_p) (decG s_f s_p)))],(fun G_=>.o (.c (.v (.int .i64 (plcE id (⟨p_Version,p_Gone,p_Pose_X,p_Pose_Y,p_Pose_H⟩:PL)))))),(fun G_=>[(0,.bx 73 (stF (updA (decX s_f s_p) ((decX s_f s_p)).me.toNat (hOf (decX s_f s_p) ((decX s_f s_p)).me.toNat) (plcL (qOf (decX s_f s_p) ((decX s_f s_p)).me.toNat) id (⟨p_Version,p_Gone,p_Pose_X,p_Pose_Y,p_Pose_H⟩:PL))) (G_)) 130 (stP (updA (decX s_f s_p) ((decX s_f s_p)).me.toNat (hOf (decX s_f s_p) ((decX s_f s_p)).me.toNat) (plcL (qOf (decX s_f s_p) ((decX s_f s_p)).me.toNat) id (⟨p_Version,p_Gone,p_Pose_X,p_Pose_Y,p_Pose_H⟩:PL))) (G_)))]),1,rfl,(fun _=>rfl),(fun _=>by simp only [renE,Ent.ren,renAl,rowF_renf,stF_renF,stP_ren]<;>rfl),rfl,by decide,by simp only [push_cast,Nat.reduceLT,Nat.reduceAdd],by simp only [push_cast,Nat.reduceLT,Nat.reduceAdd],(fun _=>by simp only [push_cast,Nat.reduceLT,Nat.reduceAdd]),(fun _=>by simp only [push_cast,Nat.reduceLT,Nat.reduceAdd]),rfl,⟨⟨_,h_s⟩,trivial⟩,(fun _=>by simp only [keysNodup,outN,keys]<;>decide),(fun _=>rfl),(fun _=>.inr ⟨.inl rfl,trivial⟩),?_⟩
   intro hpre hlen
   obtain ⟨i_s,hpre⟩:=hpre
   have hap:apartE (sg 1 nn_ [s]) [(0,.bx 73 (stF (decX s_f s_p) (decG s_f s_p)) 130 (stP (decX s_f s_p) (decG s_f s_p)))] [(0,.bx 73 (stF (decX s_f s_p) (decG s_f s_p)) 130 (stP (decX s_f s_p) (decG s_f s_p)))]:=by
    refine ⟨fun _ k2 e2 hm hne=>?_,?_⟩
    ·simp only [List.mem_cons,List.not_mem_nil,or_false,Prod.mk.injEq] at hm
     obtain ⟨rfl,_⟩:=hm
     exact absurd rfl hne
    trivial
   refine ⟨⟨⟨_,h_s,isSt_le i_s⟩,trivial⟩,hap,?_⟩
   clear i_s
   generalize decG s_f s_p=sG at *
   generalize decX s_f s_p=sX at *
   clear h_s
   simp (maxSteps:=9999999) only [x30,push_cast,simprocAttr,g40]
   obtain ⟨⟨hm,hH,hQ,hR⟩,hpre⟩:=hpre
   obtain ⟨hm1,hm2⟩:=hm
   have e1:sX.me.toNat < 8:=by omega
   have e2:(1+sX.me.toNat * 1 < 73)=True:=eq_true (by omega)
   have e3:(0≤sX.me)=True:=eq_true hm1
   have e4:(sX.me < 8)=True:=eq_true hm2
   refine ⟨_,_,told_tA (a:=sX.me.toNat) 0 sX sG e1 (by simp only; omega) rfl,?_⟩
   rintro ⟨⟩
   simp only [push_cast,simprocAttr,g40,stFo_at,stFo_me,e2,e3,e4]
   refine ⟨by rfl,_,_,told_gA (a:=sX.me.toNat) 0 2 sX sG _ _ e1 (by decide) rfl rfl rfl rfl,?_⟩
   rintro ⟨⟩
   simp only [push_cast,simprocAttr,g40]
   exact ⟨_,st_eq (by rw [sOf_sh])⟩
  ·cases hg_
 ·cases hg_
end Go.Proofs.YtgpbokembopapaaGreat
namespace Go.Proofs.YtgpbokembopapaaGreat
open Go.Sx Go.Way
structure RL where
 A:Int
 B:Int
 Q:Int
 X:Int
 Y:Int
def eRl:Enc RL where
 sz:=5
 ks:=[.i .i64,.i .i64,.i .i64,.i .i64,.i .i64]
 wf:=fun x=>((-9223372036854775808)≤x.A∧x.A≤9223372036854775807)∧((-9223372036854775808)≤x.B∧x.B≤9223372036854775807)∧((-9223372036854775808)≤x.Q∧x.Q≤9223372036854775807)∧((-9223372036854775808)≤x.X∧x.X≤9223372036854775807)∧((-9223372036854775808)≤x.Y∧x.Y≤9223372036854775807)
 enc:=fun x=>[.v (.int .i64 x.A),.v (.int .i64 x.B),.v (.int .i64 x.Q),.v (.int .i64 x.X),.v (.int .i64 x.Y)]
 dec:=fun f=>⟨intC (f 0),intC (f 1),intC (f 2),intC (f 3),intC (f 4)⟩
 dflt:=⟨0,0,0,0,0⟩
 flat:=by
  intro x c hc
  simp only [List.mem_cons,List.not_mem_nil,or_false] at hc
  rcases hc with rfl | rfl | rfl | rfl | rfl<;>exact ⟨_,rfl,rfl⟩
 len:=fun x=>rfl
 onto:=by
  intro cs h
  obtain ⟨n0,cs0,rfl,a0,b0,h0⟩:=kind_i h
  obtain ⟨n1,cs1,rfl,a1,b1,h1⟩:=kind_i h0
  obtain ⟨n2,cs2,rfl,a2,b2,h2⟩:=kind_i h1
  obtain ⟨n3,cs3,rfl,a3,b3,h3⟩:=kind_i h2
  obtain ⟨n4,cs4,rfl,a4,b4,h4⟩:=kind_i h3
  obtain rfl:=kind_n h4
  exact ⟨⟨n0,n1,n2,n3,n4⟩,rfl,⟨a0,b0⟩,⟨a1,b1⟩,⟨a2,b2⟩,⟨a3,b3⟩,⟨a4,b4⟩⟩
 de:=by
  intro x f h
  have h0:=h 0 (by decide)
  simp only [nth] at h0
  have h1:=h 1 (by decide)
  simp only [nth] at h1
  have h2:=h 2 (by decide)
  simp only [nth] at h2
  have h3:=h 3 (by decide)
  simp only [nth] at h3
  have h4:=h 4 (by decide)
  simp only [nth] at h4
  simp only [h0,h1,h2,h3,h4,intC,boolC]
theorem eRl_sz:eRl.sz=5:=rfl
theorem eRl_0 (L:List RL) (e:Nat):rowF eRl L e 0 = .v (.int .i64 (L.getD e eRl.dflt).A):=rfl
theorem eRl_1 (L:List RL) (e:Nat):rowF eRl L e 1 = .v (.int .i64 (L.getD e eRl.dflt).B):=rfl
theorem eRl_2 (L:List RL) (e:Nat):rowF eRl L e 2 = .v (.int .i64 (L.getD e eRl.dflt).Q):=rfl
theorem eRl_3 (L:List RL) (e:Nat):rowF eRl L e 3 = .v (.int .i64 (L.getD e eRl.dflt).X):=rfl
theorem eRl_4 (L:List RL) (e:Nat):rowF eRl L e 4 = .v (.int .i64 (L.getD e eRl.dflt).Y):=rfl
theorem eRl_eta (x:RL):RL.mk x.A x.B x.Q x.X x.Y=x:=rfl
theorem eRl_isRow (L:List RL):isRow eRl L.length 5 (rowF eRl L) ↔ True:=isRow_rowF L
attribute [push_cast] eE_eta eE_isRow eE_sz eE_0 eE_1 eE_2 eE_3 eRl_eta eRl_isRow eRl_sz eRl_0 eRl_1 eRl_2 eRl_3 eRl_4
section
open Go.Sx
theorem told_refl (S:St):Go.Sx.Told S (fun _:Unit=>S):=fun _ _ _ _ _ r _ _ hr=>⟨(),r,hr⟩
theorem okcs_all' {l:List SC} (h:∀ x∈l,x.ok=true):okcs l=true:=by
 induction l with
 | nil=>rfl
 | cons a l ih=>simp only [okcs,Bool.and_eq_true]; exact ⟨h a (by simp),ih fun x hx=>h x (by simp [hx])⟩
theorem stF_ok (x:STN) (g:GV) (j:Nat):(stF x g j).ok=true:=by
 unfold stF frC
 split
 ·rfl
 ·split
  ·rfl
  ·split
   ·split<;>rfl
   ·rfl
theorem okcs_stF (n:Nat) (x:STN) (g:GV) (h:Nat→Nat):okcs (rngS n fun i=>stF x g (h i))=true:=okcs_all' fun y hy=>by
 obtain ⟨j,_,rfl⟩:=List.mem_map.1 hy
 exact stF_ok _ _ _
theorem subL_stF (n:Nat) (x:STN) (g:GV) (h:Nat→Nat) (b:Bnd):subL b (rngS n fun i=>stF x g (h i))=rngS n fun i=>stF x g (h i):=by
 rw [subL_rngS]
 have:(fun j=>(stF x g (h j)).sub b)=fun j=>stF x g (h j):=funext fun j=>stF_sub _ _ _ _
 rw [this]
theorem scL_stF (n:Nat) (x:STN) (g:GV) (h:Nat→Nat) (m:Nat→Prop):scL m (rngS n fun i=>stF x g (h i)) ↔ True:=iff_true_intro (scL_rngS fun j=>stF_sc _ _ _ _)
theorem idsL_v {l:List SC} (h:∀ x∈l,∃ V,x = .v V):Go.Sx.idsL l=[]:=by
 induction l with
 | nil=>rfl
 | cons a l ih=>
  obtain ⟨V,rfl⟩:=h a (by simp)
  simp only [Go.Sx.idsL,SC.ids,List.nil_append]
  exact ih fun x hx=>h x (by simp [hx])
theorem idsL_stF (n:Nat) (x:STN) (g:GV) (h:Nat→Nat):Go.Sx.idsL (rngS n fun i=>stF x g (h i))=[]:=idsL_v fun y hy=>by
 obtain ⟨j,_,rfl⟩:=List.mem_map.1 hy
 exact stF_v _ _ _
theorem bindL_v {l:List SC} (h:∀ x∈l,∃ V,x = .v V):∀ k:List SC,bindL l k=[]:=by
 induction l with
 | nil=>intro k; cases k<;>rfl
 | cons a l ih=>
  obtain ⟨V,rfl⟩:=h a (by simp)
  intro k
  cases k with
  | nil=>rfl
  | cons b k=>simp only [bindL,bindC,List.nil_append]; exact ih (fun x hx=>h x (by simp [hx])) k
theorem bindL_stF (n:Nat) (x:STN) (g:GV) (h:Nat→Nat) (k:List SC):bindL (rngS n fun i=>stF x g (h i)) k=[]:=bindL_v (fun y hy=>by
 obtain ⟨j,_,rfl⟩:=List.mem_map.1 hy
 exact stF_v _ _ _) k
theorem setAt_8 (a b c d e f g h:SC) (F:Nat→SC):setAt [a,b,c,d,e,f,g,h] 0 (rngS 8 F)=rngS 8 F:=by
 rw [setAt_eq _ _ _ (by rw [length_rngS]; exact Nat.le_refl _),length_rngS]
 simp
attribute [push_cast] okcs_stF subL_stF scL_stF idsL_stF bindL_stF setAt_8 takeAt_rngS
end
def relRow (x:STN) (a k:Nat):List RL:=(List.range k).filterMap fun b=>(rOf x a b).map fun f=>⟨a,b,f.q,f.x,f.y⟩
def relTo (x:STN) (k:Nat):List RL:=(List.range k).flatMap fun a=>relRow x a 8
def relL (x:STN):List RL:=relTo x 8
theorem relRow_succ (x:STN) (a k:Nat):relRow x a (k+1)=relRow x a k++(match rOf x a k with | some f=>[⟨a,k,f.q,f.x,f.y⟩] | none=>[]):=by
 unfold relRow
 rw [List.range_succ,List.filterMap_append]
 congr 1
 unfold List.filterMap
 cases rOf x a k<;>rfl
theorem relTo_succ (x:STN) (k:Nat):relTo x (k+1)=relTo x k++relRow x k 8:=by
 unfold relTo
 rw [List.range_succ,List.flatMap_append]
 simp
theorem relRow_len (x:STN) (a:Nat):∀ k,(relRow x a k).length≤k
 | 0=>Nat.le_refl _
 | k+1=>by
  have:=relRow_len x a k
  rw [relRow_succ,List.length_append]
  split<;>simp only [List.length_cons,List.length_nil]<;>omega
theorem relTo_len (x:STN):∀ k,(relTo x k).length≤8 * k
 | 0=>Nat.le_refl _
 | k+1=>by
  have:=relTo_len x k
  have h2:=relRow_len x k 8
  rw [relTo_succ,List.length_append]; omega
def x36L0:XC:=(.seq (.reg false [K2 21 (.bin .lss) 20 (iV 8)]) (.seq (.cond (.t 21) .skip (.exit 2)) (.seq (.block 3 (.seq (.reg false [O1 22 .mv 20,O2 23 (.ix1 8 1) 19 20,O1 6 .mv 22,O1 7 .mv 23]) (.gst (.seq (.reg false [O1 24 .mv 7,⟨(some 25),(.x (.eqP true)),[(.t 24),(.k (.pointer none))],none⟩]) (.gsa (.cond (.t 25) (.reg false [O1 26 .mv 3,O1 27 .mv 4,O1 28 .mv 6,O1 29 .mv 7,O1 30 .nilc 29,O1 31 (.loadN 3) 30,⟨(some 32),(.build [(iV 0),(iV 0),(iV 0),(iV 0),(iV 0)] [(0,1),(1,1),(2,3)]),[(.t 27),(.t 28),(.t 31)],none⟩,⟨(some 33),(.slit 70 1 5 [(iV 0),(iV 0),(iV 0),(iV 0),(iV 0)] [(0,5)]),[(.t 32)],none⟩,O2 34 (.app 70 5 40) 26 33,O1 3 .mv 34]) .skip)))))) (.reg false [K2 35 (.bin .add) 20 (iV 1),O1 20 .mv 35]))))
def x36L1:XC:=(.seq (.reg false [K2 16 (.bin .lss) 15 (iV 8)]) (.seq (.cond (.t 16) .skip (.exit 0)) (.seq (.block 1 (.seq (.reg false [O1 17 .mv 15,O2 18 (.ixN 8 8) 14 15,⟨(some 5),(.alloc 127 [(.pointer none),(.pointer none),(.pointer none),(.pointer none),(.pointer none),(.pointer none),(.pointer none),(.pointer none)]),[],none⟩,O1 4 .mv 17,⟨none,(.store 8),[(.t 5),(.t 18)],none⟩]) (.seq (.reg false [O1 19 (.loadN 8) 5,K1 20 .mv (iV 0)]) (.block 2 (.loop x36L0))))) (.reg false [K2 36 (.bin .add) 15 (iV 1),O1 15 .mv 36]))))
def x36:XFn:=⟨38,(.seq (.reg false [K1 2 .mv (.slice none 0 0)]) (.seq (.reg false [K1 3 .mv (.slice none 0 0)]) (.seq (.seq (.reg false [O1 8 .mv 0,⟨(some 9),(.x (.eqP false)),[(.t 8),(.k (.pointer none))],none⟩]) (.cond (.t 9) (.seq (.reg false [O1 10 .mv 3,O1 2 .mv 10]) .ret) .skip)) (.seq (.seq (.reg false [O1 11 .mv 0,O1 12 .nilc 11,O1 13 (.fld 9) 12,O1 14 (.loadN 64) 13,K1 15 .mv (iV 0)]) (.block 0 (.loop x36L1))) (.seq (.reg false [O1 37 .mv 3,O1 2 .mv 37]) .ret))))),[(.s 2)]⟩
theorem x36_ok:xfn Tryz.prog Tryz.f36=some x36.er:=by kernel_rfl
noncomputable def g36:Con:=fun args_ E_ nn_=>match args_ with
 | [.c (.p s 0)]=>(match E_ s with
  | some (.bx s_n s_f s_ty s_p)=>some (.e (isSt s_n s_f s_ty s_p∧True) (.o (.c (.n (nn_+0)))) [((nn_+0),.own (relL (decX s_f s_p)).length 5 (rowF eRl (relL (decX s_f s_p))) 70),(s,.bx 73 (stF ((decX s_f s_p)) ((decG s_f s_p))) 130 (stP ((decX s_f s_p)) ((decG s_f s_p))))] (nn_+1))
  | _=>none)
 | _=>none
theorem c36:COk Tryz.prog 36 g36:=by
 refine cok_d Tryz.func36 x36_ok (by kernel_rfl) (cok_tab cok_nil) ?_
 intro args_ E_ nn_ cr_ hg_
 unfold g36 at hg_
 split at hg_
 ·rename_i s
  split at hg_
  ·rename_i s_n s_f s_ty s_p h_s
   cases hg_
   refine ⟨_,_,_,_,rfl,1,[s],[.c (.p 0 0)],[(0,.bx 73 (stF (decX s_f s_p) (decG s_f s_p)) 130 (stP (decX s_f s_p) (decG s_f s_p)))],.o (.c (.n 1)),[(1,.own (relL (decX s_f s_p)).length 5 (rowF eRl (relL (decX s_f s_p))) 70),(0,.bx 73 (stF ((decX s_f s_p)) ((decG s_f s_p))) 130 (stP ((decX s_f s_p)) ((decG s_f s_p))))],2,rfl,rfl,by simp only [renE,Ent.ren,rowF_renf,stF_renF,stP_ren]<;>rfl,rfl,by decide,and4 (by simp only [push_cast,Nat.reduceLT,Nat.reduceAdd]) ⟨rfl,⟨⟨_,h_s⟩,trivial⟩,by simp only [keysNodup,outN,keys]<;>decide,rfl,.inr ⟨.inl rfl,trivial⟩,?_⟩⟩
   intro hpre hlen
   obtain ⟨i_s,hpre⟩:=hpre
   have hap:apartE (sg 1 nn_ [s]) [(0,.bx 73 (stF (decX s_f s_p) (decG s_f s_p)) 130 (stP (decX s_f s_p) (decG s_f s_p)))] [(0,.bx 73 (stF (decX s_f s_p) (decG s_f s_p)) 130 (stP (decX s_f s_p) (decG s_f s_p)))]:=by
    refine ⟨fun _ k2 e2 hm hne=>?_,?_⟩
    ·simp only [List.mem_cons,List.not_mem_nil,or_false,Prod.mk.injEq] at hm
     obtain ⟨rfl,_⟩:=hm
     exact absurd rfl hne
    trivial
   refine ⟨⟨⟨_,h_s,isSt_le i_s⟩,trivial⟩,hap,?_⟩
   clear i_s
   generalize decG s_f s_p=sG at *
   generalize decX s_f s_p=sX at *
   clear h_s
   simp (maxSteps:=9999999) only [x36,push_cast,simprocAttr]
   refine vcLoop_upd (α:={k:Nat // k≤8}) [14] 1 (fun s=>[(3,.o (.c (.n 1))),(15,.o (.c (.v (.int .i64 (s.1:Nat)))))]) (fun s=>[(1,.own (relTo sX s.1).length 5 (rowF eRl (relTo sX s.1)) 70),(0,.bx 73 (stF (sX) (sG)) 130 (stP (sX) (sG)))]) (fun s=>8 - s.1) ⟨0,by omega⟩ ?_ ?_
   ·simp only [push_cast,simprocAttr]
    rfl
   rintro ⟨a,ha⟩
   by_cases hlt:a < 8
   ·have hA:a * 8+8≤64:=by omega
    simp only [x36L1,push_cast,simprocAttr,hA]
    refine ⟨fun _=>⟨by omega,?_⟩,fun h=>by omega⟩
    refine vcLoop_upd (α:={k:Nat // k≤8}) [4,14,15,19] 1 (fun s=>[(3,.o (.c (.n 3))),(20,.o (.c (.v (.int .i64 (s.1:Nat)))))]) (fun s=>[(3,.own (relTo sX a++relRow sX a s.1).length 5 (rowF eRl (relTo sX a++relRow sX a s.1)) 70),(0,.bx 73 (stF (sX) (sG)) 130 (stP (sX) (sG)))]) (fun s=>8 - s.1) ⟨0,by omega⟩ ?_ ?_
    ·simp only [push_cast,simprocAttr]
     exact same_eq (by unfold relRow; simp)
    rintro ⟨b,hb⟩
    by_cases hlb:b < 8
    ·have hB:b * 1 < 8:=by omega
     have hF:stF sX sG (9+(a * 8+b * 1))=frC (rOf sX a b) (sG (8+a) b):=by rw [show 9+(a * 8+b * 1)=9+a * 8+b by omega]; exact stF_r sX sG hlt hlb
     have hR:=relRow_succ sX a b
     cases hf:rOf sX a b with
     | none=>
      rw [hf] at hR hF
      simp only [x36L0,push_cast,simprocAttr,hB,hF,frC]
      refine ⟨fun _=>⟨by omega,_,_,told_refl _,?_⟩,fun h=>by omega⟩
      rintro ⟨⟩
      simp only [push_cast,simprocAttr]
      refine ⟨_,_,told_refl _,?_⟩
      rintro ⟨⟩
      simp only [push_cast,simprocAttr]
      exact ⟨⟨b+1,by omega⟩,⟨wrapI (by omega) (by omega),same_eq (by simp only; rw [hR,List.append_nil])⟩,by simp only; omega⟩
     | some f=>
      rw [hf] at hR hF
      simp only [x36L0,push_cast,simprocAttr,hB,hF,frC]
      refine ⟨fun _=>⟨by omega,_,_,told_tF (a:=a) (b:=b) 0 7 sX sG f hlt hlb hf (by simp only; omega) rfl rfl,?_⟩,fun h=>by omega⟩
      rintro ⟨⟩
      simp only [push_cast,simprocAttr,frE]
      have hl1:=relTo_len sX a
      have hl2:=relRow_len sX a b
      refine ⟨by rw [List.length_append]; omega,_,_,told_gF (a:=a) (b:=b) 0 4 sX sG f hlt hlb hf (by decide) rfl rfl,?_⟩
      rintro ⟨⟩
      simp only [push_cast,simprocAttr]
      exact ⟨⟨b+1,by omega⟩,⟨wrapI (by omega) (by omega),push_eq (E:=eRl) (x:=⟨a,b,f.q,f.x,f.y⟩) (by simp only; rw [hR,List.append_assoc])⟩,by simp only; omega⟩
    ·simp only [x36L0,push_cast,simprocAttr]
     refine ⟨fun h=>by omega,fun _=>?_⟩
     obtain rfl:b=8:=by omega
     exact ⟨⟨a+1,by omega⟩,⟨wrapI (by omega) (by omega),same_eq (by simp only; rw [relTo_succ])⟩,by simp only; omega⟩
   ·simp only [x36L1,push_cast,simprocAttr]
    refine ⟨fun h=>by omega,fun _=>?_⟩
    obtain rfl:a=8:=by omega
    exact same_eq rfl
  ·cases hg_
 ·cases hg_
end Go.Proofs.YtgpbokembopapaaGreat
namespace Go.Proofs.YtgpbokembopapaaGreat
open Go.Sx Go.Way
def rlF (r:RL):FR:=⟨r.Q,r.X,r.Y⟩
def nmF (f:FR):FR:=⟨f.q % 4,f.x,f.y⟩
def loR (r:RL):Int:=if r.B < r.A then r.B else r.A
def hiR (r:RL):Int:=if r.B < r.A then r.A else r.B
def frR (r:RL):FR:=nmF (if r.B < r.A then invF (rlF r) else rlF r)
def putF (o:Option FR) (f:FR):Bool:=match o with
 | none=>true
 | some p=>decide (0 < cmpF f p)
def takeD (x:STN) (r:RL):STN:=if putF (rOf x (loR r).toNat (hiR r).toNat) (frR r)=true then setR x (loR r).toNat (hiR r).toNat (frR r) else x
def goodR (r:RL):Prop:=(0≤r.A∧r.A < 8)∧(0≤r.B∧r.B < 8)∧r.A≠r.B∧bd 1024 r.X∧bd 1024 r.Y
theorem take_lo {x:STN} {A B Q X Y:Int} (h:B < A):takeD x ⟨A,B,Q,X,Y⟩=if putF (rOf x B.toNat A.toNat) (nmF (invF ⟨Q,X,Y⟩))=true then setR x B.toNat A.toNat (nmF (invF ⟨Q,X,Y⟩)) else x:=by
 unfold takeD loR hiR frR
 simp only [if_pos h]; rfl
theorem take_hi {x:STN} {A B Q X Y:Int} (h:¬ B < A):takeD x ⟨A,B,Q,X,Y⟩=if putF (rOf x A.toNat B.toNat) (nmF ⟨Q,X,Y⟩)=true then setR x A.toNat B.toNat (nmF ⟨Q,X,Y⟩) else x:=by
 unfold takeD loR hiR frR
 simp only [if_neg h]; rfl
theorem valid_rel {Q X Y:Int} (hX:bd 1024 X) (hY:bd 1024 Y):validF ⟨Q,X,Y⟩=true:=by
 unfold validF winB bd at *
 rw [Bool.and_eq_true,decide_eq_true_iff,decide_eq_true_iff]
 simp only; omega
def goodB (r:RL):Bool:=decide (0≤r.A∧r.A < 8) && decide (0≤r.B∧r.B < 8) && decide (r.A≠r.B) && winB r.X 1024 && winB r.Y 1024
def relE (r:RL):Int:=if goodB r=true then 0 else 1
def relD (x:STN) (r:RL):STN:=if goodB r=true then takeD x r else x
theorem good_no {A B Q X Y:Int} (h:(((¬(0≤A∧A < 8)∨¬(0≤B∧B < 8))∨A=B)∨winB X 1024=false)∨winB Y 1024=false):goodB ⟨A,B,Q,X,Y⟩=false:=by
 rw [Bool.eq_false_iff]
 intro ht
 unfold goodB at ht
 simp only [Bool.and_eq_true,decide_eq_true_eq] at ht
 obtain ⟨⟨⟨⟨h1,h2⟩,h3⟩,h4⟩,h5⟩:=ht
 rcases h with ((((h | h) | h) | h) | h)
 ·exact h h1
 ·exact h h2
 ·exact h3 h
 ·rw [h] at h4; cases h4
 ·rw [h] at h5; cases h5
theorem good_iff {r:RL}:goodB r=true ↔ goodR r:=by
 unfold goodB goodR winB bd
 simp only [Bool.and_eq_true,decide_eq_true_eq]
 constructor
 ·rintro ⟨⟨⟨⟨h1,h2⟩,h3⟩,h4⟩,h5⟩; exact ⟨h1,h2,h3,h4,h5⟩
 ·rintro ⟨h1,h2,h3,h4,h5⟩; exact ⟨⟨⟨⟨h1,h2⟩,h3⟩,h4⟩,h5⟩
def x63:XFn:=⟨59,(.seq (.reg false [O1 3 (.box 70) 1]) (.seq (.seq (.reg false [O1 5 (.fld 0) 3,O1 6 .load1 5,O1 7 (.fld 1) 3,O1 8 .load1 7,O2 9 (.bin .gtr) 6 8]) (.cond (.t 9) (.seq (.reg false [O1 10 (.fld 1) 3,O1 11 .load1 10,O1 12 (.fld 0) 3,O1 13 .load1 12,O1 14 (.fld 0) 3,⟨none,(.store 1),[(.t 14),(.t 11)],none⟩,O1 15 (.fld 1) 3,⟨none,(.store 1),[(.t 15),(.t 13)],none⟩]) (.reg false [O1 17 (.fld 2) 3,O1 18 (.loadN 3) 17,O1 19 (.call 105) 18,O1 16 .mv 19,O1 20 (.ext 0) 16,O1 21 (.ext 1) 16,O1 22 (.fld 2) 3,⟨none,(.store 3),[(.t 22),(.t 20)],none⟩])) .skip)) (.seq (.reg false [O1 23 (.fld 2) 3,O1 24 (.fld 0) 23,O1 25 .load1 24,K2 26 (.bin .and) 25 (iV 3),O1 27 (.fld 2) 3,O1 28 (.fld 0) 27,⟨none,(.store 1),[(.t 28),(.t 26)],none⟩]) (.seq (.reg true [O1 29 .mv 0,O1 30 (.fld 0) 3,O1 31 .load1 30,O1 32 (.fld 1) 3,O1 33 .load1 32,O1 34 .nilc 29,O1 35 (.fld 9) 34,O2 36 (.ixA 8 8) 35 31,O2 37 (.ixA 8 1) 36 33,O1 38 .load1 37,O1 4 .mv 38]) (.gst (.seq (.reg true [O1 39 .mv 4,⟨(some 40),(.x (.eqP false)),[(.t 39),(.k (.pointer none))],none⟩,O1 41 .mv 40,G1 42 (.fld 2) 3 41 false,G1 43 (.loadN 3) 42 41 false,G1 44 .mv 4 41 false,G1 45 .nilc 44 41 false,G1 46 (.loadN 3) 45 41 false,G2 47 (.call 106) 43 46 41 false,⟨(some 48),.pick,[(.t 41),(.k (.bool true)),(.t 47)],none⟩]) (.gsa (.cond (.t 48) (.regD [O1 49 .mv 0,O1 50 (.fld 0) 3,O1 51 .load1 50,O1 52 (.fld 1) 3,O1 53 .load1 52,O1 54 (.fld 2) 3,O1 55 .nilc 49,O1 56 (.fld 9) 55,O2 57 (.ixA 8 8) 56 51,O2 58 (.ixA 8 1) 57 53,⟨none,(.store 1),[(.t 58),(.t 54)],none⟩] [[],[],[1],[],[3],[],[0],[6,0],[7,6,0,2,1],[8,7,6,0,2,1,4,3,5],[9,8,7,6,0,2,1,4,3,5]]) .skip)))))))),[]⟩
theorem x63_ok:xfn Tryz.prog Tryz.f63=some x63.er:=by kernel_rfl
noncomputable def g63:Con:=fun args_ E_ nn_=>match args_ with
 | [.c (.p s 0),.a [.v (.int .i64 x_A),.v (.int .i64 x_B),.v (.int .i64 x_Frame_Q),.v (.int .i64 x_Frame_X),.v (.int .i64 x_Frame_Y)]]=>(match E_ s with
  | some (.bx s_n s_f s_ty s_p)=>some (.d (isSt s_n s_f s_ty s_p∧goodR (⟨x_A,x_B,x_Frame_Q,x_Frame_X,x_Frame_Y⟩:RL)) (fun G_=>True) (fun G_=>.t []) (fun G_=>[(s,.bx 73 (stF (takeD (decX s_f s_p) (⟨x_A,x_B,x_Frame_Q,x_Frame_X,x_Frame_Y⟩:RL)) (G_)) 130 (stP (takeD (decX s_f s_p) (⟨x_A,x_B,x_Frame_Q,x_Frame_X,x_Frame_Y⟩:RL)) (G_)))]) (nn_+0))
  | _=>none)
 | _=>none
theorem c63:COk Tryz.prog 63 g63:=by
 refine cok_g Tryz.func63 x63_ok (by kernel_rfl) (cok_tab (cok_cons c105 (cok_cons c106 cok_nil))) ?_
 intro args_ E_ nn_ cr_ hg_
 unfold g63 at hg_
 split at hg_
 ·rename_i s x_A x_B x_Frame_Q x_Frame_X x_Frame_Y
  split at hg_
  ·rename_i s_n s_f s_ty s_p h_s
   cases hg_
   refine ⟨_,_,_,_,_,rfl,1,[s],[.c (.p 0 0),.a [.v (.int .i64 x_A),.v (.int .i64 x_B),.v (.int .i64 x_Frame_Q),.v (.int .i64 x_Frame_X),.v (.int .i64 x_Frame_Y)]],[(0,.bx 73 (stF (decX s_f s_p) (decG s_f s_p)) 130 (stP (decX s_f s_p) (decG s_f s_p)))],(fun G_=>.t []),(fun G_=>[(0,.bx 73 (stF (takeD (decX s_f s_p) (⟨x_A,x_B,x_Frame_Q,x_Frame_X,x_Frame_Y⟩:RL)) (G_)) 130 (stP (takeD (decX s_f s_p) (⟨x_A,x_B,x_Frame_Q,x_Frame_X,x_Frame_Y⟩:RL)) (G_)))]),1,rfl,(fun _=>rfl),(fun _=>by simp only [renE,Ent.ren,renAl,rowF_renf,stF_renF,stP_ren]<;>rfl),rfl,by decide,by simp only [push_cast,Nat.reduceLT,Nat.reduceAdd],by simp only [push_cast,Nat.reduceLT,Nat.reduceAdd],(fun _=>by simp only [push_cast,Nat.reduceLT,Nat.reduceAdd]),(fun _=>by simp only [push_cast,Nat.reduceLT,Nat.reduceAdd]),rfl,⟨⟨_,h_s⟩,trivial⟩,(fun _=>by simp only [keysNodup,outN,keys]<;>decide),(fun _=>rfl),(fun _=>.inr ⟨.inl rfl,trivial⟩),?_⟩
   intro hpre hlen
   obtain ⟨i_s,hpre⟩:=hpre
   have hap:apartE (sg 1 nn_ [s]) [(0,.bx 73 (stF (decX s_f s_p) (decG s_f s_p)) 130 (stP (decX s_f s_p) (decG s_f s_p)))] [(0,.bx 73 (stF (decX s_f s_p) (decG s_f s_p)) 130 (stP (decX s_f s_p) (decG s_f s_p)))]:=by
    refine ⟨fun _ k2 e2 hm hne=>?_,?_⟩
    ·simp only [List.mem_cons,List.not_mem_nil,or_false,Prod.mk.injEq] at hm
     obtain ⟨rfl,_⟩:=hm
     exact absurd rfl hne
    trivial
   refine ⟨⟨⟨_,h_s,isSt_le i_s⟩,trivial⟩,hap,?_⟩
   clear i_s
   generalize decG s_f s_p=sG at *
   generalize decX s_f s_p=sX at *
   clear h_s
   obtain ⟨⟨hA,hA2⟩,⟨hB,hB2⟩,hne,hX,hY⟩:=hpre
   simp only at hA hA2 hB hB2 hne hX hY
   obtain ⟨a,rfl⟩:=Int.eq_ofNat_of_zero_le hA
   obtain ⟨b,rfl⟩:=Int.eq_ofNat_of_zero_le hB
   have ha:a < 8:=by omega
   have hb:b < 8:=by omega
   by_cases hlt:(b:Int) < (a:Int)
   ·have hab:((b:Int) < (a:Int))=True:=eq_true hlt
    have hF:stF sX sG (9+b * 8+a * 1)=frC (rOf sX b a) (sG (8+b) a):=by rw [show 9+b * 8+a * 1=9+b * 8+a by omega]; exact stF_r sX sG hb ha
    have hI:9+b * 8+a * 1 < 73:=by omega
    have hi1:((b:Int) < 8)=True:=eq_true (by omega)
    have hi2:((a:Int) < 8)=True:=eq_true (by omega)
    have hD:=take_lo (x:=sX) (Q:=x_Frame_Q) (X:=x_Frame_X) (Y:=x_Frame_Y) hlt
    simp only [Int.toNat_natCast] at hD
    cases hf:rOf sX b a with
    | none=>
     rw [hf] at hF hD
     simp only [x63,push_cast,simprocAttr,g105,g106,andq3,hI,hF,frC,hab,hi1,hi2]
     refine ⟨valid_rel hX hY,_,_,told_refl _,?_⟩
     rintro ⟨⟩
     simp only [push_cast,simprocAttr,g105,g106,andq3,hI,hi1,hi2]
     refine ⟨by omega,by rfl,_,_,told_nF (a:=b) (b:=a) 0 1 sX sG (nmF (invF ⟨x_Frame_Q,x_Frame_X,x_Frame_Y⟩)) (stP sX sG) (9+b * 8+a * 1) hb ha (by decide) (fun _ _ _=>rfl) (by omega) rfl rfl,?_⟩
     intro V
     simp only [push_cast,simprocAttr,g105,g106,andq3]
     exact ⟨_,st_eq (by rw [hD]; rfl)⟩
    | some o=>
     rw [hf] at hF hD
     simp only [x63,push_cast,simprocAttr,g105,g106,andq3,hI,hF,frC,hab,hi1,hi2]
     refine ⟨valid_rel hX hY,_,_,told_tF (a:=b) (b:=a) 0 4 sX sG o hb ha hf (by simp only; omega) rfl rfl,?_⟩
     rintro ⟨⟩
     simp only [push_cast,simprocAttr,g105,g106,andq3,hI,hi1,hi2,frE]
     refine ⟨fun hc=>⟨by omega,by rfl,_,_,told_nF (a:=b) (b:=a) 0 1 sX sG (nmF (invF ⟨x_Frame_Q,x_Frame_X,x_Frame_Y⟩)) (stPf sX sG b a 2) (9+b * 8+a * 1) hb ha (by decide) (fun _ _ h=>setPl_ne h) (by omega) rfl rfl,?_⟩,fun hc=>⟨_,_,told_gF (a:=b) (b:=a) 0 2 sX sG o hb ha hf (by decide) rfl rfl,?_⟩⟩
     ·intro V
      simp only [push_cast,simprocAttr,g105,g106,andq3]
      exact ⟨_,st_eq (by rw [hD,if_pos (show putF (some o) (nmF (invF ⟨x_Frame_Q,x_Frame_X,x_Frame_Y⟩))=true from decide_eq_true hc)])⟩
     ·rintro ⟨⟩
      simp only [push_cast,simprocAttr,g105,g106,andq3]
      exact ⟨_,st_eq (by rw [hD,if_neg (show ¬ putF (some o) (nmF (invF ⟨x_Frame_Q,x_Frame_X,x_Frame_Y⟩))=true from fun q=>hc (of_decide_eq_true (show decide (0 < cmpF (nmF (invF ⟨x_Frame_Q,x_Frame_X,x_Frame_Y⟩)) o)=true from q)))])⟩
   ·have hab:((b:Int) < (a:Int))=False:=eq_false hlt
    have hF:stF sX sG (9+a * 8+b * 1)=frC (rOf sX a b) (sG (8+a) b):=by rw [show 9+a * 8+b * 1=9+a * 8+b by omega]; exact stF_r sX sG ha hb
    have hI:9+a * 8+b * 1 < 73:=by omega
    have hi1:((a:Int) < 8)=True:=eq_true (by omega)
    have hi2:((b:Int) < 8)=True:=eq_true (by omega)
    have hD:=take_hi (x:=sX) (Q:=x_Frame_Q) (X:=x_Frame_X) (Y:=x_Frame_Y) hlt
    simp only [Int.toNat_natCast] at hD
    cases hf:rOf sX a b with
    | none=>
     rw [hf] at hF hD
     simp only [x63,push_cast,simprocAttr,g105,g106,andq3,hI,hF,frC,hab,hi1,hi2]
     refine ⟨_,_,told_refl _,?_⟩
     rintro ⟨⟩
     simp only [push_cast,simprocAttr,g105,g106,andq3,hI,hi1,hi2]
     refine ⟨by omega,by rfl,_,_,told_nF (a:=a) (b:=b) 0 1 sX sG (nmF ⟨x_Frame_Q,x_Frame_X,x_Frame_Y⟩) (stP sX sG) (9+a * 8+b * 1) ha hb (by decide) (fun _ _ _=>rfl) (by omega) rfl rfl,?_⟩
     intro V
     simp only [push_cast,simprocAttr,g105,g106,andq3]
     exact ⟨_,st_eq (by rw [hD]; rfl)⟩
    | some o=>
     rw [hf] at hF hD
     simp only [x63,push_cast,simprocAttr,g105,g106,andq3,hI,hF,frC,hab,hi1,hi2]
     refine ⟨_,_,told_tF (a:=a) (b:=b) 0 4 sX sG o ha hb hf (by simp only; omega) rfl rfl,?_⟩
     rintro ⟨⟩
     simp only [push_cast,simprocAttr,g105,g106,andq3,hI,hi1,hi2,frE]
     refine ⟨fun hc=>⟨by omega,by rfl,_,_,told_nF (a:=a) (b:=b) 0 1 sX sG (nmF ⟨x_Frame_Q,x_Frame_X,x_Frame_Y⟩) (stPf sX sG a b 2) (9+a * 8+b * 1) ha hb (by decide) (fun _ _ h=>setPl_ne h) (by omega) rfl rfl,?_⟩,fun hc=>⟨_,_,told_gF (a:=a) (b:=b) 0 2 sX sG o ha hb hf (by decide) rfl rfl,?_⟩⟩
     ·intro V
      simp only [push_cast,simprocAttr,g105,g106,andq3]
      exact ⟨_,st_eq (by rw [hD,if_pos (show putF (some o) (nmF ⟨x_Frame_Q,x_Frame_X,x_Frame_Y⟩)=true from decide_eq_true hc)])⟩
     ·rintro ⟨⟩
      simp only [push_cast,simprocAttr,g105,g106,andq3]
      exact ⟨_,st_eq (by rw [hD,if_neg (show ¬ putF (some o) (nmF ⟨x_Frame_Q,x_Frame_X,x_Frame_Y⟩)=true from fun q=>hc (of_decide_eq_true (show decide (0 < cmpF (nmF ⟨x_Frame_Q,x_Frame_X,x_Frame_Y⟩) o)=true from q)))])⟩
  ·cases hg_
 ·cases hg_
def x27:XFn:=⟨43,(.seq (.reg false [O1 3 (.box 70) 1,K1 4 .mv (iV 0)]) (.seq (.seq (.reg false [O1 5 .mv 0,⟨(some 6),(.x (.eqP false)),[(.t 5),(.k (.pointer none))],none⟩,O1 7 .mv 6,G1 8 (.fld 0) 3 7 false,G1 9 .load1 8 7 false,G1 10 (.call 61) 9 7 false,G1 11 (.un .not) 10 7 false,⟨(some 12),.pick,[(.t 7),(.k (.bool true)),(.t 11)],none⟩,O1 13 .mv 12,G1 14 (.fld 1) 3 13 false,G1 15 .load1 14 13 false,G1 16 (.call 61) 15 13 false,G1 17 (.un .not) 16 13 false,⟨(some 18),.pick,[(.t 13),(.k (.bool true)),(.t 17)],none⟩,O1 19 .mv 18,G1 20 (.fld 0) 3 19 false,G1 21 .load1 20 19 false,G1 22 (.fld 1) 3 19 false,G1 23 .load1 22 19 false,G2 24 (.bin .eql) 21 23 19 false,⟨(some 25),.pick,[(.t 19),(.k (.bool true)),(.t 24)],none⟩,O1 26 .mv 25,G1 27 (.fld 2) 3 26 false,G1 28 (.fld 1) 27 26 false,G1 29 .load1 28 26 false,G1 30 (.call 62) 29 26 false,G1 31 (.un .not) 30 26 false,⟨(some 32),.pick,[(.t 26),(.k (.bool true)),(.t 31)],none⟩,O1 33 .mv 32,G1 34 (.fld 2) 3 33 false,G1 35 (.fld 2) 34 33 false,G1 36 .load1 35 33 false,G1 37 (.call 62) 36 33 false,G1 38 (.un .not) 37 33 false,⟨(some 39),.pick,[(.t 33),(.k (.bool true)),(.t 38)],none⟩]) (.cond (.t 39) (.seq (.reg false [K1 4 .mv (iV 1)]) .ret) .skip)) (.seq (.reg false [O1 40 .mv 0,O1 41 (.loadN 5) 3,O2 42 (.call 63) 40 41]) (.seq (.reg false [K1 4 .mv (iV 0)]) .ret)))),[(.s 4)]⟩
theorem x27_ok:xfn Tryz.prog Tryz.f27=some x27.er:=by kernel_rfl
noncomputable def g27:Con:=fun args_ E_ nn_=>match args_ with
 | [.c (.p s 0),.a [.v (.int .i64 x_A),.v (.int .i64 x_B),.v (.int .i64 x_Frame_Q),.v (.int .i64 x_Frame_X),.v (.int .i64 x_Frame_Y)]]=>(match E_ s with
  | some (.bx s_n s_f s_ty s_p)=>some (.d (isSt s_n s_f s_ty s_p∧True) (fun G_=>True) (fun G_=>.o (.c (.v (.int .i64 (relE (⟨x_A,x_B,x_Frame_Q,x_Frame_X,x_Frame_Y⟩:RL)))))) (fun G_=>[(s,.bx 73 (stF (relD (decX s_f s_p) (⟨x_A,x_B,x_Frame_Q,x_Frame_X,x_Frame_Y⟩:RL)) (G_)) 130 (stP (relD (decX s_f s_p) (⟨x_A,x_B,x_Frame_Q,x_Frame_X,x_Frame_Y⟩:RL)) (G_)))]) (nn_+0))
  | _=>none)
 | _=>none
theorem c27:COk Tryz.prog 27 g27:=by
 refine cok_g Tryz.func27 x27_ok (by kernel_rfl) (cok_tab (cok_cons c61 (cok_cons c62 (cok_cons c63 cok_nil)))) ?_
 intro args_ E_ nn_ cr_ hg_
 unfold g27 at hg_
 split at hg_
 ·rename_i s x_A x_B x_Frame_Q x_Frame_X x_Frame_Y
  split at hg_
  ·rename_i s_n s_f s_ty s_p h_s
   cases hg_
   refine ⟨_,_,_,_,_,rfl,1,[s],[.c (.p 0 0),.a [.v (.int .i64 x_A),.v (.int .i64 x_B),.v (.int .i64 x_Frame_Q),.v (.int .i64 x_Frame_X),.v (.int .i64 x_Frame_Y)]],[(0,.bx 73 (stF (decX s_f s_p) (decG s_f s_p)) 130 (stP (decX s_f s_p) (decG s_f s_p)))],(fun G_=>.o (.c (.v (.int .i64 (relE (⟨x_A,x_B,x_Frame_Q,x_Frame_X,x_Frame_Y⟩:RL)))))),(fun G_=>[(0,.bx 73 (stF (relD (decX s_f s_p) (⟨x_A,x_B,x_Frame_Q,x_Frame_X,x_Frame_Y⟩:RL)) (G_)) 130 (stP (relD (decX s_f s_p) (⟨x_A,x_B,x_Frame_Q,x_Frame_X,x_Frame_Y⟩:RL)) (G_)))]),1,rfl,(fun _=>rfl),(fun _=>by simp only [renE,Ent.ren,renAl,rowF_renf,stF_renF,stP_ren]<;>rfl),rfl,by decide,by simp only [push_cast,Nat.reduceLT,Nat.reduceAdd],by simp only [push_cast,Nat.reduceLT,Nat.reduceAdd],(fun _=>by simp only [push_cast,Nat.reduceLT,Nat.reduceAdd]),(fun _=>by simp only [push_cast,Nat.reduceLT,Nat.reduceAdd]),rfl,⟨⟨_,h_s⟩,trivial⟩,(fun _=>by simp only [keysNodup,outN,keys]<;>decide),(fun _=>rfl),(fun _=>.inr ⟨.inl rfl,trivial⟩),?_⟩
   intro hpre hlen
   obtain ⟨i_s,hpre⟩:=hpre
   have hap:apartE (sg 1 nn_ [s]) [(0,.bx 73 (stF (decX s_f s_p) (decG s_f s_p)) 130 (stP (decX s_f s_p) (decG s_f s_p)))] [(0,.bx 73 (stF (decX s_f s_p) (decG s_f s_p)) 130 (stP (decX s_f s_p) (decG s_f s_p)))]:=by
    refine ⟨fun _ k2 e2 hm hne=>?_,?_⟩
    ·simp only [List.mem_cons,List.not_mem_nil,or_false,Prod.mk.injEq] at hm
     obtain ⟨rfl,_⟩:=hm
     exact absurd rfl hne
    trivial
   refine ⟨⟨⟨_,h_s,isSt_le i_s⟩,trivial⟩,hap,?_⟩
   clear i_s
   generalize decG s_f s_p=sG at *
   generalize decX s_f s_p=sX at *
   clear h_s
   simp (maxSteps:=9999999) only [x27,push_cast,simprocAttr,g61,g62,g63]
   refine ⟨fun h=>?_,fun h1 h2 h3 h4 h5 h6 h7=>?_⟩
   ·have hg:=good_no (Q:=x_Frame_Q) h
    exact ⟨sG,by unfold relE; rw [if_neg (by rw [hg]; simp)],st_eq (by unfold relD; rw [if_neg (by rw [hg]; simp)])⟩
   ·have hg:goodR ⟨x_A,x_B,x_Frame_Q,x_Frame_X,x_Frame_Y⟩:=⟨⟨h1,h2⟩,⟨h3,h4⟩,h5,win_bd h6,win_bd h7⟩
    have hb:=good_iff.2 hg
    exact ⟨hg,fun G=>⟨G,by unfold relE; rw [if_pos hb],st_eq (by unfold relD; rw [if_pos hb])⟩⟩
  ·cases hg_
 ·cases hg_
end Go.Proofs.YtgpbokembopapaaGreat
