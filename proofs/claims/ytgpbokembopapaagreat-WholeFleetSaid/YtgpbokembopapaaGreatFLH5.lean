/- A part of the proof of a statement about this seat: how a function is stepped through, and plain laws. No conditions. -/
import Derived.Test.YtgpbokembopapaaGreatRows
import Derived.Test.YtgpbokembopapaaGreatFLSz4
import Derived.Test.YtgpbokembopapaaGreatFLH4
import Derived.KernelRfl
set_option linter.unusedVariables false
set_option linter.unusedSimpArgs false
set_option maxRecDepth 20000
namespace Go.Proofs.YtgpbokembopapaaGreat
open Go.Sx Go.Way
section
open Go.Sx
theorem inE_ownT {α:Type} {E:Enc α} {Et:Nat→Option Ent} {l n s ty t:Nat} {f:Nat→Nat→SC} {σ:Nat→Nat} (hl:Et l=some (.own n s f ty)) (h:isRow E n s f∧s=E.sz∧ty=t):∃ e0,Et l=some e0∧leE (SC.ren σ) e0 (.own (decL E n f).length E.sz (rowF E (decL E n f)) t):=by
 obtain ⟨h1,h2,h3⟩:=h
 subst h3
 exact inE_own hl h1 h2
end
structure KF where
 k:Int
 f:FR
def eFr:MEnc KF where
 k:=false
 enc:=fun e=>⟨e.k,0,.agg #[.int .i64 e.f.q,.int .i64 e.f.x,.int .i64 e.f.y],none⟩
 dec:=fun d=>⟨d.x,match d.val with | .agg cs=>⟨intV (cs.getD 0 (.bool false)),intV (cs.getD 1 (.bool false)),intV (cs.getD 2 (.bool false))⟩ | _=>⟨0,0,0⟩⟩
 de:=fun p=>rfl
theorem eFr_row (q:KF):(eFr.enc q).row=none:=rfl
theorem eFr_val (q:KF):(eFr.enc q).val = .agg #[.int .i64 q.f.q,.int .i64 q.f.x,.int .i64 q.f.y]:=rfl
theorem eFr_k:eFr.k=false:=rfl
attribute [push_cast] eFr_row eFr_val eFr_k
def lkK:List KF→Int→Option KF
 | [],_=>none
 | s :: S,x=>if s.k=x then some s else lkK S x
theorem findDM_K (x:Int):∀ S:List KF,findDM false (mapF eFr S) x 0=(lkK S x).map eFr.enc
 | []=>rfl
 | e :: L=>by
  have hs:=same_f (eFr.enc e) x
  show (if sameDM false (eFr.enc e) x 0=true then some (eFr.enc e) else findDM false (mapF eFr L) x 0)=_
  unfold lkK
  have hx:(eFr.enc e).x=e.k:=rfl
  rw [hx] at hs
  by_cases g:e.k=x
  ·rw [decide_eq_true g] at hs; rw [if_pos hs,if_pos g]; rfl
  ·rw [decide_eq_false g] at hs; rw [if_neg (by rw [hs]; simp),if_neg g]; exact findDM_K x L
theorem updDM_K (x:Int) (f:FR):∀ S:List KF,lkK S x=none→updDM false (mapF eFr S) x 0 (.agg #[.int .i64 f.q,.int .i64 f.x,.int .i64 f.y]) none=mapF eFr (S++[⟨x,f⟩])
 | [],_=>rfl
 | e :: L,h=>by
  have hs:=same_f (eFr.enc e) x
  have hx:(eFr.enc e).x=e.k:=rfl
  rw [hx] at hs
  unfold lkK at h
  split at h
  ·cases h
  ·rename_i g
   rw [decide_eq_false g] at hs
   show (if sameDM false (eFr.enc e) x 0=true then _ else _)=_
   rw [if_neg (by rw [hs]; simp)]
   show eFr.enc e :: updDM false (mapF eFr L) x 0 _ none=eFr.enc e :: mapF eFr (L++[⟨x,f⟩])
   rw [updDM_K x f L h]
theorem lkK_mem {x:Int} {s:KF}:∀ {S:List KF},lkK S x=some s→s∈S∧s.k=x
 | a :: S,h=>by
  unfold lkK at h
  split at h
  ·rename_i g; cases h; exact ⟨by simp,g⟩
  ·obtain ⟨h1,h2⟩:=lkK_mem h; exact ⟨by simp [h1],h2⟩
theorem lkK_none {x:Int}:∀ {S:List KF},lkK S x=none→∀ e∈S,e.k≠x
 | a :: S,h,e,he=>by
  unfold lkK at h
  split at h
  ·cases h
  ·rename_i g
   rcases List.mem_cons.1 he with rfl | he
   ·exact g
   ·exact lkK_none h e he
def idF:FR:=⟨0,0,0⟩
def stepF (m:List KF) (r:RL):List KF:=match lkK m r.A,lkK m r.B with
 | some e,none=>m++[⟨r.B,mulF e.f (rlF r)⟩]
 | none,some e=>m++[⟨r.A,mulF e.f (invF (rlF r))⟩]
 | _,_=>m
def passF (l:List RL) (m:List KF):List KF:=l.foldl stepF m
def iterF (l:List RL) (m:List KF):Nat→List KF
 | 0=>m
 | k+1=>passF l (iterF l m k)
def fromF (l:List RL) (a:Int):List KF:=iterF l [⟨a,idF⟩] 8
theorem pass_take {l:List RL} {m:List KF} {k:Nat} (h:k < l.length):passF (l.take (k+1)) m=stepF (passF (l.take k) m) (l.getD k eRl.dflt):=by
 unfold passF
 rw [List.take_add_one,List.getElem?_eq_getElem h,List.foldl_append]
 simp only [Option.toList_some,List.foldl_cons,List.foldl_nil,List.getD_eq_getElem?_getD,List.getElem?_eq_getElem h,Option.getD_some]
theorem step_len (m:List KF) (r:RL):(stepF m r=m)∨(stepF m r).length=m.length+1:=by
 unfold stepF
 split
 ·right; simp
 ·right; simp
 ·left; rfl
theorem pass_len:∀ (l:List RL) (m:List KF),m.length≤(passF l m).length∧((passF l m).length=m.length→passF l m=m)
 | [],m=>⟨Nat.le_refl _,fun _=>rfl⟩
 | r :: l,m=>by
  have h:passF (r :: l) m=passF l (stepF m r):=rfl
  obtain ⟨h1,h2⟩:=pass_len l (stepF m r)
  rw [h]
  rcases step_len m r with e | e
  ·rw [e] at h1 h2 ⊢; exact ⟨h1,h2⟩
  ·exact ⟨by omega,fun q=>by omega⟩
structure InvF (m:List KF):Prop where
 nd:(m.map KF.k).Nodup
 rob:∀ e∈m,0≤e.k∧e.k < 8
 bnd:∀ (p:Nat) (e:KF),m[p]?=some e→bd (1024 * p) e.f.x∧bd (1024 * p) e.f.y
theorem nodupI_le:∀ {l1 l2:List Int},l1.Nodup→(∀ a∈l1,a∈l2)→l1.length≤l2.length
 | [],_,_,_=>Nat.zero_le _
 | a :: l1,l2,h,hs=>by
  have ha:=hs a (by simp)
  rw [List.nodup_cons] at h
  have:=nodupI_le (l1:=l1) (l2:=l2.erase a) h.2 (fun b hb=>(List.mem_erase_of_ne (fun e=>h.1 (by rw [← e]; exact hb))).2 (hs b (by simp [hb])))
  have h2:=List.length_erase_of_mem ha
  have h3:=List.length_pos_of_mem ha
  simp only [List.length_cons]
  omega
theorem InvF.len {m:List KF} (h:InvF m):m.length≤8:=by
 have:=nodupI_le (l2:=[0,1,2,3,4,5,6,7]) h.nd (fun a ha=>by
  obtain ⟨e,he,rfl⟩:=List.mem_map.1 ha
  have:=h.rob e he
  simp only [List.mem_cons,List.not_mem_nil,or_false]
  omega)
 simpa using this
theorem InvF.bd {m:List KF} (h:InvF m) {e:KF} (he:e∈m):bd 7168 e.f.x∧bd 7168 e.f.y:=by
 obtain ⟨p,hp⟩:=List.getElem?_of_mem he
 have hl:=h.len
 have hlt:=(List.getElem?_eq_some_iff.1 hp).1
 have:=h.bnd p e hp
 unfold Go.Proofs.YtgpbokembopapaaGreat.bd at *
 omega
theorem mulF_bd {f g:FR} {m n:Int} (hf:bd m f.x∧bd m f.y) (hg:bd n g.x∧bd n g.y):bd (m+n) (mulF f g).x∧bd (m+n) (mulF f g).y:=by
 have:=trn_bd hg.1 hg.2 (f.q % 4).toNat
 unfold mulF bd at *
 simp only
 omega
theorem invF_bd {f:FR} {m:Int} (hf:bd m f.x∧bd m f.y):bd m (invF f).x∧bd m (invF f).y:=by
 have:=trn_bd (m:=m) (x:=-f.x) (y:=-f.y) (by unfold bd at *; omega) (by unfold bd at *; omega) ((-f.q) % 4).toNat
 unfold invF
 exact this
theorem InvF.app {m:List KF} (h:InvF m) {k:Int} {e:KF} {g:FR} (he:e∈m) (hk:0≤k∧k < 8) (hn:lkK m k=none) (hg:Go.Proofs.YtgpbokembopapaaGreat.bd 1024 g.x∧Go.Proofs.YtgpbokembopapaaGreat.bd 1024 g.y):InvF (m++[⟨k,mulF e.f g⟩]) where
 nd:=by
  rw [List.map_append,List.nodup_append]
  refine ⟨h.nd,by simp,fun a ha b hb e=>?_⟩
  obtain ⟨x,hx,rfl⟩:=List.mem_map.1 ha
  simp only [List.map_cons,List.map_nil,List.mem_singleton] at hb
  exact lkK_none hn x hx (e.trans hb)
 rob:=fun x hx=>by
  rcases List.mem_append.1 hx with hx | hx
  ·exact h.rob x hx
  ·simp only [List.mem_singleton] at hx; subst hx; exact hk
 bnd:=fun p x hx=>by
  rw [List.getElem?_append] at hx
  split at hx
  ·exact h.bnd p x hx
  ·rename_i hp
   obtain ⟨q,hq⟩:=List.getElem?_of_mem he
   have hlt:=(List.getElem?_eq_some_iff.1 hq).1
   have hb:=h.bnd q e hq
   have hp1:p - m.length=0:=by
    have:=(List.getElem?_eq_some_iff.1 hx).1
    simp only [List.length_cons,List.length_nil] at this; omega
   rw [hp1] at hx
   simp only [List.getElem?_cons_zero,Option.some.injEq] at hx
   subst hx
   have:=mulF_bd hb hg
   unfold Go.Proofs.YtgpbokembopapaaGreat.bd at *
   simp only
   omega
theorem InvF.step {m:List KF} (h:InvF m) {r:RL} (hr:goodR r):InvF (stepF m r):=by
 obtain ⟨h1,h2,_,h3,h4⟩:=hr
 unfold stepF
 split
 ·rename_i e ha hb; exact h.app (lkK_mem ha).1 h2 hb ⟨h3,h4⟩
 ·rename_i e ha hb; exact h.app (lkK_mem hb).1 h1 ha (invF_bd (f:=rlF r) ⟨h3,h4⟩)
 ·exact h
theorem InvF.pass {l:List RL} (hl:∀ r∈l,goodR r):∀ {m:List KF},InvF m→InvF (passF l m):=by
 induction l with
 | nil=>exact fun h=>h
 | cons r l ih=>exact fun h=>ih (fun r hr=>hl r (by simp [hr])) (h.step (hl r (by simp)))
theorem InvF.one {a:Int} (h:0≤a∧a < 8):InvF [⟨a,idF⟩] where
 nd:=by simp
 rob:=fun e he=>by simp only [List.mem_singleton] at he; subst he; exact h
 bnd:=fun p e hp=>by
  have:=(List.getElem?_eq_some_iff.1 hp).1
  simp only [List.length_cons,List.length_nil] at this
  obtain rfl:p=0:=by omega
  simp only [List.getElem?_cons_zero,Option.some.injEq] at hp
  subst hp
  unfold Go.Proofs.YtgpbokembopapaaGreat.bd idF
  simp
theorem InvF.iter {l:List RL} (hl:∀ r∈l,goodR r) {m:List KF} (h:InvF m):∀ k,InvF (iterF l m k)
 | 0=>h
 | k+1=>(InvF.iter hl h k).pass hl
theorem iter_fix {l:List RL} {m:List KF} {k:Nat} (h:passF l (iterF l m k)=iterF l m k):∀ j,iterF l m (k+j)=iterF l m k
 | 0=>rfl
 | j+1=>by
  show passF l (iterF l m (k+j))=_
  rw [iter_fix h j,h]
theorem from_fix {l:List RL} {a:Int} {k:Nat} (hk:k≤8) (h:passF l (iterF l [⟨a,idF⟩] k)=iterF l [⟨a,idF⟩] k):iterF l [⟨a,idF⟩] k=fromF l a:=by
 unfold fromF
 have:=iter_fix h (8 - k)
 rw [show k+(8 - k)=8 by omega] at this
 exact this.symm
theorem take_all {l:List RL} (hl:∀ r∈l,goodR r) (k:Nat):∀ r∈l.take k,goodR r:=fun r hr=>hl r (List.mem_of_mem_take hr)
def x64:XFn:=⟨3,(.seq (.reg false [K1 0 .mv (.pointer none)]) (.seq (.reg false [⟨(some 1),(.build [(.slice none 0 0)] []),[],none⟩,O1 2 (.box 178) 1,O1 0 .mv 2]) .ret)),[(.s 0)]⟩
theorem x64_ok:xfn Tryz.prog Tryz.f64=some x64.er:=by kernel_rfl
def x68L0:XC:=(.seq (.reg false [O2 24 (.bin .lss) 23 22]) (.seq (.cond (.t 24) .skip (.exit 2)) (.seq (.block 3 (.seq (.reg false [O2 25 (.ixS 5) 21 23,O1 26 (.loadN 5) 25,⟨(some 8),(.alloc 70 [(iV 0),(iV 0),(iV 0),(iV 0),(iV 0)]),[],none⟩,⟨none,(.store 5),[(.t 8),(.t 26)],none⟩]) (.seq (.reg false [O1 28 .mv 5,O1 29 (.fld 0) 8,O1 30 .load1 29,O2 31 (.call 1050704) 28 30,O1 27 .mv 31,O1 32 (.ext 0) 27,O1 33 (.ext 1) 27,⟨(some 9),(.alloc 68 [(iV 0),(iV 0),(iV 0)]),[],none⟩,⟨none,(.store 3),[(.t 9),(.t 32)],none⟩,O1 10 .mv 33]) (.seq (.reg false [O1 35 .mv 5,O1 36 (.fld 1) 8,O1 37 .load1 36,O2 38 (.call 1050704) 35 37,O1 34 .mv 38,O1 39 (.ext 0) 34,O1 40 (.ext 1) 34,⟨(some 11),(.alloc 68 [(iV 0),(iV 0),(iV 0)]),[],none⟩,⟨none,(.store 3),[(.t 11),(.t 39)],none⟩,O1 12 .mv 40]) (.seq (.seq (.reg false [O1 41 .mv 10,O1 42 .mv 12,O2 43 (.binb .eql) 41 42]) (.cond (.t 43) (.exit 3) .skip)) (.seq (.reg false [K1 6 .mv (.bool true)]) (.seq (.reg false [O1 44 .mv 10]) (.cond (.t 44) (.regD [O1 45 .mv 5,O1 46 (.fld 1) 8,O1 47 .load1 46,O1 48 (.loadN 3) 9,O1 49 (.fld 2) 8,O1 50 (.loadN 3) 49,O2 51 (.call 109) 48 50,⟨none,(.call 1050706),[(.t 45),(.t 47),(.t 51)],none⟩] [[],[],[1],[],[],[4],[3,5,4],[0,2,1,6,3,5,4]]) (.regD [O1 52 .mv 5,O1 53 (.fld 0) 8,O1 54 .load1 53,O1 55 (.loadN 3) 11,O1 56 (.fld 2) 8,O1 57 (.loadN 3) 56,O1 58 (.call 110) 57,O2 59 (.call 109) 55 58,⟨none,(.call 1050706),[(.t 52),(.t 54),(.t 59)],none⟩] [[],[],[1],[],[],[4],[5,4],[3,6,5,4],[0,2,1,7,3,6,5,4]]))))))))) (.reg false [K2 60 (.bin .add) 23 (iV 1),O1 23 .mv 60]))))
def x68L1:XC:=(.seq (.seq (.reg false [O1 17 .mv 6]) (.cond (.t 17) .skip (.exit 0))) (.block 1 (.seq (.reg false [K1 6 .mv (.bool false)]) (.seq (.reg false [O1 18 .mv 0,O1 19 .nilc 18,O1 20 (.fld 0) 19,O1 21 .load1 20,O1 22 .lenS 21,K1 23 .mv (iV 0)]) (.block 2 (.loop x68L0))))))
def x68:XFn:=⟨62,(.seq (.reg false [⟨(some 4),.mv,[(.k (.map none))],none⟩]) (.seq (.reg false [⟨(some 13),(.call 1050707),[],none⟩,O1 14 .mv 1,⟨(some 15),(.build [(iV 0),(iV 0),(iV 0)] []),[],none⟩,⟨none,(.call 1050706),[(.t 13),(.t 14),(.t 15)],none⟩,O1 16 .mv 13,O1 5 .mv 16]) (.seq (.seq (.reg false [K1 6 .mv (.bool true)]) (.block 0 (.loop x68L1))) (.seq (.reg false [O1 61 .mv 5,O1 4 .mv 61]) .ret)))),[(.s 4)]⟩
theorem x68_ok:xfn Tryz.prog Tryz.f68=some x68.er:=by kernel_rfl
def x37:XFn:=⟨33,(.seq (.reg false [⟨(some 6),(.alloc 68 [(iV 0),(iV 0),(iV 0)]),[],none⟩,K1 7 .mv (.bool false)]) (.seq (.seq (.reg false [O1 10 .mv 0,⟨(some 11),(.x (.eqP false)),[(.t 10),(.k (.pointer none))],none⟩,O1 12 .mv 11,G1 13 .mv 1 12 false,G1 14 (.call 67) 13 12 false,G1 15 (.un .not) 14 12 false,⟨(some 16),.pick,[(.t 12),(.k (.bool true)),(.t 15)],none⟩,O1 17 .mv 16,G1 18 .mv 2 17 false,G1 19 (.call 67) 18 17 false,G1 20 (.un .not) 19 17 false,⟨(some 21),.pick,[(.t 17),(.k (.bool true)),(.t 20)],none⟩]) (.cond (.t 21) (.seq (.reg false [⟨(some 22),(.build [(iV 0),(iV 0),(iV 0)] []),[],none⟩,⟨none,(.store 3),[(.t 6),(.t 22)],none⟩,K1 7 .mv (.bool false)]) .ret) .skip)) (.seq (.reg false [O1 24 .mv 0,O1 25 .mv 1,O2 26 (.call 68) 24 25,O1 27 .mv 2,O2 28 (.call 1050704) 26 27,O1 23 .mv 28,O1 29 (.ext 0) 23,O1 30 (.ext 1) 23,⟨(some 8),(.alloc 68 [(iV 0),(iV 0),(iV 0)]),[],none⟩,⟨none,(.store 3),[(.t 8),(.t 29)],none⟩,O1 9 .mv 30]) (.seq (.reg false [O1 31 (.loadN 3) 8,O1 32 .mv 9,⟨none,(.store 3),[(.t 6),(.t 31)],none⟩,O1 7 .mv 32]) .ret)))),[(.bn 6 3),(.s 7)]⟩
theorem x37_ok:xfn Tryz.prog Tryz.f37=some x37.er:=by kernel_rfl
theorem mt133:mapT Tryz.prog 133=some (false,(.agg #[.int .i64 0,.int .i64 0,.int .i64 0])):=by kernel_rfl
def g1050704:Con:=lookCon true false (.agg #[.int .i64 0,.int .i64 0,.int .i64 0])
theorem c1050704:COk Tryz.prog 1050704 g1050704:=cok_lookO (t:=133) mt133
def g1050706:Con:=updCon false
theorem c1050706:COk Tryz.prog 1050706 g1050706:=cok_upd (t:=133) mt133
def g1050707:Con:=mkmCon false
theorem c1050707:COk Tryz.prog 1050707 g1050707:=cok_mkm (t:=133) mt133
def g64:Con:=fun args_ E_ nn_=>match args_ with
 | []=>some (.e (True) (.o (.c (.p (nn_+0) 0))) [((nn_+0),.box [.v (.slice none 0 0)] 178)] (nn_+1))
 | _=>none
theorem c64:COk Tryz.prog 64 g64:=by
 refine cok_d Tryz.func64 x64_ok (by kernel_rfl) (cok_tab cok_nil) ?_
 intro args_ E_ nn_ cr_ hg_
 unfold g64 at hg_
 split at hg_
 ·skip
  cases hg_
  refine ⟨_,_,_,_,rfl,0,[],[],[],.o (.c (.p 0 0)),[(0,.box [.v (.slice none 0 0)] 178)],1,rfl,rfl,by simp only [renE,Ent.ren,rowF_renf]<;>rfl,rfl,by decide,and4 (by simp only [push_cast,Nat.reduceLT,Nat.reduceAdd]) ⟨rfl,trivial,by simp only [keysNodup,outN,keys]<;>decide,rfl,.inr trivial,?_⟩⟩
  intro hpre hlen
  refine ⟨trivial,by simp only [apartE]<;>(first | trivial | (simp [Ent.mut]; done)),?_⟩
  simp (maxSteps:=9999999) only [x64,push_cast,simprocAttr]
 ·cases hg_
def g68:Con:=fun args_ E_ nn_=>match args_ with
 | [.c (.p r 0),.c (.v (.int .i64 a))]=>(match E_ r with
  | some (.box [.n r_l] r_ty)=>(match E_ r_l with
  | some (.own r_l_n r_l_s r_l_f r_l_ty)=>some (.e ((isRow eRl r_l_n r_l_s r_l_f∧r_l_s=eRl.sz∧r_l_ty=70)∧r≠r_l∧(∀ r∈(decL eRl r_l_n r_l_f),goodR r)∧(0≤a∧a < 8)∧((decL eRl r_l_n r_l_f)).length≤100000) (.o (.c (.n (nn_+0)))) [((nn_+0),.dm false (mapF eFr (fromF (decL eRl r_l_n r_l_f) a))),(r,.box [.n r_l] r_ty),(r_l,.own ((decL eRl r_l_n r_l_f)).length 5 (rowF eRl ((decL eRl r_l_n r_l_f))) 70)] (nn_+1))
  | _=>none)
  | _=>none)
 | _=>none
theorem c68:COk Tryz.prog 68 g68:=by
 refine cok_d Tryz.func68 x68_ok (by kernel_rfl) (cok_tab (cok_cons c109 (cok_cons c110 (cok_cons c1050704 (cok_cons c1050706 (cok_cons c1050707 cok_nil)))))) ?_
 intro args_ E_ nn_ cr_ hg_
 unfold g68 at hg_
 split at hg_
 ·rename_i r a
  split at hg_
  ·rename_i r_l r_ty h_r
   split at hg_
   ·rename_i r_l_n r_l_s r_l_f r_l_ty h_r_l
    cases hg_
    refine ⟨_,_,_,_,rfl,2,[r,r_l],[.c (.p 0 0),.c (.v (.int .i64 a))],[(0,.box [.n 1] r_ty),(1,.own (decL eRl r_l_n r_l_f).length eRl.sz (rowF eRl (decL eRl r_l_n r_l_f)) 70)],.o (.c (.n 2)),[(2,.dm false (mapF eFr (fromF (decL eRl r_l_n r_l_f) a))),(0,.box [.n 1] r_ty),(1,.own ((decL eRl r_l_n r_l_f)).length 5 (rowF eRl ((decL eRl r_l_n r_l_f))) 70)],3,rfl,rfl,by simp only [renE,Ent.ren,rowF_renf]<;>rfl,rfl,by decide,and4 (by simp only [push_cast,Nat.reduceLT,Nat.reduceAdd]) ⟨rfl,⟨⟨_,h_r⟩,⟨_,h_r_l⟩,trivial⟩,by simp only [keysNodup,outN,keys]<;>decide,rfl,.inr ⟨.inl rfl,.inl rfl,trivial⟩,?_⟩⟩
    intro hpre hlen
    obtain ⟨i_r_l,hpre⟩:=hpre
    obtain ⟨n_r_r_l,hpre⟩:=hpre
    have hap:apartE (sg 2 nn_ [r,r_l]) [(0,.box [.n 1] r_ty),(1,.own (decL eRl r_l_n r_l_f).length eRl.sz (rowF eRl (decL eRl r_l_n r_l_f)) 70)] [(0,.box [.n 1] r_ty),(1,.own (decL eRl r_l_n r_l_f).length eRl.sz (rowF eRl (decL eRl r_l_n r_l_f)) 70)]:=by
     refine ⟨fun _ k2 e2 hm hne=>?_,?_⟩
     ·simp only [List.mem_cons,List.not_mem_nil,or_false,Prod.mk.injEq] at hm
      rcases hm with ⟨rfl,_⟩ | ⟨rfl,_⟩
      ·exact absurd rfl hne
      ·exact fun hh=>n_r_r_l (Eq.symm (show r_l=r from hh))
     refine ⟨fun _ k2 e2 hm hne=>?_,?_⟩
     ·simp only [List.mem_cons,List.not_mem_nil,or_false,Prod.mk.injEq] at hm
      rcases hm with ⟨rfl,_⟩ | ⟨rfl,_⟩
      ·exact fun hh=>n_r_r_l (show r=r_l from hh)
      ·exact absurd rfl hne
     trivial
    refine ⟨⟨⟨_,h_r,by simp only [leE,mapEq,SC.ren,and_true,true_and,and_self]<;>first | rfl | exact ⟨rfl,rfl⟩⟩,inE_ownT h_r_l i_r_l,trivial⟩,hap,?_⟩
    have z_r_l:(decL eRl r_l_n r_l_f).length≤9223372036854775807:=by rw [decL_len]; exact hlen _ _ h_r_l
    clear i_r_l
    generalize decL eRl r_l_n r_l_f=r_lL at *
    clear h_r_l
    simp (maxSteps:=9999999) only [x68,push_cast,simprocAttr,g109,g110,g1050704,g1050706,g1050707]
    obtain ⟨hg,ha,hlen⟩:=hpre
    refine vcLoop_upd (α:={s:Nat × Bool // s.1≤8∧(s.2=true→s.1+1≤(iterF r_lL [⟨a,idF⟩] s.1).length)∧(s.2=false→passF r_lL (iterF r_lL [⟨a,idF⟩] s.1)=iterF r_lL [⟨a,idF⟩] s.1)}) [0,5] 0 (fun s=>[(6,.o (.c (.v (.bool (s.1.2)))))]) (fun s=>[(2,.dm false (mapF eFr (iterF r_lL [⟨a,idF⟩] s.1.1))),(0,.box [.n 1] r_ty),(1,.own (r_lL).length 5 (rowF eRl (r_lL)) 70)]) (fun s=>8 - s.1.1) ⟨(0,true),by simp only; omega,fun _=>Nat.le_refl _,fun h=>by cases h⟩ ?_ ?_
    ·simp only [push_cast,simprocAttr,g109,g110,g1050704,g1050706,g1050707]
     exact .inl rfl
    rintro ⟨⟨k,b⟩,hk,ht,hf⟩
    simp only at hk ht hf
    cases b with
    | false=>
     simp only [x68L1,push_cast,simprocAttr,g109,g110,g1050704,g1050706,g1050707]
     exact .inl (by rw [from_fix hk (hf rfl)])
    | true=>
     simp only [x68L1,push_cast,simprocAttr,g109,g110,g1050704,g1050706,g1050707]
     have hI:InvF (iterF r_lL [⟨a,idF⟩] k):=(InvF.one ha).iter hg k
     have hl1:=ht rfl
     have hl2:=hI.len
     refine vcLoop_upd (α:={j:Nat // j≤r_lL.length}) [0,5,21,22] 0 (fun s=>[(6,.o (.c (.v (.bool (decide (¬ (passF (r_lL.take s.1) (iterF r_lL [⟨a,idF⟩] k)).length=(iterF r_lL [⟨a,idF⟩] k).length)))))),(23,.o (.c (.v (.int .i64 (s.1:Nat)))))]) (fun s=>[(2,.dm false (mapF eFr (passF (r_lL.take s.1) (iterF r_lL [⟨a,idF⟩] k)))),(0,.box [.n 1] r_ty),(1,.own (r_lL).length 5 (rowF eRl (r_lL)) 70)]) (fun s=>r_lL.length - s.1) ⟨0,by omega⟩ ?_ ?_
     ·simp only [push_cast,simprocAttr,g109,g110,g1050704,g1050706,g1050707]
      exact ⟨by simp [passF],.inl rfl⟩
     rintro ⟨j,hj⟩
     have hIj:InvF (passF (r_lL.take j) (iterF r_lL [⟨a,idF⟩] k)):=hI.pass (take_all hg j)
     have hpj:=(pass_len (r_lL.take j) (iterF r_lL [⟨a,idF⟩] k)).1
     have hnext:iterF r_lL [⟨a,idF⟩] (k+1)=passF r_lL (iterF r_lL [⟨a,idF⟩] k):=rfl
     have hd1:=findDM_K (r_lL.getD j eRl.dflt).A (passF (r_lL.take j) (iterF r_lL [⟨a,idF⟩] k))
     have hd2:=findDM_K (r_lL.getD j eRl.dflt).B (passF (r_lL.take j) (iterF r_lL [⟨a,idF⟩] k))
     cases h1:lkK (passF (r_lL.take j) (iterF r_lL [⟨a,idF⟩] k)) (r_lL.getD j eRl.dflt).A with
     | none=>
      cases h2:lkK (passF (r_lL.take j) (iterF r_lL [⟨a,idF⟩] k)) (r_lL.getD j eRl.dflt).B with
      | none=>
       rw [h1] at hd1; rw [h2] at hd2
       simp only [Option.map_none,Option.map_some] at hd1 hd2
       simp only [x68L0,push_cast,simprocAttr,g109,g110,g1050704,g1050706,g1050707,hd1,hd2]
       have hs:stepF (passF (r_lL.take j) (iterF r_lL [⟨a,idF⟩] k)) (r_lL.getD j eRl.dflt)=(passF (r_lL.take j) (iterF r_lL [⟨a,idF⟩] k)):=by unfold stepF; rw [h1,h2]
       refine ⟨fun hlt=>?_,fun hn=>?_⟩
       ·have hp:=pass_take (m:=(iterF r_lL [⟨a,idF⟩] k)) hlt
        rw [hs] at hp
        exact ⟨hlt,hlt,⟨j+1,hlt⟩,⟨⟨by simp only [hp],wrapI (by omega) (by omega)⟩,.inl (by simp only [hp])⟩,by simp only; omega⟩
       ·obtain rfl:j=r_lL.length:=by omega
        have hpl:=pass_len r_lL (iterF r_lL [⟨a,idF⟩] k)
        rw [List.take_length]
        refine ⟨⟨(k+1,decide (¬ (passF r_lL (iterF r_lL [⟨a,idF⟩] k)).length=(iterF r_lL [⟨a,idF⟩] k).length)),by simp only; omega,fun h=>?_,fun h=>?_⟩,⟨rfl,.inl rfl⟩,by simp only; omega⟩
        ·have:=of_decide_eq_true h
         show k+1+1≤(passF r_lL (iterF r_lL [⟨a,idF⟩] k)).length
         omega
        ·have:=of_decide_eq_false h
         show passF r_lL (passF r_lL (iterF r_lL [⟨a,idF⟩] k))=passF r_lL (iterF r_lL [⟨a,idF⟩] k)
         rw [hpl.2 (by omega),hpl.2 (by omega)]
      | some v=>
       rw [h1] at hd1; rw [h2] at hd2
       simp only [Option.map_none,Option.map_some] at hd1 hd2
       simp only [x68L0,push_cast,simprocAttr,g109,g110,g1050704,g1050706,g1050707,hd1,hd2]
       have hs:stepF (passF (r_lL.take j) (iterF r_lL [⟨a,idF⟩] k)) (r_lL.getD j eRl.dflt)=(passF (r_lL.take j) (iterF r_lL [⟨a,idF⟩] k))++[⟨(r_lL.getD j eRl.dflt).A,mulF v.f (invF (rlF (r_lL.getD j eRl.dflt)))⟩]:=by unfold stepF; rw [h1,h2]
       have hv:=hIj.bd (lkK_mem h2).1
       refine ⟨fun hlt=>?_,fun hn=>?_⟩
       ·obtain ⟨_,_,_,r1,r2⟩:=hg _ (getR_mem hlt)
        have hp:=pass_take (m:=(iterF r_lL [⟨a,idF⟩] k)) hlt
        rw [hs] at hp
        have hi:=invF_bd (f:=rlF (r_lL.getD j eRl.dflt)) ⟨r1,r2⟩
        have w1:bd 100000000 (r_lL.getD j eRl.dflt).X:=by unfold bd at *; omega
        have w2:bd 100000000 (r_lL.getD j eRl.dflt).Y:=by unfold bd at *; omega
        have w3:bd 100000000 (invF (rlF (r_lL.getD j eRl.dflt))).x:=by unfold bd at *; omega
        have w4:bd 100000000 (invF (rlF (r_lL.getD j eRl.dflt))).y:=by unfold bd at *; omega
        have w5:bd 100000000 v.f.x:=by unfold bd at *; omega
        have w6:bd 100000000 v.f.y:=by unfold bd at *; omega
        refine ⟨hlt,hlt,⟨w1,w2⟩,⟨w3,w4,w5,w6⟩,by rfl,⟨j+1,hlt⟩,⟨⟨?_,wrapI (by omega) (by omega)⟩,.inl ?_⟩,by simp only; omega⟩
        ·simp only
         rw [hp,List.length_append,List.length_singleton]
         exact (decide_eq_true (by omega)).symm
        ·simp only
         rw [hp]
         exact (updDM_K _ (mulF v.f (invF (rlF (r_lL.getD j eRl.dflt)))) _ h1).symm
       ·obtain rfl:j=r_lL.length:=by omega
        have hpl:=pass_len r_lL (iterF r_lL [⟨a,idF⟩] k)
        rw [List.take_length]
        refine ⟨⟨(k+1,decide (¬ (passF r_lL (iterF r_lL [⟨a,idF⟩] k)).length=(iterF r_lL [⟨a,idF⟩] k).length)),by simp only; omega,fun h=>?_,fun h=>?_⟩,⟨rfl,.inl rfl⟩,by simp only; omega⟩
        ·have:=of_decide_eq_true h
         show k+1+1≤(passF r_lL (iterF r_lL [⟨a,idF⟩] k)).length
         omega
        ·have:=of_decide_eq_false h
         show passF r_lL (passF r_lL (iterF r_lL [⟨a,idF⟩] k))=passF r_lL (iterF r_lL [⟨a,idF⟩] k)
         rw [hpl.2 (by omega),hpl.2 (by omega)]
     | some u=>
      cases h2:lkK (passF (r_lL.take j) (iterF r_lL [⟨a,idF⟩] k)) (r_lL.getD j eRl.dflt).B with
      | none=>
       rw [h1] at hd1; rw [h2] at hd2
       simp only [Option.map_none,Option.map_some] at hd1 hd2
       simp only [x68L0,push_cast,simprocAttr,g109,g110,g1050704,g1050706,g1050707,hd1,hd2]
       have hs:stepF (passF (r_lL.take j) (iterF r_lL [⟨a,idF⟩] k)) (r_lL.getD j eRl.dflt)=(passF (r_lL.take j) (iterF r_lL [⟨a,idF⟩] k))++[⟨(r_lL.getD j eRl.dflt).B,mulF u.f (rlF (r_lL.getD j eRl.dflt))⟩]:=by unfold stepF; rw [h1,h2]
       have hv:=hIj.bd (lkK_mem h1).1
       refine ⟨fun hlt=>?_,fun hn=>?_⟩
       ·obtain ⟨_,_,_,r1,r2⟩:=hg _ (getR_mem hlt)
        have hp:=pass_take (m:=(iterF r_lL [⟨a,idF⟩] k)) hlt
        rw [hs] at hp
        have hi:=invF_bd (f:=rlF (r_lL.getD j eRl.dflt)) ⟨r1,r2⟩
        have w1:bd 100000000 (r_lL.getD j eRl.dflt).X:=by unfold bd at *; omega
        have w2:bd 100000000 (r_lL.getD j eRl.dflt).Y:=by unfold bd at *; omega
        have w3:bd 100000000 (invF (rlF (r_lL.getD j eRl.dflt))).x:=by unfold bd at *; omega
        have w4:bd 100000000 (invF (rlF (r_lL.getD j eRl.dflt))).y:=by unfold bd at *; omega
        have w5:bd 100000000 u.f.x:=by unfold bd at *; omega
        have w6:bd 100000000 u.f.y:=by unfold bd at *; omega
        refine ⟨hlt,hlt,⟨w1,w2,w5,w6⟩,by rfl,⟨j+1,hlt⟩,⟨⟨?_,wrapI (by omega) (by omega)⟩,.inl ?_⟩,by simp only; omega⟩
        ·simp only
         rw [hp,List.length_append,List.length_singleton]
         exact (decide_eq_true (by omega)).symm
        ·simp only
         rw [hp]
         exact (updDM_K _ (mulF u.f (rlF (r_lL.getD j eRl.dflt))) _ h2).symm
       ·obtain rfl:j=r_lL.length:=by omega
        have hpl:=pass_len r_lL (iterF r_lL [⟨a,idF⟩] k)
        rw [List.take_length]
        refine ⟨⟨(k+1,decide (¬ (passF r_lL (iterF r_lL [⟨a,idF⟩] k)).length=(iterF r_lL [⟨a,idF⟩] k).length)),by simp only; omega,fun h=>?_,fun h=>?_⟩,⟨rfl,.inl rfl⟩,by simp only; omega⟩
        ·have:=of_decide_eq_true h
         show k+1+1≤(passF r_lL (iterF r_lL [⟨a,idF⟩] k)).length
         omega
        ·have:=of_decide_eq_false h
         show passF r_lL (passF r_lL (iterF r_lL [⟨a,idF⟩] k))=passF r_lL (iterF r_lL [⟨a,idF⟩] k)
         rw [hpl.2 (by omega),hpl.2 (by omega)]
      | some v=>
       rw [h1] at hd1; rw [h2] at hd2
       simp only [Option.map_none,Option.map_some] at hd1 hd2
       simp only [x68L0,push_cast,simprocAttr,g109,g110,g1050704,g1050706,g1050707,hd1,hd2]
       have hs:stepF (passF (r_lL.take j) (iterF r_lL [⟨a,idF⟩] k)) (r_lL.getD j eRl.dflt)=(passF (r_lL.take j) (iterF r_lL [⟨a,idF⟩] k)):=by unfold stepF; rw [h1,h2]
       refine ⟨fun hlt=>?_,fun hn=>?_⟩
       ·have hp:=pass_take (m:=(iterF r_lL [⟨a,idF⟩] k)) hlt
        rw [hs] at hp
        exact ⟨hlt,hlt,⟨j+1,hlt⟩,⟨⟨by simp only [hp],wrapI (by omega) (by omega)⟩,.inl (by simp only [hp])⟩,by simp only; omega⟩
       ·obtain rfl:j=r_lL.length:=by omega
        have hpl:=pass_len r_lL (iterF r_lL [⟨a,idF⟩] k)
        rw [List.take_length]
        refine ⟨⟨(k+1,decide (¬ (passF r_lL (iterF r_lL [⟨a,idF⟩] k)).length=(iterF r_lL [⟨a,idF⟩] k).length)),by simp only; omega,fun h=>?_,fun h=>?_⟩,⟨rfl,.inl rfl⟩,by simp only; omega⟩
        ·have:=of_decide_eq_true h
         show k+1+1≤(passF r_lL (iterF r_lL [⟨a,idF⟩] k)).length
         omega
        ·have:=of_decide_eq_false h
         show passF r_lL (passF r_lL (iterF r_lL [⟨a,idF⟩] k))=passF r_lL (iterF r_lL [⟨a,idF⟩] k)
         rw [hpl.2 (by omega),hpl.2 (by omega)]
   ·cases hg_
  ·cases hg_
 ·cases hg_
end Go.Proofs.YtgpbokembopapaaGreat
namespace Go.Proofs.YtgpbokembopapaaGreat
open Go.Sx Go.Way
def btwO (l:List RL) (a b:Int):Option FR:=(lkK (fromF l a) b).map KF.f
def btwF (l:List RL) (a b:Int):FR:=(btwO l a b).getD idF
def nmR (r:RL):RL:=⟨r.A,r.B,r.Q % 4,r.X,r.Y⟩
def addF (l:List RL) (r:RL):List RL:=if (btwO l r.A r.B).isSome=true then l else l++[nmR r]
def addE (l:List RL) (r:RL):Int:=if (btwO l r.A r.B).isSome=true∧btwF l r.A r.B≠rlF (nmR r) then 11 else 0
def frmL (L:List RL):List RL:=L.foldl addF []
theorem good_nm {r:RL} (h:goodR r):goodR (nmR r):=h
theorem addF_good {l:List RL} {r:RL} (hl:∀ x∈l,goodR x) (h:goodR r):∀ x∈addF l r,goodR x:=by
 intro x hx
 unfold addF at hx
 split at hx
 ·exact hl x hx
 ·rcases List.mem_append.1 hx with hx | hx
  ·exact hl x hx
  ·simp only [List.mem_singleton] at hx; subst hx; exact good_nm h
theorem addF_len (l:List RL) (r:RL):(addF l r).length≤l.length+1:=by
 unfold addF; split
 ·omega
 ·rw [List.length_append]; simp
theorem foldA_take {L:List RL} {k:Nat} (h:k < L.length):(L.take (k+1)).foldl addF []=addF ((L.take k).foldl addF []) (L.getD k eRl.dflt):=by
 rw [List.take_add_one,List.getElem?_eq_getElem h,List.foldl_append]
 simp only [Option.toList_some,List.foldl_cons,List.foldl_nil,List.getD_eq_getElem?_getD,List.getElem?_eq_getElem h,Option.getD_some]
theorem foldA_good {L:List RL}:∀ {l:List RL},(∀ x∈l,goodR x)→(∀ x∈L,goodR x)→∀ x∈L.foldl addF l,goodR x:=by
 induction L with
 | nil=>exact fun h _=>h
 | cons r L ih=>exact fun h h2=>ih (addF_good h (h2 r (by simp))) (fun x hx=>h2 x (by simp [hx]))
theorem foldA_len {L:List RL}:∀ {l:List RL},(L.foldl addF l).length≤l.length+L.length:=by
 induction L with
 | nil=>intro l; simp
 | cons r L ih=>
  intro l
  have h1:=ih (l:=addF l r)
  have h2:=addF_len l r
  simp only [List.foldl_cons,List.length_cons]
  omega
theorem add_new {l:List RL} {r:RL} (h:(btwO l r.A r.B).isSome=false):addE l r=0∧addF l r=l++[nmR r]:=by
 unfold addE addF
 rw [h]
 exact ⟨by simp,by simp⟩
theorem add_no {l:List RL} {r:RL} (h:(btwO l r.A r.B).isSome=true) (h2:btwF l r.A r.B≠rlF (nmR r)):addE l r=11∧addF l r=l:=by
 unfold addE addF
 rw [if_pos ⟨h,h2⟩,if_pos h]
 exact ⟨rfl,rfl⟩
theorem add_yes {l:List RL} {r:RL} (h:(btwO l r.A r.B).isSome=true) (h2:btwF l r.A r.B=rlF (nmR r)):addE l r=0∧addF l r=l:=by
 unfold addE addF
 rw [if_neg (fun q=>q.2 h2),if_pos h]
 exact ⟨rfl,rfl⟩
theorem FR_ext {a b:FR} (h1:a.q=b.q) (h2:a.x=b.x) (h3:a.y=b.y):a=b:=by
 cases a; cases b; simp only at h1 h2 h3; subst h1; subst h2; subst h3; rfl
def x65:XFn:=⟨75,(.seq (.reg false [O1 3 (.box 70) 1,K1 4 .mv (iV 0)]) (.seq (.seq (.reg false [O1 7 .mv 0,⟨(some 8),(.x (.eqP false)),[(.t 7),(.k (.pointer none))],none⟩,O1 9 .mv 8,G1 10 (.fld 0) 3 9 false,G1 11 .load1 10 9 false,G1 12 (.call 67) 11 9 false,G1 13 (.un .not) 12 9 false,⟨(some 14),.pick,[(.t 9),(.k (.bool true)),(.t 13)],none⟩,O1 15 .mv 14,G1 16 (.fld 1) 3 15 false,G1 17 .load1 16 15 false,G1 18 (.call 67) 17 15 false,G1 19 (.un .not) 18 15 false,⟨(some 20),.pick,[(.t 15),(.k (.bool true)),(.t 19)],none⟩,O1 21 .mv 20,G1 22 (.fld 0) 3 21 false,G1 23 .load1 22 21 false,G1 24 (.fld 1) 3 21 false,G1 25 .load1 24 21 false,G2 26 (.bin .eql) 23 25 21 false,⟨(some 27),.pick,[(.t 21),(.k (.bool true)),(.t 26)],none⟩,O1 28 .mv 27,G1 29 (.fld 2) 3 28 false,G1 30 (.fld 1) 29 28 false,G1 31 .load1 30 28 false,GK 32 (.call 107) 31 (iV 1024) 28 false,G1 33 (.un .not) 32 28 false,⟨(some 34),.pick,[(.t 28),(.k (.bool true)),(.t 33)],none⟩,O1 35 .mv 34,G1 36 (.fld 2) 3 35 false,G1 37 (.fld 2) 36 35 false,G1 38 .load1 37 35 false,GK 39 (.call 107) 38 (iV 1024) 35 false,G1 40 (.un .not) 39 35 false,⟨(some 41),.pick,[(.t 35),(.k (.bool true)),(.t 40)],none⟩]) (.cond (.t 41) (.seq (.reg false [K1 4 .mv (iV 1)]) .ret) .skip)) (.seq (.reg false [O1 42 (.fld 2) 3,O1 43 (.fld 0) 42,O1 44 .load1 43,K2 45 (.bin .and) 44 (iV 3),O1 46 (.fld 2) 3,O1 47 (.fld 0) 46,⟨none,(.store 1),[(.t 47),(.t 45)],none⟩]) (.seq (.reg false [O1 49 .mv 0,O1 50 (.fld 0) 3,O1 51 .load1 50,O1 52 (.fld 1) 3,O1 53 .load1 52,⟨(some 54),(.call 37),[(.t 49),(.t 51),(.t 53)],none⟩,O1 48 .mv 54,O1 55 (.ext 0) 48,O1 56 (.ext 1) 48,⟨(some 5),(.alloc 68 [(iV 0),(iV 0),(iV 0)]),[],none⟩,⟨none,(.store 3),[(.t 5),(.t 55)],none⟩,O1 6 .mv 56]) (.seq (.block 0 (.seq (.reg false [O1 58 .mv 6,O1 59 (.un .not) 58,O1 57 .mv 59]) (.cond (.t 57) (.regD [O1 60 .mv 0,O1 61 .mv 0,O1 62 .nilc 61,O1 63 (.fld 0) 62,O1 64 .load1 63,O1 65 (.loadN 5) 3,⟨(some 66),(.slit 70 1 5 [(iV 0),(iV 0),(iV 0),(iV 0),(iV 0)] [(0,5)]),[(.t 65)],none⟩,O2 67 (.app 70 5 40) 64 66,O1 68 .nilc 60,O1 69 (.fld 0) 68,⟨none,(.store 1),[(.t 69),(.t 67)],none⟩] [[],[],[1],[2,1],[3,2,1],[],[5],[4,3,2,1,6,5],[0,1,2,3,4,5,6,7],[8,0,1,2,3,4,5,6,7],[9,8,0,1,2,3,4,5,6,7]]) (.seq (.reg false [O1 71 (.loadN 3) 5,O1 72 (.fld 2) 3,O1 73 (.loadN 3) 72,⟨(some 74),(.eqA true [(.i .i64),(.i .i64),(.i .i64)]),[(.t 71),(.t 73)],none⟩,O1 70 .mv 74]) (.cond (.t 70) (.seq (.reg false [K1 4 .mv (iV 11)]) .ret) .skip))))) (.seq (.reg false [K1 4 .mv (iV 0)]) .ret)))))),[(.s 4)]⟩
theorem x65_ok:xfn Tryz.prog Tryz.f65=some x65.er:=by kernel_rfl
def x31L0:XC:=(.seq (.reg false [O2 13 (.bin .lss) 12 11]) (.seq (.cond (.t 13) .skip (.exit 0)) (.seq (.block 1 (.seq (.reg false [O2 14 (.ixS 5) 10 12,O1 15 (.loadN 5) 14,⟨(some 5),(.alloc 70 [(iV 0),(iV 0),(iV 0),(iV 0),(iV 0)]),[],none⟩,⟨none,(.store 5),[(.t 5),(.t 15)],none⟩]) (.reg false [O1 16 .mv 3,O1 17 (.loadN 5) 5,O2 18 (.call 65) 16 17]))) (.reg false [K2 19 (.bin .add) 12 (iV 1),O1 12 .mv 19]))))
def x31:XFn:=⟨21,(.seq (.reg false [K1 2 .mv (.pointer none)]) (.seq (.seq (.reg false [O1 6 .mv 0,⟨(some 7),(.x (.eqP false)),[(.t 6),(.k (.pointer none))],none⟩]) (.cond (.t 7) (.seq (.reg false [K1 2 .mv (.pointer none)]) .ret) .skip)) (.seq (.reg false [⟨(some 8),(.call 64),[],none⟩,O1 3 .mv 8]) (.seq (.seq (.reg false [O1 9 .mv 0,O1 10 (.call 36) 9,O1 11 .lenS 10,K1 12 .mv (iV 0)]) (.block 0 (.loop x31L0))) (.seq (.reg false [O1 20 .mv 3,O1 2 .mv 20]) .ret))))),[(.s 2)]⟩
theorem x31_ok:xfn Tryz.prog Tryz.f31=some x31.er:=by kernel_rfl
def g37:Con:=fun args_ E_ nn_=>match args_ with
 | [.c (.p r 0),.c (.v (.int .i64 a)),.c (.v (.int .i64 b))]=>(match E_ r with
  | some (.box [.n r_l] r_ty)=>(match E_ r_l with
  | some (.own r_l_n r_l_s r_l_f r_l_ty)=>some (.e ((isRow eRl r_l_n r_l_s r_l_f∧r_l_s=eRl.sz∧r_l_ty=70)∧r≠r_l∧(∀ r∈(decL eRl r_l_n r_l_f),goodR r)∧((decL eRl r_l_n r_l_f)).length≤1000∧(0≤a∧a < 8)∧(0≤b∧b < 8)) (.t [.a [.v (.int .i64 (btwF (decL eRl r_l_n r_l_f) a b).q),.v (.int .i64 (btwF (decL eRl r_l_n r_l_f) a b).x),.v (.int .i64 (btwF (decL eRl r_l_n r_l_f) a b).y)],.c (.v (.bool ((btwO (decL eRl r_l_n r_l_f) a b).isSome)))]) [(r,.box [.n r_l] r_ty),(r_l,.own ((decL eRl r_l_n r_l_f)).length 5 (rowF eRl ((decL eRl r_l_n r_l_f))) 70)] (nn_+0))
  | _=>none)
  | _=>none)
 | _=>none
theorem c37:COk Tryz.prog 37 g37:=by
 refine cok_d Tryz.func37 x37_ok (by kernel_rfl) (cok_tab (cok_cons c67 (cok_cons c68 (cok_cons c1050704 cok_nil)))) ?_
 intro args_ E_ nn_ cr_ hg_
 unfold g37 at hg_
 split at hg_
 ·rename_i r a b
  split at hg_
  ·rename_i r_l r_ty h_r
   split at hg_
   ·rename_i r_l_n r_l_s r_l_f r_l_ty h_r_l
    cases hg_
    refine ⟨_,_,_,_,rfl,2,[r,r_l],[.c (.p 0 0),.c (.v (.int .i64 a)),.c (.v (.int .i64 b))],[(0,.box [.n 1] r_ty),(1,.own (decL eRl r_l_n r_l_f).length eRl.sz (rowF eRl (decL eRl r_l_n r_l_f)) 70)],.t [.a [.v (.int .i64 (btwF (decL eRl r_l_n r_l_f) a b).q),.v (.int .i64 (btwF (decL eRl r_l_n r_l_f) a b).x),.v (.int .i64 (btwF (decL eRl r_l_n r_l_f) a b).y)],.c (.v (.bool ((btwO (decL eRl r_l_n r_l_f) a b).isSome)))],[(0,.box [.n 1] r_ty),(1,.own ((decL eRl r_l_n r_l_f)).length 5 (rowF eRl ((decL eRl r_l_n r_l_f))) 70)],2,rfl,rfl,by simp only [renE,Ent.ren,rowF_renf]<;>rfl,rfl,by decide,and4 (by simp only [push_cast,Nat.reduceLT,Nat.reduceAdd]) ⟨rfl,⟨⟨_,h_r⟩,⟨_,h_r_l⟩,trivial⟩,by simp only [keysNodup,outN,keys]<;>decide,rfl,.inr ⟨.inl rfl,.inl rfl,trivial⟩,?_⟩⟩
    intro hpre hlen
    obtain ⟨i_r_l,hpre⟩:=hpre
    obtain ⟨n_r_r_l,hpre⟩:=hpre
    have hap:apartE (sg 2 nn_ [r,r_l]) [(0,.box [.n 1] r_ty),(1,.own (decL eRl r_l_n r_l_f).length eRl.sz (rowF eRl (decL eRl r_l_n r_l_f)) 70)] [(0,.box [.n 1] r_ty),(1,.own (decL eRl r_l_n r_l_f).length eRl.sz (rowF eRl (decL eRl r_l_n r_l_f)) 70)]:=by
     refine ⟨fun _ k2 e2 hm hne=>?_,?_⟩
     ·simp only [List.mem_cons,List.not_mem_nil,or_false,Prod.mk.injEq] at hm
      rcases hm with ⟨rfl,_⟩ | ⟨rfl,_⟩
      ·exact absurd rfl hne
      ·exact fun hh=>n_r_r_l (Eq.symm (show r_l=r from hh))
     refine ⟨fun _ k2 e2 hm hne=>?_,?_⟩
     ·simp only [List.mem_cons,List.not_mem_nil,or_false,Prod.mk.injEq] at hm
      rcases hm with ⟨rfl,_⟩ | ⟨rfl,_⟩
      ·exact fun hh=>n_r_r_l (show r=r_l from hh)
      ·exact absurd rfl hne
     trivial
    refine ⟨⟨⟨_,h_r,by simp only [leE,mapEq,SC.ren,and_true,true_and,and_self]<;>first | rfl | exact ⟨rfl,rfl⟩⟩,inE_ownT h_r_l i_r_l,trivial⟩,hap,?_⟩
    have z_r_l:(decL eRl r_l_n r_l_f).length≤9223372036854775807:=by rw [decL_len]; exact hlen _ _ h_r_l
    clear i_r_l
    generalize decL eRl r_l_n r_l_f=r_lL at *
    clear h_r_l
    obtain ⟨hg,hlen,ha,hb⟩:=hpre
    have hd:=findDM_K b (fromF r_lL a)
    cases hf:lkK (fromF r_lL a) b with
    | none=>
     have e1:btwO r_lL a b=none:=by unfold btwO; rw [hf]; rfl
     have e2:btwF r_lL a b=idF:=by unfold btwF; rw [e1]; rfl
     rw [hf] at hd
     simp only [Option.map_none] at hd
     simp only [x37,push_cast,simprocAttr,g67,g68,g1050704,hd,ha,hb]
     rw [e1,e2]
     exact ⟨⟨hg,by omega⟩,⟨rfl,rfl,rfl⟩,rfl⟩
    | some e=>
     have e1:btwO r_lL a b=some e.f:=by unfold btwO; rw [hf]; rfl
     have e2:btwF r_lL a b=e.f:=by unfold btwF; rw [e1]; rfl
     rw [hf] at hd
     simp only [Option.map_some] at hd
     simp only [x37,push_cast,simprocAttr,g67,g68,g1050704,hd,ha,hb]
     rw [e1,e2]
     exact ⟨⟨hg,by omega⟩,⟨rfl,rfl,rfl⟩,rfl⟩
   ·cases hg_
  ·cases hg_
 ·cases hg_
def g65:Con:=fun args_ E_ nn_=>match args_ with
 | [.c (.p r 0),.a [.v (.int .i64 x_A),.v (.int .i64 x_B),.v (.int .i64 x_Frame_Q),.v (.int .i64 x_Frame_X),.v (.int .i64 x_Frame_Y)]]=>(match E_ r with
  | some (.box [.n r_l] r_ty)=>(match E_ r_l with
  | some (.own r_l_n r_l_s r_l_f r_l_ty)=>some (.e ((isRow eRl r_l_n r_l_s r_l_f∧r_l_s=eRl.sz∧r_l_ty=70)∧r≠r_l∧(∀ r∈(decL eRl r_l_n r_l_f),goodR r)∧((decL eRl r_l_n r_l_f)).length≤1000∧goodR (⟨x_A,x_B,x_Frame_Q,x_Frame_X,x_Frame_Y⟩:RL)) (.o (.c (.v (.int .i64 (addE (decL eRl r_l_n r_l_f) (⟨x_A,x_B,x_Frame_Q,x_Frame_X,x_Frame_Y⟩:RL)))))) [(r,.box [.n (nn_+0)] r_ty),((nn_+0),.own (addF (decL eRl r_l_n r_l_f) (⟨x_A,x_B,x_Frame_Q,x_Frame_X,x_Frame_Y⟩:RL)).length 5 (rowF eRl (addF (decL eRl r_l_n r_l_f) (⟨x_A,x_B,x_Frame_Q,x_Frame_X,x_Frame_Y⟩:RL))) 70),(r_l,.dead)] (nn_+1))
  | _=>none)
  | _=>none)
 | _=>none
theorem c65:COk Tryz.prog 65 g65:=by
 refine cok_d Tryz.func65 x65_ok (by kernel_rfl) (cok_tab (cok_cons c67 (cok_cons c107 (cok_cons c37 cok_nil)))) ?_
 intro args_ E_ nn_ cr_ hg_
 unfold g65 at hg_
 split at hg_
 ·rename_i r x_A x_B x_Frame_Q x_Frame_X x_Frame_Y
  split at hg_
  ·rename_i r_l r_ty h_r
   split at hg_
   ·rename_i r_l_n r_l_s r_l_f r_l_ty h_r_l
    cases hg_
    refine ⟨_,_,_,_,rfl,2,[r,r_l],[.c (.p 0 0),.a [.v (.int .i64 x_A),.v (.int .i64 x_B),.v (.int .i64 x_Frame_Q),.v (.int .i64 x_Frame_X),.v (.int .i64 x_Frame_Y)]],[(0,.box [.n 1] r_ty),(1,.own (decL eRl r_l_n r_l_f).length eRl.sz (rowF eRl (decL eRl r_l_n r_l_f)) 70)],.o (.c (.v (.int .i64 (addE (decL eRl r_l_n r_l_f) (⟨x_A,x_B,x_Frame_Q,x_Frame_X,x_Frame_Y⟩:RL))))),[(0,.box [.n 2] r_ty),(2,.own (addF (decL eRl r_l_n r_l_f) (⟨x_A,x_B,x_Frame_Q,x_Frame_X,x_Frame_Y⟩:RL)).length 5 (rowF eRl (addF (decL eRl r_l_n r_l_f) (⟨x_A,x_B,x_Frame_Q,x_Frame_X,x_Frame_Y⟩:RL))) 70),(1,.dead)],3,rfl,rfl,by simp only [renE,Ent.ren,rowF_renf]<;>rfl,rfl,by decide,and4 (by simp only [push_cast,Nat.reduceLT,Nat.reduceAdd]) ⟨rfl,⟨⟨_,h_r⟩,⟨_,h_r_l⟩,trivial⟩,by simp only [keysNodup,outN,keys]<;>decide,rfl,.inr ⟨.inl rfl,.inl rfl,trivial⟩,?_⟩⟩
    intro hpre hlen
    obtain ⟨i_r_l,hpre⟩:=hpre
    obtain ⟨n_r_r_l,hpre⟩:=hpre
    have hap:apartE (sg 2 nn_ [r,r_l]) [(0,.box [.n 1] r_ty),(1,.own (decL eRl r_l_n r_l_f).length eRl.sz (rowF eRl (decL eRl r_l_n r_l_f)) 70)] [(0,.box [.n 1] r_ty),(1,.own (decL eRl r_l_n r_l_f).length eRl.sz (rowF eRl (decL eRl r_l_n r_l_f)) 70)]:=by
     refine ⟨fun _ k2 e2 hm hne=>?_,?_⟩
     ·simp only [List.mem_cons,List.not_mem_nil,or_false,Prod.mk.injEq] at hm
      rcases hm with ⟨rfl,_⟩ | ⟨rfl,_⟩
      ·exact absurd rfl hne
      ·exact fun hh=>n_r_r_l (Eq.symm (show r_l=r from hh))
     refine ⟨fun _ k2 e2 hm hne=>?_,?_⟩
     ·simp only [List.mem_cons,List.not_mem_nil,or_false,Prod.mk.injEq] at hm
      rcases hm with ⟨rfl,_⟩ | ⟨rfl,_⟩
      ·exact fun hh=>n_r_r_l (show r=r_l from hh)
      ·exact absurd rfl hne
     trivial
    refine ⟨⟨⟨_,h_r,by simp only [leE,mapEq,SC.ren,and_true,true_and,and_self]<;>first | rfl | exact ⟨rfl,rfl⟩⟩,inE_ownT h_r_l i_r_l,trivial⟩,hap,?_⟩
    have z_r_l:(decL eRl r_l_n r_l_f).length≤9223372036854775807:=by rw [decL_len]; exact hlen _ _ h_r_l
    clear i_r_l
    generalize decL eRl r_l_n r_l_f=r_lL at *
    clear h_r_l
    simp (maxSteps:=9999999) only [x65,push_cast,simprocAttr,g67,g107,g37,andq3]
    obtain ⟨hg,hlen,hx⟩:=hpre
    refine ⟨fun h=>?_,fun a1 a2 a3 a4 a5 a6 a7=>⟨⟨hg,hlen,⟨a1,a2⟩,a3,a4⟩,fun hn=>⟨by omega,by rfl,(add_new (r:=(⟨x_A,x_B,x_Frame_Q,x_Frame_X,x_Frame_Y⟩:RL)) hn).1.symm,push_eq (E:=eRl) (x:=nmR (⟨x_A,x_B,x_Frame_Q,x_Frame_X,x_Frame_Y⟩:RL)) (add_new (r:=(⟨x_A,x_B,x_Frame_Q,x_Frame_X,x_Frame_Y⟩:RL)) hn).2⟩,fun hs=>⟨fun hb=>?_,fun q1 q2 q3=>?_⟩⟩⟩
    ·have h1:=good_no (Q:=x_Frame_Q) h
     have h2:=good_iff.2 hx
     rw [h1] at h2; cases h2
    ·have:=add_no (r:=(⟨x_A,x_B,x_Frame_Q,x_Frame_X,x_Frame_Y⟩:RL)) hs (fun e=>by rw [e] at hb; simp [rlF,nmR] at hb)
     exact ⟨this.1.symm,same_eq this.2⟩
    ·have:=add_yes (r:=(⟨x_A,x_B,x_Frame_Q,x_Frame_X,x_Frame_Y⟩:RL)) hs (FR_ext q1 q2 q3)
     exact ⟨this.1.symm,same_eq this.2⟩
   ·cases hg_
  ·cases hg_
 ·cases hg_
noncomputable def g31:Con:=fun args_ E_ nn_=>match args_ with
 | [.c (.p s 0)]=>(match E_ s with
  | some (.bx s_n s_f s_ty s_p)=>some (.e (isSt s_n s_f s_ty s_p∧okSt (decX s_f s_p)) (.o (.c (.p (nn_+0) 0))) [((nn_+0),.box [.n (nn_+1)] 178),((nn_+1),.own (frmL (relL (decX s_f s_p))).length 5 (rowF eRl (frmL (relL (decX s_f s_p)))) 70),(s,.bx 73 (stF ((decX s_f s_p)) ((decG s_f s_p))) 130 (stP ((decX s_f s_p)) ((decG s_f s_p))))] (nn_+2))
  | _=>none)
 | _=>none
theorem c31:COk Tryz.prog 31 g31:=by
 refine cok_d Tryz.func31 x31_ok (by kernel_rfl) (cok_tab (cok_cons c64 (cok_cons c36 (cok_cons c65 cok_nil)))) ?_
 intro args_ E_ nn_ cr_ hg_
 unfold g31 at hg_
 split at hg_
 ·rename_i s
  split at hg_
  ·rename_i s_n s_f s_ty s_p h_s
   cases hg_
   refine ⟨_,_,_,_,rfl,1,[s],[.c (.p 0 0)],[(0,.bx 73 (stF (decX s_f s_p) (decG s_f s_p)) 130 (stP (decX s_f s_p) (decG s_f s_p)))],.o (.c (.p 1 0)),[(1,.box [.n 2] 178),(2,.own (frmL (relL (decX s_f s_p))).length 5 (rowF eRl (frmL (relL (decX s_f s_p)))) 70),(0,.bx 73 (stF ((decX s_f s_p)) ((decG s_f s_p))) 130 (stP ((decX s_f s_p)) ((decG s_f s_p))))],3,rfl,rfl,by simp only [renE,Ent.ren,rowF_renf,stF_renF,stP_ren]<;>rfl,rfl,by decide,and4 (by simp only [push_cast,Nat.reduceLT,Nat.reduceAdd]) ⟨rfl,⟨⟨_,h_s⟩,trivial⟩,by simp only [keysNodup,outN,keys]<;>decide,rfl,.inr ⟨.inl rfl,trivial⟩,?_⟩⟩
   intro hpre hlen
   obtain ⟨i_s,hpre⟩:=hpre
   have hap:apartE (sg 1 nn_ [s]) [(0,.bx 73 (stF (decX s_f s_p) (decG s_f s_p)) 130 (stP (decX s_f s_p) (decG s_f s_p)))] [(0,.bx 73 (stF (decX s_f s_p) (decG s_f s_p)) 130 (stP (decX s_f s_p) (decG s_f s_p)))]:=by
    refine ⟨fun _ k2 e2 hm hne=>?_,?_⟩
    ·simp only [List.mem_cons,List.not_mem_nil,or_false,Prod.mk.injEq] at hm
     obtain ⟨rfl,_⟩:=hm
     exact absurd rfl hne
    trivial
   refine ⟨⟨⟨_,h_s,isSt_le i_s⟩,trivial⟩,hap,?_⟩
   clear i_s
   generalize decG s_f s_p=sG at *
   generalize decX s_f s_p=sX at *
   clear h_s
   simp (maxSteps:=9999999) only [x31,push_cast,simprocAttr,g64,g36,g65]
   obtain ⟨_,_,_,hR⟩:=hpre
   have hln:=relTo_len sX 8
   have hgd:∀ r∈relL sX,goodR r:=fun r hr=>relL_good hR hr
   refine vcLoop_upd (α:={k:Nat // k≤(relL sX).length}) [3,10,11] 1 (fun s=>[(12,.o (.c (.v (.int .i64 (s.1:Nat)))))]) (fun s=>[(1,.box [.n 3] 178),(3,.own (((relL sX).take s.1).foldl addF []).length 5 (rowF eRl (((relL sX).take s.1).foldl addF [])) 70),(0,.bx 73 (stF (sX) (sG)) 130 (stP (sX) (sG))),(2,.own (relL sX).length 5 (rowF eRl (relL sX)) 70)]) (fun s=>(relL sX).length - s.1) ⟨0,by omega⟩ ?_ ?_
   ·simp only [push_cast,simprocAttr,g64,g36,g65]
    rfl
   rintro ⟨k,hk⟩
   simp only [x31L0,push_cast,simprocAttr,g64,g36,g65]
   have hl2:((relL sX).take k).length≤64:=by
    rw [List.length_take]
    have:(relL sX).length≤8 * 8:=hln
    omega
   have hl3:=foldA_len (L:=(relL sX).take k) (l:=[])
   simp only [List.length_nil,Nat.zero_add] at hl3
   refine ⟨fun hl=>⟨hl,hl,⟨foldA_good (fun _ h=>by cases h) (take_all hgd k),by omega,hgd _ (getR_mem hl)⟩,⟨k+1,hl⟩,⟨wrapI (by omega) (by unfold relL at hl; omega),same_eq (by simp only; rw [foldA_take hl])⟩,by simp only; omega⟩,fun hn=>?_⟩
   obtain rfl:k=(relL sX).length:=by omega
   exact same_eq (by rw [List.take_length]; rfl)
  ·cases hg_
 ·cases hg_
end Go.Proofs.YtgpbokembopapaaGreat
