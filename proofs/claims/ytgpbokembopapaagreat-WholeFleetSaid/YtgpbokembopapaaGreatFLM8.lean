/- A part of the proof of a statement about this seat: how a function is stepped through, and plain laws. No conditions. -/
import Derived.Test.YtgpbokembopapaaGreatRows
import Derived.Test.YtgpbokembopapaaGreatFLSz4
import Derived.Test.YtgpbokembopapaaGreatFLM7
import Derived.KernelRfl
set_option linter.unusedVariables false
set_option linter.unusedSimpArgs false
set_option maxRecDepth 20000
namespace Go.Proofs.YtgpbokembopapaaGreat
open Go.Sx Go.Way
def sumK:List EE→Int × Int→Int × Int
 | [],_=>(0,0)
 | e :: L,c=>if keyE e=c then (e.H+(sumK L c).1,e.P+(sumK L c).2) else sumK L c
theorem sumK_app (A B:List EE) (c:Int × Int):sumK (A++B) c=((sumK A c).1+(sumK B c).1,(sumK A c).2+(sumK B c).2):=by
 induction A with
 | nil=>simp [sumK]
 | cons e A ih=>
  simp only [List.cons_append,sumK]
  split
  ·rw [ih]; simp only [Prod.mk.injEq]; omega
  ·exact ih
theorem atT_addL (c:Int × Int):∀ (L T:List EE),atT (addL T L) c=((atT T c).1+(sumK L c).1,(atT T c).2+(sumK L c).2)
 | [],T=>by simp [addL,sumK]
 | e :: L,T=>by
  have ih:=atT_addL c L (addT T e.X e.Y e.H e.P)
  have h:addL T (e :: L)=addL (addT T e.X e.Y e.H e.P) L:=rfl
  rw [h,ih,atT_addT]
  simp only [sumK]
  by_cases g:c=(e.X,e.Y)
  ·rw [if_pos g,if_pos (show keyE e=c from g.symm)]
   simp only [Prod.mk.injEq]; omega
  ·rw [if_neg g,if_neg (show ¬ keyE e=c from fun h=>g h.symm)]
theorem sumK_none {c:Int × Int}:∀ {T:List EE},c ∉ T.map keyE→sumK T c=(0,0)
 | [],_=>rfl
 | e :: T,h=>by
  rw [List.map_cons,List.mem_cons,not_or] at h
  unfold sumK
  rw [if_neg (fun g=>h.1 g.symm)]
  exact sumK_none h.2
theorem sumK_nodup (c:Int × Int):∀ {T:List EE},(T.map keyE).Nodup→sumK T c=atT T c
 | [],_=>rfl
 | e :: T,h=>by
  rw [List.map_cons,List.nodup_cons] at h
  have ih:=sumK_nodup c h.2
  unfold sumK atT findT
  by_cases g:keyE e=c
  ·rw [if_pos g,if_pos (by rw [← g]; exact ⟨rfl,rfl⟩),sumK_none (by rw [← g]; exact h.1)]
   simp
  ·rw [if_neg g,if_neg (fun q=>g (by unfold keyE; rw [q.1,q.2])),ih]
   rfl
theorem findT_iff {T:List EE} (h:(T.map keyE).Nodup) {e:EE}:e∈T ↔ findT T e.X e.Y=some e:=by
 refine ⟨fun he=>?_,fun hf=>(findT_mem hf).1⟩
 induction T with
 | nil=>cases he
 | cons a T ih=>
  rw [List.map_cons,List.nodup_cons] at h
  unfold findT
  rcases List.mem_cons.1 he with rfl | g
  ·rw [if_pos ⟨rfl,rfl⟩]
  ·rw [if_neg (fun q=>h.1 (List.mem_map.2 ⟨e,g,by unfold keyE; rw [q.1,q.2]⟩))]
   exact ih h.2 g
theorem srt_ext {T U:List EE} (hT:(T.map keyE).Nodup) (hU:(U.map keyE).Nodup) (pT:posL T) (pU:posL U) (h:∀ c,atT T c=atT U c):srtL cmpE T=srtL cmpE U:=by
 have key:∀ {A B:List EE},(A.map keyE).Nodup→(B.map keyE).Nodup→posL A→(∀ c,atT A c=atT B c)→∀ e,e∈A→e∈B:=by
  intro A B hA hB pA hAB e he
  have h1:=(findT_iff hA).1 he
  have h2:=hAB (e.X,e.Y)
  unfold atT at h2
  simp only [h1] at h2
  cases hf:findT B e.X e.Y with
  | none=>
   rw [hf] at h2
   simp only [Prod.mk.injEq] at h2
   have:=pA e he
   unfold posE at this
   omega
  | some e'=>
   rw [hf] at h2
   simp only [Prod.mk.injEq] at h2
   obtain ⟨m1,m2,m3⟩:=findT_mem hf
   have:e'=e:=EE.ext4 m2 m3 h2.1.symm h2.2.symm
   rw [← this]; exact m1
 have nT:T.Nodup:=(List.pairwise_map.1 hT).imp fun hab e=>hab (by rw [e])
 have nU:U.Nodup:=(List.pairwise_map.1 hU).imp fun hab e=>hab (by rw [e])
 have hp:T.Perm U:=(List.perm_ext_iff_of_nodup nT nU).2 fun e=>⟨key hT hU pT h e,key hU hT pU (fun c=>(h c).symm) e⟩
 exact srtL_congr ord_E ((diffL_nodup _).2 hU) hp
theorem sumK_perm {A B:List EE} (c:Int × Int) (h:A.Perm B):sumK A c=sumK B c:=by
 induction h with
 | nil=>rfl
 | cons x _ ih=>simp only [sumK]; rw [ih]
 | swap x y l=>
  simp only [sumK]
  split<;>split<;>simp only [Prod.mk.injEq]<;>omega
 | trans _ _ h1 h2=>rw [h1,h2]
def conL (L:List EE):List EE:=srtL cmpE (addL [] L)
def okC (L:List EE):Prop:=∀ e∈L,cntB e=true∧posE e
theorem conT {L:List EE} (h:okC L):TalOk (addL [] L) L.length:=by
 have:=talOk_nil.addL h
 rwa [Nat.zero_add] at this
theorem conL_nodup {L:List EE} (h:okC L):((conL L).map keyE).Nodup:=by
 rw [← diffL_nodup]
 exact diffL_perm ord_E ((diffL_nodup _).2 (conT h).nd) (srtL_perm _)
theorem conL_pos {L:List EE} (h:okC L):posL (conL L):=fun e he=>(conT h).pos e ((srtL_perm _).mem_iff.1 he)
theorem sumK_con {L:List EE} (h:okC L) (c:Int × Int):sumK (conL L) c=sumK L c:=by
 unfold conL
 rw [sumK_perm c (srtL_perm _),sumK_nodup c (conT h).nd,atT_addL]
 simp [atT,findT]
theorem sum_con {A B:List EE} (hA:okC A) (hB:okC B):srtL cmpE (sumT (conL A) (conL B))=conL (A++B):=by
 have hAB:okC (A++B):=fun e he=>(List.mem_append.1 he).elim (hA e) (hB e)
 have pos2:∀ {T:List EE},(T.map keyE).Nodup→(∀ e∈T,posE e)→∀ {L:List EE},(∀ e∈L,posE e)→((addL T L).map keyE).Nodup∧∀ e∈addL T L,posE e:=by
  intro T hn hp L
  induction L generalizing T with
  | nil=>exact fun _=>⟨hn,hp⟩
  | cons a L ih=>
   intro hL
   refine ih (addT_nodup hn) (addT_all hp (hL a (by simp)) (fun e _ q=>?_)) (fun e he=>hL e (by simp [he]))
   obtain ⟨q1,q2,q3⟩:=q
   obtain ⟨r1,r2,r3⟩:=hL a (by simp)
   exact ⟨by simp only; omega,by simp only; omega,by simp only; omega⟩
 have h1:=pos2 (T:=[]) List.nodup_nil (fun _ h=>by cases h) (conL_pos hA)
 have h2:=pos2 h1.1 h1.2 (conL_pos hB)
 unfold conL
 refine srt_ext h2.1 (conT hAB).nd h2.2 (conT hAB).pos fun c=>?_
 show atT (addL (addL [] (conL A)) (conL B)) c=_
 rw [atT_addL,atT_addL,atT_addL,sumK_con hA,sumK_con hB,sumK_app]
 simp [atT,findT]
def unitE (e:EE):Prop:=(e.H=1∧e.P=0)∨e.H=0∧e.P=1
theorem addL_cnt1 {T:List EE} {b:Int} (hT:okT T b) (hb:0≤b):∀ {L:List EE},(∀ e∈L,unitE e)→okT (addL T L) (b+L.length)
 | [],_=>by intro e he; have:=hT e he; simp only [List.length_nil]; omega
 | a :: L,hL=>by
  have ha:=hL a (by simp)
  unfold unitE at ha
  have:=addL_cnt1 (T:=addT T a.X a.Y a.H a.P) (okT_add (c:=1) hT (by omega) (by omega) hb (by omega)) (by omega) (L:=L) (fun e he=>hL e (by simp [he]))
  intro e he
  have h2:=this e he
  simp only [List.length_cons]
  omega
theorem con_cnt {L:List EE} (hu:∀ e∈L,unitE e):okT (addL [] L) L.length:=by
 have:=addL_cnt1 (T:=[]) (b:=0) (fun e h=>by cases h) (Int.le_refl _) hu
 intro e he
 have h2:=this e he
 omega
theorem unit_ok {L:List EE} (hu:∀ e∈L,unitE e):okC L:=by
 intro e he
 have:=hu e he
 unfold unitE at this
 refine ⟨?_,by unfold posE; omega⟩
 unfold cntB winB
 rw [Bool.and_eq_true,decide_eq_true_eq,decide_eq_true_eq]
 omega
theorem con_val {L:List EE} (hu:∀ e∈L,unitE e) (hc:∀ e∈L,cellE e) (hl:L.length≤1048576):valE (conL L)=true:=by
 have hT:=conT (unit_ok hu)
 have hb:=con_cnt hu
 refine valE_srt hT.nd (fun e he=>good_of ?_ (hT.pos e he) (addL_cell (fun _ h=>by cases h) hc e he)) (Nat.le_trans hT.len hl)
 have:=hb e he
 unfold cntB winB
 rw [Bool.and_eq_true,decide_eq_true_eq,decide_eq_true_eq]
 omega
theorem sum_fits {A B:List EE} (uA:∀ e∈A,unitE e) (uB:∀ e∈B,unitE e) (hl:A.length+B.length≤1048576):(sumT (conL A) (conL B)).all cntB=true∧(sumT (conL A) (conL B)).length≤1048576:=by
 have hs:=sum_con (unit_ok uA) (unit_ok uB)
 have hp:(sumT (conL A) (conL B)).Perm (conL (A++B)):=by rw [← hs]; exact (srtL_perm _).symm
 have hu:∀ e∈A++B,unitE e:=fun e he=>(List.mem_append.1 he).elim (uA e) (uB e)
 have hT:=conT (unit_ok hu)
 have hq:(conL (A++B)).Perm (addL [] (A++B)):=srtL_perm _
 refine ⟨?_,?_⟩
 ·rw [List.all_eq_true]
  intro e he
  have:=con_cnt hu e (hq.mem_iff.1 (hp.mem_iff.1 he))
  rw [List.length_append] at this
  unfold cntB winB
  rw [Bool.and_eq_true,decide_eq_true_eq,decide_eq_true_eq]
  omega
 ·rw [hp.length_eq,hq.length_eq]
  have:=hT.len
  rw [List.length_append] at this
  omega
theorem ofC_unit (x y h:Int) (S:List CC):∀ e∈ofC x y h S,unitE e:=by
 intro e he
 obtain ⟨b,_,hb⟩:=List.mem_flatMap.1 he
 unfold beamE at hb
 obtain ⟨c,_,rfl⟩:=List.mem_map.1 hb
 unfold cntC unitE
 split
 ·exact .inl ⟨rfl,rfl⟩
 ·exact .inr ⟨rfl,rfl⟩
theorem ofC_cell {x y h:Int} {S:List CC} (hx:(-262144≤x∧x≤262144)∧-262144≤y∧y≤262144) (hS:scnB S=true):∀ e∈ofC x y h S,cellE e:=by
 intro e he
 obtain ⟨b,hb,hbe⟩:=List.mem_flatMap.1 he
 have hbb:=(scn_get hS).2 b hb
 unfold beamE at hbe
 obtain ⟨c,hc,rfl⟩:=List.mem_map.1 hbe
 have:=trL_in (beam_vec h b.X) hx (by omega) (by unfold rchB; split<;>omega) hc
 unfold cntC cellE
 split<;>simp only<;>omega
def partC (S:List SE) (Q:List QE) (id:Int):List EE:=if (lkS S id).isSome=true∧(lkP Q id).isSome=true∧(plO Q id).g=false then ofC (plO Q id).x (plO Q id).y (plO Q id).h (scO S id) else []
def allC (S:List SE) (Q:List QE):List EE:=(idsL S Q 64).flatMap (partC S Q)
theorem plO_ok {Q:List QE} {id:Int} (h:okQ Q) (hs:(lkP Q id).isSome=true) (hg:(plO Q id).g=false):((-262144≤(plO Q id).x∧(plO Q id).x≤262144)∧-262144≤(plO Q id).y∧(plO Q id).y≤262144)∧0≤(plO Q id).h∧(plO Q id).h < 256:=by
 unfold plO at hg ⊢
 cases hf:lkP Q id with
 | none=>rw [hf] at hs; cases hs
 | some q=>
  rw [hf] at hg
  simp only at hg ⊢
  have:=(h q (lkP_mem hf).1).1
  unfold plB at this
  rw [Bool.and_eq_true,if_neg (by rw [hg]; simp),decide_eq_true_eq,decide_eq_true_eq] at this
  omega
theorem scO_ok {S:List SE} {id:Int} (h:okS S) (hs:(lkS S id).isSome=true):scnB (scO S id)=true:=by
 unfold scO
 cases hf:lkS S id with
 | none=>rw [hf] at hs; cases hs
 | some s=>exact (h s (lkS_mem hf).1).1
theorem partC_unit (S:List SE) (Q:List QE) (id:Int):∀ e∈partC S Q id,unitE e:=by
 intro e he
 unfold partC at he
 split at he
 ·exact ofC_unit _ _ _ _ e he
 ·cases he
theorem partC_cell {S:List SE} {Q:List QE} (hS:okS S) (hQ:okQ Q) (id:Int):∀ e∈partC S Q id,cellE e:=by
 intro e he
 unfold partC at he
 split at he
 ·rename_i h
  exact ofC_cell (plO_ok hQ h.2.1 h.2.2).1 (scO_ok hS h.1) e he
 ·cases he
theorem con_nil:conL []=[]:=by
 have:=srtL_len (cf:=cmpE) (addL [] [])
 exact List.eq_nil_of_length_eq_zero this
theorem flatC_unit {S:List SE} {Q:List QE} {I:List Int}:∀ e∈I.flatMap (partC S Q),unitE e:=by
 intro e he
 obtain ⟨i,_,hi⟩:=List.mem_flatMap.1 he
 exact partC_unit S Q i e hi
theorem flatC_cell {S:List SE} {Q:List QE} (hS:okS S) (hQ:okQ Q) {I:List Int}:∀ e∈I.flatMap (partC S Q),cellE e:=by
 intro e he
 obtain ⟨i,_,hi⟩:=List.mem_flatMap.1 he
 exact partC_cell hS hQ i e hi
theorem flatI_take {f:Int→List EE} {I:List Int} {k:Nat} (h:k < I.length):(I.take (k+1)).flatMap f=(I.take k).flatMap f++f (I.getD k eI.dflt):=by
 rw [List.take_add_one,List.getElem?_eq_getElem h,List.flatMap_append]
 simp only [Option.toList_some,List.flatMap_cons,List.flatMap_nil,List.append_nil,List.getD_eq_getElem?_getD,List.getElem?_eq_getElem h,Option.getD_some]
def x54:XFn:=⟨41,(.seq (.reg false [K1 4 .mv (.slice none 0 0)]) (.seq (.reg false [O1 12 .mv 0,O1 13 .mv 1,O2 14 (.call 12) 12 13,O1 11 .mv 14,O1 15 (.ext 0) 11,O1 16 (.ext 1) 11,O1 5 .mv 15,O1 6 .mv 16]) (.seq (.reg false [O1 18 .mv 0,O1 19 .mv 1,O2 20 (.call 13) 18 19,O1 17 .mv 20,O1 21 (.ext 0) 17,O1 22 (.ext 1) 17,⟨(some 7),(.alloc 32 [(iV 0),(.bool false),(iV 0),(iV 0),(iV 0)]),[],none⟩,⟨none,(.store 5),[(.t 7),(.t 21)],none⟩,O1 8 .mv 22]) (.seq (.seq (.reg false [O1 23 .mv 6,O1 24 (.un .not) 23,O1 25 .mv 24,G1 26 .mv 8 25 false,G1 27 (.un .not) 26 25 false,⟨(some 28),.pick,[(.t 25),(.k (.bool true)),(.t 27)],none⟩,O1 29 .mv 28,G1 30 (.fld 1) 7 29 false,G1 31 .load1 30 29 false,⟨(some 32),.pick,[(.t 29),(.k (.bool true)),(.t 31)],none⟩]) (.cond (.t 32) (.seq (.reg false [K1 4 .mv (.slice none 0 0)]) .ret) .skip)) (.seq (.reg false [O1 34 (.fld 2) 7,O1 35 (.loadN 3) 34,O1 36 .mv 5,O2 37 (.call 14) 35 36,O1 33 .mv 37,O1 38 (.ext 0) 33,O1 39 (.ext 1) 33,O1 9 .mv 38,O1 10 .mv 39]) (.seq (.reg false [O1 40 .mv 9,O1 4 .mv 40]) .ret)))))),[(.s 4)]⟩
theorem x54_ok:xfn Tryz.prog Tryz.f54=some x54.er:=by kernel_rfl
def x18L0:XC:=(.seq (.reg false [O2 10 (.bin .lss) 9 8]) (.seq (.cond (.t 10) .skip (.exit 0)) (.seq (.block 1 (.seq (.reg false [O2 11 (.ixS 1) 7 9,O1 12 .load1 11,O1 5 .mv 12]) (.reg false [O1 14 .mv 3,O1 15 .mv 0,O1 16 .mv 5,O2 17 (.call 54) 15 16,O2 18 (.call 15) 14 17,O1 13 .mv 18,O1 19 (.ext 0) 13,O1 20 (.ext 1) 13,O1 3 .mv 19]))) (.reg false [K2 21 (.bin .add) 9 (iV 1),O1 9 .mv 21]))))
def x18:XFn:=⟨23,(.seq (.reg false [K1 2 .mv (.slice none 0 0)]) (.seq (.reg false [K1 3 .mv (.slice none 0 0)]) (.seq (.seq (.reg false [O1 6 .mv 0,O1 7 (.call 11) 6,O1 8 .lenS 7,K1 9 .mv (iV 0)]) (.block 0 (.loop x18L0))) (.seq (.reg false [O1 22 .mv 3,O1 2 .mv 22]) .ret)))),[(.s 2)]⟩
theorem x18_ok:xfn Tryz.prog Tryz.f18=some x18.er:=by kernel_rfl
noncomputable def g54:Con:=fun args_ E_ nn_=>match args_ with
 | [.c (.p a 0),.c (.v (.int .i64 id))]=>(match E_ a with
  | some (.box [.n a_scans,.n a_places] a_ty)=>(match E_ a_scans with
  | some (.dm a_scans_k a_scans_l)=>(match E_ a_places with
  | some (.dm a_places_k a_places_l)=>some (.e (isM eSc a_scans_k a_scans_l∧isM ePl a_places_k a_places_l∧a≠a_scans∧a≠a_places∧a_scans≠a_places∧okS (decM eSc a_scans_l)∧okQ (decM ePl a_places_l)) (.o (.c (.n (nn_+0)))) [((nn_+0),.own (conL (partC (decM eSc a_scans_l) (decM ePl a_places_l) id)).length 4 (rowF eE (conL (partC (decM eSc a_scans_l) (decM ePl a_places_l) id))) 119),(a,.box [.n a_scans,.n a_places] a_ty),(a_scans,.dm false (mapF eSc ((decM eSc a_scans_l)))),(a_places,.dm false (mapF ePl ((decM ePl a_places_l))))] (nn_+1))
  | _=>none)
  | _=>none)
  | _=>none)
 | _=>none
theorem c54:COk Tryz.prog 54 g54:=by
 refine cok_d Tryz.func54 x54_ok (by kernel_rfl) (cok_tab (cok_cons c12 (cok_cons c13 (cok_cons c14 cok_nil)))) ?_
 intro args_ E_ nn_ cr_ hg_
 unfold g54 at hg_
 split at hg_
 ·rename_i a id
  split at hg_
  ·rename_i a_scans a_places a_ty h_a
   split at hg_
   ·rename_i a_scans_k a_scans_l h_a_scans
    split at hg_
    ·rename_i a_places_k a_places_l h_a_places
     cases hg_
     refine ⟨_,_,_,_,rfl,3,[a,a_scans,a_places],[.c (.p 0 0),.c (.v (.int .i64 id))],[(0,.box [.n 1,.n 2] a_ty),(1,.dm eSc.k (mapF eSc (decM eSc a_scans_l))),(2,.dm ePl.k (mapF ePl (decM ePl a_places_l)))],.o (.c (.n 3)),[(3,.own (conL (partC (decM eSc a_scans_l) (decM ePl a_places_l) id)).length 4 (rowF eE (conL (partC (decM eSc a_scans_l) (decM ePl a_places_l) id))) 119),(0,.box [.n 1,.n 2] a_ty),(1,.dm false (mapF eSc ((decM eSc a_scans_l)))),(2,.dm false (mapF ePl ((decM ePl a_places_l))))],4,rfl,rfl,by simp only [renE,Ent.ren,rowF_renf]<;>rfl,rfl,by decide,and4 (by simp only [push_cast,Nat.reduceLT,Nat.reduceAdd]) ⟨rfl,⟨⟨_,h_a⟩,⟨_,h_a_scans⟩,⟨_,h_a_places⟩,trivial⟩,by simp only [keysNodup,outN,keys]<;>decide,rfl,.inr ⟨.inl rfl,.inl rfl,.inl rfl,trivial⟩,?_⟩⟩
     intro hpre hlen
     obtain ⟨i_a_scans,hpre⟩:=hpre
     obtain ⟨i_a_places,hpre⟩:=hpre
     obtain ⟨n_a_a_scans,hpre⟩:=hpre
     obtain ⟨n_a_a_places,hpre⟩:=hpre
     obtain ⟨n_a_scans_a_places,hpre⟩:=hpre
     have hap:apartE (sg 3 nn_ [a,a_scans,a_places]) [(0,.box [.n 1,.n 2] a_ty),(1,.dm eSc.k (mapF eSc (decM eSc a_scans_l))),(2,.dm ePl.k (mapF ePl (decM ePl a_places_l)))] [(0,.box [.n 1,.n 2] a_ty),(1,.dm eSc.k (mapF eSc (decM eSc a_scans_l))),(2,.dm ePl.k (mapF ePl (decM ePl a_places_l)))]:=by
      refine ⟨fun _ k2 e2 hm hne=>?_,?_⟩
      ·simp only [List.mem_cons,List.not_mem_nil,or_false,Prod.mk.injEq] at hm
       rcases hm with ⟨rfl,_⟩ | ⟨rfl,_⟩ | ⟨rfl,_⟩
       ·exact absurd rfl hne
       ·exact fun hh=>n_a_a_scans (Eq.symm (show a_scans=a from hh))
       ·exact fun hh=>n_a_a_places (Eq.symm (show a_places=a from hh))
      refine ⟨fun _ k2 e2 hm hne=>?_,?_⟩
      ·simp only [List.mem_cons,List.not_mem_nil,or_false,Prod.mk.injEq] at hm
       rcases hm with ⟨rfl,_⟩ | ⟨rfl,_⟩ | ⟨rfl,_⟩
       ·exact fun hh=>n_a_a_scans (show a=a_scans from hh)
       ·exact absurd rfl hne
       ·exact fun hh=>n_a_scans_a_places (Eq.symm (show a_places=a_scans from hh))
      refine ⟨fun _ k2 e2 hm hne=>?_,?_⟩
      ·simp only [List.mem_cons,List.not_mem_nil,or_false,Prod.mk.injEq] at hm
       rcases hm with ⟨rfl,_⟩ | ⟨rfl,_⟩ | ⟨rfl,_⟩
       ·exact fun hh=>n_a_a_places (show a=a_places from hh)
       ·exact fun hh=>n_a_scans_a_places (show a_scans=a_places from hh)
       ·exact absurd rfl hne
      trivial
     refine ⟨⟨⟨_,h_a,by simp only [leE,mapEq,SC.ren,and_true,true_and,and_self]<;>first | rfl | exact ⟨rfl,rfl⟩⟩,⟨_,h_a_scans,isM_le i_a_scans⟩,⟨_,h_a_places,isM_le i_a_places⟩,trivial⟩,hap,?_⟩
     clear i_a_scans
     generalize decM eSc a_scans_l=a_scansL at *
     clear i_a_places
     generalize decM ePl a_places_l=a_placesL at *
     clear h_a_scans
     clear h_a_places
     simp (maxSteps:=9999999) only [x54,push_cast,simprocAttr,g12,g13,g14]
     refine ⟨hpre.1,fun h=>?_,fun h1 h2 h3=>?_⟩
     ·have:partC a_scansL a_placesL id=[]:=by
       unfold partC
       rw [if_neg]
       rintro ⟨q1,q2,q3⟩
       rcases h with (h | h) | h
       ·rw [q1] at h; cases h
       ·rw [q2] at h; cases h
       ·rw [q3] at h; cases h
      rw [this,con_nil]; rfl
     ·have hp:=plO_ok hpre.2 h2 h3
      exact ⟨⟨⟨hp.1.1,hp.1.2,hp.2⟩,scO_ok hpre.1 h1⟩,same_eq (by unfold partC; rw [if_pos ⟨h1,h2,h3⟩]; rfl)⟩
    ·cases hg_
   ·cases hg_
  ·cases hg_
 ·cases hg_
noncomputable def g18:Con:=fun args_ E_ nn_=>match args_ with
 | [.c (.p a 0)]=>(match E_ a with
  | some (.box [.n a_scans,.n a_places] a_ty)=>(match E_ a_scans with
  | some (.dm a_scans_k a_scans_l)=>(match E_ a_places with
  | some (.dm a_places_k a_places_l)=>some (.e (isM eSc a_scans_k a_scans_l∧isM ePl a_places_k a_places_l∧a≠a_scans∧a≠a_places∧a_scans≠a_places∧(okS (decM eSc a_scans_l)∧okQ (decM ePl a_places_l))∧(allC (decM eSc a_scans_l) (decM ePl a_places_l)).length≤1048576) (.o (.c (.n (nn_+0)))) [((nn_+0),.own (conL (allC (decM eSc a_scans_l) (decM ePl a_places_l))).length 4 (rowF eE (conL (allC (decM eSc a_scans_l) (decM ePl a_places_l)))) 119),(a,.box [.n a_scans,.n a_places] a_ty),(a_scans,.dm false (mapF eSc ((decM eSc a_scans_l)))),(a_places,.dm false (mapF ePl ((decM ePl a_places_l))))] (nn_+1))
  | _=>none)
  | _=>none)
  | _=>none)
 | _=>none
theorem c18:COk Tryz.prog 18 g18:=by
 refine cok_d Tryz.func18 x18_ok (by kernel_rfl) (cok_tab (cok_cons c11 (cok_cons c54 (cok_cons c15 cok_nil)))) ?_
 intro args_ E_ nn_ cr_ hg_
 unfold g18 at hg_
 split at hg_
 ·rename_i a
  split at hg_
  ·rename_i a_scans a_places a_ty h_a
   split at hg_
   ·rename_i a_scans_k a_scans_l h_a_scans
    split at hg_
    ·rename_i a_places_k a_places_l h_a_places
     cases hg_
     refine ⟨_,_,_,_,rfl,3,[a,a_scans,a_places],[.c (.p 0 0)],[(0,.box [.n 1,.n 2] a_ty),(1,.dm eSc.k (mapF eSc (decM eSc a_scans_l))),(2,.dm ePl.k (mapF ePl (decM ePl a_places_l)))],.o (.c (.n 3)),[(3,.own (conL (allC (decM eSc a_scans_l) (decM ePl a_places_l))).length 4 (rowF eE (conL (allC (decM eSc a_scans_l) (decM ePl a_places_l)))) 119),(0,.box [.n 1,.n 2] a_ty),(1,.dm false (mapF eSc ((decM eSc a_scans_l)))),(2,.dm false (mapF ePl ((decM ePl a_places_l))))],4,rfl,rfl,by simp only [renE,Ent.ren,rowF_renf]<;>rfl,rfl,by decide,and4 (by simp only [push_cast,Nat.reduceLT,Nat.reduceAdd]) ⟨rfl,⟨⟨_,h_a⟩,⟨_,h_a_scans⟩,⟨_,h_a_places⟩,trivial⟩,by simp only [keysNodup,outN,keys]<;>decide,rfl,.inr ⟨.inl rfl,.inl rfl,.inl rfl,trivial⟩,?_⟩⟩
     intro hpre hlen
     obtain ⟨i_a_scans,hpre⟩:=hpre
     obtain ⟨i_a_places,hpre⟩:=hpre
     obtain ⟨n_a_a_scans,hpre⟩:=hpre
     obtain ⟨n_a_a_places,hpre⟩:=hpre
     obtain ⟨n_a_scans_a_places,hpre⟩:=hpre
     have hap:apartE (sg 3 nn_ [a,a_scans,a_places]) [(0,.box [.n 1,.n 2] a_ty),(1,.dm eSc.k (mapF eSc (decM eSc a_scans_l))),(2,.dm ePl.k (mapF ePl (decM ePl a_places_l)))] [(0,.box [.n 1,.n 2] a_ty),(1,.dm eSc.k (mapF eSc (decM eSc a_scans_l))),(2,.dm ePl.k (mapF ePl (decM ePl a_places_l)))]:=by
      refine ⟨fun _ k2 e2 hm hne=>?_,?_⟩
      ·simp only [List.mem_cons,List.not_mem_nil,or_false,Prod.mk.injEq] at hm
       rcases hm with ⟨rfl,_⟩ | ⟨rfl,_⟩ | ⟨rfl,_⟩
       ·exact absurd rfl hne
       ·exact fun hh=>n_a_a_scans (Eq.symm (show a_scans=a from hh))
       ·exact fun hh=>n_a_a_places (Eq.symm (show a_places=a from hh))
      refine ⟨fun _ k2 e2 hm hne=>?_,?_⟩
      ·simp only [List.mem_cons,List.not_mem_nil,or_false,Prod.mk.injEq] at hm
       rcases hm with ⟨rfl,_⟩ | ⟨rfl,_⟩ | ⟨rfl,_⟩
       ·exact fun hh=>n_a_a_scans (show a=a_scans from hh)
       ·exact absurd rfl hne
       ·exact fun hh=>n_a_scans_a_places (Eq.symm (show a_places=a_scans from hh))
      refine ⟨fun _ k2 e2 hm hne=>?_,?_⟩
      ·simp only [List.mem_cons,List.not_mem_nil,or_false,Prod.mk.injEq] at hm
       rcases hm with ⟨rfl,_⟩ | ⟨rfl,_⟩ | ⟨rfl,_⟩
       ·exact fun hh=>n_a_a_places (show a=a_places from hh)
       ·exact fun hh=>n_a_scans_a_places (show a_scans=a_places from hh)
       ·exact absurd rfl hne
      trivial
     refine ⟨⟨⟨_,h_a,by simp only [leE,mapEq,SC.ren,and_true,true_and,and_self]<;>first | rfl | exact ⟨rfl,rfl⟩⟩,⟨_,h_a_scans,isM_le i_a_scans⟩,⟨_,h_a_places,isM_le i_a_places⟩,trivial⟩,hap,?_⟩
     clear i_a_scans
     generalize decM eSc a_scans_l=a_scansL at *
     clear i_a_places
     generalize decM ePl a_places_l=a_placesL at *
     clear h_a_scans
     clear h_a_places
     simp (maxSteps:=9999999) only [x18,push_cast,simprocAttr,g11,g54,g15]
     refine vcLoop_upd (α:={k:Nat // k≤(idsL a_scansL a_placesL 64).length}) [0,7,8] 1 (fun s=>[(3,.o (.c (.n 4))),(9,.o (.c (.v (.int .i64 (s.1:Nat)))))]) (fun s=>[(4,.own (conL (((idsL a_scansL a_placesL 64).take s.1).flatMap (partC a_scansL a_placesL))).length 4 (rowF eE (conL (((idsL a_scansL a_placesL 64).take s.1).flatMap (partC a_scansL a_placesL)))) 119),(3,.own (idsL a_scansL a_placesL 64).length 1 (rowF eI (idsL a_scansL a_placesL 64)) 3),(0,.box [.n 1,.n 2] a_ty),(1,.dm false (mapF eSc (a_scansL))),(2,.dm false (mapF ePl (a_placesL)))]) (fun s=>(idsL a_scansL a_placesL 64).length - s.1) ⟨0,by omega⟩ ?_ ?_
     ·simp only [push_cast,simprocAttr,g11,g54,g15]
      rw [List.take_zero,List.flatMap_nil,con_nil]; rfl
     rintro ⟨k,hk⟩
     simp only [x18L0,push_cast,simprocAttr,g11,g54,g15]
     have hal:allC a_scansL a_placesL=(idsL a_scansL a_placesL 64).flatMap (partC a_scansL a_placesL):=rfl
     obtain ⟨⟨hS,hQ⟩,hlen⟩:=hpre
     rw [hal] at hlen ⊢
     have hI:=idsL_len a_scansL a_placesL 64
     generalize idsL a_scansL a_placesL 64=I at *
     refine ⟨fun hlt=>?_,fun hn=>?_⟩
     ·have hft:=flatI_take (f:=partC a_scansL a_placesL) hlt
      have hfl:=flat_le (partC a_scansL a_placesL) I (k+1)
      rw [hft,List.length_append] at hfl
      have uA:=flatC_unit (S:=a_scansL) (Q:=a_placesL) (I:=I.take k)
      have cA:=flatC_cell hS hQ (I:=I.take k)
      have uB:=partC_unit a_scansL a_placesL (I.getD k eI.dflt)
      have cB:=partC_cell hS hQ (I.getD k eI.dflt)
      have hsf:=sum_fits uA uB (by omega)
      have hsc:=sum_con (unit_ok uA) (unit_ok uB)
      exact ⟨hlt,hlt,⟨hS,hQ⟩,⟨⟨con_val uA cA (by omega),con_val uB cB (by omega)⟩,⟨conL_pos (unit_ok uA),conL_pos (unit_ok uB)⟩,hsf.1,hsf.2⟩,⟨k+1,by omega⟩,⟨wrapI (by omega) (by omega),same_eq (by rw [hft,hsc])⟩,by simp only; omega⟩
     ·obtain rfl:k=I.length:=by omega
      rw [List.take_length]
      exact ⟨rfl,(rowEq_rowF _ _ _ _).2 trivial⟩
    ·cases hg_
   ·cases hg_
  ·cases hg_
 ·cases hg_
end Go.Proofs.YtgpbokembopapaaGreat
