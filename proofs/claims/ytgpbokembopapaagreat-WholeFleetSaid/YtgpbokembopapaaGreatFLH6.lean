/- A part of the proof of a statement about this seat: how a function is stepped through, and plain laws. No conditions. -/
import Derived.Test.YtgpbokembopapaaGreatRows
import Derived.Test.YtgpbokembopapaaGreatFLSz4
import Derived.Test.YtgpbokembopapaaGreatFLH5
import Derived.KernelRfl
set_option linter.unusedVariables false
set_option linter.unusedSimpArgs false
set_option maxRecDepth 20000
namespace Go.Proofs.YtgpbokembopapaaGreat
open Go.Sx Go.Way
theorem trn0 (x y:Int):trn (Int.toNat 0) x y=(x,y):=rfl
theorem trn1 (x y:Int):trn (Int.toNat 1) x y=(-y,x):=rfl
theorem trn2 (x y:Int):trn (Int.toNat 2) x y=(-x,-y):=rfl
theorem trn3 (x y:Int):trn (Int.toNat 3) x y=(- -y,-x):=rfl
def imgE (f:FR) (e:EE):EE:=⟨imgX f e.X e.Y,imgY f e.X e.Y,e.H,e.P⟩
theorem img_cases (f:FR) (x y:Int):(f.q % 4=0∧imgX f x y=x+f.x∧imgY f x y=y+f.y)∨(f.q % 4=1∧imgX f x y=-y - 1+f.x∧imgY f x y=x+f.y)∨(f.q % 4=2∧imgX f x y=-x - 1+f.x∧imgY f x y=-y - 1+f.y)∨(f.q % 4=3∧imgX f x y=y+f.x∧imgY f x y=-x - 1+f.y):=by
 have h:f.q % 4=0∨f.q % 4=1∨f.q % 4=2∨f.q % 4=3:=by omega
 unfold imgX imgY
 rcases h with h | h | h | h
 ·refine .inl ⟨h,?_,?_⟩<;>rw [h,trn0,trn0]<;>simp only<;>omega
 ·refine .inr (.inl ⟨h,?_,?_⟩)<;>rw [h,trn1,trn1]<;>simp only<;>omega
 ·refine .inr (.inr (.inl ⟨h,?_,?_⟩))<;>rw [h,trn2,trn2]<;>simp only<;>omega
 ·refine .inr (.inr (.inr ⟨h,?_,?_⟩))<;>rw [h,trn3,trn3]<;>simp only<;>omega
theorem img_inj {f:FR} {x y x' y':Int} (h1:imgX f x y=imgX f x' y') (h2:imgY f x y=imgY f x' y'):x=x'∧y=y':=by
 rcases img_cases f x y with ⟨a,b,c⟩ | ⟨a,b,c⟩ | ⟨a,b,c⟩ | ⟨a,b,c⟩<;>rcases img_cases f x' y' with ⟨a',b',c'⟩ | ⟨a',b',c'⟩ | ⟨a',b',c'⟩ | ⟨a',b',c'⟩<;>omega
theorem img_surj (f:FR) (u v:Int):∃ x y,imgX f x y=u∧imgY f x y=v:=by
 have h:f.q % 4=0∨f.q % 4=1∨f.q % 4=2∨f.q % 4=3:=by omega
 rcases h with h | h | h | h
 ·refine ⟨u - f.x,v - f.y,?_⟩
  rcases img_cases f (u - f.x) (v - f.y) with ⟨a,b,c⟩ | ⟨a,b,c⟩ | ⟨a,b,c⟩ | ⟨a,b,c⟩<;>omega
 ·refine ⟨v - f.y,f.x - 1 - u,?_⟩
  rcases img_cases f (v - f.y) (f.x - 1 - u) with ⟨a,b,c⟩ | ⟨a,b,c⟩ | ⟨a,b,c⟩ | ⟨a,b,c⟩<;>omega
 ·refine ⟨f.x - 1 - u,f.y - 1 - v,?_⟩
  rcases img_cases f (f.x - 1 - u) (f.y - 1 - v) with ⟨a,b,c⟩ | ⟨a,b,c⟩ | ⟨a,b,c⟩ | ⟨a,b,c⟩<;>omega
 ·refine ⟨f.y - 1 - v,u - f.x,?_⟩
  rcases img_cases f (f.y - 1 - v) (u - f.x) with ⟨a,b,c⟩ | ⟨a,b,c⟩ | ⟨a,b,c⟩ | ⟨a,b,c⟩<;>omega
theorem img_near {f:FR} {m n x y:Int} (hx:bd m x) (hy:bd m y) (hf:bd n f.x∧bd n f.y):bd (m+n+1) (imgX f x y)∧bd (m+n+1) (imgY f x y):=by
 unfold bd at *
 rcases img_cases f x y with ⟨a,b,c⟩ | ⟨a,b,c⟩ | ⟨a,b,c⟩ | ⟨a,b,c⟩<;>omega
theorem img_mul (f g:FR) (x y:Int):imgX (mulF f g) x y=imgX f (imgX g x y) (imgY g x y)∧imgY (mulF f g) x y=imgY f (imgX g x y) (imgY g x y):=by
 have hq:(mulF f g).q % 4=(f.q % 4+g.q % 4) % 4:=by show (f.q % 4+g.q % 4) % 4 % 4=_; omega
 have hm:(f.q % 4=0∧(mulF f g).x=g.x+f.x∧(mulF f g).y=g.y+f.y)∨(f.q % 4=1∧(mulF f g).x=-g.y+f.x∧(mulF f g).y=g.x+f.y)∨(f.q % 4=2∧(mulF f g).x=-g.x+f.x∧(mulF f g).y=-g.y+f.y)∨(f.q % 4=3∧(mulF f g).x=g.y+f.x∧(mulF f g).y=-g.x+f.y):=by
  have h:f.q % 4=0∨f.q % 4=1∨f.q % 4=2∨f.q % 4=3:=by omega
  unfold mulF
  rcases h with h | h | h | h
  ·refine .inl ⟨h,?_,?_⟩<;>simp only [h,trn0]
  ·refine .inr (.inl ⟨h,?_,?_⟩)<;>simp only [h,trn1]
  ·refine .inr (.inr (.inl ⟨h,?_,?_⟩))<;>simp only [h,trn2]
  ·refine .inr (.inr (.inr ⟨h,?_,?_⟩))<;>simp only [h,trn3]<;>omega
 have c1:=img_cases (mulF f g) x y
 have c2:=img_cases g x y
 have c3:=img_cases f (imgX g x y) (imgY g x y)
 generalize imgX (mulF f g) x y=U at *
 generalize imgY (mulF f g) x y=V at *
 generalize imgX f (imgX g x y) (imgY g x y)=U' at *
 generalize imgY f (imgX g x y) (imgY g x y)=V' at *
 generalize imgX g x y=u at *
 generalize imgY g x y=v at *
 rcases hm with ⟨m0,m1,m2⟩ | ⟨m0,m1,m2⟩ | ⟨m0,m1,m2⟩ | ⟨m0,m1,m2⟩<;>rcases c2 with ⟨a,b,c⟩ | ⟨a,b,c⟩ | ⟨a,b,c⟩ | ⟨a,b,c⟩<;>rcases c3 with ⟨a',b',c'⟩ | ⟨a',b',c'⟩ | ⟨a',b',c'⟩ | ⟨a',b',c'⟩<;>first | omega | (rcases c1 with ⟨a'',b'',c''⟩ | ⟨a'',b'',c''⟩ | ⟨a'',b'',c''⟩ | ⟨a'',b'',c''⟩<;>omega)
theorem imgE_mul (f g:FR) (e:EE):imgE (mulF f g) e=imgE f (imgE g e):=by
 have:=img_mul f g e.X e.Y
 unfold imgE
 rw [this.1,this.2]
theorem imgE_nodup {f:FR} {L:List EE} (h:(L.map keyE).Nodup):((L.map (imgE f)).map keyE).Nodup:=by
 rw [List.map_map]
 have h2:=List.pairwise_map.1 h
 refine List.pairwise_map.2 (h2.imp fun {a b} hab e=>hab ?_)
 unfold Function.comp keyE imgE at e
 simp only [Prod.mk.injEq] at e
 obtain ⟨h3,h4⟩:=img_inj e.1 e.2
 unfold keyE
 rw [h3,h4]
theorem sumK_img (f:FR) (x y:Int):∀ C:List EE,sumK (C.map (imgE f)) (imgX f x y,imgY f x y)=sumK C (x,y)
 | []=>rfl
 | e :: C=>by
  have ih:=sumK_img f x y C
  rw [List.map_cons]
  unfold sumK
  by_cases h:keyE e=(x,y)
  ·unfold keyE at h
   simp only [Prod.mk.injEq] at h
   rw [if_pos (show keyE (imgE f e)=_ by unfold keyE imgE; simp only; rw [h.1,h.2]),if_pos (show keyE e=(x,y) by unfold keyE; rw [h.1,h.2]),ih]
   rfl
  ·rw [if_neg h,if_neg (fun g=>h ?_),ih]
   unfold keyE imgE at g
   simp only [Prod.mk.injEq] at g
   obtain ⟨h3,h4⟩:=img_inj g.1 g.2
   unfold keyE
   rw [h3,h4]
theorem okC_img {f:FR} {C:List EE} (h:okC C):okC (C.map (imgE f)):=by
 intro e he
 obtain ⟨a,ha,rfl⟩:=List.mem_map.1 he
 exact h a ha
theorem con_img {f:FR} {C:List EE} (h:okC C):srtL cmpE ((conL C).map (imgE f))=conL (C.map (imgE f)):=by
 have h2:=okC_img (f:=f) h
 have hn:=conL_nodup h
 refine srt_ext (imgE_nodup hn) (conT h2).nd ?_ (conT h2).pos fun c=>?_
 ·intro e he
  obtain ⟨a,ha,rfl⟩:=List.mem_map.1 he
  exact conL_pos h a ha
 ·obtain ⟨u,v⟩:=c
  obtain ⟨x,y,rfl,rfl⟩:=img_surj f u v
  rw [← sumK_nodup _ (imgE_nodup hn),sumK_img,sumK_con h,atT_addL,sumK_img]
  simp [atT,findT]
theorem con_key {C:List EE} (h:okC C) {e:EE} (he:e∈conL C):∃ c∈C,keyE c=keyE e:=by
 apply Classical.byContradiction
 intro hn
 have h1:keyE e ∉ C.map keyE:=fun hm=>by
  obtain ⟨c,hc,h2⟩:=List.mem_map.1 hm
  exact hn ⟨c,hc,h2⟩
 have h2:=sumK_con h (keyE e)
 rw [sumK_none h1,sumK_nodup _ (conL_nodup h)] at h2
 have h3:=(findT_iff (conL_nodup h)).1 he
 unfold atT keyE at h2
 simp only [h3,Prod.mk.injEq] at h2
 have:=conL_pos h e he
 unfold posE at this
 omega
def nearE (e:EE):Prop:=bd 4200 e.X∧bd 4200 e.Y
theorem ofC_near {x y h:Int} {S:List CC} (hx:(-262144≤x∧x≤262144)∧-262144≤y∧y≤262144) (hS:scnB S=true):∀ e∈ofC x y h S,nearE e:=by
 intro e he
 obtain ⟨b,hb,hbe⟩:=List.mem_flatMap.1 he
 have hbb:=(scn_get hS).2 b hb
 unfold beamE at hbe
 obtain ⟨c,hc,rfl⟩:=List.mem_map.1 hbe
 have:=trL_in (beam_vec h b.X) hx (by omega) (by unfold rchB; split<;>omega) hc
 unfold cntC nearE bd
 split<;>simp only<;>omega
theorem allC_near {S:List SE} {Q:List QE} (hS:okS S) (hQ:okQ Q):∀ e∈allC S Q,nearE e:=by
 intro e he
 obtain ⟨i,_,hi⟩:=List.mem_flatMap.1 he
 unfold partC at hi
 split at hi
 ·rename_i h
  exact ofC_near (plO_ok hQ h.2.1 h.2.2).1 (scO_ok hS h.1) e hi
 ·cases hi
theorem partC_sh {S S':List SE} (h:shS S=shS S') (Q:List QE) (id:Int):partC S Q id=partC S' Q id:=by
 unfold partC
 rw [some_map (lkS S id) SE.l,some_map (lkS S' id) SE.l,lkS_some h,scO_sh h]
theorem allC_sh {S S':List SE} (h:shS S=shS S') (Q:List QE):allC S Q=allC S' Q:=by
 unfold allC
 rw [idsL_sh h]
 exact congrArg (fun f=>(idsL S' Q 64).flatMap f) (funext fun id=>partC_sh h Q id)
def allX (x:STN) (i:Nat):List EE:=allC (shv (hOf x i)) (qOf x i)
def viewI (x:STN) (n:Int) (i:Nat):List EE:=match btwO (frmL (relL x)) n i with
 | some f=>(allX x i).map (imgE f)
 | none=>[]
def viewK (x:STN) (n:Int) (k:Nat):List EE:=(List.range k).flatMap (viewI x n)
def sizeK (x:STN) (k:Nat):Nat:=((List.range k).map fun i=>(allX x i).length).sum
theorem viewK_succ (x:STN) (n:Int) (k:Nat):viewK x n (k+1)=viewK x n k++viewI x n k:=by
 unfold viewK
 rw [List.range_succ,List.flatMap_append]
 simp
theorem sizeK_succ (x:STN) (k:Nat):sizeK x (k+1)=sizeK x k+(allX x k).length:=by
 unfold sizeK
 rw [List.range_succ,List.map_append,List.sum_append]
 simp
theorem sizeK_mono (x:STN):∀ j k,sizeK x k≤sizeK x (k+j)
 | 0,k=>Nat.le_refl _
 | j+1,k=>by
  have:=sizeK_mono x j k
  rw [← Nat.add_assoc,sizeK_succ]; omega
theorem viewI_len (x:STN) (n:Int) (i:Nat):(viewI x n i).length≤(allX x i).length:=by
 unfold viewI
 split
 ·rw [List.length_map]; exact Nat.le_refl _
 ·simp
theorem viewK_len (x:STN) (n:Int):∀ k,(viewK x n k).length≤sizeK x k
 | 0=>Nat.le_refl _
 | k+1=>by
  have h1:=viewK_len x n k
  have h2:=viewI_len x n k
  rw [viewK_succ,sizeK_succ,List.length_append]; omega
theorem allX_unit (x:STN) (i:Nat):∀ e∈allX x i,unitE e:=flatC_unit
theorem viewI_unit (x:STN) (n:Int) (i:Nat):∀ e∈viewI x n i,unitE e:=by
 intro e he
 unfold viewI at he
 split at he
 ·obtain ⟨a,ha,rfl⟩:=List.mem_map.1 he
  exact allX_unit x i a ha
 ·cases he
theorem viewK_unit (x:STN) (n:Int) (k:Nat):∀ e∈viewK x n k,unitE e:=by
 intro e he
 obtain ⟨i,_,hi⟩:=List.mem_flatMap.1 he
 exact viewI_unit x n i e hi
theorem allX_near {x:STN} (h:okSt x) (i:Nat):∀ e∈allX x i,nearE e:=allC_near (by rw [okH_S,shv_sh]; exact h.2.1 i) (h.2.2.1 i)
theorem frmL_good {x:STN} (h:okRel x):∀ r∈frmL (relL x),goodR r:=foldA_good (fun _ h=>by cases h) fun r hr=>relL_good h hr
theorem btw_bd {l:List RL} (hl:∀ r∈l,goodR r) {a b:Int} (ha:0≤a∧a < 8) {f:FR} (hf:btwO l a b=some f):bd 7168 f.x∧bd 7168 f.y:=by
 unfold btwO at hf
 cases h:lkK (fromF l a) b with
 | none=>rw [h] at hf; cases hf
 | some e=>
  rw [h] at hf
  cases hf
  exact ((InvF.one ha).iter hl 8).bd (lkK_mem h).1
theorem near_img {f:FR} (hf:bd 7168 f.x∧bd 7168 f.y) {e:EE} (he:nearE e):cellE (imgE f e):=by
 have:=img_near he.1 he.2 hf
 unfold cellE imgE bd at *
 simp only
 omega
theorem viewI_cell {x:STN} (h:okSt x) {n:Int} (hn:0≤n∧n < 8) (i:Nat):∀ e∈viewI x n i,cellE e:=by
 intro e he
 unfold viewI at he
 split at he
 ·rename_i f hf
  obtain ⟨a,ha,rfl⟩:=List.mem_map.1 he
  exact near_img (btw_bd (frmL_good h.2.2.2) hn hf) (allX_near h i a ha)
 ·cases he
theorem viewK_cell {x:STN} (h:okSt x) {n:Int} (hn:0≤n∧n < 8) (k:Nat):∀ e∈viewK x n k,cellE e:=by
 intro e he
 obtain ⟨i,_,hi⟩:=List.mem_flatMap.1 he
 exact viewI_cell h hn i e hi
theorem win_cell {e:EE} (h:cellE e):winB e.X 16384=true∧winB e.Y 16384=true:=by
 unfold cellE at h
 unfold winB
 rw [decide_eq_true_iff,decide_eq_true_iff]
 omega
theorem valid_bd {f:FR} (h:bd 7168 f.x∧bd 7168 f.y):validF f=true:=by
 unfold validF winB
 rw [Bool.and_eq_true,decide_eq_true_iff,decide_eq_true_iff]
 unfold bd at h
 omega
theorem near_cell {e:EE} (h:nearE e):cellE e:=by
 unfold nearE bd at h
 unfold cellE
 omega
theorem con_cell2 {f:FR} (hf:bd 7168 f.x∧bd 7168 f.y) {C:List EE} (h:okC C) (hn:∀ e∈C,nearE e) {e:EE} (he:e∈conL C):cellE e∧cellE (imgE f e):=by
 obtain ⟨c,hc,hk⟩:=con_key h he
 have h1:=hn c hc
 unfold keyE at hk
 simp only [Prod.mk.injEq] at hk
 have h2:nearE e:=by
  unfold nearE at *
  rw [← hk.1,← hk.2]
  exact h1
 exact ⟨near_cell h2,near_img hf h2⟩
theorem img_unit {f:FR} {L:List EE} (h:∀ e∈L,unitE e):∀ e∈L.map (imgE f),unitE e:=by
 intro e he
 obtain ⟨a,ha,rfl⟩:=List.mem_map.1 he
 exact h a ha
def x38L0:XC:=(.seq (.reg false [O2 22 (.bin .lss) 21 20]) (.seq (.cond (.t 22) .skip (.exit 0)) (.seq (.block 1 (.seq (.reg false [O2 23 (.ixS 4) 19 21,O1 24 (.loadN 4) 23,⟨(some 8),(.alloc 119 [(iV 0),(iV 0),(iV 0),(iV 0)]),[],none⟩,⟨none,(.store 4),[(.t 8),(.t 24)],none⟩]) (.seq (.reg false [O1 26 (.loadN 3) 2,O1 27 (.fld 0) 8,O1 28 (.loadN 2) 27,O2 29 (.call 70) 26 28,O1 25 .mv 29,O1 30 (.ext 0) 25,O1 31 (.ext 1) 25,⟨(some 9),(.alloc 109 [(iV 0),(iV 0)]),[],none⟩,⟨none,(.store 2),[(.t 9),(.t 30)],none⟩,O1 10 .mv 31]) (.seq (.seq (.reg false [O1 32 .mv 10,K2 33 (.bin .neq) 32 (iV 0)]) (.cond (.t 33) (.seq (.reg false [O1 34 .mv 10,K1 4 .mv (.slice none 0 0),O1 5 .mv 34]) .ret) .skip)) (.seq (.reg false [O1 35 (.loadN 2) 9,O1 36 (.fld 0) 8,⟨none,(.store 2),[(.t 36),(.t 35)],none⟩]) (.reg false [O1 37 .mv 6,O1 38 (.loadN 4) 8,⟨(some 39),(.slit 119 1 4 [(iV 0),(iV 0),(iV 0),(iV 0)] [(0,4)]),[(.t 38)],none⟩,O2 40 (.app 119 4 32) 37 39,O1 6 .mv 40])))))) (.reg false [K2 41 (.bin .add) 21 (iV 1),O1 21 .mv 41]))))
def x38:XFn:=⟨45,(.seq (.reg false [O1 2 (.box 68) 0,K1 4 .mv (.slice none 0 0),K1 5 .mv (iV 0)]) (.seq (.seq (.reg false [O1 11 (.loadN 3) 2,O1 12 (.call 69) 11,O1 13 (.un .not) 12,O1 14 .mv 13,G1 15 .mv 1 14 false,G1 16 (.call 52) 15 14 false,G1 17 (.un .not) 16 14 false,⟨(some 18),.pick,[(.t 14),(.k (.bool true)),(.t 17)],none⟩]) (.cond (.t 18) (.seq (.reg false [K1 4 .mv (.slice none 0 0),K1 5 .mv (iV 1)]) .ret) .skip)) (.seq (.reg false [K1 6 .mv (.slice none 0 0)]) (.seq (.seq (.reg false [O1 19 .mv 1,O1 20 .lenS 19,K1 21 .mv (iV 0)]) (.block 0 (.loop x38L0))) (.seq (.reg false [O1 42 .mv 6,⟨(some 43),(.call 58),[(.t 42),(.k (.func (.func 71) #[] #[]))],none⟩]) (.seq (.reg false [O1 44 .mv 6,O1 4 .mv 44,K1 5 .mv (iV 0)]) .ret)))))),[(.s 4),(.s 5)]⟩
theorem x38_ok:xfn Tryz.prog Tryz.f38=some x38.er:=by kernel_rfl
def x35L0:XC:=(.seq (.reg false [K2 27 (.bin .lss) 26 (iV 8)]) (.seq (.cond (.t 27) .skip (.exit 0)) (.seq (.block 1 (.seq (.reg false [O1 28 .mv 26,O2 29 (.ix1 8 1) 25 26,O1 7 .mv 28,O1 8 .mv 29]) (.seq (.reg false [O1 31 .mv 6,O1 32 .mv 1,O1 33 .mv 7,⟨(some 34),(.call 37),[(.t 31),(.t 32),(.t 33)],none⟩,O1 30 .mv 34,O1 35 (.ext 0) 30,O1 36 (.ext 1) 30,⟨(some 9),(.alloc 68 [(iV 0),(iV 0),(iV 0)]),[],none⟩,⟨none,(.store 3),[(.t 9),(.t 35)],none⟩,O1 10 .mv 36]) (.seq (.reg false [O1 37 .mv 10]) (.cond (.t 37) (.gst (.seq (.gsa (.regD [O1 39 (.loadN 3) 9,O1 40 .mv 8,O1 41 (.call 18) 40,O2 42 (.call 38) 39 41,O1 38 .mv 42,O1 43 (.ext 0) 38,O1 44 (.ext 1) 38,O1 11 .mv 43,O1 12 .mv 44] [[],[],[1],[0,2,1],[3,0,2,1],[4,3,0,2,1],[4,3,0,2,1],[5,4,3,0,2,1],[6,4,3,0,2,1,7,5]])) (.reg false [O1 46 .mv 5,O1 47 .mv 11,O2 48 (.call 15) 46 47,O1 45 .mv 48,O1 49 (.ext 0) 45,O1 50 (.ext 1) 45,O1 5 .mv 49]))) .skip))))) (.reg false [K2 51 (.bin .add) 26 (iV 1),O1 26 .mv 51]))))
def x35:XFn:=⟨53,(.seq (.reg false [K1 4 .mv (.slice none 0 0)]) (.seq (.seq (.reg false [O1 13 .mv 0,⟨(some 14),(.x (.eqP false)),[(.t 13),(.k (.pointer none))],none⟩,O1 15 .mv 14,G1 16 .mv 1 15 false,G1 17 (.call 61) 16 15 false,G1 18 (.un .not) 17 15 false,⟨(some 19),.pick,[(.t 15),(.k (.bool true)),(.t 18)],none⟩]) (.cond (.t 19) (.seq (.reg false [K1 4 .mv (.slice none 0 0)]) .ret) .skip)) (.seq (.reg false [K1 5 .mv (.slice none 0 0)]) (.seq (.reg false [O1 20 .mv 0,O1 21 (.call 31) 20,O1 6 .mv 21]) (.seq (.seq (.reg false [O1 22 .mv 0,O1 23 .nilc 22,O1 24 (.fld 1) 23,O1 25 (.loadN 8) 24,K1 26 .mv (iV 0)]) (.block 0 (.loop x35L0))) (.seq (.reg false [O1 52 .mv 5,O1 4 .mv 52]) .ret)))))),[(.s 4)]⟩
theorem x35_ok:xfn Tryz.prog Tryz.f35=some x35.er:=by kernel_rfl
def x34:XFn:=⟨11,(.seq (.reg false [K1 2 .mv (.slice none 0 0)]) (.seq (.seq (.reg false [O1 3 .mv 0,⟨(some 4),(.x (.eqP false)),[(.t 3),(.k (.pointer none))],none⟩]) (.cond (.t 4) (.seq (.reg false [K1 2 .mv (.slice none 0 0)]) .ret) .skip)) (.seq (.reg false [O1 5 .mv 0,O1 6 .mv 0,O1 7 .nilc 6,O1 8 (.fld 0) 7,O1 9 .load1 8,O2 10 (.call 35) 5 9,O1 2 .mv 10]) .ret))),[(.s 2)]⟩
theorem x34_ok:xfn Tryz.prog Tryz.f34=some x34.er:=by kernel_rfl
def g58f:Con:=sortCon eE cmpE 119 71
theorem c58f:COk Tryz.prog 58 g58f:=cok_sort (gc:=g71) sortE rfl Tryz.isAgg119 Tryz.sizeOf119 ord_E (by decide) (by kernel_rfl) c71 (fun _ _ _ _=>rfl) (by kernel_rfl)
def g38:Con:=fun args_ E_ nn_=>match args_ with
 | [.a [.v (.int .i64 f_Q),.v (.int .i64 f_X),.v (.int .i64 f_Y)],.c (.n l)]=>(match rowOf E_ l with
  | some (l_n,l_s,l_f)=>some (.e (isRow eE l_n l_s l_f∧(validF (⟨f_Q,f_X,f_Y⟩:FR)=true∧valE (decL eE l_n l_f)=true)∧∀ e∈(decL eE l_n l_f),cellE e∧cellE (imgE (⟨f_Q,f_X,f_Y⟩:FR) e)) (.t [.c (.n (nn_+0)),.c (.v (.int .i64 (0)))]) [((nn_+0),.own (srtL cmpE (((decL eE l_n l_f)).map (imgE (⟨f_Q,f_X,f_Y⟩:FR)))).length 4 (rowF eE (srtL cmpE (((decL eE l_n l_f)).map (imgE (⟨f_Q,f_X,f_Y⟩:FR))))) 119)] (nn_+1))
  | none=>none)
 | _=>none
theorem c38:COk Tryz.prog 38 g38:=by
 refine cok_d Tryz.func38 x38_ok (by kernel_rfl) (cok_tab (cok_cons c69 (cok_cons c52 (cok_cons c70 (cok_cons c58f cok_nil))))) ?_
 intro args_ E_ nn_ cr_ hg_
 unfold g38 at hg_
 split at hg_
 ·rename_i f_Q f_X f_Y l
  split at hg_
  ·rename_i l_n l_s l_f h_l
   cases hg_
   refine ⟨_,_,_,_,rfl,1,[l],[.a [.v (.int .i64 f_Q),.v (.int .i64 f_X),.v (.int .i64 f_Y)],.c (.n 0)],[(0,.ro (decL eE l_n l_f).length eE.sz (rowF eE (decL eE l_n l_f)))],.t [.c (.n 1),.c (.v (.int .i64 (0)))],[(1,.own (srtL cmpE (((decL eE l_n l_f)).map (imgE (⟨f_Q,f_X,f_Y⟩:FR)))).length 4 (rowF eE (srtL cmpE (((decL eE l_n l_f)).map (imgE (⟨f_Q,f_X,f_Y⟩:FR))))) 119)],2,rfl,rfl,by simp only [renE,Ent.ren,rowF_renf]<;>rfl,rfl,by decide,and4 (by simp only [push_cast,Nat.reduceLT,Nat.reduceAdd]) ⟨rfl,⟨inE0_row h_l,trivial⟩,by simp only [keysNodup,outN,keys]<;>decide,rfl,.inl rfl,?_⟩⟩
   intro hpre hlen
   obtain ⟨i_l,hpre⟩:=hpre
   refine ⟨⟨inE_row h_l i_l,trivial⟩,by simp only [apartE]<;>(first | trivial | (simp [Ent.mut]; done)),?_⟩
   have z_l:=lens_row (E:=eE) hlen h_l
   clear i_l
   generalize decL eE l_n l_f=lL at *
   clear h_l
   simp (maxSteps:=9999999) only [x38,push_cast,simprocAttr,g69,g52,g70,g58f]
   obtain ⟨⟨hf,hv⟩,hc⟩:=hpre
   obtain ⟨hlb,hall⟩:=valE_get hv
   have hnd:=imgE_nodup (f:=(⟨f_Q,f_X,f_Y⟩:FR)) (up_nodup hv)
   have hdf:=(diffL_nodup _).2 hnd
   refine ⟨fun h=>?_,fun _ _=>?_⟩
   ·rw [hf,hv] at h; rcases h with h | h<;>cases h
   refine vcLoop_upd (α:={k:Nat // k≤lL.length}) [2,19,20] 1 (fun s=>[(6,.o (.c (.n 2))),(21,.o (.c (.v (.int .i64 (s.1:Nat)))))]) (fun s=>[(2,.own ((lL.take s.1).map (imgE (⟨f_Q,f_X,f_Y⟩:FR))).length 4 (rowF eE ((lL.take s.1).map (imgE (⟨f_Q,f_X,f_Y⟩:FR)))) 119)]) (fun s=>lL.length - s.1) ⟨0,by omega⟩ ?_ ?_
   ·simp only [push_cast,simprocAttr,g69,g52,g70,g58f]
    rfl
   rintro ⟨k,hk⟩
   simp only [x38L0,push_cast,simprocAttr,g69,g52,g70,g58f]
   refine ⟨fun hl=>?_,fun hn=>?_⟩
   ·have hm:=hc _ (getE_mem hl)
    exact ⟨hl,hl,⟨⟨hf,win_cell hm.1⟩,win_cell hm.2⟩,by rw [List.length_map,List.length_take]; omega,⟨k+1,hl⟩,⟨wrapI (by omega) (by omega),push_eq (E:=eE) (x:=imgE (⟨f_Q,f_X,f_Y⟩:FR) (lL.getD k eE.dflt)) (by rw [List.take_add_one,List.getElem?_eq_getElem hl,List.map_append,List.getD_eq_getElem?_getD,List.getElem?_eq_getElem hl]; rfl)⟩,by simp only; omega⟩
   ·obtain rfl:k=lL.length:=by omega
    rw [List.take_length]
    exact ⟨⟨by rw [List.length_map]; omega,hdf⟩,(srtL_len _).symm,by rw [← srtL_len (cf:=cmpE)]; exact (rowEq_rowF _ _ _ _).2 trivial⟩
  ·cases hg_
 ·cases hg_
noncomputable def g35:Con:=fun args_ E_ nn_=>match args_ with
 | [.c (.p s 0),.c (.v (.int .i64 n))]=>(match E_ s with
  | some (.bx s_n s_f s_ty s_p)=>some (.e (isSt s_n s_f s_ty s_p∧(0≤n∧n < 8)∧okSt (decX s_f s_p)∧sizeK (decX s_f s_p) 8≤1048576) (.o (.c (.n (nn_+0)))) [((nn_+0),.own (conL (viewK (decX s_f s_p) n 8)).length 4 (rowF eE (conL (viewK (decX s_f s_p) n 8))) 119),(s,.bx 73 (stF ((decX s_f s_p)) ((decG s_f s_p))) 130 (stP ((decX s_f s_p)) ((decG s_f s_p))))] (nn_+1))
  | _=>none)
 | _=>none
theorem c35:COk Tryz.prog 35 g35:=by
 refine cok_d Tryz.func35 x35_ok (by kernel_rfl) (cok_tab (cok_cons c61 (cok_cons c31 (cok_cons c37 (cok_cons c18 (cok_cons c38 (cok_cons c15 cok_nil))))))) ?_
 intro args_ E_ nn_ cr_ hg_
 unfold g35 at hg_
 split at hg_
 ·rename_i s n
  split at hg_
  ·rename_i s_n s_f s_ty s_p h_s
   cases hg_
   refine ⟨_,_,_,_,rfl,1,[s],[.c (.p 0 0),.c (.v (.int .i64 n))],[(0,.bx 73 (stF (decX s_f s_p) (decG s_f s_p)) 130 (stP (decX s_f s_p) (decG s_f s_p)))],.o (.c (.n 1)),[(1,.own (conL (viewK (decX s_f s_p) n 8)).length 4 (rowF eE (conL (viewK (decX s_f s_p) n 8))) 119),(0,.bx 73 (stF ((decX s_f s_p)) ((decG s_f s_p))) 130 (stP ((decX s_f s_p)) ((decG s_f s_p))))],2,rfl,rfl,by simp only [renE,Ent.ren,rowF_renf,stF_renF,stP_ren]<;>rfl,rfl,by decide,and4 (by simp only [push_cast,Nat.reduceLT,Nat.reduceAdd]) ⟨rfl,⟨⟨_,h_s⟩,trivial⟩,by simp only [keysNodup,outN,keys]<;>decide,rfl,.inr ⟨.inl rfl,trivial⟩,?_⟩⟩
   intro hpre hlen
   obtain ⟨i_s,hpre⟩:=hpre
   have hap:apartE (sg 1 nn_ [s]) [(0,.bx 73 (stF (decX s_f s_p) (decG s_f s_p)) 130 (stP (decX s_f s_p) (decG s_f s_p)))] [(0,.bx 73 (stF (decX s_f s_p) (decG s_f s_p)) 130 (stP (decX s_f s_p) (decG s_f s_p)))]:=by
    refine ⟨fun _ k2 e2 hm hne=>?_,?_⟩
    ·simp only [List.mem_cons,List.not_mem_nil,or_false,Prod.mk.injEq] at hm
     obtain ⟨rfl,_⟩:=hm
     exact absurd rfl hne
    trivial
   refine ⟨⟨⟨_,h_s,isSt_le i_s⟩,trivial⟩,hap,?_⟩
   clear i_s
   generalize decG s_f s_p=sG at *
   generalize decX s_f s_p=sX at *
   clear h_s
   simp (maxSteps:=9999999) only [x35,push_cast,simprocAttr,g61,g31,g37,g18,g38,g15]
   obtain ⟨hn,ho,hsz⟩:=hpre
   refine ⟨fun h=>absurd hn h,fun _ _=>⟨ho,?_⟩⟩
   refine vcLoop_upd (α:={k:Nat // k≤8}) [1,6,25] 1 (fun s=>[(5,.o (.c (.n 3))),(26,.o (.c (.v (.int .i64 (s.1:Nat)))))]) (fun s=>[(3,.own (conL (viewK sX n s.1)).length 4 (rowF eE (conL (viewK sX n s.1))) 119),(1,.box [.n 2] 178),(2,.own (frmL (relL sX)).length 5 (rowF eRl (frmL (relL sX))) 70),(0,.bx 73 (stF (sX) (sG)) 130 (stP (sX) (sG)))]) (fun s=>8 - s.1) ⟨0,by omega⟩ ?_ ?_
   ·simp only [push_cast,simprocAttr,g61,g31,g37,g18,g38,g15]
    exact congrArg List.length con_nil
   rintro ⟨k,hk⟩
   by_cases hlt:k < 8
   ·have h1:((k:Int) < 8)=True:=eq_true (by omega)
    have hK:k * 1 < 8:=by omega
    have hF:stF sX sG (1+k * 1) = .v (padd (sG k 0) 0):=by rw [Nat.mul_one,stF_a sX sG hlt]
    have hsk:=sizeK_mono sX (8 - (k+1)) (k+1)
    rw [Nat.add_sub_cancel' hlt,sizeK_succ] at hsk
    have hvl:=viewK_len sX n k
    have hpB:(∀ r∈frmL (relL sX),goodR r)∧(frmL (relL sX)).length≤1000∧0≤n∧n < 8:=⟨frmL_good ho.2.2.2,by have:=foldA_len (L:=relL sX) (l:=[]); have:=relTo_len sX 8; unfold relL at *; unfold frmL; simp only [List.length_nil] at *; omega,hn⟩
    cases hb:btwO (frmL (relL sX)) n (k:Int) with
    | none=>
     have hbs:(btwO (frmL (relL sX)) n (k:Int)).isSome=false:=by rw [hb]; rfl
     have hvs:viewK sX n (k+1)=viewK sX n k:=by rw [viewK_succ]; unfold viewI; rw [hb]; exact List.append_nil _
     simp only [x35L0,push_cast,simprocAttr,g61,g31,g37,g18,g38,g15,h1,hK,hF,hbs]
     exact ⟨hpB,⟨k+1,hlt⟩,⟨wrapI (by omega) (by omega),same_eq (by rw [hvs])⟩,by simp only; omega⟩
    | some f=>
     have hbs:(btwO (frmL (relL sX)) n (k:Int)).isSome=true:=by rw [hb]; rfl
     have hbF:btwF (frmL (relL sX)) n (k:Int)=f:=by unfold btwF; rw [hb]; rfl
     have hvs:viewK sX n (k+1)=viewK sX n k++(allX sX k).map (imgE f):=by rw [viewK_succ]; unfold viewI; rw [hb]
     have hbf:=btw_bd (frmL_good ho.2.2.2) hn hb
     simp only [x35L0,push_cast,simprocAttr,g61,g31,g37,g18,g38,g15,h1,hK,hF,hbs,hbF]
     refine ⟨hpB,_,_,told_then (told_tA (a:=k) 0 sX sG hlt (by simp only; omega) rfl) (told_tS (a:=k) 0 8 5 sX sG rfl rfl),?_⟩
     rintro ⟨⟩
     simp (maxSteps:=9999999) only [push_cast,simprocAttr,g61,g31,g37,g18,g38,g15,h1]
     have eC:allC (sOf sX sG k) (qOf sX k)=allX sX k:=by
      unfold allX
      rw [← sOf_sh sX sG k]
      exact allC_sh (shv_sh _).symm _
     rw [eC]
     have uX:=allX_unit sX k
     have nX:=allX_near ho k
     have cX:∀ e∈allX sX k,cellE e:=fun e he=>near_cell (nX e he)
     have hcl:∀ e∈conL (allX sX k),cellE e∧cellE (imgE f e):=fun e he=>con_cell2 hbf (unit_ok uX) nX he
     have uA:=viewK_unit sX n k
     have cA:=viewK_cell ho hn k
     have uB:∀ e∈(allX sX k).map (imgE f),unitE e:=img_unit uX
     have cB:∀ e∈(allX sX k).map (imgE f),cellE e:=fun e he=>by
      obtain ⟨a,ha,rfl⟩:=List.mem_map.1 he
      exact near_img hbf (nX a ha)
     have hlB:((allX sX k).map (imgE f)).length=(allX sX k).length:=List.length_map _
     have hsf:=sum_fits uA uB (by omega)
     have hsc:=sum_con (unit_ok uA) (unit_ok uB)
     refine ⟨⟨⟨okS_of (ho.2.1 k),ho.2.2.1 k⟩,by omega⟩,⟨⟨valid_bd hbf,con_val uX cX (by omega)⟩,hcl⟩,rfl,?_⟩
     rw [con_img (unit_ok uX)]
     refine ⟨_,_,told_gB (a:=k) 0 5 sX sG hlt (by decide) rfl rfl rfl rfl,?_⟩
     rintro ⟨⟩
     simp (maxSteps:=9999999) only [push_cast,simprocAttr,g61,g31,g37,g18,g38,g15,h1]
     exact ⟨⟨⟨con_val uA cA (by omega),con_val uB cB (by rw [List.length_map]; omega)⟩,⟨conL_pos (unit_ok uA),conL_pos (unit_ok uB)⟩,hsf.1,hsf.2⟩,⟨k+1,hlt⟩,⟨wrapI (by omega) (by omega),same_eq (by show conL (viewK sX n (k+1))=_; rw [hvs]; exact hsc.symm)⟩,by simp only; omega⟩
   ·have h1:((k:Int) < 8)=False:=eq_false (by omega)
    obtain ⟨B,hB⟩:∃ B,x35L0 = .seq (.reg false [K2 27 (.bin .lss) 26 (iV 8)]) (.seq (.cond (.t 27) .skip (.exit 0)) B):=⟨_,rfl⟩
    simp only [hB,push_cast,simprocAttr,g61,g31,g37,g18,g38,g15,h1]
    obtain rfl:k=8:=by omega
    exact ⟨rfl,(rowEq_rowF _ _ _ _).2 trivial⟩
  ·cases hg_
 ·cases hg_
noncomputable def g34:Con:=fun args_ E_ nn_=>match args_ with
 | [.c (.p s 0)]=>(match E_ s with
  | some (.bx s_n s_f s_ty s_p)=>some (.e (isSt s_n s_f s_ty s_p∧okSt (decX s_f s_p)∧sizeK (decX s_f s_p) 8≤1048576) (.o (.c (.n (nn_+0)))) [((nn_+0),.own (conL (viewK (decX s_f s_p) ((decX s_f s_p)).me 8)).length 4 (rowF eE (conL (viewK (decX s_f s_p) ((decX s_f s_p)).me 8))) 119),(s,.bx 73 (stF ((decX s_f s_p)) ((decG s_f s_p))) 130 (stP ((decX s_f s_p)) ((decG s_f s_p))))] (nn_+1))
  | _=>none)
 | _=>none
theorem c34:COk Tryz.prog 34 g34:=by
 refine cok_d Tryz.func34 x34_ok (by kernel_rfl) (cok_tab (cok_cons c35 cok_nil)) ?_
 intro args_ E_ nn_ cr_ hg_
 unfold g34 at hg_
 split at hg_
 ·rename_i s
  split at hg_
  ·rename_i s_n s_f s_ty s_p h_s
   cases hg_
   refine ⟨_,_,_,_,rfl,1,[s],[.c (.p 0 0)],[(0,.bx 73 (stF (decX s_f s_p) (decG s_f s_p)) 130 (stP (decX s_f s_p) (decG s_f s_p)))],.o (.c (.n 1)),[(1,.own (conL (viewK (decX s_f s_p) ((decX s_f s_p)).me 8)).length 4 (rowF eE (conL (viewK (decX s_f s_p) ((decX s_f s_p)).me 8))) 119),(0,.bx 73 (stF ((decX s_f s_p)) ((decG s_f s_p))) 130 (stP ((decX s_f s_p)) ((decG s_f s_p))))],2,rfl,rfl,by simp only [renE,Ent.ren,rowF_renf,stF_renF,stP_ren]<;>rfl,rfl,by decide,and4 (by simp only [push_cast,Nat.reduceLT,Nat.reduceAdd]) ⟨rfl,⟨⟨_,h_s⟩,trivial⟩,by simp only [keysNodup,outN,keys]<;>decide,rfl,.inr ⟨.inl rfl,trivial⟩,?_⟩⟩
   intro hpre hlen
   obtain ⟨i_s,hpre⟩:=hpre
   have hap:apartE (sg 1 nn_ [s]) [(0,.bx 73 (stF (decX s_f s_p) (decG s_f s_p)) 130 (stP (decX s_f s_p) (decG s_f s_p)))] [(0,.bx 73 (stF (decX s_f s_p) (decG s_f s_p)) 130 (stP (decX s_f s_p) (decG s_f s_p)))]:=by
    refine ⟨fun _ k2 e2 hm hne=>?_,?_⟩
    ·simp only [List.mem_cons,List.not_mem_nil,or_false,Prod.mk.injEq] at hm
     obtain ⟨rfl,_⟩:=hm
     exact absurd rfl hne
    trivial
   refine ⟨⟨⟨_,h_s,isSt_le i_s⟩,trivial⟩,hap,?_⟩
   clear i_s
   generalize decG s_f s_p=sG at *
   generalize decX s_f s_p=sX at *
   clear h_s
   simp (maxSteps:=9999999) only [x34,push_cast,simprocAttr,g35]
   exact ⟨⟨hpre.1.1.1,hpre.1.1.2⟩,hpre.1,hpre.2⟩
  ·cases hg_
 ·cases hg_
end Go.Proofs.YtgpbokembopapaaGreat
namespace Go.Proofs.YtgpbokembopapaaGreat
open Go.Sx Go.Way
abbrev I64:={n:Int // -9223372036854775808≤n∧n≤9223372036854775807}
def toI64 (n:Int):I64:=if h:-9223372036854775808≤n∧n≤9223372036854775807 then ⟨n,h⟩ else ⟨0,by decide⟩
theorem toI64_val (n:I64):toI64 n.1=n:=by unfold toI64; rw [dif_pos n.2]
structure TK where
 w:Int
 who:I64
 oth:I64
 n:NT
 r:RL
def eTk:DEnc TK where
 sz:=16
 cell:=fun x j=>match j with
  | 0=>some (.int .u8 x.w)
  | 1=>some (.int .i64 x.who.1)
  | 2=>some (.int .i64 x.oth.1)
  | 3=>some (.bool x.n.put)
  | 4=>some (.int .i64 x.n.id)
  | 6=>some (.int .i64 x.n.p.v)
  | 7=>some (.bool x.n.p.g)
  | 8=>some (.int .i64 x.n.p.x)
  | 9=>some (.int .i64 x.n.p.y)
  | 10=>some (.int .i64 x.n.p.h)
  | 11=>some (.int .i64 x.r.A)
  | 12=>some (.int .i64 x.r.B)
  | 13=>some (.int .i64 x.r.Q)
  | 14=>some (.int .i64 x.r.X)
  | 15=>some (.int .i64 x.r.Y)
  | _=>none
 inr:=fun x j=>match j with
  | 5=>inL eC x.n.s
  | _=>none
 dflt:=⟨0,⟨0,by decide⟩,⟨0,by decide⟩,⟨false,0,[],⟨0,false,0,0,0⟩⟩,⟨0,0,0,0,0⟩⟩
 dec:=fun f c=>⟨intV (f 0),toI64 (intV (f 1)),toI64 (intV (f 2)),⟨boolV (f 3),intV (f 4),decO eC (c 5),⟨intV (f 6),boolV (f 7),intV (f 8),intV (f 9),intV (f 10)⟩⟩,⟨intV (f 11),intV (f 12),intV (f 13),intV (f 14),intV (f 15)⟩⟩
 de:=by
  intro x f c h1 h2
  have a0:=h1 0 _ (by decide) rfl
  have a1:=h1 1 _ (by decide) rfl
  have a2:=h1 2 _ (by decide) rfl
  have a3:=h1 3 _ (by decide) rfl
  have a4:=h1 4 _ (by decide) rfl
  have a6:=h1 6 _ (by decide) rfl
  have a7:=h1 7 _ (by decide) rfl
  have a8:=h1 8 _ (by decide) rfl
  have a9:=h1 9 _ (by decide) rfl
  have a10:=h1 10 _ (by decide) rfl
  have a11:=h1 11 _ (by decide) rfl
  have a12:=h1 12 _ (by decide) rfl
  have a13:=h1 13 _ (by decide) rfl
  have a14:=h1 14 _ (by decide) rfl
  have a15:=h1 15 _ (by decide) rfl
  have a5:=decO_in (h2 5 (by decide))
  simp only [a0,a1,a2,a3,a4,a5,a6,a7,a8,a9,a10,a11,a12,a13,a14,a15,intV,boolV,toI64_val]
theorem eTk_sz:eTk.sz=16:=rfl
section
variable (L:List TK) (V:Nat→Nat→Value) (e:Nat)
theorem eTk_0:deepF eTk L V e 0 = .int .u8 (L.getD e eTk.dflt).w:=rfl
theorem eTk_1:deepF eTk L V e 1 = .int .i64 (L.getD e eTk.dflt).who.1:=rfl
theorem eTk_2:deepF eTk L V e 2 = .int .i64 (L.getD e eTk.dflt).oth.1:=rfl
theorem eTk_3:deepF eTk L V e 3 = .bool (L.getD e eTk.dflt).n.put:=rfl
theorem eTk_4:deepF eTk L V e 4 = .int .i64 (L.getD e eTk.dflt).n.id:=rfl
theorem eTk_6:deepF eTk L V e 6 = .int .i64 (L.getD e eTk.dflt).n.p.v:=rfl
theorem eTk_7:deepF eTk L V e 7 = .bool (L.getD e eTk.dflt).n.p.g:=rfl
theorem eTk_8:deepF eTk L V e 8 = .int .i64 (L.getD e eTk.dflt).n.p.x:=rfl
theorem eTk_9:deepF eTk L V e 9 = .int .i64 (L.getD e eTk.dflt).n.p.y:=rfl
theorem eTk_10:deepF eTk L V e 10 = .int .i64 (L.getD e eTk.dflt).n.p.h:=rfl
theorem eTk_11:deepF eTk L V e 11 = .int .i64 (L.getD e eTk.dflt).r.A:=rfl
theorem eTk_12:deepF eTk L V e 12 = .int .i64 (L.getD e eTk.dflt).r.B:=rfl
theorem eTk_13:deepF eTk L V e 13 = .int .i64 (L.getD e eTk.dflt).r.Q:=rfl
theorem eTk_14:deepF eTk L V e 14 = .int .i64 (L.getD e eTk.dflt).r.X:=rfl
theorem eTk_15:deepF eTk L V e 15 = .int .i64 (L.getD e eTk.dflt).r.Y:=rfl
theorem eTk_5:deepC eTk L e 5=some ((L.getD e eTk.dflt).n.s.length,2,rowG eC (L.getD e eTk.dflt).n.s):=rfl
end
attribute [push_cast] eTk_sz eTk_0 eTk_1 eTk_2 eTk_3 eTk_4 eTk_5 eTk_6 eTk_7 eTk_8 eTk_9 eTk_10 eTk_11 eTk_12 eTk_13 eTk_14 eTk_15
def toldB (L:List TK):Bool:=decide (L.length≤10) && L.all fun t=>decide (t.n.s.length≤2)
theorem getT_at {L:List TK} {k:Nat} (h:k < L.length):L.getD k eTk.dflt=L[k]:=by rw [List.getD_eq_getElem?_getD,List.getElem?_eq_getElem h]; rfl
theorem told_no {L:List TK} {k:Nat} (h:k < L.length) (h3:2 < (L.getD k eTk.dflt).n.s.length):toldB L=false:=by
 unfold toldB
 have:(L.all fun t=>decide (t.n.s.length≤2))=false:=by
  rw [List.all_eq_false]
  refine ⟨L[k],List.getElem_mem h,?_⟩
  rw [getT_at h] at h3
  rw [decide_eq_true_eq]; omega
 rw [this,Bool.and_false]
theorem told_yes {L:List TK} (h:L.length≤10) (hall:∀ i,i < L.length→(L.getD i eTk.dflt).n.s.length≤2):toldB L=true:=by
 unfold toldB
 rw [decide_eq_true h,Bool.true_and,List.all_eq_true]
 intro n hn
 obtain ⟨k,hk,rfl⟩:=List.getElem_of_mem hn
 have:=hall k hk
 rw [getT_at hk] at this
 rw [decide_eq_true_eq]; exact this
theorem okH_nil:okH []:=fun _ h=>by cases h
theorem okQ_nil:okQ []:=fun _ h=>by cases h
theorem okSt_new {me:Int} (h:0≤me∧me < 8):okSt (newX me) :=
 ⟨h,fun a=>by rw [hOf_new]; exact okH_nil,fun a=>by rw [qOf_new]; exact okQ_nil,fun a b f h=>by rw [rOf_new] at h; cases h⟩
theorem okSt_upd {x:STN} {a:Nat} {T:SH} {L:List QE} (h:okSt x) (hT:okH T) (hL:okQ L):okSt (updA x a T L):=by
 obtain ⟨h0,h1,h2,h3⟩:=h
 refine ⟨h0,fun i=>?_,fun i=>?_,h3⟩
 ·rw [hOf_upd]; split
  ·exact hT
  ·exact h1 i
 ·rw [qOf_upd]; split
  ·exact hL
  ·exact h2 i
theorem okSt_put {x:STN} {id:Int} {s:List CC} (h:okSt x) (a:Nat):okSt (updA x a (putH (hOf x a) id s) (qOf x a)):=okSt_upd h (okH_put (h.2.1 a)) (h.2.2.1 a)
theorem okSt_plc {x:STN} {id:Int} {p:PL} (h:okSt x) (a:Nat):okSt (updA x a (hOf x a) (plcL (qOf x a) id p)):=okSt_upd h (h.2.1 a) (okQ_plc (h.2.2.1 a))
theorem frR_ok {r:RL} (h:goodR r):(0≤(frR r).q∧(frR r).q < 4)∧bd 1024 (frR r).x∧bd 1024 (frR r).y:=by
 obtain ⟨_,_,_,hx,hy⟩:=h
 refine ⟨⟨Int.emod_nonneg _ (by decide),Int.emod_lt_of_pos _ (by decide)⟩,?_⟩
 unfold frR nmF
 simp only
 split
 ·exact invF_bd (f:=rlF r) ⟨hx,hy⟩
 ·exact ⟨hx,hy⟩
theorem okRel_take {x:STN} {r:RL} (h:okRel x) (hr:goodR r):okRel (takeD x r):=by
 unfold takeD
 split
 ·intro a b f hf
  rw [rOf_set] at hf
  split at hf
  ·rename_i e
   cases hf
   obtain ⟨⟨rfl,rfl⟩,_,_⟩:=e
   have:=frR_ok hr
   refine ⟨?_,this⟩
   obtain ⟨h1,h2,h3,_⟩:=hr
   unfold loR hiR
   split<;>omega
  ·exact h a b f hf
 ·exact h
theorem take_H (x:STN) (r:RL):(takeD x r).me=x.me∧(takeD x r).H=x.H∧(takeD x r).Q=x.Q:=by
 unfold takeD
 split
 ·exact ⟨rfl,rfl,rfl⟩
 ·exact ⟨rfl,rfl,rfl⟩
theorem okSt_take {x:STN} {r:RL} (h:okSt x) (hr:goodR r):okSt (takeD x r):=by
 obtain ⟨e0,e1,e2⟩:=take_H x r
 refine ⟨by unfold okMe; rw [e0]; exact h.1,fun a=>?_,fun a=>?_,okRel_take h.2.2.2 hr⟩
 ·unfold hOf; rw [e1]; exact h.2.1 a
 ·unfold qOf; rw [e2]; exact h.2.2.1 a
theorem okSt_rel {x:STN} (r:RL) (h:okSt x):okSt (relD x r):=by
 unfold relD
 split
 ·rename_i g; exact okSt_take h (good_iff.1 g)
 ·exact h
theorem okSt_fold {L:List RL}:∀ {x:STN},okSt x→(∀ r∈L,goodR r)→okSt (L.foldl takeD x):=by
 induction L with
 | nil=>exact fun h _=>h
 | cons r L ih=>exact fun h hl=>ih (okSt_take h (hl r (List.mem_cons_self ..))) fun q hq=>hl q (List.mem_cons_of_mem _ hq)
theorem hOf_hear8 (x y:STN) {a:Nat} (h:a < 8):hOf (hearK x y 8) a=joinS (hOf x a) (hOf y a) (qOf y a):=by
 unfold hOf qOf hearK
 rw [dif_pos h,dif_pos h,dif_pos h,dif_pos h]
 simp only
 rw [if_pos h]
theorem qOf_hear8 (x y:STN) {a:Nat} (h:a < 8):qOf (hearK x y 8) a=joinP (qOf x a) (hOf y a) (qOf y a):=by
 unfold hOf qOf hearK
 rw [dif_pos h,dif_pos h,dif_pos h,dif_pos h]
 simp only
 rw [if_pos h]
theorem okSt_hearK {x y:STN} (h:okSt x):okSt (hearK x y 8):=by
 refine ⟨h.1,fun a=>?_,fun a=>?_,h.2.2.2⟩
 ·by_cases e:a < 8
  ·rw [hOf_hear8 _ _ e]; exact okH_joinS (h.2.1 a)
  ·unfold hOf; rw [dif_neg e]; exact okH_nil
 ·by_cases e:a < 8
  ·rw [qOf_hear8 _ _ e]; exact okQ_joinP (h.2.2.1 a)
  ·unfold qOf; rw [dif_neg e]; exact okQ_nil
theorem okSt_hear {x y:STN} (h:okSt x) (h2:okSt y):okSt (hearD x y):=okSt_fold (okSt_hearK h) fun _ hr=>relL_good h2.2.2.2 hr
theorem fold_H (L:List RL):∀ x:STN,(L.foldl takeD x).me=x.me∧(L.foldl takeD x).H=x.H∧(L.foldl takeD x).Q=x.Q:=by
 induction L with
 | nil=>exact fun _=>⟨rfl,rfl,rfl⟩
 | cons r L ih=>
  intro x
  obtain ⟨a,b,c⟩:=ih (takeD x r)
  obtain ⟨a',b',c'⟩:=take_H x r
  exact ⟨a.trans a',b.trans b',c.trans c'⟩
theorem hear_me (x y:STN):(hearD x y).me=x.me:=(fold_H (relL y) (hearK x y 8)).1
theorem hear_H (x y:STN) {a:Nat} (h:a < 8):hOf (hearD x y) a=joinS (hOf x a) (hOf y a) (qOf y a):=by
 rw [← hOf_hear8 x y h]
 unfold hOf hearD
 rw [(fold_H (relL y) (hearK x y 8)).2.1]
theorem hear_Q (x y:STN) {a:Nat} (h:a < 8):qOf (hearD x y) a=joinP (qOf x a) (hOf y a) (qOf y a):=by
 rw [← qOf_hear8 x y h]
 unfold qOf hearD
 rw [(fold_H (relL y) (hearK x y 8)).2.2]
def awP:STN:=updA (newX 1) (newX 1).me.toNat (putH (hOf (newX 1) (newX 1).me.toNat) 3 [⟨0,96⟩]) (qOf (newX 1) (newX 1).me.toNat)
def awB:STN:=updA awP awP.me.toNat (hOf awP awP.me.toNat) (plcL (qOf awP awP.me.toNat) 3 ⟨1,false,32,32,0⟩)
def awA:STN:=relD (newX 0) ⟨0,1,0,1,0⟩
def awH:STN:=hearD awA awB
theorem aw_P:updA (newX 1) (newX 1).me.toNat (putH (hOf (newX 1) (newX 1).me.toNat) 3 [⟨0,96⟩]) (qOf (newX 1) (newX 1).me.toNat)=awP:=rfl
theorem aw_B:updA awP awP.me.toNat (hOf awP awP.me.toNat) (plcL (qOf awP awP.me.toNat) 3 ⟨1,false,32,32,0⟩)=awB:=rfl
theorem aw_A:relD (newX 0) ⟨0,1,0,1,0⟩=awA:=rfl
theorem aw_H:hearD awA awB=awH:=rfl
theorem awH_me:awH.me=0:=hear_me _ _
theorem awB_me:awB.me=1:=rfl
theorem aw_rel:relE ⟨0,1,0,1,0⟩=0:=rfl
theorem awN0:okSt (newX 0):=okSt_new (by decide)
theorem awN1:okSt (newX 1):=okSt_new (by decide)
theorem awP_ok:okSt awP:=okSt_put awN1 _
theorem awB_ok:okSt awB:=okSt_plc awP_ok _
theorem awA_ok:okSt awA:=okSt_rel _ awN0
theorem awH_ok:okSt awH:=okSt_hear awA_ok awB_ok
theorem awB_view:(conL (viewK awB 1 8)).length=3:=(srtL_len _).trans (by decide +kernel)
theorem awH_view:(conL (viewK awH 0 8)).length=3:=(srtL_len _).trans (by decide +kernel)
theorem awB_size:sizeK awB 8=3:=by decide +kernel
theorem awH_size:sizeK awH 8=3:=by decide +kernel
theorem aw_same:sameSt awH awB=false:=sameSt_rel (by decide +kernel)
def x25L0:XC:=(.seq (.seq (.reg false [O1 7 .mv 3,O1 8 .mv 0,O1 9 .lenS 8,O2 10 (.bin .lss) 7 9]) (.cond (.t 10) .skip (.exit 0))) (.seq (.opn 0 3 5 (.block 1 (.seq (.reg false [O1 13 .mv 0,O1 14 .mv 3,O2 15 (.ixS 16) 13 14,O1 16 (.fld 3) 15,O1 17 (.fld 2) 16,O1 18 .load1 17,O1 19 .lenS 18,K2 20 (.bin .gtr) 19 (iV 2)]) (.cond (.t 20) (.seq (.reg false [K1 2 .mv (.bool false)]) .ret) .skip)))) (.reg false [O1 11 .mv 3,K2 12 (.bin .add) 11 (iV 1),O1 3 .mv 12])))
def x25:XFn:=⟨21,(.seq (.reg false [K1 2 .mv (.bool false)]) (.seq (.seq (.reg false [O1 4 .mv 0,O1 5 .lenS 4,K2 6 (.bin .gtr) 5 (iV 10)]) (.cond (.t 6) (.seq (.reg false [K1 2 .mv (.bool false)]) .ret) .skip)) (.seq (.seq (.reg false [K1 3 .mv (iV 0)]) (.block 0 (.loop x25L0))) (.seq (.reg false [K1 2 .mv (.bool true)]) .ret)))),[(.s 2)]⟩
theorem x25_ok:xfn Tryz.prog Tryz.f25=some x25.er:=by kernel_rfl
def x24:XFn:=⟨78,(.seq (.reg false [K1 0 .mv (.bool false)]) (.seq (.reg false [K1 10 (.call 26) (iV 0),O1 9 .mv 10,O1 11 (.ext 0) 9,O1 12 (.ext 1) 9,O1 1 .mv 11,O1 2 .mv 12]) (.seq (.reg false [K1 14 (.call 26) (iV 1),O1 13 .mv 14,O1 15 (.ext 0) 13,O1 16 (.ext 1) 13,O1 3 .mv 15,O1 4 .mv 16]) (.seq (.seq (.reg false [O1 17 .mv 2,K2 18 (.bin .neq) 17 (iV 0),O1 19 .mv 18,G1 20 .mv 4 19 false,GK 21 (.bin .neq) 20 (iV 0) 19 false,⟨(some 22),.pick,[(.t 19),(.k (.bool true)),(.t 21)],none⟩,O1 23 .mv 22,G1 24 .mv 1 23 false,⟨(some 25),(.x (.eqP false)),[(.t 24),(.k (.pointer none))],(some (23,false))⟩,⟨(some 26),.pick,[(.t 23),(.k (.bool true)),(.t 25)],none⟩,O1 27 .mv 26,G1 28 .mv 3 27 false,⟨(some 29),(.x (.eqP false)),[(.t 28),(.k (.pointer none))],(some (27,false))⟩,⟨(some 30),.pick,[(.t 27),(.k (.bool true)),(.t 29)],none⟩]) (.cond (.t 30) (.seq (.reg false [K1 0 .mv (.bool false)]) .ret) .skip)) (.seq (.reg false [O1 31 .mv 3,⟨(some 32),(.build [(iV 0),(iV 0)] [(1,1)]),[(.k (iV 96))],none⟩,⟨(some 33),(.slit 89 1 2 [(iV 0),(iV 0)] [(0,2)]),[(.t 32)],none⟩,⟨(some 34),(.call 29),[(.t 31),(.k (iV 3)),(.t 33)],none⟩,O1 5 .mv 34]) (.seq (.reg false [O1 35 .mv 3,⟨(some 36),(.build [(iV 0),(iV 0),(iV 0)] [(0,1),(1,1)]),[(.k (iV 32)),(.k (iV 32))],none⟩,⟨(some 37),(.build [(iV 0),(.bool false),(iV 0),(iV 0),(iV 0)] [(0,1),(2,3)]),[(.k (iV 1)),(.t 36)],none⟩,⟨(some 38),(.call 30),[(.t 35),(.k (iV 3)),(.t 37)],none⟩,O1 6 .mv 38]) (.seq (.reg false [O1 39 .mv 1,⟨(some 40),(.build [(iV 0),(iV 0),(iV 0)] [(1,1)]),[(.k (iV 1))],none⟩,⟨(some 41),(.build [(iV 0),(iV 0),(iV 0),(iV 0),(iV 0)] [(0,1),(1,1),(2,3)]),[(.k (iV 0)),(.k (iV 1)),(.t 40)],none⟩,O2 42 (.call 27) 39 41,O1 7 .mv 42]) (.seq (.reg false [O1 43 .mv 1,O1 44 .mv 3,O2 45 (.call 28) 43 44,O1 8 .mv 45]) (.seq (.reg false [O1 46 .mv 5,K2 47 (.bin .eql) 46 (iV 0),O1 48 .mv 47,G1 49 .mv 6 48 true,GK 50 (.bin .eql) 49 (iV 0) 48 true,⟨(some 51),.pick,[(.t 48),(.t 50),(.k (.bool false))],none⟩,O1 52 .mv 51,G1 53 .mv 7 52 true,GK 54 (.bin .eql) 53 (iV 0) 52 true,⟨(some 55),.pick,[(.t 52),(.t 54),(.k (.bool false))],none⟩,O1 56 .mv 55,G1 57 .mv 8 56 true,GK 58 (.bin .eql) 57 (iV 0) 56 true,⟨(some 59),.pick,[(.t 56),(.t 58),(.k (.bool false))],none⟩,O1 60 .mv 59,G1 61 .mv 1 60 true,G1 62 (.call 34) 61 60 true,G1 63 .lenS 62 60 true,GK 64 (.bin .eql) 63 (iV 3) 60 true,⟨(some 65),.pick,[(.t 60),(.t 64),(.k (.bool false))],none⟩,O1 66 .mv 65,G1 67 .mv 3 66 true,G1 68 (.call 34) 67 66 true,G1 69 .lenS 68 66 true,GK 70 (.bin .eql) 69 (iV 3) 66 true,⟨(some 71),.pick,[(.t 66),(.t 70),(.k (.bool false))],none⟩,O1 72 .mv 71,G1 73 .mv 1 72 true,G1 74 .mv 3 72 true,G2 75 (.call 32) 73 74 72 true,G1 76 (.un .not) 75 72 true,⟨(some 77),.pick,[(.t 72),(.t 76),(.k (.bool false))],none⟩,O1 0 .mv 77]) .ret))))))))),[(.s 0)]⟩
theorem x24_ok:xfn Tryz.prog Tryz.f24=some x24.er:=by kernel_rfl
def g25:Con:=fun args_ E_ nn_=>match args_ with
 | [.c (.n l)]=>(match rowD eTk.sz E_ l with
  | some (l_n,l_s,l_f,l_c)=>some (.q (isDeep eTk l_n l_s l_f l_c∧True) (.o (.c (.v (.bool (toldB (decD eTk l_n l_f l_c)))))))
  | none=>none)
 | _=>none
theorem c25:COk Tryz.prog 25 g25:=by
 refine cok_q Tryz.func25 x25_ok (by kernel_rfl) (cok_tab cok_nil) ?_
 intro args_ E_ nn_ cr_ hg_
 unfold g25 at hg_
 split at hg_
 ·rename_i l
  split at hg_
  ·rename_i l_n l_s l_f l_c h_l
   cases hg_
   refine ⟨_,_,rfl,1,[l],[.c (.n 0)],[(0,.deep none (decD eTk l_n l_f l_c).length eTk.sz (deepF eTk (decD eTk l_n l_f l_c) l_f) (deepC eTk (decD eTk l_n l_f l_c)) [])],.o (.c (.v (.bool (toldB (decD eTk l_n l_f l_c))))),rfl,rfl,and3 (by simp only [push_cast,Nat.reduceLT,Nat.reduceAdd]) ⟨rfl,⟨inE0_deep h_l,trivial⟩,rfl,?_⟩⟩
   intro hpre hlen
   obtain ⟨i_l,hpre⟩:=hpre
   refine ⟨⟨inE_deep h_l i_l,trivial⟩,?_⟩
   have z_l:=lens_deep (D:=eTk) hlen h_l
   clear i_l
   generalize decD eTk l_n l_f l_c=lL at *
   clear h_l
   simp (maxSteps:=9999999) only [x25,push_cast,simprocAttr]
   refine ⟨fun h=>?_,fun h=>?_⟩
   ·unfold toldB; rw [decide_eq_false (by omega)]; rfl
   refine vcLoop_upd (α:={k:Nat // k≤lL.length∧∀ i,i < k→(lL.getD i eTk.dflt).n.s.length≤2}) [0] 0 (fun s=>[(3,.o (.c (.v (.int .i64 (s.1:Nat)))))]) (fun s=>[]) (fun s=>lL.length - s.1) ⟨0,by omega,fun i hi=>by omega⟩ ?_ ?_
   ·simp only [push_cast,simprocAttr]
   rintro ⟨k,hk,hall⟩
   simp only [x25L0,push_cast,simprocAttr]
   refine ⟨fun hlt=>⟨hlt,hlt,hlt,fun h3=>(told_no hlt (by omega)).symm,fun h3=>⟨⟨k+1,by omega,fun i hi=>?_⟩,wrapI (by omega) (by omega),by simp only; omega⟩⟩,fun hn=>(told_yes (by omega) fun i hi=>hall i (by omega)).symm⟩
   by_cases e:i=k
   ·subst e; omega
   ·exact hall i (by omega)
  ·cases hg_
 ·cases hg_
noncomputable def g24:Con:=fun args_ E_ nn_=>match args_ with
 | []=>some (.e (True) (.o (.c (.v (.bool (true))))) [] (nn_+0))
 | _=>none
theorem c24:COk Tryz.prog 24 g24:=by
 refine cok_e Tryz.func24 x24_ok (by kernel_rfl) (cok_tab (cok_cons c26 (cok_cons c29 (cok_cons c30 (cok_cons c27 (cok_cons c28 (cok_cons c34 (cok_cons c32 cok_nil)))))))) ?_
 intro args_ E_ nn_ cr_ hg_
 unfold g24 at hg_
 split at hg_
 ·skip
  cases hg_
  refine ⟨_,_,_,_,rfl,0,[],[],[],.o (.c (.v (.bool (true)))),[],0,rfl,rfl,by simp only [renE,Ent.ren,rowF_renf]<;>rfl,rfl,by decide,and4 (by simp only [push_cast,Nat.reduceLT,Nat.reduceAdd]) ⟨rfl,trivial,by simp only [keysNodup,outN,keys]<;>decide,rfl,rfl,?_⟩⟩
  intro hpre hlen
  refine ⟨trivial,by simp only [apartE]<;>(first | trivial | (simp [Ent.mut]; done)),?_⟩
  have hl1:isRow eC 1 2 (litF [SC.v (Value.int IntKind.i64 0),SC.v (Value.int IntKind.i64 96)] 2) ↔ True:=iff_true_intro (lits_row eC [(⟨0,96⟩:CC)]).1
  have hl2:decL eC 1 (litF [SC.v (Value.int IntKind.i64 0),SC.v (Value.int IntKind.i64 96)] 2)=[(⟨0,96⟩:CC)]:=(lits_row eC [(⟨0,96⟩:CC)]).2
  simp (maxSteps:=9999999) only [x24,push_cast,simprocAttr,g26,g29,g30,g27,g28,g34,g32,hl1,hl2,aw_P,aw_B,aw_A,aw_H,awH_me,awB_me,aw_rel,iff_true_intro awN0,iff_true_intro awN1,iff_true_intro awP_ok,iff_true_intro awB_ok,iff_true_intro awA_ok,iff_true_intro awH_ok,awB_view,awH_view,awB_size,awH_size,aw_same,awk_putE,awk_plcE]
 ·cases hg_
end Go.Proofs.YtgpbokembopapaaGreat
