/- A part of the proof of a statement about this seat: how a function is stepped through, and plain laws. No conditions. -/
import Derived.Test.YtgpbokembopapaaGreatRows
import Derived.Test.YtgpbokembopapaaGreatFLSz4
import Derived.Test.YtgpbokembopapaaGreatFLH2
import Derived.KernelRfl
set_option linter.unusedVariables false
set_option linter.unusedSimpArgs false
set_option maxRecDepth 20000
namespace Go.Proofs.YtgpbokembopapaaGreat
open Go.Sx Go.Way
section
open Go.Sx
def stFk (me:Int) (g:GV) (k:Nat) (j:Nat):SC:=if j=0 then .v (.int .i64 me) else if j < 1+k then .v (padd (g (j - 1) 0) 0) else if j < 73 then .v (.pointer none) else noC
def stPk (g:GV) (k:Nat):Pool:=fun a b=>if a < k then (match b with
 | 0=>some (g a 0,.box [g a 1,g a 2] 93)
 | 1=>some (g a 1,.dm false [])
 | 2=>some (g a 2,.dm false [])
 | _=>none) else none
def newX (me:Int):STN:=⟨me,fun _=>[],fun _=>[],fun _ _=>none⟩
theorem hOf_new (me:Int) (a:Nat):hOf (newX me) a=[]:=by unfold hOf newX; split<;>rfl
theorem qOf_new (me:Int) (a:Nat):qOf (newX me) a=[]:=by unfold qOf newX; split<;>rfl
theorem rOf_new (me:Int) (a b:Nat):rOf (newX me) a b=none:=by unfold rOf newX; split<;>rfl
theorem stFk_8 (me:Int) (g:GV):stFk me g 8=stF (newX me) g:=by
 funext j
 unfold stFk stF
 by_cases h:j=0
 ·rw [if_pos h,if_pos h]; rfl
 ·rw [if_neg h,if_neg h]
  by_cases h1:j < 9
  ·rw [if_pos (show j < 1+8 by omega),if_pos h1]
  ·rw [if_neg (show ¬ j < 1+8 by omega),if_neg h1,rOf_new]; rfl
theorem stPk_8 (g:GV) (me:Int):stPk g 8=stP (newX me) g:=by
 funext a b
 unfold stPk stP
 by_cases h:a < 8
 ·rw [if_pos h,if_pos h]
  match b with
  | 0=>rfl
  | 1=>simp only [sOf,hOf_new]; rfl
  | 2=>simp only [qOf_new]; rfl
  | n+3=>rfl
 ·rw [if_neg h,if_neg h]
  split
  ·rw [rOf_new]
  ·rfl
theorem stFk_v (me:Int) (g:GV) (k j:Nat):∃ V,stFk me g k j = .v V:=by
 unfold stFk
 split
 ·exact ⟨_,rfl⟩
 ·split
  ·exact ⟨_,rfl⟩
  ·split
   ·exact ⟨_,rfl⟩
   ·exact ⟨_,rfl⟩
theorem stFk_bxS (me:Int) (g:GV) (k:Nat) (m:Nat→Prop):bxSc m (stFk me g k) ↔ True:=iff_true_intro fun j=>by obtain ⟨V,h⟩:=stFk_v me g k j; rw [h]; trivial
theorem stFk_bxE (n:Nat) (f:Nat→SC) (me:Int) (g:GV) (k:Nat) (b:Bnd):bxEq n f (stFk me g k) (SC.sub b) ↔ ∀ j,j < n→f j=stFk me g k j:=by
 unfold bxEq
 exact forall_congr' fun j=>imp_congr_right fun _=>by obtain ⟨V,h⟩:=stFk_v me g k j; rw [h]; rfl
theorem stPk_no (g:GV) (k:Nat):noOut (stPk g k):=by
 intro i j U q h
 unfold stPk at h
 split at h
 ·split at h<;>cases h
 ·cases h
theorem stPk_noT (g:GV) (k:Nat):noOut (stPk g k) ↔ True:=iff_true_intro (stPk_no g k)
theorem stPk_sc (g:GV) (k:Nat) (m:Nat→Prop):poolSc m (stPk g k) ↔ True:=iff_true_intro fun i j U q h=>absurd h (stPk_no g k i j U q)
attribute [push_cast] stFk_bxS stFk_bxE stPk_noT stPk_sc
section
variable {S:St}
theorem told_pair {α β:Type} {S1:α→St} {S2:α→β→St} (h:Go.Sx.Told S S1) (h2:∀ y,Go.Sx.Told (S1 y) (S2 y)):Go.Sx.Told S (fun p:α × β=>S2 p.1 p.2):=by
 intro base M N n0 r0 r a w hr
 obtain ⟨y,r1,h3⟩:=h base M N n0 r0 r a w hr
 obtain ⟨z,r2,h4⟩:=h2 y base M N n0 r0 r1 a w h3
 exact ⟨(y,z),r2,h4⟩
theorem told_reg (i n:Nat) (f:Nat→SC) (ty:TypeId) (p:Pool) (a b k:Nat) (hi:lk S.ents i=some (.bx n f ty p)) (hk:k < S.next) (hp:p a b=none) :
  Go.Sx.Told S (fun V:Value=>⟨S.env,(i,.bx n f ty (setPl p a b (some (V,.out k)))) :: S.ents,S.next⟩):=by
 intro base M N n0 r0 r act w hr
 have hh:=hr.heap
 have hb:=hh.ent i _ hi
 have hil:=hr.scH i _ hi
 have hB:∀ q,poolB (setPl p a b (some (r k,.out k))) q→poolB p q:=by
  rintro q ⟨i',j',U',s',h2,h3⟩
  rcases setPl_cases h2 with ⟨rfl,rfl,h4⟩ | ⟨_,h4⟩
  ·cases h4; cases h3
  ·exact ⟨i',j',U',s',h4,h3⟩
 have hW:∀ q,poolW (setPl p a b (some (r k,.out k))) q→poolW p q:=by
  rintro q ⟨i',j',U',s',h2,h3⟩
  rcases setPl_cases h2 with ⟨rfl,rfl,h4⟩ | ⟨_,h4⟩
  ·cases h4; cases h3
  ·exact ⟨i',j',U',s',h4,h3⟩
 have hlk:∀ j x,lk ((i,Ent.bx n f ty (setPl p a b (some (r k,.out k)))) :: S.ents) j=some x→(j=i∧x = .bx n f ty (setPl p a b (some (r k,.out k))))∨(j≠i∧lk S.ents j=some x):=by
  intro k x hx
  simp only [lk] at hx
  split at hx
  ·rename_i g; cases hx; exact .inl ⟨g.symm,rfl⟩
  ·rename_i g; exact .inr ⟨fun q=>g q.symm,hx⟩
 refine ⟨r k,r,hr.defers,hr.tmps,hr.slot,?_,hr.scE,?_,hr.low,hr.keep⟩
 ·refine hh.redo (fun j=>j=i) (fun j hj=>by simp only [lk]; rw [if_neg (fun q=>hj q.symm)]) (fun j e he _=>⟨rfl,Ent.sc_all (fun _=>rfl) _⟩) hh.one (Nat.le_refl _) rfl rfl (.refl _) (fun _ _ _=>rfl) ?_ ?_ ?_ ?_
  ·intro j x hj hx
   rcases hlk j x hx with ⟨rfl,rfl⟩ | ⟨h2,_⟩
   ·obtain ⟨⟨b0,g1,g2,g3⟩,g4,g5⟩:=hb
    refine ⟨⟨b0,g1,g2,fun q=>g3 (hB _ q)⟩,fun i' j' U' s' h2=>?_,fun i1 j1 i2 j2 U1 U2 s1 s2 q q1 q2 hne' hw' hf'=>?_⟩
    ·rcases setPl_cases h2 with ⟨rfl,rfl,h4⟩ | ⟨_,h4⟩
     ·cases h4; rfl
     ·exact g4 i' j' U' s' h4
    ·rcases setPl_cases q1 with ⟨rfl,rfl,h4⟩ | ⟨_,h4⟩
     ·cases h4; cases hw'
     ·rcases setPl_cases q2 with ⟨rfl,rfl,h5⟩ | ⟨_,h5⟩
      ·cases h5; cases hf'
      ·exact g5 i1 j1 i2 j2 U1 U2 s1 s2 q h4 h5 hne' hw' hf'
   ·exact (h2 hj).elim
  ·intro j x hj hx hl q hq
   rcases hlk j x hx with ⟨rfl,rfl⟩ | ⟨h2,_⟩
   ·exact .inr ⟨j,_,rfl,hi,rfl,hq.imp id (hB q)⟩
   ·exact (h2 hj).elim
  ·intro j x hj hx hl q hq
   rcases hlk j x hx with ⟨rfl,rfl⟩ | ⟨h2,_⟩
   ·exact .inr ⟨j,_,rfl,hi,rfl,hq.imp id (hW q)⟩
   ·exact (h2 hj).elim
  ·intro j j' x x' hj hj' hjj
   exact (hjj (hj.trans hj'.symm)).elim
 ·intro j x hx
  rcases hlk j x hx with ⟨rfl,rfl⟩ | ⟨_,h2⟩
  ·refine ⟨hil.1,hil.2.1,fun i' j' U' k' h2=>?_⟩
   rcases setPl_cases h2 with ⟨rfl,rfl,h4⟩ | ⟨_,h4⟩
   ·cases h4; exact hk
   ·exact hil.2.2 i' j' U' k' h4
  ·exact hr.scH j x h2
def g3V (g:GV) (k:Nat) (y:Value × Value × Value):GV:=fun p q=>if p=k then (match q with
 | 0=>y.1
 | 1=>y.2.1
 | 2=>y.2.2
 | n+3=>g p (n+3)) else g p q
theorem told_nA (i c k ix:Nat) (me:Int) (g:GV) (hik:i < c) (hcn:c+2 < S.next) (hix:ix=1+k) (hk:k < 8) (hi:lk S.ents i=some (.bx 73 (fun j=>setF (stFk me g k) ix [.p (c+2) 0] j) 130 (stPk g k))) (h0:lk S.ents (c+2)=some (.box [.n c,.n (c+1)] 93)) (h1:lk S.ents c=some (.dm false [])) (h2:lk S.ents (c+1)=some (.dm false [])) :
  Go.Sx.Told S (fun y:Value × Value × Value=>⟨S.env,(i,.bx 73 (stFk me (g3V g k y) (k+1)) 130 (stPk (g3V g k y) (k+1))) :: (c,.dead) :: (c+1,.dead) :: (c+2,.dead) :: S.ents,S.next⟩):=by
 subst hix
 have hne:i≠c∧i≠c+1∧i≠c+2:=by omega
 have hkk:∀ b,stPk g k k b=none:=fun b=>if_neg (Nat.lt_irrefl k)
 have e0:∀ y:Value × Value × Value,g3V g k y k 0=y.1:=fun y=>by unfold g3V; rw [if_pos rfl]
 have e1:∀ y:Value × Value × Value,g3V g k y k 1=y.2.1:=fun y=>by unfold g3V; rw [if_pos rfl]
 have e2:∀ y:Value × Value × Value,g3V g k y k 2=y.2.2:=fun y=>by unfold g3V; rw [if_pos rfl]
 have eo:∀ (y:Value × Value × Value) p q,p≠k→g3V g k y p q=g p q:=fun y p q h=>by unfold g3V; rw [if_neg h]
 have hpool:∀ y:Value × Value × Value,setPl (setPl (setPl (setPl (setPl (setPl (stPk g k) k 0 (some (y.1,.out (c+2)))) k 1 (some (y.2.1,.out c))) k 2 (some (y.2.2,.out (c+1)))) k 0 (some (y.1,.box [y.2.1,y.2.2] 93))) k 1 (some (y.2.1,.dm false []))) k 2 (some (y.2.2,.dm false []))=stPk (g3V g k y) (k+1):=by
  intro y
  funext p q
  unfold setPl stPk
  by_cases e:p=k
  ·subst e
   match q with
   | 0=>simp [e0,e1,e2]
   | 1=>simp [e0,e1,e2]
   | 2=>simp [e0,e1,e2]
   | n+3=>simp
  ·simp only [e,false_and,if_false]
   by_cases h:p < k
   ·rw [if_pos h,if_pos (by omega)]
    match q with
    | 0=>simp only; rw [eo y _ _ e,eo y _ _ e,eo y _ _ e]
    | 1=>simp only; rw [eo y _ _ e]
    | 2=>simp only; rw [eo y _ _ e]
    | n+3=>rfl
   ·rw [if_neg h,if_neg (by omega)]
 refine told_then2 (told_pair (told_reg i 73 _ 130 (stPk g k) k 0 (c+2) hi hcn (hkk 0)) fun V0=>told_pair (told_reg i 73 _ 130 _ k 1 c lk_hd (show c < S.next by omega) ((setPl_ne (by omega)).trans (hkk 1))) fun V1=>told_reg i 73 _ 130 _ k 2 (c+1) lk_hd (show c+1 < S.next by omega) ((setPl_ne (by omega)).trans ((setPl_ne (by omega)).trans (hkk 2)))) ?_
 rintro ⟨V0,V1,V2⟩
 simp only
 have hF0:∀ j,j < 73→(stFk me (g3V g k (V0,V1,V2)) (k+1) j=if j=1+k then .v (padd V0 0) else stFk me g k j):=by
  intro j hj
  unfold stFk
  by_cases h:j=1+k
  ·rw [if_pos h,if_neg (by omega),if_pos (by omega),show j - 1=k by omega,e0]
  ·rw [if_neg h]
   by_cases h0:j=0
   ·rw [if_pos h0,if_pos h0]
   ·rw [if_neg h0,if_neg h0]
    by_cases h1:j < 1+k
    ·rw [if_pos (by omega),if_pos h1,eo _ _ _ (by omega)]
    ·rw [if_neg (by omega),if_neg h1]
 refine told_then (told_put (α:=Unit) (fun _=>V0) i 73 (fun j=>setF (stFk me g k) (1+k) [.p (c+2) 0] j) (fun _=>stFk me (g3V g k (V0,V1,V2)) (k+1)) 130 _ k 0 (fun _=>.box [V1,V2] 93) (c+2) (.box [.n c,.n (c+1)] 93) lk_hd ?_ hne.2.2 rfl ?_) ?_
 ·rw [lk_tl hne.2.2,lk_tl hne.2.2,lk_tl hne.2.2]; exact h0
 ·intro r w hp he
  have ho:=poolRel.out hp
  have o0:=ho k 0 V0 (c+2) ((setPl_ne (by omega)).trans ((setPl_ne (by omega)).trans (setPl_at _ _ _ _)))
  have o1:=ho k 1 V1 c ((setPl_ne (by omega)).trans (setPl_at _ _ _ _))
  have o2:=ho k 2 V2 (c+1) (setPl_at _ _ _ _)
  obtain ⟨b0,q1,q2⟩:=he
  refine ⟨(),o0.symm,⟨b0,by rw [← o0]; exact q1,?_⟩,fun q hq=>.inl hq,fun q hq=>.inl hq,rfl,fun j hj=>?_,fun m _ j=>?_⟩
  ·simp only [List.map_cons,List.map_nil,SC.den,o1,o2] at q2
   exact q2
  ·rw [hF0 j hj]
   unfold setF
   by_cases h:j=1+k
   ·subst h
    rw [if_pos rfl,if_pos (Nat.le_refl _),Nat.sub_self]
    show padd V0 0=padd (r (c+2)) 0
    rw [o0]
   ·rw [if_neg h]
    split
    ·have:nth [SC.p (c+2) 0] (j - (1+k))=none:=by
      rw [nth_eq]; exact List.getElem?_eq_none (by simp; omega)
     rw [this]
    ·rfl
  ·obtain ⟨V,h⟩:=stFk_v me (g3V g k (V0,V1,V2)) (k+1) j; rw [h]; trivial
 refine told_then (told_put (α:=Unit) (fun _=>V1) i 73 _ (fun _=>stFk me (g3V g k (V0,V1,V2)) (k+1)) 130 _ k 1 (fun _=>.dm false []) c (.dm false []) lk_hd ?_ hne.1 rfl ?_) ?_
 ·rw [lk_tl hne.1,lk_tl (by omega),lk_tl hne.1,lk_tl hne.1,lk_tl hne.1]; exact h1
 ·intro r w hp he
  have o1:=poolRel.out hp k 1 V1 c ((setPl_ne (by omega)).trans ((setPl_ne (by omega)).trans (setPl_at _ _ _ _)))
  exact ⟨(),o1.symm,by rw [← o1]; exact he,fun q hq=>hq,fun q hq=>hq,rfl,fun j _=>rfl,fun m _ j=>by obtain ⟨V,h⟩:=stFk_v me (g3V g k (V0,V1,V2)) (k+1) j; rw [h]; trivial⟩
 refine told_then (told_put (α:=Unit) (fun _=>V2) i 73 _ (fun _=>stFk me (g3V g k (V0,V1,V2)) (k+1)) 130 _ k 2 (fun _=>.dm false []) (c+1) (.dm false []) lk_hd ?_ hne.2.1 rfl ?_) ?_
 ·rw [lk_tl hne.2.1,lk_tl (by omega),lk_tl hne.2.1,lk_tl (by omega),lk_tl hne.2.1,lk_tl hne.2.1,lk_tl hne.2.1]; exact h2
 ·intro r w hp he
  have o1:=poolRel.out hp k 2 V2 (c+1) ((setPl_ne (by omega)).trans ((setPl_ne (by omega)).trans (setPl_at _ _ _ _)))
  exact ⟨(),o1.symm,by rw [← o1]; exact he,fun q hq=>hq,fun q hq=>hq,rfl,fun j _=>rfl,fun m _ j=>by obtain ⟨V,h⟩:=stFk_v me (g3V g k (V0,V1,V2)) (k+1) j; rw [h]; trivial⟩
 rw [hpool (V0,V1,V2)]
 refine told_as (fun _ _ h=>h) (fun q=>?_) rfl
 simp only [lk]
 by_cases e1:i=q
 ·subst e1
  rw [if_pos rfl,if_pos rfl]
 ·rw [if_neg e1,if_neg e1,if_neg e1,if_neg e1,if_neg e1,if_neg e1,if_neg e1]
  by_cases e2:c=q
  ·rw [if_pos e2,if_neg (by omega),if_pos e2]
  ·rw [if_neg e2,if_neg e2]
end
end
def x26L0:XC:=(.seq (.reg false [K2 13 (.bin .lss) 12 (iV 8)]) (.seq (.cond (.t 13) .skip (.exit 0)) (.seq (.block 1 (.seq (.reg false [O1 14 .mv 12,O1 5 .mv 14]) (.gsa (.regD [O1 15 .mv 4,O1 16 .mv 5,⟨(some 17),(.call 7),[],none⟩,O1 18 .nilc 15,O1 19 (.fld 1) 18,O2 20 (.ixA 8 1) 19 16,⟨none,(.store 1),[(.t 20),(.t 17)],none⟩] [[],[],[],[0],[3,0],[4,3,0,1,2],[5,4,3,0,1,2]])))) (.reg false [K2 21 (.bin .add) 12 (iV 1),O1 12 .mv 21]))))
def x26:XFn:=⟨23,(.seq (.reg false [K1 2 .mv (.pointer none),K1 3 .mv (iV 0)]) (.seq (.seq (.reg false [O1 6 .mv 0,O1 7 (.call 61) 6,O1 8 (.un .not) 7]) (.cond (.t 8) (.seq (.reg false [K1 2 .mv (.pointer none),K1 3 .mv (iV 2)]) .ret) .skip)) (.seq (.reg false [O1 9 .mv 0,⟨(some 10),(.build [(iV 0),(.pointer none),(.pointer none),(.pointer none),(.pointer none),(.pointer none),(.pointer none),(.pointer none),(.pointer none),(.pointer none),(.pointer none),(.pointer none),(.pointer none),(.pointer none),(.pointer none),(.pointer none),(.pointer none),(.pointer none),(.pointer none),(.pointer none),(.pointer none),(.pointer none),(.pointer none),(.pointer none),(.pointer none),(.pointer none),(.pointer none),(.pointer none),(.pointer none),(.pointer none),(.pointer none),(.pointer none),(.pointer none),(.pointer none),(.pointer none),(.pointer none),(.pointer none),(.pointer none),(.pointer none),(.pointer none),(.pointer none),(.pointer none),(.pointer none),(.pointer none),(.pointer none),(.pointer none),(.pointer none),(.pointer none),(.pointer none),(.pointer none),(.pointer none),(.pointer none),(.pointer none),(.pointer none),(.pointer none),(.pointer none),(.pointer none),(.pointer none),(.pointer none),(.pointer none),(.pointer none),(.pointer none),(.pointer none),(.pointer none),(.pointer none),(.pointer none),(.pointer none),(.pointer none),(.pointer none),(.pointer none),(.pointer none),(.pointer none),(.pointer none)] [(0,1)]),[(.t 9)],none⟩,O1 11 (.box 130) 10,O1 4 .mv 11]) (.gst (.seq (.seq (.reg false [K1 12 .mv (iV 0)]) (.block 0 (.loop x26L0))) (.seq (.reg false [O1 22 .mv 4,O1 2 .mv 22,K1 3 .mv (iV 0)]) .ret)))))),[(.s 2),(.s 3)]⟩
theorem x26_ok:xfn Tryz.prog Tryz.f26=some x26.er:=by kernel_rfl
noncomputable def g26:Con:=fun args_ E_ nn_=>match args_ with
 | [.c (.v (.int .i64 me))]=>some (.d (0≤me∧me < 8) (fun G_=>True) (fun G_=>.t [.c (.p (nn_+0) 0),.c (.v (.int .i64 (0)))]) (fun G_=>[((nn_+0),.bx 73 (stF (newX me) (G_)) 130 (stP (newX me) (G_)))]) (nn_+1))
 | _=>none
theorem c26:COk Tryz.prog 26 g26:=by
 refine cok_g Tryz.func26 x26_ok (by kernel_rfl) (cok_tab (cok_cons c61 (cok_cons c7 cok_nil))) ?_
 intro args_ E_ nn_ cr_ hg_
 unfold g26 at hg_
 split at hg_
 ·rename_i me
  cases hg_
  refine ⟨_,_,_,_,_,rfl,0,[],[.c (.v (.int .i64 me))],[],(fun G_=>.t [.c (.p 0 0),.c (.v (.int .i64 (0)))]),(fun G_=>[(0,.bx 73 (stF (newX me) (G_)) 130 (stP (newX me) (G_)))]),1,rfl,(fun _=>rfl),(fun _=>by simp only [renE,Ent.ren,renAl,rowF_renf,stF_renF,stP_ren]<;>rfl),rfl,by decide,by simp only [push_cast,Nat.reduceLT,Nat.reduceAdd],by simp only [push_cast,Nat.reduceLT,Nat.reduceAdd],(fun _=>by simp only [push_cast,Nat.reduceLT,Nat.reduceAdd]),(fun _=>by simp only [push_cast,Nat.reduceLT,Nat.reduceAdd]),rfl,trivial,(fun _=>by simp only [keysNodup,outN,keys]<;>decide),(fun _=>rfl),(fun _=>.inr trivial),?_⟩
  intro hpre hlen
  refine ⟨trivial,by simp only [apartE]<;>(first | trivial | (simp [Ent.mut]; done)),?_⟩
  simp (maxSteps:=9999999) only [x26,push_cast,simprocAttr,g61,g7]
  refine ⟨fun h=>absurd hpre h,fun h1 h2=>?_⟩
  refine ⟨_,_,told_bx 0 73 _ (stFk me (fun _ _=>.bool false) 0) 130 rfl rfl (fun m h j=>by obtain ⟨V,h⟩:=stFk_v me (fun _ _=>.bool false) 0 j; rw [h]; trivial),?_⟩
  rintro ⟨⟩
  simp only [push_cast,simprocAttr,g61,g7]
  refine vcLoop_upd (α:={s:Nat × GV // s.1≤8}) [4] 0 (fun s=>[(12,.o (.c (.v (.int .i64 (s.1.1:Nat)))))]) (fun s=>[(0,.bx 73 (stFk me s.1.2 s.1.1) 130 (stPk s.1.2 s.1.1))]) (fun s=>8 - s.1.1) ⟨(0,fun _ _=>.bool false),by simp only; omega⟩ ?_ ?_
  ·simp only [push_cast,simprocAttr,g61,g7]
   funext a b
   unfold stPk
   rw [if_neg (Nat.not_lt_zero a)]
  rintro ⟨⟨k,g⟩,hk⟩
  simp only at hk
  by_cases hlt:k < 8
  ·have h1:((k:Int) < 8)=True:=eq_true (by omega)
   simp only [x26L0,push_cast,simprocAttr,g61,g7,h1]
   refine ⟨by omega,by rfl,_,_,told_nA 0 1 k (1+k * 1) me g (by decide) (by simp only; omega) (by omega) hlt rfl rfl rfl rfl,?_⟩
   intro y
   simp only [push_cast,simprocAttr,g61,g7]
   exact ⟨⟨(k+1,g3V g k y),hlt⟩,⟨wrapI (by omega) (by omega),fun _ _=>rfl,rfl⟩,by simp only; omega⟩
  ·simp only [x26L0,push_cast,simprocAttr,g61,g7]
   refine ⟨fun h=>by omega,fun _=>?_⟩
   obtain rfl:k=8:=by omega
   exact ⟨g,fun j _=>congrFun (stFk_8 me g) j,stPk_8 g me⟩
 ·cases hg_
end Go.Proofs.YtgpbokembopapaaGreat
namespace Go.Proofs.YtgpbokembopapaaGreat
open Go.Sx Go.Way
def shv (T:SH):List SE:=reV T (fun _ _=>.bool false)
theorem shv_sh (T:SH):shS (shv T)=T:=reV_sh _ _
theorem lkS_some {S S':List SE} (h:shS S=shS S') (x:Int):(lkS S x).map SE.l=(lkS S' x).map SE.l:=by rw [← lkH_S,← lkH_S,h]
theorem idsL_sh {S S':List SE} (h:shS S=shS S') (Q:List QE) (k:Nat):idsL S Q k=idsL S' Q k:=by
 unfold idsL
 have:∀ i:Nat,(lkS S (i:Int)).isSome=(lkS S' (i:Int)).isSome:=fun i=>by rw [some_map (lkS S _) SE.l,some_map (lkS S' _) SE.l,lkS_some h]
 simp only [this]
theorem joinH_sh {B B':List SE} (h:shS B=shS B') (T:SH) (I:List Int):joinH T B I=joinH T B' I:=by
 unfold joinH
 congr 1
 funext a id
 have:=lkS_some h id
 cases h1:lkS B id with
 | none=>
  cases h2:lkS B' id with
  | none=>rfl
  | some s'=>rw [h1,h2] at this; cases this
 | some s=>
  cases h2:lkS B' id with
  | none=>rw [h1,h2] at this; cases this
  | some s'=>
   rw [h1,h2] at this
   simp only [Option.map_some,Option.some.injEq] at this
   simp only [this]
def joinS (T T':SH) (Q':List QE):SH:=joinH T (shv T') (idsL (shv T') Q' 64)
def joinP (Q:List QE) (T':SH) (Q':List QE):List QE:=joinQ Q Q' (idsL (shv T') Q' 64)
theorem joinS_eq (T:SH) (B:List SE) (Q':List QE):joinH T B (idsL B Q' 64)=joinS T (shS B) Q':=by
 have h:shS B=shS (shv (shS B)):=(shv_sh _).symm
 unfold joinS
 rw [joinH_sh h,idsL_sh h]
theorem joinP_eq (Q:List QE) (B:List SE) (Q':List QE):joinQ Q Q' (idsL B Q' 64)=joinP Q (shS B) Q':=by
 have h:shS B=shS (shv (shS B)):=(shv_sh _).symm
 unfold joinP
 rw [idsL_sh h]
theorem okH_joinS {T T':SH} {Q':List QE} (h:okH T):okH (joinS T T' Q'):=okH_join _ _ _ h
theorem okQ_joinP {Q:List QE} {T':SH} {Q':List QE} (h:okQ Q):okQ (joinP Q T' Q'):=okQ_join _ _ _ h
def hearK (x y:STN) (k:Nat):STN:=⟨x.me,fun i=>if i.1 < k then joinS (x.H i) (y.H i) (y.Q i) else x.H i,fun i=>if i.1 < k then joinP (x.Q i) (y.H i) (y.Q i) else x.Q i,x.R⟩
def hearD (x y:STN):STN:=(relL y).foldl takeD (hearK x y 8)
theorem hearK_0 (x y:STN):hearK x y 0=x:=by
 cases x
 unfold hearK
 simp
theorem hOf_hearK (x y:STN) {k a:Nat} (h:k≤a):hOf (hearK x y k) a=hOf x a:=by
 unfold hOf hearK
 split
 ·simp only; rw [if_neg (by omega)]
 ·rfl
theorem qOf_hearK (x y:STN) {k a:Nat} (h:k≤a):qOf (hearK x y k) a=qOf x a:=by
 unfold qOf hearK
 split
 ·simp only; rw [if_neg (by omega)]
 ·rfl
theorem hearK_succ (x y:STN) {k:Nat} (hk:k < 8):updA (hearK x y k) k (joinS (hOf x k) (hOf y k) (qOf y k)) (joinP (qOf x k) (hOf y k) (qOf y k))=hearK x y (k+1):=by
 unfold updA hearK
 congr 1
 ·funext i
  by_cases e:i.1=k
  ·rw [if_pos e,if_pos (by omega)]
   have:i=⟨k,hk⟩:=Fin.ext e
   subst this
   simp only [hOf,qOf,hk,dif_pos]
  ·rw [if_neg e]
   simp only
   by_cases h:i.1 < k
   ·rw [if_pos h,if_pos (by omega)]
   ·rw [if_neg h,if_neg (by omega)]
 ·funext i
  by_cases e:i.1=k
  ·rw [if_pos e,if_pos (by omega)]
   have:i=⟨k,hk⟩:=Fin.ext e
   subst this
   simp only [hOf,qOf,hk,dif_pos]
  ·rw [if_neg e]
   simp only
   by_cases h:i.1 < k
   ·rw [if_pos h,if_pos (by omega)]
   ·rw [if_neg h,if_neg (by omega)]
theorem relL_mem {x:STN} {r:RL} (h:r∈relL x):∃ a b:Nat,∃ f,a < 8∧b < 8∧rOf x a b=some f∧r=⟨a,b,f.q,f.x,f.y⟩:=by
 unfold relL relTo relRow at h
 rw [List.mem_flatMap] at h
 obtain ⟨a,ha,h⟩:=h
 rw [List.mem_filterMap] at h
 obtain ⟨b,hb,h⟩:=h
 cases hf:rOf x a b with
 | none=>rw [hf] at h; cases h
 | some f=>rw [hf] at h; cases h; exact ⟨a,b,f,List.mem_range.1 ha,List.mem_range.1 hb,hf,rfl⟩
theorem relL_good {x:STN} (h:okRel x) {r:RL} (hr:r∈relL x):goodR r:=by
 obtain ⟨a,b,f,ha,hb,hf,rfl⟩:=relL_mem hr
 obtain ⟨h1,h2,h3,h4⟩:=h a b f hf
 exact ⟨by simp only; omega,by simp only; omega,by simp only; omega,h3,h4⟩
theorem cmpF_self (f:FR):cmpF f f=0:=by
 unfold cmpF cmpI firstNZ
 simp [firstNZ]
theorem take_known {x:STN} (h:okRel x) {r:RL} (hr:r∈relL x):takeD x r=x:=by
 obtain ⟨a,b,f,ha,hb,hf,rfl⟩:=relL_mem hr
 obtain ⟨h1,h2,_⟩:=h a b f hf
 rw [take_hi (by omega)]
 simp only [Int.toNat_natCast,hf]
 have:nmF ⟨f.q,f.x,f.y⟩=f:=by
  unfold nmF
  have:f.q % 4=f.q:=by omega
  rw [this]
 rw [this,if_neg]
 simp only [putF,cmpF_self]
 simp
theorem getR_mem {L:List RL} {k:Nat} (h:k < L.length):L.getD k eRl.dflt∈L:=by
 rw [List.getD_eq_getElem?_getD,List.getElem?_eq_getElem h]
 exact List.getElem_mem h
theorem foldR_take (x:STN) {L:List RL} {k:Nat} (h:k < L.length):(L.take (k+1)).foldl takeD x=takeD ((L.take k).foldl takeD x) (L.getD k eRl.dflt):=by
 rw [List.take_add_one,List.getElem?_eq_getElem h,List.foldl_append]
 simp only [Option.toList_some,List.foldl_cons,List.foldl_nil,List.getD_eq_getElem?_getD,List.getElem?_eq_getElem h,Option.getD_some]
theorem put_self {S:List SE} {id:Int} {u:SE} {V:Value} (h:okS S) (hf:lkS S id=some u):putL S id u.l V=S:=by
 have h0:lexB u.l u.l=0:=(lexB_zero u.l u.l).2 rfl
 refine put_keep (okS_E h hf) hf ?_
 unfold cmpS cmpI
 rw [if_neg (Int.lt_irrefl _),if_neg (Int.lt_irrefl _),if_neg (by simp),h0]
 omega
theorem plc_self {Q:List QE} {id:Int} {u:QE} (h:okQ Q) (hf:lkP Q id=some u):plcL Q id u.p=Q:=by
 refine plc_keep (okQ_E h hf) hf ?_
 have h1:∀ x:Int,cmpI x x=0:=fun x=>cmpI_zero.2 rfl
 unfold cmpP
 simp only [h1,firstNZ]
 simp
section
open Go.Sx
theorem updG_back {x:STN} {g:GV} {a:Nat} (ha:a < 8):stF (updA x a (shS (sOf x g a)) (qOf x a)) (updG g a (sOf x g a))=stF x g∧stP (updA x a (shS (sOf x g a)) (qOf x a)) (updG g a (sOf x g a))=stP x g:=by
 refine ⟨stF_upd _ _ _ _ _,?_⟩
 rw [stP_upd _ _ _ _ _ ha]
 funext i j
 by_cases e:i=a
 ·subst e
  rw [if_pos rfl]
  match j with
  | 0=>exact (stP_0 x g ha).symm
  | 1=>exact (stP_1 x g ha).symm
  | 2=>exact (stP_2 x g ha).symm
  | n+3=>exact (stP_more x g ha (by omega)).symm
 ·rw [if_neg e]
section
variable {S:St} {x y:STN} {g g':GV} {a:Nat}
theorem told_gB (i c:Nat) (x:STN) (g:GV) (ha:a < 8) (hic:i < c) (hi:lk S.ents i=some (.bx 73 (stFo x g a c) 130 (stPo x g a c))) (h0:lk S.ents c=some (.box [.n (c+1),.n (c+2)] 93)) (h1:lk S.ents (c+1)=some (.dm false (mapF eSc (sOf x g a)))) (h2:lk S.ents (c+2)=some (.dm false (mapF ePl (qOf x a)))) :
  Go.Sx.Told S (fun _:Unit=>⟨S.env,(c,.dead) :: (c+1,.dead) :: (c+2,.dead) :: (i,.bx 73 (stF x g) 130 (stP x g)) :: S.ents,S.next⟩):=by
 have:=told_gA i c x g (sOf x g a) (qOf x a) ha hic hi h0 h1 h2
 rw [(updG_back ha).1,(updG_back ha).2] at this
 exact this
theorem told_tS (i t c:Nat) (x:STN) (g:GV) (hi:lk S.ents i=some (.bx 73 (stFo x g a c) 130 (stPo x g a c))) (ht:lk S.env t=some (.o (.c (.v (padd (g a 0) 0))))) :
  Go.Sx.Told S (fun _:Unit=>⟨(t,.o (.c (.p c 0))) :: S.env,S.ents,S.next⟩):=by
 refine told_slot i 73 _ 130 (stPo x g a c) t _ (.o (.c (.p c 0))) hi ht ?_ ?_
 ·intro r ho
  have o:=ho a 0 _ _ (stPo_0 x g a c)
  show padd (r c) 0=padd (g a 0) 0
  rw [o]
 ·intro m hm _
  exact hm a 0 _ _ (stPo_0 x g a c)
end
end
def g9s:Con:=fun args_ E_ nn_=>match args_ with
 | [.c (.p a 0),.c (.p b 0)]=>(if a=b then (match E_ a with
  | some (.box [.n a_scans,.n a_places] a_ty)=>(match E_ a_scans with
  | some (.dm a_scans_k a_scans_l)=>(match E_ a_places with
  | some (.dm a_places_k a_places_l)=>some (.e (isM eSc a_scans_k a_scans_l∧isM ePl a_places_k a_places_l∧a≠a_scans∧a≠a_places∧a_scans≠a_places∧okS (decM eSc a_scans_l)∧okQ (decM ePl a_places_l)) (.o (.c (.v (.int .i64 (0))))) [(a,.box [.n a_scans,.n a_places] a_ty),(a_scans,.dm false (mapF eSc ((decM eSc a_scans_l)))),(a_places,.dm false (mapF ePl ((decM ePl a_places_l))))] (nn_+0))
  | _=>none)
  | _=>none)
  | _=>none)
  else none)
 | _=>none
theorem c9s:COk Tryz.prog 9 g9s:=by
 refine cok_d Tryz.func9 x9_ok (by kernel_rfl) (cok_tab (cok_cons c11 (cok_cons c39 (cok_cons c40 (cok_cons c1050016 (cok_cons c1050032 cok_nil)))))) ?_
 intro args_ E_ nn_ cr_ hg_
 unfold g9s at hg_
 split at hg_
 ·rename_i a b
  split at hg_
  ·rename_i same_
   subst same_
   split at hg_
   ·rename_i a_scans a_places a_ty h_a
    split at hg_
    ·rename_i a_scans_k a_scans_l h_a_scans
     split at hg_
     ·rename_i a_places_k a_places_l h_a_places
      cases hg_
      refine ⟨_,_,_,_,rfl,3,[a,a_scans,a_places],[.c (.p 0 0),.c (.p 0 0)],[(0,.box [.n 1,.n 2] a_ty),(1,.dm eSc.k (mapF eSc (decM eSc a_scans_l))),(2,.dm ePl.k (mapF ePl (decM ePl a_places_l)))],.o (.c (.v (.int .i64 (0)))),[(0,.box [.n 1,.n 2] a_ty),(1,.dm false (mapF eSc ((decM eSc a_scans_l)))),(2,.dm false (mapF ePl ((decM ePl a_places_l))))],3,rfl,rfl,by simp only [renE,Ent.ren,rowF_renf]<;>rfl,rfl,by decide,and4 (by simp only [push_cast,Nat.reduceLT,Nat.reduceAdd]) ⟨rfl,⟨⟨_,h_a⟩,⟨_,h_a_scans⟩,⟨_,h_a_places⟩,trivial⟩,by simp only [keysNodup,outN,keys]<;>decide,rfl,.inr ⟨.inl rfl,.inl rfl,.inl rfl,trivial⟩,?_⟩⟩
      intro hpre hlen
      obtain ⟨i_a_scans,hpre⟩:=hpre
      obtain ⟨i_a_places,hpre⟩:=hpre
      obtain ⟨n_a_a_scans,hpre⟩:=hpre
      obtain ⟨n_a_a_places,hpre⟩:=hpre
      obtain ⟨n_a_scans_a_places,hpre⟩:=hpre
      have hap:apartE (sg 3 nn_ [a,a_scans,a_places]) [(0,.box [.n 1,.n 2] a_ty),(1,.dm eSc.k (mapF eSc (decM eSc a_scans_l))),(2,.dm ePl.k (mapF ePl (decM ePl a_places_l)))] [(0,.box [.n 1,.n 2] a_ty),(1,.dm eSc.k (mapF eSc (decM eSc a_scans_l))),(2,.dm ePl.k (mapF ePl (decM ePl a_places_l)))]:=by
       refine ⟨fun _ k2 e2 hm hne=>?_,?_⟩
       ·simp only [List.mem_cons,List.not_mem_nil,or_false,Prod.mk.injEq] at hm
        rcases hm with ⟨rfl,_⟩ | ⟨rfl,_⟩ | ⟨rfl,_⟩
        ·exact absurd rfl hne
        ·exact fun hh=>n_a_a_scans (Eq.symm (show a_scans=a from hh))
        ·exact fun hh=>n_a_a_places (Eq.symm (show a_places=a from hh))
       refine ⟨fun _ k2 e2 hm hne=>?_,?_⟩
       ·simp only [List.mem_cons,List.not_mem_nil,or_false,Prod.mk.injEq] at hm
        rcases hm with ⟨rfl,_⟩ | ⟨rfl,_⟩ | ⟨rfl,_⟩
        ·exact fun hh=>n_a_a_scans (show a=a_scans from hh)
        ·exact absurd rfl hne
        ·exact fun hh=>n_a_scans_a_places (Eq.symm (show a_places=a_scans from hh))
       refine ⟨fun _ k2 e2 hm hne=>?_,?_⟩
       ·simp only [List.mem_cons,List.not_mem_nil,or_false,Prod.mk.injEq] at hm
        rcases hm with ⟨rfl,_⟩ | ⟨rfl,_⟩ | ⟨rfl,_⟩
        ·exact fun hh=>n_a_a_places (show a=a_places from hh)
        ·exact fun hh=>n_a_scans_a_places (show a_scans=a_places from hh)
        ·exact absurd rfl hne
       trivial
      refine ⟨⟨⟨_,h_a,by simp only [leE,mapEq,SC.ren,and_true,true_and,and_self]<;>first | rfl | exact ⟨rfl,rfl⟩⟩,⟨_,h_a_scans,isM_le i_a_scans⟩,⟨_,h_a_places,isM_le i_a_places⟩,trivial⟩,hap,?_⟩
      clear i_a_scans
      generalize decM eSc a_scans_l=a_scansL at *
      clear i_a_places
      generalize decM ePl a_places_l=a_placesL at *
      clear h_a_scans
      clear h_a_places
      simp (maxSteps:=9999999) only [x9,push_cast,simprocAttr,g11,g39,g40,g1050016,g1050032]
      have hI:=idsL_len a_scansL a_placesL 64
      generalize idsL a_scansL a_placesL 64=I at *
      refine vcLoop_upd (α:={k:Nat // k≤I.length}) [0,1,18,19] 0 (fun s=>[(20,.o (.c (.v (.int .i64 (s.1:Nat)))))]) (fun s=>[(3,.own (I).length 1 (rowF eI (I)) 3),(0,.box [.n 1,.n 2] a_ty),(1,.dm false (mapF eSc (a_scansL))),(2,.dm false (mapF ePl (a_placesL)))]) (fun s=>I.length - s.1) ⟨0,by omega⟩ ?_ ?_
      ·simp only [push_cast,simprocAttr,g11,g39,g40,g1050016,g1050032]
      rintro ⟨k,hk⟩
      have hd1:=findDM_S (I.getD k eI.dflt) a_scansL
      have hd2:=findDM_Q (I.getD k eI.dflt) a_placesL
      cases hf1:lkS a_scansL (I.getD k eI.dflt) with
      | none=>
       cases hf2:lkP a_placesL (I.getD k eI.dflt) with
       | none=>
        rw [hf1] at hd1; rw [hf2] at hd2
        simp only [Option.map_none,Option.map_some] at hd1 hd2
        simp only [x9L0,push_cast,simprocAttr,g11,g39,g40,g1050016,g1050032,hd1,hd2]
        exact fun hlt=>⟨hlt,hlt,⟨k+1,hlt⟩,wrapI (by omega) (by omega),by simp only; omega⟩
       | some w=>
        rw [hf1] at hd1; rw [hf2] at hd2
        simp only [Option.map_none,Option.map_some] at hd1 hd2
        simp only [x9L0,push_cast,simprocAttr,g11,g39,g40,g1050016,g1050032,hd1,hd2]
        exact fun hlt=>⟨hlt,hlt,⟨k+1,hlt⟩,⟨wrapI (by omega) (by omega),.inl (congrArg (mapF ePl) (plc_self hpre.2 hf2)).symm⟩,by simp only; omega⟩
      | some u=>
       cases hf2:lkP a_placesL (I.getD k eI.dflt) with
       | none=>
        rw [hf1] at hd1; rw [hf2] at hd2
        simp only [Option.map_none,Option.map_some] at hd1 hd2
        simp only [x9L0,push_cast,simprocAttr,g11,g39,g40,g1050016,g1050032,hd1,hd2]
        exact fun hlt=>⟨hlt,hlt,hpre.1,fun G=>⟨⟨k+1,hlt⟩,⟨wrapI (by omega) (by omega),.inl (by rw [put_self hpre.1 hf1])⟩,by simp only; omega⟩⟩
       | some w=>
        rw [hf1] at hd1; rw [hf2] at hd2
        simp only [Option.map_none,Option.map_some] at hd1 hd2
        simp only [x9L0,push_cast,simprocAttr,g11,g39,g40,g1050016,g1050032,hd1,hd2]
        exact fun hlt=>⟨hlt,hlt,hpre.1,fun G=>⟨⟨k+1,hlt⟩,⟨wrapI (by omega) (by omega),.inl (by rw [put_self hpre.1 hf1]),.inl (congrArg (mapF ePl) (plc_self hpre.2 hf2)).symm⟩,by simp only; omega⟩⟩
     ·cases hg_
    ·cases hg_
   ·cases hg_
  ·cases hg_
 ·cases hg_
end Go.Proofs.YtgpbokembopapaaGreat
