/- A part of the proof of a statement about this seat: how a function is stepped through, and plain laws. No conditions. -/
import Derived.Test.YtgpbokembopapaaGreatRows
import Derived.Test.YtgpbokembopapaaGreatFLSz4
import Derived.Test.YtgpbokembopapaaGreatFLM9
import Derived.KernelRfl
set_option linter.unusedVariables false
set_option linter.unusedSimpArgs false
set_option maxRecDepth 20000
namespace Go.Proofs.YtgpbokembopapaaGreat
open Go.Sx Go.Way
section
variable {α:Type} {cf:α→α→Int}
structure OrdT {α:Type} (cf:α→α→Int):Prop where
 o:OrdI cf
 eq:∀ x y,cf x y=0→x=y
def topP (cf:α→α→Int) (P:α→Prop):Option α→Prop
 | none=>∀ s,¬ P s
 | some m=>P m∧∀ s,P s→¬ 0 < cf s m
def mxO (cf:α→α→Int):Option α→α→Option α
 | none,s=>some s
 | some o,s=>if 0 < cf s o then some s else some o
theorem topP_uniq (h:OrdT cf) {P P':α→Prop} {r r':Option α} (hP:∀ s,P s ↔ P' s) (h1:topP cf P r) (h2:topP cf P' r'):r=r':=by
 cases r with
 | none=>
  cases r' with
  | none=>rfl
  | some m=>exact absurd ((hP m).2 h2.1) (h1 m)
 | some m=>
  cases r' with
  | none=>exact absurd ((hP m).1 h1.1) (h2 m)
  | some m'=>
   have a1:=h1.2 m' ((hP m').2 h2.1)
   have a2:=h2.2 m ((hP m).1 h1.1)
   have b1:=h.o.anti m m'
   have:cf m m'=0:=by
    rcases Int.lt_trichotomy (cf m m') 0 with g | g | g
    ·exact absurd (b1.1 g) a1
    ·exact g
    ·exact absurd g a2
   rw [h.eq m m' this]
theorem topP_step (h:OrdT cf) {P:α→Prop} {r:Option α} (s:α) (h1:topP cf P r):topP cf (fun x=>P x∨x=s) (mxO cf r s):=by
 have hss:cf s s=0:=by
  have:=h.o.anti s s
  rcases Int.lt_trichotomy (cf s s) 0 with g | g | g
  ·have:=this.1 g; omega
  ·exact g
  ·have:=this.2 g; omega
 cases r with
 | none=>
  refine ⟨.inr rfl,fun x hx=>?_⟩
  rcases hx with hx | rfl
  ·exact absurd hx (h1 x)
  ·omega
 | some o=>
  show topP cf _ (if 0 < cf s o then some s else some o)
  split
  ·rename_i hc
   refine ⟨.inr rfl,fun x hx=>?_⟩
   rcases hx with hx | rfl
   ·intro h0
    have h2:=h1.2 x hx
    have b1:=h.o.anti s x
    have b2:=h.o.anti o s
    have b3:=h.o.anti o x
    have:=h.o.trans o s x (by have:=b2.2 hc; omega) (by have:=b1.2 h0; omega)
    have h4:cf o x=0∨cf o x < 0:=by omega
    rcases h4 with h4 | h4
    ·have e:=h.eq o x h4
     subst e
     have:=b1.2 h0
     omega
    ·exact h2 (b3.1 h4)
   ·omega
  ·rename_i hc
   refine ⟨.inl h1.1,fun x hx=>?_⟩
   rcases hx with hx | rfl
   ·exact h1.2 x hx
   ·exact hc
end
theorem cmpI_zero {x y:Int}:cmpI x y=0 ↔ x=y:=by
 have:=cmpI_cases x y; omega
theorem cmpB_cases (a b:CC):(cmpB a b < 0∧(a.X < b.X∨a.X=b.X∧a.Y < b.Y))∨(cmpB a b=0∧a=b)∨(0 < cmpB a b∧(b.X < a.X∨a.X=b.X∧b.Y < a.Y)):=by
 have e:cmpB a b=if cmpI a.X b.X≠0 then cmpI a.X b.X else if cmpI a.Y b.Y≠0 then cmpI a.Y b.Y else 0:=rfl
 rw [e]
 have h1:=cmpI_cases a.X b.X
 have h2:=cmpI_cases a.Y b.Y
 have hc:a.X=b.X→a.Y=b.Y→a=b:=fun q1 q2=>by cases a; cases b; simp only at q1 q2; rw [q1,q2]
 rcases h1 with ⟨h,g⟩ | ⟨h,g⟩ | ⟨h,g⟩<;>rcases h2 with ⟨h2,g2⟩ | ⟨h2,g2⟩ | ⟨h2,g2⟩<;>rw [h,h2]
 ·exact .inl ⟨by simp,.inl g⟩
 ·exact .inl ⟨by simp,.inl g⟩
 ·exact .inl ⟨by simp,.inl g⟩
 ·exact .inl ⟨by simp,.inr ⟨g,g2⟩⟩
 ·exact .inr (.inl ⟨by simp,hc g g2⟩)
 ·exact .inr (.inr ⟨by simp,.inr ⟨g,g2⟩⟩)
 ·exact .inr (.inr ⟨by simp,.inl g⟩)
 ·exact .inr (.inr ⟨by simp,.inl g⟩)
 ·exact .inr (.inr ⟨by simp,.inl g⟩)
theorem ord_B:OrdT cmpB where
 o:={
  anti:=fun x y=>by
   have h1:=cmpB_cases x y
   have h2:=cmpB_cases y x
   constructor
   ·intro h
    rcases h1 with ⟨_,g⟩ | ⟨g,_⟩ | ⟨g,_⟩
    ·rcases h2 with ⟨q,q2⟩ | ⟨q,q2⟩ | ⟨q,_⟩
     ·omega
     ·subst q2; omega
     ·exact q
    ·omega
    ·omega
   ·intro h
    rcases h2 with ⟨q,q2⟩ | ⟨q,q2⟩ | ⟨q,q2⟩
    ·omega
    ·omega
    ·rcases h1 with ⟨g,_⟩ | ⟨g,g2⟩ | ⟨g,g2⟩
     ·exact g
     ·subst g2; omega
     ·omega
  trans:=fun x y z h1 h2=>by
   have a1:=cmpB_cases x y
   have a2:=cmpB_cases y z
   have a3:=cmpB_cases x z
   rcases a3 with ⟨g,_⟩ | ⟨g,_⟩ | ⟨g,g3⟩
   ·omega
   ·omega
   ·rcases a1 with ⟨q,q2⟩ | ⟨q,q2⟩ | ⟨q,_⟩
    ·rcases a2 with ⟨p,p2⟩ | ⟨p,p2⟩ | ⟨p,_⟩
     ·omega
     ·subst p2; omega
     ·omega
    ·subst q2; omega
    ·omega }
 eq:=fun x y h=>by
  rcases cmpB_cases x y with ⟨g,_⟩ | ⟨_,g⟩ | ⟨g,_⟩
  ·omega
  ·exact g
  ·omega
section
variable {α:Type} {f g:α→α→Int}
theorem ordI_zero2 (h:OrdI f) {x y:α}:f x y=0 ↔ f y x=0:=⟨fun e=>h.zero e,fun e=>h.zero e⟩
theorem ordI_lex (hf:OrdI f) (hg:OrdI g):OrdI (fun x y=>if f x y≠0 then f x y else g x y) where
 anti x y:=by
  have a:=hf.anti x y
  have b:=hf.anti y x
  have c:=ordI_zero2 hf (x:=x) (y:=y)
  have d:=hg.anti x y
  by_cases h:f x y=0
  ·have h2:=c.1 h
   rw [if_neg (by simp [h]),if_neg (by simp [h2])]
   exact d
  ·have h2:f y x≠0:=fun q=>h (c.2 q)
   rw [if_pos h,if_pos h2]
   exact a
 trans x y z h1 h2:=by
  have a:=hf.trans x y z
  have c1:=ordI_zero2 hf (x:=x) (y:=y)
  have n1:=hf.anti x y
  have n2:=hf.anti y z
  have n3:=hf.anti x z
  have m1:=hf.anti y x
  have m2:=hf.anti z y
  have m3:=hf.anti z x
  have t1:=hf.trans z x y
  have t2:=hf.trans y z x
  have d:=hg.trans x y z
  have f1:f x y≤0:=by
   by_cases q:f x y=0
   ·omega
   ·simp only [ne_eq,q,not_false_eq_true,if_true] at h1; exact h1
  have f2:f y z≤0:=by
   by_cases q:f y z=0
   ·omega
   ·simp only [ne_eq,q,not_false_eq_true,if_true] at h2; exact h2
  have f3:=a f1 f2
  by_cases q:f x z=0
  ·have q2:f z x=0:=hf.zero q
   have e1:f z y≤0:=t1 (by omega) f1
   have e2:f y x≤0:=t2 f2 (by omega)
   have z1:f y z=0:=by omega
   have z2:f x y=0:=by omega
   simp only [ne_eq,q,z1,z2,not_true_eq_false,if_false] at h1 h2 ⊢
   exact d h1 h2
  ·simp only [ne_eq,q,not_false_eq_true,if_true]; exact f3
theorem ordI_pr (p:α→Int):OrdI (fun x y=>cmpI (p x) (p y)) where
 anti x y:=by
  have:=cmpI_cases (p x) (p y)
  have:=cmpI_cases (p y) (p x)
  show cmpI (p x) (p y) < 0 ↔ 0 < cmpI (p y) (p x)
  omega
 trans x y z h1 h2:=by
  have:=cmpI_cases (p x) (p y)
  have:=cmpI_cases (p y) (p z)
  have:=cmpI_cases (p x) (p z)
  have q1:cmpI (p x) (p y)≤0:=h1
  have q2:cmpI (p y) (p z)≤0:=h2
  show cmpI (p x) (p z)≤0
  omega
theorem ordI_0:OrdI (fun (_ _:α)=>(0:Int)):=⟨fun _ _=>by simp,fun _ _ _ _ _=>Int.le_refl _⟩
end
theorem ord_P:OrdT cmpP where
 o:=ordI_lex (ordI_pr PL.v) (ordI_lex (ordI_pr fun p:PL=>numB p.g) (ordI_lex (ordI_pr PL.x) (ordI_lex (ordI_pr PL.y) (ordI_lex (ordI_pr PL.h) ordI_0))))
 eq:=fun p q h=>by
  have e:cmpP p q=if cmpI p.v q.v≠0 then cmpI p.v q.v else if cmpI (numB p.g) (numB q.g)≠0 then cmpI (numB p.g) (numB q.g) else if cmpI p.x q.x≠0 then cmpI p.x q.x else if cmpI p.y q.y≠0 then cmpI p.y q.y else if cmpI p.h q.h≠0 then cmpI p.h q.h else 0:=rfl
  rw [e] at h
  have key:∀ (a:Int) (b:Int),(if a≠0 then a else b)=0→a=0∧b=0:=by
   intro a b h
   by_cases q:a=0
   ·rw [if_neg (by simp [q])] at h; exact ⟨q,h⟩
   ·rw [if_pos q] at h; exact absurd h q
  obtain ⟨h1,h⟩:=key _ _ h
  obtain ⟨h2,h⟩:=key _ _ h
  obtain ⟨h3,h⟩:=key _ _ h
  obtain ⟨h4,h⟩:=key _ _ h
  obtain ⟨h5,_⟩:=key _ _ h
  rw [cmpI_zero] at h1 h2 h3 h4 h5
  have hg:p.g=q.g:=by
   unfold numB at h2
   cases hp:p.g<;>cases hq:q.g<;>rw [hp,hq] at h2<;>simp at h2
  cases p; cases q
  simp only at h1 h3 h4 h5 hg
  rw [h1,h3,h4,h5,hg]
theorem lexB_zero:∀ a b:List CC,lexB a b=0 ↔ a=b
 | [],[]=>by simp [lexB]
 | [],_ :: _=>by simp [lexB]
 | _ :: _,[]=>by simp [lexB]
 | x :: a,y :: b=>by
  have ih:=lexB_zero a b
  unfold lexB
  by_cases q:cmpB x y=0
  ·have e:=ord_B.eq x y q
   rw [if_neg (by simp [q]),ih,e]
   simp
  ·rw [if_pos q]
   refine ⟨fun h=>absurd h q,fun h=>?_⟩
   rw [List.cons.injEq] at h
   exfalso
   apply q
   rw [h.1]
   have:=ord_B.o.anti y y
   rcases Int.lt_trichotomy (cmpB y y) 0 with g | g | g
   ·have:=this.1 g; omega
   ·exact g
   ·have:=this.2 g; omega
theorem lexB_anti:∀ a b:List CC,lexB a b < 0 ↔ 0 < lexB b a
 | [],[]=>by simp [lexB]
 | [],_ :: _=>by simp [lexB]
 | _ :: _,[]=>by simp [lexB]
 | x :: a,y :: b=>by
  have ih:=lexB_anti a b
  have h1:=ord_B.o.anti x y
  have h2:=ordI_zero2 ord_B.o (x:=x) (y:=y)
  unfold lexB
  by_cases q:cmpB x y=0
  ·have q2:=h2.1 q
   rw [if_neg (by simp [q]),if_neg (by simp [q2])]
   exact ih
  ·have q2:cmpB y x≠0:=fun e=>q (h2.2 e)
   rw [if_pos q,if_pos q2]
   exact h1
theorem lexB_trans:∀ a b c:List CC,lexB a b≤0→lexB b c≤0→lexB a c≤0
 | [],_,[],_,_=>by simp [lexB]
 | [],_,_ :: _,_,_=>by simp [lexB]
 | _ :: _,[],_,h,_=>by simp [lexB] at h
 | _ :: _,_ :: _,[],_,h=>by simp [lexB] at h
 | x :: a,y :: b,z :: c,h1,h2=>by
  have ih:=lexB_trans a b c
  unfold lexB at h1 h2 ⊢
  have t:=ord_B.o.trans x y z
  have t1:=ord_B.o.trans z x y
  have t2:=ord_B.o.trans y z x
  have n1:=ord_B.o.anti x y
  have n2:=ord_B.o.anti y z
  have m1:=ord_B.o.anti y x
  have m2:=ord_B.o.anti z y
  have f1:cmpB x y≤0:=by
   by_cases q:cmpB x y=0
   ·omega
   ·rw [if_pos q] at h1; exact h1
  have f2:cmpB y z≤0:=by
   by_cases q:cmpB y z=0
   ·omega
   ·rw [if_pos q] at h2; exact h2
  have f3:=t f1 f2
  by_cases q:cmpB x z=0
  ·have q2:cmpB z x=0:=ord_B.o.zero q
   have e1:=t1 (by omega) f1
   have e2:=t2 f2 (by omega)
   have z1:cmpB y z=0:=by omega
   have z2:cmpB x y=0:=by omega
   rw [if_neg (by simp [z2])] at h1
   rw [if_neg (by simp [z1])] at h2
   rw [if_neg (by simp [q])]
   exact ih h1 h2
  ·rw [if_pos q]; exact f3
theorem ord_S:OrdT cmpS where
 o:=ordI_lex (f:=fun a b:List CC=>cmpI a.length b.length) (ordI_pr fun a:List CC=>(a.length:Int)) ⟨lexB_anti,lexB_trans⟩
 eq:=fun a b h=>by
  unfold cmpS at h
  split at h
  ·rename_i q; exact absurd h q
  ·exact (lexB_zero a b).1 h
section
variable {α:Type} {cf:α→α→Int}
def lkG:List (Int × α)→Int→Option α
 | [],_=>none
 | s :: S,x=>if s.1=x then some s.2 else lkG S x
def setG:List (Int × α)→Int→α→List (Int × α)
 | [],x,l=>[(x,l)]
 | s :: S,x,l=>if s.1=x then (x,l) :: S else s :: setG S x l
theorem lkG_set (x:Int) (l:α) (y:Int):∀ S:List (Int × α),lkG (setG S x l) y=if y=x then some l else lkG S y
 | []=>by
  unfold setG lkG
  by_cases g:y=x
  ·rw [if_pos g,if_pos g.symm]
  ·rw [if_neg g,if_neg (fun h=>g h.symm)]; rfl
 | s :: S=>by
  have ih:=lkG_set x l y S
  unfold setG
  by_cases h:s.1=x
  ·rw [if_pos h]
   unfold lkG
   by_cases g:y=x
   ·rw [if_pos g,if_pos g.symm]
   ·rw [if_neg g,if_neg (fun q=>g q.symm),if_neg (fun q=>g (q.symm.trans h))]
  ·rw [if_neg h]
   unfold lkG
   rw [ih]
   by_cases g:y=x
   ·rw [if_pos g,if_pos g,if_neg (fun q=>h (q.trans g))]
   ·rw [if_neg g,if_neg g]
def putG (cf:α→α→Int) (S:List (Int × α)) (id:Int) (s:α):List (Int × α):=match lkG S id with | some o=>if 0 < cf s o then setG S id s else S | none=>setG S id s
theorem lkG_put (S:List (Int × α)) (id:Int) (s:α) (y:Int):lkG (putG cf S id s) y=if y=id then mxO cf (lkG S y) s else lkG S y:=by
 unfold putG
 cases hf:lkG S id with
 | none=>
  simp only
  rw [lkG_set]
  by_cases g:y=id
  ·subst g; rw [if_pos rfl,if_pos rfl,hf]; rfl
  ·rw [if_neg g,if_neg g]
 | some o=>
  simp only
  by_cases g:y=id
  ·subst g
   rw [if_pos rfl,hf]
   show _=(if 0 < cf s o then some s else some o)
   split
   ·rw [lkG_set,if_pos rfl]
   ·exact hf
  ·rw [if_neg g]
   split
   ·rw [lkG_set,if_neg g]
   ·rfl
theorem topP_congr {P P':α→Prop} {r:Option α} (hP:∀ s,P s ↔ P' s) (h:topP cf P r):topP cf P' r:=by
 cases r with
 | none=>exact fun s hs=>h s ((hP s).2 hs)
 | some m=>exact ⟨(hP m).1 h.1,fun s hs=>h.2 s ((hP s).2 hs)⟩
theorem topP_union (ho:OrdT cf) {P P':α→Prop} {r:Option α} {m:α} (h:topP cf P r) (h2:topP cf P' (some m)):topP cf (fun s=>P s∨P' s) (mxO cf r m):=by
 have h1:=topP_step ho m h
 cases hr:mxO cf r m with
 | none=>rw [hr] at h1; exact absurd (.inr rfl) (h1 m)
 | some q=>
  rw [hr] at h1
  refine ⟨h1.1.elim .inl (fun e=>.inr (by rw [e]; exact h2.1)),fun s hs=>?_⟩
  rcases hs with hs | hs
  ·exact h1.2 s (.inl hs)
  ·have a:=h2.2 s hs
   have b:=h1.2 m (.inr rfl)
   intro h0
   have b1:=ho.o.anti s q
   have b2:=ho.o.anti q s
   have b3:=ho.o.anti m s
   have b4:=ho.o.anti s m
   have b5:=ho.o.anti q m
   have b6:=ho.o.anti m q
   have t:=ho.o.trans q s m (by have:=b2.2 h0; omega) (by
    rcases Int.lt_trichotomy (cf s m) 0 with g | g | g
    ·omega
    ·omega
    ·exact absurd g a)
   have e:cf q m=0:=by
    rcases Int.lt_trichotomy (cf q m) 0 with g | g | g
    ·exact absurd (b5.1 g) b
    ·exact g
    ·omega
   have e2:=ho.eq q m e
   subst e2
   exact a h0
theorem topP_none {P P':α→Prop} {r:Option α} (h:topP cf P r) (h2:topP cf P' none):topP cf (fun s=>P s∨P' s) r:=topP_congr (fun s=>⟨.inl,fun o=>o.elim id (fun q=>absurd q (h2 s))⟩) h
def joinG (cf:α→α→Int) (A:List (Int × α)) (B:Int→Option α) (I:List Int):List (Int × α):=I.foldl (fun a id=>match B id with | some s=>putG cf a id s | none=>a) A
theorem joinG_cons (A:List (Int × α)) (B:Int→Option α) (i:Int) (I:List Int):joinG cf A B (i :: I)=joinG cf (match B i with | some s=>putG cf A i s | none=>A) B I:=rfl
theorem lkG_join_out (B:Int→Option α) (y:Int):∀ (I:List Int) (A:List (Int × α)),y ∉ I→lkG (joinG cf A B I) y=lkG A y
 | [],A,_=>rfl
 | i :: I,A,h=>by
  rw [List.mem_cons,not_or] at h
  have ih:=lkG_join_out B y I (match B i with | some s=>putG cf A i s | none=>A) h.2
  show lkG (joinG cf (match B i with | some s=>putG cf A i s | none=>A) B I) y=_
  rw [ih]
  cases B i with
  | none=>rfl
  | some s=>simp only; rw [lkG_put,if_neg h.1]
def mxJ (cf:α→α→Int) (r r':Option α):Option α:=match r' with | some s=>mxO cf r s | none=>r
theorem lkG_join (B:Int→Option α) (y:Int):∀ (I:List Int) (A:List (Int × α)),I.Nodup→y∈I→lkG (joinG cf A B I) y=mxJ cf (lkG A y) (B y)
 | i :: I,A,hn,h=>by
  rw [List.nodup_cons] at hn
  show lkG (joinG cf (match B i with | some s=>putG cf A i s | none=>A) B I) y=_
  rcases List.mem_cons.1 h with rfl | g
  ·rw [lkG_join_out B y I _ hn.1]
   unfold mxJ
   cases B y with
   | none=>rfl
   | some s=>simp only; rw [lkG_put,if_pos rfl]
  ·have hne:y≠i:=by rintro rfl; exact hn.1 g
   rw [lkG_join B y I _ hn.2 g]
   have e:lkG (match B i with | some s=>putG cf A i s | none=>A) y=lkG A y:=by
    cases B i with
    | none=>rfl
    | some s=>simp only; rw [lkG_put,if_neg hne]
   rw [e]
end
theorem lkH_G (x:Int):∀ L:SH,lkH L x=lkG L x
 | []=>rfl
 | s :: L=>by unfold lkH lkG; rw [lkH_G x L]
theorem setH_G (x:Int) (l:List CC):∀ L:SH,setH L x l=setG L x l
 | []=>rfl
 | s :: L=>by unfold setH setG; rw [setH_G x l L]
theorem putH_G (L:SH) (id:Int) (s:List CC):putH L id s=if putE id s=0 then putG cmpS L id s else L:=by
 unfold putH putG
 rw [lkH_G,setH_G]
 cases lkG L id<;>rfl
theorem lkS_G (S:List SE) (x:Int):lkG (shS S) x=(lkS S x).map SE.l:=by rw [← lkH_G,lkH_S]
def qs (Q:List QE):List (Int × PL):=Q.map fun q=>(q.i,q.p)
theorem lkP_G (x:Int):∀ Q:List QE,lkG (qs Q) x=(lkP Q x).map QE.p
 | []=>rfl
 | q :: Q=>by
  show (if q.i=x then some q.p else lkG (qs Q) x)=(lkP (q :: Q) x).map QE.p
  unfold lkP
  split
  ·rfl
  ·exact lkP_G x Q
theorem setP_G (x:Int) (p:PL):∀ Q:List QE,qs (setP Q x p)=setG (qs Q) x p
 | []=>rfl
 | q :: Q=>by
  unfold setP
  show _=(if q.i=x then (x,p) :: qs Q else (q.i,q.p) :: setG (qs Q) x p)
  split
  ·rfl
  ·show (q.i,q.p) :: qs (setP Q x p)=_
   rw [setP_G x p Q]
theorem plc_G (Q:List QE) (id:Int) (p:PL):qs (plcL Q id p)=if plcE id p=0 then putG cmpP (qs Q) id p else qs Q:=by
 unfold plcL putG
 rw [lkP_G]
 split
 ·cases lkP Q id with
  | none=>exact setP_G _ _ _
  | some o=>
   simp only [Option.map_some]
   split
   ·exact setP_G _ _ _
   ·rfl
 ·rfl
theorem okS_E {S:List SE} {id:Int} {s:SE} (h:okS S) (hf:lkS S id=some s):putE id s.l=0:=by
 obtain ⟨h1,h2⟩:=lkS_mem hf
 have:=h s h1
 rw [h2] at this
 exact putE_0 this.1 this.2
theorem okQ_E {Q:List QE} {id:Int} {q:QE} (h:okQ Q) (hf:lkP Q id=some q):plcE id q.p=0:=by
 obtain ⟨h1,h2⟩:=lkP_mem hf
 have:=h q h1
 rw [h2] at this
 exact plcE_0 this.1 this.2
theorem joinH_G {B:List SE} (hB:okS B):∀ (I:List Int) (A:SH),joinH A B I=joinG cmpS A (fun id=>(lkS B id).map SE.l) I
 | [],_=>rfl
 | i :: I,A=>by
  have ih:=joinH_G hB I (match lkS B i with | some s=>putH A i s.l | none=>A)
  have e:joinH A B (i :: I)=joinH (match lkS B i with | some s=>putH A i s.l | none=>A) B I:=rfl
  rw [e,ih]
  rw [joinG_cons]
  cases hf:lkS B i with
  | none=>rfl
  | some s=>
   simp only [Option.map_some]
   rw [putH_G,if_pos (okS_E hB hf)]
theorem joinQ_G {B:List QE} (hB:okQ B):∀ (I:List Int) (A:List QE),qs (joinQ A B I)=joinG cmpP (qs A) (fun id=>(lkP B id).map QE.p) I
 | [],_=>rfl
 | i :: I,A=>by
  have ih:=joinQ_G hB I (match lkP B i with | some s=>plcL A i s.p | none=>A)
  have e:joinQ A B (i :: I)=joinQ (match lkP B i with | some s=>plcL A i s.p | none=>A) B I:=rfl
  rw [e,ih]
  rw [joinG_cons]
  cases hf:lkP B i with
  | none=>rfl
  | some s=>
   simp only [Option.map_some]
   rw [plc_G,if_pos (okQ_E hB hf)]
def noteS (N:NT→Prop) (id:Int) (s:List CC):Prop:=∃ n,N n∧n.put=true∧n.id=id∧n.s=s∧putE id s=0
def noteP (N:NT→Prop) (id:Int) (p:PL):Prop:=∃ n,N n∧n.put=false∧n.id=id∧n.p=p∧plcE id p=0
structure Atl (S:List SE) (Q:List QE) (N:NT→Prop):Prop where
 oS:okS S
 oQ:okQ Q
 s:∀ id,topP cmpS (noteS N id) (lkG (shS S) id)
 p:∀ id,topP cmpP (noteP N id) (lkG (qs Q) id)
theorem atl_nil:Atl [] [] (fun _=>False):=⟨(fun _ h=>by cases h),(fun _ h=>by cases h),fun _ s ⟨_,h,_⟩=>h,fun _ s ⟨_,h,_⟩=>h⟩
theorem Atl.congr {S:List SE} {Q:List QE} {N N':NT→Prop} (h:Atl S Q N) (hN:∀ n,N n ↔ N' n):Atl S Q N' :=
 ⟨h.oS,h.oQ,fun id=>topP_congr (fun s=>⟨fun ⟨n,a,b⟩=>⟨n,(hN n).1 a,b⟩,fun ⟨n,a,b⟩=>⟨n,(hN n).2 a,b⟩⟩) (h.s id),fun id=>topP_congr (fun s=>⟨fun ⟨n,a,b⟩=>⟨n,(hN n).1 a,b⟩,fun ⟨n,a,b⟩=>⟨n,(hN n).2 a,b⟩⟩) (h.p id)⟩
theorem Atl.tell {S:List SE} {Q:List QE} {N:NT→Prop} (h:Atl S Q N) (n:NT) (V:Value):Atl (tellS S n V) (tellQ Q n) (fun m=>N m∨m=n):=by
 refine ⟨okS_tell h.oS,okQ_tell h.oQ,fun id=>?_,fun id=>?_⟩
 ·unfold tellS
  by_cases hp:n.put=true
  ·rw [if_pos hp,putH_S,putH_G]
   by_cases hc:putE n.id n.s=0∧id=n.id
   ·rw [if_pos hc.1,lkG_put,if_pos hc.2]
    refine topP_congr (fun s=>⟨?_,?_⟩) (topP_step ord_S n.s (h.s id))
    ·rintro (⟨m,a,b⟩ | rfl)
     ·exact ⟨m,.inl a,b⟩
     ·exact ⟨n,.inr rfl,hp,hc.2.symm,rfl,by rw [hc.2]; exact hc.1⟩
    ·rintro ⟨m,a | rfl,b⟩
     ·exact .inl ⟨m,a,b⟩
     ·exact .inr b.2.2.1.symm
   ·have e:lkG (if putE n.id n.s=0 then putG cmpS (shS S) n.id n.s else shS S) id=lkG (shS S) id:=by
     split
     ·rename_i h0
      rw [lkG_put,if_neg (fun q=>hc ⟨h0,q⟩)]
     ·rfl
    rw [e]
    refine topP_congr (fun s=>⟨fun ⟨m,a,b⟩=>⟨m,.inl a,b⟩,?_⟩) (h.s id)
    rintro ⟨m,a | rfl,b⟩
    ·exact ⟨m,a,b⟩
    ·refine absurd ⟨?_,b.2.1.symm⟩ hc
     have:=b.2.2.2
     rw [← b.2.2.1,← b.2.1] at this
     exact this
  ·rw [if_neg hp]
   refine topP_congr (fun s=>⟨fun ⟨m,a,b⟩=>⟨m,.inl a,b⟩,?_⟩) (h.s id)
   rintro ⟨m,a | rfl,b⟩
   ·exact ⟨m,a,b⟩
   ·exact absurd b.1 hp
 ·unfold tellQ
  by_cases hp:n.put=true
  ·rw [if_pos hp]
   refine topP_congr (fun s=>⟨fun ⟨m,a,b⟩=>⟨m,.inl a,b⟩,?_⟩) (h.p id)
   rintro ⟨m,a | rfl,b⟩
   ·exact ⟨m,a,b⟩
   ·rw [hp] at b; exact absurd b.1 (by simp)
  ·have hpf:n.put=false:=by simpa using hp
   rw [if_neg hp,plc_G]
   by_cases hc:plcE n.id n.p=0∧id=n.id
   ·rw [if_pos hc.1,lkG_put,if_pos hc.2]
    refine topP_congr (fun s=>⟨?_,?_⟩) (topP_step ord_P n.p (h.p id))
    ·rintro (⟨m,a,b⟩ | rfl)
     ·exact ⟨m,.inl a,b⟩
     ·exact ⟨n,.inr rfl,hpf,hc.2.symm,rfl,by rw [hc.2]; exact hc.1⟩
    ·rintro ⟨m,a | rfl,b⟩
     ·exact .inl ⟨m,a,b⟩
     ·exact .inr b.2.2.1.symm
   ·have e:lkG (if plcE n.id n.p=0 then putG cmpP (qs Q) n.id n.p else qs Q) id=lkG (qs Q) id:=by
     split
     ·rename_i h0
      rw [lkG_put,if_neg (fun q=>hc ⟨h0,q⟩)]
     ·rfl
    rw [e]
    refine topP_congr (fun s=>⟨fun ⟨m,a,b⟩=>⟨m,.inl a,b⟩,?_⟩) (h.p id)
    rintro ⟨m,a | rfl,b⟩
    ·exact ⟨m,a,b⟩
    ·refine absurd ⟨?_,b.2.1.symm⟩ hc
     have:=b.2.2.2
     rw [← b.2.2.1,← b.2.1] at this
     exact this
theorem ids_mem {S:List SE} {Q:List QE} {id:Int} (hi:idB id=true) (h:(lkS S id).isSome=true∨(lkP Q id).isSome=true):id∈idsL S Q 64:=by
 unfold idB at hi
 rw [decide_eq_true_eq] at hi
 obtain ⟨k,rfl⟩:∃ k:Nat,id=k:=⟨id.toNat,by omega⟩
 unfold idsL
 rw [List.mem_map]
 refine ⟨k,List.mem_filter.2 ⟨List.mem_range.2 (by omega),?_⟩,rfl⟩
 rw [Bool.or_eq_true]; exact h
theorem ids_nodup (S:List SE) (Q:List QE) (k:Nat):(idsL S Q k).Nodup:=by
 unfold idsL List.Nodup
 rw [List.pairwise_map]
 refine (List.nodup_range.filter _).imp fun {a b} h e=>h (by omega)
theorem ids_S {S:List SE} {Q:List QE} {id:Int} (h:okS S) (hn:id ∉ idsL S Q 64):lkS S id=none:=by
 cases hf:lkS S id with
 | none=>rfl
 | some s=>
  obtain ⟨h1,h2⟩:=lkS_mem hf
  have:=(h s h1).2
  rw [h2] at this
  exact absurd (ids_mem this (.inl (by rw [hf]; rfl))) hn
theorem ids_Q {S:List SE} {Q:List QE} {id:Int} (h:okQ Q) (hn:id ∉ idsL S Q 64):lkP Q id=none:=by
 cases hf:lkP Q id with
 | none=>rfl
 | some s=>
  obtain ⟨h1,h2⟩:=lkP_mem hf
  have:=(h s h1).2
  rw [h2] at this
  exact absurd (ids_mem this (.inr (by rw [hf]; rfl))) hn
def okH (T:SH):Prop:=∀ p∈T,scnB p.2=true∧idB p.1=true
theorem okH_S {S:List SE}:okS S ↔ okH (shS S):=by
 refine ⟨fun h p hp=>?_,fun h s hs=>h (s.i,s.l) (List.mem_map.2 ⟨s,hs,rfl⟩)⟩
 obtain ⟨s,hs,rfl⟩:=List.mem_map.1 hp
 exact h s hs
theorem okH_set {T:SH} {x:Int} {l:List CC} (h:okH T) (hl:scnB l=true) (hx:idB x=true):okH (setH T x l):=by
 induction T with
 | nil=>intro p hp; simp only [setH,List.mem_singleton] at hp; subst hp; exact ⟨hl,hx⟩
 | cons a T ih=>
  intro p hp
  unfold setH at hp
  split at hp
  ·rcases List.mem_cons.1 hp with rfl | g
   ·exact ⟨hl,hx⟩
   ·exact h p (by simp [g])
  ·rcases List.mem_cons.1 hp with rfl | g
   ·exact h _ (by simp)
   ·exact ih (fun p hp=>h p (by simp [hp])) p g
theorem okH_put {T:SH} {id:Int} {s:List CC} (h:okH T):okH (putH T id s):=by
 unfold putH
 split
 ·rename_i h0
  obtain ⟨h1,h2⟩:=putE_ok h0
  split
  ·split
   ·exact okH_set h h1 h2
   ·exact h
  ·exact okH_set h h1 h2
 ·exact h
theorem okH_join (B:List SE):∀ (I:List Int) (T:SH),okH T→okH (joinH T B I)
 | [],_,h=>h
 | i :: I,T,h=>by
  have e:joinH T B (i :: I)=joinH (match lkS B i with | some s=>putH T i s.l | none=>T) B I:=rfl
  rw [e]
  refine okH_join B I _ ?_
  cases lkS B i with
  | none=>exact h
  | some s=>exact okH_put h
theorem okQ_join (B:List QE):∀ (I:List Int) (T:List QE),okQ T→okQ (joinQ T B I)
 | [],_,h=>h
 | i :: I,T,h=>by
  have e:joinQ T B (i :: I)=joinQ (match lkP B i with | some s=>plcL T i s.p | none=>T) B I:=rfl
  rw [e]
  refine okQ_join B I _ ?_
  cases lkP B i with
  | none=>exact h
  | some s=>exact okQ_plc h
theorem note_or {N N':NT→Prop} {id:Int} {s:List CC}:noteS N id s∨noteS N' id s ↔ noteS (fun n=>N n∨N' n) id s :=
 ⟨fun h=>h.elim (fun ⟨n,a,b⟩=>⟨n,.inl a,b⟩) (fun ⟨n,a,b⟩=>⟨n,.inr a,b⟩),fun ⟨n,a,b⟩=>a.elim (fun a=>.inl ⟨n,a,b⟩) (fun a=>.inr ⟨n,a,b⟩)⟩
theorem note_orP {N N':NT→Prop} {id:Int} {s:PL}:noteP N id s∨noteP N' id s ↔ noteP (fun n=>N n∨N' n) id s :=
 ⟨fun h=>h.elim (fun ⟨n,a,b⟩=>⟨n,.inl a,b⟩) (fun ⟨n,a,b⟩=>⟨n,.inr a,b⟩),fun ⟨n,a,b⟩=>a.elim (fun a=>.inl ⟨n,a,b⟩) (fun a=>.inr ⟨n,a,b⟩)⟩
theorem top_join {α:Type} {cf:α→α→Int} (ho:OrdT cf) {P P':α→Prop} {r r':Option α} (h:topP cf P r) (h2:topP cf P' r'):topP cf (fun s=>P s∨P' s) (mxJ cf r r'):=by
 cases r' with
 | none=>exact topP_none h h2
 | some m=>exact topP_union ho h h2
theorem Atl.join {S S' S'':List SE} {Q Q':List QE} {N N':NT→Prop} (h:Atl S Q N) (h':Atl S' Q' N') (hs:shS S''=joinH (shS S) S' (idsL S' Q' 64)):Atl S'' (joinQ Q Q' (idsL S' Q' 64)) (fun n=>N n∨N' n):=by
 refine ⟨okH_S.2 (by rw [hs]; exact okH_join _ _ _ (okH_S.1 h.oS)),okQ_join _ _ _ h.oQ,fun id=>?_,fun id=>?_⟩
 ·have a:=top_join ord_S (h.s id) (h'.s id)
  have e:lkG (shS S'') id=mxJ cmpS (lkG (shS S) id) (lkG (shS S') id):=by
   rw [hs,joinH_G h'.oS,lkS_G S']
   by_cases g:id∈idsL S' Q' 64
   ·rw [lkG_join _ _ _ _ (ids_nodup _ _ _) g]
   ·rw [lkG_join_out _ _ _ _ g,ids_S h'.oS g]; rfl
  rw [e]
  exact topP_congr (fun s=>note_or) a
 ·have a:=top_join ord_P (h.p id) (h'.p id)
  have e:lkG (qs (joinQ Q Q' (idsL S' Q' 64))) id=mxJ cmpP (lkG (qs Q) id) (lkG (qs Q') id):=by
   rw [joinQ_G h'.oQ,lkP_G id Q']
   by_cases g:id∈idsL S' Q' 64
   ·rw [lkG_join _ _ _ _ (ids_nodup _ _ _) g]
   ·rw [lkG_join_out _ _ _ _ g,ids_Q h'.oQ g]; rfl
  rw [e]
  exact topP_congr (fun s=>note_orP) a
section
variable {S S':List SE} {Q Q':List QE} {N N':NT→Prop}
theorem Atl.sameS (h:Atl S Q N) (h':Atl S' Q' N') (hN:∀ n,N n ↔ N' n) (id:Int):(lkS S id).map SE.l=(lkS S' id).map SE.l:=by
 rw [← lkS_G,← lkS_G]
 exact topP_uniq ord_S (fun s=>Iff.rfl) ((h.congr hN).s id) (h'.s id)
theorem Atl.sameQ (h:Atl S Q N) (h':Atl S' Q' N') (hN:∀ n,N n ↔ N' n) (id:Int):(lkP Q id).map QE.p=(lkP Q' id).map QE.p:=by
 rw [← lkP_G,← lkP_G]
 exact topP_uniq ord_P (fun s=>Iff.rfl) ((h.congr hN).p id) (h'.p id)
theorem scO_map (S:List SE) (id:Int):scO S id=((lkS S id).map SE.l).getD []:=by unfold scO; cases lkS S id<;>rfl
theorem plO_map (Q:List QE) (id:Int):plO Q id=((lkP Q id).map QE.p).getD ⟨0,false,0,0,0⟩:=by unfold plO; cases lkP Q id<;>rfl
theorem some_map {α β:Type} (o:Option α) (f:α→β):o.isSome=(o.map f).isSome:=by cases o<;>rfl
theorem Atl.same (h:Atl S Q N) (h':Atl S' Q' N') (hN:∀ n,N n ↔ N' n):sameA S Q S' Q'=true∧allC S Q=allC S' Q':=by
 have hs:=h.sameS h' hN
 have hq:=h.sameQ h' hN
 have i1:∀ id,(lkS S id).isSome=(lkS S' id).isSome:=fun id=>by rw [some_map _ SE.l,hs id,← some_map]
 have i2:∀ id,(lkP Q id).isSome=(lkP Q' id).isSome:=fun id=>by rw [some_map _ QE.p,hq id,← some_map]
 have i3:∀ id,scO S id=scO S' id:=fun id=>by rw [scO_map,scO_map,hs id]
 have i4:∀ id,plO Q id=plO Q' id:=fun id=>by rw [plO_map,plO_map,hq id]
 have hI:idsL S Q 64=idsL S' Q' 64:=by
  unfold idsL
  congr 1
  refine List.filter_congr fun k _=>?_
  rw [i1,i2]
 refine ⟨?_,?_⟩
 ·unfold sameA
  rw [decide_eq_true hI,Bool.true_and,List.all_eq_true]
  intro id _
  exact sameAt_yes (i1 id) (i2 id) (by rw [i4]) (by rw [i4]) (by rw [i4]) (by rw [i4]) (by rw [i4]) (i3 id)
 ·unfold allC
  rw [hI]
  congr 1
  funext id
  unfold partC
  rw [i1,i2,i3,i4]
end
theorem Atl.few {S:List SE} {Q:List QE} {N:NT→Prop} (h:Atl S Q N) (hN:∀ n,N n→n.s.length≤3) (id:Int):(scO S id).length≤3:=by
 have hs:=h.s id
 rw [lkS_G] at hs
 unfold scO
 cases hf:lkS S id with
 | none=>simp
 | some s=>
  rw [hf] at hs
  obtain ⟨⟨n,a,_,_,e,_⟩,_⟩:=hs
  have:=hN n a
  rw [e] at this
  exact this
theorem Atl.part {S:List SE} {Q:List QE} {N:NT→Prop} (h:Atl S Q N) (hN:∀ n,N n→n.s.length≤3) (id:Int):(partC S Q id).length≤14700:=by
 unfold partC
 split
 ·rename_i hc
  have hl:=ofC_len (plO Q id).x (plO Q id).y (plO Q id).h (S:=scO S id) (fun b hb=>((scn_get (scO_ok h.oS hc.1)).2 b hb).2)
  have:=h.few hN id
  omega
 ·simp
theorem flat_bd {f:Int→List EE} {b:Nat} (h:∀ i,(f i).length≤b):∀ I:List Int,(I.flatMap f).length≤b * I.length
 | []=>by simp
 | i :: I=>by
  have:=flat_bd h I
  have h2:=h i
  rw [List.flatMap_cons,List.length_append,List.length_cons,Nat.mul_succ]
  omega
theorem Atl.all {S:List SE} {Q:List QE} {N:NT→Prop} (h:Atl S Q N) (hN:∀ n,N n→n.s.length≤3):(allC S Q).length≤940800:=by
 have h1:=flat_bd (fun i=>h.part hN i) (idsL S Q 64)
 have h2:=idsL_len S Q 64
 have:14700 * (idsL S Q 64).length≤14700 * 64:=Nat.mul_le_mul_left _ h2
 unfold allC
 omega
end Go.Proofs.YtgpbokembopapaaGreat
