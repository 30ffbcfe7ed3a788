/- A part of the proof of a statement about this seat: how a function is stepped through, and plain laws. No conditions. -/
import Derived.Test.YtgpbokembopapaaGreatRows
import Derived.Test.YtgpbokembopapaaGreatFLSz4
import Derived.Test.YtgpbokembopapaaGreatFLM3
import Derived.KernelRfl
set_option linter.unusedVariables false
set_option linter.unusedSimpArgs false
set_option maxRecDepth 20000
namespace Go.Proofs.YtgpbokembopapaaGreat
open Go.Sx Go.Way
end Go.Proofs.YtgpbokembopapaaGreat
namespace Go.Proofs.YtgpbokembopapaaGreat
open Go.Sx Go.Way
section
open Go.Sx
variable {P:Program}
def stoConE {α:Type} (En:Enc α):Con:=fun args E n=>match args with
 | [.c (.n i),.c (.v (.int .i64 s)),.c (.n j)]=>match E i with
  | some (.dm k l)=>match E j with
   | some (.own m sz f ty)=>some (.d (0≤s∧s < l.length∧isRow En m sz f∧sz=En.sz) (fun _=>True) (fun _=>.t []) (fun G=>[(i,.dm k (putDM l s.toNat (G 0 0) (some (some ty,m,En.sz,rowG En (decL En m f))))),(j,.dead)]) n)
   | _=>none
  | _=>none
 | _=>none
end
structure PE where
 x:Int
 y:Int
 v:Value
 l:List EE
def ePr:MEnc PE where
 k:=true
 enc:=fun p=>⟨p.x,p.y,p.v,some (some 119,p.l.length,4,rowG eE p.l)⟩
 dec:=fun d=>⟨d.x,d.y,d.val,match d.row with | some (_,n,_,g)=>decL eE n (fun a b=>.v (g a b)) | none=>[]⟩
 de:=fun p=>by
  show PE.mk p.x p.y p.v (decL eE p.l.length (vF (rowG eE p.l)))=p
  rw [rowG_f,decL_rowF]
def ePz:MEnc PE where
 k:=true
 enc:=fun p=>⟨p.x,p.y,p.v,some (none,p.l.length,4,rowG eE p.l)⟩
 dec:=fun d=>⟨d.x,d.y,d.val,match d.row with | some (_,n,_,g)=>decL eE n (fun a b=>.v (g a b)) | none=>[]⟩
 de:=fun p=>by
  show PE.mk p.x p.y p.v (decL eE p.l.length (vF (rowG eE p.l)))=p
  rw [rowG_f,decL_rowF]
abbrev PS:=Int × Int × List EE
def putS:List PS→Int→Int→EE→List PS
 | [],x,y,e=>[(x,y,[e])]
 | p :: l,x,y,e=>if p.1=x∧p.2.1=y then (p.1,p.2.1,p.2.2++[e]) :: l else p :: putS l x y e
theorem ePr_row (p:PE):(ePr.enc p).row=some (some 119,p.l.length,4,rowG eE p.l):=rfl
theorem ePr_val (p:PE):(ePr.enc p).val=p.v:=rfl
theorem ePr_k:ePr.k=true:=rfl
theorem ePz_row (p:PE):(ePz.enc p).row=some (none,p.l.length,4,rowG eE p.l):=rfl
theorem ePz_k:ePz.k=true:=rfl
attribute [push_cast] ePr_row ePr_val ePr_k ePz_row ePz_k
structure TT where
 x:Int
 y:Int
 d:List Int
def eTl:DEnc TT where
 sz:=3
 cell:=fun x j=>match j with
  | 0=>some (.int .i64 x.x)
  | 1=>some (.int .i64 x.y)
  | _=>none
 inr:=fun x j=>match j with
  | 2=>inL eU8 x.d
  | _=>none
 dflt:=⟨0,0,[]⟩
 dec:=fun f c=>⟨intV (f 0),intV (f 1),decO eU8 (c 2)⟩
 de:=by
  intro x f c h1 h2
  have a0:=h1 0 _ (by decide) rfl
  have a1:=h1 1 _ (by decide) rfl
  have a2:=decO_in (h2 2 (by decide))
  simp only [a0,a1,a2,intV]
theorem eTl_sz:eTl.sz=3:=rfl
theorem eTl_0 (L:List TT) (V:Nat→Nat→Value) (e:Nat):deepF eTl L V e 0 = .int .i64 (L.getD e eTl.dflt).x:=rfl
theorem eTl_1 (L:List TT) (V:Nat→Nat→Value) (e:Nat):deepF eTl L V e 1 = .int .i64 (L.getD e eTl.dflt).y:=rfl
theorem eTl_2 (L:List TT) (e:Nat):deepC eTl L e 2=some ((L.getD e eTl.dflt).d.length,1,rowG eU8 (L.getD e eTl.dflt).d):=rfl
attribute [push_cast] eTl_sz eTl_0 eTl_1 eTl_2
def partE (A:List EE) (c:CC):List EE:=A.filter fun e=>decide (e.X / 16=c.X∧e.Y / 16=c.Y)
def findS:List PS→Int→Int→Option (List EE)
 | [],_,_=>none
 | p :: l,x,y=>if p.1=x∧p.2.1=y then some p.2.2 else findS l x y
theorem findS_put (x y:Int) (e:EE) (a b:Int):∀ l:List PS,findS (putS l x y e) a b=if a=x∧b=y then some ((findS l x y).getD []++[e]) else findS l a b
 | []=>by
  unfold putS findS
  by_cases g:a=x∧b=y
  ·rw [if_pos g,if_pos ⟨g.1.symm,g.2.symm⟩]; rfl
  ·rw [if_neg g,if_neg (fun h=>g ⟨h.1.symm,h.2.symm⟩)]; rfl
 | p :: l=>by
  have ih:=findS_put x y e a b l
  unfold putS
  by_cases g:p.1=x∧p.2.1=y
  ·rw [if_pos g]
   simp only [findS]
   rw [if_pos g]
   by_cases g2:a=x∧b=y
   ·rw [if_pos g2,if_pos ⟨g.1.trans g2.1.symm,g.2.trans g2.2.symm⟩]; rfl
   ·rw [if_neg g2,if_neg (fun h=>g2 ⟨h.1.symm.trans g.1,h.2.symm.trans g.2⟩),if_neg (fun h=>g2 ⟨h.1.symm.trans g.1,h.2.symm.trans g.2⟩)]
  ·rw [if_neg g]
   simp only [findS]
   rw [if_neg g,ih]
   by_cases g2:a=x∧b=y
   ·rw [if_pos g2,if_pos g2,if_neg (fun h=>g ⟨h.1.trans g2.1,h.2.trans g2.2⟩)]
   ·rw [if_neg g2,if_neg g2]
def keyS (p:PS):CC:=⟨p.1,p.2.1⟩
theorem putS_keys (x y:Int) (e:EE):∀ l:List PS,(putS l x y e).map keyS=match findS l x y with | some _=>l.map keyS | none=>l.map keyS++[⟨x,y⟩]
 | []=>rfl
 | p :: l=>by
  have ih:=putS_keys x y e l
  unfold putS findS
  by_cases g:p.1=x∧p.2.1=y
  ·rw [if_pos g,if_pos g]; rfl
  ·rw [if_neg g,if_neg g,List.map_cons,ih]
   cases findS l x y<;>rfl
theorem findS_mem (x y:Int):∀ l:List PS,(⟨x,y⟩:CC)∈l.map keyS ↔ findS l x y≠none
 | []=>by simp [findS]
 | p :: l=>by
  unfold findS
  rw [List.map_cons,List.mem_cons,findS_mem x y l]
  by_cases g:p.1=x∧p.2.1=y
  ·rw [if_pos g]; simp [keyS,g.1,g.2]
  ·rw [if_neg g]
   refine ⟨fun h=>h.elim (fun e=>absurd ⟨(congrArg CC.X e).symm,(congrArg CC.Y e).symm⟩ g) id,.inr⟩
structure PartsOk (l:List PS) (B:List EE):Prop where
 nd:(l.map keyS).Nodup
 at_:∀ x y,findS l x y=if partE B ⟨x,y⟩=[] then none else some (partE B ⟨x,y⟩)
theorem partE_snoc (B:List EE) (e:EE) (c:CC):partE (B++[e]) c=if e.X / 16=c.X∧e.Y / 16=c.Y then partE B c++[e] else partE B c:=by
 unfold partE
 rw [List.filter_append]
 by_cases g:e.X / 16=c.X∧e.Y / 16=c.Y
 ·rw [if_pos g]; simp [g.1,g.2]
 ·rw [if_neg g]
  have:[e].filter (fun e=>decide (e.X / 16=c.X∧e.Y / 16=c.Y))=[]:=by
   rw [List.filter_eq_nil_iff]; intro a ha; rw [List.mem_singleton] at ha; subst ha; rw [decide_eq_true_eq]; exact g
  rw [this,List.append_nil]
theorem PartsOk.put {l:List PS} {B:List EE} (h:PartsOk l B) (e:EE):PartsOk (putS l (e.X / 16) (e.Y / 16) e) (B++[e]):=by
 refine ⟨?_,fun x y=>?_⟩
 ·rw [putS_keys]
  cases hf:findS l (e.X / 16) (e.Y / 16) with
  | some _=>exact h.nd
  | none=>
   rw [List.nodup_append]
   refine ⟨h.nd,by simp,fun a ha b hb hab=>?_⟩
   rw [List.mem_singleton] at hb
   subst hb; subst hab
   exact (findS_mem _ _ l).1 ha hf
 ·rw [findS_put,partE_snoc]
  simp only
  by_cases g:x=e.X / 16∧y=e.Y / 16
  ·have g2:e.X / 16=x∧e.Y / 16=y:=⟨g.1.symm,g.2.symm⟩
   rw [if_pos g,if_pos g2,if_neg (by simp),g2.1,g2.2,h.at_]
   split
   ·rename_i h0; rw [h0]; rfl
   ·rfl
  ·have g2:¬(e.X / 16=x∧e.Y / 16=y):=fun q=>g ⟨q.1.symm,q.2.symm⟩
   rw [if_neg g,if_neg g2,h.at_]
def numE (e:EE):Int:=(e.Y % 16) * 16+e.X % 16
structure PartOk (P:List EE):Prop where
 up:P.Pairwise fun a b=>numE a < numE b
 cnt:∀ e∈P,(-1099511627776≤e.H∧e.H≤1099511627776)∧-1099511627776≤e.P∧e.P≤1099511627776
 at_:∀ e∈P,(-16384≤e.X∧e.X≤16384)∧-16384≤e.Y∧e.Y≤16384
theorem valE_up {A:List EE} (h:valE A=true):A.Pairwise fun a b=>cmpE a b < 0:=by
 obtain ⟨_,hall⟩:=valE_get h
 have step:∀ i,0 < i→i < A.length→cmpE (A.getD (i - 1) eE.dflt) (A.getD i eE.dflt) < 0:=by
  intro i h0 hi
  have:=hall i hi
  unfold okE at this
  simp only [Bool.and_eq_true,Bool.or_eq_true,decide_eq_true_eq] at this
  rcases this.2 with g | g
  ·omega
  ·exact g
 rw [List.pairwise_iff_getElem]
 intro i j hi hj hij
 obtain ⟨d,rfl⟩:∃ d,j=i+1+d:=⟨j - (i+1),by omega⟩
 clear hij
 have gd:∀ k (h:k < A.length),A.getD k eE.dflt=A[k]:=fun k h=>by rw [List.getD_eq_getElem?_getD,List.getElem?_eq_getElem h]; rfl
 induction d with
 | zero=>
  have:=step (i+1) (by omega) hj
  rw [gd _ hj,gd _ (by omega)] at this
  exact this
 | succ d ih=>
  have h1:=ih (by omega)
  have h2:=step (i+1+(d+1)) (by omega) hj
  rw [gd _ hj,gd _ (by omega)] at h2
  have e:i+1+(d+1) - 1=i+1+d:=by omega
  simp only [e] at h2
  unfold cmpE at *
  have a1:=cmpC_cases A[i].X A[i].Y A[i+1+d].X A[i+1+d].Y
  have a2:=cmpC_cases A[i+1+d].X A[i+1+d].Y A[i+1+(d+1)].X A[i+1+(d+1)].Y
  have a3:=cmpC_cases A[i].X A[i].Y A[i+1+(d+1)].X A[i+1+(d+1)].Y
  omega
attribute [push_cast] stoConE
end Go.Proofs.YtgpbokembopapaaGreat
