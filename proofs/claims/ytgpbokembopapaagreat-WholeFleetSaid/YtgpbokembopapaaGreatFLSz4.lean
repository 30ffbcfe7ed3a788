/- A part of the proof of a statement about this seat: how a function is stepped through, and plain laws. No conditions. -/
import Derived.Test.YtgpbokembopapaaGreatFLSz3
import Derived.WideKeyRuns
import Derived.Shelf.SlSortCmp.NoneTotal
set_option linter.unusedVariables false
set_option linter.unusedSimpArgs false
namespace Go.Sx
open Go.RowKit
def nilC:Nat→SC→SC × Nat
 | n,.v (.slice none 0 0)=>(.n n,n+1)
 | n,x=>(x,n)
def nilCs:Nat→List SC→List SC × Nat
 | n,[]=>([],n)
 | n,x :: l=>((nilC n x).1 :: (nilCs (nilC n x).2 l).1,(nilCs (nilC n x).2 l).2)
def nilA1:Nat→S1→S1 × Nat
 | n,.c x=>(.c (nilC n x).1,(nilC n x).2)
 | n,.a l=>(.a (nilCs n l).1,(nilCs n l).2)
def nilA:Nat→List S1→List S1 × Nat
 | n,[]=>([],n)
 | n,x :: l=>((nilA1 n x).1 :: (nilA (nilA1 n x).2 l).1,(nilA (nilA1 n x).2 l).2)
def nilL (n:Nat):Nat→List (Nat × Ent)
 | 0=>[]
 | k+1=>(n,.nils) :: nilL (n+1) k
def nilR (n m:Nat):Option CR→Option CR
 | some (.q pre res)=>some (.e pre res (nilL n (m - n)) m)
 | some (.e pre res ents next)=>some (.e pre res (ents++nilL n (m - n)) next)
 | some (.d pre post res ents next)=>some (.d pre post res (fun G=>ents G++nilL n (m - n)) next)
 | none=>none
def nilG (g:Con):Con:=fun args E n=>nilR n (nilA n args).2 (g (nilA n args).1 (upd (nilL n ((nilA n args).2 - n)) E) (nilA n args).2)
def nilRho (n m:Nat) (r:Rho):Rho:=fun i=>if n≤i∧i < m then .slice none 0 0 else r i
section
variable {P:Program} {base:World} {M:Scp} {r:Rho} {w:World}
theorem nilC_le (n:Nat) (x:SC):n≤(nilC n x).2:=by unfold nilC; split<;>simp
theorem nilCs_le:∀ (l:List SC) (n:Nat),n≤(nilCs n l).2
 | [],n=>Nat.le_refl _
 | x :: l,n=>Nat.le_trans (nilC_le n x) (nilCs_le l _)
theorem nilA1_le (n:Nat) (x:S1):n≤(nilA1 n x).2:=by
 cases x with
 | c x=>exact nilC_le n x
 | a l=>exact nilCs_le l n
theorem nilA_le:∀ (l:List S1) (n:Nat),n≤(nilA n l).2
 | [],n=>Nat.le_refl _
 | x :: l,n=>Nat.le_trans (nilA1_le n x) (nilA_le l _)
theorem nilC_den {n n0 m:Nat} {x:SC} (h0:n0≤n) (hm:(nilC n x).2≤m) (hs:x.sc (upto n0)):(nilC n x).1.den (nilRho n0 m r)=x.den r:=by
 unfold nilC at hm ⊢
 split
 ·simp only at hm
  simp only [SC.den,nilRho]
  rw [if_pos (by omega)]
 ·exact SC.den_ext (m:=upto n0) (fun i hi=>if_neg (by have:i < n0:=hi; omega)) hs
theorem nilCs_den {n0 m:Nat}:∀ {l:List SC} {n:Nat},n0≤n→(nilCs n l).2≤m→(∀ x∈l,x.sc (upto n0))→(nilCs n l).1.map (SC.den (nilRho n0 m r))=l.map (SC.den r)
 | [],n,_,_,_=>rfl
 | x :: l,n,h0,hm,hs=>by
  simp only [nilCs,List.map_cons] at hm ⊢
  rw [nilC_den h0 (Nat.le_trans (nilCs_le l _) hm) (hs x (by simp)),nilCs_den (Nat.le_trans h0 (nilC_le n x)) hm (fun y hy=>hs y (by simp [hy]))]
theorem nilA1_den {n n0 m:Nat} {x:S1} (h0:n0≤n) (hm:(nilA1 n x).2≤m) (hs:x.sc (upto n0)):(nilA1 n x).1.den (nilRho n0 m r)=x.den r:=by
 cases x with
 | c x=>exact nilC_den h0 hm hs
 | a l=>simp only [nilA1,S1.den] at hm ⊢; rw [nilCs_den h0 hm hs]
theorem nilA_den {n0 m:Nat}:∀ {l:List S1} {n:Nat},n0≤n→(nilA n l).2≤m→(∀ x∈l,x.sc (upto n0))→(nilA n l).1.map (S1.den (nilRho n0 m r))=l.map (S1.den r)
 | [],n,_,_,_=>rfl
 | x :: l,n,h0,hm,hs=>by
  simp only [nilA,List.map_cons] at hm ⊢
  rw [nilA1_den h0 (Nat.le_trans (nilA_le l _) hm) (hs x (by simp)),nilA_den (Nat.le_trans h0 (nilA1_le n x)) hm (fun y hy=>hs y (by simp [hy]))]
theorem nilC_sc {q:Nat→Prop} {n m:Nat} {x:SC} (hm:(nilC n x).2≤m) (hq:∀ i,n≤i→i < m→q i) (hs:x.sc q):(nilC n x).1.sc q:=by
 unfold nilC at hm ⊢
 split
 ·simp only at hm; exact hq n (Nat.le_refl _) (by omega)
 ·exact hs
theorem nilCs_sc {q:Nat→Prop} {m:Nat}:∀ {l:List SC} {n:Nat},(nilCs n l).2≤m→(∀ i,n≤i→i < m→q i)→(∀ x∈l,x.sc q)→∀ x∈(nilCs n l).1,x.sc q
 | [],n,_,_,_,x,hx=>by cases hx
 | y :: l,n,hm,hq,hs,x,hx=>by
  simp only [nilCs] at hm hx
  cases hx with
  | head=>exact nilC_sc (Nat.le_trans (nilCs_le l _) hm) hq (hs y (by simp))
  | tail _ hx=>exact nilCs_sc hm (fun i h1 h2=>hq i (Nat.le_trans (nilC_le n y) h1) h2) (fun z hz=>hs z (by simp [hz])) x hx
theorem nilA1_sc {q:Nat→Prop} {n m:Nat} {x:S1} (hm:(nilA1 n x).2≤m) (hq:∀ i,n≤i→i < m→q i) (hs:x.sc q):(nilA1 n x).1.sc q:=by
 cases x with
 | c x=>exact nilC_sc hm hq hs
 | a l=>exact nilCs_sc hm hq hs
theorem nilA_sc {q:Nat→Prop} {m:Nat}:∀ {l:List S1} {n:Nat},(nilA n l).2≤m→(∀ i,n≤i→i < m→q i)→(∀ x∈l,x.sc q)→∀ x∈(nilA n l).1,x.sc q
 | [],n,_,_,_,x,hx=>by cases hx
 | y :: l,n,hm,hq,hs,x,hx=>by
  simp only [nilA] at hm hx
  cases hx with
  | head=>exact nilA1_sc (Nat.le_trans (nilA_le l _) hm) hq (hs y (by simp))
  | tail _ hx=>exact nilA_sc hm (fun i h1 h2=>hq i (Nat.le_trans (nilA1_le n y) h1) h2) (fun z hz=>hs z (by simp [hz])) x hx
theorem nilL_lk:∀ (k n i:Nat) (e:Ent),lk (nilL n k) i=some e→n≤i∧i < n+k∧e = .nils
 | 0,n,i,e,h=>by cases h
 | k+1,n,i,e,h=>by
  simp only [nilL,lk] at h
  split at h
  ·rename_i hh; cases h; exact ⟨by omega,by omega,rfl⟩
  ·obtain ⟨h1,h2,h3⟩:=nilL_lk k (n+1) i e h
   exact ⟨by omega,by omega,h3⟩
theorem upd_app (l m:List (Nat × Ent)) (E:Nat→Option Ent):upd (l++m) E=upd l (upd m E):=by
 funext i
 have:=lk_append l m i
 unfold upd at this ⊢
 rw [this]
 cases lk l i<;>rfl
theorem HeapRel.nils {E:Nat→Option Ent} {n k:Nat} (h:HeapRel base M r E w) (hE:∀ i e,E i=some e→i < n∧e.sc (upto n)):HeapRel base M (nilRho n (n+k) r) (upd (nilL n k) E) w:=by
 have hold:∀ i,i < n→nilRho n (n+k) r i=r i:=fun i hi=>if_neg (by omega)
 have hcase:∀ i e,upd (nilL n k) E i=some e→(e = .nils∧nilRho n (n+k) r i = .slice none 0 0)∨(E i=some e∧nilRho n (n+k) r i=r i):=by
  intro i e he
  unfold upd at he
  split at he
  ·rename_i x hx
   cases he
   obtain ⟨h1,h2,h3⟩:=nilL_lk k n i _ hx
   exact .inl ⟨h3,if_pos ⟨h1,h2⟩⟩
  ·exact .inr ⟨he,hold i (hE i e he).1⟩
 refine ⟨h.size,fun i=>?_,h.os,h.tape,h.output,h.frame,?_,?_,?_,?_⟩
 ·unfold nilRho; split
  ·rfl
  ·exact h.one i
 ·intro i e he
  rcases hcase i e he with ⟨rfl,h1⟩ | ⟨h1,h2⟩
  ·exact ⟨none,h1⟩
  ·rw [h2]
   exact Ent.rel_ext (m:=upto n) hold (hE i e h1).2 (h.ent i e h1)
 ·intro i j e e' hij he he' hm hl b hb hb'
  rcases hcase i e he with ⟨rfl,h1⟩ | ⟨h1,h2⟩
  ·cases hm
  ·rw [h2] at hb
   rcases hcase j e' he' with ⟨rfl,h1'⟩ | ⟨h1',h2'⟩
   ·rw [h1'] at hb'
    rcases hb' with hb' | hb'
    ·cases hb'
    ·exact hb'
   ·rw [h2'] at hb'
    exact h.apart i j e e' hij h1 h1' hm hl b hb hb'
 ·intro i e he hm b hb
  rcases hcase i e he with ⟨rfl,h1⟩ | ⟨h1,h2⟩
  ·cases hm
  ·rw [h2] at hb; exact h.mine i e h1 hm b hb
 ·intro i e he hl b hb
  rcases hcase i e he with ⟨rfl,h1⟩ | ⟨h1,h2⟩
  ·rw [h1] at hb
   rcases hb with hb | hb
   ·cases hb
   ·exact hb.elim
  ·rw [h2] at hb; exact h.src i e h1 hl b hb
theorem cok_nilG {f:Nat} {g:Con} (h:COk P f g):COk P f (nilG g):=by
 intro args E n hargs hE
 unfold nilG
 generalize hm:(nilA n args).2=m
 have hnm:n≤m:=by rw [← hm]; exact nilA_le args n
 have hk:n+(m - n)=m:=by omega
 have hargs':∀ q:Nat→Prop,(∀ x∈args,S1.sc q x)→(∀ i,n≤i→i < m→q i)→∀ x∈(nilA n args).1,S1.sc q x:=fun q h1 h2=>nilA_sc (by omega) h2 h1
 have hE':∀ q:Nat→Prop,(∀ i e,E i=some e→q i∧e.sc q)→(∀ i,n≤i→i < m→q i)→∀ i e,upd (nilL n (m - n)) E i=some e→q i∧e.sc q:=by
  intro q h1 h2 i e he
  unfold upd at he
  split at he
  ·rename_i x hx
   cases he
   obtain ⟨g1,g2,rfl⟩:=nilL_lk _ n i _ hx
   exact ⟨h2 i g1 (by omega),trivial⟩
  ·exact h1 i e he
 have key:=h (nilA n args).1 (upd (nilL n (m - n)) E) m
  (hargs' _ (fun x hx=>S1.sc_mono (upto_mono hnm) (hargs x hx)) (fun i _ hi=>hi))
  (hE' (upto m) (fun i e he=>⟨Nat.lt_of_lt_of_le (hE i e he).1 hnm,Ent.sc_mono (upto_mono hnm) (hE i e he).2⟩) (fun i _ hi=>hi))
 have hheap:∀ base M r w,HeapRel base M r E w→HeapRel base M (nilRho n m r) (upd (nilL n (m - n)) E) w:=by
  intro base M r w hh
  have:=hh.nils (k:=m - n) hE
  rwa [hk] at this
 have hden:∀ r,(nilA n args).1.map (S1.den (nilRho n m r))=args.map (S1.den r):=fun r=>nilA_den (Nat.le_refl _) (by omega) hargs
 have hnew:∀ (i:Nat) (e:Ent),upd (nilL n (m - n)) E i≠none→E i≠none∨(n≤i∧i < m):=by
  intro i e hi
  unfold upd at hi
  split at hi
  ·rename_i x hx
   obtain ⟨g1,g2,_⟩:=nilL_lk _ n i _ hx
   exact .inr ⟨g1,by omega⟩
  ·exact .inl hi
 cases hcr:g (nilA n args).1 (upd (nilL n (m - n)) E) m with
 | none=>exact trivial
 | some cr=>
  rw [hcr] at key
  cases cr with
  | q pre res=>
   obtain ⟨k1,k2⟩:=key
   intro hp
   refine ⟨hnm,fun q h1 h2 h3=>⟨k1 q (hargs' q h1 h3) (hE' q h2 h3),fun i e he=>?_⟩,fun i e he=>?_,fun base M r w hh=>?_⟩
   ·obtain ⟨g1,g2,rfl⟩:=nilL_lk _ n i _ he
    exact ⟨h3 i g1 (by omega),trivial⟩
   ·obtain ⟨g1,g2,rfl⟩:=nilL_lk _ n i _ he
    exact .inr ⟨g1,by omega⟩
   ·have:=k2 hp base M _ w (hheap base M r w hh)
    rw [hden r] at this
    refine this.mono ?_
    rintro e w' ⟨rfl,hb⟩
    exact ⟨nilRho n m r,fun i hi=>if_neg (by omega),rfl,(hheap base M r w hh).below hb⟩
  | e pre res ents next=>
   intro hp
   obtain ⟨k1,k2,k3,k4⟩:=key hp
   refine ⟨by omega,fun q h1 h2 h3=>?_,fun i e he=>?_,fun base M r w hh=>?_⟩
   ·have h3':∀ i,n≤i→i < m→q i:=fun i g1 g2=>h3 i g1 (by omega)
    obtain ⟨g1,g2⟩:=k2 q (hargs' q h1 h3') (hE' q h2 h3') (fun i g1 g2=>h3 i (by omega) g2)
    refine ⟨g1,fun i e he=>?_⟩
    rw [lk_append] at he
    unfold upd at he
    split at he
    ·rename_i x hx; cases he; exact g2 i _ hx
    ·obtain ⟨f1,f2,rfl⟩:=nilL_lk _ n i _ he
     exact ⟨h3' i f1 (by omega),trivial⟩
   ·rw [lk_append] at he
    unfold upd at he
    split at he
    ·rename_i x hx
     cases he
     rcases k3 i _ hx with g | g
     ·rcases hnew i e g with g | g
      ·exact .inl g
      ·exact .inr (by omega)
     ·exact .inr (by omega)
    ·obtain ⟨f1,f2,rfl⟩:=nilL_lk _ n i _ he
     exact .inr (by omega)
   ·have:=k4 base M _ w (hheap base M r w hh)
    rw [hden r] at this
    refine this.mono ?_
    rintro e w' ⟨r',g1,rfl,g2⟩
    refine ⟨r',fun i hi=>by rw [g1 i (by omega)]; exact if_neg (by omega),rfl,?_⟩
    rw [upd_app]; exact g2
  | d pre post res ents next=>
   intro hp
   obtain ⟨k1,k2,k3,k4⟩:=key hp
   refine ⟨by omega,fun G q h1 h2 h3=>?_,fun G i e he=>?_,fun base M r w hh=>?_⟩
   ·have h3':∀ i,n≤i→i < m→q i:=fun i g1 g2=>h3 i g1 (by omega)
    obtain ⟨g1,g2⟩:=k2 G q (hargs' q h1 h3') (hE' q h2 h3') (fun i g1 g2=>h3 i (by omega) g2)
    refine ⟨g1,fun i e he=>?_⟩
    rw [lk_append] at he
    unfold upd at he
    split at he
    ·rename_i x hx; cases he; exact g2 i _ hx
    ·obtain ⟨f1,f2,rfl⟩:=nilL_lk _ n i _ he
     exact ⟨h3' i f1 (by omega),trivial⟩
   ·rw [lk_append] at he
    unfold upd at he
    split at he
    ·rename_i x hx
     cases he
     rcases k3 G i _ hx with g | g
     ·rcases hnew i e g with g | g
      ·exact .inl g
      ·exact .inr (by omega)
     ·exact .inr (by omega)
    ·obtain ⟨f1,f2,rfl⟩:=nilL_lk _ n i _ he
     exact .inr (by omega)
   ·have:=k4 base M _ w (hheap base M r w hh)
    rw [hden r] at this
    refine this.mono ?_
    rintro e w' ⟨G,r',hpo,g1,rfl,g2⟩
    refine ⟨G,r',hpo,fun i hi=>by rw [g1 i (by omega)]; exact if_neg (by omega),rfl,?_⟩
    rw [upd_app]; exact g2
end
end Go.Sx
namespace Go.Sx
open Go.RowKit
def rowG {α:Type} (E:Enc α) (L:List α):Nat→Nat→Value:=fun a b=>vOf (rowF E L a b)
theorem rowG_v {α:Type} (E:Enc α) (L:List α) (a b:Nat):SC.v (rowG E L a b)=rowF E L a b:=by
 obtain ⟨v,h,_⟩:=rowF_flat (E:=E) L a b
 unfold rowG; rw [h]; rfl
theorem rowG_f {α:Type} (E:Enc α) (L:List α):vF (rowG E L)=rowF E L:=funext fun a=>funext fun b=>rowG_v E L a b
def inL {α:Type} (E:Enc α) (L:List α):Option (Nat × Nat × (Nat→Nat→Value)):=some (L.length,E.sz,rowG E L)
def decO {α:Type} (E:Enc α):Option (Nat × Nat × (Nat→Nat→Value))→List α
 | some (n,_,g)=>decL E n (fun a b=>.v (g a b))
 | none=>[]
theorem decO_in {α:Type} {E:Enc α} {L:List α} {x:Option (Nat × Nat × (Nat→Nat→Value))} (h:cEq x (inL E L)):decO E x=L:=by
 cases x with
 | none=>exact h.elim
 | some x=>
  obtain ⟨n,s,g⟩:=x
  obtain ⟨h1,h2,h3⟩:=h
  subst h1
  refine decL_eq rfl fun e j he hj=>?_
  have h4:s=E.sz:=h2.resolve_left (by omega)
  subst h4
  rw [← h3 e j he hj,rowG_v]
structure DEnc (α:Type) where
 sz:Nat
 cell:α→Nat→Option Value
 inr:α→Nat→Option (Nat × Nat × (Nat→Nat→Value))
 dflt:α
 dec:(Nat→Value)→(Nat→Option (Nat × Nat × (Nat→Nat→Value)))→α
 de:∀ x f c,(∀ j v,j < sz→cell x j=some v→f j=v)→(∀ j,j < sz→cEq (c j) (inr x j))→dec f c=x
section
variable {α:Type} (D:DEnc α)
def deepF (L:List α) (V:Nat→Nat→Value) (e j:Nat):Value:=match D.cell (L.getD e D.dflt) j with | some v=>v | none=>V e j
def deepC (L:List α) (e j:Nat):Option (Nat × Nat × (Nat→Nat→Value)):=D.inr (L.getD e D.dflt) j
def decD (n:Nat) (f:Nat→Nat→Value) (c:Nat→Nat→Option (Nat × Nat × (Nat→Nat→Value))):List α:=(List.range n).map fun e=>D.dec (f e) (c e)
def isD (n:Nat) (L:List α) (f:Nat→Nat→Value) (c:Nat→Nat→Option (Nat × Nat × (Nat→Nat→Value))):Prop :=
 n=L.length∧∀ e j,e < n→j < D.sz→(∀ v,D.cell (L.getD e D.dflt) j=some v→f e j=v)∧cEq (c e j) (D.inr (L.getD e D.dflt) j)
def isDeep (n sz:Nat) (f:Nat→Nat→Value) (c:Nat→Nat→Option (Nat × Nat × (Nat→Nat→Value))):Prop:=sz=D.sz∧isD D n (decD D n f c) f c
end
def rowD (k:Nat) (E:Nat→Option Ent) (i:Nat):Option (Nat × Nat × (Nat→Nat→Value) × (Nat→Nat→Option (Nat × Nat × (Nat→Nat→Value)))) :=
 match E i with
 | some (.deep _ n sz f c _)=>some (n,sz,f,c)
 | some .nils=>some (0,k,fun _ _=>.bool false,fun _ _=>none)
 | _=>none
section
variable {α:Type} {D:DEnc α}
theorem decD_len (n:Nat) (f:Nat→Nat→Value) (c:Nat→Nat→Option (Nat × Nat × (Nat→Nat→Value))):(decD D n f c).length=n:=by simp [decD]
theorem decD_is {n:Nat} {L:List α} {f:Nat→Nat→Value} {c:Nat→Nat→Option (Nat × Nat × (Nat→Nat→Value))} (h:isD D n L f c):decD D n f c=L:=by
 obtain ⟨h1,h2⟩:=h
 subst h1
 apply List.ext_getElem (by simp [decD])
 intro i g1 g2
 simp only [decD,List.getElem_map,List.getElem_range]
 refine D.de _ _ _ (fun j v hj hv=>(h2 i j g2 hj).1 v ?_) (fun j hj=>?_)
 ·rw [List.getD_eq_getElem?_getD,List.getElem?_eq_getElem g2]; exact hv
 ·have:=(h2 i j g2 hj).2
  rw [List.getD_eq_getElem?_getD,List.getElem?_eq_getElem g2] at this
  exact this
theorem isD_own (L:List α) (V:Nat→Nat→Value):isD D L.length L (deepF D L V) (deepC D L) :=
 ⟨rfl,fun e j he hj=>⟨fun v hv=>by unfold deepF; rw [hv],cEq_refl _⟩⟩
theorem isDeep_deep (L:List α) (V:Nat→Nat→Value) (sz:Nat):isDeep D L.length sz (deepF D L V) (deepC D L) ↔ sz=D.sz:=by
 unfold isDeep
 rw [decD_is (isD_own L V)]
 exact ⟨fun h=>h.1,fun h=>⟨h,isD_own L V⟩⟩
theorem decD_deep (L:List α) (V:Nat→Nat→Value):decD D L.length (deepF D L V) (deepC D L)=L:=decD_is (isD_own L V)
theorem isDeep_nil (sz:Nat) (f:Nat→Nat→Value) (c:Nat→Nat→Option (Nat × Nat × (Nat→Nat→Value))):isDeep D 0 sz f c ↔ sz=D.sz:=by
 unfold isDeep
 exact ⟨fun h=>h.1,fun h=>⟨h,rfl,fun e j he=>by omega⟩⟩
theorem decD_nil (f:Nat→Nat→Value) (c:Nat→Nat→Option (Nat × Nat × (Nat→Nat→Value))):decD D 0 f c=[]:=rfl
theorem isD_deepEq {n:Nat} {L:List α} {f:Nat→Nat→Value} {c:Nat→Nat→Option (Nat × Nat × (Nat→Nat→Value))} (h:isD D n L f c):deepEq n D.sz f c (deepF D L f) (deepC D L):=by
 intro e j he hj
 obtain ⟨h1,h2⟩:=h.2 e j he hj
 refine ⟨?_,h2⟩
 unfold deepF
 split
 ·rename_i v hv; exact (h1 v hv).symm
 ·rfl
theorem inE_deep {Et:Nat→Option Ent} {l n s:Nat} {f:Nat→Nat→Value} {c:Nat→Nat→Option (Nat × Nat × (Nat→Nat→Value))} {σ:Nat→Nat} (hl:rowD D.sz Et l=some (n,s,f,c)) (h:isDeep D n s f c) :
  ∃ e0,Et l=some e0∧leE (SC.ren σ) e0 (.deep none (decD D n f c).length D.sz (deepF D (decD D n f c) f) (deepC D (decD D n f c)) []):=by
 obtain ⟨rfl,h2⟩:=h
 unfold rowD at hl
 split at hl
 ·rename_i o n' sz' f' c' al he
  cases hl
  refine ⟨_,he,.inr rfl,(decD_len _ _ _).symm,rfl,?_,trivial,trivial⟩
  exact isD_deepEq h2
 ·rename_i he
  cases hl
  exact ⟨_,he,decD_len _ _ _,rfl⟩
 ·cases hl
theorem inE0_deep {k:Nat} {Et:Nat→Option Ent} {l n s:Nat} {f:Nat→Nat→Value} {c:Nat→Nat→Option (Nat × Nat × (Nat→Nat→Value))} (hl:rowD k Et l=some (n,s,f,c)):∃ e0,Et l=some e0:=by
 unfold rowD at hl
 split at hl
 ·rename_i he; exact ⟨_,he⟩
 ·rename_i he; exact ⟨_,he⟩
 ·cases hl
theorem lens_deep {k:Nat} {Et:Nat→Option Ent} {l n s:Nat} {f:Nat→Nat→Value} {c:Nat→Nat→Option (Nat × Nat × (Nat→Nat→Value))} (hL:Lens Et) (hl:rowD k Et l=some (n,s,f,c)):(decD D n f c).length≤9223372036854775807:=by
 rw [decD_len]
 unfold rowD at hl
 split at hl
 ·rename_i he; cases hl; exact hL _ _ he
 ·cases hl; omega
 ·cases hl
theorem deepEq_rfl (n sz:Nat) (f:Nat→Nat→Value) (c:Nat→Nat→Option (Nat × Nat × (Nat→Nat→Value))):deepEq n sz f c f c ↔ True:=iff_true_intro fun _ _ _ _=>⟨rfl,cEq_refl _⟩
end
structure ActL where
 turn:Int
 fwd:Int
 sT:Int
 sL:Int
 sX:Int
 sY:Int
 marks:List Int
 errs:List Int
structure EvtL where
 tick:Int
 turn:Int
 fwd:Int
 bump:Bool
 scan:List CC
def intV:Value→Int
 | .int _ n=>n
 | _=>0
def boolV:Value→Bool
 | .bool b=>b
 | _=>false
def eAct:DEnc ActL where
 sz:=8
 cell:=fun x j=>match j with
  | 0=>some (.int .i64 x.turn)
  | 1=>some (.int .i64 x.fwd)
  | 2=>some (.int .i64 x.sT)
  | 3=>some (.int .i64 x.sL)
  | 4=>some (.int .i64 x.sX)
  | 5=>some (.int .i64 x.sY)
  | _=>none
 inr:=fun x j=>match j with
  | 6=>inL eI x.marks
  | 7=>inL eI x.errs
  | _=>none
 dflt:=⟨0,0,0,0,0,0,[],[]⟩
 dec:=fun f c=>⟨intV (f 0),intV (f 1),intV (f 2),intV (f 3),intV (f 4),intV (f 5),decO eI (c 6),decO eI (c 7)⟩
 de:=by
  intro x f c h1 h2
  have a0:=h1 0 _ (by decide) rfl
  have a1:=h1 1 _ (by decide) rfl
  have a2:=h1 2 _ (by decide) rfl
  have a3:=h1 3 _ (by decide) rfl
  have a4:=h1 4 _ (by decide) rfl
  have a5:=h1 5 _ (by decide) rfl
  have a6:=decO_in (h2 6 (by decide))
  have a7:=decO_in (h2 7 (by decide))
  simp only [a0,a1,a2,a3,a4,a5,a6,a7,intV]
def eEvt:DEnc EvtL where
 sz:=5
 cell:=fun x j=>match j with
  | 0=>some (.int .i64 x.tick)
  | 1=>some (.int .i64 x.turn)
  | 2=>some (.int .i64 x.fwd)
  | 3=>some (.bool x.bump)
  | _=>none
 inr:=fun x j=>match j with
  | 4=>inL eC x.scan
  | _=>none
 dflt:=⟨0,0,0,false,[]⟩
 dec:=fun f c=>⟨intV (f 0),intV (f 1),intV (f 2),boolV (f 3),decO eC (c 4)⟩
 de:=by
  intro x f c h1 h2
  have a0:=h1 0 _ (by decide) rfl
  have a1:=h1 1 _ (by decide) rfl
  have a2:=h1 2 _ (by decide) rfl
  have a3:=h1 3 _ (by decide) rfl
  have a4:=decO_in (h2 4 (by decide))
  simp only [a0,a1,a2,a3,a4,intV,boolV]
theorem eAct_sz:eAct.sz=8:=rfl
theorem eEvt_sz:eEvt.sz=5:=rfl
section
variable (L:List ActL) (V:Nat→Nat→Value) (e:Nat)
theorem eAct_0:deepF eAct L V e 0 = .int .i64 (L.getD e eAct.dflt).turn:=rfl
theorem eAct_1:deepF eAct L V e 1 = .int .i64 (L.getD e eAct.dflt).fwd:=rfl
theorem eAct_2:deepF eAct L V e 2 = .int .i64 (L.getD e eAct.dflt).sT:=rfl
theorem eAct_3:deepF eAct L V e 3 = .int .i64 (L.getD e eAct.dflt).sL:=rfl
theorem eAct_4:deepF eAct L V e 4 = .int .i64 (L.getD e eAct.dflt).sX:=rfl
theorem eAct_5:deepF eAct L V e 5 = .int .i64 (L.getD e eAct.dflt).sY:=rfl
theorem eAct_6:deepC eAct L e 6=some ((L.getD e eAct.dflt).marks.length,1,rowG eI (L.getD e eAct.dflt).marks):=rfl
theorem eAct_7:deepC eAct L e 7=some ((L.getD e eAct.dflt).errs.length,1,rowG eI (L.getD e eAct.dflt).errs):=rfl
end
section
variable (L:List EvtL) (V:Nat→Nat→Value) (e:Nat)
theorem eEvt_0:deepF eEvt L V e 0 = .int .i64 (L.getD e eEvt.dflt).tick:=rfl
theorem eEvt_1:deepF eEvt L V e 1 = .int .i64 (L.getD e eEvt.dflt).turn:=rfl
theorem eEvt_2:deepF eEvt L V e 2 = .int .i64 (L.getD e eEvt.dflt).fwd:=rfl
theorem eEvt_3:deepF eEvt L V e 3 = .bool (L.getD e eEvt.dflt).bump:=rfl
theorem eEvt_4:deepC eEvt L e 4=some ((L.getD e eEvt.dflt).scan.length,2,rowG eC (L.getD e eEvt.dflt).scan):=rfl
end
attribute [push_cast] deepEq_rfl eAct_sz eEvt_sz eAct_0 eAct_1 eAct_2 eAct_3 eAct_4 eAct_5 eAct_6 eAct_7 eEvt_0 eEvt_1 eEvt_2 eEvt_3 eEvt_4 rowG_f isDeep_deep decD_deep isDeep_nil decD_nil rowD upd nilG nilA nilA1 nilCs nilC nilR nilL
end Go.Sx
namespace Go.Sx
open Go.ChangeShapes Go.WideShapes Go.ChangeAt Go.RowKit
section
variable {H:Type} {enc:TypeId × Value→H} {P:Program} {w:World} {base:Nat} {sp:Nat→Bool} {held:Bool}
theorem ro_rowIs {α:Type} {E:Enc α} {L:List α} {V:Value} (h:∀ r,(Ent.ro L.length E.sz (rowF E L)).rel r w V):rowIs w V L.length E.sz (rowG E L):=by
 obtain ⟨a,cap,h1,h2,h3,h4⟩:=h (fun _=>.bool true)
 refine ⟨a,cap,h1,h2,h3,fun hn=>?_⟩
 obtain ⟨b,o,k1,k2,k3⟩:=h4 hn
 refine ⟨b,o,k1,k2,fun e j he hj=>?_⟩
 rw [k3 e j he hj,← rowG_v]; rfl
def OnTo {α:Type} (D:DEnc α) (w:World) (x:α) (cs:List Value):Prop :=
 (∀ j v,j < D.sz→D.cell x j=some v→cs[j]?=some v)∧∀ j n s g,j < D.sz→D.inr x j=some (n,s,g)→∃ v,cs[j]?=some v∧rowIs w v n s g∧∀ b,blkOf v=some b→b < w.heap.size
theorem leaf_deep {α:Type} {D:DEnc α} {t e:TypeId} {c:Value} {ts:List TypeId} (hu:P.underlying t=some (.slice e)) (hts:lvT P 20 e=some ts) (hc:P.cellsOf e=D.sz) (hpos:0 < D.sz)
  (hsp:∀ b,sp b=true) (honto:∀ cs,leafOk enc P w base sp held ts cs→∃ x:α,OnTo D w x cs) (h:∃ fuel x,DataW.trod enc P w base sp held fuel t [c]=some x) :
  ∃ (L:List α) (V:Nat→Nat→Value),c.oneCell'=true∧(∀ r,(Ent.deep none L.length D.sz (deepF D L V) (deepC D L) []).rel r w c)∧∀ b,foot (.deep none L.length D.sz (deepF D L V) (deepC D L) []) c b→b < w.heap.size:=by
 obtain ⟨fuel,x,hx⟩:=h
 rcases Deep.open_slice hu hx with ⟨h1,_⟩ | ⟨a,len,cap,m,n,Dd,Pl,h1,hb,hl,hm,hmm,_,hel⟩
 ·cases h1
  refine ⟨[],fun _ _=>.bool false,rfl,fun r=>deep_nil,fun b hb=>?_⟩
  rcases hb with hb | hb
  ·cases hb
  ·exact (innerB_zero hb).elim
 ·cases h1
  have hcell:∀ i,i < m→∃ y:α,∃ cs',w.cells? base (a.add (i * P.cellsOf e)) (P.cellsOf e)=some cs'∧OnTo D w y cs':=by
   intro i hi
   obtain ⟨cs',h2,h3⟩:=hel i hi
   have hlen:=(World.cells?_some h2).2.1
   obtain ⟨y,hy⟩:=honto cs' (lvT_ok 20 e ts hts n cs' _ hlen h3)
   exact ⟨y,cs',h2,hy⟩
  have hlem:len≤m:=by rw [hmm]; split<;>omega
  have hlist:∀ k,k≤len→∃ L:List α,L.length=k∧∀ i (hi:i < L.length),∃ cs',w.cells? base (a.add (i * P.cellsOf e)) (P.cellsOf e)=some cs'∧OnTo D w L[i] cs':=by
   intro k
   induction k with
   | zero=>intro _; exact ⟨[],rfl,fun i hi=>by simp at hi⟩
   | succ k ih=>
    intro hk
    obtain ⟨L,h1,h3⟩:=ih (by omega)
    obtain ⟨y,cs',g2,g3⟩:=hcell k (by omega)
    refine ⟨L++[y],by simp [h1],fun i hi=>?_⟩
    by_cases hik:i < L.length
    ·rw [List.getElem_append_left hik]; exact h3 i hik
    ·simp only [List.length_append,List.length_singleton] at hi
     have:i=k:=by omega
     subst this
     rw [List.getElem_append_right (by omega)]
     simp only [h1,Nat.sub_self,List.getElem_cons_zero]
     exact ⟨cs',g2,g3⟩
  obtain ⟨L,hL1,hL3⟩:=hlist len (Nat.le_refl _)
  obtain ⟨V,hV⟩:∃ V:Nat→Nat→Value,∀ i,V i=fun j=>(w.cell? (a.add (i * D.sz+j))).getD (.bool false):=⟨_,fun _=>rfl⟩
  have hfact:∀ i,i < L.length→∀ j,j < D.sz→∃ v,w.cell? (a.add (i * D.sz+j))=some v∧deepF D L V i j=v∧∀ n s g,deepC D L i j=some (n,s,g)→rowIs w v n s g∧∀ b,blkOf v=some b→b < w.heap.size:=by
   intro i hi j hj
   obtain ⟨cs',g1,g2,g2'⟩:=hL3 i hi
   rw [hc] at g1
   obtain ⟨g3,g4,g5⟩:=World.cells?_some g1
   have hcj:=g5 j (by omega)
   rw [Deep.add_add,List.getElem?_eq_getElem (by omega)] at hcj
   have hget:L.getD i D.dflt=L[i]:=by rw [List.getD_eq_getElem?_getD,List.getElem?_eq_getElem hi]; rfl
   refine ⟨_,hcj,?_,fun n s g hin=>?_⟩
   ·unfold deepF
    rw [hget]
    split
    ·rename_i v hv
     have:=g2 j v hj hv
     rw [List.getElem?_eq_getElem (by omega)] at this
     exact (Option.some.inj this).symm
    ·rw [hV]
     simp only [hcj,Option.getD_some]
   ·unfold deepC at hin
    rw [hget] at hin
    obtain ⟨v,k1,k2,k3⟩:=g2' j n s g hj hin
    rw [List.getElem?_eq_getElem (by omega)] at k1
    cases k1
    exact ⟨k2,k3⟩
  have hplain:0 < len→∃ b o,a=⟨b,o,none⟩∧b < w.heap.size:=by
   intro h0
   obtain ⟨v,this,_⟩:=hfact 0 (by omega) 0 hpos
   simp only [Nat.zero_mul,Nat.zero_add,Addr.add,if_true] at this
   unfold World.cell? at this
   split at this
   ·rename_i c e' fr hb'
    split at this
    ·cases this
    ·rename_i hs
     obtain ⟨b,o,s⟩:=a
     simp only [Bool.not_eq_true,Option.isSome_eq_false_iff,Option.isNone_iff_eq_none] at hs
     simp only at hs hb'
     subst hs
     exact ⟨b,o,rfl,(Array.getElem?_eq_some_iff.1 hb').1⟩
   ·cases this
  refine ⟨L,V,rfl,fun r=>⟨⟨some a,cap,by rw [hL1],by omega,by simp [maxLen] at hm; omega,fun h0=>?_⟩,fun i j n' s' g hi hj hin=>?_,trivial⟩,fun b hb'=>?_⟩
  ·obtain ⟨b,o,rfl,hlt⟩:=hplain (by omega)
   refine ⟨b,o,rfl,hlt,fun i j hi hj=>?_⟩
   obtain ⟨v,k1,k2,_⟩:=hfact i hi j hj
   rw [Addr.add_plain] at k1
   rw [k1,k2]
  ·obtain ⟨v,k1,k2,k3⟩:=hfact i hi j hj
   rw [k2]
   exact (k3 n' s' g hin).1
  ·rcases hb' with hb' | ⟨i,j,hi,hj,hin,hbv⟩
   ·simp only [blkOf] at hb'
    split at hb'
    ·cases hb'
    ·cases hb'
     obtain ⟨y,cs',g2,g3⟩:=hcell 0 (by rw [hmm,hsp]; simp; omega)
     rw [hc] at g2
     obtain ⟨_,g4,g5⟩:=World.cells?_some g2
     have:=g5 0 (by omega)
     rw [List.getElem?_eq_getElem (by omega)] at this
     unfold World.cell? at this
     split at this
     ·rename_i c e' fr hb'
      have h2:=(Array.getElem?_eq_some_iff.1 hb').1
      simp only [Nat.zero_mul,Addr.add,if_true] at h2
      exact h2
     ·cases this
   ·obtain ⟨v,k1,k2,k3⟩:=hfact i hi j hj
    rw [k2] at hbv
    obtain ⟨⟨n',s',g⟩,hcc⟩:=Option.isSome_iff_exists.1 hin
    exact (k3 n' s' g hcc).2 b hbv
end
end Go.Sx
namespace Go.Sx
open Go.RowKit
section
variable {P:Program} {base:World} {M:Scp} {r r':Rho} {E E':Nat→Option Ent} {w w':World}
theorem HeapRel.redo (h:HeapRel base M r E w) (T:Nat→Prop) (hE:∀ k,¬ T k→E' k=E k) (hr:∀ k e,¬ T k→E k=some e→r' k=r k∧e.sc (fun i=>r' i=r i)) (h1:∀ i,(r' i).oneCell'=true)
  (hz:w.heap.size≤w'.heap.size) (ho:w'.os=w.os) (ht:w'.tape=w.tape) (hu:SameOut w w')
  (hw:∀ b,b < w.heap.size→(∀ i e,T i→E i=some e→e.mut=true→¬ wfoot e (r i) b)→w'.heap[b]?=w.heap[b]?)
  (hnew:∀ k e,T k→E' k=some e→e.rel r' w' (r' k))
  (hsrc:∀ k e,T k→E' k=some e→e.live=true→∀ b,foot e (r' k) b→(w.heap.size≤b∧b < w'.heap.size)∨∃ i e0,T i∧E i=some e0∧e0.live=true∧foot e0 (r i) b)
  (hmut:∀ k e,T k→E' k=some e→e.mut=true→∀ b,wfoot e (r' k) b→w.heap.size≤b∨∃ i e0,T i∧E i=some e0∧e0.mut=true∧wfoot e0 (r i) b)
  (hap:∀ k j e e',T k→T j→k≠j→E' k=some e→E' j=some e'→e.mut=true→e'.live=true→∀ b,wfoot e (r' k) b→¬ foot e' (r' j) b):HeapRel base M r' E' w':=by
 have hold:∀ k e,¬ T k→E' k=some e→E k=some e∧r' k=r k:=fun k e hk he=>by
  rw [hE k hk] at he; exact ⟨he,(hr k e hk he).1⟩
 refine ⟨Nat.le_trans h.size hz,h1,ho.trans h.os,ht.trans h.tape,hu.trans h.output,?_,?_,?_,?_,?_⟩
 ·intro b hb hM
  rw [hw b (Nat.lt_of_lt_of_le hb h.size) (fun i e _ he hm hf=>?_)]
  ·exact h.frame b hb hM
  ·rcases h.mine i e he hm b hf with g | g
   ·omega
   ·exact hM g
 ·intro k e he
  by_cases hk:T k
  ·exact hnew k e hk he
  ·obtain ⟨h2,h3⟩:=hold k e hk he
   rw [h3]
   refine Ent.rel_ext (m:=fun i=>r' i=r i) (fun _ g=>g) (hr k e hk h2).2 (Ent.rel_block hz (fun b hl hf hlt=>hw b hlt fun i e' hi he' hm hf'=>?_) (h.ent k e h2))
   exact h.apart i k e' e (by rintro rfl; exact hk hi) he' h2 hm hl b hf' hf
 ·intro k j e e' hkj he he' hm hl b hb hb'
  by_cases hk:T k
  ·by_cases hj:T j
   ·exact hap k j e e' hk hj hkj he he' hm hl b hb hb'
   ·obtain ⟨g1,g2⟩:=hold j e' hj he'
    rw [g2] at hb'
    rcases hmut k e hk he hm b hb with g | ⟨i,e0,hi,hi2,hm0,hf⟩
    ·have:=(h.src j e' g1 hl b hb').1; omega
    ·exact h.apart i j e0 e' (by rintro rfl; exact hj hi) hi2 g1 hm0 hl b hf hb'
  ·obtain ⟨g1,g2⟩:=hold k e hk he
   rw [g2] at hb
   by_cases hj:T j
   ·rcases hsrc j e' hj he' hl b hb' with g | ⟨i,e0,hi,hi2,hl0,hf⟩
    ·have:=(h.src k e g1 (Ent.mut_live hm) b (wfoot_foot hb)).1; omega
    ·exact h.apart k i e e0 (by rintro rfl; exact hk hi) g1 hi2 hm hl0 b hb hf
   ·obtain ⟨g3,g4⟩:=hold j e' hj he'
    rw [g4] at hb'
    exact h.apart k j e e' hkj g1 g3 hm hl b hb hb'
 ·intro k e he hm b hb
  by_cases hk:T k
  ·rcases hmut k e hk he hm b hb with g | ⟨i,e0,hi,hi2,hm0,hf⟩
   ·exact .inl (Nat.le_trans h.size g)
   ·exact h.mine i e0 hi2 hm0 b hf
  ·obtain ⟨g1,g2⟩:=hold k e hk he
   rw [g2] at hb
   exact h.mine k e g1 hm b hb
 ·intro k e he hl b hb
  by_cases hk:T k
  ·rcases hsrc k e hk he hl b hb with g | ⟨i,e0,hi,hi2,hl0,hf⟩
   ·exact ⟨g.2,.inl (Nat.le_trans h.size g.1)⟩
   ·obtain ⟨g1,g2⟩:=h.src i e0 hi2 hl0 b hf
    exact ⟨Nat.lt_of_lt_of_le g1 hz,g2⟩
  ·obtain ⟨g1,g2⟩:=hold k e hk he
   rw [g2] at hb
   obtain ⟨g3,g4⟩:=h.src k e g1 hl b hb
   exact ⟨Nat.lt_of_lt_of_le g3 hz,g4⟩
end
section
variable {P:Program} {w:World}
def mapT (P:Program) (t:TypeId):Option (Bool × Value) :=
 match P.underlying t with
 | some (.map kt e)=>match P.info? e with
  | some i=>match i.zero with
   | some z=>match keyXY P kt with
    | true=>some (true,z)
    | false=>match P.underlying kt with
     | some (.int .i64)=>some (false,z)
     | _=>none
   | none=>none
  | none=>none
 | _=>none
structure MapT (P:Program) (t:TypeId) (k:Bool) (z:Value) where
 kt:TypeId
 e:TypeId
 hu:P.underlying t=some (.map kt e)
 hz:∀ w,(zeroValue e).run P w = .ok z w
 hk:k=true→keyXY P kt=true
 hi:k=false→P.underlying kt=some (.int .i64)
theorem mapT_parts {t:TypeId} {k:Bool} {z:Value} (h:mapT P t=some (k,z)):Nonempty (MapT P t k z):=by
 unfold mapT at h
 split at h
 ·rename_i kt e hu
  split at h
  ·rename_i i hi
   split at h
   ·rename_i z' hz
    have hzv:∀ w,(zeroValue e).run P w = .ok z' w:=fun w=>by simp [zeroValue,run_typeInfo' hi,hz]
    split at h
    ·rename_i hk
     cases h
     exact ⟨⟨kt,e,hu,hzv,fun _=>hk,fun h=>by cases h⟩⟩
    ·split at h
     ·rename_i hk
      cases h
      exact ⟨⟨kt,e,hu,hzv,(fun h=>by cases h),fun _=>hk⟩⟩
     ·cases h
   ·cases h
  ·cases h
 ·cases h
theorem keyXY_parts {k : TypeId} (h : keyXY P k = true) : ∃ fs a b, P.underlying k = some (.struct fs) ∧ fs.toList = [a, b] ∧ a.name ≠ "_" ∧ b.name ≠ "_" ∧ a.offset = 0 ∧ b.offset = 1 ∧
    P.underlying a.type=some (.int .i64)∧P.underlying b.type=some (.int .i64)∧leaves P 20 k=some [.i .i64,.i .i64]:=by
  unfold keyXY at h
  split at h
  · rename_i fs hu
    split at h
    · rename_i a b hfs
      simp only [Bool.and_eq_true,bne_iff_ne,ne_eq,beq_iff_eq] at h
      obtain ⟨⟨⟨⟨⟨⟨h1,h2⟩,h3⟩,h4⟩,h5⟩,h6⟩,_⟩:=h
      refine ⟨fs,a,b,hu,hfs,h1,h2,h3,h4,?_⟩
      split at h5
      · rename_i g1 g2
        refine ⟨g1,g2,?_⟩
        cases hl:leaves P 20 k with
        | none=>rw [hl] at h6; cases h6
        | some ks=>
          rw [hl] at h6
          simpa using h6
      · cases h5
    · cases h
  · cases h
theorem run_key_eq {k:TypeId} (h:keyXY P k=true) (x y a b:Int) (w:World):(Op.equal k (dmK true x y) (dmK true a b)).run P w = .ok (decide (x=a) && decide (y=b)) w:=by
 obtain ⟨fs,_,_,hu,_,_,_,_,_,_,_,hl⟩:=keyXY_parts h
 have e:=leaves_eq (r:=fun _=>undef) (w:=w) 20 10000 k _ [.v (.int .i64 x),.v (.int .i64 y)] [.v (.int .i64 a),.v (.int .i64 b)] ((x == a) && ((y == b) && true)) hl (by omega) (by simp [eqCells,eqC])
 simp only [ofCells,hu,List.map_cons,List.map_nil,SC.den,Bool.and_true] at e
 exact e
theorem run_check_xy {k:TypeId} (h:keyXY P k=true) (em:Bool) (x y:Int) (w:World):(Instr.checkKey em 10000 k (dmK true x y)).run P w = .ok () w:=by
 obtain ⟨fs,a,b,hu,hfs,h1,h2,h3,h4,h5,h6,_⟩:=keyXY_parts h
 have c:∀ (t:TypeId) (n:Int) (d:Nat),P.underlying t=some (.int .i64)→(Instr.checkKey em (d+1) t (.int .i64 n)).run P w = .ok () w:=by
  intro t n d ht
  simp [Instr.checkKey,run_underlying ht]
 have p1:(part a.type #[Value.int .i64 x,Value.int .i64 y] a.offset).run P w = .ok (.int .i64 x) w:=run_part1 h5 rfl (by rw [h3]; rfl)
 have p2:(part b.type #[Value.int .i64 x,Value.int .i64 y] b.offset).run P w = .ok (.int .i64 y) w:=run_part1 h6 rfl (by rw [h4]; rfl)
 obtain rfl:fs=#[a,b]:=by
  apply Array.ext'
  rw [hfs]
 unfold Instr.checkKey dmK
 simp only [Sem.run_bind,run_underlying hu,Result.andThen_ok]
 simp [h1,h2,p1,p2,c,h5,h6]
theorem MapT.check {t:TypeId} {k:Bool} {z:Value} (h:MapT P t k z) (em:Bool) (x y:Int) (w:World):(Instr.checkKey em 10000 h.kt (dmK k x y)).run P w = .ok () w:=by
 cases k with
 | true=>exact run_check_xy (h.hk rfl) em x y w
 | false=>
  have c:∀ d:Nat,(Instr.checkKey em (d+1) h.kt (.int .i64 x)).run P w = .ok () w:=fun d=>by simp [Instr.checkKey,run_underlying (h.hi rfl)]
  exact c 9999
def sameDM (k:Bool) (d:DM) (x y:Int):Bool:=match k with
 | true=>decide (d.x=x) && decide (d.y=y)
 | false=>decide (d.x=x)
def findDM (k:Bool):List DM→Int→Int→Option DM
 | [],_,_=>none
 | d :: l,x,y=>if sameDM k d x y=true then some d else findDM k l x y
def idxDM (k:Bool):List DM→Int→Int→Nat
 | [],_,_=>0
 | d :: l,x,y=>if sameDM k d x y=true then 0 else idxDM k l x y+1
abbrev DRow:=Option (Option TypeId × Nat × Nat × (Nat→Nat→Value))
def updDM (k:Bool):List DM→Int→Int→Value→DRow→List DM
 | [],x,y,v,ro=>[⟨x,y,v,ro⟩]
 | d :: l,x,y,v,ro=>if sameDM k d x y=true then ⟨x,y,v,ro⟩ :: l else d :: updDM k l x y v ro
def putDM:List DM→Nat→Value→DRow→List DM
 | [],_,_,_=>[]
 | d :: l,0,v,ro=>⟨d.x,d.y,v,ro⟩ :: l
 | d :: l,n+1,v,ro=>d :: putDM l n v ro
def takDM:List DM→Nat→List DM
 | [],_=>[]
 | d :: l,0=>⟨d.x,d.y,d.val,none⟩ :: l
 | d :: l,n+1=>d :: takDM l n
def denDM (k:Bool) (l:List DM):List (Value × Value):=l.map fun d=>(dmK k d.x d.y,d.val)
theorem same_key {k:Bool} {d:DM} {x y:Int} (h:sameDM k d x y=true):dmK k d.x d.y=dmK k x y:=by
 cases k with
 | true=>simp only [sameDM,Bool.and_eq_true,decide_eq_true_eq] at h; rw [h.1,h.2]
 | false=>simp only [sameDM,decide_eq_true_eq] at h; rw [h]; rfl
def findI (k:Bool):List DM→Int→Int→Nat→Option (Nat × Value)
 | [],_,_,_=>none
 | d :: l,x,y,i=>if sameDM k d x y=true then some (i,d.val) else findI k l x y (i+1)
theorem findI_eq (k:Bool) (x y:Int):∀ (l:List DM) (i:Nat),findI k l x y i=(findDM k l x y).map fun d=>(i+idxDM k l x y,d.val)
 | [],i=>rfl
 | d :: l,i=>by
  simp only [findI,findDM,idxDM]
  split
  ·rfl
  ·rw [findI_eq k x y l (i+1)]
   cases findDM k l x y with
   | none=>rfl
   | some d=>simp only [Option.map_some]; congr 2; omega
theorem run_find1 {k:TypeId} (h:keyXY P k=true) (x y:Int) (w:World):∀ (l:List DM) (es:List MapEntry) (i:Nat),es.map (fun e=>(e.key,e.val))=denDM true l →
  (Instr.findAsking k (dmK true x y) es i).run P w = .ok (findI true l x y i) w
 | [],es,i,he=>by
  have:es=[]:=by simpa [denDM] using he
  subst this
  rfl
 | d :: l,[],i,he=>by simp [denDM] at he
 | d :: l,e :: es,i,he=>by
  simp only [List.map_cons,denDM,List.cons.injEq,Prod.mk.injEq] at he
  obtain ⟨⟨e1,e2⟩,e3⟩:=he
  have hk:(Op.equal k (dmK true x y) e.key).run P w = .ok (decide (x=d.x) && decide (y=d.y)) w:=by rw [e1]; exact run_key_eq h x y d.x d.y w
  simp only [Instr.findAsking,Sem.run_bind,hk,Result.andThen_ok,findI]
  have hsw:(decide (x=d.x) && decide (y=d.y))=sameDM true d x y:=by
   unfold sameDM
   rw [Bool.eq_iff_iff]
   simp only [Bool.and_eq_true,decide_eq_true_eq]
   exact ⟨fun g=>⟨g.1.symm,g.2.symm⟩,fun g=>⟨g.1.symm,g.2.symm⟩⟩
  rw [hsw]
  cases hs:sameDM true d x y with
  | true=>simp [e2]
  | false=>
   simp only [Bool.false_eq_true,if_false]
   exact run_find1 h x y w l es (i+1) e3
theorem findNow_eq (x y:Int):∀ (l:List DM) (es:List MapEntry) (i:Nat),es.map (fun e=>(e.key,e.val))=denDM false l →
  Instr.findNow (.int .i64) (dmK false x y) es i=some (findI false l x y i)
 | [],es,i,he=>by
  have:es=[]:=by simpa [denDM] using he
  subst this
  rfl
 | d :: l,[],i,he=>by simp [denDM] at he
 | d :: l,e :: es,i,he=>by
  simp only [List.map_cons,denDM,List.cons.injEq,Prod.mk.injEq] at he
  obtain ⟨⟨e1,e2⟩,e3⟩:=he
  have hs:Instr.sameNow (.int .i64) (dmK false x y) e.key=some (sameDM false d x y):=by
   rw [e1]
   show (if IntKind.i64=IntKind.i64 then some (x == d.x) else none)=_
   rw [if_pos rfl]
   unfold sameDM
   congr 1
   rw [Bool.eq_iff_iff]
   simp only [beq_iff_eq,decide_eq_true_eq]
   exact ⟨Eq.symm,Eq.symm⟩
  unfold Instr.findNow
  rw [hs]
  simp only [findI]
  cases hsd:sameDM false d x y with
  | true=>simp [e2]
  | false=>simp only [Bool.false_eq_true,if_false]; exact findNow_eq x y l es (i+1) e3
theorem MapT.find {t:TypeId} {k:Bool} {z:Value} (h:MapT P t k z) {l:List DM} {es:List MapEntry} (x y:Int) (w:World) (he:es.map (fun e=>(e.key,e.val))=denDM k l) :
  (Instr.findKey h.kt (dmK k x y) es).run P w = .ok (findI k l x y 0) w:=by
 cases k with
 | true=>
  rw [run_findKey_eq w (by obtain ⟨fs,_,_,hu,_⟩:=keyXY_parts (h.hk rfl); rw [hu])]
  exact run_find1 (h.hk rfl) x y w l es 0 he
 | false=>
  unfold Instr.findKey
  simp only [Sem.run_bind,run_underlying (h.hi rfl),Result.andThen_ok,findNow_eq x y l es 0 he,Sem.run_pure]
theorem same_dmK (k:Bool) (x y:Int):Instr.sameBits 10000 (dmK k x y) (dmK k x y)=true:=by
 cases k<;>simp [Instr.sameBits,dmK]
theorem denDM_len (k:Bool) (l:List DM):(denDM k l).length=l.length:=by simp [denDM]
theorem updDM_none {k:Bool} {x y:Int} {v:Value} {ro:DRow}:∀ {l:List DM},findDM k l x y=none→updDM k l x y v ro=l++[⟨x,y,v,ro⟩]∧idxDM k l x y=l.length
 | [],_=>⟨rfl,rfl⟩
 | d :: l,h=>by
  simp only [findDM] at h
  split at h
  ·cases h
  ·rename_i g
   obtain ⟨h1,h2⟩:=updDM_none (v:=v) (ro:=ro) (l:=l) h
   simp only [updDM,idxDM,if_neg g,h1,h2,List.cons_append,List.length_cons,and_self]
theorem findDM_at {k:Bool} {x y:Int}:∀ {l:List DM} {d:DM},findDM k l x y=some d→l[idxDM k l x y]?=some d∧sameDM k d x y=true∧idxDM k l x y < l.length
 | d0 :: l,d,h=>by
  simp only [findDM] at h
  split at h
  ·rename_i g
   cases h
   simp only [idxDM,if_pos g]
   exact ⟨rfl,g,by simp⟩
  ·rename_i g
   obtain ⟨h1,h2,h3⟩:=findDM_at h
   simp only [idxDM,if_neg g]
   exact ⟨by simpa using h1,h2,by simp; exact h3⟩
theorem findDM_mem {k:Bool} {x y:Int} {l:List DM} {d:DM} (h:findDM k l x y=some d):d∈l:=List.mem_of_getElem? (findDM_at h).1
theorem updDM_some {k:Bool} {x y:Int} {v:Value} {ro:DRow}:∀ {l:List DM} {d:DM},findDM k l x y=some d→updDM k l x y v ro=l.set (idxDM k l x y) ⟨x,y,v,ro⟩
 | d0 :: l,d,h=>by
  simp only [findDM] at h
  split at h
  ·rename_i g
   simp only [updDM,idxDM,if_pos g,List.set_cons_zero]
  ·rename_i g
   simp only [updDM,idxDM,if_neg g,List.set_cons_succ,updDM_some h]
theorem denDM_set {k:Bool} {l:List DM} {n:Nat} {d:DM}:denDM k (l.set n d)=(denDM k l).set n (dmK k d.x d.y,d.val):=by
 unfold denDM; rw [List.map_set]
end
end Go.Sx
namespace Go.Sx
open Go.RowKit
def cloV:List SC→Option (List Value)
 | []=>some []
 | .v x :: l=>match cloV l with
  | some xs=>some (x :: xs)
  | none=>none
 | _=>none
def valS:S1→Option Value
 | .c (.v x)=>some x
 | .c _=>none
 | .a cs=>match cloV cs with
  | some xs=>some (.agg xs.toArray)
  | none=>none
theorem cloV_den {r:Rho}:∀ {cs:List SC} {xs:List Value},cloV cs=some xs→cs.map (SC.den r)=xs
 | [],xs,h=>by cases h; rfl
 | .v x :: l,xs,h=>by
  simp only [cloV] at h
  split at h
  ·rename_i ys hy; cases h; simp only [List.map_cons,SC.den,cloV_den hy]
  ·cases h
 | .p _ _ :: _,_,h=>by cases h
 | .n _ :: _,_,h=>by cases h
 | .q _ _ _ _ :: _,_,h=>by cases h
 | .f _ _ :: _,_,h=>by cases h
theorem valS_den {r:Rho} {x:S1} {V:Value} (h:valS x=some V):x.den r=V:=by
 unfold valS at h
 split at h
 ·cases h; rfl
 ·cases h
 ·split at h
  ·rename_i xs hx; cases h; simp only [S1.den,cloV_den hx]
  ·cases h
def keyS1:Bool→S1→Option (Int × Int)
 | true,.a [.v (.int .i64 x),.v (.int .i64 y)]=>some (x,y)
 | false,.c (.v (.int .i64 x))=>some (x,0)
 | _,_=>none
theorem keyS1_den {r:Rho} {k:Bool} {x:S1} {a b:Int} (h:keyS1 k x=some (a,b)):x.den r=dmK k a b:=by
 unfold keyS1 at h
 split at h<;>cases h<;>rfl
def primK (t k:Nat) (args:List Value):Sem Next :=
 let v (s:Sem Value):Sem Next:=do pure (.value (← s))
 let u (s:Sem Unit):Sem Next:=do s; pure .skip
 match k,args with
 | 0,[m,k]=>v (Instr.lookup t m k true)
 | 1,[m,k]=>v (Instr.lookup t m k false)
 | 2,[m,k,x]=>u (Instr.mapUpdate t m k x)
 | 3,[]=>v (Instr.makeMap t none)
 | 4,[m,k]=>v (Instr.mapEntry t m k)
 | 5,[m,s,x]=>u (Instr.entryStore t m s x)
 | 6,[x]=>v (Instr.range t x)
 | 7,[it]=>v (Instr.next it false 0)
 | 8,[it]=>v (Instr.entry it)
 | _,_=>pure .skip
theorem primRun_of {f t k:Nat} (h1:(f - 1048576) / 16=t) (h2:(f - 1048576) % 16=k) (args:List Value):primRun f args=primK t k args:=by
 unfold primRun primK; rw [h1,h2]; rfl
theorem callX_of {f t k:Nat} (hv:isV f=true) (h1:(f - 1048576) / 16=t) (h2:(f - 1048576) % 16=k) (args:Array Value):callX f args=primK t k args.toList:=by
 unfold callX; rw [hv,primRun_of h1 h2]
theorem callX_vN {t k:Nat} (hk:k < 16) (args:Array Value):callX (vN t k) args=primK t k args.toList:=callX_of (isV_vN _ _) (vN_div hk).1 (vN_div hk).2 args
section
variable {P:Program} {base:World} {M:Scp} {r:Rho} {E:Nat→Option Ent} {w:World}
theorem upd_nil (E:Nat→Option Ent):upd [] E=E:=by funext i; rfl
theorem dm_obj {i:Nat} {k:Bool} {l:List DM} (h:HeapRel base M r E w) (hi:E i=some (.dm k l)):∃ b es clock,r i = .map (some b)∧w.heap[b]?=some (.map es clock)∧es.toList.map (fun e=>(e.key,e.val))=denDM k l∧BornOk es clock∧¬ dmB l b∧dmIs w l∧dmAp l∧es.size=l.length ∧
  (getObj b).run P w = .ok (.map es clock) w∧∀ ob:Obj,(setObj b ob).run P w = .ok () { w with heap:=w.heap.setIfInBounds b ob }:=by
 obtain ⟨⟨b,es,clock,g1,g2,g3,g4,g5⟩,g6,g7⟩:=h.ent i _ hi
 refine ⟨b,es,clock,g1,g2,g3,g4,g5,g6,g7,?_,by simp [getObj,Sem.run,g2],fun ob=>by simp [setObj,Sem.run,g2]⟩
 have:=congrArg List.length g3
 rw [List.length_map,List.length_map] at this
 simpa using this
def lookV (ok:Bool) (v:Value) (found:Bool):Value:=match ok with
 | true=>.tuple #[v,.bool found]
 | false=>v
def lookR (ok:Bool) (x:S1) (found:Bool):SV:=match ok with
 | true=>.t [x,.c (.v (.bool found))]
 | false=>.o x
theorem lookR_den {r:Rho} {ok:Bool} {x:S1} {b:Bool}:(lookR ok x b).den r=lookV ok (x.den r) b:=by cases ok<;>rfl
theorem lookR_sc {m:Nat→Prop} {ok:Bool} {x:S1} {b:Bool} (h:x.sc m):(lookR ok x b).sc m:=by
 cases ok
 ·exact h
 ·intro y hy
  simp only [List.mem_cons,List.not_mem_nil,or_false] at hy
  rcases hy with rfl | rfl
  ·exact h
  ·trivial
def lookCon (ok k:Bool) (z:Value):Con:=fun args E n=>match args with
 | [.c (.n i),kk]=>match keyS1 k kk with
  | some (x,y)=>match E i with
   | some (.dm k' l)=>match findDM k l x y with
    | none=>some (.e (k'=k) (lookR ok (constS z) false) [] n)
    | some d=>match d.row with
     | none=>some (.e (k'=k) (lookR ok (constS d.val) true) [] n)
     | some (none,m,sz,g)=>some (.e (k'=k) (lookR ok (.c (.n n)) true) [(n,.ro m sz (vF g))] (n+1))
     | some (some _,m,_,_)=>some (.e (k'=k) (lookR ok (.c (.n n)) true) [(n,.len m)] (n+1))
   | _=>none
  | none=>none
 | _=>none
theorem run_look {t:TypeId} {k ok:Bool} {z:Value} {l:List DM} {b clock:Nat} {es:Array MapEntry} (h:MapT P t k z) (hg:(getObj b).run P w = .ok (.map es clock) w)
  (he:es.toList.map (fun e=>(e.key,e.val))=denDM k l) (x y:Int) :
  (Instr.lookup t (.map (some b)) (dmK k x y) ok).run P w = .ok (match findDM k l x y with | some d=>lookV ok d.val true | none=>lookV ok z false) w:=by
 simp only [Instr.lookup,Sem.run_bind,run_underlying h.hu,Result.andThen_ok,hg,Sem.run_pure,h.check,h.find x y w he,findI_eq]
 cases findDM k l x y with
 | none=>cases ok<;>simp [h.hz,lookV]
 | some p=>cases ok<;>rfl
theorem row_slice {V:Value} {n sz:Nat} {g:Nat→Nat→Value} {o:Option TypeId} (h:dmRow w V n sz g o):∃ a cap,V = .slice a n cap∧n≤cap∧n≤9223372036854775807∧(0 < n→a≠none):=by
 cases o with
 | none=>obtain ⟨a,cap,h1,h2,h3,h4⟩:=h; exact ⟨a,cap,h1,h2,h3,fun h0=>by obtain ⟨b,o',rfl,_⟩:=h4 h0; simp⟩
 | some ty=>
  obtain ⟨h1,h2⟩:=h
  rcases h2 with ⟨b,o,cap,cur,h3,_,h4,_⟩ | ⟨a,h3,h4⟩
  ·exact ⟨_,cap,h3,h4,h1,fun _=>by simp⟩
  ·subst h4; exact ⟨a,0,h3,by omega,by omega,fun h=>by omega⟩
theorem lk_one1 {n:Nat} {x:Ent} {i:Nat} {e:Ent} (h:lk [(n,x)] i=some e):n=i∧x=e:=by
 simp only [lk] at h
 split at h
 ·rename_i g; cases h; exact ⟨g,rfl⟩
 ·cases h
theorem cok_lookA {t f:Nat} {k ok:Bool} {z:Value} (hm:mapT P t=some (k,z)) (hv:isV f=true) (hf:∀ m kk,callX f #[m,kk]=(do pure (.value (← Instr.lookup t m kk ok)))):COk P f (lookCon ok k z):=by
 obtain ⟨hT⟩:=mapT_parts hm
 intro args E n hargs hE
 unfold lookCon
 split
 ·rename_i i kk
  split
  ·rename_i x y hkey
   split
   ·rename_i k' l hEi
    have hin:=(hE i _ hEi).1
    have hrun:∀ {base M r w},HeapRel base M r E w→k'=k→(callX f ([S1.c (.n i),kk].map (S1.den r)).toArray).run P w = .ok (.value (match findDM k l x y with | some d=>lookV ok d.val true | none=>lookV ok z false)) w:=by
     intro base M r w hh hk
     subst hk
     obtain ⟨b,es,clock,g1,g2,g3,_,_,_,_,_,g4,_⟩:=dm_obj (P:=P) hh hEi
     show (callX f #[r i,kk.den r]).run P w=_
     rw [keyS1_den hkey,g1,hf]
     simp only [Sem.run_bind,run_look hT g4 g3,Result.andThen_ok,Sem.run_pure]
    split
    ·rename_i hfd
     intro hk
     refine ⟨Nat.le_refl _,fun m _ _ _=>⟨lookR_sc (constS_sc _ _),fun i e h=>by cases h⟩,(fun i e h=>by cases h),fun base M r w hh=>.inr ⟨_,_,w,hrun hh hk,.inl rfl,(fun h=>by rw [hv] at h; cases h),r,fun _ _=>rfl,?_,by rw [upd_nil]; exact hh⟩⟩
     rw [hfd]; simp only [lookR_den,constS_den]
    ·rename_i d hfd
     have hmem:=findDM_mem hfd
     split
     ·intro hk
      refine ⟨Nat.le_refl _,fun m _ _ _=>⟨lookR_sc (constS_sc _ _),fun i e h=>by cases h⟩,(fun i e h=>by cases h),fun base M r w hh=>.inr ⟨_,_,w,hrun hh hk,.inl rfl,(fun h=>by rw [hv] at h; cases h),r,fun _ _=>rfl,?_,by rw [upd_nil]; exact hh⟩⟩
      rw [hfd]; simp only [lookR_den,constS_den]
     ·rename_i m sz g hrow
      intro hk
      refine ⟨Nat.le_succ _,fun q _ _ h3=>⟨lookR_sc (h3 n (Nat.le_refl _) (Nat.lt_succ_self _)),fun j e h=>?_⟩,fun j e h=>?_,fun base M r w hh=>.inr ⟨_,_,w,hrun hh hk,.inl rfl,(fun h=>by rw [hv] at h; cases h),more r n d.val,fun j hj=>more_ne j (by omega),?_,?_⟩⟩
      ·obtain ⟨rfl,rfl⟩:=lk_one1 h; exact ⟨h3 _ (Nat.le_refl _) (Nat.lt_succ_self _),fun _ _=>trivial⟩
      ·obtain ⟨rfl,rfl⟩:=lk_one1 h; exact .inr ⟨Nat.le_refl _,Nat.lt_succ_self _⟩
      ·rw [hfd]; simp only [lookR_den,S1.den,SC.den,more_new]
      ·obtain ⟨b,es,clock,g1,g2,g3,g4,g5,g6,g7,_⟩:=dm_obj (P:=P) hh hEi
       have hrw:=g6 d hmem none m sz g hrow
       have hne:∀ j e,E j=some e→j≠n:=fun j e he=>by have:=(hE j e he).1; omega
       have hsc:∀ j e,E j=some e→e.sc (fun i=>more r n d.val i=r i):=fun j e he=>Ent.sc_mono (fun i hi=>more_ne i (Nat.ne_of_lt hi)) (hE j e he).2
       have h1:d.val.oneCell'=true:=by obtain ⟨a,cap,h1,_⟩:=hrw; rw [h1]; rfl
       have hbd:∀ b',blkOf d.val=some b'→dmB l b':=fun b' hb'=>⟨d,hmem,by rw [hrow]; rfl,hb'⟩
       have hdo:d.own=false:=by unfold DM.own; rw [hrow]
       have hcase:∀ j e,(j=i∨j=n)→upd [(n,Ent.ro m sz (vF g))] E j=some e→(j=i∧e = .dm k' l∧more r n d.val j=r i)∨(j=n∧e = .ro m sz (vF g)∧more r n d.val j=d.val):=by
        intro j e hj he
        rw [upd_one] at he
        rcases hj with rfl | rfl
        ·rw [if_neg (hne j _ hEi).symm,hEi] at he; cases he
         exact .inl ⟨rfl,rfl,more_ne j (hne j _ hEi)⟩
        ·rw [if_pos rfl] at he; cases he
         exact .inr ⟨rfl,rfl,more_new⟩
       refine hh.redo (fun j=>j=i∨j=n) (fun j hj=>by rw [upd_one,if_neg (fun h=>hj (.inr h.symm))]) (fun j e hj he=>⟨more_ne j (fun h=>hj (.inr h)),hsc j e he⟩) (more_one hh.one h1) (Nat.le_refl _) rfl rfl ⟨rfl,Nat.le_refl _⟩ (fun _ _ _=>rfl) ?_ ?_ ?_ ?_
       ·intro j e hj he
        rcases hcase j e hj he with ⟨rfl,rfl,h2⟩ | ⟨rfl,rfl,h2⟩
        ·rw [h2]; exact Ent.rel_ext (m:=fun i=>more r n d.val i=r i) (fun _ hi=>hi) (hsc j _ hEi) (hh.ent j _ hEi)
        ·rw [h2]
         obtain ⟨a,cap,p1,p2,p3,p4⟩:=hrw
         exact ⟨a,cap,p1,p2,p3,p4⟩
       ·intro j e hj he _ b' hb'
        rcases hcase j e hj he with ⟨rfl,rfl,h2⟩ | ⟨rfl,rfl,h2⟩
        ·rw [h2] at hb'; exact .inr ⟨j,_,.inl rfl,hEi,rfl,hb'⟩
        ·rw [h2] at hb'
         exact .inr ⟨i,_,.inl rfl,hEi,rfl,.inr (hbd b' (hb'.resolve_right fun h=>h))⟩
       ·intro j e hj he hm' b' hb'
        rcases hcase j e hj he with ⟨rfl,rfl,h2⟩ | ⟨rfl,rfl,h2⟩
        ·rw [h2] at hb'; exact .inr ⟨j,_,.inl rfl,hEi,rfl,hb'⟩
        ·cases hm'
       ·intro j j' e e' hj hj' hjj he he' hm' hl b' hb' hb2
        rcases hcase j e hj he with ⟨rfl,rfl,h2⟩ | ⟨rfl,rfl,h2⟩
        ·rcases hcase j' e' hj' he' with ⟨rfl,rfl,h3⟩ | ⟨rfl,rfl,h3⟩
         ·exact hjj rfl
         ·rw [h2] at hb'; rw [h3] at hb2
          have hb3:=hb2.resolve_right fun h=>h
          rcases hb' with hb' | ⟨d',hd',ho',hb'⟩
          ·rw [g1] at hb'; cases hb'; exact g5 (hbd _ hb3)
          ·obtain ⟨p,hp⟩:=List.getElem?_of_mem hd'
           obtain ⟨p',hp'⟩:=List.getElem?_of_mem hmem
           refine g7 p p' d' d b' hp hp' (fun h=>?_) ho' (by rw [hrow]; rfl) hb' hb3
           subst h
           rw [hp] at hp'; cases hp'
           rw [hdo] at ho'; cases ho'
        ·cases hm'
     ·rename_i ty m sz g hrow
      intro hk
      refine ⟨Nat.le_succ _,fun q _ _ h3=>⟨lookR_sc (h3 n (Nat.le_refl _) (Nat.lt_succ_self _)),fun j e h=>?_⟩,fun j e h=>?_,fun base M r w hh=>.inr ⟨_,_,w,hrun hh hk,.inl rfl,(fun h=>by rw [hv] at h; cases h),more r n d.val,fun j hj=>more_ne j (by omega),?_,?_⟩⟩
      ·obtain ⟨rfl,rfl⟩:=lk_one1 h; exact ⟨h3 _ (Nat.le_refl _) (Nat.lt_succ_self _),trivial⟩
      ·obtain ⟨rfl,rfl⟩:=lk_one1 h; exact .inr ⟨Nat.le_refl _,Nat.lt_succ_self _⟩
      ·rw [hfd]; simp only [lookR_den,S1.den,SC.den,more_new]
      ·obtain ⟨b,es,clock,g1,g2,g3,g4,g5,g6,g7,_⟩:=dm_obj (P:=P) hh hEi
       obtain ⟨a,cap,p1,p2,p3,p4⟩:=row_slice (g6 d hmem _ m sz g hrow)
       have h1:d.val.oneCell'=true:=by rw [p1]; rfl
       have hx:=hh.ext (r':=more r n d.val) (m:=fun j=>j≠n) (fun j e he=>⟨by have:=(hE j e he).1; omega,Ent.sc_mono (fun i hi=>Nat.ne_of_lt hi) (hE j e he).2⟩) (fun j hj=>more_ne j hj) (more_one hh.one h1)
       exact hx.weakL rfl (by rw [more_new]; exact ⟨a,cap,p1,p2,p3,p4⟩)
   ·trivial
  ·trivial
 ·trivial
theorem cok_look {t:Nat} {k:Bool} {z:Value} (hm:mapT P t=some (k,z)):COk P (vN t 1) (lookCon false k z) :=
 cok_lookA hm (isV_vN _ _) fun m kk=>callX_vN (by omega) #[m,kk]
theorem cok_lookO {t:Nat} {k:Bool} {z:Value} (hm:mapT P t=some (k,z)):COk P (vN t 0) (lookCon true k z) :=
 cok_lookA hm (isV_vN _ _) fun m kk=>callX_vN (by omega) #[m,kk]
end
end Go.Sx
namespace Go.Sx
open Go.RowKit
def clF (m sz:Nat) (f:Nat→Nat→SC):Prop:=∀ e j,e < m→j < sz→f e j = .v (vOf (f e j))
def unF (f:Nat→Nat→SC):Nat→Nat→Value:=fun e j=>vOf (f e j)
def Repl (l l':List DM) (p0:Nat) (d0:DM):Prop:=∀ p d,l'[p]?=some d→(p=p0∧d=d0)∨(p≠p0∧l[p]?=some d)
section
variable {l l':List DM} {p0:Nat} {d0:DM} {w:World}
theorem repl_set (l:List DM) (p0:Nat) (d0:DM):Repl l (l.set p0 d0) p0 d0:=by
 intro p d h
 rw [List.getElem?_set] at h
 split at h
 ·rename_i g
  subst g
  split at h
  ·cases h; exact .inl ⟨rfl,rfl⟩
  ·cases h
 ·rename_i g
  exact .inr ⟨fun e=>g e.symm,h⟩
theorem repl_app (l:List DM) (d0:DM):Repl l (l++[d0]) l.length d0:=by
 intro p d h
 rw [List.getElem?_append] at h
 split at h
 ·rename_i g
  exact .inr ⟨by omega,h⟩
 ·rename_i g
  rcases Nat.eq_or_lt_of_le (Nat.le_of_not_lt g) with g2 | g2
  ·rw [← g2,Nat.sub_self] at h
   cases h
   exact .inl ⟨g2.symm,rfl⟩
  ·rw [List.getElem?_eq_none (by simp; omega)] at h; cases h
theorem Repl.B (h:Repl l l' p0 d0) {b:Nat}:dmB l' b→dmB l b∨(d0.row.isSome=true∧blkOf d0.val=some b):=by
 rintro ⟨d,h1,h2,h3⟩
 obtain ⟨p,hp⟩:=List.getElem?_of_mem h1
 rcases h p d hp with ⟨_,rfl⟩ | ⟨_,g⟩
 ·exact .inr ⟨h2,h3⟩
 ·exact .inl ⟨d,List.mem_of_getElem? g,h2,h3⟩
theorem Repl.W (h:Repl l l' p0 d0) {b:Nat}:dmW l' b→dmW l b∨(d0.own=true∧blkOf d0.val=some b):=by
 rintro ⟨d,h1,h2,h3⟩
 obtain ⟨p,hp⟩:=List.getElem?_of_mem h1
 rcases h p d hp with ⟨_,rfl⟩ | ⟨_,g⟩
 ·exact .inr ⟨h2,h3⟩
 ·exact .inl ⟨d,List.mem_of_getElem? g,h2,h3⟩
theorem Repl.is (h:Repl l l' p0 d0) (hi:dmIs w l) (hd:∀ o n sz g,d0.row=some (o,n,sz,g)→dmRow w d0.val n sz g o):dmIs w l':=by
 intro d h1 o n sz g hr
 obtain ⟨p,hp⟩:=List.getElem?_of_mem h1
 rcases h p d hp with ⟨_,rfl⟩ | ⟨_,g2⟩
 ·exact hd o n sz g hr
 ·exact hi d (List.mem_of_getElem? g2) o n sz g hr
theorem Repl.ap (h:Repl l l' p0 d0) (hi:dmAp l) (hd:∀ b,d0.row.isSome=true→blkOf d0.val=some b→¬ dmB l b):dmAp l':=by
 intro p p' d d' b h1 h2 hne ho hs hb hb'
 rcases h p d h1 with ⟨rfl,rfl⟩ | ⟨_,g⟩
 ·rcases h p' d' h2 with ⟨rfl,rfl⟩ | ⟨_,g'⟩
  ·exact hne rfl
  ·exact hd b (DM.own_row ho) hb ⟨d',List.mem_of_getElem? g',hs,hb'⟩
 ·rcases h p' d' h2 with ⟨rfl,rfl⟩ | ⟨_,g'⟩
  ·exact hd b hs hb' ⟨d,List.mem_of_getElem? g,DM.own_row ho,hb⟩
  ·exact hi p p' d d' b g g' hne ho hs hb hb'
end
section
variable {P:Program} {base:World} {M:Scp} {r:Rho} {E:Nat→Option Ent} {w:World}
theorem scP_all {m:Nat→Prop} (h:∀ i,m i):∀ l:List CP,scP m l
 | []=>trivial
 | .v _ :: l=>⟨trivial,scP_all h l⟩
 | .p i _ :: l=>⟨h i,scP_all h l⟩
theorem SC.sc_all {m:Nat→Prop} (h:∀ i,m i):∀ x:SC,x.sc m
 | .v _=>trivial
 | .p i _=>h i
 | .n i=>h i
 | .q i _ _ _=>h i
 | .f _ cs=>scP_all h cs
theorem alSc_all {m:Nat→Prop} (h:∀ i,m i):∀ l:List (Nat × Nat × Nat),alSc m l
 | []=>trivial
 | (_,_,c) :: l=>⟨h c,alSc_all h l⟩
theorem Ent.sc_all {m:Nat→Prop} (h:∀ i,m i):∀ e:Ent,e.sc m
 | .box _ _=>fun x _=>x.sc_all h
 | .ro _ _ f=>fun e j=>(f e j).sc_all h
 | .own _ _ f _=>fun e j=>(f e j).sc_all h
 | .nils=>trivial
 | .dead=>trivial
 | .deep _ _ _ _ _ al=>alSc_all h al
 | .inn _ _ _ _=>trivial
 | .len _=>trivial
 | .als j _ _=>h j
 | .dm _ _=>trivial
 | .itr i _ _=>h i
 | .bx _ f _ _=>⟨fun j=>(f j).sc_all h,fun _ _ _ k _=>h k⟩
theorem dmIs_turn {w:World} {l:List DM} {b:Nat} (ob:Obj) (h:dmIs w l) (hb:¬ dmB l b):dmIs { w with heap:=w.heap.setIfInBounds b ob } l:=by
 intro d hd o n sz g hr
 refine dmRow_block (by simp) (fun b' hb' _=>?_) (h d hd o n sz g hr)
 have:b≠b':=by rintro rfl; exact hb ⟨d,hd,by rw [hr]; rfl,hb'⟩
 simp [this]
theorem HeapRel.dmSet {i b:Nat} {k:Bool} {l l':List DM} {p0:Nat} {d0:DM} {es':Array MapEntry} {clock':Nat} (h:HeapRel base M r E w) (hi:E i=some (.dm k l)) (hb:r i = .map (some b)) (hrep:Repl l l' p0 d0)
  (he:es'.toList.map (fun e=>(e.key,e.val))=denDM k l') (hborn:BornOk es' clock') (hrow:d0.row=none):HeapRel base M r (upd [(i,.dm k l')] E) { w with heap:=w.heap.setIfInBounds b (.map es' clock') }:=by
 obtain ⟨⟨b',es,clock,g1,g2,g3,g4,g5⟩,g6,g7⟩:=h.ent i _ hi
 rw [hb] at g1; cases g1
 have hlt:b < w.heap.size:=(Array.getElem?_eq_some_iff.1 g2).1
 have hB:∀ b',dmB l' b'→dmB l b':=fun b' hd=>(hrep.B hd).resolve_right fun h=>by rw [hrow] at h; cases h.1
 have hW:∀ b',dmW l' b'→dmW l b':=fun b' hd=>(hrep.W hd).resolve_right fun h=>by have:=DM.own_row h.1; rw [hrow] at this; cases this
 have hrel:(Ent.dm k l').rel r { w with heap:=w.heap.setIfInBounds b (.map es' clock') } (r i) :=
  ⟨⟨b,es',clock',hb,by simp [hlt],he,hborn,fun hh=>g5 (hB b hh)⟩,hrep.is (dmIs_turn _ g6 g5) (fun o n sz g hr=>by rw [hrow] at hr; cases hr),hrep.ap g7 (fun _ hs=>by rw [hrow] at hs; cases hs)⟩
 have hcase:∀ j e,j=i→upd [(i,Ent.dm k l')] E j=some e→e = .dm k l':=by
  rintro j e rfl he; rw [upd_one,if_pos rfl] at he; cases he; rfl
 refine h.redo (fun j=>j=i) (fun j hj=>by rw [upd_one,if_neg (fun g=>hj g.symm)]) (fun j e _ he=>⟨rfl,Ent.sc_all (fun _=>rfl) e⟩) h.one (by simp) rfl rfl ⟨rfl,Nat.le_refl _⟩ ?_ ?_ ?_ ?_ ?_
 ·intro b' hb' hn
  have:b≠b':=by rintro rfl; exact hn i _ rfl hi rfl (.inl (by rw [hb]; rfl))
  simp [this]
 ·intro j e hj he
  rw [hcase j e hj he,show j=i from hj]; exact hrel
 ·intro j e hj he _ b' hf
  rw [hcase j e hj he,show j=i from hj] at hf
  exact .inr ⟨i,_,rfl,hi,rfl,hf.imp id (hB b')⟩
 ·intro j e hj he _ b' hf
  rw [hcase j e hj he,show j=i from hj] at hf
  exact .inr ⟨i,_,rfl,hi,rfl,hf.imp id (hW b')⟩
 ·intro j j' e e' hj hj' hne
  exact absurd ((show j=i from hj).trans (show j'=i from hj').symm) hne
theorem HeapRel.dmSetJ {i j b m sz:Nat} {k:Bool} {l l':List DM} {p0:Nat} {d0:DM} {es':Array MapEntry} {clock':Nat} {f:Nat→Nat→SC} {ty:TypeId} {o:Option TypeId} (h:HeapRel base M r E w) (hi:E i=some (.dm k l)) (hj:E j=some (.own m sz f ty)) (hb:r i = .map (some b)) (hrep:Repl l l' p0 d0)
  (he:es'.toList.map (fun e=>(e.key,e.val))=denDM k l') (hborn:BornOk es' clock') (hv:d0.val=r j) (hrow:d0.row=some (o,m,sz,unF f)) (ho:o=none∨o=some ty) (hcl:clF m sz f) :
  HeapRel base M r (upd [(i,.dm k l'),(j,.dead)] E) { w with heap:=w.heap.setIfInBounds b (.map es' clock') }:=by
 obtain ⟨⟨b',es,clock,g1,g2,g3,g4,g5⟩,g6,g7⟩:=h.ent i _ hi
 rw [hb] at g1; cases g1
 have hlt:b < w.heap.size:=(Array.getElem?_eq_some_iff.1 g2).1
 have hij:i≠j:=by rintro rfl; rw [hi] at hj; cases hj
 have hB:∀ b',dmB l' b'→dmB l b'∨blkOf (r j)=some b':=fun b' hd=>(hrep.B hd).imp id fun h=>by rw [← hv]; exact h.2
 have hW:∀ b',dmW l' b'→dmW l b'∨blkOf (r j)=some b':=fun b' hd=>(hrep.W hd).imp id fun h=>by rw [← hv]; exact h.2
 have hjb:∀ b',blkOf (r j)=some b'→b'≠b∧¬ dmB l b':=fun b' hb'=>
  ⟨fun g=>h.apart j i _ _ (Ne.symm hij) hj hi rfl rfl b' (.inl hb') (.inl (by rw [hb,g]; rfl)),fun g=>h.apart j i _ _ (Ne.symm hij) hj hi rfl rfl b' (.inl hb') (.inr g)⟩
 have hown:ownIs w (r j) m sz (unF f) ty:=by
  obtain ⟨q1,q2⟩:=h.ent j _ hj
  refine ⟨q1,q2.imp ?_ id⟩
  rintro ⟨b1,o1,cap,cur,q3,q4,q5,q6,q7,q8⟩
  refine ⟨b1,o1,cap,cur,q3,q4,q5,q6,q7,fun e jj he hjj=>?_⟩
  have:=q8 e jj he hjj
  rw [hcl e jj he hjj] at this
  exact this
 have hown':dmRow { w with heap:=w.heap.setIfInBounds b (.map es' clock') } (r j) m sz (unF f) o:=by
  refine dmRow_block (w:=w) (by simp) (fun b' hb' _=>?_) (by rcases ho with rfl | rfl; exact own_to_row hown; exact hown)
  have:b≠b':=fun g=>(hjb b' hb').1 g.symm
  simp [this]
 have hrel:(Ent.dm k l').rel r { w with heap:=w.heap.setIfInBounds b (.map es' clock') } (r i) :=
  ⟨⟨b,es',clock',hb,by simp [hlt],he,hborn,fun hh=>(hB b hh).elim g5 fun g=>(hjb b g).1 rfl⟩,
   hrep.is (dmIs_turn _ g6 g5) (fun o' n' sz' g' hr=>by rw [hrow] at hr; cases hr; rw [hv]; exact hown'),hrep.ap g7 (fun b' _ hb'=>by rw [hv] at hb'; exact (hjb b' hb').2)⟩
 have hcase:∀ q e,(q=i∨q=j)→upd [(i,Ent.dm k l'),(j,.dead)] E q=some e→(q=i∧e = .dm k l')∨(q=j∧e = .dead):=by
  intro q e hq he
  rw [upd_two] at he
  rcases hq with rfl | rfl
  ·rw [if_pos rfl] at he; cases he; exact .inl ⟨rfl,rfl⟩
  ·rw [if_neg hij,if_pos rfl] at he; cases he; exact .inr ⟨rfl,rfl⟩
 refine h.redo (fun q=>q=i∨q=j) (fun q hq=>by rw [upd_two,if_neg (fun g=>hq (.inl g.symm)),if_neg (fun g=>hq (.inr g.symm))]) (fun q e _ he=>⟨rfl,Ent.sc_all (fun _=>rfl) e⟩) h.one (by simp) rfl rfl ⟨rfl,Nat.le_refl _⟩ ?_ ?_ ?_ ?_ ?_
 ·intro b' hb' hn
  have:b≠b':=by rintro rfl; exact hn i _ (.inl rfl) hi rfl (.inl (by rw [hb]; rfl))
  simp [this]
 ·intro q e hq he
  rcases hcase q e hq he with ⟨rfl,rfl⟩ | ⟨rfl,rfl⟩
  ·exact hrel
  ·trivial
 ·intro q e hq he hl b' hf
  rcases hcase q e hq he with ⟨rfl,rfl⟩ | ⟨rfl,rfl⟩
  ·rcases hf with hf | hf
   ·exact .inr ⟨q,_,.inl rfl,hi,rfl,.inl hf⟩
   ·rcases hB b' hf with g | g
    ·exact .inr ⟨q,_,.inl rfl,hi,rfl,.inr g⟩
    ·exact .inr ⟨j,_,.inr rfl,hj,rfl,.inl g⟩
  ·cases hl
 ·intro q e hq he hm b' hf
  rcases hcase q e hq he with ⟨rfl,rfl⟩ | ⟨rfl,rfl⟩
  ·rcases hf with hf | hf
   ·exact .inr ⟨q,_,.inl rfl,hi,rfl,.inl hf⟩
   ·rcases hW b' hf with g | g
    ·exact .inr ⟨q,_,.inl rfl,hi,rfl,.inr g⟩
    ·exact .inr ⟨j,_,.inr rfl,hj,rfl,.inl g⟩
  ·cases hm
 ·intro q q' e e' hq hq' hne he he' hm hl b' _ _
  rcases hcase q e hq he with ⟨rfl,rfl⟩ | ⟨rfl,rfl⟩
  ·rcases hcase q' e' hq' he' with ⟨rfl,rfl⟩ | ⟨rfl,rfl⟩
   ·exact hne rfl
   ·cases hl
  ·cases hm
end
end Go.Sx
namespace Go.Sx
open Go.RowKit
theorem born_push {es:Array MapEntry} {clock:Nat} {e:MapEntry} (h:BornOk es clock) (he:e.born=clock):BornOk (es.push e) (clock+1):=by
 obtain ⟨h1,h2⟩:=h
 refine ⟨by simp [h1],fun i x hx=>?_⟩
 rw [Array.getElem?_push] at hx
 split at hx
 ·rename_i g
  cases hx
  omega
 ·exact h2 i x hx
theorem born_modify {es:Array MapEntry} {clock n:Nat} {f:MapEntry→MapEntry} (h:BornOk es clock) (hf:∀ e,(f e).born=e.born):BornOk (es.modify n f) clock:=by
 obtain ⟨h1,h2⟩:=h
 refine ⟨by simp [h1],fun i x hx=>?_⟩
 rw [Array.getElem?_modify] at hx
 split at hx
 ·cases he:es[i]? with
  | none=>rw [he] at hx; cases hx
  | some e=>
   rw [he] at hx
   cases hx
   rw [hf]; exact h2 i e he
 ·exact h2 i x hx
theorem modify_set {es:List MapEntry} {p:Nat} {f:MapEntry→MapEntry} {e0:MapEntry} (h:es[p]?=some e0):es.modify p f=es.set p (f e0):=by
 apply List.ext_getElem?
 intro i
 rw [List.getElem?_modify,List.getElem?_set]
 have hlt:p < es.length:=(List.getElem?_eq_some_iff.1 h).1
 by_cases g:p=i
 ·subst g; rw [h]; simp [hlt]
 ·rw [if_neg g]; simp [g]
section
variable {P:Program} {base:World} {M:Scp} {r:Rho} {E:Nat→Option Ent} {w:World}
theorem found_at {k:Bool} {l:List DM} {es:Array MapEntry} {x y:Int} {d:DM} (he:es.toList.map (fun e=>(e.key,e.val))=denDM k l) (h:findDM k l x y=some d) :
  ∃ e0,es[idxDM k l x y]?=some e0∧e0.key=dmK k x y∧e0.val=d.val:=by
 obtain ⟨h1,h2,h3⟩:=findDM_at h
 have hl:es.toList.length=l.length:=by have:=congrArg List.length he; rwa [List.length_map,denDM_len] at this
 have hlt:idxDM k l x y < es.toList.length:=by omega
 have h4:=congrArg (fun q=>q[idxDM k l x y]?) he
 simp only [denDM,List.getElem?_map,h1,List.getElem?_eq_getElem hlt,Option.map_some,Option.some.injEq,Prod.mk.injEq] at h4
 refine ⟨es.toList[idxDM k l x y],by rw [← Array.getElem?_toList]; exact List.getElem?_eq_getElem hlt,?_,h4.2⟩
 rw [h4.1]; exact same_key h2
theorem run_upd {t:TypeId} {k:Bool} {z:Value} {l:List DM} {b clock:Nat} {es:Array MapEntry} (h:MapT P t k z) (hg:(getObj b).run P w = .ok (.map es clock) w)
  (hs:∀ ob:Obj,(setObj b ob).run P w = .ok () { w with heap:=w.heap.setIfInBounds b ob }) (he:es.toList.map (fun e=>(e.key,e.val))=denDM k l) (hb:BornOk es clock) (x y:Int) (V:Value) (ro:DRow) :
  ∃ es' clock',(Instr.mapUpdate t (.map (some b)) (dmK k x y) V).run P w = .ok () { w with heap:=w.heap.setIfInBounds b (.map es' clock') }∧es'.toList.map (fun e=>(e.key,e.val))=denDM k (updDM k l x y V ro)∧BornOk es' clock':=by
 simp only [Instr.mapUpdate,Sem.run_bind,run_underlying h.hu,Result.andThen_ok,hg,h.check,h.find x y w he,findI_eq]
 cases hf:findDM k l x y with
 | none=>
  refine ⟨es.push { key:=dmK k x y,val:=V,born:=clock },clock+1,?_,?_,born_push hb rfl⟩
  ·simp only [Option.map_none,hs]
  ·rw [Array.toList_push,List.map_append,he,(updDM_none hf).1]; simp [denDM]
 | some d=>
  obtain ⟨e0,h1,h2,h3⟩:=found_at he hf
  refine ⟨es.modify (idxDM k l x y) fun e=>{ e with key:=dmK k x y,val:=V },clock,?_,?_,born_modify hb fun _=>rfl⟩
  ·simp only [Option.map_some,Nat.zero_add,Sem.run_bind,h1,Option.getD_some,h2,Instr.keyThatStays,same_dmK,if_true,Sem.run_pure,Result.andThen_ok,hs]
  ·rw [Array.toList_modify,modify_set (e0:=e0) (by rw [Array.getElem?_toList]; exact h1),List.map_set,he,updDM_some hf,denDM_set]
theorem updDM_repl {k:Bool} {l:List DM} {x y:Int} {V:Value} {ro:DRow}:∃ p0,Repl l (updDM k l x y V ro) p0 ⟨x,y,V,ro⟩:=by
 cases hf:findDM k l x y with
 | none=>exact ⟨_,by rw [(updDM_none hf).1]; exact repl_app _ _⟩
 | some d=>exact ⟨_,by rw [updDM_some hf]; exact repl_set _ _ _⟩
def updCon (k:Bool):Con:=fun args E n=>match args with
 | [.c (.n i),kk,v]=>match keyS1 k kk with
  | some (x,y)=>match E i with
   | some (.dm k' l)=>match valS v with
    | some V=>some (.e (k'=k) (.t []) [(i,.dm k' (updDM k l x y V none))] n)
    | none=>match v with
     | .c (.n j)=>match E j with
      | some (.own m sz f _)=>some (.d (k'=k∧clF m sz f) (fun _=>True) (fun _=>.t []) (fun G=>[(i,.dm k' (updDM k l x y (G 0 0) (some (none,m,sz,unF f)))),(j,.dead)]) n)
      | _=>none
     | _=>none
   | _=>none
  | none=>none
 | _=>none
theorem lk_two2 {i j:Nat} {x y:Ent} {q:Nat} {e:Ent} (h:lk [(i,x),(j,y)] q=some e):(i=q∧x=e)∨(j=q∧y=e):=by
 simp only [lk] at h
 split at h
 ·rename_i g; cases h; exact .inl ⟨g,rfl⟩
 ·split at h
  ·rename_i g; cases h; exact .inr ⟨g,rfl⟩
  ·cases h
theorem tNil_sc {m:Nat→Prop}:SV.sc m (.t []):=fun x hx=>by cases hx
theorem cok_upd {t:Nat} {k:Bool} {z:Value} (hm:mapT P t=some (k,z)):COk P (vN t 2) (updCon k):=by
 obtain ⟨hT⟩:=mapT_parts hm
 intro args E n hargs hE
 unfold updCon
 split
 ·rename_i i kk v
  split
  ·rename_i x y hkey
   split
   ·rename_i k' l hEi
    have hin:=(hE i _ hEi).1
    split
    ·rename_i V hV
     intro hk
     subst hk
     refine ⟨Nat.le_refl _,fun q _ hq _=>⟨tNil_sc,fun j e h=>?_⟩,fun j e h=>?_,fun base M r w hh=>?_⟩
     ·obtain ⟨rfl,rfl⟩:=lk_one1 h; exact ⟨(hq _ _ hEi).1,trivial⟩
     ·obtain ⟨rfl,rfl⟩:=lk_one1 h; exact .inl (by rw [hEi]; simp)
     ·obtain ⟨b,es,clock,g1,g2,g3,g4,g5,g6,g7,_,g8,g9⟩:=dm_obj (P:=P) hh hEi
      obtain ⟨es',clock',h1,h2,h3⟩:=run_upd (P:=P) hT g8 g9 g3 g4 x y V none
      obtain ⟨p0,hrep⟩:=updDM_repl (k:=k') (l:=l) (x:=x) (y:=y) (V:=V) (ro:=none)
      refine .inr ⟨.tuple #[],.skip,{ w with heap:=w.heap.setIfInBounds b (.map es' clock') },?_,.inr ⟨rfl,rfl⟩,(fun h=>by rw [isV_vN] at h; cases h),r,fun _ _=>rfl,rfl,hh.dmSet hEi g1 hrep h2 h3 rfl⟩
      show (callX (vN t 2) #[r i,kk.den r,v.den r]).run P w=_
      rw [callX_vN (by omega),keyS1_den hkey,valS_den hV,g1]
      show (do Instr.mapUpdate t (.map (some b)) (dmK k' x y) V; pure .skip:Sem Next).run P w=_
      simp only [Sem.run_bind,h1,Result.andThen_ok,Sem.run_pure]
    ·rename_i v0 hvn
     split
     ·rename_i j
      split
      ·rename_i m sz f ty hEj
       rintro ⟨hk,hcl⟩
       subst hk
       have hij:i≠j:=by rintro rfl; rw [hEi] at hEj; cases hEj
       refine ⟨Nat.le_refl _,fun G q _ hq _=>⟨tNil_sc,fun p e h=>?_⟩,fun G p e h=>?_,fun base M r w hh=>?_⟩
       ·rcases lk_two2 h with ⟨rfl,rfl⟩ | ⟨rfl,rfl⟩
        ·exact ⟨(hq _ _ hEi).1,trivial⟩
        ·exact ⟨(hq _ _ hEj).1,trivial⟩
       ·rcases lk_two2 h with ⟨rfl,rfl⟩ | ⟨rfl,rfl⟩
        ·exact .inl (by rw [hEi]; simp)
        ·exact .inl (by rw [hEj]; simp)
       ·obtain ⟨b,es,clock,g1,g2,g3,g4,g5,g6,g7,_,g8,g9⟩:=dm_obj (P:=P) hh hEi
        obtain ⟨es',clock',h1,h2,h3⟩:=run_upd (P:=P) hT g8 g9 g3 g4 x y (r j) (some (none,m,sz,unF f))
        obtain ⟨p0,hrep⟩:=updDM_repl (k:=k') (l:=l) (x:=x) (y:=y) (V:=r j) (ro:=some (none,m,sz,unF f))
        refine .inr ⟨.tuple #[],.skip,{ w with heap:=w.heap.setIfInBounds b (.map es' clock') },?_,.inr ⟨rfl,rfl⟩,(fun h=>by rw [isV_vN] at h; cases h),fun _ _=>r j,r,trivial,fun _ _=>rfl,rfl,hh.dmSetJ hEi hEj g1 hrep h2 h3 rfl rfl (.inl rfl) hcl⟩
        show (callX (vN t 2) #[r i,kk.den r,r j]).run P w=_
        rw [callX_vN (by omega),keyS1_den hkey,g1]
        show (do Instr.mapUpdate t (.map (some b)) (dmK k' x y) (r j); pure .skip:Sem Next).run P w=_
        simp only [Sem.run_bind,h1,Result.andThen_ok,Sem.run_pure]
      ·trivial
     ·trivial
   ·trivial
  ·trivial
 ·trivial
def mkmCon (k:Bool):Con:=fun args E n=>match args with
 | []=>some (.e True (.o (.c (.n n))) [(n,.dm k [])] (n+1))
 | _=>none
theorem cok_mkm {t:Nat} {k:Bool} {z:Value} (hm:mapT P t=some (k,z)):COk P (vN t 3) (mkmCon k):=by
 obtain ⟨hT⟩:=mapT_parts hm
 intro args E n hargs hE
 unfold mkmCon
 split
 ·intro _
  refine ⟨Nat.le_succ _,fun q _ _ h3=>⟨h3 n (Nat.le_refl _) (Nat.lt_succ_self _),fun j e h=>?_⟩,fun j e h=>?_,fun base M r w hh=>?_⟩
  ·obtain ⟨rfl,rfl⟩:=lk_one1 h; exact ⟨h3 _ (Nat.le_refl _) (Nat.lt_succ_self _),trivial⟩
  ·obtain ⟨rfl,rfl⟩:=lk_one1 h; exact .inr ⟨Nat.le_refl _,Nat.lt_succ_self _⟩
  ·have hB:∀ b,¬ dmB [] b:=fun b ⟨d,hd,_⟩=>by cases hd
   refine .inr ⟨.map (some w.heap.size),_,w.alloc (.map #[] 0),?_,.inl rfl,(fun h=>by rw [isV_vN] at h; cases h),more r n (.map (some w.heap.size)),fun j hj=>more_ne j (by omega),?_,hh.mk1 (fun j e he=>⟨by have:=(hE j e he).1; omega,Ent.sc_mono (fun i hi=>Nat.ne_of_lt hi) (hE j e he).2⟩) rfl (fun b hb=>by cases hb; rfl) ?_ hB⟩
   ·show (callX (vN t 3) #[]).run P w=_
    rw [callX_vN (by omega)]
    show (do pure (.value (← Instr.makeMap t none)):Sem Next).run P w=_
    refine run_valW ?_
    simp [Instr.makeMap,newObj,Sem.run]
   ·simp only [SV.den,S1.den,SC.den,more_new]
   ·exact ⟨⟨w.heap.size,#[],0,rfl,heap_alloc_new _ _,rfl,⟨rfl,fun i e h=>by simp at h⟩,hB _⟩,(fun d hd=>by cases hd),fun i j d d' b h=>by simp at h⟩
 ·trivial
def entCon (k:Bool) (z:Value):Con:=fun args E n=>match args with
 | [.c (.n i),kk]=>match keyS1 k kk with
  | some (x,y)=>match E i with
   | some (.dm k' l)=>match findDM k l x y with
    | none=>some (.e (k'=k) (.t [constS z,.c (.v (.int .i64 l.length))]) [(i,.dm k' (l++[⟨x,y,z,none⟩]))] n)
    | some d=>match d.row with
     | some (some ty,m,sz,g)=>some (.e (k'=k) (.t [.c (.n n),.c (.v (.int .i64 (idxDM k l x y)))]) [(i,.dm k' (takDM l (idxDM k l x y))),(n,.own m sz (vF g) ty)] (n+1))
     | _=>none
   | _=>none
  | none=>none
 | _=>none
def stoCon:Con:=fun args E n=>match args with
 | [.c (.n i),.c (.v (.int .i64 s)),v]=>match E i with
  | some (.dm k l)=>match v with
   | .c (.n j)=>match E j with
    | some (.own m sz f ty)=>some (.d (0≤s∧s < l.length∧clF m sz f) (fun _=>True) (fun _=>.t []) (fun G=>[(i,.dm k (putDM l s.toNat (G 0 0) (some (some ty,m,sz,unF f)))),(j,.dead)]) n)
    | _=>none
   | _=>none
  | _=>none
 | _=>none
end
end Go.Sx
namespace Go.Sx
open Go.RowKit
theorem nodup_sub_le:∀ {l1 l2:List Nat},l1.Nodup→(∀ a∈l1,a∈l2)→l1.length≤l2.length
 | [],_,_,_=>Nat.zero_le _
 | a :: l1,l2,h,hs=>by
  have ha:=hs a (by simp)
  rw [List.nodup_cons] at h
  have:=nodup_sub_le (l1:=l1) (l2:=l2.erase a) h.2 (fun b hb=>(List.mem_erase_of_ne (fun e=>h.1 (by rw [← e]; exact hb))).2 (hs b (by simp [hb])))
  have h2:=List.length_erase_of_mem ha
  have h3:=List.length_pos_of_mem ha
  simp only [List.length_cons]
  omega
def someOf (m:Nat) (sn:List Nat):Prop:=sn.Nodup∧∀ a∈sn,a < m
theorem someOf_le {m:Nat} {sn:List Nat} (h:someOf m sn):sn.length≤m:=by
 have:=nodup_sub_le (l2:=List.range m) h.1 (fun a ha=>List.mem_range.2 (h.2 a ha))
 simpa using this
theorem someOf_push {m j:Nat} {sn:List Nat} (h:someOf m sn) (hj:j < m) (hn:j ∉ sn):someOf m (sn++[j]):=by
 refine ⟨?_,fun a ha=>?_⟩
 ·rw [List.nodup_append]
  exact ⟨h.1,by simp,fun a ha b hb=>by simp at hb; subst hb; exact fun e=>hn (by rw [← e]; exact ha)⟩
 ·rcases List.mem_append.1 ha with g | g
  ·exact h.2 a g
  ·simp at g; omega
theorem someOf_room {m:Nat} {sn:List Nat} (h:someOf m sn) (hl:sn.length < m):∃ j,j < m∧j ∉ sn:=by
 apply Classical.byContradiction
 intro hc
 have:=nodup_sub_le (l1:=List.range m) (l2:=sn) List.nodup_range (fun a ha=>Classical.byContradiction fun g=>hc ⟨a,List.mem_range.1 ha,g⟩)
 simp at this
 omega
theorem someOf_full {m:Nat} {sn:List Nat} (h:someOf m sn) (hl:m≤sn.length) {j:Nat} (hj:j < m):j∈sn:=by
 apply Classical.byContradiction
 intro hc
 have:=someOf_le (someOf_push h hj hc)
 simp at this
 omega
theorem someOf_perm {m:Nat} {sn:List Nat} (h:someOf m sn) (hl:m≤sn.length):sn.Perm (List.range m):=by
 rw [List.perm_iff_count]
 intro a
 have h1:sn.count a≤1:=List.nodup_iff_count.1 h.1 a
 have h2:(List.range m).count a≤1:=List.nodup_iff_count.1 List.nodup_range a
 have h3:a∈sn ↔ a∈List.range m:=⟨fun g=>List.mem_range.2 (h.2 a g),fun g=>someOf_full h hl (List.mem_range.1 g)⟩
 by_cases g:a∈sn
 ·have:=List.count_pos_iff.2 g
  have:=List.count_pos_iff.2 (h3.1 g)
  omega
 ·have:=List.count_eq_zero.2 g
  have:=List.count_eq_zero.2 (fun k=>g (h3.2 k))
  omega
section
variable {P:Program} {base:World} {M:Scp} {r:Rho} {E:Nat→Option Ent} {w:World}
def drewW (w w':World):Prop:=w'=w∨w'={ w with drawn:=w.drawn+1 }
theorem run_pick (P:Program) (n:Nat) (hn:0 < n) (w:World):∃ c w',c < n∧drewW w w'∧(choose (.mapNext n)).run P w = .ok c w':=by
 unfold choose
 simp only [Sem.run]
 split
 ·exact ⟨0,w,hn,.inl rfl,rfl⟩
 ·exact ⟨_,_,Nat.mod_lt _ hn,.inr rfl,rfl⟩
theorem born_at {es:Array MapEntry} {clock:Nat} (h:BornOk es clock) {e:MapEntry} (he:e∈es):e.born < clock∧es[e.born]?=some e:=by
 obtain ⟨i,hi,rfl⟩:=Array.mem_iff_getElem.1 he
 have:=h.2 i es[i] (Array.getElem?_eq_getElem hi)
 rw [this,h.1]
 exact ⟨hi,Array.getElem?_eq_getElem hi⟩
theorem run_next {b rb clock:Nat} {es:Array MapEntry} {seen:List Nat} (ty:TypeId) (hb:w.heap[b]?=some (.map es clock)) (hr:w.heap[rb]?=some (.mapIter (some b) clock seen.toArray clock)) (hbo:BornOk es clock) (hs:someOf clock seen) :
    (clock≤seen.length∧(Instr.next (.pointer (some ⟨rb,0,none⟩)) false ty).run P w = .ok (.tuple #[.bool false]) w) ∨
    (seen.length < clock∧∃ j e w1,j ∉ seen∧es[j]?=some e∧j < clock∧drewW w w1∧(Instr.next (.pointer (some ⟨rb,0,none⟩)) false ty).run P w = .ok (.tuple #[.bool true,e.key,e.val]) { w1 with heap:=w.heap.setIfInBounds rb (.mapIter (some b) clock (seen++[j]).toArray clock) }):=by
  have g1:(getObj rb).run P w = .ok (.mapIter (some b) clock seen.toArray clock) w:=by simp [getObj,Sem.run,hr]
  have g2:(getObj b).run P w = .ok (.map es clock) w:=by simp [getObj,Sem.run,hb]
  have hall:(!seen.toArray.isEmpty && !es.isEmpty && es.all (fun e=>decide (e.born ≥ clock)))=false:=by
    cases hz:es.isEmpty with
    | true=>simp
    | false=>
      have hpos:0 < es.size:=by
        rcases Nat.eq_zero_or_pos es.size with g | g
        · have:=Array.eq_empty_of_size_eq_zero g; rw [this] at hz; cases hz
        · exact g
      have:es.all (fun e=>decide (e.born ≥ clock))=false:=by
        rw [Bool.eq_false_iff]
        intro hc
        rw [Array.all_eq_true] at hc
        have h1:=hc 0 hpos
        have h2:=hbo.2 0 es[0] (Array.getElem?_eq_getElem hpos)
        simp only [decide_eq_true_eq,ge_iff_le] at h1
        have:=hbo.1
        omega
      rw [this]; simp
  have hnew:((es.filter fun e=>!seen.toArray.contains e.born).filter fun e=>decide (e.born ≥ clock))=#[]:=by
    rw [Array.filter_eq_empty_iff]
    intro e he
    have:=(born_at hbo (Array.mem_filter.1 he).1).1
    simp; omega
  have hold:((es.filter fun e=>!seen.toArray.contains e.born).filter fun e=>decide (e.born < clock))=es.filter fun e=>!seen.toArray.contains e.born:=by
    rw [Array.filter_eq_self]
    intro e he
    have:=(born_at hbo (Array.mem_filter.1 he).1).1
    simp; omega
  have hrun:(Instr.next (.pointer (some ⟨rb,0,none⟩)) false ty).run P w=Sem.run P (do
      let left:=es.filter fun e=>!seen.toArray.contains e.born
      let candidates:=(if left.isEmpty then #[none] else #[])++left.map some
      match candidates[← choose (.mapNext candidates.size)]? with
      | some (some e)=>
        setObj rb (.mapIter (some b) clock (seen.toArray.push e.born) clock)
        pure (.tuple #[.bool true,e.key,e.val])
      | some none=>pure (.tuple #[.bool false])
      | none => stuck "Next: no such candidate") w := by
    unfold Instr.next
    simp only [Sem.run_bind,g1,Result.andThen_ok,g2,hall,Bool.false_eq_true,if_false,hold,hnew,Array.append_empty]
    rfl
  rw [hrun]
  generalize hL:(es.filter fun e=>!seen.toArray.contains e.born)=left
  have hmem:∀ e,e∈left ↔ e∈es∧e.born ∉ seen:=by
    intro e
    rw [← hL,Array.mem_filter]
    simp
  cases hz:left.isEmpty with
  | true=>
    have hle:left=#[]:=by rw [Array.isEmpty_iff] at hz; exact hz
    refine .inl ⟨?_,?_⟩
    · apply Classical.byContradiction
      intro hc
      obtain ⟨j,hj,hn⟩:=someOf_room hs (by omega)
      have hj2:j < es.size:=by rw [← hbo.1]; exact hj
      have:=(hmem es[j]).2 ⟨Array.getElem_mem hj2,by rw [hbo.2 j _ (Array.getElem?_eq_getElem hj2)]; exact hn⟩
      rw [hle] at this
      simp at this
    · subst hle
      simp [choose,Sem.run,Question.forced]
  | false=>
    have hpos:0 < left.size:=by
      rcases Nat.eq_zero_or_pos left.size with g | g
      · have:=Array.eq_empty_of_size_eq_zero g; rw [this] at hz; cases hz
      · exact g
    obtain ⟨c,w1,hc,hd,hp⟩:=run_pick P (left.map some).size (by simpa using hpos) w
    have hc2:c < left.size:=by simpa using hc
    have hget:(left.map some)[c]?=some (some left[c]):=by rw [Array.getElem?_map,Array.getElem?_eq_getElem hc2]; rfl
    obtain ⟨h1,h2⟩:=(hmem left[c]).1 (Array.getElem_mem hc2)
    obtain ⟨h3,h4⟩:=born_at hbo h1
    refine .inr ⟨?_,left[c].born,left[c],w1,h2,h4,h3,hd,?_⟩
    · rcases Nat.lt_or_ge seen.length clock with g | g
      · exact g
      · exact absurd (someOf_full hs g h3) h2
    · have hh:w1.heap=w.heap:=by rcases hd with rfl | rfl<;>rfl
      have hso:(setObj rb (.mapIter (some b) clock (seen.toArray.push left[c].born) clock)).run P w1 = .ok () { w1 with heap:=w.heap.setIfInBounds rb (.mapIter (some b) clock (seen.toArray.push left[c].born) clock) }:=by
        simp [setObj,Sem.run,hh,hr]
      simp only [hz,Bool.false_eq_true,if_false,Array.empty_append,Sem.run_bind,hp,Result.andThen_ok,hget,hso,Sem.run_pure]
      simp only [List.push_toArray]
def rngCon:Con:=fun args E n=>match args with
 | [.c (.n i)]=>match E i with
  | some (.dm _ l)=>some (.e True (.o (.c (.p n 0))) [(n,.itr i l.length [])] (n+1))
  | _=>none
 | _=>none
def idxG (G:Nat→Nat→Value):Nat:=match G 0 0 with
 | .int _ j=>j.toNat
 | _=>0
def getDM (l:List DM) (j:Nat):DM:=l.getD j ⟨0,0,.bool false,none⟩
def nxtCon:Con:=fun args E n=>match args with
 | [.c (.p it 0)]=>match E it with
  | some (.itr i m sn)=>match E i with
   | some (.dm k l)=>if sn.length < m then some (.d (m=l.length∧someOf m sn) (fun G=>∃ j:Nat,j < m∧j ∉ sn∧G=fun _ _=>.int .i64 j)
     (fun G=>.t [.c (.v (.bool true)),constS (dmK k (getDM l (idxG G)).x (getDM l (idxG G)).y),constS (getDM l (idxG G)).val]) (fun G=>[(it,.itr i m (sn++[idxG G]))]) n)
    else some (.e (m=l.length∧someOf m sn) (.t [.c (.v (.bool false))]) [] n)
   | _=>none
  | _=>none
 | _=>none
def etyCon:Con:=fun args E n=>match args with
 | [.c (.p it 0)]=>match E it with
  | some (.itr i m sn)=>match E i with
   | some (.dm k l)=>match sn.getLast? with
    | some j=>some (.e (m=l.length∧j < m) (.t [constS (dmK k (getDM l j).x (getDM l j).y),constS (getDM l j).val]) [] n)
    | none=>none
   | _=>none
  | _=>none
 | _=>none
theorem run_entry {b rb clock j:Nat} {es:Array MapEntry} {e:MapEntry} {seen:List Nat} (hb:w.heap[b]?=some (.map es clock)) (hr:w.heap[rb]?=some (.mapIter (some b) clock seen.toArray clock)) (hbo:BornOk es clock) (hj:seen.getLast?=some j) (he:es[j]?=some e) :
  (Instr.entry (.pointer (some ⟨rb,0,none⟩))).run P w = .ok (.tuple #[e.key,e.val]) w:=by
 have g1:(getObj rb).run P w = .ok (.mapIter (some b) clock seen.toArray clock) w:=by simp [getObj,Sem.run,hr]
 have g2:(getObj b).run P w = .ok (.map es clock) w:=by simp [getObj,Sem.run,hb]
 have hback:seen.toArray.back?=some j:=by rw [List.back?_toArray,hj]
 have hfind:es.find? (fun e=>e.born == j)=some e:=by
  have hlt:j < es.size:=(Array.getElem?_eq_some_iff.1 he).1
  rw [Array.find?_eq_some_iff_getElem]
  refine ⟨by rw [hbo.2 j e he]; simp,j,hlt,?_,fun i hi=>?_⟩
  ·rw [Array.getElem?_eq_getElem hlt] at he; cases he; rfl
  ·rw [hbo.2 i es[i] (Array.getElem?_eq_getElem (by omega))]; simp; omega
 unfold Instr.entry
 simp only [Sem.run_bind,g1,Result.andThen_ok,hback,g2,bne_self_eq_false,Bool.false_eq_true,if_false,hfind,Sem.run_pure]
end
end Go.Sx
namespace Go.Sx
open Go.RowKit
structure MEnc (α:Type) where
 k:Bool
 enc:α→DM
 dec:DM→α
 de:∀ x,dec (enc x)=x
section
variable {α:Type} {M:MEnc α}
def mapF (M:MEnc α) (L:List α):List DM:=L.map M.enc
def decM (M:MEnc α) (l:List DM):List α:=l.map M.dec
def isM (M:MEnc α) (k:Bool) (l:List DM):Prop:=k=M.k∧l=mapF M (decM M l)
theorem decM_mapF (L:List α):decM M (mapF M L)=L:=by
 unfold decM mapF
 rw [List.map_map]
 conv=>rhs; rw [← List.map_id L]
 exact List.map_congr_left fun x _=>M.de x
theorem isM_mapF (k:Bool) (L:List α):isM M k (mapF M L) ↔ k=M.k:=⟨fun h=>h.1,fun h=>⟨h,by rw [decM_mapF]⟩⟩
theorem isM_le {k:Bool} {l:List DM} {τ:SC→SC} (h:isM M k l):leE τ (.dm k l) (.dm M.k (mapF M (decM M l))):=⟨h.1,.inl h.2.symm⟩
theorem mapF_nil:mapF M []=[]:=rfl
theorem isM_nil (k:Bool):isM M k [] ↔ k=M.k:=isM_mapF k []
theorem decM_nil:decM M []=[]:=rfl
theorem mapF_len (L:List α):(mapF M L).length=L.length:=by simp [mapF]
end
theorem clF_rowF {α:Type} {E:Enc α} (m sz:Nat) (L:List α):clF m sz (rowF E L) ↔ True:=iff_true_intro fun e j _ _=>by
 obtain ⟨v,h,_⟩:=rowF_flat (E:=E) L e j; rw [h]; rfl
theorem unF_rowF {α:Type} {E:Enc α} (L:List α):unF (rowF E L)=rowG E L:=rfl
theorem clF_vF (m sz:Nat) (g:Nat→Nat→Value):clF m sz (vF g) ↔ True:=iff_true_intro fun _ _ _ _=>rfl
theorem unF_vF (g:Nat→Nat→Value):unF (vF g)=g:=rfl
theorem dmK_t (x y:Int):dmK true x y = .agg #[.int .i64 x,.int .i64 y]:=rfl
theorem dmK_f (x y:Int):dmK false x y = .int .i64 x:=rfl
theorem valS_c (x:Value):valS (.c (.v x))=some x:=rfl
theorem valS_n (i:Nat):valS (.c (.n i))=none:=rfl
theorem valS_a (cs:List SC):valS (.a cs)=match cloV cs with | some xs=>some (.agg xs.toArray) | none=>none:=rfl
theorem constS_agg (cs:List Value):constS (.agg cs.toArray) = .a (cs.map .v):=rfl
theorem keyS1_t (x y:Int):keyS1 true (.a [.v (.int .i64 x),.v (.int .i64 y)])=some (x,y):=rfl
theorem keyS1_f (x:Int):keyS1 false (.c (.v (.int .i64 x)))=some (x,0):=rfl
theorem lookR_t (x:S1) (b:Bool):lookR true x b = .t [x,.c (.v (.bool b))]:=rfl
theorem lookR_f (x:S1) (b:Bool):lookR false x b = .o x:=rfl
theorem idxG_int (j:Nat):idxG (fun _ _=>.int .i64 j)=j:=by simp [idxG]
attribute [push_cast] constS_agg decM_mapF isM_mapF mapF_nil isM_nil decM_nil clF_rowF unF_rowF clF_vF unF_vF dmK_t dmK_f valS_c valS_n valS_a cloV keyS1_t keyS1_f lookR_t lookR_f idxG_int lookCon updCon mkmCon entCon stoCon rngCon nxtCon etyCon mapF_len List.toList_toArray
end Go.Sx
namespace Go.Sx
open Go.RowKit
structure OrdI {α:Type} (cf:α→α→Int):Prop where
 anti:∀ x y,cf x y < 0 ↔ 0 < cf y x
 trans:∀ x y z,cf x y≤0→cf y z≤0→cf x z≤0
section
variable {α:Type} {cf:α→α→Int}
theorem OrdI.swo (h:OrdI cf):Go.Sort.SWO (Go.Proofs.ltOf cf) where
 irrefl x:=by
  unfold Go.Proofs.ltOf
  rw [decide_eq_false_iff_not]
  intro h1
  have:=(h.anti x x).1 h1
  omega
 trans x y z h1 h2:=by
  unfold Go.Proofs.ltOf at *
  rw [decide_eq_true_eq] at *
  rcases Int.lt_or_le (cf x z) 0 with g | g
  ·exact g
  ·have h3:cf z x≤0:=by
    rcases Int.lt_or_le 0 (cf z x) with q | q
    ·have:=(h.anti x z).2 q; omega
    ·exact q
   have h4:=h.trans y z x (by omega) h3
   have h5:=(h.anti x y).1 h1
   omega
 ntrans x y z h1 h2:=by
  unfold Go.Proofs.ltOf at *
  rw [decide_eq_false_iff_not] at *
  intro h3
  have a1:cf y x≤0:=by
   rcases Int.lt_or_le 0 (cf y x) with q | q
   ·exact absurd ((h.anti x y).2 q) h1
   ·exact q
  have a2:cf z y≤0:=by
   rcases Int.lt_or_le 0 (cf z y) with q | q
   ·exact absurd ((h.anti y z).2 q) h2
   ·exact q
  have:=h.trans z y x a2 a1
  have:=(h.anti x z).1 h3
  omega
def leI (cf:α→α→Int) (x y:α):Bool:=decide (cf x y≤0)
def srtL (cf:α→α→Int) (L:List α):List α:=L.mergeSort (leI cf)
theorem srtL_perm (L:List α):(srtL cf L).Perm L:=List.mergeSort_perm _ _
theorem srtL_sorted (h:OrdI cf) (L:List α):(srtL cf L).Pairwise fun x y=>leI cf x y=true:=by
 refine List.pairwise_mergeSort (fun a b c h1 h2=>?_) (fun a b=>?_) L
 ·unfold leI at *; rw [decide_eq_true_eq] at *; exact h.trans a b c h1 h2
 ·unfold leI
  rw [Bool.or_eq_true,decide_eq_true_eq,decide_eq_true_eq]
  rcases Int.lt_or_le 0 (cf a b) with g | g
  ·have:=(h.anti b a).2 g; omega
  ·exact .inl g
def diffL (cf:α→α→Int) (L:List α):Prop:=L.Pairwise fun x y=>cf x y≠0
theorem OrdI.zero (h:OrdI cf) {x y:α} (h0:cf x y=0):cf y x=0:=by
 rcases Int.lt_trichotomy (cf y x) 0 with g | g | g
 ·have:=(h.anti y x).1 g; omega
 ·exact g
 ·have:=(h.anti x y).2 g; omega
theorem diffL_mem (h:OrdI cf) {L:List α} (hd:diffL cf L) {x y:α} (hx:x∈L) (hy:y∈L) (h0:cf x y=0):x=y:=by
 obtain ⟨i,hi,rfl⟩:=List.getElem_of_mem hx
 obtain ⟨j,hj,rfl⟩:=List.getElem_of_mem hy
 rcases Nat.lt_trichotomy i j with g | g | g
 ·exact absurd h0 (List.pairwise_iff_getElem.1 hd i j hi hj g)
 ·subst g; rfl
 ·exact absurd (h.zero h0) (List.pairwise_iff_getElem.1 hd j i hj hi g)
theorem srtL_uniq (h:OrdI cf) {L R:List α} (hd:diffL cf L) (hp:R.Perm L) (hs:R.Pairwise fun x y=>leI cf x y=true):R=srtL cf L:=by
 refine List.Perm.eq_of_pairwise (le:=fun x y=>leI cf x y=true) (fun a b ha hb h1 h2=>?_) hs (srtL_sorted h L) (hp.trans (srtL_perm L).symm)
 unfold leI at h1 h2
 rw [decide_eq_true_eq] at h1 h2
 refine diffL_mem h hd (hp.mem_iff.1 ha) ((srtL_perm L).mem_iff.1 hb) ?_
 rcases Int.lt_or_eq_of_le h1 with g | g
 ·have:=(h.anti a b).1 g; omega
 ·exact g
end
section
variable {α:Type}
def encV (E:Enc α) (x:α):List Value:=(E.enc x).map vOf
theorem encV_len (E:Enc α) (x:α):(encV E x).length=E.sz:=by unfold encV; rw [List.length_map,E.len]
theorem encV_den (E:Enc α) (r:Rho) (x:α):(E.enc x).map (SC.den r)=encV E x:=by
 unfold encV
 refine List.map_congr_left fun c hc=>?_
 obtain ⟨v,rfl,_⟩:=E.flat x c hc
 rfl
theorem encV_one (E:Enc α) (x:α):∀ v∈encV E x,v.oneCell'=true:=by
 intro v hv
 obtain ⟨c,hc,rfl⟩:=List.mem_map.1 hv
 obtain ⟨u,rfl,h⟩:=E.flat x c hc
 exact h
theorem encV_at (E:Enc α) (L:List α) {e j:Nat} (r:Rho) (hj:j < E.sz):(encV E (L.getD e E.dflt))[j]?=some ((rowF E L e j).den r):=by
 have hl:=encV_len E (L.getD e E.dflt)
 have hl2:=E.len (L.getD e E.dflt)
 unfold encV rowF cellAt
 rw [List.getElem?_map,nth_eq,List.getElem?_eq_getElem (by omega)]
 obtain ⟨v,hv,_⟩:=E.flat (L.getD e E.dflt) _ (List.getElem_mem (show j < (E.enc (L.getD e E.dflt)).length by omega))
 simp only [Option.map_some,hv]
 rfl
end
theorem grow_of {W w':World} (h:BelowD W.heap.size W w'):∃ q os',w'=Go.Sort.grow (W.drewN q) os':=by
 refine ⟨w'.drawn - W.drawn,w'.heap.extract W.heap.size w'.heap.size,?_⟩
 have h1:w'.heap=W.heap++w'.heap.extract W.heap.size w'.heap.size:=by
  apply Array.ext_getElem?
  intro k
  rw [Array.getElem?_append]
  split
  ·rename_i g; exact h.block k g
  ·rename_i g
   rw [Array.getElem?_extract]
   have:=h.size
   by_cases g2:k < w'.heap.size
   ·rw [if_pos (by omega)]; congr 1; omega
   ·rw [if_neg (by omega),Array.getElem?_eq_none (by omega)]
 have h2:=h.output.drawn
 obtain ⟨hp,tp,dr,os,ou⟩:=w'
 obtain ⟨hp0,tp0,dr0,os0,ou0⟩:=W
 have a1:=h.os; have a2:=h.tape; have a3:=h.output.out
 simp only at a1 a2 a3 h1 h2
 subst a1; subst a2; subst a3
 show _=Go.Sort.grow ⟨hp0,tp,dr0+(dr - dr0),os,ou⟩ _
 rw [show dr0+(dr - dr0)=dr by omega]
 show World.mk hp tp dr os ou=World.mk (hp0++_) tp dr os ou
 congr 1
section
variable {P:Program} {ρ:Go.Shelf.Ren} {α:Type}
theorem sortW_at [Inhabited α] {enc:α→List Value} {k:Nat} {w:World} {blk off m:Nat} {d:Array α} {os:Array Obj} {cur:Array Value} {ty:TypeId} {z:Nat × Nat} (h:w.heap[blk]?=some (.cells cur ty z)) :
  (Go.Proofs.sortWorldK enc k w blk off m d os).heap[blk]?=some (.cells (Go.Sort.putCells id off (Go.Sort.flatK enc k d) cur) ty z):=by
 have hlt:blk < w.heap.size:=(Array.getElem?_eq_some_iff.1 h).1
 show ((w.heap.modify blk (Go.Sort.onCells _))++os)[blk]?=_
 rw [Array.getElem?_append_left (by simpa using hlt),Array.getElem?_modify,if_pos rfl,h]
 rfl
theorem sortW_other [Inhabited α] {enc:α→List Value} {k:Nat} {w:World} {blk off m:Nat} {d:Array α} {os:Array Obj} {b:Nat} (hb:b < w.heap.size) (hne:blk≠b) :
  (Go.Proofs.sortWorldK enc k w blk off m d os).heap[b]?=w.heap[b]?:=by
 show ((w.heap.modify blk (Go.Sort.onCells _))++os)[b]?=_
 rw [Array.getElem?_append_left (by simpa using hb),Array.getElem?_modify,if_neg hne]
theorem sortW_size [Inhabited α] {enc:α→List Value} {k:Nat} {w:World} {blk off m:Nat} {d:Array α} {os:Array Obj}:w.heap.size≤(Go.Proofs.sortWorldK enc k w blk off m d os).heap.size:=by
 show _≤((w.heap.modify blk (Go.Sort.onCells _))++os).size
 simp
theorem putCells_at {F:Array Value} {off:Nat} {cur:Array Value} {t:Nat} (ht:t < F.size) (hc:off+F.size≤cur.size):(Go.Sort.putCells id off F cur)[off+t]?=some F[t]!:=by
 unfold Go.Sort.putCells
 rw [Array.getElem?_mapIdx,Array.getElem?_eq_getElem (by omega)]
 simp only [Option.map_some]
 rw [if_pos (by omega),Nat.add_sub_cancel_left]
 rfl
theorem putCells_size {F:Array Value} {off:Nat} {cur:Array Value}:(Go.Sort.putCells id off F cur).size=cur.size:=by unfold Go.Sort.putCells; simp
def sortCon (E:Enc α) (cf:α→α→Int) (ty g:Nat):Con:=fun args Et n=>match args with
 | [.c (.n i),.c (.v (.func (.func g') a b))]=>match Et i with
  | some (.own m sz f ty')=>some (.e (g'=g∧a=#[]∧b=#[]∧ty'=ty∧sz=E.sz∧m≤4611686018427387903∧isRow E m sz f∧diffL cf (decL E m f)) (.t []) [(i,.own m sz (rowF E (srtL cf (decL E m f))) ty')] n)
  | _=>none
 | _=>none
theorem get_dec {E:Enc α} [Inhabited α] (L:List α) {i:Nat} (h:i < L.length):L.toArray[i]! = L.getD i E.dflt:=by
 rw [getElem!_pos _ i (by simpa using h),List.getD_eq_getElem?_getD,List.getElem?_eq_getElem h]
 rfl
theorem cok_sort {E:Enc α} {cf:α→α→Int} {ty g:Nat} {gc:Con} (L:Go.Proofs.SlLaysF0.n6 P ρ) (hty:ρ.t 24=ty) (aE:∀ w,(isAgg ty).run P w = .ok true w) (zE:∀ w,(Go.sizeOf ty).run P w = .ok E.sz w) (hO:OrdI cf) (hpos:0 < E.sz)
  (hgb:bodied P g=true) (hg:COk P g gc) (hgc:∀ x y Et n,gc [.a (E.enc x),.a (E.enc y)] Et n=some (.q True (.o (.c (.v (.int .i64 (cf x y))))))) (hbd:bodied P (ρ.f 6)=true):COk P (ρ.f 6) (sortCon E cf ty g):=by
 haveI:Inhabited α:=⟨E.dflt⟩
 subst hty
 have eg:∀ args w,(callFunc g args).run P w = .ok (.enter g args) w:=fun args w=>run_enter hgb
 have hcmp:∀ blk off size w,Go.Proofs.CmpLays P g #[] (encV E) E.sz cf blk off size w:=by
  intro blk off size w m os dk _ x y
  have hc:=hg [.a (E.enc x),.a (E.enc y)] (lk []) 0 (fun s hs=>?_) (fun i e h=>by cases h)
  ·rw [hgc] at hc
   have:=(hc.2 trivial (Go.Proofs.sortWorldK (encV E) E.sz w blk off m dk os) ⟨fun _=>False,fun _=>False⟩ (fun _=>.bool true) _ (HeapRel.init _ _ (fun _=>rfl))).calls hgb
   have ha:([S1.a (E.enc x),.a (E.enc y)].map (S1.den fun _=>Value.bool true)).toArray=#[.agg (encV E x).toArray,.agg (encV E y).toArray]++#[]:=by
    simp only [List.map_cons,List.map_nil,S1.den,encV_den]; rfl
   rw [ha] at this
   exact this.mono fun e w' ⟨h1,h2⟩=>⟨h1,grow_of h2⟩
  ·simp only [List.mem_cons,List.not_mem_nil,or_false] at hs
   rcases hs with rfl | rfl
   ·intro c hc; obtain ⟨v,rfl,_⟩:=E.flat x c hc; trivial
   ·intro c hc; obtain ⟨v,rfl,_⟩:=E.flat y c hc; trivial
 intro args Et nx hargs hE
 unfold sortCon
 split
 ·rename_i i g' a b
  split
  ·rename_i m sz f ty' hEi
   rintro ⟨rfl,rfl,rfl,rfl,rfl,hm,hrow,hdiff⟩
   refine ⟨Nat.le_refl _,fun q _ hq _=>⟨tNil_sc,fun j e h=>?_⟩,fun j e h=>?_,fun base M r w hh=>?_⟩
   ·obtain ⟨rfl,rfl⟩:=lk_one1 h; exact ⟨(hq _ _ hEi).1,rowF_sc _ _⟩
   ·obtain ⟨rfl,rfl⟩:=lk_one1 h; exact .inl (by rw [hEi]; simp)
   ·refine .inl ⟨hbd,?_⟩
    show Calls P (ρ.f 6) #[r i,.func (.func g') #[] #[]] w _
    obtain ⟨hmx,hown⟩:=hh.ent i _ hEi
    have hlen:=decL_len (E:=E) m f
    rcases hown with ⟨b,o,cap,cur,hV,⟨z,hb,hz⟩,hcap,hcap0,hsz,hcells⟩ | ⟨a,hV,h0⟩
    ·have hblt:b < w.heap.size:=(Array.getElem?_eq_some_iff.1 hb).1
     have hroom:o+m * E.sz≤cur.size:=Nat.le_trans (Nat.add_le_add_left (Nat.mul_le_mul_right _ hcap) _) hsz
     have hH:Go.Sort.HoldsK (encV E) E.sz w b o (decL E m f).toArray:=by
      intro t ht
      rw [Go.Sort.size_flatK,List.size_toArray,hlen] at ht
      have he:t / E.sz < m:=Nat.div_lt_of_lt_mul (by rw [Nat.mul_comm]; exact ht)
      have hj:t % E.sz < E.sz:=Nat.mod_lt _ hpos
      have hoff:o+t=o+(t / E.sz * E.sz+t % E.sz):=by rw [Nat.mul_comm,Nat.div_add_mod]
      have hc:=hcells _ _ he hj
      rw [hrow.2 _ _ he hj,← hoff] at hc
      refine ⟨?_,?_⟩
      ·rw [cell_of_row w b (o+t) _ _ z hb,hc]
       congr 1
       rw [Go.Sort.get_flatK _ _ _ t (by rw [List.size_toArray,hlen]; exact ht),get_dec (E:=E) _ (by rw [hlen]; exact he)]
       have:=encV_at E (decL E m f) (e:=t / E.sz) r hj
       rw [id,getElem!_pos _ _ (by rw [encV_len]; exact hj)]
       rw [List.getElem?_eq_getElem (by rw [encV_len]; exact hj)] at this
       exact (Option.some.inj this).symm
      ·unfold World.frozen?
       simp only [hb]
       rcases hz with rfl | hz
       ·simp
       ·obtain ⟨z1,z2⟩:=z
        simp only at hz ⊢
        have:¬ z1≤o+t:=by omega
        simp [this]
     have hs:=Go.Proofs.AnyQ.slices_SortFunc L E.sz aE zE (encV E) (encV_len E) (encV_one E) cf hO.swo g' #[] b o cap (decL E m f).toArray w eg (hcmp b o _ w) hH hblt (by rw [List.size_toArray,hlen]; omega)
     rw [List.size_toArray,hlen] at hs
     rw [hV]
     refine hs.mono ?_
     rintro e w' ⟨rfl,d',q,os,hp,hso,rfl⟩
     have hd'n:d'.size=m:=by rw [hp.1,List.size_toArray,hlen]
     have hperm:d'.toList.Perm (decL E m f):=by
      have:=hp.2.2
      have e0:∀ (A:Array α) (k:Nat),A.size=k→A.extract 0 k=A:=by rintro A _ rfl; exact Array.extract_size
      rw [e0 d' m hd'n,e0 _ m (by rw [List.size_toArray,hlen])] at this
      simpa using this
     have hsort:d'.toList=srtL cf (decL E m f):=by
      refine srtL_uniq hO hdiff hperm ?_
      rw [List.pairwise_iff_getElem]
      intro i1 j1 hi1 hj1 hij
      have hi2:i1 < d'.size:=by simpa using hi1
      have hj2:j1 < d'.size:=by simpa using hj1
      have:=hso i1 j1 (Nat.zero_le _) hij (by omega)
      rw [getElem!_pos d' i1 hi2,getElem!_pos d' j1 hj2] at this
      unfold Go.Proofs.ltOf at this
      rw [decide_eq_false_iff_not] at this
      unfold leI
      rw [decide_eq_true_eq]
      show cf d'.toList[i1] d'.toList[j1]≤0
      rw [Array.getElem_toList,Array.getElem_toList]
      rcases Int.lt_or_le 0 (cf d'[i1] d'[j1]) with g2 | g2
      ·exact absurd ((hO.anti _ _).2 g2) this
      ·exact g2
     refine ⟨r,fun _ _=>rfl,rfl,?_⟩
     have hrel:(Ent.own m E.sz (rowF E (srtL cf (decL E m f))) (ρ.t 24)).rel r (Go.Proofs.sortWorldK (encV E) E.sz w b o q d' os) (r i):=by
      refine ⟨hmx,.inl ⟨b,o,cap,_,hV,⟨z,sortW_at hb,by rw [putCells_size]; exact hz⟩,hcap,hcap0,by rw [putCells_size]; exact hsz,fun e j he hj=>?_⟩⟩
      have hlt:e * E.sz+j < m * E.sz:=by
       have h1:(e+1) * E.sz≤m * E.sz:=Nat.mul_le_mul_right _ he
       rw [Nat.add_mul,Nat.one_mul] at h1
       omega
      rw [putCells_at (by rw [Go.Sort.size_flatK,hd'n]; exact hlt) (by rw [Go.Sort.size_flatK,hd'n]; exact hroom)]
      congr 1
      rw [Go.Sort.get_flatK _ _ _ _ (by rw [hd'n]; exact hlt)]
      have hdiv:(e * E.sz+j) / E.sz=e:=by
       rw [Nat.mul_comm,Nat.mul_add_div hpos,Nat.div_eq_of_lt hj]; rfl
      have hmod:(e * E.sz+j) % E.sz=j:=by
       rw [Nat.mul_comm,Nat.mul_add_mod,Nat.mod_eq_of_lt hj]
      rw [hdiv,hmod]
      have hge:d'[e]! = (srtL cf (decL E m f)).getD e E.dflt:=by
       rw [← hsort,getElem!_pos d' e (by omega),List.getD_eq_getElem?_getD,List.getElem?_eq_getElem (by simpa [hd'n] using he)]
       rw [Option.getD_some,Array.getElem_toList]
      rw [hge]
      have:=encV_at E (srtL cf (decL E m f)) (e:=e) r hj
      rw [getElem!_pos _ _ (by rw [encV_len]; exact hj)]
      rw [List.getElem?_eq_getElem (by rw [encV_len]; exact hj)] at this
      exact Option.some.inj this
     have hcase:∀ j e,j=i→upd [(i,Ent.own m E.sz (rowF E (srtL cf (decL E m f))) (ρ.t 24))] Et j=some e→e = .own m E.sz (rowF E (srtL cf (decL E m f))) (ρ.t 24):=by
      rintro j e rfl he; rw [upd_one,if_pos rfl] at he; cases he; rfl
     have hblk:blkOf (r i)=some b:=by rw [hV]; exact blkOf_slice hcap0
     refine hh.redo (fun j=>j=i) (fun j hj=>by rw [upd_one,if_neg (fun g=>hj g.symm)]) (fun j e _ he=>⟨rfl,Ent.sc_all (fun _=>rfl) e⟩) hh.one sortW_size rfl rfl ⟨rfl,Nat.le_add_right _ _⟩ ?_ ?_ ?_ ?_ ?_
     ·intro b' hb' hn
      exact sortW_other hb' (by rintro rfl; exact hn i _ rfl hEi rfl (.inl hblk))
     ·intro j e hj he
      rw [hcase j e hj he,show j=i from hj]; exact hrel
     ·intro j e hj he _ b' hf
      rw [hcase j e hj he,show j=i from hj] at hf
      exact .inr ⟨i,_,rfl,hEi,rfl,.inl (hf.resolve_right fun h=>h)⟩
     ·intro j e hj he _ b' hf
      rw [hcase j e hj he,show j=i from hj] at hf
      exact .inr ⟨i,_,rfl,hEi,rfl,.inl (hf.resolve_right fun h=>h)⟩
     ·intro j j' e e' hj hj' hne
      exact absurd ((show j=i from hj).trans (show j'=i from hj').symm) hne
    ·subst h0
     rw [hV]
     refine (Go.Proofs.AnyF.slices_SortFunc_none L a 0 _ w).mono ?_
     rintro e w' ⟨rfl,rfl⟩
     refine ⟨r,fun _ _=>rfl,rfl,?_⟩
     have hs0:srtL cf (decL E 0 f)=[]:=by
      have:=(srtL_perm (cf:=cf) (decL E 0 f)).length_eq
      rw [hlen] at this
      exact List.eq_nil_of_length_eq_zero this
     refine hh.turn hEi rfl (Turn.same _ _) ⟨by omega,.inr ⟨a,hV,rfl⟩⟩
  ·trivial
 ·trivial
end
end Go.Sx
namespace Go.Sx
open Go.RowKit
def setPl (p:Pool) (a b:Nat) (x:Option (Value × Sub)):Pool:=fun i j=>if i=a∧j=b then x else p i j
theorem setPl_at (p:Pool) (a b:Nat) (x:Option (Value × Sub)):setPl p a b x a b=x:=if_pos ⟨rfl,rfl⟩
theorem setPl_ne {p:Pool} {a b i j:Nat} {x:Option (Value × Sub)} (h:¬ (i=a∧j=b)):setPl p a b x i j=p i j:=if_neg h
theorem setPl_cases {p:Pool} {a b i j:Nat} {x:Option (Value × Sub)} {y:Value × Sub} (h:setPl p a b x i j=some y):(i=a∧j=b∧x=some y)∨(¬ (i=a∧j=b)∧p i j=some y):=by
 unfold setPl at h
 split at h
 ·rename_i g; exact .inl ⟨g.1,g.2,h⟩
 ·rename_i g; exact .inr ⟨g,h⟩
def Sub.ent:Sub→Ent
 | .box cs ty=>.box (cs.map .v) ty
 | .dm k l=>.dm k l
 | .out _=>.dead
def Sub.isOut:Sub→Bool
 | .out _=>true
 | _=>false
def padd (V:Value) (o:Nat):Value:=.pointer (some ⟨(addrOf V).block,(addrOf V).off+o,none⟩)
def poolRel (r:Rho) (w:World) (p:Pool):Prop:=∀ i j U s,p i j=some (U,s)→s.rel r w U
def poolOut (r:Rho) (p:Pool):Prop:=∀ i j U k,p i j=some (U,.out k)→r k=U
theorem poolRel.out {r:Rho} {w:World} {p:Pool} (h:poolRel r w p):poolOut r p:=fun i j U k hp=>h i j U _ hp
theorem map_v_den (r:Rho) (cs:List Value):(cs.map SC.v).map (SC.den r)=cs:=by
 rw [List.map_map]
 have:(SC.den r ∘ SC.v)=id:=rfl
 rw [this,List.map_id]
theorem Sub.ent_rel {r r':Rho} {w:World} {V:Value}:∀ {s:Sub},s.isOut=false→(s.rel r w V ↔ s.ent.rel r' w V)
 | .box cs ty,_=>by
  constructor
  ·rintro ⟨b,h1,h2⟩; exact ⟨b,h1,by rw [map_v_den]; exact h2⟩
  ·rintro ⟨b,h1,h2⟩; exact ⟨b,h1,by rw [map_v_den] at h2; exact h2⟩
 | .dm _ _,_=>Iff.rfl
 | .out _,h=>by cases h
theorem Sub.ent_foot {V:Value} {b:Nat}:∀ {s:Sub},s.isOut=false→(s.foot V b ↔ Go.Sx.foot s.ent V b)
 | .box cs ty,_=>⟨.inl,fun h=>h.resolve_right id⟩
 | .dm _ _,_=>Iff.rfl
 | .out _,h=>by cases h
theorem Sub.ent_wfoot {V:Value} {b:Nat}:∀ {s:Sub},s.isOut=false→(s.wfoot V b ↔ Go.Sx.wfoot s.ent V b)
 | .box cs ty,_=>⟨.inl,fun h=>h.resolve_right id⟩
 | .dm _ _,_=>Iff.rfl
 | .out _,h=>by cases h
theorem Sub.ent_sc {m:Nat→Prop}:∀ {s:Sub},s.ent.sc m
 | .box cs ty=>fun x hx=>by obtain ⟨v,_,rfl⟩:=List.mem_map.1 hx; trivial
 | .dm _ _=>trivial
 | .out _=>trivial
theorem Sub.one {r:Rho} {w:World} {V:Value}:∀ {s:Sub},s.isOut=false→s.rel r w V→V.oneCell'=true
 | .box cs ty,_,⟨b,h,_⟩=>by rw [h]; rfl
 | .dm _ _,_,⟨⟨b,es,clock,h,_⟩,_⟩=>by rw [h]; rfl
 | .out _,h,_=>by cases h
theorem lk_bx2 {i c k:Nat} {x y:Ent} {l:List (Nat × Ent)} {e:Ent} (h:lk ((i,x) :: (c,y) :: l) k=some e):(k=i∧e=x)∨(k≠i∧k=c∧e=y)∨(k≠i∧k≠c∧lk l k=some e):=by
 simp only [lk] at h
 split at h
 ·rename_i g; cases h; exact .inl ⟨g.symm,rfl⟩
 ·rename_i g
  split at h
  ·rename_i g2; cases h; exact .inr (.inl ⟨fun q=>g q.symm,g2.symm,rfl⟩)
  ·rename_i g2; exact .inr (.inr ⟨fun q=>g q.symm,fun q=>g2 q.symm,h⟩)
theorem lk_bxo {i c k:Nat} {x y:Ent} {l:List (Nat × Ent)} (h:¬ (k=i∨k=c)):lk ((i,x) :: (c,y) :: l) k=lk l k:=by
 simp only [lk]
 rw [if_neg (fun q=>h (.inl q.symm)),if_neg (fun q=>h (.inr q.symm))]
section
variable {S:St}
theorem told_then {S1:St} {α:Type} {S2:α→St} (h:Told S (fun _:Unit=>S1)) (h2:Told S1 S2):Told S S2:=by
 intro base M N n0 r0 r a w hr
 obtain ⟨_,r1,h3⟩:=h base M N n0 r0 r a w hr
 exact h2 base M N n0 r0 r1 a w h3
theorem told_then2 {α:Type} {S1 S2:α→St} (h:Told S S1) (h2:∀ y,Told (S1 y) (fun _:Unit=>S2 y)):Told S S2:=by
 intro base M N n0 r0 r a w hr
 obtain ⟨y,r1,h3⟩:=h base M N n0 r0 r a w hr
 obtain ⟨_,r2,h4⟩:=h2 y base M N n0 r0 r1 a w h3
 exact ⟨y,r2,h4⟩
theorem told_take (i n:Nat) (f:Nat→SC) (ty:TypeId) (p:Pool) (a b:Nat) (U:Value) (s:Sub) (hi:lk S.ents i=some (.bx n f ty p)) (hp:p a b=some (U,s)) (hs:s.isOut=false) :
  Told S (fun _:Unit=>⟨S.env,(i,.bx n f ty (setPl p a b (some (U,.out S.next)))) :: (S.next,s.ent) :: S.ents,S.next+1⟩):=by
 intro base M N n0 r0 r act w hr
 have hh:=hr.heap
 have hb:=hh.ent i _ hi
 have hil:=hr.scH i _ hi
 have hrel:=hb.2.1 a b U s hp
 have h1:=Sub.one hs hrel
 have hne:∀ j,upto S.next j→j≠S.next:=fun j hj=>Nat.ne_of_lt hj
 have hin:i≠S.next:=hne i hil.1
 have hri:more r S.next U i=r i:=more_ne i hin
 have hB:∀ q,poolB (setPl p a b (some (U,.out S.next))) q→poolB p q:=by
  rintro q ⟨i',j',U',s',h2,h3⟩
  rcases setPl_cases h2 with ⟨rfl,rfl,h4⟩ | ⟨_,h4⟩
  ·cases h4; cases h3
  ·exact ⟨i',j',U',s',h4,h3⟩
 have hW:∀ q,poolW (setPl p a b (some (U,.out S.next))) q→poolW p q:=by
  rintro q ⟨i',j',U',s',h2,h3⟩
  rcases setPl_cases h2 with ⟨rfl,rfl,h4⟩ | ⟨_,h4⟩
  ·cases h4; cases h3
  ·exact ⟨i',j',U',s',h4,h3⟩
 have hall:∀ j' e,lk ((i,Ent.bx n f ty (setPl p a b (some (U,.out S.next)))) :: (S.next,s.ent) :: S.ents) j'=some e→j' < S.next+1∧e.sc (upto (S.next+1)):=by
  intro k x hx
  rcases lk_bx2 hx with ⟨rfl,rfl⟩ | ⟨_,rfl,rfl⟩ | ⟨_,_,h2⟩
  ·refine ⟨Nat.lt_succ_of_lt hil.1,fun j=>SC.sc_mono (upto_mono (Nat.le_succ _)) (hil.2.1 j),fun i' j' U' k' h2=>?_⟩
   rcases setPl_cases h2 with ⟨rfl,rfl,h4⟩ | ⟨_,h4⟩
   ·cases h4; exact Nat.lt_succ_self _
   ·exact Nat.lt_succ_of_lt (hil.2.2 i' j' U' k' h4)
  ·exact ⟨Nat.lt_succ_self _,Sub.ent_sc⟩
  ·have:=hr.scH k x h2
   exact ⟨Nat.lt_succ_of_lt this.1,Ent.sc_mono (upto_mono (Nat.le_succ _)) this.2⟩
 refine ⟨(),more r S.next U,hr.defers,hr.tmps,fun t v hl=>?_,?_,fun t v hl=>SV.sc_mono (upto_mono (Nat.le_succ _)) (hr.scE t v hl),hall,Nat.le_trans hr.low (Nat.le_succ _),fun j hj=>?_⟩
 ·rw [SV.den_ext (m:=upto S.next) (fun i hi=>more_ne i (hne i hi)) (hr.scE t v hl)]
  exact hr.slot t v hl
 ·refine hh.redo (fun k=>k=i∨k=S.next) (fun k hk=>lk_bxo hk) (fun k e hk he=>⟨more_ne k (fun q=>hk (.inr q)),Ent.sc_mono (fun j hj=>more_ne j (hne j hj)) (hr.scH k e he).2⟩) (more_one hh.one h1) (Nat.le_refl _) rfl rfl (.refl _) (fun _ _ _=>rfl) ?_ ?_ ?_ ?_
  ·intro k e hk he
   rcases lk_bx2 he with ⟨rfl,rfl⟩ | ⟨_,rfl,rfl⟩ | ⟨h2,h3,_⟩
   ·rw [hri]
    have hx:=Ent.rel_ext (r':=more r S.next U) (m:=upto S.next) (fun j hj=>more_ne j (hne j hj)) hil.2 hb
    obtain ⟨⟨b0,g1,g2,g3⟩,g4,g5⟩:=hx
    refine ⟨⟨b0,g1,g2,fun q=>g3 (hB _ q)⟩,fun i' j' U' s' h2=>?_,fun i1 j1 i2 j2 U1 U2 s1 s2 q q1 q2 hne' hw' hf'=>?_⟩
    ·rcases setPl_cases h2 with ⟨rfl,rfl,h4⟩ | ⟨_,h4⟩
     ·cases h4; exact more_new
     ·exact g4 i' j' U' s' h4
    ·rcases setPl_cases q1 with ⟨rfl,rfl,h4⟩ | ⟨_,h4⟩
     ·cases h4; cases hw'
     ·rcases setPl_cases q2 with ⟨rfl,rfl,h5⟩ | ⟨_,h5⟩
      ·cases h5; cases hf'
      ·exact g5 i1 j1 i2 j2 U1 U2 s1 s2 q h4 h5 hne' hw' hf'
   ·rw [more_new]; exact (Sub.ent_rel hs).1 hrel
   ·exact (hk.elim h2 h3).elim
  ·intro k e hk he hl q hq
   rcases lk_bx2 he with ⟨rfl,rfl⟩ | ⟨_,rfl,rfl⟩ | ⟨h2,h3,_⟩
   ·rw [hri] at hq
    exact .inr ⟨k,_,.inl rfl,hi,rfl,hq.imp id (hB q)⟩
   ·rw [more_new] at hq
    exact .inr ⟨i,_,.inl rfl,hi,rfl,.inr ⟨a,b,U,s,hp,(Sub.ent_foot hs).2 hq⟩⟩
   ·exact (hk.elim h2 h3).elim
  ·intro k e hk he hl q hq
   rcases lk_bx2 he with ⟨rfl,rfl⟩ | ⟨_,rfl,rfl⟩ | ⟨h2,h3,_⟩
   ·rw [hri] at hq
    exact .inr ⟨k,_,.inl rfl,hi,rfl,hq.imp id (hW q)⟩
   ·rw [more_new] at hq
    exact .inr ⟨i,_,.inl rfl,hi,rfl,.inr ⟨a,b,U,s,hp,(Sub.ent_wfoot hs).2 hq⟩⟩
   ·exact (hk.elim h2 h3).elim
  ·intro k j e e' hk hj hkj he he' hm hl q hq hq'
   obtain ⟨⟨b0,g1,g2,g3⟩,g4,g5⟩:=hb
   rcases lk_bx2 he with ⟨rfl,rfl⟩ | ⟨_,rfl,rfl⟩ | ⟨h2,h3,_⟩
   ·rcases lk_bx2 he' with ⟨rfl,rfl⟩ | ⟨_,rfl,rfl⟩ | ⟨h2,h3,_⟩
    ·exact hkj rfl
    ·rw [hri] at hq
     rw [more_new] at hq'
     have hf:=(Sub.ent_foot hs).2 hq'
     rcases hq with hq | ⟨i',j',U',s',h2,h3⟩
     ·rw [g1] at hq; cases hq
      exact g3 ⟨a,b,U,s,hp,hf⟩
     ·rcases setPl_cases h2 with ⟨rfl,rfl,h4⟩ | ⟨h5,h4⟩
      ·cases h4; cases h3
      ·exact g5 i' j' a b U' U s' s q h4 hp (by omega) h3 hf
    ·exact (hj.elim h2 h3).elim
   ·rcases lk_bx2 he' with ⟨rfl,rfl⟩ | ⟨_,rfl,rfl⟩ | ⟨h2,h3,_⟩
    ·rw [hri] at hq'
     rw [more_new] at hq
     have hf:=(Sub.ent_wfoot hs).2 hq
     rcases hq' with hq' | ⟨i',j',U',s',h2,h3⟩
     ·rw [g1] at hq'; cases hq'
      exact g3 ⟨a,b,U,s,hp,Sub.wfoot_foot hf⟩
     ·rcases setPl_cases h2 with ⟨rfl,rfl,h4⟩ | ⟨h5,h4⟩
      ·cases h4; cases h3
      ·exact g5 a b i' j' U U' s s' q hp h4 (by omega) hf h3
    ·exact hkj rfl
    ·exact (hj.elim h2 h3).elim
   ·exact (hk.elim h2 h3).elim
 ·rw [more_ne j (Nat.ne_of_lt (Nat.lt_of_lt_of_le hj hr.low))]
  exact hr.keep j hj
theorem told_put {α:Type} (V0:α→Value) (i n:Nat) (f:Nat→SC) (f':α→Nat→SC) (ty:TypeId) (p:Pool) (a b:Nat) (s:α→Sub) (k:Nat) (e:Ent) (hi:lk S.ents i=some (.bx n f ty p)) (hk:lk S.ents k=some e) (hik:i≠k) (hm:e.mut=true)
  (hs:∀ r w,poolRel r w p→e.rel r w (r k)→∃ y,V0 y=r k∧(s y).rel r w (V0 y)∧(∀ q,(s y).foot (V0 y) q→foot e (V0 y) q)∧(∀ q,(s y).wfoot (V0 y) q→wfoot e (V0 y) q)∧(s y).isOut=false∧(∀ j,j < n→(f' y j).den r=(f j).den r)∧∀ m:Nat→Prop,(∀ j,(f j).sc m)→∀ j,(f' y j).sc m) :
  Told S (fun y:α=>⟨S.env,(i,.bx n (f' y) ty (setPl p a b (some (V0 y,s y)))) :: (k,.dead) :: S.ents,S.next⟩):=by
 intro base M N n0 r0 r act w hr
 have hh:=hr.heap
 have hb:=hh.ent i _ hi
 have hek:=hh.ent k _ hk
 have hil:=hr.scH i _ hi
 obtain ⟨y,hV,hrel,hF,hWF,hno,hden,hsc⟩:=hs r w hb.2.1 hek
 refine ⟨y,r,hr.defers,hr.tmps,hr.slot,?_,hr.scE,?_,hr.low,hr.keep⟩
 ·have hB:∀ q,poolB (setPl p a b (some (V0 y,s y))) q→poolB p q∨foot e (r k) q:=by
   rintro q ⟨i',j',U',s',h2,h3⟩
   rcases setPl_cases h2 with ⟨rfl,rfl,h4⟩ | ⟨_,h4⟩
   ·cases h4; rw [← hV]; exact .inr (hF q h3)
   ·exact .inl ⟨i',j',U',s',h4,h3⟩
  have hW:∀ q,poolW (setPl p a b (some (V0 y,s y))) q→poolW p q∨wfoot e (r k) q:=by
   rintro q ⟨i',j',U',s',h2,h3⟩
   rcases setPl_cases h2 with ⟨rfl,rfl,h4⟩ | ⟨_,h4⟩
   ·cases h4; rw [← hV]; exact .inr (hWF q h3)
   ·exact .inl ⟨i',j',U',s',h4,h3⟩
  have ap1:=hh.apart i k _ _ hik hi hk rfl (Ent.mut_live hm)
  have ap2:=hh.apart k i _ _ (Ne.symm hik) hk hi hm rfl
  refine hh.redo (fun j=>j=i∨j=k) (fun j hj=>lk_bxo hj) (fun j e he _=>⟨rfl,Ent.sc_all (fun _=>rfl) _⟩) hh.one (Nat.le_refl _) rfl rfl (.refl _) (fun _ _ _=>rfl) ?_ ?_ ?_ ?_
  ·intro j x hj hx
   rcases lk_bx2 hx with ⟨rfl,rfl⟩ | ⟨_,rfl,rfl⟩ | ⟨h2,h3,_⟩
   ·obtain ⟨⟨b0,g1,g2,g3⟩,g4,g5⟩:=hb
    refine ⟨⟨b0,g1,?_,fun q=>?_⟩,fun i' j' U' s' h2=>?_,fun i1 j1 i2 j2 U1 U2 s1 s2 q q1 q2 hne' hw' hf'=>?_⟩
    ·have:(rngS n (f' y)).map (SC.den r)=(rngS n f).map (SC.den r):=by
      unfold rngS
      rw [List.map_map,List.map_map]
      exact List.map_congr_left fun j hj=>hden j (List.mem_range.1 hj)
     rw [this]; exact g2
    ·rcases hB _ q with q | q
     ·exact g3 q
     ·exact ap1 b0 (.inl (by rw [g1]; rfl)) q
    ·rcases setPl_cases h2 with ⟨rfl,rfl,h4⟩ | ⟨_,h4⟩
     ·cases h4; exact hrel
     ·exact g4 i' j' U' s' h4
    ·rcases setPl_cases q1 with ⟨rfl,rfl,h4⟩ | ⟨n1,h4⟩
     ·cases h4
      rcases setPl_cases q2 with ⟨rfl,rfl,h5⟩ | ⟨_,h5⟩
      ·omega
      ·exact ap2 q (by rw [← hV]; exact hWF q hw') (.inr ⟨i2,j2,U2,s2,h5,hf'⟩)
     ·rcases setPl_cases q2 with ⟨rfl,rfl,h5⟩ | ⟨_,h5⟩
      ·cases h5
       exact ap1 q (.inr ⟨i1,j1,U1,s1,h4,hw'⟩) (by rw [← hV]; exact hF q hf')
      ·exact g5 i1 j1 i2 j2 U1 U2 s1 s2 q h4 h5 hne' hw' hf'
   ·trivial
   ·exact (hj.elim h2 h3).elim
  ·intro j x hj hx hl q hq
   rcases lk_bx2 hx with ⟨rfl,rfl⟩ | ⟨_,rfl,rfl⟩ | ⟨h2,h3,_⟩
   ·rcases hq with hq | hq
    ·exact .inr ⟨j,_,.inl rfl,hi,rfl,.inl hq⟩
    ·rcases hB q hq with hq | hq
     ·exact .inr ⟨j,_,.inl rfl,hi,rfl,.inr hq⟩
     ·exact .inr ⟨k,_,.inr rfl,hk,Ent.mut_live hm,hq⟩
   ·cases hl
   ·exact (hj.elim h2 h3).elim
  ·intro j x hj hx hm' q hq
   rcases lk_bx2 hx with ⟨rfl,rfl⟩ | ⟨_,rfl,rfl⟩ | ⟨h2,h3,_⟩
   ·rcases hq with hq | hq
    ·exact .inr ⟨j,_,.inl rfl,hi,rfl,.inl hq⟩
    ·rcases hW q hq with hq | hq
     ·exact .inr ⟨j,_,.inl rfl,hi,rfl,.inr hq⟩
     ·exact .inr ⟨k,_,.inr rfl,hk,hm,hq⟩
   ·cases hm'
   ·exact (hj.elim h2 h3).elim
  ·intro j j' x x' hj hj' hjj hx hx' hm' hl q hq hq'
   rcases lk_bx2 hx with ⟨rfl,rfl⟩ | ⟨_,rfl,rfl⟩ | ⟨h2,h3,_⟩
   ·rcases lk_bx2 hx' with ⟨rfl,rfl⟩ | ⟨_,rfl,rfl⟩ | ⟨h2,h3,_⟩
    ·exact hjj rfl
    ·cases hl
    ·exact (hj'.elim h2 h3).elim
   ·cases hm'
   ·exact (hj.elim h2 h3).elim
 ·intro j x hx
  rcases lk_bx2 hx with ⟨rfl,rfl⟩ | ⟨_,rfl,rfl⟩ | ⟨_,_,h2⟩
  ·refine ⟨hil.1,hsc _ hil.2.1,fun i' j' U' k' h2=>?_⟩
   rcases setPl_cases h2 with ⟨rfl,rfl,h4⟩ | ⟨_,h4⟩
   ·have h5:=congrArg Prod.snd (Option.some.inj h4)
    simp only at h5
    rw [h5] at hno; cases hno
   ·exact hil.2.2 i' j' U' k' h4
  ·exact ⟨(hr.scH _ _ hk).1,trivial⟩
  ·exact hr.scH j x h2
theorem told_cell (i n:Nat) (f f':Nat→SC) (ty:TypeId) (p:Pool) (hi:lk S.ents i=some (.bx n f ty p)) (hf:∀ r,poolOut r p→∀ j,j < n→(f' j).den r=(f j).den r) (hsc:∀ m:Nat→Prop,poolSc m p→(∀ j,(f j).sc m)→∀ j,(f' j).sc m) :
  Told S (fun _:Unit=>⟨S.env,(i,.bx n f' ty p) :: S.ents,S.next⟩):=by
 intro base M N n0 r0 r act w hr
 have hh:=hr.heap
 have hb:=hh.ent i _ hi
 have hil:=hr.scH i _ hi
 have hlk:∀ k x,lk ((i,Ent.bx n f' ty p) :: S.ents) k=some x→(k=i∧x = .bx n f' ty p)∨(k≠i∧lk S.ents k=some x):=by
  intro k x hx
  simp only [lk] at hx
  split at hx
  ·rename_i g; cases hx; exact .inl ⟨g.symm,rfl⟩
  ·rename_i g; exact .inr ⟨fun q=>g q.symm,hx⟩
 refine ⟨(),r,hr.defers,hr.tmps,hr.slot,?_,hr.scE,?_,hr.low,hr.keep⟩
 ·refine hh.redo (fun j=>j=i) (fun j hj=>by simp only [lk]; rw [if_neg (fun q=>hj q.symm)]) (fun j e he _=>⟨rfl,Ent.sc_all (fun _=>rfl) _⟩) hh.one (Nat.le_refl _) rfl rfl (.refl _) (fun _ _ _=>rfl) ?_ ?_ ?_ ?_
  ·intro j x hj hx
   rcases hlk j x hx with ⟨rfl,rfl⟩ | ⟨h2,_⟩
   ·obtain ⟨⟨b0,g1,g2,g3⟩,g4,g5⟩:=hb
    refine ⟨⟨b0,g1,?_,g3⟩,g4,g5⟩
    have:(rngS n f').map (SC.den r)=(rngS n f).map (SC.den r):=by
     unfold rngS
     rw [List.map_map,List.map_map]
     exact List.map_congr_left fun j hj=>hf r (poolRel.out g4) j (List.mem_range.1 hj)
    rw [this]; exact g2
   ·exact (h2 hj).elim
  ·intro j x hj hx hl q hq
   rcases hlk j x hx with ⟨rfl,rfl⟩ | ⟨h2,_⟩
   ·exact .inr ⟨j,_,rfl,hi,rfl,hq⟩
   ·exact (h2 hj).elim
  ·intro j x hj hx hl q hq
   rcases hlk j x hx with ⟨rfl,rfl⟩ | ⟨h2,_⟩
   ·exact .inr ⟨j,_,rfl,hi,rfl,hq⟩
   ·exact (h2 hj).elim
  ·intro j j' x x' hj hj' hjj
   exact (hjj (hj.trans hj'.symm)).elim
 ·intro j x hx
  rcases hlk j x hx with ⟨rfl,rfl⟩ | ⟨_,h2⟩
  ·exact ⟨hil.1,hsc _ hil.2.2 hil.2.1,hil.2.2⟩
  ·exact hr.scH j x h2
theorem told_slot (i n:Nat) (f:Nat→SC) (ty:TypeId) (p:Pool) (t:Nat) (v v':SV) (hi:lk S.ents i=some (.bx n f ty p)) (ht:lk S.env t=some v) (hv:∀ r,poolOut r p→v'.den r=v.den r) (hsc:∀ m:Nat→Prop,poolSc m p→v.sc m→v'.sc m) :
  Told S (fun _:Unit=>⟨(t,v') :: S.env,S.ents,S.next⟩):=by
 intro base M N n0 r0 r act w hr
 have hb:=hr.heap.ent i _ hi
 refine ⟨(),r,hr.defers,hr.tmps,fun t' x hx=>?_,hr.heap,fun t' x hx=>?_,hr.scH,hr.low,hr.keep⟩
 ·simp only [lk] at hx
  split at hx
  ·rename_i g; cases hx; subst g
   rw [hv r (poolRel.out hb.2.1)]
   exact hr.slot _ _ ht
  ·exact hr.slot _ _ hx
 ·simp only [lk] at hx
  split at hx
  ·cases hx; exact hsc _ (hr.scH i _ hi).2.2 (hr.scE t v ht)
  ·exact hr.scE _ _ hx
theorem told_names (i n:Nat) (f:Nat→SC) (ty:TypeId) (p:Pool) (k:Nat) (cs cs':List SC) (ty':TypeId) (hi:lk S.ents i=some (.bx n f ty p)) (hk:lk S.ents k=some (.box cs ty')) (hc:∀ r,poolOut r p→cs'.map (SC.den r)=cs.map (SC.den r)) (hsc:∀ m:Nat→Prop,poolSc m p→(∀ x∈cs,SC.sc m x)→∀ x∈cs',SC.sc m x) :
  Told S (fun _:Unit=>⟨S.env,(k,.box cs' ty') :: S.ents,S.next⟩):=by
 intro base M N n0 r0 r act w hr
 have hh:=hr.heap
 have hb:=hh.ent i _ hi
 have hlk:∀ j x,lk ((k,Ent.box cs' ty') :: S.ents) j=some x→(j=k∧x = .box cs' ty')∨(j≠k∧lk S.ents j=some x):=by
  intro k x hx
  simp only [lk] at hx
  split at hx
  ·rename_i g; cases hx; exact .inl ⟨g.symm,rfl⟩
  ·rename_i g; exact .inr ⟨fun q=>g q.symm,hx⟩
 refine ⟨(),r,hr.defers,hr.tmps,hr.slot,?_,hr.scE,?_,hr.low,hr.keep⟩
 ·refine hh.redo (fun j=>j=k) (fun j hj=>by simp only [lk]; rw [if_neg (fun q=>hj q.symm)]) (fun j e he _=>⟨rfl,Ent.sc_all (fun _=>rfl) _⟩) hh.one (Nat.le_refl _) rfl rfl (.refl _) (fun _ _ _=>rfl) ?_ ?_ ?_ ?_
  ·intro j x hj hx
   rcases hlk j x hx with ⟨rfl,rfl⟩ | ⟨h2,_⟩
   ·obtain ⟨b0,g1,g2⟩:=hh.ent j _ hk
    exact ⟨b0,g1,by rw [hc r (poolRel.out hb.2.1)]; exact g2⟩
   ·exact (h2 hj).elim
  ·intro j x hj hx hl q hq
   rcases hlk j x hx with ⟨rfl,rfl⟩ | ⟨h2,_⟩
   ·exact .inr ⟨j,_,rfl,hk,rfl,hq⟩
   ·exact (h2 hj).elim
  ·intro j x hj hx hl q hq
   rcases hlk j x hx with ⟨rfl,rfl⟩ | ⟨h2,_⟩
   ·exact .inr ⟨j,_,rfl,hk,rfl,hq⟩
   ·exact (h2 hj).elim
  ·intro j j' x x' hj hj' hjj
   exact (hjj (hj.trans hj'.symm)).elim
 ·intro j x hx
  rcases hlk j x hx with ⟨rfl,rfl⟩ | ⟨_,h2⟩
  ·exact ⟨(hr.scH _ _ hk).1,hsc _ (hr.scH i _ hi).2.2 (hr.scH _ _ hk).2⟩
  ·exact hr.scH j x h2
theorem told_bx (i n:Nat) (cs:List SC) (f:Nat→SC) (ty:TypeId) (hi:lk S.ents i=some (.box cs ty)) (hc:rngS n f=cs) (hsc:∀ m:Nat→Prop,(∀ x∈cs,SC.sc m x)→∀ j,(f j).sc m) :
  Told S (fun _:Unit=>⟨S.env,(i,.bx n f ty (fun _ _=>none)) :: S.ents,S.next⟩):=by
 intro base M N n0 r0 r act w hr
 have hh:=hr.heap
 have hnB:∀ q,¬ poolB (fun _ _=>none) q:=by rintro q ⟨_,_,_,_,h,_⟩; cases h
 have hnW:∀ q,¬ poolW (fun _ _=>none) q:=by rintro q ⟨_,_,_,_,h,_⟩; cases h
 have hlk:∀ j x,lk ((i,Ent.bx n f ty (fun _ _=>none)) :: S.ents) j=some x→(j=i∧x = .bx n f ty (fun _ _=>none))∨(j≠i∧lk S.ents j=some x):=by
  intro k x hx
  simp only [lk] at hx
  split at hx
  ·rename_i g; cases hx; exact .inl ⟨g.symm,rfl⟩
  ·rename_i g; exact .inr ⟨fun q=>g q.symm,hx⟩
 refine ⟨(),r,hr.defers,hr.tmps,hr.slot,?_,hr.scE,?_,hr.low,hr.keep⟩
 ·refine hh.redo (fun j=>j=i) (fun j hj=>by simp only [lk]; rw [if_neg (fun q=>hj q.symm)]) (fun j e he _=>⟨rfl,Ent.sc_all (fun _=>rfl) _⟩) hh.one (Nat.le_refl _) rfl rfl (.refl _) (fun _ _ _=>rfl) ?_ ?_ ?_ ?_
  ·intro j x hj hx
   rcases hlk j x hx with ⟨rfl,rfl⟩ | ⟨h2,_⟩
   ·obtain ⟨b0,g1,g2⟩:=hh.ent j _ hi
    exact ⟨⟨b0,g1,by rw [hc]; exact g2,hnB _⟩,(fun _ _ _ _ h=>by cases h),(fun _ _ _ _ _ _ _ _ _ h=>by cases h)⟩
   ·exact (h2 hj).elim
  ·intro j x hj hx hl q hq
   rcases hlk j x hx with ⟨rfl,rfl⟩ | ⟨h2,_⟩
   ·exact .inr ⟨j,_,rfl,hi,rfl,.inl (hq.resolve_right (hnB q))⟩
   ·exact (h2 hj).elim
  ·intro j x hj hx hl q hq
   rcases hlk j x hx with ⟨rfl,rfl⟩ | ⟨h2,_⟩
   ·exact .inr ⟨j,_,rfl,hi,rfl,.inl (hq.resolve_right (hnW q))⟩
   ·exact (h2 hj).elim
  ·intro j j' x x' hj hj' hjj
   exact (hjj (hj.trans hj'.symm)).elim
 ·intro j x hx
  rcases hlk j x hx with ⟨rfl,rfl⟩ | ⟨_,h2⟩
  ·exact ⟨(hr.scH _ _ hi).1,hsc _ (hr.scH _ _ hi).2,fun _ _ _ _ h=>by cases h⟩
  ·exact hr.scH j x h2
theorem told_as {S':St} (h1:∀ t v,lk S'.env t=some v→lk S.env t=some v) (h2:∀ i,lk S'.ents i=lk S.ents i) (h3:S.next=S'.next):Told S (fun _:Unit=>S'):=by
 intro base M N n0 r0 r act w hr
 have he:lk S'.ents=lk S.ents:=funext h2
 exact ⟨(),r,hr.defers,hr.tmps,fun t v hv=>hr.slot t v (h1 t v hv),by rw [he]; exact hr.heap,fun t v hv=>by rw [← h3]; exact hr.scE t v (h1 t v hv),fun i e hx=>by rw [← h3]; exact hr.scH i e (by rw [← h2]; exact hx),by rw [← h3]; exact hr.low,hr.keep⟩
end
theorem nth_rngS (n j:Nat) (f:Nat→SC):nth (rngS n f) j=if j < n then some (f j) else none:=by
 unfold rngS
 rw [nth_eq,List.getElem?_map]
 split
 ·rename_i h; rw [List.getElem?_range h]; rfl
 ·rename_i h; rw [List.getElem?_eq_none (by simp; omega)]; rfl
theorem takeAt_rngS {n j m:Nat} (f:Nat→SC) (h:j+m≤n):takeAt (rngS n f) j m=rngS m (fun i=>f (j+i)):=by
 rw [takeAt_eq]
 unfold rngS
 apply List.ext_getElem?
 intro q
 rw [List.getElem?_take]
 split
 ·rename_i hq
  rw [List.getElem?_drop,List.getElem?_map,List.getElem?_map,List.getElem?_range (by omega),List.getElem?_range hq]; rfl
 ·rename_i hq
  rw [List.getElem?_eq_none (by simp; omega)]
theorem length_rngS (n:Nat) (f:Nat→SC):(rngS n f).length=n:=rngS_len n f
theorem subL_rngS {n:Nat} {f:Nat→SC} (b:Bnd):subL b (rngS n f)=rngS n (fun j=>(f j).sub b):=by
 have:∀ l:List SC,subL b l=l.map (SC.sub b):=fun l=>by induction l with
  | nil=>rfl
  | cons x l ih=>simp [subL,ih]
 rw [this]
 unfold rngS
 rw [List.map_map]; rfl
theorem scL_rngS {n:Nat} {f:Nat→SC} {m:Nat→Prop} (h:∀ j,(f j).sc m):scL m (rngS n f):=by
 rw [scL_iff]; exact rngS_sc h
end Go.Sx
