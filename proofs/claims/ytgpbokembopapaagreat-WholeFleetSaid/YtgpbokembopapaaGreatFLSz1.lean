/- A part of the proof of a statement about this seat: how a function is stepped through, and plain laws. No conditions. -/
import Derived.Deep.Quiet
import Derived.Below
import Derived.WalkKit
import Derived.WalkSpells
import Derived.Laws.StructEq
import Derived.Laws.Strings
import Derived.Laws.Cells
import Derived.Laws.BytesString
import Derived.Lib.Builder
import Derived.Lib.UnsafeStr
import Derived.LaidEql
import Derived.Deep.AppendSrc
import Derived.Laws.MakeOwn
import Derived.Great.BuildSlice
import Derived.Laws.Slices
import Derived.Laws.AppendOwn
set_option linter.unusedVariables false
set_option linter.unusedSimpArgs false
namespace Go.Sx
open Go.RowKit
abbrev Rho:=Nat→Value
def addrOf:Value→Addr
 | .pointer (some a)=>a
 | .slice (some a) _ _=>a
 | _=>⟨0,0,none⟩
def blkOf:Value→Option Nat
 | .map (some b)=>some b
 | .pointer (some a)=>some a.block
 | .slice (some a) _ cap=>if cap=0 then none else some a.block
 | _=>none
inductive CP where
 | v (x:Value)
 | p (i j:Nat)
def CP.den (r:Rho):CP→Value
 | .v x=>x
 | .p i j=>.pointer (some ⟨(addrOf (r i)).block,(addrOf (r i)).off+j,none⟩)
def CP.sc (m:Nat→Prop):CP→Prop
 | .v _=>True
 | .p i _=>m i
def denP (r:Rho):List CP→List Value
 | []=>[]
 | x :: l=>x.den r :: denP r l
def scP (m:Nat→Prop):List CP→Prop
 | []=>True
 | x :: l=>x.sc m∧scP m l
theorem CP.den_ext {r r':Rho} {m:Nat→Prop} (h:∀ i,m i→r' i=r i):∀ {x:CP},x.sc m→x.den r'=x.den r
 | .v _,_=>rfl
 | .p i j,hs=>by simp only [CP.den]; rw [h i hs]
theorem denP_ext {r r':Rho} {m:Nat→Prop} (h:∀ i,m i→r' i=r i):∀ {l:List CP},scP m l→denP r' l=denP r l
 | [],_=>rfl
 | x :: l,hs=>by simp only [denP]; rw [CP.den_ext h hs.1,denP_ext h hs.2]
theorem scP_mono {m m':Nat→Prop} (h:∀ i,m i→m' i):∀ {l:List CP},scP m l→scP m' l
 | [],_=>trivial
 | .v _ :: l,hs=>⟨trivial,scP_mono h hs.2⟩
 | .p i _ :: l,hs=>⟨h _ hs.1,scP_mono h hs.2⟩
inductive SC where
 | v (x:Value)
 | p (i j:Nat)
 | n (i:Nat)
 | q (i sz e j:Nat)
 | f (g:Nat) (cs:List CP)
def SC.den (r:Rho):SC→Value
 | .v x=>x
 | .p i j=>.pointer (some ⟨(addrOf (r i)).block,(addrOf (r i)).off+j,none⟩)
 | .n i=>r i
 | .q i sz e j=>.pointer (some ⟨(addrOf (r i)).block,(addrOf (r i)).off+(e * sz+j),none⟩)
 | .f g cs=>.func (.func g) #[] (denP r cs).toArray
def upto (n:Nat) (i:Nat):Prop:=i < n
def SC.sc (m:Nat→Prop):SC→Prop
 | .v _=>True
 | .p i _=>m i
 | .n i=>m i
 | .q i _ _ _=>m i
 | .f _ cs=>scP m cs
inductive S1 where
 | c (x:SC)
 | a (cs:List SC)
def S1.den (r:Rho):S1→Value
 | .c x=>x.den r
 | .a cs=>.agg (cs.map (SC.den r)).toArray
def S1.sc (m:Nat→Prop):S1→Prop
 | .c x=>x.sc m
 | .a cs=>∀ x∈cs,x.sc m
def S1.cells:S1→List SC
 | .c x=>[x]
 | .a cs=>cs
inductive SV where
 | o (x:S1)
 | t (xs:List S1)
 | g (b:Bool) (x:S1)
def SV.den (r:Rho):SV→Value
 | .o x=>x.den r
 | .t xs=>.tuple (xs.map (S1.den r)).toArray
 | .g b x=>if b then x.den r else undef
def SV.sc (m:Nat→Prop):SV→Prop
 | .o x=>x.sc m
 | .t xs=>∀ x∈xs,x.sc m
 | .g _ x=>x.sc m
structure CC where
 X:Int
 Y:Int
structure DM where
 x:Int
 y:Int
 val:Value
 row:Option (Option TypeId × Nat × Nat × (Nat→Nat→Value))
def DM.own (d:DM):Bool:=match d.row with
 | some (some _,_)=>true
 | _=>false
def dmK (k:Bool) (x y:Int):Value:=match k with
 | true=>.agg #[.int .i64 x,.int .i64 y]
 | false=>.int .i64 x
inductive Sub where
 | box (cs:List Value) (ty:TypeId)
 | dm (k:Bool) (l:List DM)
 | out (k:Nat)
abbrev Pool:=Nat→Nat→Option (Value × Sub)
inductive Ent where
 | box (cs:List SC) (ty:TypeId)
 | ro (n sz:Nat) (f:Nat→Nat→SC)
 | own (n sz:Nat) (f:Nat→Nat→SC) (ty:TypeId)
 | nils
 | dead
 | deep (own:Option TypeId) (n sz:Nat) (f:Nat→Nat→Value) (c:Nat→Nat→Option (Nat × Nat × (Nat→Nat→Value))) (al:List (Nat × Nat × Nat))
 | inn (n sz:Nat) (f:Nat→Nat→Value) (c:Nat→Nat→Option (Nat × Nat × (Nat→Nat→Value)))
 | len (n:Nat)
 | als (j n:Nat) (full:Bool)
 | dm (k:Bool) (l:List DM)
 | itr (i m:Nat) (sn:List Nat)
 | bx (n:Nat) (f:Nat→SC) (ty:TypeId) (p:Pool)
def rngS (n:Nat) (f:Nat→SC):List SC:=(List.range n).map f
def poolSc (m:Nat→Prop) (p:Pool):Prop:=∀ i j U k,p i j=some (U,.out k)→m k
def alIs (r:Rho) (f:Nat→Nat→Value):List (Nat × Nat × Nat)→Prop
 | []=>True
 | (e,j,c) :: l=>r c=f e j∧alIs r f l
def alSc (m:Nat→Prop):List (Nat × Nat × Nat)→Prop
 | []=>True
 | (_,_,c) :: l=>m c∧alSc m l
def alF (f:Nat→Nat→Value):List (Nat × Nat × Nat)→Nat→Nat→SC
 | [],e,j=>.v (f e j)
 | (e0,j0,c) :: l,e,j=>if e=e0∧j=j0 then .n c else alF f l e j
theorem alF_den {r:Rho} {f:Nat→Nat→Value} {e j:Nat}:∀ {al:List (Nat × Nat × Nat)},alIs r f al→(alF f al e j).den r=f e j
 | [],_=>rfl
 | (e0,j0,c) :: l,h=>by
  simp only [alF]
  split
  ·rename_i hh; obtain ⟨rfl,rfl⟩:=hh; exact h.1
  ·exact alF_den h.2
theorem alF_sc {m:Nat→Prop} {f:Nat→Nat→Value} {e j:Nat}:∀ {al:List (Nat × Nat × Nat)},alSc m al→(alF f al e j).sc m
 | [],_=>trivial
 | (e0,j0,c) :: l,h=>by
  simp only [alF]
  split
  ·exact h.1
  ·exact alF_sc h.2
theorem alSc_mono {m m':Nat→Prop} (h:∀ i,m i→m' i):∀ {al:List (Nat × Nat × Nat)},alSc m al→alSc m' al
 | [],_=>trivial
 | (_,_,_) :: _,hs=>⟨h _ hs.1,alSc_mono h hs.2⟩
theorem alIs_ext {r r':Rho} {m:Nat→Prop} {f:Nat→Nat→Value} (h:∀ i,m i→r' i=r i):∀ {al:List (Nat × Nat × Nat)},alSc m al→alIs r f al→alIs r' f al
 | [],_,_=>trivial
 | (_,_,_) :: _,hs,ha=>⟨(h _ hs.1).trans ha.1,alIs_ext h hs.2 ha.2⟩
def BornOk (es:Array MapEntry) (clock:Nat):Prop:=clock=es.size∧∀ (i:Nat) (e:MapEntry),es[i]?=some e→e.born=i
def Ent.sc (m:Nat→Prop):Ent→Prop
 | .box cs _=>∀ x∈cs,x.sc m
 | .ro _ _ f=>∀ e j,(f e j).sc m
 | .own _ _ f _=>∀ e j,(f e j).sc m
 | .nils=>True
 | .dead=>True
 | .deep _ _ _ _ _ al=>alSc m al
 | .inn _ _ _ _=>True
 | .len _=>True
 | .als j _ _=>m j
 | .dm _ _=>True
 | .itr i _ _=>m i
 | .bx _ f _ p=>(∀ j,(f j).sc m)∧poolSc m p
def Ent.mut:Ent→Bool
 | .box ..=>true
 | .ro ..=>false
 | .own ..=>true
 | .nils=>false
 | .dead=>false
 | .deep o _ _ _ _ _=>o.isSome
 | .inn _ _ _ _=>false
 | .len _=>false
 | .als _ _ _=>false
 | .dm _ _=>true
 | .itr _ _ _=>true
 | .bx ..=>true
def Ent.live:Ent→Bool
 | .dead=>false
 | .len _=>false
 | .als _ _ _=>false
 | _=>true
def rowIs (w:World) (V:Value) (n sz:Nat) (g:Nat→Nat→Value):Prop :=
 ∃ a cap,V = .slice a n cap∧n≤cap∧n≤9223372036854775807∧(0 < n→∃ b o,a=some ⟨b,o,none⟩∧b < w.heap.size∧∀ e j,e < n→j < sz→w.cell? ⟨b,o+(e * sz+j),none⟩=some (g e j))
def RowB (w:World) (b:Nat) (cur:Array Value) (ty:TypeId):Prop:=∃ z:Nat × Nat,w.heap[b]?=some (.cells cur ty z)∧(z=(0,0)∨cur.size≤z.1)
theorem RowB.of {w:World} {b:Nat} {cur:Array Value} {ty:TypeId} (h:w.heap[b]?=some (.cells cur ty (0,0))):RowB w b cur ty:=⟨_,h,.inl rfl⟩
theorem RowB.lt {w:World} {b:Nat} {cur:Array Value} {ty:TypeId}:RowB w b cur ty→b < w.heap.size:=fun ⟨_,h,_⟩=>(Array.getElem?_eq_some_iff.1 h).1
theorem RowB.congr {w w':World} {b:Nat} {cur:Array Value} {ty:TypeId} (e:w'.heap[b]?=w.heap[b]?):RowB w b cur ty→RowB w' b cur ty:=fun ⟨z,h,hz⟩=>⟨z,e.trans h,hz⟩
def ownIs (w:World) (V:Value) (n sz:Nat) (g:Nat→Nat→Value) (ty:TypeId):Prop :=
 n≤9223372036854775807∧((∃ b o cap cur,V = .slice (some ⟨b,o,none⟩) n cap∧RowB w b cur ty∧n≤cap∧0 < cap∧o+cap * sz≤cur.size∧∀ e j,e < n→j < sz→cur[o+(e * sz+j)]?=some (g e j))∨(∃ a,V = .slice a 0 0∧n=0))
def innerIs (w:World) (n sz:Nat) (f:Nat→Nat→Value) (c:Nat→Nat→Option (Nat × Nat × (Nat→Nat→Value))):Prop :=
 ∀ e j n' sz' g,e < n→j < sz→c e j=some (n',sz',g)→rowIs w (f e j) n' sz' g
def innerB (n sz:Nat) (f:Nat→Nat→Value) (c:Nat→Nat→Option (Nat × Nat × (Nat→Nat→Value))) (b:Nat):Prop :=
 ∃ e j,e < n∧j < sz∧(c e j).isSome=true∧blkOf (f e j)=some b
def dmB (l:List DM) (b:Nat):Prop:=∃ d∈l,d.row.isSome=true∧blkOf d.val=some b
def dmW (l:List DM) (b:Nat):Prop:=∃ d∈l,d.own=true∧blkOf d.val=some b
def dmRow (w:World) (V:Value) (n sz:Nat) (g:Nat→Nat→Value):Option TypeId→Prop
 | none=>rowIs w V n sz g
 | some ty=>ownIs w V n sz g ty
def dmIs (w:World) (l:List DM):Prop:=∀ d∈l,∀ o n sz g,d.row=some (o,n,sz,g)→dmRow w d.val n sz g o
def dmAp (l:List DM):Prop:=∀ (i j:Nat) (d d':DM) (b:Nat),l[i]?=some d→l[j]?=some d'→i≠j→d.own=true→d'.row.isSome=true→blkOf d.val=some b→blkOf d'.val≠some b
theorem DM.own_row {d:DM} (h:d.own=true):d.row.isSome=true:=by
 unfold DM.own at h; split at h
 ·rename_i h1; rw [h1]; rfl
 ·cases h
theorem dmW_dmB {l:List DM} {b:Nat}:dmW l b→dmB l b:=fun ⟨d,h1,h2,h3⟩=>⟨d,h1,DM.own_row h2,h3⟩
def Sub.foot:Sub→Value→Nat→Prop
 | .box _ _,V,b=>blkOf V=some b
 | .dm _ l,V,b=>blkOf V=some b∨dmB l b
 | .out _,_,_=>False
def Sub.wfoot:Sub→Value→Nat→Prop
 | .box _ _,V,b=>blkOf V=some b
 | .dm _ l,V,b=>blkOf V=some b∨dmW l b
 | .out _,_,_=>False
theorem Sub.wfoot_foot {V:Value} {b:Nat}:∀ {s:Sub},s.wfoot V b→s.foot V b
 | .box _ _,h=>h
 | .dm _ _,h=>h.imp id dmW_dmB
 | .out _,h=>h
def poolB (p:Pool) (b:Nat):Prop:=∃ i j U s,p i j=some (U,s)∧s.foot U b
def poolW (p:Pool) (b:Nat):Prop:=∃ i j U s,p i j=some (U,s)∧s.wfoot U b
theorem poolW_poolB {p:Pool} {b:Nat}:poolW p b→poolB p b:=fun ⟨i,j,U,s,h1,h2⟩=>⟨i,j,U,s,h1,Sub.wfoot_foot h2⟩
def poolAp (p:Pool):Prop:=∀ i j i' j' U U' s s' b,p i j=some (U,s)→p i' j'=some (U',s')→(i≠i'∨j≠j')→s.wfoot U b→¬ s'.foot U' b
def Ent.inB:Ent→Nat→Prop
 | .bx _ _ _ p,b=>poolB p b
 | .dm _ l,b=>dmB l b
 | .deep _ n sz f c _,b=>innerB n sz f c b
 | .inn n sz f c,b=>innerB n sz f c b
 | _,_=>False
def Ent.wB:Ent→Nat→Prop
 | .dm _ l,b=>dmW l b
 | .bx _ _ _ p,b=>poolW p b
 | _,_=>False
theorem Ent.wB_inB:∀ {e:Ent} {b:Nat},e.wB b→e.inB b
 | .bx _ _ _ _,_,h=>poolW_poolB h
 | .dm _ _,_,h=>dmW_dmB h
def wfoot (e:Ent) (V:Value) (b:Nat):Prop:=blkOf V=some b∨e.wB b
def foot (e:Ent) (V:Value) (b:Nat):Prop:=blkOf V=some b∨e.inB b
theorem wfoot_foot {e:Ent} {V:Value} {b:Nat} (h:wfoot e V b):foot e V b:=h.imp id Ent.wB_inB
theorem wfoot_blk {e:Ent} {V:Value} {b:Nat} (hin:∀ b,¬ e.inB b) (h:wfoot e V b):blkOf V=some b:=h.resolve_right fun h=>hin b (Ent.wB_inB h)
def dmRel (w:World) (V:Value) (k:Bool) (l:List DM):Prop:=(∃ b es clock,V = .map (some b)∧w.heap[b]?=some (.map es clock)∧es.toList.map (fun e=>(e.key,e.val))=l.map (fun d=>(dmK k d.x d.y,d.val))∧BornOk es clock∧¬ dmB l b)∧dmIs w l∧dmAp l
def Sub.rel (r:Rho) (w:World) (V:Value):Sub→Prop
 | .box cs ty=>∃ b,V = .pointer (some ⟨b,0,none⟩)∧w.heap[b]?=some (.cells cs.toArray ty (0,0))
 | .dm k l=>dmRel w V k l
 | .out k=>r k=V
def Ent.rel (r:Rho) (w:World) (V:Value):Ent→Prop
 | .box cs ty=>∃ b,V = .pointer (some ⟨b,0,none⟩)∧w.heap[b]?=some (.cells (cs.map (SC.den r)).toArray ty (0,0))
 | .ro n sz f=>∃ a cap,V = .slice a n cap∧n≤cap∧n≤9223372036854775807∧(0 < n→∃ b o,a=some ⟨b,o,none⟩∧b < w.heap.size∧∀ e j,e < n→j < sz→w.cell? ⟨b,o+(e * sz+j),none⟩=some ((f e j).den r))
 | .own n sz f ty=>n≤9223372036854775807∧((∃ b o cap cur,V = .slice (some ⟨b,o,none⟩) n cap∧RowB w b cur ty∧n≤cap∧0 < cap∧o+cap * sz≤cur.size∧∀ e j,e < n→j < sz→cur[o+(e * sz+j)]?=some ((f e j).den r))∨(∃ a,V = .slice a 0 0∧n=0))
 | .nils=>∃ a,V = .slice a 0 0
 | .dead=>True
 | .deep o n sz f c al=>(match o with
  | none=>rowIs w V n sz f
  | some ty=>ownIs w V n sz f ty∧∀ b,blkOf V=some b→¬ innerB n sz f c b)∧innerIs w n sz f c∧alIs r f al
 | .inn n sz f c=>innerIs w n sz f c
 | .len n=>∃ a cap,V = .slice a n cap∧n≤cap∧n≤9223372036854775807∧(0 < n→a≠none)
 | .als j n full=>∃ a n' cap',r j = .slice a n' cap'∧n≤n'∧n'≤cap'∧V=(if full then .slice a n' cap' else .slice a n n)∧(full=true→n=n')
 | .dm k l=>(∃ b es clock,V = .map (some b)∧w.heap[b]?=some (.map es clock)∧es.toList.map (fun e=>(e.key,e.val))=l.map (fun d=>(dmK k d.x d.y,d.val))∧BornOk es clock∧¬ dmB l b)∧dmIs w l∧dmAp l
 | .itr i m sn=>∃ rb b,V = .pointer (some ⟨rb,0,none⟩)∧r i = .map (some b)∧w.heap[rb]?=some (.mapIter (some b) m sn.toArray m)
 | .bx n f ty p=>(∃ b,V = .pointer (some ⟨b,0,none⟩)∧w.heap[b]?=some (.cells ((rngS n f).map (SC.den r)).toArray ty (0,0))∧¬ poolB p b)∧(∀ i j U s,p i j=some (U,s)→s.rel r w U)∧poolAp p
theorem SC.den_ext {r r':Rho} {m:Nat→Prop} (h:∀ i,m i→r' i=r i):∀ {x:SC},x.sc m→x.den r'=x.den r
 | .v _,_=>rfl
 | .p i j,hs=>by simp only [SC.den]; rw [h i hs]
 | .n i,hs=>by simp only [SC.den]; rw [h i hs]
 | .q i sz e j,hs=>by simp only [SC.den]; rw [h i hs]
 | .f g cs,hs=>by simp only [SC.den]; rw [denP_ext h hs]
theorem SC.map_den_ext {r r':Rho} {m:Nat→Prop} (h:∀ i,m i→r' i=r i) {cs:List SC} (hs:∀ x∈cs,x.sc m):cs.map (SC.den r')=cs.map (SC.den r) :=
 List.map_congr_left fun x hx=>SC.den_ext h (hs x hx)
theorem S1.den_ext {r r':Rho} {m:Nat→Prop} (h:∀ i,m i→r' i=r i):∀ {x:S1},x.sc m→x.den r'=x.den r
 | .c _,hs=>SC.den_ext h hs
 | .a cs,hs=>by simp only [S1.den]; rw [SC.map_den_ext h hs]
theorem SV.den_ext {r r':Rho} {m:Nat→Prop} (h:∀ i,m i→r' i=r i):∀ {x:SV},x.sc m→x.den r'=x.den r
 | .o _,hs=>S1.den_ext h hs
 | .t xs,hs=>by
  simp only [SV.den]; congr 2
  exact List.map_congr_left fun x hx=>S1.den_ext h (hs x hx)
 | .g b x,hs=>by simp only [SV.den]; rw [S1.den_ext h hs]
theorem SC.sc_mono {m m':Nat→Prop} (h:∀ i,m i→m' i):∀ {x:SC},x.sc m→x.sc m'
 | .v _,_=>trivial
 | .p i j,hs=>h _ hs
 | .n i,hs=>h _ hs
 | .q i sz e j,hs=>h _ hs
 | .f g cs,hs=>scP_mono (l:=cs) h hs
theorem S1.sc_mono {m m':Nat→Prop} (h:∀ i,m i→m' i):∀ {x:S1},x.sc m→x.sc m'
 | .c _,hs=>SC.sc_mono h hs
 | .a _,hs=>fun x hx=>SC.sc_mono h (hs x hx)
theorem SV.sc_mono {m m':Nat→Prop} (h:∀ i,m i→m' i):∀ {x:SV},x.sc m→x.sc m'
 | .o _,hs=>S1.sc_mono h hs
 | .t _,hs=>fun x hx=>S1.sc_mono h (hs x hx)
 | .g _ _,hs=>S1.sc_mono h hs
theorem Ent.sc_mono {m m':Nat→Prop} (h:∀ i,m i→m' i):∀ {x:Ent},x.sc m→x.sc m'
 | .box _ _,hs=>fun x hx=>SC.sc_mono h (hs x hx)
 | .ro _ _ _,hs=>fun e j=>SC.sc_mono h (hs e j)
 | .own _ _ _ _,hs=>fun e j=>SC.sc_mono h (hs e j)
 | .nils,_=>trivial
 | .dead,_=>trivial
 | .deep _ _ _ _ _ _,hs=>alSc_mono h hs
 | .inn _ _ _ _,_=>trivial
 | .len _,_=>trivial
 | .als _ _ _,hs=>h _ hs
 | .dm _ _,_=>trivial
 | .itr _ _ _,hs=>h _ hs
 | .bx _ _ _ _,hs=>⟨fun j=>SC.sc_mono h (hs.1 j),fun i j U k hk=>h _ (hs.2 i j U k hk)⟩
theorem rngS_sc {m:Nat→Prop} {n:Nat} {f:Nat→SC} (h:∀ j,(f j).sc m):∀ x∈rngS n f,x.sc m:=by
 intro x hx
 obtain ⟨j,_,rfl⟩:=List.mem_map.1 hx
 exact h j
theorem Sub.rel_ext {r r':Rho} {w:World} {V:Value}:∀ {s:Sub},(∀ k,s = .out k→r' k=r k)→s.rel r w V→s.rel r' w V
 | .box _ _,_,h=>h
 | .dm _ _,_,h=>h
 | .out k,hk,h=>(hk k rfl).trans h
theorem Ent.rel_ext {r r':Rho} {m:Nat→Prop} (h:∀ i,m i→r' i=r i) {w:World} {V:Value}:∀ {e:Ent},e.sc m→e.rel r w V→e.rel r' w V
 | .box cs ty,hs,⟨b,h1,h2⟩=>⟨b,h1,by rw [SC.map_den_ext h hs]; exact h2⟩
 | .ro n sz f,hs,⟨a,cap,h1,h2,hm,h3⟩=>⟨a,cap,h1,h2,hm,fun hn=>by
   obtain ⟨b,o,h4,h5,h6⟩:=h3 hn
   exact ⟨b,o,h4,h5,fun e j he hj=>by rw [SC.den_ext h (hs e j)]; exact h6 e j he hj⟩⟩
 | .own n sz f ty,hs,⟨hm,hr⟩=>⟨hm,by
  rcases hr with ⟨b,o,cap,cur,h1,h2,h3,h4,h5,h6⟩ | hr
  ·exact .inl ⟨b,o,cap,cur,h1,h2,h3,h4,h5,fun e j he hj=>by rw [SC.den_ext h (hs e j)]; exact h6 e j he hj⟩
  ·exact .inr hr⟩
 | .nils,_,h=>h
 | .dead,_,_=>trivial
 | .deep _ _ _ _ _ _,hs,hh=>⟨hh.1,hh.2.1,alIs_ext h hs hh.2.2⟩
 | .inn _ _ _ _,_,hh=>hh
 | .len _,_,hh=>hh
 | .als j n full,hs,⟨a,n',cap',h1,h2⟩=>⟨a,n',cap',(h j hs).trans h1,h2⟩
 | .dm _ _,_,hh=>hh
 | .itr i m sn,hs,⟨rb,b,h1,h2,h3⟩=>⟨rb,b,h1,(h i hs).trans h2,h3⟩
 | .bx n f ty p,hs,⟨⟨b,h1,h2,h3⟩,h4,h5⟩=>⟨⟨b,h1,by rw [SC.map_den_ext h (rngS_sc hs.1)]; exact h2,h3⟩,fun i j U s hp=>Sub.rel_ext (fun k hk=>h k (hs.2 i j U k (by rw [← hk]; exact hp))) (h4 i j U s hp),h5⟩
theorem blkOf_slice {b o n cap:Nat} (h:0 < cap):blkOf (.slice (some ⟨b,o,none⟩) n cap)=some b:=by
 simp [blkOf]; omega
theorem rowIs_block {w w':World} {V:Value} {n sz:Nat} {g:Nat→Nat→Value} (hz:w.heap.size≤w'.heap.size) (h:∀ b,blkOf V=some b→b < w.heap.size→w'.heap[b]?=w.heap[b]?):rowIs w V n sz g→rowIs w' V n sz g:=by
 rintro ⟨a,cap,h1,h2,hm,h3⟩
 refine ⟨a,cap,h1,h2,hm,fun hn=>?_⟩
 obtain ⟨b,o,h4,h5,h6⟩:=h3 hn
 exact ⟨b,o,h4,Nat.lt_of_lt_of_le h5 hz,fun e j he hj=>by
  rw [World.cell?_of_block (w:=w) (a:=⟨b,o+(e * sz+j),none⟩) (h b (by rw [h1,h4]; exact blkOf_slice (by omega)) h5)]; exact h6 e j he hj⟩
theorem ownIs_block {w w':World} {V:Value} {n sz:Nat} {g:Nat→Nat→Value} {ty:TypeId} (h:∀ b,blkOf V=some b→b < w.heap.size→w'.heap[b]?=w.heap[b]?):ownIs w V n sz g ty→ownIs w' V n sz g ty:=by
 rintro ⟨hm,hr⟩
 refine ⟨hm,?_⟩
 rcases hr with ⟨b,o,cap,cur,h1,h2,h3⟩ | hr
 ·exact .inl ⟨b,o,cap,cur,h1,h2.congr (h b (by rw [h1]; exact blkOf_slice h3.2.1) h2.lt),h3⟩
 ·exact .inr hr
theorem dmRow_block {w w':World} {V:Value} {n sz:Nat} {g:Nat→Nat→Value} {o:Option TypeId} (hz:w.heap.size≤w'.heap.size) (h:∀ b,blkOf V=some b→b < w.heap.size→w'.heap[b]?=w.heap[b]?):dmRow w V n sz g o→dmRow w' V n sz g o:=by
 cases o with
 | none=>exact rowIs_block hz h
 | some ty=>exact ownIs_block h
theorem dmRel_block {w w':World} {V:Value} {k:Bool} {l:List DM} (hz:w.heap.size≤w'.heap.size) (h:∀ b,blkOf V=some b∨dmB l b→b < w.heap.size→w'.heap[b]?=w.heap[b]?):dmRel w V k l→dmRel w' V k l:=by
 rintro ⟨⟨b,es,clock,h1,h2,h3⟩,h4,h5⟩
 refine ⟨⟨b,es,clock,h1,?_,h3⟩,fun d hd o n sz g hr=>dmRow_block hz (fun b hb hlt=>h b (.inr ⟨d,hd,by rw [hr]; rfl,hb⟩) hlt) (h4 d hd o n sz g hr),h5⟩
 have hb:b < w.heap.size:=(Array.getElem?_eq_some_iff.1 h2).1
 rw [h b (.inl (by rw [h1]; rfl)) hb]; exact h2
theorem Sub.rel_block {r:Rho} {w w':World} {V:Value} (hz:w.heap.size≤w'.heap.size):∀ {s:Sub},(∀ b,s.foot V b→b < w.heap.size→w'.heap[b]?=w.heap[b]?)→s.rel r w V→s.rel r w' V
 | .box cs ty,h,⟨b,h1,h2⟩=>⟨b,h1,by
   have hb:b < w.heap.size:=(Array.getElem?_eq_some_iff.1 h2).1
   rw [h b (by rw [h1]; rfl) hb]; exact h2⟩
 | .dm k l,h,hh=>dmRel_block hz h hh
 | .out k,_,h=>h
theorem Ent.rel_block {r:Rho} {w w':World} {V:Value} (hz:w.heap.size≤w'.heap.size):∀ {e:Ent},(∀ b,e.live=true→foot e V b→b < w.heap.size→w'.heap[b]?=w.heap[b]?)→e.rel r w V→e.rel r w' V
 | .box cs ty,h,⟨b,h1,h2⟩=>⟨b,h1,by
   have hb:b < w.heap.size:=(Array.getElem?_eq_some_iff.1 h2).1
   rw [h b rfl (.inl (by rw [h1]; rfl)) hb]; exact h2⟩
 | .ro n sz f,h,⟨a,cap,h1,h2,hm,h3⟩=>⟨a,cap,h1,h2,hm,fun hn=>by
   obtain ⟨b,o,h4,h5,h6⟩:=h3 hn
   exact ⟨b,o,h4,Nat.lt_of_lt_of_le h5 hz,fun e j he hj=>by
    rw [World.cell?_of_block (w:=w) (a:=⟨b,o+(e * sz+j),none⟩) (h b rfl (.inl (by rw [h1,h4]; exact blkOf_slice (by omega))) h5)]; exact h6 e j he hj⟩⟩
 | .own n sz f ty,h,⟨hm,hr⟩=>⟨hm,by
  rcases hr with ⟨b,o,cap,cur,h1,h2,h3⟩ | hr
  ·exact .inl ⟨b,o,cap,cur,h1,h2.congr (h b rfl (.inl (by rw [h1]; exact blkOf_slice h3.2.1)) h2.lt),h3⟩
  ·exact .inr hr⟩
 | .nils,_,h=>h
 | .dead,_,_=>trivial
 | .deep o n sz f c al,h,⟨h1,h2,h3⟩=>by
  refine ⟨?_,fun e j n' sz' g he hj hc=>rowIs_block hz (fun b hb hlt=>h b rfl (.inr ⟨e,j,he,hj,by rw [hc]; rfl,hb⟩) hlt) (h2 e j n' sz' g he hj hc),h3⟩
  cases o with
  | none=>exact rowIs_block hz (fun b hb hlt=>h b rfl (.inl hb) hlt) h1
  | some ty=>exact ⟨ownIs_block (fun b hb hlt=>h b rfl (.inl hb) hlt) h1.1,h1.2⟩
 | .inn n sz f c,h,h2=>fun e j n' sz' g he hj hc=>rowIs_block hz (fun b hb hlt=>h b rfl (.inr ⟨e,j,he,hj,by rw [hc]; rfl,hb⟩) hlt) (h2 e j n' sz' g he hj hc)
 | .len n,_,h=>h
 | .als _ _ _,_,h=>h
 | .dm k l,h,⟨⟨b,es,clock,h1,h2,h3⟩,h4,h5⟩=>⟨⟨b,es,clock,h1,by
   have hb:b < w.heap.size:=(Array.getElem?_eq_some_iff.1 h2).1
   rw [h b rfl (.inl (by rw [h1]; rfl)) hb]; exact h2,h3⟩,fun d hd o n sz g hr=>dmRow_block hz (fun b hb hlt=>h b rfl (.inr ⟨d,hd,by rw [hr]; rfl,hb⟩) hlt) (h4 d hd o n sz g hr),h5⟩
 | .itr i m sn,h,⟨rb,b,h1,h2,h3⟩=>⟨rb,b,h1,h2,by
   have hb:rb < w.heap.size:=(Array.getElem?_eq_some_iff.1 h3).1
   rw [h rb rfl (.inl (by rw [h1]; rfl)) hb]; exact h3⟩
 | .bx n f ty p,h,⟨⟨b,h1,h2,h3⟩,h4,h5⟩=>⟨⟨b,h1,by
   have hb:b < w.heap.size:=(Array.getElem?_eq_some_iff.1 h2).1
   rw [h b rfl (.inl (by rw [h1]; rfl)) hb]; exact h2,h3⟩,fun i j U s hp=>Sub.rel_block hz (fun b' hb' hlt=>h b' rfl (.inr ⟨i,j,U,s,hp,hb'⟩) hlt) (h4 i j U s hp),h5⟩
structure Scp where
 mu:Nat→Prop
 all:Nat→Prop
structure SameOut (b w:World):Prop where
 out:w.output=b.output
 drawn:b.drawn≤w.drawn
theorem SameOut.refl (w:World):SameOut w w:=⟨rfl,Nat.le_refl _⟩
theorem SameOut.trans {b w w':World} (h:SameOut w w') (h2:SameOut b w):SameOut b w':=⟨h.out.trans h2.out,Nat.le_trans h2.drawn h.drawn⟩
structure BelowD (B:Nat) (w w':World):Prop where
 os:w'.os=w.os
 tape:w'.tape=w.tape
 output:SameOut w w'
 size:w.heap.size≤w'.heap.size
 block:∀ k,k < B→w'.heap[k]?=w.heap[k]?
theorem BelowD.below {B:Nat} {w w':World} (h:BelowD B w w'):Below B w w':=⟨h.os,h.tape,h.output.out,h.size,h.block⟩
theorem BelowD.refl (B:Nat) (w:World):BelowD B w w:=⟨rfl,rfl,.refl _,Nat.le_refl _,fun _ _=>rfl⟩
theorem BelowD.alloc (w:World) (o:Obj):BelowD w.heap.size w (w.alloc o):=⟨rfl,rfl,⟨rfl,Nat.le_refl _⟩,by simp,fun k hk=>Below.heap_alloc _ _ _ hk⟩
structure HeapRel (base:World) (M:Scp) (r:Rho) (E:Nat→Option Ent) (w:World):Prop where
 size:base.heap.size≤w.heap.size
 one:∀ i,(r i).oneCell'=true
 os:w.os=base.os
 tape:w.tape=base.tape
 output:SameOut base w
 frame:∀ b,b < base.heap.size→¬ M.mu b→w.heap[b]?=base.heap[b]?
 ent:∀ i e,E i=some e→e.rel r w (r i)
 apart:∀ i j e e',i≠j→E i=some e→E j=some e'→e.mut=true→e'.live=true→∀ b,wfoot e (r i) b→¬ foot e' (r j) b
 mine:∀ i e,E i=some e→e.mut=true→∀ b,wfoot e (r i) b→base.heap.size≤b∨M.mu b
 src:∀ i e,E i=some e→e.live=true→∀ b,foot e (r i) b→b < w.heap.size∧(base.heap.size≤b∨M.all b)
theorem Ent.mut_live {e:Ent} (h:e.mut=true):e.live=true:=by cases e<;>first | rfl | cases h
theorem HeapRel.below {base:World} {M:Scp} {r:Rho} {E:Nat→Option Ent} {w w':World} (h:HeapRel base M r E w) (hb:BelowD w.heap.size w w'):HeapRel base M r E w' where
 size:=Nat.le_trans h.size hb.size
 one:=h.one
 os:=hb.os.trans h.os
 tape:=hb.tape.trans h.tape
 output:=hb.output.trans h.output
 frame:=fun b hlt hm=>(hb.block b (Nat.lt_of_lt_of_le hlt h.size)).trans (h.frame b hlt hm)
 ent:=fun i e he=>Ent.rel_block hb.size (fun b _ _ hlt=>hb.block b hlt) (h.ent i e he)
 apart:=h.apart
 mine:=h.mine
 src:=fun i e he hl b hbb=>⟨Nat.lt_of_lt_of_le (h.src i e he hl b hbb).1 hb.size,(h.src i e he hl b hbb).2⟩
structure St where
 env:List (Nat × SV)
 ents:List (Nat × Ent)
 next:Nat
def lk {α:Type}:List (Nat × α)→Nat→Option α
 | [],_=>none
 | (i,x) :: l,s=>if i=s then some x else lk l s
structure Rel (base:World) (M:Scp) (N n0:Nat) (r0 r:Rho) (S:St) (a:Act) (w:World):Prop where
 defers:a.defers=[]
 tmps:a.tmps.size=N
 slot:∀ s v,lk S.env s=some v→a.tmps.getD s undef=v.den r
 heap:HeapRel base M r (lk S.ents) w
 scE:∀ s v,lk S.env s=some v→v.sc (upto S.next)
 scH:∀ i e,lk S.ents i=some e→i < S.next∧e.sc (upto S.next)
 low:n0≤S.next
 keep:∀ i,i < n0→r i=r0 i
def St.put (S:St) (d:Option Nat) (v:SV):St :=
 match d with
 | some s=>⟨(s,v) :: S.env,S.ents,S.next⟩
 | none=>S
theorem Act.put_getD (a:Act) (d:Nat) (v:Value) (s:Nat) (h:d < a.tmps.size):(a.put (some d) v).tmps.getD s undef=if d=s then v else a.tmps.getD s undef:=by
 simp only [Act.put]
 by_cases hds:d=s
 ·subst hds
  simp [h]
 ·rw [if_neg hds]
  simp only [Array.getD_eq_getD_getElem?]
  rw [Array.getElem?_setIfInBounds_ne hds]
theorem Rel.put {base:World} {M:Scp} {N n0:Nat} {r0 r:Rho} {S:St} {a:Act} {w:World} (h:Rel base M N n0 r0 r S a w) {d:Option Nat} {v:SV} (hd:∀ s,d=some s→s < N) (hv:v.sc (upto S.next)) :
  Rel base M N n0 r0 r (S.put d v) (a.put d (v.den r)) w:=by
 cases d with
 | none=>exact h
 | some s=>
  have hs:=hd s rfl
  refine ⟨h.defers,?_,?_,h.heap,?_,h.scH,h.low,h.keep⟩
  ·simp [Act.put,h.tmps]
  ·intro s' v' hl
   rw [Act.put_getD a s _ s' (by rw [h.tmps]; exact hs)]
   simp only [St.put,lk] at hl
   split at hl
   ·rename_i e; rw [if_pos e]; cases hl; rfl
   ·rename_i e; rw [if_neg e]; exact h.slot _ _ hl
  ·intro s' v' hl
   simp only [St.put,lk] at hl
   split at hl
   ·cases hl; exact hv
   ·exact h.scE _ _ hl
theorem Rel.world {base:World} {M:Scp} {N n0:Nat} {r0 r:Rho} {S:St} {a:Act} {w w':World} (h:Rel base M N n0 r0 r S a w) (hw:HeapRel base M r (lk S.ents) w'):Rel base M N n0 r0 r S a w' :=
 ⟨h.defers,h.tmps,h.slot,hw,h.scE,h.scH,h.low,h.keep⟩
theorem HeapRel.ext {base:World} {M:Scp} {r r':Rho} {E:Nat→Option Ent} {w:World} {m:Nat→Prop} (h:HeapRel base M r E w) (hs:∀ i e,E i=some e→m i∧e.sc m)
  (hr:∀ i,m i→r' i=r i) (h1:∀ i,(r' i).oneCell'=true):HeapRel base M r' E w where
 size:=h.size
 one:=h1
 os:=h.os
 tape:=h.tape
 output:=h.output
 frame:=h.frame
 ent:=fun i e he=>by
  obtain ⟨hi,hsc⟩:=hs i e he
  rw [hr i hi]
  exact Ent.rel_ext hr hsc (h.ent i e he)
 apart:=fun i j e e' hij he he' hm hl b hb=>by
  rw [hr i (hs i e he).1] at hb
  rw [hr j (hs j e' he').1]
  exact h.apart i j e e' hij he he' hm hl b hb
 mine:=fun i e he hm b hb=>by
  rw [hr i (hs i e he).1] at hb
  exact h.mine i e he hm b hb
 src:=fun i e he hl b hb=>by
  rw [hr i (hs i e he).1] at hb
  exact h.src i e he hl b hb
end Go.Sx
namespace Go.Sx
open Go.RowKit
inductive XO where
 | t (i:Nat)
 | k (v:Value)
def XO.val (a:Act):XO→Value
 | .t i=>a.tmps.getD i undef
 | .k v=>v
def xo:Operand→XO
 | .tmp i=>.t i
 | .const v=>.k v
 | .global g=>.k (.pointer (some ⟨g,0,none⟩))
 | .func f=>.k (.func (.func f) #[] #[])
theorem xo_val (a:Act) (x:Operand):(xo x).val a=a.eval x:=by cases x<;>rfl
inductive LK where
 | i (k:IntKind)
 | b
 deriving DecidableEq
inductive QX where
 | slen
 | sidx
 | sbin (op:BinOp)
 | sslc (lo hi:Bool)
 | eqP (neg:Bool)
 | str
 | sdata
 | toU
 | fromU (u n:Nat)
 | mkf (g:Nat)
inductive XOp where
 | x (k:QX)
 | ustr (e:Nat)
 | mv
 | pick
 | box (ty:TypeId)
 | alloc (ty:TypeId) (z:List Value)
 | build (z:List Value) (pl:List (Nat × Nat))
 | load1
 | loadN (n:Nat)
 | store (n:Nat)
 | fld (off:Nat)
 | part1 (off:Nat)
 | partN (off n:Nat)
 | ix1 (len sz:Nat)
 | ixN (len sz:Nat)
 | ixA (len sz:Nat)
 | ixS (sz:Nat)
 | bin (op:BinOp)
 | binb (op:BinOp)
 | eqA (neg:Bool) (ks:List LK)
 | un (op:UnOp)
 | conv (k:IntKind)
 | ext (i:Nat)
 | call (f:Nat)
 | callv
 | minI
 | maxI
 | lenS
 | nilc
 | slit (ty:TypeId) (len sz:Nat) (z:List Value) (pl:List (Nat × Nat))
 | mks (ty:TypeId) (sz bytes:Nat) (z:List Value)
 | slc (sz:Nat) (lo hi mx:Bool)
 | app (ty:TypeId) (sz bytes:Nat)
 | isnil (neg:Bool)
 | other
 | mkb
structure XOper where
 dst:Option Nat
 op:XOp
 args:List XO
 guard:Option (Nat × Bool)
def isAggD:TypeDesc→Bool
 | .struct _=>true
 | .array _ _=>true
 | _=>false
def leavesFs (P:Program) (rc:TypeId→Option (List LK)):List Field→Nat→Option (List LK)
  | [],_=>some []
  | f :: fs,off=>
    if f.name = "_" ∨ f.offset ≠ off then none else
    match rc f.type,P.info? f.type with
    | some l,some i=>if i.size=l.length∧0 < l.length then (match leavesFs P rc fs (off+l.length) with
      | some ls=>some (l++ls)
      | none=>none) else none
    | _,_=>none
def leaves (P:Program):Nat→TypeId→Option (List LK)
 | 0,_=>none
 | d+1,t=>
  match P.underlying t with
  | some (.int k)=>some [.i k]
  | some .bool=>some [.b]
  | some (.struct fs)=>if P.stoodInHeld t then none else leavesFs P (leaves P d) fs.toList 0
  | _=>none
def zrep (z:List Value) (n:Nat):List Value:=(List.range n).map fun i=>z.toArray[i % z.length]!
def isV (f:Nat):Bool:=decide (1048576≤f)
def vN (t kind:Nat):Nat:=1048576+(16 * t+kind)
def primN (P:Program) (op:Op):Option (Nat × List Operand) :=
 match op with
 | .lookup t m k true=>some (vN t 0,[m,k])
 | .lookup t m k false=>some (vN t 1,[m,k])
 | .mapUpdate t m k v=>some (vN t 2,[m,k,v])
 | .insert t m k v=>some (vN t 2,[m,k,v])
 | .makeMap t none=>some (vN t 3,[])
 | .mapEntry t m k=>some (vN t 4,[m,k])
 | .entryStore t m s v=>some (vN t 5,[m,s,v])
 | .range t x=>some (vN t 6,[x])
 | .next it false=>some (vN 0 7,[it])
 | .entry it=>some (vN 0 8,[it])
 | _=>none
def primRun (f:Nat) (args:List Value):Sem Next :=
 let t:=(f - 1048576) / 16
 let v (s:Sem Value):Sem Next:=do pure (.value (← s))
 let u (s:Sem Unit):Sem Next:=do s; pure .skip
 match (f - 1048576) % 16,args with
 | 0,[m,k]=>v (Instr.lookup t m k true)
 | 1,[m,k]=>v (Instr.lookup t m k false)
 | 2,[m,k,x]=>u (Instr.mapUpdate t m k x)
 | 3,[]=>v (Instr.makeMap t none)
 | 4,[m,k]=>v (Instr.mapEntry t m k)
 | 5,[m,s,x]=>u (Instr.entryStore t m s x)
 | 6,[x]=>v (Instr.range t x)
 | 7,[it]=>v (Instr.next it false 0)
 | 8,[it]=>v (Instr.entry it)
 | _,_=>pure .skip
def callX (f:Nat) (args:Array Value):Sem Next:=match isV f with
 | true=>primRun f args.toList
 | false=>callFunc f args
theorem isV_vN (t kind:Nat):isV (vN t kind)=true:=by unfold isV vN; exact decide_eq_true (by omega)
theorem vN_div {t kind:Nat} (h:kind < 16):(vN t kind - 1048576) / 16=t∧(vN t kind - 1048576) % 16=kind:=by unfold vN; omega
theorem primN_v {P:Program} {op:Op} {k:Nat} {xs:List Operand} (h:primN P op=some (k,xs)):isV k=true:=by
 unfold primN at h
 split at h
 all_goals first
  | (cases h; done)
  | (cases h; exact isV_vN _ _)
theorem primN_sound {P:Program} {o:Oper} {k:Nat} {xs:List Operand} (h:primN P o.op=some (k,xs)) (a:Act):isV k=true∧execOp a.eval o=callX k (xs.map a.eval).toArray:=by
  have key:∀ {kd t:Nat} {ys:List Operand},kd < 16→(k,xs)=(vN t kd,ys)→isV k=true∧(callX k (xs.map a.eval).toArray=primRun (vN t kd) (ys.map a.eval))∧(vN t kd - 1048576) / 16=t∧(vN t kd - 1048576) % 16=kd:=by
    intro kd t ys hk he
    cases he
    refine ⟨isV_vN _ _,?_,vN_div hk⟩
    unfold callX
    rw [isV_vN]
  unfold primN at h
  split at h
  all_goals first
    | cases h; done
    | (rename_i hop
       obtain ⟨h1,h2,h3,h4⟩:=key (by omega) (Option.some.inj h).symm
       refine ⟨h1,?_⟩
       rw [h2]; unfold primRun execOp
       rw [hop]; simp only [h3,h4,List.map_cons,List.map_nil]
       done)
    | (rename_i hop
       obtain ⟨h1,h2,h3,h4⟩:=key (by omega) (Option.some.inj h).symm
       refine ⟨h1,?_⟩
       rw [h2]; unfold primRun execOp
       rw [hop]; simp only [h3,h4,List.map_cons,List.map_nil]
       rfl)
def keyXY (P:Program) (t:TypeId):Bool :=
  match P.underlying t with
  | some (.struct fs)=>match fs.toList with
    | [a, b] => a.name != "_" && b.name != "_" && a.offset == 0 && b.offset == 1 && (match P.underlying a.type, P.underlying b.type with
      | some (.int .i64),some (.int .i64)=>true
      | _,_=>false) && leaves P 20 t == some [.i .i64,.i .i64] && !P.eqGuardType P.depth t
    | _=>false
  | _=>false
def xop0 (P:Program) (op:Op):Option (XOp × List XO) :=
 match op with
 | .move x=>some (.mv,[xo x])
 | .assign x=>some (.mv,[xo x])
 | .pick c a b=>some (.pick,[xo c,xo a,xo b])
 | .box ty x=>some (.box ty,[xo x])
 | .alloc ty=>match (P.info? ty).bind (·.zero) with
  | some z=>some (.alloc ty z.cells.toList,[])
  | none=>none
 | .load t x=>match P.underlying t with
  | some d=>if isAggD d then (match P.info? t with | some i=>some (.loadN i.size,[xo x]) | none=>none) else some (.load1,[xo x])
  | none=>none
 | .store t x y=>match P.info? t with
  | some i=>some (.store i.size,[xo x,xo y])
  | none=>none
 | .fieldAddr s x f=>match P.underlying s with
  | some (.struct fs)=>match fs[f]? with
   | some fd=>match P.info? fd.type with
    | some i=>if i.size=0 then none else some (.fld fd.offset,[xo x])
    | none=>none
   | none=>none
  | _=>none
 | .field s x f=>match P.underlying s with
  | some (.struct fs)=>match fs[f]? with
   | some fd=>match P.underlying fd.type with
    | some d=>if isAggD d then (match P.info? fd.type with | some i=>some (.partN fd.offset i.size,[xo x]) | none=>none) else some (.part1 fd.offset,[xo x])
    | none=>none
   | none=>none
  | _=>none
 | .index t x i=>match P.underlying t with
  | some (.array len e)=>match P.underlying e,P.info? e with
   | some d,some inf=>if isAggD d then some (.ixN len inf.size,[xo x,xo i]) else some (.ix1 len inf.size,[xo x,xo i])
   | _,_=>none
  | _=>none
 | .indexAddr t x i=>match P.underlying t with
  | some (.array len e)=>match P.info? e with
   | some inf=>some (.ixA len inf.size,[xo x,xo i])
   | none=>none
  | some (.slice e)=>match P.info? e with
   | some inf=>some (.ixS inf.size,[xo x,xo i])
   | none=>none
  | _=>none
 | .build t parts=>match P.underlying t,(P.info? t).bind (·.zero) with
  | some (.struct fs),some z=>
   if fs.all (fun f=>(P.info? f.type).isSome) then
    if parts.all (fun p=>p.1 < fs.size) then
     some (.build z.cells.toList (parts.toList.map fun p=>((fs.getD p.1 default).offset,P.cellsOf (fs.getD p.1 default).type)),parts.toList.map fun p=>xo p.2)
    else none
   else none
  | some (.array _ e),some z=>
   if (P.info? e).isSome then some (.build z.cells.toList (parts.toList.map fun p=>(p.1 * P.cellsOf e,P.cellsOf e)),parts.toList.map fun p=>xo p.2) else none
  | _,_=>none
 | .binOp op t x y _=>match P.underlying t with
  | some (.int _)=>some (.bin op,[xo x,xo y])
  | some .bool=>some (.binb op,[xo x,xo y])
  | some (.slice _)=>match op,y with
   | .eql,.const (.slice none 0 0)=>some (.isnil false,[xo x])
   | .neq,.const (.slice none 0 0)=>some (.isnil true,[xo x])
   | _,_=>none
  | some (.struct _)=>match leaves P 20 t with
   | some ks=>if P.eqGuardType P.depth t then none else match op with
    | .eql=>some (.eqA false ks,[xo x,xo y])
    | .neq=>some (.eqA true ks,[xo x,xo y])
    | _=>none
   | none=>none
  | _=>none
 | .unOp op _ x=>some (.un op,[xo x])
 | .convert s t x=>match P.underlying s,P.underlying t with
  | some (.int _),some (.int k)=>some (.conv k,[xo x])
  | some (.slice _),some (.slice e)=>if s=t then (match P.underlying e with
   | some (.int .u8)=>some (.mkb,[xo x])
   | _=>none) else none
  | _,_=>none
 | .extract x i=>some (.ext i,[xo x])
 | .nilCheck x=>some (.nilc,[xo x])
 | .call c=>match c.callee with
  | .value (.func f)=>match isV f with
   | true=>none
   | false=>some (.call f,c.args.toList.map xo)
  | .value (.tmp i)=>some (.callv,.t i :: c.args.toList.map xo)
  | .builtin .min=>some (.minI,c.args.toList.map xo)
  | .builtin .max=>some (.maxI,c.args.toList.map xo)
  | .builtin .len=>match c.argTypes.toList,c.args.toList with
   | [t],[x]=>match P.underlying t with
    | some (.slice _)=>some (.lenS,[xo x])
    | _=>none
   | _,_=>none
  | .builtin .unsafeString=>match c.argTypes.toList,c.args.toList with
   | [pt,_],[x,y]=>match P.underlying pt with
    | some (.pointer e)=>if P.cellsOf e=1 then some (.ustr e,[xo x,xo y]) else none
    | _=>none
   | _,_=>none
  | .builtin .append=>match c.argTypes.toList,c.args.toList with
   | [t,tx],[s,x]=>match P.underlying t,P.underlying tx with
    | some (.slice e),some (.slice _)=>match P.info? e with
     | some i=>if 0 < i.bytes∧i.bytes≤256∧0 < i.size then (match i.zero with
      | some z=>if z.cells.size=i.size then some (.app e i.size i.bytes,[xo s,xo x]) else none
      | none=>none) else none
     | none=>none
    | _,_=>none
   | _,_=>none
  | _=>none
 | .buildSlice t len parts=>match P.underlying t with
  | some (.slice e)=>match P.info? e with
   | some i=>match i.zero with
    | some z=>if len * i.size≤16777216∧0 < i.size then some (.slit e len i.size (zrep z.cells.toList (len * i.size)) (parts.toList.map fun p=>(p.1 * i.size,i.size)),parts.toList.map fun p=>xo p.2) else none
    | none=>none
   | none=>none
  | _=>none
 | .makeSlice t l c=>match P.underlying t with
  | some (.slice e)=>match P.info? e with
   | some i=>match i.zero with
    | some z=>if z.cells.size=i.size∧0 < i.size then some (.mks e i.size i.bytes z.cells.toList,[xo l,xo c]) else none
    | none=>none
   | none=>none
  | _=>none
 | .slice t x lo hi mx=>match P.underlying t with
  | some (.slice e)=>match P.info? e with
   | some i=>some (.slc i.size lo.isSome hi.isSome mx.isSome,xo x :: (lo.toList++hi.toList++mx.toList).map xo)
   | none=>none
  | _=>none
 | .panic _=>some (.other,[])
 | .makeInterface _ _=>some (.other,[])
 | _=>none
def xopX (P:Program) (op:Op):Option (QX × List XO) :=
 match op with
 | .index t x i=>match P.underlying t with
  | some .string=>some (.sidx,[xo x,xo i])
  | _=>none
 | .binOp op t x y _=>match P.underlying t with
  | some .string=>some (.sbin op,[xo x,xo y])
  | some (.pointer e)=>match P.info? e with
   | some i=>if i.size=0 then none else match op with
    | .eql=>some (.eqP false,[xo x,xo y])
    | .neq=>some (.eqP true,[xo x,xo y])
    | _=>none
   | none=>none
  | _=>none
 | .convert s t x=>match P.underlying s,P.underlying t with
  | some (.slice e),some .string=>match P.underlying e with
   | some (.int .u8)=>some (.str,[xo x])
   | _=>none
  | some (.pointer e),some .unsafePointer=>match P.info? e with
   | some i=>if i.size=0 then none else some (.toU,[xo x])
   | none=>none
  | some .unsafePointer,some (.pointer u)=>match P.info? u with
   | some i=>if liesAt P P.depth u (i.size / P.cellsOf u) 0 u 1=true then some (.fromU u i.size,[xo x]) else none
   | none=>none
  | _,_=>none
 | .slice t x lo hi mx=>match P.underlying t,mx with
  | some .string,none=>some (.sslc lo.isSome hi.isSome,xo x :: (lo.toList++hi.toList).map xo)
  | _,_=>none
 | .call c=>match c.callee with
  | .builtin .len=>match c.argTypes.toList,c.args.toList with
   | [t],[x]=>match P.underlying t with
    | some .string=>some (.slen,[xo x])
    | _=>none
   | _,_=>none
  | .builtin .unsafeSliceData=>match c.args.toList with
   | [x]=>some (.sdata,[xo x])
   | _=>none
  | _=>none
 | .makeFunc fn first captured=>match fn,first.toList with
  | .func g,[]=>some (.mkf g,captured.toList.map xo)
  | _,_=>none
 | _=>none
def xop1 (P:Program) (op:Op):Option (XOp × List XO) :=
 match primN P op with
 | some (k,xs)=>some (.call k,xs.map xo)
 | none=>match xopX P op with
  | some (k,xs)=>some (.x k,xs)
  | none=>match xop0 P op with
   | some y=>some y
   | none=>some (.other,[])
theorem xop1_old {P:Program} {op:Op} {xp:XOp} {xs:List XO} (h:xop1 P op=some (xp,xs)) (h1:∀ k,xp≠.x k) (h2:xp≠.other) (h3:∀ f,xp = .call f→isV f=false:=by intro f hf; cases hf):xop0 P op=some (xp,xs):=by
 unfold xop1 at h
 split at h
 ·rename_i k ys hk
  cases h
  have:=primN_v hk
  rw [h3 _ rfl] at this
  cases this
 ·split at h
  ·rename_i k ys _; cases h; exact absurd rfl (h1 k)
  ·split at h
   ·rename_i y hy; cases h; exact hy
   ·cases h; exact absurd rfl h2
theorem xop1_prim {P:Program} {op:Op} {f:Nat} {xs:List XO} (h:xop1 P op=some (.call f,xs)) (hv:isV f=true):∃ ys,primN P op=some (f,ys)∧xs=ys.map xo:=by
 unfold xop1 at h
 split at h
 ·rename_i k ys hk
  cases h
  exact ⟨ys,hk,rfl⟩
 ·split at h
  ·cases h
  ·split at h
   ·rename_i y hy
    cases h
    unfold xop0 at hy
    repeat' split at hy
    all_goals first
     | (cases hy; done)
     | (cases hy; rename_i hf; rw [hv] at hf; cases hf)
   ·cases h
theorem xop1_x {P:Program} {op:Op} {k:QX} {xs:List XO} (h:xop1 P op=some (.x k,xs)) (h0:xop0 P op≠some (.x k,xs)):xopX P op=some (k,xs):=by
 unfold xop1 at h
 split at h
 ·cases h
 ·split at h
  ·rename_i k ys hk; cases h; exact hk
  ·split at h
   ·rename_i y hy; cases h; exact absurd hy h0
   ·cases h
def xop (P:Program) (ops:Array Oper) (o:Oper):Option XOper :=
 match xop1 P o.op with
 | none=>none
 | some (op,args)=>
  match o.guard with
  | none=>some ⟨o.dst,op,args,none⟩
  | some (j,want)=>match (ops[j]?).bind (·.dst) with
   | some d=>some ⟨o.dst,op,args,some (d,want)⟩
   | none=>none
def setAt {α:Type}:List α→Nat→List α→List α
 | cs,0,[]=>cs
 | [],0,_ :: _=>[]
 | _ :: cs,0,x :: xs=>x :: setAt cs 0 xs
 | [],_+1,_=>[]
 | c :: cs,o+1,xs=>c :: setAt cs o xs
def fillS:List SC→List (Nat × Nat)→List S1→Option (List SC)
 | cs,[],[]=>some cs
 | cs,(o,n) :: pl,x :: xs=>if x.cells.length=n∧o+n≤cs.length then fillS (setAt cs o x.cells) pl xs else none
 | _,_,_=>none
def ups (f:Nat→Nat→SC) (e j:Nat):Nat→List SC
 | 0=>[]
 | m+1=>f e j :: ups f e (j+1) m
def takeAt {α:Type}:List α→Nat→Nat→List α
 | _,_,0=>[]
 | [],_,_+1=>[]
 | c :: cs,0,m+1=>c :: takeAt cs 0 m
 | _ :: cs,j+1,m+1=>takeAt cs j (m+1)
def nth {α:Type}:List α→Nat→Option α
 | [],_=>none
 | c :: _,0=>some c
 | _ :: cs,j+1=>nth cs j
def bitI (op:BinOp) (k:IntKind) (x y:Int):Int :=
 match op with
 | .and=>k.wrap ((BitVec.ofInt k.bits x &&& BitVec.ofInt k.bits y).toNat)
 | .or=>k.wrap ((BitVec.ofInt k.bits x ||| BitVec.ofInt k.bits y).toNat)
 | .xor=>k.wrap ((BitVec.ofInt k.bits x ^^^ BitVec.ofInt k.bits y).toNat)
 | _=>k.wrap ((BitVec.ofInt k.bits x &&& ~~~ BitVec.ofInt k.bits y).toNat)
def binI (op:BinOp) (k:IntKind) (x y:Int):Option (Prop × Value) :=
 match op with
 | .add=>some (True,.int k (k.wrap (x+y)))
 | .sub=>some (True,.int k (k.wrap (x - y)))
 | .mul=>some (True,.int k (k.wrap (x * y)))
 | .quo=>some (y≠0,.int k (k.wrap (x.tdiv y)))
 | .rem=>some (y≠0,.int k (x.tmod y))
 | .eql=>some (True,.bool (x == y))
 | .neq=>some (True,.bool (x != y))
 | .lss=>some (True,.bool (decide (x < y)))
 | .leq=>some (True,.bool (decide (x≤y)))
 | .gtr=>some (True,.bool (decide (y < x)))
 | .geq=>some (True,.bool (decide (y≤x)))
 | .shl=>some (0≤y,.int k (k.wrap (x * 2 ^ (min y.toNat k.bits))))
 | .shr=>some (0≤y,.int k (x.fdiv (2 ^ (min y.toNat k.bits))))
 | .and=>some (True,.int k (bitI .and k x y))
 | .or=>some (True,.int k (bitI .or k x y))
 | .xor=>some (True,.int k (bitI .xor k x y))
 | .andNot=>some (True,.int k (bitI .andNot k x y))
def eqC:LK→SC→SC→Option Bool
 | .i k,.v (.int k1 x),.v (.int k2 y)=>if k1=k∧k2=k then some (x == y) else none
 | .b,.v (.bool x),.v (.bool y)=>some (x == y)
 | _,_,_=>none
def eqCells:List LK→List SC→List SC→Option Bool
 | [],[],[]=>some true
 | k :: ks,x :: xs,y :: ys=>match eqC k x y with
  | some b1=>match eqCells ks xs ys with
   | some b=>some (b1 && b)
   | none=>none
  | none=>none
 | _,_,_=>none
def isShift:BinOp→Bool
 | .shl=>true
 | .shr=>true
 | _=>false
def boxOf (E:Nat→Option Ent) (i:Nat):Option (List SC) :=
 match E i with
 | some (.box cs _)=>some cs
 | some (.bx n f _ _)=>some (rngS n f)
 | _=>none
def rowOf (E:Nat→Option Ent) (i:Nat):Option (Nat × Nat × (Nat→Nat→SC)) :=
 match E i with
 | some (.ro n sz f)=>some (n,sz,f)
 | some (.own n sz f _)=>some (n,sz,f)
 | some .nils=>some (0,0,fun _ _=>.v (.bool false))
 | some (.deep _ n sz f _ al)=>some (n,sz,alF f al)
 | _=>none
def rowV (E:Nat→Option Ent):S1→Option (Nat × Nat × (Nat→Nat→SC))
 | .c (.n i)=>rowOf E i
 | .c (.v (.slice none 0 0))=>some (0,0,fun _ _=>.v (.bool false))
 | _=>none
def SC.ok:SC→Bool
 | .v x=>x.oneCell'
 | _=>true
def S1.ok:S1→Bool
 | .c x=>x.ok
 | .a _=>true
def oks:List S1→Bool
 | []=>true
 | x :: xs=>x.ok && oks xs
def okcs:List SC→Bool
 | []=>true
 | x :: xs=>x.ok && okcs xs
def qMv:List S1→Option (Prop × S1)
 | [x]=>some (True,x)
 | _=>none
def qBuild (z:List Value) (pl:List (Nat × Nat)) (xs:List S1):Option (Prop × S1) :=
 match fillS (z.map .v) pl xs with
 | some cs=>some (oks xs=true,.a cs)
 | none=>none
def qLoad1 (E:Nat→Option Ent):List S1→Option (Prop × S1)
 | [.c (.p i j)]=>match boxOf E i with
  | some cs=>match nth cs j with
   | some x=>some (True,.c x)
   | none=>none
  | none=>none
 | [.c (.q i sz e j)]=>match rowOf E i with
  | some (n,sz',f)=>some (sz=sz'∧e < n∧j < sz,.c (f e j))
  | none=>none
 | _=>none
def qLoadN (E:Nat→Option Ent) (m:Nat):List S1→Option (Prop × S1)
 | [.c (.p i j)]=>match boxOf E i with
  | some cs=>some (j+m≤cs.length,.a (takeAt cs j m))
  | none=>none
 | [.c (.q i sz e j)]=>match rowOf E i with
  | some (n,sz',f)=>some (sz=sz'∧e < n∧j+m≤sz,.a (ups f e j m))
  | none=>none
 | _=>none
def qFld (off:Nat):List S1→Option (Prop × S1)
 | [.c (.p i j)]=>some (True,.c (.p i (j+off)))
 | [.c (.q i sz e j)]=>some (True,.c (.q i sz e (j+off)))
 | _=>none
def qPart1 (off:Nat):List S1→Option (Prop × S1)
 | [.a cs]=>match nth cs off with
  | some x=>some (True,.c x)
  | none=>none
 | _=>none
def qPartN (off n:Nat):List S1→Option (Prop × S1)
 | [.a cs]=>some (off+n≤cs.length,.a (takeAt cs off n))
 | _=>none
def qIx1 (len sz:Nat):List S1→Option (Prop × S1)
 | [.a cs,.c (.v (.int _ i))]=>match nth cs (i.toNat * sz) with
  | some x=>some (0≤i∧i < len,.c x)
  | none=>none
 | _=>none
def qIxN (len sz:Nat):List S1→Option (Prop × S1)
 | [.a cs,.c (.v (.int _ i))]=>some (0≤i∧i < len∧i.toNat * sz+sz≤cs.length,.a (takeAt cs (i.toNat * sz) sz))
 | _=>none
def qIxA (len sz:Nat):List S1→Option (Prop × S1)
 | [.c (.p i j),.c (.v (.int _ x))]=>some (0≤x∧x < len,.c (.p i (j+x.toNat * sz)))
 | _=>none
def qIxS (E:Nat→Option Ent) (sz:Nat):List S1→Option (Prop × S1)
 | [.c (.n i),.c (.v (.int _ x))]=>match rowOf E i with
  | some (n,sz',_)=>some (sz=sz'∧0≤x∧x < n,.c (.q i sz x.toNat 0))
  | none=>none
 | _=>none
def qBin (op:BinOp):List S1→Option (Prop × S1)
 | [.c (.v (.int k x)),.c (.v (.int k' y))]=>if isShift op=true∨k=k' then (match binI op k x y with
  | some (p,v)=>some (p,.c (.v v))
  | none=>none) else none
 | _=>none
def qBinb (op:BinOp):List S1→Option (Prop × S1)
 | [.c (.v (.bool x)),.c (.v (.bool y))]=>match op with
  | .eql=>some (True,.c (.v (.bool (x == y))))
  | .neq=>some (True,.c (.v (.bool (!(x == y)))))
  | _=>none
 | _=>none
def qEqA (neg:Bool) (ks:List LK):List S1→Option (Prop × S1)
 | [.a xs,.a ys]=>match eqCells ks xs ys with
  | some b=>some (True,.c (.v (.bool (if neg then !b else b))))
  | none=>none
 | _=>none
def qUn (op:UnOp):List S1→Option (Prop × S1)
 | [.c (.v (.int k n))]=>match op with
  | .neg=>some (True,.c (.v (.int k (k.wrap (0 - n)))))
  | .xor=>some (True,.c (.v (.int k (bitI .xor k (if k.signed then -1 else k.max) n))))
  | _=>none
 | [.c (.v (.bool b))]=>match op with
  | .not=>some (True,.c (.v (.bool (!b))))
  | _=>none
 | _=>none
def qConv (k:IntKind):List S1→Option (Prop × S1)
 | [.c (.v (.int _ n))]=>some (True,.c (.v (.int k (k.wrap n))))
 | _=>none
def qMin:List S1→Option (Prop × S1)
 | [.c (.v (.int k x)),.c (.v (.int _ y))]=>some (True,.c (.v (.int k (min x y))))
 | [.c (.v (.int k x)),.c (.v (.int _ y)),.c (.v (.int _ z))]=>some (True,.c (.v (.int k (min (min x y) z))))
 | [.c (.v (.int k x)),.c (.v (.int _ y)),.c (.v (.int _ z)),.c (.v (.int _ u))]=>some (True,.c (.v (.int k (min (min (min x y) z) u))))
 | _=>none
def qMax:List S1→Option (Prop × S1)
 | [.c (.v (.int k x)),.c (.v (.int _ y))]=>some (True,.c (.v (.int k (max x y))))
 | [.c (.v (.int k x)),.c (.v (.int _ y)),.c (.v (.int _ z))]=>some (True,.c (.v (.int k (max (max x y) z))))
 | [.c (.v (.int k x)),.c (.v (.int _ y)),.c (.v (.int _ z)),.c (.v (.int _ u))]=>some (True,.c (.v (.int k (max (max (max x y) z) u))))
 | _=>none
def qLenS (E:Nat→Option Ent):List S1→Option (Prop × S1)
 | [x]=>match rowV E x with
  | some (n,_,_)=>some (True,.c (.v (.int .i64 n)))
  | none=>none
 | _=>none
def qNil:List S1→Option (Prop × S1)
 | [.c (.p i j)]=>some (True,.c (.p i j))
 | [.c (.q i sz e j)]=>some (True,.c (.q i sz e j))
 | [.c (.v (.func (.func f) x y))]=>some (True,.c (.v (.func (.func f) x y)))
 | _=>none
def intC:SC→Int
 | .v (.int _ n)=>n
 | _=>0
def boolC:SC→Bool
 | .v (.bool b)=>b
 | _=>false
def byteAt (s:ByteArray) (i:Nat):Int:=(s.data.toList.getD i 0).toNat
def strB (L:List Int):ByteArray:=⟨(L.map fun n=>UInt8.ofNat n.toNat).toArray⟩
def rowI (n:Nat) (f:Nat→Nat→SC):List Int:=(List.range n).map fun e=>intC (f e 0)
def rowBytes (n sz:Nat) (f:Nat→Nat→SC):Prop:=(n=0∨sz=1)∧∀ e,e < n→f e 0 = .v (.int .u8 (intC (f e 0)))
def strI (op:BinOp) (x y:ByteArray):Option (Prop × Value) :=
 match op with
 | .add=>some (((x.size+y.size:Nat):Int)≤9223372036854775807,.string (x++y))
 | .eql=>some (True,.bool (decide (x=y)))
 | .neq=>some (True,.bool (!decide (x=y)))
 | _=>none
def qSlen:List S1→Option (Prop × S1)
 | [.c (.v (.string s))]=>some (True,.c (.v (.int .i64 s.size)))
 | _=>none
def qSidx:List S1→Option (Prop × S1)
 | [.c (.v (.string s)),.c (.v (.int _ i))]=>some (0≤i∧i < s.size,.c (.v (.int .u8 (byteAt s i.toNat))))
 | _=>none
def qSbin (op:BinOp):List S1→Option (Prop × S1)
 | [.c (.v (.string x)),.c (.v (.string y))]=>match strI op x y with
  | some (p,v)=>some (p,.c (.v v))
  | none=>none
 | _=>none
def qSslc (lo hi:Bool):List S1→Option (Prop × S1)
 | [.c (.v (.string s))]=>if lo=false∧hi=false then some (True,.c (.v (.string s))) else none
 | [.c (.v (.string s)),.c (.v (.int _ a))]=>if hi=false then some (0≤a∧a≤s.size,.c (.v (.string (s.extract a.toNat s.size)))) else if lo=false then some (0≤a∧a≤s.size,.c (.v (.string (s.extract 0 a.toNat)))) else none
 | [.c (.v (.string s)),.c (.v (.int _ a)),.c (.v (.int _ b))]=>some (0≤a∧a≤b∧b≤s.size,.c (.v (.string (s.extract a.toNat b.toNat))))
 | _=>none
def ptrEq:SC→SC→Option Bool
 | .v (.pointer none),.v (.pointer none)=>some true
 | .v (.pointer none),.p _ _=>some false
 | .p _ _,.v (.pointer none)=>some false
 | .v (.pointer none),.q _ _ _ _=>some false
 | .q _ _ _ _,.v (.pointer none)=>some false
 | .p i j,.p i' j'=>if i=i' then some (j == j') else none
 | _,_=>none
def qEqP (neg:Bool):List S1→Option (Prop × S1)
 | [.c x,.c y]=>match ptrEq x y with
  | some b=>some (True,.c (.v (.bool (b != neg))))
  | none=>none
 | _=>none
def qStr (E:Nat→Option Ent):List S1→Option (Prop × S1)
 | [x]=>match rowV E x with
  | some (n,sz,f)=>some (rowBytes n sz f,.c (.v (.string (strB (rowI n f)))))
  | none=>none
 | _=>none
def qSdata (E:Nat→Option Ent):List S1→Option (Prop × S1)
 | [.c (.n i)]=>match rowOf E i with
  | some (n,sz,_)=>some (0 < n∧sz=1,.c (.q i 1 0 0))
  | none=>none
 | _=>none
def qToU (E:Nat→Option Ent):List S1→Option (Prop × S1)
 | [.c (.p i j)]=>match E i with
  | some (.box cs _)=>some (j < cs.length,.c (.p i j))
  | _=>none
 | _=>none
def qFromU (E:Nat→Option Ent) (u n:Nat):List S1→Option (Prop × S1)
 | [.c (.p i j)]=>match E i with
  | some (.box cs ty)=>some (j=0∧ty=u∧cs.length=n,.c (.p i j))
  | _=>none
 | _=>none
def cpOf:List S1→Option (List CP)
 | []=>some []
 | .c (.p i j) :: l=>match cpOf l with
  | some cs=>some (.p i j :: cs)
  | none=>none
 | .c (.v x) :: l=>match cpOf l with
  | some cs=>some (.v x :: cs)
  | none=>none
 | _=>none
def cpS:List CP→List S1
 | []=>[]
 | .v x :: l=>.c (.v x) :: cpS l
 | .p i j :: l=>.c (.p i j) :: cpS l
def qMkf (g:Nat) (ys:List S1):Option (Prop × S1) :=
 match cpOf ys with
 | some cs=>some (True,.c (.f g cs))
 | none=>none
def qX (E:Nat→Option Ent):QX→List S1→Option (Prop × S1)
 | .slen=>qSlen
 | .sidx=>qSidx
 | .sbin op=>qSbin op
 | .sslc lo hi=>qSslc lo hi
 | .eqP neg=>qEqP neg
 | .str=>qStr E
 | .sdata=>qSdata E
 | .toU=>qToU E
 | .fromU u n=>qFromU E u n
 | .mkf g=>qMkf g
def opQ (E:Nat→Option Ent):XOp→List S1→Option (Prop × S1)
 | .x k=>qX E k
 | .ustr _=>fun _=>none
 | .mv=>qMv
 | .build z pl=>qBuild z pl
 | .load1=>qLoad1 E
 | .loadN m=>qLoadN E m
 | .fld off=>qFld off
 | .part1 off=>qPart1 off
 | .partN off n=>qPartN off n
 | .ix1 len sz=>qIx1 len sz
 | .ixN len sz=>qIxN len sz
 | .ixA len sz=>qIxA len sz
 | .ixS sz=>qIxS E sz
 | .bin op=>qBin op
 | .binb op=>qBinb op
 | .eqA neg ks=>qEqA neg ks
 | .un op=>qUn op
 | .conv k=>qConv k
 | .minI=>qMin
 | .maxI=>qMax
 | .lenS=>qLenS E
 | .nilc=>qNil
 | .pick=>fun _=>none
 | .box _=>fun _=>none
 | .alloc _ _=>fun _=>none
 | .store _=>fun _=>none
 | .ext _=>fun _=>none
 | .call _=>fun _=>none
 | .callv=>fun _=>none
 | .slit ..=>fun _=>none
 | .mks ..=>fun _=>none
 | .slc ..=>fun _=>none
 | .app ..=>fun _=>none
 | .isnil _=>fun _=>none
 | .other=>fun _=>none
 | .mkb=>fun _=>none
end Go.Sx
namespace Go.Sx
open Go.RowKit
theorem nth_eq {α:Type}:∀ (l:List α) (j:Nat),nth l j=l[j]?
 | [],j=>by simp [nth]
 | c :: cs,0=>by simp [nth]
 | c :: cs,j+1=>by simp [nth,nth_eq cs j]
theorem takeAt_eq {α:Type}:∀ (l:List α) (j m:Nat),takeAt l j m=(l.drop j).take m
 | l,j,0=>by cases l<;>simp [takeAt]
 | [],j,m+1=>by simp [takeAt]
 | c :: cs,0,m+1=>by simp [takeAt,takeAt_eq cs 0 m]
 | c :: cs,j+1,m+1=>by simp [takeAt,takeAt_eq cs j (m+1)]
theorem setAt_eq {α:Type}:∀ (l:List α) (o:Nat) (xs:List α),o+xs.length≤l.length→setAt l o xs=l.take o++xs++l.drop (o+xs.length)
 | l,0,[],_=>by cases l<;>simp [setAt]
 | [],0,x :: xs,h=>by simp at h
 | c :: cs,0,x :: xs,h=>by
  have:=setAt_eq cs 0 xs (by simp at h ⊢; omega)
  simp at this
  simp [setAt,this]
 | [],o+1,xs,h=>by simp at h
 | c :: cs,o+1,xs,h=>by
  have:=setAt_eq cs o xs (by simp at h; omega)
  have e:o+1+xs.length=(o+xs.length)+1:=by omega
  cases xs with
  | nil=>simp [setAt,this]
  | cons x xs=>simp only [setAt,this,e,List.take_succ_cons,List.drop_succ_cons,List.cons_append]
theorem ups_length (f:Nat→Nat→SC) (e j:Nat):∀ m,(ups f e j m).length=m:=by
 intro m
 induction m generalizing j with
 | zero=>rfl
 | succ m ih=>simp [ups,ih]
theorem ups_get (f:Nat→Nat→SC) (e:Nat):∀ (m j i:Nat),i < m→(ups f e j m)[i]?=some (f e (j+i))
 | 0,_,_,h=>by omega
 | m+1,j,0,_=>by simp [ups]
 | m+1,j,i+1,h=>by
  simp only [ups,List.getElem?_cons_succ]
  rw [ups_get f e m (j+1) i (by omega)]
  congr 2; omega
section
variable {P:Program} {w:World}
theorem run_val {s:Sem Value} {v:Value} (h:s.run P w = .ok v w):(do pure (.value (← s)):Sem Next).run P w = .ok (.value v) w:=by simp [h]
theorem run_typeInfo' {t:TypeId} {i:TypeInfo} (h:P.info? t=some i):(typeInfo t).run P w = .ok i w:=by simp [typeInfo,h]
theorem run_sizeOf' {t:TypeId} {i:TypeInfo} (h:P.info? t=some i):(sizeOf t).run P w = .ok i.size w:=by simp [sizeOf,run_typeInfo' h]
theorem cellsOf_eq {t:TypeId} {i:TypeInfo} (h:P.info? t=some i):P.cellsOf t=i.size:=by simp [Program.cellsOf,h]
theorem run_isAgg' {t:TypeId} {d:TypeDesc} (h:P.underlying t=some d):(isAgg t).run P w = .ok (isAggD d) w:=by
 simp only [isAgg,Sem.run_bind,run_underlying h,Result.andThen_ok]
 cases d<;>rfl
theorem run_loadVar1 {t:TypeId} {d:TypeDesc} {a:Addr} {v:Value} (h:P.underlying t=some d) (hd:isAggD d=false) (hc:w.cell? a=some v):(loadVar t a).run P w = .ok v w:=by
 simp [loadVar,run_isAgg' h,hd,hc]
theorem run_loadVarN {t:TypeId} {d:TypeDesc} {i:TypeInfo} {a:Addr} {cs:List Value} (h:P.underlying t=some d) (hd:isAggD d=true) (hi:P.info? t=some i)
  (hl:cs.length=i.size) (hc:∀ j v,cs[j]?=some v→w.cell? (a.add j)=some v):(loadVar t a).run P w = .ok (.agg cs.toArray) w:=by
 simp [loadVar,run_isAgg' h,hd,run_sizeOf' hi,← hl,run_loadCells_list w a cs hc]
theorem Addr.add_plain (b o n:Nat):(⟨b,o,none⟩:Addr).add n=⟨b,o+n,none⟩:=by unfold Addr.add; split<;>simp_all
end
section
variable {base:World} {M:Scp} {r:Rho} {E:Nat→Option Ent} {w:World}
theorem boxOf_eq {i:Nat} {cs:List SC} (h:boxOf E i=some cs):(∃ ty,E i=some (.box cs ty))∨∃ n f ty p,E i=some (.bx n f ty p)∧cs=rngS n f:=by
 unfold boxOf at h
 split at h
 ·rename_i cs' ty he; cases h; exact .inl ⟨ty,he⟩
 ·rename_i n f ty p he; cases h; exact .inr ⟨n,f,ty,p,he,rfl⟩
 ·cases h
theorem box_at (h:HeapRel base M r E w) {i:Nat} {cs:List SC} (hb:boxOf E i=some cs) :
  ∃ b ty,r i = .pointer (some ⟨b,0,none⟩)∧w.heap[b]?=some (.cells (cs.map (SC.den r)).toArray ty (0,0)):=by
 rcases boxOf_eq hb with ⟨ty,he⟩ | ⟨n,f,ty,p,he,rfl⟩
 ·obtain ⟨b,h1,h2⟩:=h.ent i _ he
  exact ⟨b,ty,h1,h2⟩
 ·obtain ⟨⟨b,h1,h2,_⟩,_⟩:=h.ent i _ he
  exact ⟨b,ty,h1,h2⟩
theorem box_cell (h:HeapRel base M r E w) {i j:Nat} {cs:List SC} {x:SC} (hb:boxOf E i=some cs) (hx:cs[j]?=some x) :
  w.cell? ⟨(addrOf (r i)).block,(addrOf (r i)).off+j,none⟩=some (x.den r):=by
 obtain ⟨b,ty,h1,h2⟩:=box_at h hb
 rw [h1]
 simp only [addrOf,Nat.zero_add]
 rw [cell_of_row w b j _ ty (0,0) h2]
 simp [hx]
theorem RowB.cell {w:World} {b j:Nat} {cur:Array Value} {ty:TypeId}:RowB w b cur ty→w.cell? ⟨b,j,none⟩=cur[j]?:=fun ⟨z,h,_⟩=>cell_of_row w b j _ ty z h
theorem own_to_row {w:World} {V:Value} {n sz:Nat} {f:Nat→Nat→Value} {ty:TypeId} (h2:ownIs w V n sz f ty):rowIs w V n sz f:=by
 obtain ⟨g0,g⟩:=h2
 rcases g with ⟨b,o,cap,cur,k1,k2,k3,k4,k5,k6⟩ | ⟨a,k1,k2⟩
 ·exact ⟨_,cap,k1,k3,g0,fun hn=>⟨b,o,rfl,k2.lt,fun e j he hj=>by rw [k2.cell,k6 e j he hj]⟩⟩
 ·exact ⟨a,0,by rw [k1,k2],by omega,g0,fun hn=>by omega⟩
theorem deep_row {r:Rho} {w:World} {V:Value} {o:Option TypeId} {n sz:Nat} {f:Nat→Nat→Value} {c:Nat→Nat→Option (Nat × Nat × (Nat→Nat→Value))} {al:List (Nat × Nat × Nat)} (h:(Ent.deep o n sz f c al).rel r w V):rowIs w V n sz f:=by
 cases o with
 | none=>exact h.1
 | some ty=>exact own_to_row h.1.1
theorem row_cell (h:HeapRel base M r E w) {i e j n sz:Nat} {f:Nat→Nat→SC} (hb:rowOf E i=some (n,sz,f)) (he:e < n) (hj:j < sz) :
  w.cell? ⟨(addrOf (r i)).block,(addrOf (r i)).off+(e * sz+j),none⟩=some ((f e j).den r):=by
 unfold rowOf at hb
 split at hb
 ·rename_i n' sz' f' hE
  cases hb
  obtain ⟨a,cap,h1,h2,hm,h3⟩:=h.ent i _ hE
  obtain ⟨b,o,rfl,h4,h5⟩:=h3 (by omega)
  rw [h1]; exact h5 e j he hj
 ·rename_i n' sz' f' ty hE
  cases hb
  rcases (h.ent i _ hE).2 with ⟨b,o,cap,cur,h1,h2,h3,h4,h5,h6⟩ | ⟨_,_,h0⟩
  ·rw [h1]
   simp only [addrOf]
   rw [h2.cell]
   exact h6 e j he hj
  ·omega
 ·cases hb; omega
 ·rename_i hE
  cases hb
  obtain ⟨a,cap,h1,h2,hm,h3⟩:=deep_row (h.ent i _ hE)
  obtain ⟨b,o,rfl,h4,h5⟩:=h3 (by omega)
  rw [h1,alF_den (h.ent i _ hE).2.2]; exact h5 e j he hj
 ·cases hb
theorem row_val (h:HeapRel base M r E w) {i n sz:Nat} {f:Nat→Nat→SC} (hb:rowOf E i=some (n,sz,f)) :
  ∃ a cap,r i = .slice a n cap∧n≤cap∧(0 < n→∃ b o,a=some ⟨b,o,none⟩∧b < w.heap.size):=by
 unfold rowOf at hb
 split at hb
 ·rename_i n' sz' f' hE
  cases hb
  obtain ⟨a,cap,h1,h2,hm,h3⟩:=h.ent i _ hE
  exact ⟨a,cap,h1,h2,fun hn=>by obtain ⟨b,o,h4,h5,_⟩:=h3 hn; exact ⟨b,o,h4,h5⟩⟩
 ·rename_i n' sz' f' ty hE
  cases hb
  rcases (h.ent i _ hE).2 with ⟨b,o,cap,cur,h1,h2,h3,h4⟩ | ⟨a,h1,h0⟩
  ·exact ⟨_,cap,h1,h3,fun _=>⟨b,o,rfl,h2.lt⟩⟩
  ·exact ⟨a,0,by rw [h1,h0],by omega,fun hn=>by omega⟩
 ·rename_i hE
  cases hb
  obtain ⟨a,h1⟩:=h.ent i _ hE
  exact ⟨a,0,h1,by omega,fun hn=>by omega⟩
 ·rename_i hE
  cases hb
  obtain ⟨a,cap,h1,h2,hm,h3⟩:=deep_row (h.ent i _ hE)
  exact ⟨a,cap,h1,h2,fun hn=>by obtain ⟨b,o,h4,h5,_⟩:=h3 hn; exact ⟨b,o,h4,h5⟩⟩
 ·cases hb
theorem rowV_val (h:HeapRel base M r E w) {x:S1} {n sz:Nat} {f:Nat→Nat→SC} (hb:rowV E x=some (n,sz,f)) :
  ∃ a cap,x.den r = .slice a n cap∧n≤cap∧(0 < n→∃ b o,a=some ⟨b,o,none⟩∧b < w.heap.size):=by
 unfold rowV at hb
 split at hb
 ·rename_i i
  exact row_val h hb
 ·cases hb; exact ⟨none,0,rfl,by omega,fun hn=>by omega⟩
 ·cases hb
theorem rowV_cells (h:HeapRel base M r E w) {x:S1} {n sz cap b o:Nat} {f:Nat→Nat→SC} (hb:rowV E x=some (n,sz,f)) (hx:x.den r = .slice (some ⟨b,o,none⟩) n cap) {e j:Nat} (he:e < n) (hj:j < sz) :
  w.cell? ⟨b,o+(e * sz+j),none⟩=some ((f e j).den r):=by
 unfold rowV at hb
 split at hb
 ·rename_i i
  have:=row_cell h hb he hj
  simp only [S1.den,SC.den] at hx
  rw [hx] at this
  exact this
 ·cases hb; omega
 ·cases hb
end
theorem S1.cells_den (r:Rho) (x:S1) (h:∀ v,x = .c (.v v)→v.oneCell'=true) (hr:∀ i,(r i).oneCell'=true):(x.den r).cells.toList=x.cells.map (SC.den r):=by
 cases x with
 | a cs=>simp [S1.den,Value.cells,S1.cells]
 | c x=>
  have:(x.den r).oneCell'=true:=by
   cases x with
   | v v=>exact h v rfl
   | n i=>exact hr i
   | p i j=>rfl
   | q i sz e j=>rfl
   | f g cs=>rfl
  simp only [S1.den,S1.cells,List.map_cons,List.map_nil]
  clear h hr
  generalize x.den r=v at this ⊢
  cases v<;>first | rfl | (simp [Value.oneCell'] at this)
end Go.Sx
namespace Go.Sx
open Go.RowKit
section
variable {P:Program} {base:World} {M:Scp} {r:Rho} {E:Nat→Option Ent} {w:World}
theorem lay_eq (off:Nat):∀ (vs:List Value) (k:Nat) (cells:Array Value),off+k+vs.length≤cells.size →
  ((vs.zipIdx k).foldl (fun (cs:Array Value) (x:Value × Nat)=>cs.setIfInBounds (off+x.2) x.1) cells)=(setAt cells.toList (off+k) vs).toArray
 | [],k,cells,h=>by
  simp
  rw [setAt_eq _ _ _ (by simp at h ⊢; omega)]
  simp
 | v :: vs,k,cells,h=>by
  simp only [List.zipIdx_cons,List.foldl_cons]
  have ih:=lay_eq off vs (k+1) (cells.setIfInBounds (off+k) v) (by simp at h ⊢; omega)
  rw [ih]
  congr 1
  simp at h
  rw [setAt_eq _ _ _ (by simp; omega),setAt_eq _ _ _ (by simp; omega)]
  simp only [Array.toList_setIfInBounds]
  apply List.ext_getElem?
  intro i
  simp only [List.getElem?_append,List.getElem?_take,List.getElem?_drop,List.getElem?_set,List.length_append,List.length_take,List.length_set,List.length_cons,Array.length_toList,List.length_drop]
  have e:off+(k+1)=off+k+1:=by omega
  rw [e]
  by_cases h1:i < off+k
  ·have m1:min (off+k+1) cells.size=off+k+1:=by omega
   have m2:min (off+k) cells.size=off+k:=by omega
   rw [m1,m2]
   rw [if_pos (by omega),if_pos (by omega),if_pos (by omega),if_neg (by omega),if_pos (by omega),if_pos (by omega),if_pos (by omega)]
  ·by_cases h2:i=off+k
   ·subst h2
    have m1:min (off+k+1) cells.size=off+k+1:=by omega
    have m2:min (off+k) cells.size=off+k:=by omega
    rw [m1,m2]
    rw [if_pos (by omega),if_pos (by omega),if_pos (by omega),if_pos rfl,if_pos (by omega),if_pos (by omega),if_neg (by omega)]
    simp
   ·have m1:min (off+k+1) cells.size=off+k+1:=by omega
    have m2:min (off+k) cells.size=off+k:=by omega
    rw [m1,m2]
    by_cases h3:i < off+k+1+vs.length
    ·rw [if_pos (by omega),if_neg (by omega),if_pos (by omega),if_neg (by omega)]
     have:i - (off+k)=(i - (off+k+1))+1:=by omega
     rw [this,List.getElem?_cons_succ]
    ·rw [if_neg (by omega),if_neg (by omega),if_neg (by omega)]
     congr 1; omega
theorem fill_den (place:Nat→Option (Nat × Nat)) (hr:∀ i,(r i).oneCell'=true):∀ (ix:List Nat) (pl:List (Nat × Nat)) (xs:List S1) (cs cs':List SC),
  ix.map place=pl.map some→(∀ x∈xs,∀ v,x = .c (.v v)→v.oneCell'=true)→fillS cs pl xs=some cs'→xs.length=ix.length →
  Instr.fill place (cs.map (SC.den r)).toArray (ix.zip (xs.map (S1.den r)))=some (cs'.map (SC.den r)).toArray
 | [],pl,xs,cs,cs',hp,_,hf,hl=>by
  have:pl=[]:=by simpa using hp.symm
  subst this
  have:xs=[]:=List.eq_nil_of_length_eq_zero (by simpa using hl)
  subst this
  simp only [fillS,Option.some.injEq] at hf
  subst hf
  rfl
 | i :: ix,[],xs,cs,cs',hp,_,hf,hl=>by simp at hp
 | i :: ix,(o,n) :: pl,[],cs,cs',hp,_,hf,hl=>by simp at hl
 | i :: ix,(o,n) :: pl,x :: xs,cs,cs',hp,hone,hf,hl=>by
  simp only [List.map_cons,List.cons.injEq] at hp
  simp only [fillS] at hf
  split at hf
  ·rename_i hc
   obtain ⟨hc1,hc2⟩:=hc
   have hcell:=S1.cells_den r x (fun v hv=>hone x (by simp) v hv) hr
   have hsz:(x.den r).cells.size=n:=by rw [← Array.length_toList,hcell,List.length_map,hc1]
   simp only [List.zip_cons_cons,List.map_cons,Instr.fill,hp.1]
   rw [if_neg (by rw [hsz]; simp; omega)]
   rw [← fill_den place hr ix pl xs (setAt cs o x.cells) cs' hp.2 (fun y hy=>hone y (List.mem_cons_of_mem _ hy)) hf (by simpa using hl)]
   congr 1
   rw [← Array.foldl_toList,Array.toList_zipIdx,hcell]
   have:=lay_eq o (x.cells.map (SC.den r)) 0 (cs.map (SC.den r)).toArray (by simp; omega)
   simp only [Nat.add_zero] at this
   refine this.trans ?_
   congr 1
   rw [setAt_eq _ _ _ (by simp; omega),setAt_eq _ _ _ (by omega)]
   simp
  ·cases hf
end
end Go.Sx
namespace Go.Sx
open Go.RowKit
theorem oks_one:∀ (xs:List S1),oks xs=true→∀ x∈xs,∀ v,x = .c (.v v)→v.oneCell'=true
 | [],_,x,hx,_,_=>by cases hx
 | y :: ys,h,x,hx,v,hv=>by
  simp only [oks,Bool.and_eq_true] at h
  cases hx with
  | head=>subst hv; exact h.1
  | tail _ hm=>exact oks_one ys h.2 x hm v hv
section
variable {P:Program} {base:World} {M:Scp} {r:Rho} {E:Nat→Option Ent} {w:World}
def Yields (P:Program) (o:Oper) (a:Act) (w:World) (v:Value):Prop:=(execOp a.eval o).run P w = .ok (.value v) w
theorem sound_build {o:Oper} {a:Act} {t:TypeId} {parts:Array (Nat × Operand)} {z:List Value} {pl:List (Nat × Nat)} {xs:List XO} {ys:List S1} {p:Prop} {y:S1}
  (ho:o.op = .build t parts) (hx:xop0 P o.op=some (.build z pl,xs)) (hv:xs.map (XO.val a)=ys.map (S1.den r)) (hq:opQ E (.build z pl) ys=some (p,y)) (hp:p)
  (hr:∀ i,(r i).oneCell'=true):Yields P o a w (y.den r):=by
 have hq':∃ cs,fillS (z.map .v) pl ys=some cs∧y = .a cs∧(p ↔ oks ys=true):=by
  simp only [opQ,qBuild] at hq
  split at hq
  ·rename_i cs hcs
   cases hq
   exact ⟨cs,hcs,rfl,Iff.rfl⟩
  ·cases hq
 obtain ⟨cs,hf,rfl,hpi⟩:=hq'
 have hok:=hpi.1 hp
 unfold Yields
 rw [ho] at hx
 simp only [xop0] at hx
 have hz:(z.map SC.v).map (SC.den r)=z:=by
  rw [List.map_map]; exact (List.map_congr_left (fun x _=>rfl)).trans (List.map_id z)
 split at hx
 ·rename_i fs zz hu hzz
  split at hx
  ·rename_i hall
   split at hx
   ·rename_i hlt
    simp only [Option.some.injEq,Prod.mk.injEq,XOp.build.injEq] at hx
    obtain ⟨⟨rfl,rfl⟩,rfl⟩:=hx
    obtain ⟨i,hi,hzi⟩:=Option.bind_eq_some_iff.1 hzz
    have hfill:=fill_den (r:=r) (fun i=>(fs.toList.map fun f=>(f.offset,P.cellsOf f.type))[i]?) hr (parts.toList.map (·.1)) _ ys _ cs ?hpl (oks_one ys hok) hf ?hlen
    case hlen=>
     have:=congrArg List.length hv
     simp at this
     simp [this]
    case hpl=>
     rw [List.map_map,List.map_map]
     refine List.map_congr_left fun x hx=>?_
     have hx':=(Array.all_eq_true'.1 hlt) x (Array.mem_toList_iff.1 hx)
     simp only [decide_eq_true_eq] at hx'
     simp [hx',Array.getD]
    rw [hz] at hfill
    have hev:(parts.toList.map fun x=>(x.1,a.eval x.2))=(parts.toList.map (·.1)).zip (ys.map (S1.den r)):=by
     rw [← hv,List.map_map,List.zip_map',List.map_congr_left]
     intro x _
     simp [xo_val]
    have hmapM:∀ l:List Field,l.all (fun f=>(P.info? f.type).isSome)=true →
      (l.mapM fun f=>(do pure (f.offset,← sizeOf f.type):Sem (Nat × Nat))).run P w = .ok (l.map fun f=>(f.offset,P.cellsOf f.type)) w:=by
     intro l
     induction l with
     | nil=>intro _; rfl
     | cons f l ih=>
      intro hl
      simp only [List.all_cons,Bool.and_eq_true] at hl
      obtain ⟨i,hi⟩:=Option.isSome_iff_exists.1 hl.1
      simp only [List.mapM_cons,Sem.run_bind,run_sizeOf' hi,Result.andThen_ok,Sem.run_pure,ih hl.2,List.map_cons,cellsOf_eq hi]
    have hall':fs.toList.all (fun f=>(P.info? f.type).isSome)=true:=by rw [Array.all_toList]; exact hall
    simp only [execOp,ho]
    refine run_val ?_
    simp only [Instr.build,Sem.run_bind,zeroValue,run_typeInfo' hi,hzi,Result.andThen_ok,Sem.run_pure,run_underlying hu]
    have hm:=hmapM fs.toList hall'
    rw [Array.mapM_eq_mapM_toList]
    simp only [Sem.run_map,hm,Result.andThen_ok]
    have e1:(parts.map fun x=>(x.1,a.eval x.2)).toList=(parts.toList.map (·.1)).zip (ys.map (S1.den r)):=by rw [Array.toList_map]; exact hev
    simp only [e1,List.getElem?_toArray]
    simp only [Array.toArray_toList] at hfill
    rw [hfill]
    simp [S1.den]
   ·cases hx
  ·cases hx
 ·rename_i n e zz hu hzz
  split at hx
  ·rename_i hi'
   simp only [Option.some.injEq,Prod.mk.injEq,XOp.build.injEq] at hx
   obtain ⟨⟨rfl,rfl⟩,rfl⟩:=hx
   obtain ⟨i,hi,hzi⟩:=Option.bind_eq_some_iff.1 hzz
   obtain ⟨ie,hie⟩:=Option.isSome_iff_exists.1 hi'
   have hfill:=fill_den (r:=r) (fun i=>some (i * P.cellsOf e,P.cellsOf e)) hr (parts.toList.map (·.1)) _ ys _ cs ?hpl (oks_one ys hok) hf ?hlen
   case hlen=>
    have:=congrArg List.length hv
    simp at this
    simp [this]
   case hpl=>rw [List.map_map,List.map_map]; rfl
   rw [hz] at hfill
   have hev:(parts.map fun x=>(x.1,a.eval x.2)).toList=(parts.toList.map (·.1)).zip (ys.map (S1.den r)):=by
    rw [Array.toList_map,← hv,List.map_map,List.zip_map',List.map_congr_left]
    intro x _
    simp [xo_val]
   simp only [execOp,ho]
   refine run_val ?_
   simp only [Instr.build,Sem.run_bind,zeroValue,run_typeInfo' hi,hzi,Result.andThen_ok,Sem.run_pure,run_underlying hu,run_sizeOf' hie]
   rw [cellsOf_eq hie] at hfill
   simp only [hev]
   simp only [Array.toArray_toList] at hfill
   rw [hfill]
   simp [S1.den]
  ·cases hx
 ·cases hx
end
end Go.Sx
namespace Go.Sx
open Go.RowKit
section
variable {P:Program} {base:World} {M:Scp} {r:Rho} {E:Nat→Option Ent} {w:World}
theorem map1 {a:Act} {x:XO} {ys:List S1} (h:[x].map (XO.val a)=ys.map (S1.den r)):∃ y,ys=[y]∧x.val a=y.den r:=by
 cases ys with
 | nil=>simp at h
 | cons y ys=>cases ys with
  | nil=>simp at h; exact ⟨y,rfl,h⟩
  | cons y' ys=>simp at h
theorem map2 {a:Act} {x x':XO} {ys:List S1} (h:[x,x'].map (XO.val a)=ys.map (S1.den r)):∃ y y',ys=[y,y']∧x.val a=y.den r∧x'.val a=y'.den r:=by
 cases ys with
 | nil=>simp at h
 | cons y ys=>cases ys with
  | nil=>simp at h
  | cons y' ys=>cases ys with
   | nil=>simp at h; exact ⟨y,y',rfl,h.1,h.2⟩
   | cons y2 ys=>simp at h
theorem sound_load1 {o:Oper} {a:Act} {t:TypeId} {x:Operand} {xs:List XO} {ys:List S1} {p:Prop} {y:S1} {d:TypeDesc} (hE:HeapRel base M r E w)
  (ho:o.op = .load t x) (hu:P.underlying t=some d) (hd:isAggD d=false) (hv:a.eval x=(S1.den r (ys.headD (.a []))))
  (hq:opQ E .load1 ys=some (p,y)) (hp:p):Yields P o a w (y.den r):=by
 unfold Yields
 simp only [execOp,ho]
 refine run_val ?_
 simp only [opQ] at hq
 unfold qLoad1 at hq
 split at hq<;>first | cases hq | skip
 ·split at hq
  ·rename_i cs hb
   split at hq
   ·rename_i x' hx'
    cases hq
    simp only [List.headD_cons] at hv
    rw [hv]
    simp only [S1.den,SC.den,Instr.loadAt,Instr.sureAddr,Sem.run_bind,Sem.run_pure,Result.andThen_ok]
    exact run_loadVar1 hu hd (box_cell hE hb (by rw [← nth_eq]; exact hx'))
   ·cases hq
  ·cases hq
 ·split at hq
  ·rename_i n sz' f hb
   cases hq
   obtain ⟨rfl,h1,h2⟩:=hp
   simp only [List.headD_cons] at hv
   rw [hv]
   simp only [S1.den,SC.den,Instr.loadAt,Instr.sureAddr,Sem.run_bind,Sem.run_pure,Result.andThen_ok]
   exact run_loadVar1 hu hd (row_cell hE hb h1 h2)
  ·cases hq
theorem sound_loadN {o:Oper} {a:Act} {t:TypeId} {x:Operand} {ys:List S1} {p:Prop} {y:S1} {d:TypeDesc} {i:TypeInfo} (hE:HeapRel base M r E w)
  (ho:o.op = .load t x) (hu:P.underlying t=some d) (hd:isAggD d=true) (hi:P.info? t=some i) (hv:a.eval x=(S1.den r (ys.headD (.a []))))
  (hq:opQ E (.loadN i.size) ys=some (p,y)) (hp:p):Yields P o a w (y.den r):=by
 unfold Yields
 simp only [execOp,ho]
 refine run_val ?_
 simp only [opQ] at hq
 unfold qLoadN at hq
 split at hq<;>first | cases hq | skip
 ·split at hq
  ·rename_i cs hb
   cases hq
   simp only [List.headD_cons] at hv
   rw [hv]
   simp only [S1.den,SC.den,Instr.loadAt,Instr.sureAddr,Sem.run_bind,Sem.run_pure,Result.andThen_ok]
   refine run_loadVarN hu hd hi (by rw [takeAt_eq]; simp; omega) fun m v hm=>?_
   rw [Addr.add_plain,takeAt_eq] at *
   simp only [List.getElem?_map,Option.map_eq_some_iff] at hm
   obtain ⟨x',hx',rfl⟩:=hm
   rw [List.getElem?_take] at hx'
   split at hx'
   ·rw [List.getElem?_drop] at hx'
    have:=box_cell hE hb hx'
    rw [Nat.add_assoc]; exact this
   ·cases hx'
  ·cases hq
 ·rename_i k sz e j
  split at hq
  ·rename_i n sz' f hb
   cases hq
   obtain ⟨rfl,h1,h2⟩:=hp
   simp only [List.headD_cons] at hv
   rw [hv]
   simp only [S1.den,SC.den,Instr.loadAt,Instr.sureAddr,Sem.run_bind,Sem.run_pure,Result.andThen_ok]
   refine run_loadVarN hu hd hi (by simp [ups_length]) fun m v hm=>?_
   rw [Addr.add_plain]
   simp only [List.getElem?_map,Option.map_eq_some_iff] at hm
   obtain ⟨x',hx',rfl⟩:=hm
   have hlt:m < i.size:=by
    have:=(List.getElem?_eq_some_iff.1 hx').1
    rw [ups_length] at this; exact this
   rw [ups_get f e _ j m hlt] at hx'
   cases hx'
   have:=row_cell hE hb h1 (show j+m < sz by omega)
   rw [Nat.add_assoc,Nat.add_assoc]; exact this
  ·cases hq
end
end Go.Sx
namespace Go.Sx
open Go.RowKit
section
variable {P:Program} {base:World} {M:Scp} {r:Rho} {E:Nat→Option Ent} {w:World}
theorem sound_fld {o:Oper} {a:Act} {s:TypeId} {x:Operand} {f:Nat} {fs:Array Field} {fd:Field} {i:TypeInfo} {ys:List S1} {p:Prop} {y:S1}
  (ho:o.op = .fieldAddr s x f) (hs:P.underlying s=some (.struct fs)) (hf:fs[f]?=some fd) (hi:P.info? fd.type=some i) (h0:i.size≠0)
  (hv:[xo x].map (XO.val a)=ys.map (S1.den r)) (hq:opQ E (.fld fd.offset) ys=some (p,y)) (hp:p):Yields P o a w (y.den r):=by
 obtain ⟨z,rfl,hz⟩:=map1 hv
 rw [xo_val] at hz
 unfold Yields
 simp only [execOp,ho,hz]
 refine run_val ?_
 have key:∀ (b off:Nat),(Instr.fieldAt s (.pointer (some ⟨b,off,none⟩)) f).run P w = .ok (.pointer (some ⟨b,off+fd.offset,none⟩)) w:=by
  intro b off
  simp only [Instr.fieldAt,Sem.run_bind,run_underlying hs,Result.andThen_ok,hf,Instr.sureAddr,Sem.run_pure,fieldPlace,run_sizeOf' hi,if_neg h0,Addr.add_plain]
 rcases z with (_ | ⟨k,j⟩ | _ | ⟨k,sz,e,j⟩) | _
 all_goals simp only [opQ,qFld,qPart1,qPartN] at hq
 all_goals first | cases hq | skip
 ·simp only [S1.den,SC.den,key,Nat.add_assoc]
 ·simp only [S1.den,SC.den,key,Nat.add_assoc]
theorem run_part1 {t:TypeId} {d:TypeDesc} {cs:Array Value} {off:Nat} {v:Value} (hu:P.underlying t=some d) (hd:isAggD d=false) (hc:cs[off]?=some v):(part t cs off).run P w = .ok v w:=by
 simp [part,run_isAgg' hu,hd,hc]
theorem run_partN {t:TypeId} {d:TypeDesc} {i:TypeInfo} {cs:Array Value} {off:Nat} (hu:P.underlying t=some d) (hd:isAggD d=true) (hi:P.info? t=some i) :
  (part t cs off).run P w = .ok (.agg (cs.extract off (off+i.size))) w:=by
 simp [part,run_isAgg' hu,hd,run_sizeOf' hi]
theorem extract_takeAt (cs:List SC) (off n:Nat):(cs.map (SC.den r)).toArray.extract off (off+n)=((takeAt cs off n).map (SC.den r)).toArray:=by
 rw [takeAt_eq]
 simp [List.extract_toArray,List.extract_eq_take_drop,List.map_drop,List.map_take]
theorem sound_part1 {o:Oper} {a:Act} {s:TypeId} {x:Operand} {f:Nat} {fs:Array Field} {fd:Field} {d:TypeDesc} {ys:List S1} {p:Prop} {y:S1}
  (ho:o.op = .field s x f) (hs:P.underlying s=some (.struct fs)) (hf:fs[f]?=some fd) (hu:P.underlying fd.type=some d) (hd:isAggD d=false)
  (hv:[xo x].map (XO.val a)=ys.map (S1.den r)) (hq:opQ E (.part1 fd.offset) ys=some (p,y)) (hp:p):Yields P o a w (y.den r):=by
 obtain ⟨z,rfl,hz⟩:=map1 hv
 rw [xo_val] at hz
 unfold Yields
 simp only [execOp,ho,hz]
 refine run_val ?_
 cases z with
 | c z=>simp [opQ,qPart1,qPartN] at hq
 | a cs=>
  simp only [opQ,qFld,qPart1,qPartN] at hq
  split at hq
  ·rename_i x' hx'
   cases hq
   rw [nth_eq] at hx'
   simp only [Instr.field,Sem.run_bind,run_underlying hs,Result.andThen_ok,hf,S1.den,asAgg,Sem.run_pure]
   exact run_part1 hu hd (by simp [hx'])
  ·cases hq
theorem sound_partN {o:Oper} {a:Act} {s:TypeId} {x:Operand} {f:Nat} {fs:Array Field} {fd:Field} {d:TypeDesc} {i:TypeInfo} {ys:List S1} {p:Prop} {y:S1}
  (ho:o.op = .field s x f) (hs:P.underlying s=some (.struct fs)) (hf:fs[f]?=some fd) (hu:P.underlying fd.type=some d) (hd:isAggD d=true) (hi:P.info? fd.type=some i)
  (hv:[xo x].map (XO.val a)=ys.map (S1.den r)) (hq:opQ E (.partN fd.offset i.size) ys=some (p,y)) (hp:p):Yields P o a w (y.den r):=by
 obtain ⟨z,rfl,hz⟩:=map1 hv
 rw [xo_val] at hz
 unfold Yields
 simp only [execOp,ho,hz]
 refine run_val ?_
 cases z with
 | c z=>simp [opQ,qPart1,qPartN] at hq
 | a cs=>
  simp only [opQ,qFld,qPart1,qPartN] at hq
  cases hq
  simp only [Instr.field,Sem.run_bind,run_underlying hs,Result.andThen_ok,hf,S1.den,asAgg,Sem.run_pure]
  rw [run_partN hu hd hi,extract_takeAt]
theorem sound_ix {o:Oper} {a:Act} {t:TypeId} {x ix:Operand} {len:Nat} {e:TypeId} {d:TypeDesc} {i:TypeInfo} {ys:List S1} {p:Prop} {y:S1}
  (ho:o.op = .index t x ix) (ht:P.underlying t=some (.array len e)) (hu:P.underlying e=some d) (hi:P.info? e=some i)
  (hv:[xo x,xo ix].map (XO.val a)=ys.map (S1.den r)) (hq:opQ E (if isAggD d then .ixN len i.size else .ix1 len i.size) ys=some (p,y)) (hp:p):Yields P o a w (y.den r):=by
 obtain ⟨z,z',rfl,hz,hz'⟩:=map2 hv
 rw [xo_val] at hz hz'
 unfold Yields
 simp only [execOp,ho,hz,hz']
 refine run_val ?_
 rcases z' with ((_ | _ | _ | ⟨kk,n⟩ | _ | _ | _ | _ | _ | _ | _ | _ | _ | _ | _ | _ | _) | _ | _ | _) | _
 all_goals first
  | (exfalso; cases hd:isAggD d<;>cases z<;>simp [opQ,qIx1,qIxN,hd] at hq; done)
  | skip
 cases z with
 | c z=>exfalso; cases hd:isAggD d<;>simp [opQ,qIx1,qIxN,hd] at hq
 | a cs=>
  cases hd:isAggD d with
  | true=>
   simp only [hd,if_true,opQ,qIxN] at hq
   cases hq
   obtain ⟨h1,h2,h3⟩:=hp
   simp only [Instr.index,S1.den,SC.den,asIntOf,Sem.run_bind,Sem.run_pure,Result.andThen_ok,run_underlying ht,run_sizeOf' hi,if_pos (And.intro h1 h2)]
   rw [run_partN hu hd hi,extract_takeAt]
  | false=>
   simp only [hd,Bool.false_eq_true,if_false,opQ,qIx1] at hq
   split at hq
   ·rename_i x' hx'
    cases hq
    rw [nth_eq] at hx'
    simp only [Instr.index,S1.den,SC.den,asIntOf,Sem.run_bind,Sem.run_pure,Result.andThen_ok,run_underlying ht,run_sizeOf' hi,if_pos hp]
    exact run_part1 hu hd (by simp [hx',SC.den])
   ·cases hq
end
end Go.Sx
namespace Go.Sx
open Go.RowKit
section
variable {P:Program} {base:World} {M:Scp} {r:Rho} {E:Nat→Option Ent} {w:World}
theorem int_inv {z:S1}:(∃ k n,z = .c (.v (.int k n)))∨(∀ k n,z≠.c (.v (.int k n))):=by
 rcases z with ((_ | _ | _ | ⟨kk,n⟩ | _ | _ | _ | _ | _ | _ | _ | _ | _ | _ | _ | _ | _) | _ | _ | _) | _
 all_goals first | (exact .inl ⟨_,_,rfl⟩) | (refine .inr ?_; intro k n h; cases h)
theorem sound_ixA {o:Oper} {a:Act} {t:TypeId} {x ix:Operand} {len:Nat} {e:TypeId} {i:TypeInfo} {ys:List S1} {p:Prop} {y:S1}
  (ho:o.op = .indexAddr t x ix) (ht:P.underlying t=some (.array len e)) (hi:P.info? e=some i)
  (hv:[xo x,xo ix].map (XO.val a)=ys.map (S1.den r)) (hq:opQ E (.ixA len i.size) ys=some (p,y)) (hp:p):Yields P o a w (y.den r):=by
 obtain ⟨z,z',rfl,hz,hz'⟩:=map2 hv
 rw [xo_val] at hz hz'
 unfold Yields
 simp only [execOp,ho,hz,hz']
 refine run_val ?_
 rcases z with (_ | ⟨k,j⟩ | _ | _) | _
 all_goals rcases int_inv (z:=z') with ⟨kk,n,rfl⟩ | hn
 all_goals first | (exfalso; simp [opQ,qIxA] at hq; done) | (exfalso; simp only [opQ] at hq; unfold qIxA at hq; split at hq<;>first | (cases hq; done) | simp_all; done) | skip
 simp only [opQ,qIxA] at hq
 cases hq
 simp only [Instr.indexAt,S1.den,SC.den,asIntOf,Sem.run_bind,Sem.run_pure,Result.andThen_ok,run_underlying ht,run_sizeOf' hi,Instr.sureAddr,if_pos hp,Addr.add_plain,Nat.add_assoc]
theorem sound_ixS {o:Oper} {a:Act} {t:TypeId} {x ix:Operand} {e:TypeId} {i:TypeInfo} {ys:List S1} {p:Prop} {y:S1} (hE:HeapRel base M r E w)
  (ho:o.op = .indexAddr t x ix) (ht:P.underlying t=some (.slice e)) (hi:P.info? e=some i)
  (hv:[xo x,xo ix].map (XO.val a)=ys.map (S1.den r)) (hq:opQ E (.ixS i.size) ys=some (p,y)) (hp:p):Yields P o a w (y.den r):=by
 obtain ⟨z,z',rfl,hz,hz'⟩:=map2 hv
 rw [xo_val] at hz hz'
 unfold Yields
 simp only [execOp,ho,hz,hz']
 refine run_val ?_
 rcases z with (_ | _ | k | _) | _
 all_goals rcases int_inv (z:=z') with ⟨kk,n,rfl⟩ | hn
 all_goals first | (exfalso; simp [opQ,qIxS] at hq; done) | (exfalso; simp only [opQ] at hq; unfold qIxS at hq; split at hq<;>first | (cases hq; done) | simp_all; done) | skip
 simp only [opQ,qIxS] at hq
 split at hq
 ·rename_i m sz' f hb
  cases hq
  obtain ⟨hs,h0,h1⟩:=hp
  obtain ⟨ad,cap,hrv,_,hr1⟩:=row_val hE hb
  have hm:0 < m:=by omega
  obtain ⟨b,of,rfl,_⟩:=hr1 hm
  simp only [S1.den,SC.den,hrv,Instr.indexAt,asIntOf,Sem.run_bind,Sem.run_pure,Result.andThen_ok,run_underlying ht,addrOf,Nat.add_zero]
  rw [if_pos ⟨h0,h1⟩]
  simp only [Sem.run_bind,run_sizeOf' hi,Result.andThen_ok,Sem.run_pure,Addr.add_plain]
 ·cases hq
end
end Go.Sx
namespace Go.Sx
open Go.RowKit
section
variable {P:Program} {base:World} {M:Scp} {r:Rho} {E:Nat→Option Ent} {w:World}
theorem eqGuard_int (op:BinOp) (t:TypeId) (x y:Operand) (k:IntKind) (n:Int) (b:Value):(eqGuard op t x y (.int k n) b).run P w = .ok () w:=by
 cases op<;>rfl
theorem eqGuard_bool (op:BinOp) (t:TypeId) (x y:Operand) (n:Bool) (b:Value):(eqGuard op t x y (.bool n) b).run P w = .ok () w:=by
 cases op<;>rfl
theorem binI_run {op:BinOp} {k k':IntKind} {x y:Int} {t:TypeId} {p:Prop} {v:Value} (hk:isShift op=true∨k=k') (h:binI op k x y=some (p,v)) (hp:p) :
  (binOp op t (.int k x) (.int k' y)).run P w = .ok v w:=by
 cases op<;>simp only [isShift,Bool.false_eq_true,false_or,true_or] at hk<;>simp only [binI,Option.some.injEq,Prod.mk.injEq] at h
 all_goals obtain ⟨rfl,rfl⟩:=h
 all_goals try subst hk
 all_goals simp only [binOp,ne_eq,not_true_eq_false,if_false,Op.intArith,Op.intDiv,Op.intCmp,Op.intBits,Op.shift,bitI,Sem.run_pure,gt_iff_lt,ge_iff_le]
 case quo=>rw [if_neg hp]; rfl
 case rem=>rw [if_neg hp]; rfl
 case shl=>rw [if_neg (by omega)]; rfl
 case shr=>rw [if_neg (by omega)]; rfl
theorem sound_bin {o:Oper} {a:Act} {op:BinOp} {t ty:TypeId} {x y:Operand} {ys:List S1} {p:Prop} {z:S1}
  (ho:o.op = .binOp op t x y ty)
  (hv:[xo x,xo y].map (XO.val a)=ys.map (S1.den r)) (hq:opQ E (.bin op) ys=some (p,z)) (hp:p):Yields P o a w (z.den r):=by
 obtain ⟨z1,z2,rfl,hz,hz'⟩:=map2 hv
 rw [xo_val] at hz hz'
 unfold Yields
 simp only [execOp,ho,hz,hz']
 refine run_val ?_
 rcases int_inv (z:=z1) with ⟨k,n,rfl⟩ | h1
 ·rcases int_inv (z:=z2) with ⟨k',n',rfl⟩ | h2
  ·simp only [opQ,qBin] at hq
   split at hq
   ·rename_i hk
    split at hq
    ·rename_i p' v hb
     cases hq
     simp only [Sem.run_bind,S1.den,SC.den]
     rw [eqGuard_int]
     exact binI_run hk hb hp
    ·cases hq
   ·cases hq
  ·exfalso
   simp only [opQ] at hq
   unfold qBin at hq
   split at hq
   ·rename_i heq; cases heq; exact h2 _ _ rfl
   ·cases hq
 ·exfalso
  simp only [opQ] at hq
  unfold qBin at hq
  split at hq
  ·rename_i heq; cases heq; exact h1 _ _ rfl
  ·cases hq
theorem sound_binb {o:Oper} {a:Act} {op:BinOp} {t ty:TypeId} {x y:Operand} {ys:List S1} {p:Prop} {z:S1}
  (ho:o.op = .binOp op t x y ty) (hu:P.underlying t=some .bool)
  (hv:[xo x,xo y].map (XO.val a)=ys.map (S1.den r)) (hq:opQ E (.binb op) ys=some (p,z)) (hp:p):Yields P o a w (z.den r):=by
 obtain ⟨z1,z2,rfl,hz,hz'⟩:=map2 hv
 rw [xo_val] at hz hz'
 unfold Yields
 simp only [execOp,ho,hz,hz']
 refine run_val ?_
 simp only [opQ] at hq
 unfold qBinb at hq
 split at hq
 ·rename_i heq
  cases heq
  split at hq<;>first | (cases hq; done) | skip
  all_goals
   cases hq
   simp only [Sem.run_bind,S1.den,SC.den]
   rw [eqGuard_bool]
   simp [binOp,Op.equal,Op.maxDepth,run_equalIn_bool' w 9999 t _ _ hu]
 ·cases hq
theorem sound_un {o:Oper} {a:Act} {op:UnOp} {t:TypeId} {x:Operand} {ys:List S1} {p:Prop} {z:S1}
  (ho:o.op = .unOp op t x) (hv:[xo x].map (XO.val a)=ys.map (S1.den r)) (hq:opQ E (.un op) ys=some (p,z)) (hp:p):Yields P o a w (z.den r):=by
 obtain ⟨z1,rfl,hz⟩:=map1 hv
 rw [xo_val] at hz
 unfold Yields
 simp only [execOp,ho,hz]
 refine run_val ?_
 simp only [opQ] at hq
 unfold qUn at hq
 split at hq
 ·rename_i heq
  cases heq
  split at hq<;>cases hq<;>rfl
 ·rename_i heq
  cases heq
  split at hq<;>cases hq
  rfl
 ·cases hq
theorem sound_conv {o:Oper} {a:Act} {s t:TypeId} {k k':IntKind} {x:Operand} {ys:List S1} {p:Prop} {z:S1}
  (ho:o.op = .convert s t x) (hs:P.underlying s=some (.int k')) (ht:P.underlying t=some (.int k))
  (hv:[xo x].map (XO.val a)=ys.map (S1.den r)) (hq:opQ E (.conv k) ys=some (p,z)) (hp:p):Yields P o a w (z.den r):=by
 obtain ⟨z1,rfl,hz⟩:=map1 hv
 rw [xo_val] at hz
 unfold Yields
 simp only [execOp,ho,hz]
 refine run_val ?_
 rcases int_inv (z:=z1) with ⟨k1,n,rfl⟩ | h1
 ·simp only [opQ,qConv] at hq
  cases hq
  simp only [convert,Sem.run_bind,run_underlying hs,run_underlying ht,Result.andThen_ok,S1.den,SC.den]
  rfl
 ·exfalso
  simp only [opQ] at hq
  unfold qConv at hq
  split at hq
  ·rename_i heq; cases heq; exact h1 _ _ rfl
  ·cases hq
theorem sound_nilc {o:Oper} {a:Act} {x:Operand} {ys:List S1} {p:Prop} {z:S1}
  (ho:o.op = .nilCheck x) (hv:[xo x].map (XO.val a)=ys.map (S1.den r)) (hq:opQ E .nilc ys=some (p,z)) (hp:p):Yields P o a w (z.den r):=by
 obtain ⟨z1,rfl,hz⟩:=map1 hv
 rw [xo_val] at hz
 unfold Yields
 simp only [execOp,ho,hz]
 simp only [opQ] at hq
 unfold qNil at hq
 split at hq<;>first | cases hq | skip
 all_goals (rename_i heq; try cases heq)
 all_goals rfl
end
end Go.Sx
namespace Go.Sx
open Go.RowKit
section
variable {P:Program} {base:World} {M:Scp} {r:Rho} {E:Nat→Option Ent} {w:World}
theorem bind_pure_val {s:Sem Value} {v:Value} (h:s.run P w = .ok v w) (c:Call) (ρ:Operand→Value) (ty:TypeId) (b:Builtin) (hc:c.callee = .builtin b)
  (hb:∀ cs,builtin b c.argTypes ty cs (c.args.map ρ)=(do pure (.value (← s)))) :
  (do let d ← resolve ρ c ty; invoke d.target d.args:Sem Next).run P w = .ok (.value v) w:=by
 simp only [resolve,hc,Sem.run_bind,Sem.run_pure,Result.andThen_ok,invoke,hb]
 simp [h]
theorem sound_min {o:Oper} {a:Act} {c:Call} {ys:List S1} {p:Prop} {z:S1} (ho:o.op = .call c) (hc:c.callee = .builtin .min)
  (hv:(c.args.toList.map xo).map (XO.val a)=ys.map (S1.den r)) (hq:opQ E .minI ys=some (p,z)) (hp:p):Yields P o a w (z.den r):=by
 simp only [opQ] at hq
 unfold qMin at hq
 split at hq
 ·rename_i k x k' y
  cases hq
  unfold Yields
  simp only [execOp,ho]
  have harg:(c.args.map a.eval).toList=[.int k x,.int k' y]:=by
   rw [Array.toList_map]
   rw [List.map_map] at hv
   have:(XO.val a ∘ xo)=a.eval:=funext fun x=>xo_val a x
   rw [this] at hv
   rw [hv]; rfl
  refine bind_pure_val (s:=Builtin.min_ c.argTypes o.type (c.args.map a.eval)) ?_ c a.eval o.type .min hc fun cs=>rfl
  unfold Builtin.min_
  rw [harg]
  simp only [List.foldlM_cons,List.foldlM_nil,Builtin.min2,S1.den,SC.den,bind_pure,Sem.run_pure,Result.ok.injEq,Value.int.injEq,true_and,and_true]
  omega
 ·rename_i k x k' y k'' z
  cases hq
  unfold Yields
  simp only [execOp,ho]
  have harg:(c.args.map a.eval).toList=[.int k x,.int k' y,.int k'' z]:=by
   rw [Array.toList_map]
   rw [List.map_map] at hv
   have:(XO.val a ∘ xo)=a.eval:=funext fun x=>xo_val a x
   rw [this] at hv
   rw [hv]; rfl
  refine bind_pure_val (s:=Builtin.min_ c.argTypes o.type (c.args.map a.eval)) ?_ c a.eval o.type .min hc fun cs=>rfl
  unfold Builtin.min_
  rw [harg]
  simp only [List.foldlM_cons,List.foldlM_nil,Builtin.min2,S1.den,SC.den,pure_bind,bind_pure,Sem.run_pure,Result.ok.injEq,Value.int.injEq,true_and,and_true]
  omega
 ·rename_i k x k' y k'' z k3 u
  cases hq
  unfold Yields
  simp only [execOp,ho]
  have harg:(c.args.map a.eval).toList=[.int k x,.int k' y,.int k'' z,.int k3 u]:=by
   rw [Array.toList_map]
   rw [List.map_map] at hv
   have:(XO.val a ∘ xo)=a.eval:=funext fun x=>xo_val a x
   rw [this] at hv
   rw [hv]; rfl
  refine bind_pure_val (s:=Builtin.min_ c.argTypes o.type (c.args.map a.eval)) ?_ c a.eval o.type .min hc fun cs=>rfl
  unfold Builtin.min_
  rw [harg]
  simp only [List.foldlM_cons,List.foldlM_nil,Builtin.min2,S1.den,SC.den,pure_bind,bind_pure,Sem.run_pure,Result.ok.injEq,Value.int.injEq,true_and,and_true]
  omega
 ·cases hq
theorem sound_max {o:Oper} {a:Act} {c:Call} {ys:List S1} {p:Prop} {z:S1} (ho:o.op = .call c) (hc:c.callee = .builtin .max)
  (hv:(c.args.toList.map xo).map (XO.val a)=ys.map (S1.den r)) (hq:opQ E .maxI ys=some (p,z)) (hp:p):Yields P o a w (z.den r):=by
 simp only [opQ] at hq
 unfold qMax at hq
 split at hq
 ·rename_i k x k' y
  cases hq
  unfold Yields
  simp only [execOp,ho]
  have harg:(c.args.map a.eval).toList=[.int k x,.int k' y]:=by
   rw [Array.toList_map]
   rw [List.map_map] at hv
   have:(XO.val a ∘ xo)=a.eval:=funext fun x=>xo_val a x
   rw [this] at hv
   rw [hv]; rfl
  refine bind_pure_val (s:=Builtin.max_ c.argTypes o.type (c.args.map a.eval)) ?_ c a.eval o.type .max hc fun cs=>rfl
  unfold Builtin.max_
  rw [harg]
  simp only [List.foldlM_cons,List.foldlM_nil,Builtin.max2,S1.den,SC.den,bind_pure,Sem.run_pure,Result.ok.injEq,Value.int.injEq,true_and,and_true]
  omega
 ·rename_i k x k' y k'' z
  cases hq
  unfold Yields
  simp only [execOp,ho]
  have harg:(c.args.map a.eval).toList=[.int k x,.int k' y,.int k'' z]:=by
   rw [Array.toList_map]
   rw [List.map_map] at hv
   have:(XO.val a ∘ xo)=a.eval:=funext fun x=>xo_val a x
   rw [this] at hv
   rw [hv]; rfl
  refine bind_pure_val (s:=Builtin.max_ c.argTypes o.type (c.args.map a.eval)) ?_ c a.eval o.type .max hc fun cs=>rfl
  unfold Builtin.max_
  rw [harg]
  simp only [List.foldlM_cons,List.foldlM_nil,Builtin.max2,S1.den,SC.den,pure_bind,bind_pure,Sem.run_pure,Result.ok.injEq,Value.int.injEq,true_and,and_true]
  omega
 ·rename_i k x k' y k'' z k3 u
  cases hq
  unfold Yields
  simp only [execOp,ho]
  have harg:(c.args.map a.eval).toList=[.int k x,.int k' y,.int k'' z,.int k3 u]:=by
   rw [Array.toList_map]
   rw [List.map_map] at hv
   have:(XO.val a ∘ xo)=a.eval:=funext fun x=>xo_val a x
   rw [this] at hv
   rw [hv]; rfl
  refine bind_pure_val (s:=Builtin.max_ c.argTypes o.type (c.args.map a.eval)) ?_ c a.eval o.type .max hc fun cs=>rfl
  unfold Builtin.max_
  rw [harg]
  simp only [List.foldlM_cons,List.foldlM_nil,Builtin.max2,S1.den,SC.den,pure_bind,bind_pure,Sem.run_pure,Result.ok.injEq,Value.int.injEq,true_and,and_true]
  omega
 ·cases hq
theorem sound_len {o:Oper} {a:Act} {c:Call} {t e:TypeId} {x:Operand} {ys:List S1} {p:Prop} {z:S1} (hE:HeapRel base M r E w) (ho:o.op = .call c) (hc:c.callee = .builtin .len)
  (ht:c.argTypes.toList=[t]) (hx:c.args.toList=[x]) (hu:P.underlying t=some (.slice e))
  (hv:[xo x].map (XO.val a)=ys.map (S1.den r)) (hq:opQ E .lenS ys=some (p,z)) (hp:p):Yields P o a w (z.den r):=by
 obtain ⟨z1,rfl,hz⟩:=map1 hv
 rw [xo_val] at hz
 simp only [opQ,qLenS] at hq
 split at hq
 ·rename_i n sz f hb
  cases hq
  obtain ⟨ad,cap,hrv,_⟩:=rowV_val hE hb
  unfold Yields
  simp only [execOp,ho]
  refine bind_pure_val (s:=Builtin.len_ c.argTypes o.type (c.args.map a.eval)) ?_ c a.eval o.type .len hc fun cs=>rfl
  have h1:c.argTypes[0]?=some t:=by rw [← Array.getElem?_toList,ht]; rfl
  have h2:(c.args.map a.eval)[0]?=some (a.eval x):=by rw [← Array.getElem?_toList,Array.toList_map,hx]; rfl
  simp only [Builtin.len_,h1,h2,hz,hrv,Sem.run_bind,run_underlying hu,Result.andThen_ok]
  rfl
 ·cases hq
theorem eqCells_cons {k:LK} {ks:List LK} {xs ys:List SC} {b:Bool} (h:eqCells (k :: ks) xs ys=some b) :
  ∃ x xs' y ys' b1 b2,xs=x :: xs'∧ys=y :: ys'∧eqC k x y=some b1∧eqCells ks xs' ys'=some b2∧b=(b1 && b2):=by
 match xs,ys,h with
 | x :: xs',y :: ys',h=>
  simp only [eqCells] at h
  split at h
  ·rename_i b1 h1
   split at h
   ·rename_i b2 h2
    cases h
    exact ⟨x,xs',y,ys',b1,b2,rfl,rfl,h1,h2,rfl⟩
   ·cases h
  ·cases h
 | [],_,h=>simp [eqCells] at h
 | _ :: _,[],h=>simp [eqCells] at h
theorem eqCells_nil {xs ys:List SC} {b:Bool} (h:eqCells [] xs ys=some b):xs=[]∧ys=[]∧b=true:=by
 cases xs<;>cases ys<;>simp [eqCells] at h
 exact ⟨rfl,rfl,h⟩
theorem eqCells_length:∀ (ks:List LK) (xs ys:List SC) (b:Bool),eqCells ks xs ys=some b→xs.length=ks.length∧ys.length=ks.length
 | [],xs,ys,b,h=>by
  obtain ⟨rfl,rfl,_⟩:=eqCells_nil h
  exact ⟨rfl,rfl⟩
 | k :: ks,xs,ys,b,h=>by
  obtain ⟨x,xs',y,ys',b1,b2,rfl,rfl,h1,h2,rfl⟩:=eqCells_cons h
  have:=eqCells_length ks xs' ys' b2 h2
  simp [this]
theorem eqCells_append:∀ (l ls:List LK) (xs ys:List SC) (b:Bool),eqCells (l++ls) xs ys=some b →
  ∃ b1 b2,eqCells l (xs.take l.length) (ys.take l.length)=some b1∧eqCells ls (xs.drop l.length) (ys.drop l.length)=some b2∧b=(b1 && b2)
 | [],ls,xs,ys,b,h=>⟨true,b,by simp [eqCells],by simpa using h,by simp⟩
 | k :: l,ls,xs,ys,b,h=>by
  obtain ⟨x,xs',y,ys',b1,b2,rfl,rfl,h1,h2,rfl⟩:=eqCells_cons (ks:=l++ls) h
  obtain ⟨b3,b4,h3,h4,rfl⟩:=eqCells_append l ls xs' ys' b2 h2
  exact ⟨b1 && b3,b4,by simp [eqCells,h1,h3],by simpa using h4,by simp [Bool.and_assoc]⟩
def ofCells (P:Program) (t:TypeId) (cs:List Value):Value :=
 match P.underlying t with
 | some (.struct _)=>.agg cs.toArray
 | _=>cs.headD undef
theorem run_part_of {t:TypeId} {d:Nat} {ks:List LK} {i:TypeInfo} {off:Nat} {xs:List Value} (h:leaves P d t=some ks) (hi:P.info? t=some i) (hs:i.size=ks.length)
  (hl:off+ks.length≤xs.length):(part t xs.toArray off).run P w = .ok (ofCells P t ((xs.drop off).take ks.length)) w:=by
 cases d with
 | zero=>simp [leaves] at h
 | succ d=>
  unfold leaves at h
  split at h
  ·rename_i k hu
   cases h
   rw [run_part1 hu rfl (by simp; exact List.getElem?_eq_getElem (by simp at hl; omega))]
   simp only [ofCells,hu]
   congr 1
   simp at hl
   rw [List.drop_eq_getElem_cons (by omega)]
   rfl
  ·rename_i hu
   cases h
   rw [run_part1 hu rfl (by simp; exact List.getElem?_eq_getElem (by simp at hl; omega))]
   simp only [ofCells,hu]
   congr 1
   simp at hl
   rw [List.drop_eq_getElem_cons (by omega)]
   rfl
  ·rename_i fs hu
   rw [run_partN hu rfl hi]
   simp only [ofCells,hu,hs]
   simp [List.extract_toArray,List.extract_eq_take_drop]
  ·cases h
theorem eq_fields (D:Nat) (rc:TypeId→Option (List LK)) (hrc:∀ t ks xs ys b,rc t=some ks→eqCells ks xs ys=some b →
   (Op.equalIn D t (ofCells P t (xs.map (SC.den r))) (ofCells P t (ys.map (SC.den r)))).run P w = .ok b w)
  (hrl:∀ t ks,rc t=some ks→∃ d,leaves P d t=some ks):∀ (fs:List Field) (off:Nat) (ks:List LK) (xs ys:List SC) (b:Bool),leavesFs P rc fs off=some ks →
   eqCells ks (xs.drop off) (ys.drop off)=some b →
   (Op.eqFields D (xs.map (SC.den r)).toArray (ys.map (SC.den r)).toArray fs).run P w = .ok b w
 | [],off,ks,xs,ys,b,h,hb=>by
  simp only [leavesFs,Option.some.injEq] at h
  subst h
  obtain ⟨_,_,rfl⟩:=eqCells_nil hb
  rfl
 | f :: fs,off,ks,xs,ys,b,h,hb=>by
  simp only [leavesFs] at h
  split at h
  ·cases h
  ·rename_i hn
   split at h
   ·rename_i l i hl hi
    split at h
    ·rename_i hs0
     obtain ⟨hs,hpos⟩:=hs0
     split at h
     ·rename_i ls hls
      cases h
      simp only [not_or,ne_eq,Decidable.not_not] at hn
      obtain ⟨hn1,rfl⟩:=hn
      obtain ⟨b1,b2,h1,h2,rfl⟩:=eqCells_append l ls _ _ b hb
      rw [List.drop_drop,List.drop_drop] at h2
      have ih:=eq_fields D rc hrc hrl fs (f.offset+l.length) ls xs ys b2 hls h2
      have hlen:=eqCells_length _ _ _ _ hb
      simp at hlen
      obtain ⟨d,hd⟩:=hrl _ _ hl
      have px:=run_part_of (w:=w) (off:=f.offset) (xs:=xs.map (SC.den r)) hd hi hs (by simp; omega)
      have py:=run_part_of (w:=w) (off:=f.offset) (xs:=ys.map (SC.den r)) hd hi hs (by simp; omega)
      have he:=hrc _ _ _ _ _ hl h1
      simp only [List.map_drop,List.map_take] at he
      simp only [Op.eqFields,hn1,ne_eq,not_false_eq_true,if_true,Sem.run_bind,px,py,Result.andThen_ok,he]
      cases b1 with
      | false=>simp
      | true=>simp [ih]
     ·cases h
    ·cases h
   ·cases h
theorem leaves_eq:∀ (d D:Nat) (t:TypeId) (ks:List LK) (xs ys:List SC) (b:Bool),leaves P d t=some ks→d≤D→eqCells ks xs ys=some b →
  (Op.equalIn D t (ofCells P t (xs.map (SC.den r))) (ofCells P t (ys.map (SC.den r)))).run P w = .ok b w
 | 0,_,_,_,_,_,_,h,_,_=>by simp [leaves] at h
 | d+1,D,t,ks,xs,ys,b,h,hD,hb=>by
  obtain ⟨D,rfl⟩:∃ D',D=D'+1:=⟨D - 1,by omega⟩
  unfold leaves at h
  split at h
  ·rename_i k hu
   cases h
   obtain ⟨x,xs',y,ys',b1,b2,rfl,rfl,h1,h2,rfl⟩:=eqCells_cons hb
   obtain ⟨rfl,rfl,rfl⟩:=eqCells_nil h2
   unfold eqC at h1
   split at h1
   ·rename_i heq; cases heq
    split at h1
    ·rename_i hk
     obtain ⟨rfl,rfl⟩:=hk
     cases h1
     simp only [ofCells,hu,List.map_cons,List.map_nil,List.headD_cons,SC.den]
     rw [run_equalIn_int w D t _ _ _ _ hu]
     simp
    ·cases h1
   ·rename_i heq; cases heq
   ·cases h1
  ·rename_i hu
   cases h
   obtain ⟨x,xs',y,ys',b1,b2,rfl,rfl,h1,h2,rfl⟩:=eqCells_cons hb
   obtain ⟨rfl,rfl,rfl⟩:=eqCells_nil h2
   unfold eqC at h1
   split at h1
   ·rename_i heq; cases heq
   ·cases h1
    simp only [ofCells,hu,List.map_cons,List.map_nil,List.headD_cons,SC.den]
    rw [run_equalIn_bool' w D t _ _ hu]
    simp
   ·cases h1
  ·rename_i fs hu
   split at h
   ·cases h
   ·rename_i hst
    have hfo:P.fieldsOf t=fs:=by simp [Program.fieldsOf,hu]
    simp only [ofCells,hu]
    rw [run_equalIn_struct w D t _ _ (by rw [hfo]; exact hu) (by simpa using hst),hfo]
    refine eq_fields D (leaves P d) (fun t' ks' xs' ys' b' h1 h2=>leaves_eq d D t' ks' xs' ys' b' h1 (by omega) h2) (fun t' ks' h1=>⟨d,h1⟩) fs.toList 0 ks xs ys b h (by simpa using hb)
  ·cases h
theorem sound_eqA {o:Oper} {a:Act} {neg:Bool} {op:BinOp} {ks:List LK} {t ty:TypeId} {fs:Array Field} {x y:Operand} {ys:List S1} {p:Prop} {z:S1}
  (ho:o.op = .binOp op t x y ty) (hop:(op = .eql∧neg=false)∨(op = .neq∧neg=true)) (hu:P.underlying t=some (.struct fs)) (hl:leaves P 20 t=some ks) (hg:P.eqGuardType P.depth t=false)
  (hv:[xo x,xo y].map (XO.val a)=ys.map (S1.den r)) (hq:opQ E (.eqA neg ks) ys=some (p,z)) (hp:p):Yields P o a w (z.den r):=by
 obtain ⟨z1,z2,rfl,hz,hz'⟩:=map2 hv
 rw [xo_val] at hz hz'
 unfold Yields
 simp only [execOp,ho,hz,hz']
 refine run_val ?_
 simp only [opQ] at hq
 unfold qEqA at hq
 split at hq
 ·rename_i xs ys' heq
  cases heq
  split at hq
  ·rename_i b hb
   cases hq
   have h1:=leaves_eq (r:=r) (w:=w) 20 10000 t ks xs ys' b hl (by omega) hb
   simp only [ofCells,hu] at h1
   simp only [S1.den,SC.den,Sem.run_bind]
   rw [run_eqGuard_agg w op t x y _ _ hg]
   rcases hop with ⟨rfl,rfl⟩ | ⟨rfl,rfl⟩
   ·simp only [Result.andThen_ok]
    rw [run_eql_struct,h1]; rfl
   ·simp only [Result.andThen_ok]
    rw [run_neq_struct,h1]; rfl
  ·cases hq
 ·cases hq
end
end Go.Sx
namespace Go.Sx
open Go.RowKit
theorem xop0_x (P:Program) (op:Op) (k:QX) (xs:List XO):xop0 P op≠some (.x k,xs):=by
 intro h
 cases op<;>simp only [xop0] at h
 all_goals (first | (cases h; done) | skip)
 all_goals (repeat' split at h)
 all_goals (cases h)
section
variable {P:Program} {base:World} {M:Scp} {r:Rho} {E:Nat→Option Ent} {w:World}
theorem strI_run {op:BinOp} {x y:ByteArray} {t:TypeId} {p:Prop} {v:Value} (h:strI op x y=some (p,v)) (hp:p):(binOp op t (.string x) (.string y)).run P w = .ok v w:=by
 have hd:∀ a b:ByteArray,(a.data.toList == b.data.toList)=decide (a=b):=by
  intro a b
  by_cases hab:a=b
  ·subst hab; simp
  ·have h1:a.data.toList≠b.data.toList:=fun h=>hab (by
    cases a; cases b; simp only at h; congr 1; exact Array.ext' h)
   rw [decide_eq_false hab]; simpa using h1
 cases op<;>simp only [strI,Option.some.injEq,Prod.mk.injEq,reduceCtorEq] at h
 all_goals obtain ⟨rfl,rfl⟩:=h
 ·have hm:IntKind.i64.max=9223372036854775807:=rfl
  simp only [binOp,Op.stringOp,hm]
  rw [if_neg (by omega)]; rfl
 ·simp only [binOp,Op.stringOp,Go.ByteArray.toList_eq,hd]; rfl
 ·simp only [binOp,Op.stringOp,Go.ByteArray.toList_eq,hd]; rfl
theorem eqGuard_str (op:BinOp) (t:TypeId) (x y:Operand) (s:ByteArray) (b:Value):(eqGuard op t x y (.string s) b).run P w = .ok () w:=by
 cases op<;>rfl
theorem eqGuard_ptr (op:BinOp) (t:TypeId) (x y:Operand) (s:Option Addr) (b:Value):(eqGuard op t x y (.pointer s) b).run P w = .ok () w:=by
 cases op<;>rfl
theorem ptr_k1 (d:Nat) {t e:TypeId} (hu:P.underlying t=some (.pointer e)) (s':Option Addr):(Op.equalIn (d+1) t (.pointer none) (.pointer s')).run P w = .ok s'.isNone w:=by cases s'<;>simp [Op.equalIn,run_underlying hu]
theorem ptr_k2 (d:Nat) {t e:TypeId} (hu:P.underlying t=some (.pointer e)) (s:Addr):(Op.equalIn (d+1) t (.pointer (some s)) (.pointer none)).run P w = .ok false w:=by simp [Op.equalIn,run_underlying hu]
theorem ptr_k3 (d:Nat) {t e:TypeId} {i:TypeInfo} (hu:P.underlying t=some (.pointer e)) (hi:P.info? e=some i) (h0:i.size≠0) (s s':Addr) (hb:s.block=s'.block) :
  (Op.equalIn (d+1) t (.pointer (some s)) (.pointer (some s'))).run P w = .ok (s == s') w:=by
 simp [Op.equalIn,run_underlying hu,run_sizeOf' hi,h0,sameAddr,hb]
theorem ptrEq_run {t e:TypeId} {i:TypeInfo} {x y:SC} {b:Bool} (hu:P.underlying t=some (.pointer e)) (hi:P.info? e=some i) (h0:i.size≠0) (h:ptrEq x y=some b) :
  ∃ s s',x.den r = .pointer s∧y.den r = .pointer s'∧(Op.equal t (.pointer s) (.pointer s')).run P w = .ok b w:=by
 unfold ptrEq at h
 have k1:∀ s',(Op.equal t (.pointer none) (.pointer s')).run P w = .ok s'.isNone w:=fun s'=>ptr_k1 9999 hu s'
 have k2:∀ s,(Op.equal t (.pointer (some s)) (.pointer none)).run P w = .ok false w:=fun s'=>ptr_k2 9999 hu s'
 have k3:∀ s s':Addr,s.block=s'.block→(Op.equal t (.pointer (some s)) (.pointer (some s'))).run P w = .ok (s == s') w:=fun s s' hb=>ptr_k3 9999 hu hi h0 s s' hb
 split at h
 ·cases h; exact ⟨_,_,rfl,rfl,k1 _⟩
 ·cases h; exact ⟨_,_,rfl,rfl,k1 _⟩
 ·cases h; exact ⟨_,_,rfl,rfl,k2 _⟩
 ·cases h; exact ⟨_,_,rfl,rfl,k1 _⟩
 ·cases h; exact ⟨_,_,rfl,rfl,k2 _⟩
 ·split at h
  ·rename_i i j i' j' hii
   cases h; subst hii
   refine ⟨_,_,rfl,rfl,(k3 ⟨(addrOf (r i)).block,(addrOf (r i)).off+j,none⟩ ⟨(addrOf (r i)).block,(addrOf (r i)).off+j',none⟩ rfl).trans ?_⟩
   congr 1
   have:∀ (b o o':Nat),((⟨b,o,none⟩:Addr) == ⟨b,o',none⟩)=(o == o'):=by
    intro b o o'
    by_cases ho:o=o'
    ·subst ho; simp
    ·have h1:(⟨b,o,none⟩:Addr)≠⟨b,o',none⟩:=fun hh=>ho (by cases hh; rfl)
     rw [beq_eq_false_iff_ne.2 h1,beq_eq_false_iff_ne.2 ho]
   rw [this]
   by_cases hj:j=j'
   ·subst hj; simp
   ·have:(addrOf (r i)).off+j≠(addrOf (r i)).off+j':=by omega
    rw [beq_eq_false_iff_ne.2 this,beq_eq_false_iff_ne.2 hj]
  ·cases h
 ·cases h
theorem cpOf_den {r:Rho}:∀ {ys:List S1} {cs:List CP},cpOf ys=some cs→ys.map (S1.den r)=denP r cs
 | [],cs,h=>by cases h; rfl
 | .c (.p i j) :: l,cs,h=>by
  simp only [cpOf] at h
  split at h
  ·rename_i cs' h'; cases h
   simp only [List.map_cons,denP,cpOf_den h',S1.den,SC.den,CP.den]
  ·cases h
 | .c (.v x) :: l,cs,h=>by
  simp only [cpOf] at h
  split at h
  ·rename_i cs' h'; cases h
   simp only [List.map_cons,denP,cpOf_den h',S1.den,SC.den,CP.den]
  ·cases h
 | .c (.n _) :: _,_,h=>by cases h
 | .c (.q _ _ _ _) :: _,_,h=>by cases h
 | .c (.f _ _) :: _,_,h=>by cases h
 | .a _ :: _,_,h=>by cases h
theorem cpS_den {r:Rho}:∀ (cs:List CP),(cpS cs).map (S1.den r)=denP r cs
 | []=>rfl
 | .v x :: l=>by simp only [cpS,List.map_cons,cpS_den l,denP,S1.den,SC.den,CP.den]
 | .p i j :: l=>by simp only [cpS,List.map_cons,cpS_den l,denP,S1.den,SC.den,CP.den]
theorem cpOf_sc {m:Nat→Prop}:∀ {ys:List S1} {cs:List CP},cpOf ys=some cs→(∀ y∈ys,S1.sc m y)→scP m cs
 | [],cs,h,_=>by cases h; trivial
 | .c (.p i j) :: l,cs,h,hy=>by
  simp only [cpOf] at h
  split at h
  ·rename_i cs' h'; cases h
   exact ⟨hy (.c (.p i j)) List.mem_cons_self,cpOf_sc h' fun y hm=>hy y (List.mem_cons_of_mem _ hm)⟩
  ·cases h
 | .c (.v x) :: l,cs,h,hy=>by
  simp only [cpOf] at h
  split at h
  ·rename_i cs' h'; cases h
   exact ⟨trivial,cpOf_sc h' fun y hm=>hy y (List.mem_cons_of_mem _ hm)⟩
  ·cases h
 | .c (.n _) :: _,_,h,_=>by cases h
 | .c (.q _ _ _ _) :: _,_,h,_=>by cases h
 | .c (.f _ _) :: _,_,h,_=>by cases h
 | .a _ :: _,_,h,_=>by cases h
theorem cpS_sc {m:Nat→Prop}:∀ {cs:List CP},scP m cs→∀ y∈cpS cs,S1.sc m y
 | [],_,y,hy=>by cases hy
 | .v x :: l,h,y,hy=>by
  cases hy with
  | head=>exact trivial
  | tail _ hm=>exact cpS_sc h.2 y hm
 | .p i j :: l,h,y,hy=>by
  cases hy with
  | head=>exact h.1
  | tail _ hm=>exact cpS_sc h.2 y hm
theorem soundX {o:Oper} {a:Act} {k:QX} {xs:List XO} {ys:List S1} {p:Prop} {z:S1} (hE:HeapRel base M r E w) (hx:xopX P o.op=some (k,xs))
  (hv:xs.map (XO.val a)=ys.map (S1.den r)) (hq:opQ E (.x k) ys=some (p,z)) (hp:p):Yields P o a w (z.den r):=by
 simp only [opQ] at hq
 unfold Yields
 generalize ho:o.op=oo at hx
 cases oo<;>simp only [xopX] at hx
 all_goals try (cases hx; done)
 case index t x i=>
  split at hx
  ·rename_i hu
   cases hx
   obtain ⟨z1,z2,rfl,hz,hz'⟩:=map2 hv
   rw [xo_val] at hz hz'
   simp only [execOp,ho,hz,hz']
   refine run_val ?_
   simp only [qX,qSidx] at hq
   split at hq
   ·rename_i s kk n heq
    cases heq; cases hq
    simp only [S1.den,SC.den,Instr.index,asIntOf,Sem.run_bind,Sem.run_pure,Result.andThen_ok,run_underlying hu]
    have hn:n.toNat < s.size:=by omega
    have hn':n.toNat < s.data.size:=hn
    rw [if_pos hp.1]
    have:s[n.toNat]?=some (s.data.toList.getD n.toNat 0):=by
     rw [getElem?_pos s n.toNat hn]
     congr 1
     simp only [List.getD_eq_getElem?_getD]
     rw [List.getElem?_eq_getElem (by simpa using hn')]
     simp [ByteArray.getElem_eq_getElem_data]
    rw [this]
    rfl
   ·cases hq
  ·cases hx
 case binOp op t x y ty=>
  split at hx
  ·cases hx
   obtain ⟨z1,z2,rfl,hz,hz'⟩:=map2 hv
   rw [xo_val] at hz hz'
   simp only [execOp,ho,hz,hz']
   refine run_val ?_
   simp only [qX,qSbin] at hq
   split at hq
   ·rename_i s s' heq
    cases heq
    split at hq
    ·rename_i p' v hs
     cases hq
     simp only [S1.den,SC.den,Sem.run_bind,eqGuard_str,Result.andThen_ok]
     exact strI_run hs hp
    ·cases hq
   ·cases hq
  ·rename_i e hu
   split at hx
   ·rename_i i hi
    split at hx
    ·cases hx
    ·rename_i h0
     have key:∀ neg,(op = .eql∧neg=false∨op = .neq∧neg=true)→k = .eqP neg→xs=[xo x,xo y]→(execOp a.eval o).run P w = .ok (.value (z.den r)) w:=by
      rintro neg hop rfl rfl
      obtain ⟨z1,z2,rfl,hz,hz'⟩:=map2 hv
      rw [xo_val] at hz hz'
      simp only [execOp,ho,hz,hz']
      refine run_val ?_
      simp only [qX,qEqP] at hq
      split at hq
      ·rename_i c1 c2 heq
       cases heq
       split at hq
       ·rename_i b hb
        cases hq
        obtain ⟨s,s',e1,e2,e3⟩:=ptrEq_run (w:=w) (r:=r) hu hi h0 hb
        simp only [S1.den,e1,e2,Sem.run_bind,eqGuard_ptr,Result.andThen_ok]
        rcases hop with ⟨rfl,rfl⟩ | ⟨rfl,rfl⟩
        ·simp [binOp,e3,SC.den]
        ·simp [binOp,e3,SC.den]
       ·cases hq
      ·cases hq
     split at hx
     ·cases hx; exact key _ (.inl ⟨rfl,rfl⟩) rfl rfl
     ·cases hx; exact key _ (.inr ⟨rfl,rfl⟩) rfl rfl
     ·cases hx
   ·cases hx
  ·cases hx
 case convert s t x=>
  split at hx
  ·rename_i e hs ht
   split at hx
   ·rename_i he
    cases hx
    obtain ⟨z1,rfl,hz⟩:=map1 hv
    rw [xo_val] at hz
    simp only [execOp,ho,hz]
    refine run_val ?_
    simp only [qX,qStr] at hq
    split at hq
    ·rename_i n sz f hb
     cases hq
     obtain ⟨ad,cap,hrv,_,hcap⟩:=rowV_val hE hb
     rw [hrv,run_convert_bytes_string w s t e ad n cap hs he ht]
     have hfold:∀ (ns:List Int) (b:ByteArray),ns.foldl (fun r n=>r.push (UInt8.ofNat n.toNat)) b=⟨(b.data.toList++ns.map fun n=>UInt8.ofNat n.toNat).toArray⟩:=by
      intro ns
      induction ns with
      | nil=>intro b; cases b; simp
      | cons n ns ih=>intro b; rw [List.foldl_cons,ih]; simp [ByteArray.push]
     cases ad with
     | none=>
      have hn0:n=0:=by
       rcases Nat.eq_zero_or_pos n with h0 | h0
       ·exact h0
       ·obtain ⟨b,o',hh,_⟩:=hcap h0; cases hh
      subst hn0
      rfl
     | some ad=>
      have hlc:(loadCells ad n).run P w = .ok ((rowI n f).map (Value.int .u8)).toArray w:=by
       rcases Nat.eq_zero_or_pos n with h0 | h0
       ·subst h0; rfl
       ·obtain ⟨b,o',hh,_⟩:=hcap h0
        cases hh
        have hsz:sz=1:=by rcases hp.1 with h | h<;>omega
        subst hsz
        refine (run_loadCells (w:=w) ⟨b,o',none⟩ n (fun j=>.int .u8 (intC (f j 0))) (fun j hj=>?_)).trans ?_
        ·have:=rowV_cells hE hb hrv hj (j:=0) (by omega)
         rw [hp.2 j hj] at this
         rw [Addr.add_plain]
         simpa [SC.den] using this
        ·congr 2
         unfold rowI
         rw [List.map_map]; rfl
      rw [run_bytesToString w ad n cap _ hlc,hfold]
      simp [S1.den,SC.den,strB]
    ·cases hq
   ·cases hx
  ·rename_i e hs ht
   split at hx
   ·rename_i i hi
    split at hx
    ·cases hx
    ·rename_i h0
     cases hx
     obtain ⟨z1,rfl,hz⟩:=map1 hv
     rw [xo_val] at hz
     simp only [execOp,ho,hz]
     refine run_val ?_
     simp only [qX,qToU] at hq
     split at hq
     ·rename_i i' j heq
      cases heq
      split at hq
      ·rename_i cs ty hEi
       cases hq
       obtain ⟨b,hb1,hb2⟩:=hE.ent i' _ hEi
       simp only [S1.den,SC.den,hb1,addrOf,Nat.zero_add]
       refine Lib.run_to_unsafe w ⟨b,j,none⟩ hs ht hi h0 (e:=ty) (cells:=cs.length) ?_ hp
       simp [World.shape?,hb2]
      ·cases hq
     ·cases hq
   ·cases hx
  ·rename_i u hs ht
   split at hx
   ·rename_i i hi
    split at hx
    ·rename_i hl
     cases hx
     obtain ⟨z1,rfl,hz⟩:=map1 hv
     rw [xo_val] at hz
     simp only [execOp,ho,hz]
     refine run_val ?_
     simp only [qX,qFromU] at hq
     split at hq
     ·rename_i i' j heq
      cases heq
      split at hq
      ·rename_i cs ty hEi
       cases hq
       obtain ⟨rfl,rfl,h3⟩:=hp
       obtain ⟨b,hb1,hb2⟩:=hE.ent i' _ hEi
       simp only [S1.den,SC.den,hb1,addrOf,Nat.zero_add]
       refine Lib.run_from_unsafe w ⟨b,0,none⟩ hs ht hi (e:=ty) (cells:=cs.length) ?_ (by rw [h3]; exact hl)
       simp [World.shape?,hb2]
      ·cases hq
     ·cases hq
    ·cases hx
   ·cases hx
  ·cases hx
 case makeFunc fn first captured=>
  split at hx
  ·rename_i g h1
   cases hx
   simp only [qX,qMkf] at hq
   split at hq
   ·rename_i cs hcs
    cases hq
    simp only [execOp,ho]
    refine run_val ?_
    have e1:first.map a.eval=#[]:=by
     apply Array.ext'
     rw [Array.toList_map,h1]; rfl
    have e2:(captured.map a.eval)=(denP r cs).toArray:=by
     apply Array.ext'
     rw [Array.toList_map,List.toList_toArray,← cpOf_den hcs,← hv,List.map_map]
     exact List.map_congr_left fun x _=>(xo_val a x).symm
    simp only [Instr.makeFunc,e1,e2,S1.den,SC.den,Sem.run_pure]
   ·cases hq
  ·cases hx
 case slice t x lo hi mx=>
  split at hx
  ·rename_i hu
   cases hx
   have hb:∀ (v:Value) (y:Nat) (c:BoundsCode) (kk:IntKind) (n:Int),v = .int kk n→0≤n→n≤y→(Instr.sliceBound v y c).run P w = .ok n.toNat w:=by
    rintro v y c kk n rfl h1 h2
    simp [Instr.sliceBound,asIntOf,h1,h2]
   simp only [qX] at hq
   cases lo<;>cases hi
   ·simp only [Option.toList,Option.isSome,List.map_nil,List.append_nil] at hv hq
    obtain ⟨z1,rfl,hz⟩:=map1 hv
    rw [xo_val] at hz
    unfold qSslc at hq
    split at hq
    ·rename_i s heq
     cases heq
     rw [if_pos ⟨rfl,rfl⟩] at hq
     cases hq
     simp only [execOp,ho,hz]
     refine run_val ?_
     simp only [Instr.sliceAt,S1.den,SC.den,Instr.slice,Sem.run_bind,run_underlying hu,Result.andThen_ok,Instr.sliceBounds,Option.map_none]
     simp
    ·rename_i heq; cases heq
    ·rename_i heq; cases heq
    ·cases hq
   ·rename_i hh
    simp only [Option.toList,Option.isSome,List.map_nil,List.append_nil,List.nil_append,List.map_cons,List.cons_append] at hv hq
    obtain ⟨z1,z2,rfl,hz,hz'⟩:=map2 hv
    rw [xo_val] at hz hz'
    unfold qSslc at hq
    split at hq
    ·rename_i heq; cases heq
    ·rename_i s kk n heq
     cases heq
     simp only [Bool.true_eq_false,if_false,if_true] at hq
     cases hq
     simp only [execOp,ho,hz]
     refine run_val ?_
     simp only [Instr.sliceAt,S1.den,SC.den,Instr.slice,Sem.run_bind,run_underlying hu,Result.andThen_ok,Instr.sliceBounds,Option.map_none,Option.map_some]
     simp [hb _ s.size .sliceAlen kk n hz' hp.1 hp.2]
    ·rename_i heq; cases heq
    ·cases hq
   ·rename_i l
    simp only [Option.toList,Option.isSome,List.map_nil,List.append_nil,List.nil_append,List.map_cons,List.cons_append] at hv hq
    obtain ⟨z1,z2,rfl,hz,hz'⟩:=map2 hv
    rw [xo_val] at hz hz'
    unfold qSslc at hq
    split at hq
    ·rename_i heq; cases heq
    ·rename_i s kk n heq
     cases heq
     simp only [if_true] at hq
     cases hq
     simp only [execOp,ho,hz]
     refine run_val ?_
     simp only [Instr.sliceAt,S1.den,SC.den,Instr.slice,Sem.run_bind,run_underlying hu,Result.andThen_ok,Instr.sliceBounds,Option.map_none,Option.map_some]
     simp [hb _ s.size .sliceB kk n hz' hp.1 hp.2]
    ·rename_i heq; cases heq
    ·cases hq
   ·rename_i l hh
    simp only [Option.toList,Option.isSome,List.map_nil,List.append_nil,List.nil_append,List.map_cons,List.cons_append] at hv hq
    have hlen:=congrArg List.length hv
    obtain ⟨z1,z2,z3,rfl⟩:∃ z1 z2 z3,ys=[z1,z2,z3]:=by
     match ys,hlen with
     | [z1,z2,z3],_=>exact ⟨z1,z2,z3,rfl⟩
    clear hlen
    simp only [List.map_cons,List.map_nil,List.cons.injEq,and_true,xo_val] at hv
    obtain ⟨hz,hz1,hz2⟩:=hv
    unfold qSslc at hq
    split at hq
    ·rename_i heq; cases heq
    ·rename_i heq; cases heq
    ·rename_i s kk n kk' n' heq
     cases heq
     cases hq
     simp only [execOp,ho,hz]
     refine run_val ?_
     simp only [Instr.sliceAt,S1.den,SC.den,Instr.slice,Sem.run_bind,run_underlying hu,Result.andThen_ok,Instr.sliceBounds,Option.map_none,Option.map_some]
     simp [hb _ s.size .sliceAlen kk' n' hz2 (by omega) hp.2.2,hb _ n'.toNat .sliceB kk n hz1 hp.1 (by omega)]
    ·cases hq
  ·cases hx
 case call c=>
  split at hx
  ·rename_i hc
   split at hx
   ·rename_i t x ht hxx
    split at hx
    ·rename_i hu
     cases hx
     obtain ⟨z1,rfl,hz⟩:=map1 hv
     rw [xo_val] at hz
     simp only [qX,qSlen] at hq
     split at hq
     ·rename_i s heq
      cases heq; cases hq
      simp only [execOp,ho]
      refine bind_pure_val (s:=Builtin.len_ c.argTypes o.type (c.args.map a.eval)) ?_ c a.eval o.type .len hc fun cs=>rfl
      have h1:c.argTypes[0]?=some t:=by rw [← Array.getElem?_toList,ht]; rfl
      have h2:(c.args.map a.eval)[0]?=some (a.eval x):=by rw [← Array.getElem?_toList,Array.toList_map,hxx]; rfl
      simp only [Builtin.len_,h1,h2,hz,Sem.run_bind,run_underlying hu,Result.andThen_ok]
      rfl
     ·cases hq
    ·cases hx
   ·cases hx
  ·rename_i hc
   split at hx
   ·rename_i x hxx
    cases hx
    obtain ⟨z1,rfl,hz⟩:=map1 hv
    rw [xo_val] at hz
    simp only [qX,qSdata] at hq
    split at hq
    ·rename_i i heq
     cases heq
     split at hq
     ·rename_i n sz f hb
      cases hq
      obtain ⟨ad,cap,hrv,hle,hcap⟩:=row_val hE hb
      obtain ⟨b,o',rfl,_⟩:=hcap hp.1
      simp only [execOp,ho]
      refine bind_pure_val (s:=Builtin.unsafeSliceData_ c.argTypes o.type (c.args.map a.eval)) ?_ c a.eval o.type .unsafeSliceData hc fun cs=>rfl
      have h2:c.args.map a.eval=#[.slice (some ⟨b,o',none⟩) n cap]:=by
       apply Array.ext'
       rw [Array.toList_map,hxx]
       simp only [List.map_cons,List.map_nil,hz,S1.den,SC.den,hrv]
      rw [h2,Lib.run_unsafeSliceData_row w _ _ _ _ _ (by omega)]
      simp [S1.den,SC.den,hrv,addrOf]
     ·cases hq
    ·cases hq
   ·cases hx
  ·cases hx
end
end Go.Sx
namespace Go.Sx
open Go.RowKit
section
variable {P:Program} {base:World} {M:Scp} {r:Rho} {E:Nat→Option Ent} {w:World}
theorem map_headD {a:Act} {x:Operand} {ys:List S1} (h:[xo x].map (XO.val a)=ys.map (S1.den r)):a.eval x=S1.den r (ys.headD (.a [])):=by
 obtain ⟨z,rfl,hz⟩:=map1 h
 rw [xo_val] at hz
 exact hz
theorem sound_mv {o:Oper} {a:Act} {x:Operand} {ys:List S1} {p:Prop} {z:S1} (ho:o.op = .move x∨o.op = .assign x)
  (hv:[xo x].map (XO.val a)=ys.map (S1.den r)) (hq:opQ E .mv ys=some (p,z)):Yields P o a w (z.den r):=by
 obtain ⟨z1,rfl,hz⟩:=map1 hv
 rw [xo_val] at hz
 simp only [opQ,qMv,Option.some.injEq,Prod.mk.injEq] at hq
 obtain ⟨_,rfl⟩:=hq
 unfold Yields
 rcases ho with ho | ho<;>simp [execOp,ho,hz]
theorem sound_q0 {o:Oper} {a:Act} {xp:XOp} {xs:List XO} {ys:List S1} {p:Prop} {z:S1} (hE:HeapRel base M r E w) (hx:xop0 P o.op=some (xp,xs))
  (hv:xs.map (XO.val a)=ys.map (S1.den r)) (hq:opQ E xp ys=some (p,z)) (hp:p):Yields P o a w (z.den r):=by
 have hx0:=hx
 generalize ho:o.op=oo at hx
 cases oo with
 | move x=>simp only [xop0,Option.some.injEq,Prod.mk.injEq] at hx; obtain ⟨rfl,rfl⟩:=hx; exact sound_mv (.inl ho) hv hq
 | assign x=>simp only [xop0,Option.some.injEq,Prod.mk.injEq] at hx; obtain ⟨rfl,rfl⟩:=hx; exact sound_mv (.inr ho) hv hq
 | pick c x y=>simp only [xop0,Option.some.injEq,Prod.mk.injEq] at hx; obtain ⟨rfl,rfl⟩:=hx; simp [opQ] at hq
 | box t x=>simp only [xop0,Option.some.injEq,Prod.mk.injEq] at hx; obtain ⟨rfl,rfl⟩:=hx; simp [opQ] at hq
 | alloc t=>simp only [xop0] at hx; split at hx<;>simp only [Option.some.injEq,Prod.mk.injEq,reduceCtorEq] at hx; obtain ⟨rfl,rfl⟩:=hx; simp [opQ] at hq
 | load t x=>
  simp only [xop0] at hx
  split at hx
  ·rename_i d hu
   split at hx
   ·rename_i hd
    split at hx
    ·rename_i i hi
     simp only [Option.some.injEq,Prod.mk.injEq] at hx; obtain ⟨rfl,rfl⟩:=hx
     exact sound_loadN hE ho hu hd hi (map_headD hv) hq hp
    ·cases hx
   ·rename_i hd
    simp only [Option.some.injEq,Prod.mk.injEq] at hx; obtain ⟨rfl,rfl⟩:=hx
    exact sound_load1 (xs:=[]) hE ho hu (by simpa using hd) (map_headD hv) hq hp
  ·cases hx
 | store t x y=>simp only [xop0] at hx; split at hx<;>simp only [Option.some.injEq,Prod.mk.injEq,reduceCtorEq] at hx; obtain ⟨rfl,rfl⟩:=hx; simp [opQ] at hq
 | fieldAddr s x f=>
  simp only [xop0] at hx
  split at hx
  ·rename_i fs hs
   split at hx
   ·rename_i fd hf
    split at hx
    ·rename_i i hi
     split at hx
     ·cases hx
     ·rename_i h0
      simp only [Option.some.injEq,Prod.mk.injEq] at hx; obtain ⟨rfl,rfl⟩:=hx
      exact sound_fld ho hs hf hi h0 hv hq hp
    ·cases hx
   ·cases hx
  ·cases hx
 | field s x f=>
  simp only [xop0] at hx
  split at hx
  ·rename_i fs hs
   split at hx
   ·rename_i fd hf
    split at hx
    ·rename_i d hu
     split at hx
     ·rename_i hd
      split at hx
      ·rename_i i hi
       simp only [Option.some.injEq,Prod.mk.injEq] at hx; obtain ⟨rfl,rfl⟩:=hx
       exact sound_partN ho hs hf hu hd hi hv hq hp
      ·cases hx
     ·rename_i hd
      simp only [Option.some.injEq,Prod.mk.injEq] at hx; obtain ⟨rfl,rfl⟩:=hx
      exact sound_part1 ho hs hf hu (by simpa using hd) hv hq hp
    ·cases hx
   ·cases hx
  ·cases hx
 | index t x i=>
  simp only [xop0] at hx
  split at hx
  ·rename_i len e ht
   split at hx
   ·rename_i d inf hu hi
    split at hx
    ·rename_i hd
     simp only [Option.some.injEq,Prod.mk.injEq] at hx; obtain ⟨rfl,rfl⟩:=hx
     exact sound_ix ho ht hu hi hv (by rw [if_pos hd]; exact hq) hp
    ·rename_i hd
     simp only [Option.some.injEq,Prod.mk.injEq] at hx; obtain ⟨rfl,rfl⟩:=hx
     exact sound_ix ho ht hu hi hv (by rw [if_neg hd]; exact hq) hp
   ·cases hx
  ·cases hx
 | indexAddr t x i=>
  simp only [xop0] at hx
  split at hx
  ·rename_i len e ht
   split at hx
   ·rename_i inf hi
    simp only [Option.some.injEq,Prod.mk.injEq] at hx; obtain ⟨rfl,rfl⟩:=hx
    exact sound_ixA ho ht hi hv hq hp
   ·cases hx
  ·rename_i e ht
   split at hx
   ·rename_i inf hi
    simp only [Option.some.injEq,Prod.mk.injEq] at hx; obtain ⟨rfl,rfl⟩:=hx
    exact sound_ixS hE ho ht hi hv hq hp
   ·cases hx
  ·cases hx
 | build t parts=>
  have hb:∃ z' pl,xp = .build z' pl:=by
   simp only [xop0] at hx
   repeat' split at hx
   all_goals first | (cases hx; done) | (simp only [Option.some.injEq,Prod.mk.injEq] at hx; exact ⟨_,_,hx.1.symm⟩)
  obtain ⟨z',pl,rfl⟩:=hb
  exact sound_build ho hx0 hv hq hp hE.one
 | binOp op t x y ty=>
  simp only [xop0] at hx
  split at hx
  ·simp only [Option.some.injEq,Prod.mk.injEq] at hx; obtain ⟨rfl,rfl⟩:=hx
   exact sound_bin ho hv hq hp
  ·rename_i hu
   simp only [Option.some.injEq,Prod.mk.injEq] at hx; obtain ⟨rfl,rfl⟩:=hx
   exact sound_binb ho hu hv hq hp
  ·split at hx<;>first | (cases hx; done) | (simp only [Option.some.injEq,Prod.mk.injEq] at hx; obtain ⟨rfl,rfl⟩:=hx; simp [opQ] at hq)
  ·rename_i fs hu
   split at hx
   ·rename_i ks hk
    split at hx
    ·cases hx
    ·rename_i hg
     split at hx
     ·simp only [Option.some.injEq,Prod.mk.injEq] at hx; obtain ⟨rfl,rfl⟩:=hx
      exact sound_eqA ho (.inl ⟨rfl,rfl⟩) hu hk (by simpa using hg) hv hq hp
     ·simp only [Option.some.injEq,Prod.mk.injEq] at hx; obtain ⟨rfl,rfl⟩:=hx
      exact sound_eqA ho (.inr ⟨rfl,rfl⟩) hu hk (by simpa using hg) hv hq hp
     ·cases hx
   ·cases hx
  ·cases hx
 | unOp op t x=>simp only [xop0,Option.some.injEq,Prod.mk.injEq] at hx; obtain ⟨rfl,rfl⟩:=hx; exact sound_un ho hv hq hp
 | convert s t x=>
  simp only [xop0] at hx
  split at hx
  ·rename_i k' k hs ht
   simp only [Option.some.injEq,Prod.mk.injEq] at hx; obtain ⟨rfl,rfl⟩:=hx
   exact sound_conv ho hs ht hv hq hp
  ·split at hx
   ·split at hx
    ·simp only [Option.some.injEq,Prod.mk.injEq] at hx; obtain ⟨rfl,rfl⟩:=hx; simp [opQ] at hq
    ·cases hx
   ·cases hx
  ·cases hx
 | extract x i=>simp only [xop0,Option.some.injEq,Prod.mk.injEq] at hx; obtain ⟨rfl,rfl⟩:=hx; simp [opQ] at hq
 | nilCheck x=>simp only [xop0,Option.some.injEq,Prod.mk.injEq] at hx; obtain ⟨rfl,rfl⟩:=hx; exact sound_nilc ho hv hq hp
 | call c=>
  simp only [xop0] at hx
  split at hx
  ·split at hx
   ·cases hx
   ·simp only [Option.some.injEq,Prod.mk.injEq] at hx; obtain ⟨rfl,rfl⟩:=hx; simp [opQ] at hq
  ·simp only [Option.some.injEq,Prod.mk.injEq] at hx; obtain ⟨rfl,rfl⟩:=hx; simp [opQ] at hq
  ·rename_i hc
   simp only [Option.some.injEq,Prod.mk.injEq] at hx; obtain ⟨rfl,rfl⟩:=hx
   exact sound_min ho hc hv hq hp
  ·rename_i hc
   simp only [Option.some.injEq,Prod.mk.injEq] at hx; obtain ⟨rfl,rfl⟩:=hx
   exact sound_max ho hc hv hq hp
  ·rename_i hc
   split at hx
   ·rename_i t x ht hxx
    split at hx
    ·rename_i e hu
     simp only [Option.some.injEq,Prod.mk.injEq] at hx; obtain ⟨rfl,rfl⟩:=hx
     exact sound_len hE ho hc ht hxx hu hv hq hp
    ·cases hx
   ·cases hx
  ·repeat' split at hx
   all_goals first | (cases hx; done) | (simp only [Option.some.injEq,Prod.mk.injEq] at hx; obtain ⟨rfl,rfl⟩:=hx; simp [opQ] at hq)
  ·repeat' split at hx
   all_goals first | (cases hx; done) | (simp only [Option.some.injEq,Prod.mk.injEq] at hx; obtain ⟨rfl,rfl⟩:=hx; simp [opQ] at hq)
  ·cases hx
 | buildSlice t len parts=>
  simp only [xop0] at hx
  repeat' split at hx
  all_goals first | (cases hx; done) | (simp only [Option.some.injEq,Prod.mk.injEq] at hx; obtain ⟨rfl,rfl⟩:=hx; simp [opQ] at hq)
 | makeSlice t l c=>
  simp only [xop0] at hx
  repeat' split at hx
  all_goals first | (cases hx; done) | (simp only [Option.some.injEq,Prod.mk.injEq] at hx; obtain ⟨rfl,rfl⟩:=hx; simp [opQ] at hq)
 | slice t x lo hi mx=>
  simp only [xop0] at hx
  repeat' split at hx
  all_goals first | (cases hx; done) | (simp only [Option.some.injEq,Prod.mk.injEq] at hx; obtain ⟨rfl,rfl⟩:=hx; simp [opQ] at hq)
 | panic x=>simp only [xop0,Option.some.injEq,Prod.mk.injEq] at hx; obtain ⟨rfl,rfl⟩:=hx; simp [opQ] at hq
 | makeInterface t x=>simp only [xop0,Option.some.injEq,Prod.mk.injEq] at hx; obtain ⟨rfl,rfl⟩:=hx; simp [opQ] at hq
 | _=>simp [xop0] at hx
theorem sound_q {o:Oper} {a:Act} {xp:XOp} {xs:List XO} {ys:List S1} {p:Prop} {z:S1} (hE:HeapRel base M r E w) (hx:xop1 P o.op=some (xp,xs))
  (hv:xs.map (XO.val a)=ys.map (S1.den r)) (hq:opQ E xp ys=some (p,z)) (hp:p):Yields P o a w (z.den r):=by
 by_cases hk:∃ k,xp = .x k
 ·obtain ⟨k,rfl⟩:=hk; exact soundX hE (xop1_x hx (xop0_x _ _ _ _)) hv hq hp
 ·refine sound_q0 hE (xop1_old hx (fun k h=>hk ⟨k,h⟩) (fun h=>?_) (fun f h=>?_)) hv hq hp
  ·subst h; simp [opQ] at hq
  ·subst h; simp [opQ] at hq
end
end Go.Sx
namespace Go.Sx
open Go.RowKit
inductive CR where
 | q (pre:Prop) (res:SV)
 | e (pre:Prop) (res:SV) (ents:List (Nat × Ent)) (next:Nat)
 | d (pre:Prop) (post:(Nat→Nat→Value)→Prop) (res:(Nat→Nat→Value)→SV) (ents:(Nat→Nat→Value)→List (Nat × Ent)) (next:Nat)
abbrev Con:=List S1→(Nat→Option Ent)→Nat→Option CR
def tab (l:List (Nat × Con)) (f:Nat) (args:List S1) (E:Nat→Option Ent) (n:Nat):Option CR :=
 match lk l f with
 | some g=>g args E n
 | none=>none
def upd (l:List (Nat × Ent)) (E:Nat→Option Ent) (i:Nat):Option Ent :=
 match lk l i with
 | some e=>some e
 | none=>E i
def bodied (P:Program) (f:Nat):Bool :=
  match P.funcs[f]? with
  | some fn => fn.body.isSome && !(fn.name == "runtime.NumGoroutine") && !isV f
  | none=>false
def CallsB (P:Program) (f:Nat) (args:Array Value) (w:World) (R:Ending→World→Prop):Prop :=
 (bodied P f=true∧Calls P f args w R)∨∃ v nx w',(callX f args).run P w = .ok nx w'∧(nx = .value v∨(nx = .skip∧v = .tuple #[]))∧(isV f=false→nx = .value v∧w'=w)∧R (.returned v) w'
theorem CallsB.mono {P:Program} {f:Nat} {args:Array Value} {w:World} {R R':Ending→World→Prop} (h:CallsB P f args w R) (hR:∀ e w',R e w'→R' e w'):CallsB P f args w R':=by
 rcases h with ⟨h1,h2⟩ | ⟨v,nx,w',h1,h2,h3,h4⟩
 ·exact .inl ⟨h1,h2.mono hR⟩
 ·exact .inr ⟨v,nx,w',h1,h2,h3,hR _ _ h4⟩
def CROk (P:Program) (f:Nat) (args:List S1) (E:Nat→Option Ent) (n:Nat):Option CR→Prop
 | none=>True
 | some (.q pre res)=>(∀ m:Nat→Prop,(∀ x∈args,S1.sc m x)→(∀ i e,E i=some e→m i∧e.sc m)→res.sc m)∧(pre→∀ base M r w,HeapRel base M r E w →
    CallsB P f (args.map (S1.den r)).toArray w (fun e w'=>e = .returned (res.den r)∧BelowD w.heap.size w w'))
 | some (.e pre res ents next)=>pre→n≤next ∧
   (∀ m:Nat→Prop,(∀ x∈args,S1.sc m x)→(∀ i e,E i=some e→m i∧e.sc m)→(∀ i,n≤i→i < next→m i)→res.sc m∧∀ i e,lk ents i=some e→m i∧e.sc m) ∧
   (∀ i e,lk ents i=some e→E i≠none∨(n≤i∧i < next))∧∀ base M r w,HeapRel base M r E w →
    CallsB P f (args.map (S1.den r)).toArray w (fun e w'=>∃ r',(∀ i,i < n→r' i=r i)∧e = .returned (res.den r')∧HeapRel base M r' (upd ents E) w')
 | some (.d pre post res ents next)=>pre→n≤next ∧
   (∀ G,∀ m:Nat→Prop,(∀ x∈args,S1.sc m x)→(∀ i e,E i=some e→m i∧e.sc m)→(∀ i,n≤i→i < next→m i)→(res G).sc m∧∀ i e,lk (ents G) i=some e→m i∧e.sc m) ∧
   (∀ G i e,lk (ents G) i=some e→E i≠none∨(n≤i∧i < next))∧∀ base M r w,HeapRel base M r E w →
    CallsB P f (args.map (S1.den r)).toArray w (fun e w'=>∃ G r',post G∧(∀ i,i < n→r' i=r i)∧e = .returned ((res G).den r')∧HeapRel base M r' (upd (ents G) E) w')
def COk (P:Program) (f:Nat) (g:Con):Prop :=
 ∀ args E n,(∀ x∈args,S1.sc (upto n) x)→(∀ i e,E i=some e→i < n∧e.sc (upto n))→CROk P f args E n (g args E n)
def constS:Value→S1
 | .agg cs=>.a (cs.toList.map .v)
 | v=>.c (.v v)
theorem constS_den (r:Rho) (v:Value):(constS v).den r=v:=by
 cases v<;>try rfl
 rename_i cs
 simp only [constS,S1.den,List.map_map]
 congr 1
 have:(SC.den r ∘ SC.v)=id:=rfl
 rw [this,List.map_id]
theorem constS_sc (m:Nat→Prop) (v:Value):(constS v).sc m:=by
 cases v<;>try trivial
 intro x hx
 simp only [List.mem_map] at hx
 obtain ⟨y,_,rfl⟩:=hx
 trivial
def rd (env:List (Nat × SV)):XO→Option (Prop × S1)
 | .t i=>match lk env i with
  | some (.o x)=>some (True,x)
  | some (.g b x)=>some (b=true,x)
  | _=>none
 | .k v=>some (True,constS v)
def rds (env:List (Nat × SV)):List XO→Option (Prop × List S1)
 | []=>some (True,[])
 | x :: xs=>match rd env x with
  | some (p,y)=>match rds env xs with
   | some (q,ys)=>some (p∧q,y :: ys)
   | none=>none
  | none=>none
def guardOf (env:List (Nat × SV)):Option (Nat × Bool)→Option (Option Bool)
 | none=>some none
 | some (s,want)=>match lk env s with
  | some (.o (.c (.v (.bool b))))=>some (some (b == want))
  | some (.g a (.c (.v (.bool b))))=>some (some (a && (b == want)))
  | _=>none
def gdB:Option Bool→Bool
 | none=>true
 | some c=>c
def fin (gd:Option Bool) (p:Prop) (x:S1):Option (Prop × SV) :=
 match gd with
 | none=>some (p,.o x)
 | some c=>some (c=true→p,.g c x)
def evPick (gd:Option Bool):Option (Prop × S1)→Option (Prop × S1)→Option (Prop × S1)→Option (Prop × SV)
 | some (pc,.c (.v (.bool bc))),some (px,.c (.v (.bool bx))),some (py,.c (.v (.bool b)))=>
  fin gd (pc∧(bc=true→px)∧(bc=false→py)) (.c (.v (.bool (bif bc then bx else b))))
 | _,_,_=>none
def evCR (gd:Option Bool) (p:Prop):Option CR→Option (Prop × SV)
 | some (.q pre (.o x))=>fin gd (p∧pre) x
 | some (.q pre (.t xs))=>match gd with
  | none=>some (p∧pre,.t xs)
  | some _=>none
 | _=>none
def evExt (env:List (Nat × SV)) (gd:Option Bool) (i:Nat):List XO→Option (Prop × SV)
 | [.t s]=>match lk env s with
  | some (.t xs)=>match nth xs i with
   | some x=>fin gd True x
   | none=>none
  | _=>none
 | _=>none
def idsP:List CP→List Nat
 | []=>[]
 | .v _ :: l=>idsP l
 | .p i _ :: l=>i :: idsP l
def SC.ids:SC→List Nat
 | .v _=>[]
 | .f _ cs=>idsP cs
 | .p i _=>[i]
 | .n i=>[i]
 | .q i _ _ _=>[i]
def idsL:List SC→List Nat
 | []=>[]
 | x :: l=>x.ids++idsL l
def S1.ids:S1→List Nat
 | .c x=>x.ids
 | .a cs=>idsL cs
def ids1L:List S1→List Nat
 | []=>[]
 | x :: l=>x.ids++ids1L l
def SV.ids:SV→List Nat
 | .o x=>x.ids
 | .t xs=>ids1L xs
 | .g _ x=>x.ids
def memN (i:Nat):List Nat→Bool
 | []=>false
 | j :: l=>if i=j then true else memN i l
def reachB (E:Nat→Option Ent):List Nat→List Nat
 | []=>[]
 | i :: l=>(match E i with | some (.box cs _)=>idsL cs | some (.als j _ _)=>[j] | some (.itr j _ _)=>[j] | _=>[])++reachB E l
def reach (E:Nat→Option Ent) (l:List Nat):List Nat:=l++reachB E l
def resE (l:List Nat) (E:Nat→Option Ent) (i:Nat):Option Ent:=if memN i l=true then E i else none
def tupOf (env:List (Nat × SV)):XO→Option (List S1)
 | .t s=>match lk env s with
  | some (.t xs)=>some xs
  | _=>none
 | _=>none
def evTup (o:XOper) (S:St):Option (List S1) :=
 match o.guard with
 | some _=>none
 | none=>match o.op with
  | .mv=>match o.args with
   | [x]=>tupOf S.env x
   | _=>none
  | _=>none
def evQ0 (Γ:Nat→Con) (o:XOper) (S:St):Option (Prop × SV) :=
 match guardOf S.env o.guard with
 | none=>none
 | some gd=>
  match o.op with
  | .pick=>match o.args with
   | [c,x,y]=>evPick gd (rd S.env c) (rd S.env x) (rd S.env y)
   | _=>none
  | .ext i=>evExt S.env gd i o.args
  | .call f=>match isV f with
   | true=>none
   | false=>match rds S.env o.args with
    | some (p,ys)=>evCR gd p (Γ f ys (resE (reach (lk S.ents) (ids1L ys)) (lk S.ents)) S.next)
    | none=>none
  | .callv=>match rds S.env o.args with
   | some (p,.c (.v (.func (.func f) fs cs)) :: ys)=>evCR gd (p∧isV f=false∧fs=#[]∧cs=#[]) (Γ f ys (resE (reach (lk S.ents) (ids1L ys)) (lk S.ents)) S.next)
   | some (p,.c (.f f cs) :: ys)=>evCR gd (p∧isV f=false) (Γ f (ys++cpS cs) (resE (reach (lk S.ents) (ids1L (.c (.f f cs) :: ys))) (lk S.ents)) S.next)
   | _=>none
  | .box _=>none
  | .alloc _ _=>none
  | .store _=>none
  | .slit ..=>none
  | .mks ..=>none
  | .slc ..=>none
  | .app ..=>none
  | .ustr _=>none
  | op=>match rds S.env o.args with
   | some (p,ys)=>match opQ (lk S.ents) op ys with
    | some (q,z)=>fin gd (p∧q) z
    | none=>none
   | none=>none
def evQ (Γ:Nat→Con) (o:XOper) (S:St):Option (Prop × SV) :=
 match evTup o S with
 | some xs=>some (True,.t xs)
 | none=>evQ0 Γ o S
structure Rec where
 d:Option Nat
 v:SV
 us:List (Nat × Ent)
 c:Nat
 al:Nat
 uses:List Nat
 rd:List Nat
def noC:SC:=.v (.bool false)
def litF (cs:List SC) (sz:Nat):Nat→Nat→SC:=fun e j=>match nth cs (e * sz+j) with | some x=>x | none=>noC
def replF (z:List Value):Nat→Nat→SC:=fun _ j=>match nth z j with | some v=>.v v | none=>noC
def catF (n:Nat) (f g:Nat→Nat→SC):Nat→Nat→SC:=fun e j=>if e < n then f e j else g (e - n) j
def shF (k:Nat) (f:Nat→Nat→SC):Nat→Nat→SC:=fun e j=>f (e+k) j
def updF (f:Nat→Nat→SC) (e0 j0:Nat) (cs:List SC):Nat→Nat→SC:=fun e j=>if e=e0∧j0≤j then (match nth cs (j - j0) with | some x=>x | none=>f e j) else f e j
abbrev EffR:=Option (Prop × SV × List (Nat × Ent) × Nat)
def eBox (c:Nat) (ty:TypeId):List S1→EffR
 | [z]=>some (okcs z.cells=true,.o (.c (.p c 0)),[(c,.box z.cells ty)],1)
 | _=>none
def eAlloc (c:Nat) (ty:TypeId) (z:List Value):EffR:=some (okcs (z.map .v)=true,.o (.c (.p c 0)),[(c,.box (z.map .v) ty)],1)
def setF (f:Nat→SC) (j0:Nat) (cs:List SC):Nat→SC:=fun j=>if j0≤j then (match nth cs (j - j0) with | some x=>x | none=>f j) else f j
def eStore (n:Nat) (E:Nat→Option Ent):List S1→EffR
 | [.c (.p i j),z]=>match E i with
  | some (.box cs ty)=>some (z.cells.length=n∧j+n≤cs.length∧okcs z.cells=true,.t [],[(i,.box (setAt cs j z.cells) ty)],0)
  | some (.bx m f ty p)=>some (z.cells.length=n∧j+n≤m∧okcs z.cells=true,.t [],[(i,.bx m (setF f j z.cells) ty p)],0)
  | _=>none
 | [.c (.q i sz e j),z]=>match E i with
  | some (.own m sz' f ty)=>some (sz=sz'∧e < m∧z.cells.length=n∧j+n≤sz∧okcs z.cells=true,.t [],[(i,.own m sz' (updF f e j z.cells) ty)],0)
  | _=>none
 | _=>none
def eCall (c:Nat):Option CR→EffR
 | some (.e pre res ents next)=>some (pre,res,ents,next - c)
 | _=>none
def eSlit (c:Nat) (ty:TypeId) (len sz:Nat) (z:List Value) (pl:List (Nat × Nat)) (ys:List S1):EffR :=
 match fillS (z.map .v) pl ys with
 | some cs=>some (oks ys=true∧okcs cs=true,.o (.c (.n c)),[(c,.own len sz (litF cs sz) ty)],1)
 | none=>none
def eMks (c:Nat) (ty:TypeId) (sz bytes:Nat) (z:List Value):List S1→EffR
 | [.c (.v (.int .i64 l)),.c (.v (.int .i64 m))]=>some (l=m∧0≤l∧l * bytes≤281474976710656∧l≤9223372036854775807∧okcs (z.map .v)=true,.o (.c (.n c)),[(c,.own l.toNat sz (replF z) ty)],1)
 | _=>none
def takeI:Bool→List S1→Option (Option Int × List S1)
 | false,l=>some (none,l)
 | true,.c (.v (.int _ n)) :: l=>some (some n,l)
 | true,_=>none
def lims (lo hi mx:Bool) (ys:List S1):Option (Option Int × Option Int × Option Int) :=
 match takeI lo ys with
 | some (l,ys1)=>match takeI hi ys1 with
  | some (h,ys2)=>match takeI mx ys2 with
   | some (m,[])=>some (l,h,m)
   | _=>none
  | none=>none
 | none=>none
def eSlcO (c sz:Nat) (l:Int) (h:Option Int) (E:Nat→Option Ent) (x:S1):EffR :=
 match x with
 | .c (.n i)=>match E i with
  | some (.ro n sz' f)=>some (sz=sz'∧0≤l∧l≤h.getD n∧h.getD n≤n,.o (.c (.n c)),[(c,.ro (h.getD n - l).toNat sz (shF l.toNat f))],1)
  | some (.own n sz' f ty)=>some (sz=sz'∧0≤l∧l≤h.getD n∧h.getD n≤n,.o (.c (.n c)),[(c,.own (h.getD n - l).toNat sz (shF l.toNat f) ty),(i,.dead)],1)
  | some (.deep none n sz' f d _)=>some (sz=sz'∧0≤l∧l≤h.getD n∧h.getD n≤n,.o (.c (.n c)),[(c,.deep none (h.getD n - l).toNat sz (fun e j=>f (e+l.toNat) j) (fun e j=>d (e+l.toNat) j) [])],1)
  | some (.als _ n true)=>some (h=none∧l=n,.o (.c (.n c)),[(c,.len 0)],1)
  | _=>none
 | _=>none
def eSlc3 (c sz:Nat) (l:Int) (h:Option Int) (m:Int) (E:Nat→Option Ent) (x:S1):EffR :=
 match x with
 | .c (.n i)=>match E i with
  | some (.als j n true)=>some (l=0∧h=some m∧0 < m∧m≤n,.o (.c (.n c)),[(c,.als j m.toNat false)],1)
  | some (.ro n sz' f)=>some (sz=sz'∧l=0∧h=some m∧0 < m∧m≤n,.o (.c (.n c)),[(c,.ro m.toNat sz f)],1)
  | _=>none
 | _=>none
def eSlc (c sz:Nat) (lo hi mx:Bool) (E:Nat→Option Ent):List S1→EffR
 | x :: ys=>match lims lo hi mx ys with
  | some (l,h,some m)=>if m=0 then (match rowV E x with
   | some _=>some (l.getD 0=0∧h=some 0∧m=0,.o (.c (.n c)),[(c,.nils)],1)
   | none=>none) else eSlc3 c sz (l.getD 0) h m E x
  | some (l,h,none)=>eSlcO c sz (l.getD 0) h E x
  | none=>none
 | []=>none
def okRow (m sz:Nat) (g:Nat→Nat→SC):Prop:=∀ e j,e < m→j < sz→(g e j).ok=true
def isLen0 (E:Nat→Option Ent):S1→Bool
 | .c (.n j)=>match E j with
  | some (.len k)=>k == 0
  | _=>false
 | _=>false
def eApp (c:Nat) (ty:TypeId) (sz bytes:Nat) (E:Nat→Option Ent):List S1→EffR
 | [.c (.n i),x]=>match E i with
  | some (.own n sz' f ty')=>match rowV E x with
   | some (m,sz2,g)=>some (sz'=sz∧ty'=ty∧(m=0∨sz2=sz)∧okRow m sz g∧n+m≤281474976710,.o (.c (.n c)),[(c,.own (n+m) sz (catF n f g) ty),(i,.dead)],1)
   | none=>none
  | some (.als j m false)=>match isLen0 E x with
   | true=>match E j with
    | some (.own n sz' f ty')=>some (sz'=sz∧ty'=ty∧0 < m,.o (.c (.n c)),[(c,.own m sz f ty),(j,.dead)],1)
    | _=>none
   | false=>none
  | some .nils=>match rowV E x with
   | some (m,sz2,g)=>some ((m=0∨sz2=sz)∧okRow m sz g∧m≤281474976710,.o (.c (.n c)),[(c,.own m sz g ty),(i,.dead)],1)
   | none=>none
  | _=>none
 | [.c (.v (.slice none 0 0)),x]=>match rowV E x with
  | some (m,sz2,g)=>some ((m=0∨sz2=sz)∧okRow m sz g∧m≤281474976710,.o (.c (.n c)),[(c,.own m sz g ty)],1)
  | none=>none
 | _=>none
def eUstr (te:Nat) (E:Nat→Option Ent):List S1→EffR
 | [.c (.q i 1 0 0),.c (.v (.int .i64 l))]=>match E i with
  | some (.own n sz f ty)=>some (ty=te∧0 < l∧l≤n∧rowBytes n sz f∧l≤9223372036854775807∧(∀ x∈rowI n f,0≤x∧x≤255),.o (.c (.v (.string (strB (rowI l.toNat f))))),[(i,.dead)],0)
  | _=>none
 | _=>none
def eMkb (E:Nat→Option Ent):List S1→EffR
 | [.c (.n i)]=>match E i with
  | some (.own n sz f ty)=>some (0 < n,.o (.c (.n i)),[(i,.own n sz f ty)],0)
  | _=>none
 | _=>none
def effE (Γ:Nat→Con) (c:Nat) (op:XOp) (E:Nat→Option Ent) (ys:List S1):EffR :=
 match op with
 | .box ty=>eBox c ty ys
 | .alloc ty z=>eAlloc c ty z
 | .store n=>eStore n E ys
 | .call f=>eCall c (Γ f ys (resE (reach E (ids1L ys)) E) c)
 | .slit ty len sz z pl=>eSlit c ty len sz z pl ys
 | .mks ty sz bytes z=>eMks c ty sz bytes z ys
 | .slc sz lo hi mx=>eSlc c sz lo hi mx E ys
 | .app ty sz bytes=>eApp c ty sz bytes E ys
 | .ustr te=>eUstr te E ys
 | .mkb=>eMkb E ys
 | _=>none
def XO.slots:XO→List Nat
 | .t i=>[i]
 | .k _=>[]
def slotsL:List XO→List Nat
 | []=>[]
 | x :: l=>x.slots++slotsL l
def usesX (x:XOper):List Nat :=
 (match x.guard with | some (s,_)=>[s] | none=>[])++slotsL x.args
def onG (env:List (Nat × SV)) (g:Option (Nat × Bool)):Bool :=
 match guardOf env g with
 | some none=>true
 | some (some c)=>c
 | none=>false
def offG (env:List (Nat × SV)) (g:Option (Nat × Bool)):Bool :=
 match guardOf env g with
 | some none=>false
 | some (some c)=>!c
 | none=>false
theorem onG_spec {env:List (Nat × SV)} {g:Option (Nat × Bool)} (h:onG env g=true):∃ gd,guardOf env g=some gd∧gdB gd=true:=by
 unfold onG at h
 split at h
 ·rename_i hg; exact ⟨none,hg,rfl⟩
 ·rename_i c hg; exact ⟨some c,hg,h⟩
 ·cases h
theorem offG_spec {env:List (Nat × SV)} {g:Option (Nat × Bool)} (h:offG env g=true):guardOf env g=some (some false):=by
 unfold offG at h
 split at h
 ·cases h
 ·rename_i c hc
  cases c with
  | false=>exact hc
  | true=>cases h
 ·cases h
def recEff (Γ:Nat→Con) (c:Nat) (x:XOper) (S:St):Option (Prop × Rec) :=
 match onG S.env x.guard with
 | false=>none
 | true=>match rds S.env x.args with
  | some (p,ys)=>match effE Γ c x.op (lk S.ents) ys with
   | some (q,v,us,al)=>some (p∧q,⟨x.dst,v,us,c,al,usesX x,reach (lk S.ents) (ids1L ys)⟩)
   | none=>none
  | none=>none
def pushR (t:Rec) (S:St):St :=
 ⟨(match t.d with | some s=>(s,t.v) :: S.env | none=>S.env),t.us++S.ents,S.next⟩
def pushN (t:Rec) (S:St):St :=
 ⟨(match t.d with | some s=>(s,t.v) :: S.env | none=>S.env),t.us++S.ents,S.next+t.al⟩
def vcCR (d:Option Nat) (p:Prop) (S:St) (K:St→Prop):Option CR→Prop
 | some (.d pre post res ents next)=>(p∧pre)∧∀ G:Nat→Nat→Value,post G→K ⟨(match d with | some s=>(s,res G) :: S.env | none=>S.env),ents G++S.ents,next⟩
 | _=>False
def vcCallD (Γ:Nat→Con) (o:XOper) (S:St) (K:St→Prop):Prop :=
 match o.guard with
 | some _=>False
 | none=>match o.op with
  | .call f=>match rds S.env o.args with
   | some (p,ys)=>vcCR o.dst p S K (Γ f ys (resE (reach (lk S.ents) (ids1L ys)) (lk S.ents)) S.next)
   | none=>False
  | _=>False
def vcEff (K:St→Prop) (S:St) (D:Prop):Option (Prop × Rec)→Prop
 | some (p,t)=>p∧K (pushN t S)
 | none=>D
def vcOp1 (Γ:Nat→Con) (o:XOper) (S:St) (K:St→Prop):Prop :=
 match evQ Γ o S with
 | some (p,v)=>p∧K (S.put o.dst v)
 | none=>vcEff K S (vcCallD Γ o S K) (recEff Γ S.next o S)
def vcOpG (Γ:Nat→Con) (o:XOper) (S:St) (K:St→Prop):Prop :=
 match o.guard with
 | none=>vcOp1 Γ o S K
 | some g=>match evQ Γ o S with
  | some (p,v)=>p∧K (S.put o.dst v)
  | none=>match guardOf S.env (some g) with
   | some (some c)=>(c=true→vcOp1 Γ ⟨o.dst,o.op,o.args,none⟩ S K)∧(c=false→K (S.put o.dst (.g false (.c (.v (.bool true))))))
   | _=>False
def lenV (E:Nat→Option Ent):S1→Option Nat
 | .c (.n i)=>match E i with
  | some (.len n)=>some n
  | _=>match rowOf E i with
   | some (n,_,_)=>some n
   | none=>none
 | _=>none
def vcNil (d:Option Nat) (S:St) (neg:Bool) (K:St→Prop):Option (Prop × List S1)→Prop
 | some (p,[.c (.v (.slice none 0 0))])=>p∧K (S.put d (.o (.c (.v (.bool (!neg))))))
 | some (p,[x])=>match lenV (lk S.ents) x with
  | some n=>p∧∀ b:Bool,(b=true→n=0)→K (S.put d (.o (.c (.v (.bool (b != neg))))))
  | none=>False
 | _=>False
def vcOp (Γ:Nat→Con) (o:XOper) (S:St) (K:St→Prop):Prop :=
 match o.op with
 | .isnil neg=>match o.guard with
  | none=>vcNil o.dst S neg K (rds S.env o.args)
  | some g=>match guardOf S.env (some g) with
   | some (some c)=>(c=true→vcNil o.dst S neg K (rds S.env o.args))∧(c=false→K (S.put o.dst (.g false (.c (.v (.bool true))))))
   | _=>False
 | _=>vcOpG Γ o S K
def vcOpK (Γ:Nat→Con) (o:XOper) (K:St→Prop) (S:St):Prop:=vcOp Γ o S K
def vcOps (Γ:Nat→Con):List XOper→(St→Prop)→St→Prop
 | [],K,S=>K S
 | o :: l,K,S=>vcOpK Γ o (vcOps Γ l K) S
def dstOk (N:Nat):Option Nat→Bool
 | none=>true
 | some d=>d < N
def xopsL (P:Program) (all:Array Oper) (N:Nat):List Oper→Option (List XOper)
 | []=>some []
 | o :: l=>match xop P all o with
  | some x=>if dstOk N x.dst then (match xopsL P all N l with
   | some xs=>some (x :: xs)
   | none=>none) else none
  | none=>none
end Go.Sx
namespace Go.Sx
open Go.RowKit
section
variable {P:Program} {base:World} {M:Scp} {N n0:Nat} {r0 r:Rho} {S:St} {a:Act} {w:World}
theorem getD_bool {t:Array Value} {s:Nat} {b:Bool} (h:t.getD s undef = .bool b):t[s]?=some (.bool b):=by
 rw [Array.getD_eq_getD_getElem?] at h
 cases hs:t[s]? with
 | none=>rw [hs] at h; simp [undef] at h
 | some v=>rw [hs] at h; simp at h; rw [h]
theorem getD_undef {t:Array Value} {s:Nat} (h:t.getD s undef=undef):t[s]?=none∨t[s]?=some undef:=by
 rw [Array.getD_eq_getD_getElem?] at h
 cases hs:t[s]? with
 | none=>exact .inl rfl
 | some v=>rw [hs] at h; simp at h; rw [h]; exact .inr rfl
theorem guard_sound {ops:Array Oper} {o:Oper} {xo:XOper} {gd:Option Bool} (hx:xop P ops o=some xo) (hr:Rel base M N n0 r0 r S a w) (hg:guardOf S.env xo.guard=some gd) :
  Region.wanted o (yielded ops a.tmps)=gdB gd:=by
 unfold xop at hx
 split at hx
 ·cases hx
 ·split at hx
  ·rename_i hgd
   cases hx
   simp only [guardOf,Option.some.injEq] at hg
   subst hg
   simp [Region.wanted,hgd,gdB]
  ·rename_i j want hgd
   split at hx
   ·rename_i d hd
    cases hx
    simp only [guardOf] at hg
    simp only [Region.wanted,hgd,yielded,hd,Option.bind_some]
    split at hg
    ·rename_i b hl
     cases hg
     have:=getD_bool (hr.slot _ _ hl)
     rw [this]
     cases b<;>cases want<;>rfl
    ·rename_i g b hl
     cases hg
     have h1:=hr.slot _ _ hl
     cases g with
     | true=>
      have:=getD_bool (b:=b) h1
      rw [this]
      cases b<;>cases want<;>rfl
     | false=>
      rcases getD_undef (s:=d) (t:=a.tmps) h1 with h2 | h2
      ·rw [h2]; cases want<;>rfl
      ·rw [h2]; cases want<;>rfl
    ·cases hg
   ·cases hx
theorem xop_parts {ops:Array Oper} {o:Oper} {xo:XOper} (hx:xop P ops o=some xo):xop1 P o.op=some (xo.op,xo.args)∧xo.dst=o.dst:=by
 unfold xop at hx
 split at hx
 ·cases hx
 ·rename_i op args h1
  split at hx
  ·cases hx; exact ⟨h1,rfl⟩
  ·split at hx
   ·cases hx; exact ⟨h1,rfl⟩
   ·cases hx
theorem rd_sound (hr:Rel base M N n0 r0 r S a w) {x:XO} {p:Prop} {y:S1} (h:rd S.env x=some (p,y)) (hp:p):x.val a=y.den r:=by
 cases x with
 | t i=>
  simp only [rd] at h
  split at h
  ·rename_i x' hl; cases h; exact hr.slot _ _ hl
  ·rename_i b x' hl; cases h
   have:=hr.slot _ _ hl
   simp only [SV.den] at this
   rw [if_pos hp] at this
   exact this
  ·cases h
 | k v=>
  simp only [rd,Option.some.injEq,Prod.mk.injEq] at h
  obtain ⟨_,rfl⟩:=h
  exact (constS_den r v).symm
theorem rd_sc (hr:Rel base M N n0 r0 r S a w) {x:XO} {p:Prop} {y:S1} (h:rd S.env x=some (p,y)):y.sc (upto S.next):=by
 cases x with
 | t i=>
  simp only [rd] at h
  split at h
  ·rename_i x' hl; cases h; exact hr.scE _ _ hl
  ·rename_i b x' hl; cases h; exact hr.scE _ _ hl
  ·cases h
 | k v=>
  simp only [rd,Option.some.injEq,Prod.mk.injEq] at h
  obtain ⟨_,rfl⟩:=h
  exact constS_sc _ v
theorem rds_sound (hr:Rel base M N n0 r0 r S a w):∀ {xs:List XO} {p:Prop} {ys:List S1},rds S.env xs=some (p,ys)→p→xs.map (XO.val a)=ys.map (S1.den r)
 | [],p,ys,h,_=>by simp only [rds,Option.some.injEq,Prod.mk.injEq] at h; obtain ⟨_,rfl⟩:=h; rfl
 | x :: xs,p,ys,h,hp=>by
  simp only [rds] at h
  split at h
  ·rename_i p1 y h1
   split at h
   ·rename_i q ys' h2
    cases h
    simp only [List.map_cons,List.cons.injEq]
    exact ⟨rd_sound hr h1 hp.1,rds_sound hr h2 hp.2⟩
   ·cases h
  ·cases h
theorem rds_sc (hr:Rel base M N n0 r0 r S a w):∀ {xs:List XO} {p:Prop} {ys:List S1},rds S.env xs=some (p,ys)→∀ y∈ys,S1.sc (upto S.next) y
 | [],p,ys,h=>by simp only [rds,Option.some.injEq,Prod.mk.injEq] at h; obtain ⟨_,rfl⟩:=h; intro y hy; cases hy
 | x :: xs,p,ys,h=>by
  simp only [rds] at h
  split at h
  ·rename_i p1 y h1
   split at h
   ·rename_i q ys' h2
    cases h
    intro z hz
    cases hz with
    | head=>exact rd_sc hr h1
    | tail _ hm=>exact rds_sc hr h2 z hm
   ·cases h
  ·cases h
theorem nth_mem {α:Type}:∀ {l:List α} {j:Nat} {x:α},nth l j=some x→x∈l
 | c :: cs,0,x,h=>by simp only [nth,Option.some.injEq] at h; subst h; exact List.mem_cons_self
 | c :: cs,j+1,x,h=>List.mem_cons_of_mem _ (nth_mem (l:=cs) (j:=j) h)
 | [],j,x,h=>by simp [nth] at h
theorem takeAt_mem {α:Type} {l:List α} {j m:Nat} {x:α} (h:x∈takeAt l j m):x∈l:=by
 rw [takeAt_eq] at h
 exact List.mem_of_mem_drop (List.mem_of_mem_take h)
theorem setAt_mem {α:Type}:∀ {l:List α} {o:Nat} {xs:List α} {x:α},x∈setAt l o xs→x∈l∨x∈xs
 | l,0,[],x,h=>by cases l<;>simp [setAt] at h ⊢<;>exact h
 | [],0,_ :: _,x,h=>by simp [setAt] at h
 | c :: cs,0,y :: ys,x,h=>by
  simp only [setAt,List.mem_cons] at h
  rcases h with h | h
  ·exact .inr (by simp [h])
  ·rcases setAt_mem h with h | h
   ·exact .inl (List.mem_cons_of_mem _ h)
   ·exact .inr (List.mem_cons_of_mem _ h)
 | [],_+1,_,x,h=>by simp [setAt] at h
 | c :: cs,o+1,xs,x,h=>by
  simp only [setAt,List.mem_cons] at h
  rcases h with h | h
  ·exact .inl (by simp [h])
  ·rcases setAt_mem h with h | h
   ·exact .inl (List.mem_cons_of_mem _ h)
   ·exact .inr h
theorem fillS_sc {m:Nat→Prop}:∀ {pl:List (Nat × Nat)} {xs:List S1} {cs cs':List SC},fillS cs pl xs=some cs'→(∀ x∈xs,S1.sc m x)→(∀ x∈cs,SC.sc m x)→∀ x∈cs',SC.sc m x
 | [],[],cs,cs',h,_,hc=>by simp only [fillS,Option.some.injEq] at h; subst h; exact hc
 | (o,n) :: pl,x :: xs,cs,cs',h,hx,hc=>by
  simp only [fillS] at h
  split at h
  ·refine fillS_sc h (fun y hy=>hx y (List.mem_cons_of_mem _ hy)) fun y hy=>?_
   rcases setAt_mem hy with hy | hy
   ·exact hc y hy
   ·have:=hx x List.mem_cons_self
    cases x with
    | c z=>simp only [S1.cells,List.mem_singleton] at hy; subst hy; exact this
    | a zs=>exact this y hy
  ·cases h
 | [],_ :: _,cs,cs',h,_,_=>by simp [fillS] at h
 | _ :: _,[],cs,cs',h,_,_=>by simp [fillS] at h
theorem ups_sc {m:Nat→Prop} {f:Nat→Nat→SC} (h:∀ e j,(f e j).sc m) (e:Nat):∀ (k j:Nat),∀ x∈ups f e j k,SC.sc m x
 | 0,_,x,hx=>by cases hx
 | k+1,j,x,hx=>by
  simp only [ups,List.mem_cons] at hx
  rcases hx with rfl | hx
  ·exact h e j
  ·exact ups_sc h e k (j+1) x hx
theorem boxOf_sc {E:Nat→Option Ent} {m:Nat→Prop} {i:Nat} {cs:List SC} (hE:∀ i e,E i=some e→m i∧e.sc m) (h:boxOf E i=some cs):∀ x∈cs,SC.sc m x:=by
 rcases boxOf_eq h with ⟨ty,he⟩ | ⟨n,f,ty,p,he,rfl⟩
 ·exact (hE i _ he).2
 ·exact rngS_sc (hE i _ he).2.1
theorem rowOf_sc {E:Nat→Option Ent} {m:Nat→Prop} {i n sz:Nat} {f:Nat→Nat→SC} (hE:∀ i e,E i=some e→m i∧e.sc m) (h:rowOf E i=some (n,sz,f)):∀ e j,(f e j).sc m:=by
 unfold rowOf at h
 split at h
 ·rename_i he; cases h; exact (hE i _ he).2
 ·rename_i he; cases h; exact (hE i _ he).2
 ·cases h; exact fun _ _=>trivial
 ·rename_i he; cases h; exact fun _ _=>alF_sc (hE i _ he).2
 ·cases h
theorem qX_sc {E:Nat→Option Ent} {m:Nat→Prop} {k:QX} {ys:List S1} {p:Prop} {z:S1} (hE:∀ i e,E i=some e→m i∧e.sc m) (hy:∀ y∈ys,S1.sc m y) (h:qX E k ys=some (p,z)):z.sc m:=by
 cases k<;>simp only [qX] at h
 case mkf g=>unfold qMkf at h; split at h<;>cases h; rename_i cs hcs; exact cpOf_sc hcs hy
 case slen=>unfold qSlen at h; split at h<;>cases h; trivial
 case sidx=>unfold qSidx at h; split at h<;>cases h; trivial
 case sbin op=>
  unfold qSbin at h
  split at h
  ·split at h<;>cases h; trivial
  ·cases h
 case sslc lo hi=>
  unfold qSslc at h
  repeat' split at h
  all_goals cases h
  all_goals trivial
 case eqP neg=>
  unfold qEqP at h
  split at h
  ·split at h<;>cases h; trivial
  ·cases h
 case str=>unfold qStr at h; split at h<;>first | (cases h; done) | skip; split at h<;>cases h; trivial
 case sdata=>
  unfold qSdata at h
  split at h
  ·rename_i i; split at h<;>cases h; exact (show m i from hy (.c (.n i)) List.mem_cons_self)
  ·cases h
 case toU=>
  unfold qToU at h
  split at h
  ·rename_i i j; split at h<;>cases h; exact (show m i from hy (.c (.p i j)) List.mem_cons_self)
  ·cases h
 case fromU u n=>
  unfold qFromU at h
  split at h
  ·rename_i i j; split at h<;>cases h; exact (show m i from hy (.c (.p i j)) List.mem_cons_self)
  ·cases h
theorem opQ_sc {E:Nat→Option Ent} {m:Nat→Prop} {op:XOp} {ys:List S1} {p:Prop} {z:S1} (hE:∀ i e,E i=some e→m i∧e.sc m) (hy:∀ y∈ys,S1.sc m y)
  (h:opQ E op ys=some (p,z)):z.sc m:=by
 cases op<;>simp only [opQ] at h
 case x k=>exact qX_sc hE hy h
 case mv=>unfold qMv at h; split at h<;>cases h; exact hy _ List.mem_cons_self
 case build z' pl=>
  unfold qBuild at h
  split at h
  ·rename_i cs hf
   cases h
   exact fillS_sc hf hy (fun x hx=>by simp only [List.mem_map] at hx; obtain ⟨v,_,rfl⟩:=hx; trivial)
  ·cases h
 case load1=>
  unfold qLoad1 at h
  split at h
  ·split at h
   ·rename_i cs hb
    split at h
    ·rename_i x hx; cases h; exact boxOf_sc hE hb _ (nth_mem hx)
    ·cases h
   ·cases h
  ·split at h
   ·rename_i hb; cases h; exact rowOf_sc hE hb _ _
   ·cases h
  ·cases h
 case loadN k=>
  unfold qLoadN at h
  split at h
  ·split at h
   ·rename_i cs hb
    cases h
    exact fun x hx=>boxOf_sc hE hb _ (takeAt_mem hx)
   ·cases h
  ·split at h
   ·rename_i hb; cases h; exact ups_sc (rowOf_sc hE hb) _ _ _
   ·cases h
  ·cases h
 case fld off=>
  unfold qFld at h
  split at h
  ·rename_i i j; cases h; exact (show m i from hy (.c (.p i j)) List.mem_cons_self)
  ·rename_i i sz e j; cases h; exact (show m i from hy (.c (.q i sz e j)) List.mem_cons_self)
  ·cases h
 case part1 off=>
  unfold qPart1 at h
  split at h
  ·split at h
   ·rename_i x hx; cases h; exact hy _ List.mem_cons_self _ (nth_mem hx)
   ·cases h
  ·cases h
 case partN off k=>
  unfold qPartN at h
  split at h
  ·cases h; exact fun x hx=>hy _ List.mem_cons_self _ (takeAt_mem hx)
  ·cases h
 case ix1 len sz=>
  unfold qIx1 at h
  split at h
  ·split at h
   ·rename_i x hx; cases h; exact hy _ List.mem_cons_self _ (nth_mem hx)
   ·cases h
  ·cases h
 case ixN len sz=>
  unfold qIxN at h
  split at h
  ·cases h; exact fun x hx=>hy _ List.mem_cons_self _ (takeAt_mem hx)
  ·cases h
 case ixA len sz=>
  unfold qIxA at h
  split at h
  ·rename_i i j _ _; cases h; exact (show m i from hy (.c (.p i j)) List.mem_cons_self)
  ·cases h
 case ixS sz=>
  unfold qIxS at h
  split at h
  ·rename_i i _ _
   split at h
   ·cases h; exact (show m i from hy (.c (.n i)) List.mem_cons_self)
   ·cases h
  ·cases h
 case bin op=>
  unfold qBin at h
  split at h
  ·split at h
   ·split at h
    ·cases h; trivial
    ·cases h
   ·cases h
  ·cases h
 case binb op=>
  unfold qBinb at h
  split at h
  ·split at h<;>cases h<;>trivial
  ·cases h
 case eqA neg ks=>
  unfold qEqA at h
  split at h
  ·split at h<;>cases h; trivial
  ·cases h
 case un op=>
  unfold qUn at h
  split at h
  ·split at h<;>cases h<;>trivial
  ·split at h<;>cases h; trivial
  ·cases h
 case conv k=>unfold qConv at h; split at h<;>cases h; trivial
 case minI=>unfold qMin at h; split at h<;>cases h<;>trivial
 case maxI=>unfold qMax at h; split at h<;>cases h<;>trivial
 case lenS=>
  unfold qLenS at h
  split at h
  ·split at h<;>cases h; trivial
  ·cases h
 case nilc=>
  unfold qNil at h
  split at h
  ·cases h; exact hy _ List.mem_cons_self
  ·cases h; exact hy _ List.mem_cons_self
  ·cases h; trivial
  ·cases h
 all_goals cases h
end
end Go.Sx
namespace Go.Sx
open Go.RowKit
section
variable {P:Program} {base:World} {M:Scp} {N n0:Nat} {r0 r:Rho} {S:St} {a:Act} {w:World}
theorem quietAt_of_yields {C:World→Prop} {o:Oper} {v:Value} (h:Yields P o a w v):o.quietAt P a C w v:=by
 unfold Oper.quietAt
 rw [show (execOp a.eval o).run P w = .ok (.value v) w from h]
 exact ⟨rfl,rfl⟩
theorem HeapRel.fewer {E E':Nat→Option Ent} (h:HeapRel base M r E w) (hs:∀ i e,E' i=some e→E i=some e):HeapRel base M r E' w where
 size:=h.size
 one:=h.one
 os:=h.os
 tape:=h.tape
 output:=h.output
 frame:=h.frame
 ent:=fun i e he=>h.ent i e (hs i e he)
 apart:=fun i j e e' hij he he'=>h.apart i j e e' hij (hs i e he) (hs j e' he')
 mine:=fun i e he=>h.mine i e (hs i e he)
 src:=fun i e he=>h.src i e (hs i e he)
theorem resE_sub {l:List Nat} {E:Nat→Option Ent}:∀ i e,resE l E i=some e→E i=some e:=by
 intro i e h
 unfold resE at h
 split at h
 ·exact h
 ·cases h
theorem upto_mono {m n:Nat} (h:m≤n):∀ i,upto m i→upto n i:=fun _ hi=>Nat.lt_of_lt_of_le hi h
structure Qt (P:Program) (base:World) (M:Scp) (r:Rho) (S:St) (a:Act) (o:Oper) (gd:Option Bool) (v:SV):Prop where
 sc:v.sc (upto S.next)
 yes:gdB gd=true→∀ w',HeapRel base M r (lk S.ents) w'→o.quietAt P a (HeapRel base M r (lk S.ents)) w' (v.den r)
 no:gdB gd=false→v.den r=undef
theorem fin_sound {o:Oper} {gd:Option Bool} {p q:Prop} {x:S1} {v:SV} (h:fin gd p x=some (q,v)) (hq:q) (hx:x.sc (upto S.next))
  (hy:p→∀ w',HeapRel base M r (lk S.ents) w'→o.quietAt P a (HeapRel base M r (lk S.ents)) w' (x.den r)):Qt P base M r S a o gd v:=by
 cases gd with
 | none=>
  simp only [fin,Option.some.injEq,Prod.mk.injEq] at h
  obtain ⟨rfl,rfl⟩:=h
  exact ⟨hx,fun _=>hy hq,fun h=>by cases h⟩
 | some c=>
  simp only [fin,Option.some.injEq,Prod.mk.injEq] at h
  obtain ⟨rfl,rfl⟩:=h
  refine ⟨hx,fun hc=>?_,fun hc=>?_⟩
  ·simp only [gdB] at hc
   subst hc
   exact hy (hq rfl)
  ·simp only [gdB] at hc
   subst hc
   rfl
theorem Qt.go {o:Oper} {gd:Option Bool} {v:SV} {K:St→Prop} {Next:Act→World→Prop} {Q:Exit→Act→World→Prop} (h:Qt P base M r S a o gd v) (hr:Rel base M N n0 r0 r S a w) (hd:∀ s,o.dst=some s→s < N)
  (hK:K (S.put o.dst v)) (hN:∀ r' S' a' w',K S'→Rel base M N n0 r0 r' S' a' w'→Next a' w'):if gdB gd=true then o.wp P a w Next Q else Next (a.put o.dst undef) w:=by
 split
 ·rename_i hg
  refine Oper.wp_of_quiet (C:=HeapRel base M r (lk S.ents)) (K:=fun a'=>a'=a.put o.dst (v.den r)) hr.heap ?_ ⟨v.den r,fun w' hw'=>h.yes hg w' hw',rfl⟩
  rintro a' w' hw' rfl
  exact hN _ _ _ _ hK ((hr.world hw').put (d:=o.dst) (v:=v) hd h.sc)
 ·rename_i hg
  have:=hr.put (d:=o.dst) (v:=v) hd h.sc
  rw [h.no (by simpa using hg)] at this
  exact hN _ _ _ _ hK this
theorem run_callf {o:Oper} {c:Call} {f:Nat} {args:List Value} (ho:o.op = .call c) (hc:c.callee = .value (.func f)) (hargs:(c.args.map a.eval).toList=args) :
  (execOp a.eval o).run P w=(callFunc f args.toArray).run P w:=by
 simp only [execOp,ho,resolve,hc,Act.eval,Deferred.ofValue,Sem.run_bind,Sem.run_pure,Result.andThen_ok,invoke]
 rw [← hargs,Array.toArray_toList,Array.append_empty,Array.empty_append]
theorem run_callv {o:Oper} {c:Call} {f i:Nat} {args:List Value} (ho:o.op = .call c) (hc:c.callee = .value (.tmp i)) (hv:a.tmps.getD i undef = .func (.func f) #[] #[])
  (hargs:(c.args.map a.eval).toList=args):(execOp a.eval o).run P w=(callFunc f args.toArray).run P w:=by
 have he:a.eval (.tmp i) = .func (.func f) #[] #[]:=hv
 simp only [execOp,ho,resolve,hc,he,Deferred.ofValue,Sem.run_bind,Sem.run_pure,Result.andThen_ok,invoke]
 rw [← hargs,Array.toArray_toList,Array.append_empty,Array.empty_append]
theorem run_callc {o:Oper} {c:Call} {f i:Nat} {args caps:List Value} (ho:o.op = .call c) (hc:c.callee = .value (.tmp i)) (hv:a.tmps.getD i undef = .func (.func f) #[] caps.toArray)
  (hargs:(c.args.map a.eval).toList=args):(execOp a.eval o).run P w=(callFunc f (args++caps).toArray).run P w:=by
 have he:a.eval (.tmp i) = .func (.func f) #[] caps.toArray:=hv
 simp only [execOp,ho,resolve,hc,he,Deferred.ofValue,Sem.run_bind,Sem.run_pure,Result.andThen_ok,invoke]
 have e:(Array.map a.eval c.args)++caps.toArray=(args++caps).toArray:=by
  apply Array.ext'
  rw [Array.toList_append,hargs,List.toList_toArray]
 rw [Array.empty_append,e]
theorem run_enter {f:Nat} {args:Array Value} (hb:bodied P f=true):(callFunc f args).run P w = .ok (.enter f args) w:=by
 unfold bodied at hb
 split at hb
 ·rename_i fn hf
  simp only [Bool.and_eq_true,Bool.not_eq_true',beq_eq_false_iff_ne] at hb
  obtain ⟨⟨h1,h2⟩,_⟩:=hb
  have hn:fn.body.isNone=false:=by cases hbo:fn.body<;>simp_all
  simp only [callFunc,Sem.run_bind,run_program,Result.andThen_ok,hf]
  rw [if_neg (by simpa using h2),if_neg (by simp [hn])]
  simp only [Sem.run_pure]
 ·cases hb
theorem bodied_v {f:Nat} (hb:bodied P f=true):isV f=false:=by
 unfold bodied at hb
 split at hb
 ·simp only [Bool.and_eq_true,Bool.not_eq_true'] at hb
  exact hb.2
 ·cases hb
theorem callX_f {f:Nat} {args:Array Value} (h:isV f=false):callX f args=callFunc f args:=by unfold callX; rw [h]
theorem run_enterX {f:Nat} {args:Array Value} (hb:bodied P f=true):(callX f args).run P w = .ok (.enter f args) w:=by
 rw [callX_f (bodied_v hb)]; exact run_enter hb
theorem CallsB.calls {f:Nat} {args:Array Value} {R:Ending→World→Prop} (hb:bodied P f=true) (h:CallsB P f args w R):Calls P f args w R:=by
 rcases h with ⟨_,h⟩ | ⟨v,nx,w',h1,h2,_⟩
 ·exact h
 ·rw [run_enterX hb] at h1
  cases h1
  rcases h2 with h2 | ⟨h2,_⟩<;>cases h2
theorem lk_append:∀ (l m:List (Nat × Ent)) (i:Nat),lk (l++m) i=upd l (lk m) i
 | [],m,i=>rfl
 | (j,x) :: l,m,i=>by
  have ih:=lk_append l m i
  unfold upd at ih ⊢
  simp only [List.cons_append,lk]
  by_cases h:j=i
  ·simp [h]
  ·simp only [if_neg h]; exact ih
theorem evCR_sound {o:Oper} {gd:Option Bool} {p q:Prop} {f:Nat} {l:List Nat} {ys:List S1} {cr:Option CR} {v:SV}
  (hrun:p→isV f=false∧∀ w',(execOp a.eval o).run P w'=(callFunc f (ys.map (S1.den r)).toArray).run P w')
  (hys:∀ y∈ys,S1.sc (upto S.next) y) (hE:∀ i e,resE l (lk S.ents) i=some e→upto S.next i∧e.sc (upto S.next))
  (hc:CROk P f ys (resE l (lk S.ents)) S.next cr) (h:evCR gd p cr=some (q,v)) (hq:q):Qt P base M r S a o gd v:=by
 cases cr with
 | none=>cases h
 | some cr=>
 cases cr with
 | q pre res=>
  obtain ⟨hscm,hc⟩:=hc
  have hsc:res.sc (upto S.next):=hscm _ hys hE
  cases res with
  | o x=>
   refine fin_sound h hq hsc (fun hp w' hw'=>?_)
   unfold Oper.quietAt
   rw [(hrun hp.1).2 w']
   rcases hc hp.2 base M r w' (hw'.fewer resE_sub) with ⟨hb,hcl⟩ | ⟨v,nx,w2,h1,_,h4,h2,h3⟩
   ·rw [run_enter hb]
    exact ⟨rfl,hcl.mono fun e w'' ⟨he,hb⟩=>⟨he,hw'.below hb⟩⟩
   ·obtain ⟨rfl,rfl⟩:=h4 (hrun hp.1).1
    rw [callX_f (hrun hp.1).1] at h1
    rw [h1]
    cases h2
    exact ⟨rfl,rfl⟩
  | t xs=>
   cases gd with
   | none=>
    simp only [evCR,Option.some.injEq,Prod.mk.injEq] at h
    obtain ⟨rfl,rfl⟩:=h
    obtain ⟨hp,hpre⟩:=hq
    refine ⟨hsc,fun _ w' hw'=>?_,fun h=>by cases h⟩
    unfold Oper.quietAt
    rw [(hrun hp).2 w']
    rcases hc hpre base M r w' (hw'.fewer resE_sub) with ⟨hb,hcl⟩ | ⟨v,nx,w2,h1,_,h4,h2,h3⟩
    ·rw [run_enter hb]
     exact ⟨rfl,hcl.mono fun e w'' ⟨he,hb⟩=>⟨he,hw'.below hb⟩⟩
    ·obtain ⟨rfl,rfl⟩:=h4 (hrun hp).1
     rw [callX_f (hrun hp).1] at h1
     rw [h1]
     cases h2
     exact ⟨rfl,rfl⟩
   | some c=>cases h
  | g b x=>cases h
 | e pre res ents next=>cases h
 | d pre post res ents next=>cases h
def mutB (E:Nat→Option Ent) (r:Rho) (b:Nat):Prop:=∃ i e,E i=some e∧e.mut=true∧wfoot e (r i) b
def allB (E:Nat→Option Ent) (r:Rho) (b:Nat):Prop:=∃ i e,E i=some e∧e.live=true∧foot e (r i) b
theorem HeapRel.start {E E':Nat→Option Ent} (h:HeapRel base M r E w) (hs:∀ i e,E' i=some e→E i=some e):HeapRel w ⟨mutB E' r,allB E' r⟩ r E' w where
 size:=Nat.le_refl _
 one:=h.one
 os:=rfl
 tape:=rfl
 output:=.refl _
 frame:=fun _ _ _=>rfl
 ent:=fun i e he=>h.ent i e (hs i e he)
 apart:=fun i j e e' hij he he'=>h.apart i j e e' hij (hs i e he) (hs j e' he')
 mine:=fun i e he hm b hb=>.inr ⟨i,e,he,hm,hb⟩
 src:=fun i e he hl b hb=>⟨(h.src i e (hs i e he) hl b hb).1,.inr ⟨i,e,he,hl,hb⟩⟩
theorem upd_some {l:List (Nat × Ent)} {E:Nat→Option Ent} {i:Nat} {e:Ent} (h:lk l i=some e):upd l E i=some e:=by unfold upd; rw [h]
theorem upd_none {l:List (Nat × Ent)} {E:Nat→Option Ent} {i:Nat} (h:lk l i=none):upd l E i=E i:=by unfold upd; rw [h]
theorem HeapRel.call {E E' F:Nat→Option Ent} {r1 r':Rho} {w':World} (h:HeapRel base M r E w) (hs:∀ i e,E' i=some e→E i=some e)
  (ho:HeapRel w ⟨mutB E' r,allB E' r⟩ r1 F w') (hF:∀ i e,F i=some e→r' i=r1 i∧e.sc (fun j=>r' j=r1 j)) (hE:∀ i e,E i=some e→F i=none→r' i=r i∧e.sc (fun j=>r' j=r j))
  (h1:∀ i,(r' i).oneCell'=true) (hcov:∀ i,F i=none→E' i=none) :
  HeapRel base M r' (fun i=>match F i with | some e=>some e | none=>E i) w':=by
 have hcase:∀ i e,(match F i with | some e=>some e | none=>E i)=some e→F i=some e∨(F i=none∧E i=some e∧E' i=none):=by
  intro i e he
  cases hf:F i with
  | some x=>rw [hf] at he; cases he; exact .inl rfl
  | none=>rw [hf] at he; exact .inr ⟨rfl,he,hcov i hf⟩
 have hold:∀ i e b,E i=some e→E' i=none→e.live=true→foot e (r i) b→b < w.heap.size∧w'.heap[b]?=w.heap[b]?:=by
  intro i e b he hn hl hb
  have hlt:=(h.src i e he hl b hb).1
  refine ⟨hlt,ho.frame b hlt ?_⟩
  rintro ⟨k,ek,hk,hm,hbk⟩
  exact h.apart k i ek e (by rintro rfl; rw [hn] at hk; cases hk) (hs k ek hk) he hm hl b hbk hb
 refine ⟨Nat.le_trans h.size ho.size,h1,ho.os.trans h.os,ho.tape.trans h.tape,ho.output.trans h.output,?_,?_,?_,?_,?_⟩
 ·intro b hb hM
  rw [ho.frame b (Nat.lt_of_lt_of_le hb h.size) ?_]
  ·exact h.frame b hb hM
  ·rintro ⟨k,ek,hk,hm,hbk⟩
   rcases h.mine k ek (hs k ek hk) hm b hbk with h2 | h2
   ·omega
   ·exact hM h2
 ·intro i e he
  rcases hcase i e he with hf | ⟨hf,he',hn⟩
  ·obtain ⟨g1,g2⟩:=hF i e hf
   rw [g1]
   exact Ent.rel_ext (m:=fun j=>r' j=r1 j) (fun _ hj=>hj) g2 (ho.ent i e hf)
  ·obtain ⟨g1,g2⟩:=hE i e he' hf
   rw [g1]
   exact Ent.rel_ext (m:=fun j=>r' j=r j) (fun _ hj=>hj) g2 (Ent.rel_block ho.size (fun b hl hb _=>(hold i e b he' hn hl hb).2) (h.ent i e he'))
 ·intro i j e e' hij he he' hm hl b hb hb'
  rcases hcase i e he with hf | ⟨hf,hei,hn⟩
  ·rw [(hF i e hf).1] at hb
   rcases hcase j e' he' with hf' | ⟨hf',hej,hn'⟩
   ·rw [(hF j e' hf').1] at hb'
    exact ho.apart i j e e' hij hf hf' hm hl b hb hb'
   ·rw [(hE j e' hej hf').1] at hb'
    have hlt:=(h.src j e' hej hl b hb').1
    rcases ho.mine i e hf hm b hb with h2 | ⟨k,ek,hk,hmk,hbk⟩
    ·omega
    ·exact h.apart k j ek e' (by rintro rfl; rw [hn'] at hk; cases hk) (hs k ek hk) hej hmk hl b hbk hb'
  ·rw [(hE i e hei hf).1] at hb
   have hlt:=(h.src i e hei (Ent.mut_live hm) b (wfoot_foot hb)).1
   rcases hcase j e' he' with hf' | ⟨hf',hej,hn'⟩
   ·rw [(hF j e' hf').1] at hb'
    rcases (ho.src j e' hf' hl b hb').2 with h2 | ⟨k,ek,hk,hlk,hbk⟩
    ·omega
    ·exact h.apart i k e ek (by rintro rfl; rw [hn] at hk; cases hk) hei (hs k ek hk) hm hlk b hb hbk
   ·rw [(hE j e' hej hf').1] at hb'
    exact h.apart i j e e' hij hei hej hm hl b hb hb'
 ·intro i e he hm b hb
  rcases hcase i e he with hf | ⟨hf,hei,hn⟩
  ·rw [(hF i e hf).1] at hb
   rcases ho.mine i e hf hm b hb with h2 | ⟨k,ek,hk,hmk,hbk⟩
   ·exact .inl (Nat.le_trans h.size h2)
   ·exact h.mine k ek (hs k ek hk) hmk b hbk
  ·rw [(hE i e hei hf).1] at hb
   exact h.mine i e hei hm b hb
 ·intro i e he hl b hb
  rcases hcase i e he with hf | ⟨hf,hei,hn⟩
  ·rw [(hF i e hf).1] at hb
   refine ⟨(ho.src i e hf hl b hb).1,?_⟩
   rcases (ho.src i e hf hl b hb).2 with h2 | ⟨k,ek,hk,hlk,hbk⟩
   ·exact .inl (Nat.le_trans h.size h2)
   ·exact (h.src k ek (hs k ek hk) hlk b hbk).2
  ·rw [(hE i e hei hf).1] at hb
   exact ⟨Nat.lt_of_lt_of_le (h.src i e hei hl b hb).1 ho.size,(h.src i e hei hl b hb).2⟩
def nw (c al:Nat) (i:Nat):Prop:=¬ (c≤i∧i < c+al)
variable (P base M r) in
def EffOk (E:Nat→Option Ent) (o:Oper) (a:Act) (w:World) (c:Nat) (v:SV) (us:List (Nat × Ent)) (al:Nat):Prop :=
 ∀ (Next:Act→World→Prop) (Q:Exit→Act→World→Prop),(∀ r' w',(∀ i,nw c al i→r' i=r i)→HeapRel base M r' (upd us E) w'→Next (a.put o.dst (v.den r')) w')→o.wp P a w Next Q
theorem call_eff {E:Nat→Option Ent} {o:Oper} {f:Nat} {l:List Nat} {ys:List S1} {cr:Option CR} {c al:Nat} {q:Prop} {v:SV} {us:List (Nat × Ent)} (h:HeapRel base M r E w)
  (hrun:(execOp a.eval o).run P w=(callX f (ys.map (S1.den r)).toArray).run P w)
  (hfresh:∀ i e,E i=some e→nw c al i∧e.sc (nw c al)) (hys:∀ y∈ys,S1.sc (upto c) y) (hlow:∀ i e,resE l E i=some e→i < c∧e.sc (upto c))
  (hc:CROk P f ys (resE l E) c cr) (he:eCall c cr=some (q,v,us,al)) (hq:q):EffOk P base M r E o a w c v us al:=by
 intro Next Q hN
 unfold eCall at he
 split at he
 ·rename_i pre res ents next
  cases he
  obtain ⟨h1,h23,h3',h4⟩:=hc hq
  obtain ⟨h2,h3⟩:=h23 (upto next) (fun y hy=>S1.sc_mono (upto_mono h1) (hys y hy)) (fun i e hi=>⟨Nat.lt_of_lt_of_le (hlow i e hi).1 h1,Ent.sc_mono (upto_mono h1) (hlow i e hi).2⟩) (fun i _ hi=>hi)
  have hsub:∀ i e,resE l E i=some e→E i=some e:=resE_sub
  have goOn:∀ (r1:Rho) (w':World),(∀ i,i < c→r1 i=r i)→HeapRel w ⟨mutB (resE l E) r,allB (resE l E) r⟩ r1 (upd us (resE l E)) w'→Next (a.put o.dst (v.den r1)) w':=by
   intro r1 w' hk hw'
   have hnx:c+(next - c)=next:=by omega
   have hr1:∀ j,j < next→(fun i=>if c≤i∧i < next then r1 i else r i) j=r1 j:=by
    intro j hj
    simp only
    split
    ·rfl
    ·rename_i hh; exact (hk j (by omega)).symm
   have hr0:∀ j,nw c (next - c) j→(fun i=>if c≤i∧i < next then r1 i else r i) j=r j:=by
    intro j hj
    unfold nw at hj
    rw [hnx] at hj
    simp only
    rw [if_neg hj]
   have hF:∀ i e,upd us (resE l E) i=some e→i < next∧e.sc (upto next):=by
    intro i e hi
    unfold upd at hi
    split at hi
    ·rename_i e' he'; cases hi; exact h3 i _ he'
    ·obtain ⟨g1,g2⟩:=hlow i e hi
     exact ⟨by omega,Ent.sc_mono (upto_mono h1) g2⟩
   have key:=HeapRel.call (r':=fun i=>if c≤i∧i < next then r1 i else r i) h hsub hw' (fun i e hi=>⟨hr1 i (hF i e hi).1,Ent.sc_mono (fun j hj=>hr1 j hj) (hF i e hi).2⟩)
    (fun i e hi _=>⟨hr0 i (hfresh i e hi).1,Ent.sc_mono (fun j hj=>hr0 j hj) (hfresh i e hi).2⟩) (fun i=>by split<;>first | exact hw'.one i | exact h.one i)
    (fun i hi=>by unfold upd at hi; split at hi; cases hi; exact hi)
   have hu:(fun i=>match upd us (resE l E) i with | some e=>some e | none=>E i)=upd us E:=by
    funext i
    unfold upd
    cases hl:lk us i with
    | some e=>rfl
    | none=>
     simp only
     cases hre:resE l E i with
     | some e=>exact (hsub i e hre).symm
     | none=>rfl
   rw [hu] at key
   have:=hN _ w' hr0 key
   rw [SV.den_ext (r:=r1) (m:=upto next) (fun j hj=>hr1 j hj) h2] at this
   exact this
  unfold Oper.wp
  rw [hrun]
  rcases h4 w ⟨mutB (resE l E) r,allB (resE l E) r⟩ r w (h.start hsub) with ⟨hb,hcl⟩ | ⟨v',nx,w',g1,gn,_,r1,hk,g2,hw'⟩
  ·rw [run_enterX hb]
   simp only [Oper.upon]
   refine hcl.mono ?_
   rintro e w' ⟨r1,hk,rfl,hw'⟩
   exact goOn r1 w' hk hw'
  ·rw [g1]
   cases g2
   have:=goOn r1 w' hk hw'
   rcases gn with rfl | ⟨rfl,ge⟩
   ·simp only [Oper.upon]; exact this
   ·rw [ge] at this; simp only [Oper.upon]; exact this
 ·cases he
theorem call_effD {E:Nat→Option Ent} {o:Oper} {f:Nat} {l:List Nat} {ys:List S1} {pre:Prop} {post:(Nat→Nat→Value)→Prop} {res:(Nat→Nat→Value)→SV} {ents:(Nat→Nat→Value)→List (Nat × Ent)} {c next:Nat} (h:HeapRel base M r E w)
  (hrun:(execOp a.eval o).run P w=(callX f (ys.map (S1.den r)).toArray).run P w)
  (hfresh:∀ i e,E i=some e→nw c (next - c) i∧e.sc (nw c (next - c))) (hys:∀ y∈ys,S1.sc (upto c) y) (hlow:∀ i e,resE l E i=some e→i < c∧e.sc (upto c))
  (hc:CROk P f ys (resE l E) c (some (.d pre post res ents next))) (hq:pre) (Next:Act→World→Prop) (Q:Exit→Act→World→Prop)
  (hN:∀ G r' w',post G→(∀ i,nw c (next - c) i→r' i=r i)→HeapRel base M r' (upd (ents G) E) w'→Next (a.put o.dst ((res G).den r')) w'):o.wp P a w Next Q:=by
 ·obtain ⟨h1,h23,h3',h4⟩:=hc hq
  have h23':=fun G=>h23 G (upto next) (fun y hy=>S1.sc_mono (upto_mono h1) (hys y hy)) (fun i e hi=>⟨Nat.lt_of_lt_of_le (hlow i e hi).1 h1,Ent.sc_mono (upto_mono h1) (hlow i e hi).2⟩) (fun i _ hi=>hi)
  have hsub:∀ i e,resE l E i=some e→E i=some e:=resE_sub
  have goOn:∀ (G:Nat→Nat→Value) (r1:Rho) (w':World),post G→(∀ i,i < c→r1 i=r i)→HeapRel w ⟨mutB (resE l E) r,allB (resE l E) r⟩ r1 (upd (ents G) (resE l E)) w'→Next (a.put o.dst ((res G).den r1)) w':=by
   intro G r1 w' hpo hk hw'
   obtain ⟨h2,h3⟩:=h23' G
   have hnx:c+(next - c)=next:=by omega
   have hr1:∀ j,j < next→(fun i=>if c≤i∧i < next then r1 i else r i) j=r1 j:=by
    intro j hj
    simp only
    split
    ·rfl
    ·rename_i hh; exact (hk j (by omega)).symm
   have hr0:∀ j,nw c (next - c) j→(fun i=>if c≤i∧i < next then r1 i else r i) j=r j:=by
    intro j hj
    unfold nw at hj
    rw [hnx] at hj
    simp only
    rw [if_neg hj]
   have hF:∀ i e,upd (ents G) (resE l E) i=some e→i < next∧e.sc (upto next):=by
    intro i e hi
    unfold upd at hi
    split at hi
    ·rename_i e' he'; cases hi; exact h3 i _ he'
    ·obtain ⟨g1,g2⟩:=hlow i e hi
     exact ⟨by omega,Ent.sc_mono (upto_mono h1) g2⟩
   have key:=HeapRel.call (r':=fun i=>if c≤i∧i < next then r1 i else r i) h hsub hw' (fun i e hi=>⟨hr1 i (hF i e hi).1,Ent.sc_mono (fun j hj=>hr1 j hj) (hF i e hi).2⟩)
    (fun i e hi _=>⟨hr0 i (hfresh i e hi).1,Ent.sc_mono (fun j hj=>hr0 j hj) (hfresh i e hi).2⟩) (fun i=>by split<;>first | exact hw'.one i | exact h.one i)
    (fun i hi=>by unfold upd at hi; split at hi; cases hi; exact hi)
   have hu:(fun i=>match upd (ents G) (resE l E) i with | some e=>some e | none=>E i)=upd (ents G) E:=by
    funext i
    unfold upd
    cases hl:lk (ents G) i with
    | some e=>rfl
    | none=>
     simp only
     cases hre:resE l E i with
     | some e=>exact (hsub i e hre).symm
     | none=>rfl
   rw [hu] at key
   have:=hN G _ w' hpo hr0 key
   rw [SV.den_ext (r:=r1) (m:=upto next) (fun j hj=>hr1 j hj) h2] at this
   exact this
  unfold Oper.wp
  rw [hrun]
  rcases h4 w ⟨mutB (resE l E) r,allB (resE l E) r⟩ r w (h.start hsub) with ⟨hb,hcl⟩ | ⟨v',nx,w',g1,gn,_,G,r1,hpo,hk,g2,hw'⟩
  ·rw [run_enterX hb]
   simp only [Oper.upon]
   refine hcl.mono ?_
   rintro e w' ⟨G,r1,hpo,hk,rfl,hw'⟩
   exact goOn G r1 w' hpo hk hw'
  ·rw [g1]
   cases g2
   have:=goOn G r1 w' hpo hk hw'
   rcases gn with rfl | ⟨rfl,ge⟩
   ·simp only [Oper.upon]; exact this
   ·rw [ge] at this; simp only [Oper.upon]; exact this
end
end Go.Sx
namespace Go.Sx
open Go.RowKit
section
variable {P:Program} {base:World} {M:Scp} {N n0:Nat} {r0 r:Rho} {S:St} {a:Act} {w:World}
def more (r:Rho) (m:Nat) (v:Value):Rho:=fun i=>if i=m then v else r i
theorem more_ne {r:Rho} {m:Nat} {v:Value}:∀ i,i≠m→more r m v i=r i:=fun i hi=>by unfold more; rw [if_neg hi]
theorem more_new {r:Rho} {m:Nat} {v:Value}:more r m v m=v:=by unfold more; rw [if_pos rfl]
theorem more_one {r:Rho} {m:Nat} {v:Value} (h:∀ i,(r i).oneCell'=true) (hv:v.oneCell'=true):∀ i,(more r m v i).oneCell'=true:=by
 intro i; unfold more; split
 ·exact hv
 ·exact h i
theorem okcs_all:∀ {cs:List SC},okcs cs=true→∀ x∈cs,x.ok=true
 | [],_,x,h=>by cases h
 | c :: cs,h,x,hx=>by
  simp only [okcs,Bool.and_eq_true] at h
  cases hx with
  | head=>exact h.1
  | tail _ hm=>exact okcs_all h.2 x hm
theorem SC.ok_den (hr:∀ i,(r i).oneCell'=true) {x:SC} (h:x.ok=true):(x.den r).oneCell'=true:=by
 cases x with
 | v x=>exact h
 | n i=>exact hr i
 | p i j=>rfl
 | q i sz e j=>rfl
 | f g cs=>rfl
theorem S1.cells_ok (hr:∀ i,(r i).oneCell'=true) {x:S1} (h:okcs x.cells=true):(x.den r).cells.toList=x.cells.map (SC.den r):=by
 refine S1.cells_den r x (fun v hv=>?_) hr
 subst hv
 simp only [S1.cells,okcs,Bool.and_true] at h
 exact h
theorem upd_one (c:Nat) (e:Ent) (E:Nat→Option Ent) (i:Nat):upd [(c,e)] E i=if c=i then some e else E i:=by
 unfold upd lk
 by_cases h:c=i
 ·rw [if_pos h,if_pos h]
 ·rw [if_neg h,if_neg h]; rfl
theorem upd_two (c d:Nat) (e e':Ent) (E:Nat→Option Ent) (i:Nat):upd [(c,e),(d,e')] E i=if c=i then some e else if d=i then some e' else E i:=by
 unfold upd
 simp only [lk]
 by_cases h:c=i
 ·rw [if_pos h,if_pos h]
 ·rw [if_neg h,if_neg h]
  by_cases h2:d=i
  ·rw [if_pos h2,if_pos h2]
  ·rw [if_neg h2,if_neg h2]
theorem HeapRel.congrE {E E':Nat→Option Ent} (h:HeapRel base M r E w) (he:∀ i,E' i=E i):HeapRel base M r E' w:=by
 have:E'=E:=funext he
 rw [this]; exact h
theorem HeapRel.mk1 {E:Nat→Option Ent} {c:Nat} {V:Value} {e:Ent} {o:Obj} (h:HeapRel base M r E w) (hs:∀ i x,E i=some x→i≠c∧x.sc (fun i=>i≠c)) (h1:V.oneCell'=true)
  (hb:∀ b,blkOf V=some b→b=w.heap.size) (he:e.rel (more r c V) (w.alloc o) V) (hin:∀ b,¬ e.inB b:=by intro _ h; exact h):HeapRel base M (more r c V) (upd [(c,e)] E) (w.alloc o):=by
 have hbl:BelowD w.heap.size w (w.alloc o):=.alloc _ _
 have hx:=(h.below hbl).ext (r':=more r c V) hs more_ne (more_one h.one h1)
 have hsz:(w.alloc o).heap.size=w.heap.size+1:=by show (w.heap.push o).size=_; simp
 refine ⟨hx.size,hx.one,hx.os,hx.tape,hx.output,hx.frame,?_,?_,?_,?_⟩
 ·intro i x hi
  rw [upd_one] at hi
  by_cases hc:c=i
  ·subst hc; rw [if_pos rfl] at hi; cases hi; rw [more_new]; exact he
  ·rw [if_neg hc] at hi; exact hx.ent i x hi
 ·intro i j x x' hij hi hj hm hl b hb1 hb2
  rw [upd_one] at hi hj
  by_cases hc:c=i
  ·subst hc
   rw [more_new] at hb1
   rw [if_neg hij] at hj
   rw [more_ne _ (hs j x' hj).1] at hb2
   have:=(h.src j x' hj hl b hb2).1
   rw [if_pos rfl] at hi; cases hi
   have:=hb b (wfoot_blk hin hb1)
   omega
  ·rw [if_neg hc] at hi
   by_cases hc2:c=j
   ·subst hc2
    rw [more_new] at hb2
    rw [more_ne _ (hs i x hi).1] at hb1
    rw [if_pos rfl] at hj; cases hj
    have:=(h.src i x hi (Ent.mut_live hm) b (wfoot_foot hb1)).1
    have:=hb b (hb2.resolve_right (hin b))
    omega
   ·rw [if_neg hc2] at hj
    exact hx.apart i j x x' hij hi hj hm hl b hb1 hb2
 ·intro i x hi hm b hb1
  rw [upd_one] at hi
  by_cases hc:c=i
  ·subst hc; rw [if_pos rfl] at hi; cases hi; rw [more_new] at hb1; exact .inl (by have:=hb b (wfoot_blk hin hb1); have:=h.size; omega)
  ·rw [if_neg hc] at hi; exact hx.mine i x hi hm b hb1
 ·intro i x hi hl b hb1
  rw [upd_one] at hi
  by_cases hc:c=i
  ·subst hc; rw [if_pos rfl] at hi; cases hi; rw [more_new] at hb1; have:=hb b (hb1.resolve_right (hin b)); have:=h.size; exact ⟨by omega,.inl (by omega)⟩
  ·rw [if_neg hc] at hi; exact hx.src i x hi hl b hb1
structure Turn (w w':World) (b:Option Nat):Prop where
 size:w'.heap.size=w.heap.size
 os:w'.os=w.os
 tape:w'.tape=w.tape
 output:SameOut w w'
 other:∀ k,b≠some k→w'.heap[k]?=w.heap[k]?
theorem Turn.same (w:World) (b:Option Nat):Turn w w b:=⟨rfl,rfl,rfl,.refl _,fun _ _=>rfl⟩
theorem Turn.row (w:World) (b:Nat) (cs:Array Value):Turn w (w.setRow b cs) (some b) :=
 ⟨setRow_size _ _ _,rfl,rfl,⟨rfl,Nat.le_refl _⟩,fun k hk=>setRow_other _ _ _ _ (by rintro rfl; exact hk rfl)⟩
theorem HeapRel.turn {E:Nat→Option Ent} {i:Nat} {e0 e':Ent} {w':World} (h:HeapRel base M r E w) (hi:E i=some e0) (hm0:e0.mut=true) (ht:Turn w w' (blkOf (r i))) (he:e'.rel r w' (r i)) (hin:∀ b,¬ e'.inB b:=by intro _ h; exact h) :
  HeapRel base M r (upd [(i,e')] E) w':=by
 have hnot:∀ k e,k≠i→E k=some e→e.live=true→∀ b,foot e (r k) b→w'.heap[b]?=w.heap[b]?:=by
  intro k e hk hek hl b hb
  refine ht.other b fun hcon=>?_
  exact h.apart i k e0 e (Ne.symm hk) hi hek hm0 hl b (.inl hcon) hb
 refine ⟨by rw [ht.size]; exact h.size,h.one,ht.os.trans h.os,ht.tape.trans h.tape,ht.output.trans h.output,?_,?_,?_,?_,?_⟩
 ·intro b hb hM
  rw [ht.other b ?_]
  ·exact h.frame b hb hM
  ·intro hcon
   rcases h.mine i e0 hi hm0 b (.inl hcon) with h2 | h2
   ·omega
   ·exact hM h2
 ·intro k e hk
  rw [upd_one] at hk
  by_cases hc:i=k
  ·subst hc; rw [if_pos rfl] at hk; cases hk; exact he
  ·rw [if_neg hc] at hk
   exact Ent.rel_block (by rw [ht.size]; exact Nat.le_refl _) (fun b hl hb _=>hnot k e (Ne.symm hc) hk hl b hb) (h.ent k e hk)
 ·intro k j e e2 hkj hk hj hm hl b hb1 hb2
  rw [upd_one] at hk hj
  by_cases hc:i=k
  ·subst hc
   rw [if_neg hkj] at hj
   rw [if_pos rfl] at hk; cases hk
   exact h.apart i j e0 e2 hkj hi hj hm0 hl b (.inl (wfoot_blk hin hb1)) hb2
  ·rw [if_neg hc] at hk
   by_cases hc2:i=j
   ·subst hc2; rw [if_pos rfl] at hj; cases hj; exact h.apart k i e e0 hkj hk hi hm (Ent.mut_live hm0) b hb1 (.inl (hb2.resolve_right (hin b)))
   ·rw [if_neg hc2] at hj; exact h.apart k j e e2 hkj hk hj hm hl b hb1 hb2
 ·intro k e hk hm b hb
  rw [upd_one] at hk
  by_cases hc:i=k
  ·subst hc; rw [if_pos rfl] at hk; cases hk; exact h.mine i e0 hi hm0 b (.inl (wfoot_blk hin hb))
  ·rw [if_neg hc] at hk; exact h.mine k e hk hm b hb
 ·intro k e hk hl b hb
  rw [ht.size]
  rw [upd_one] at hk
  by_cases hc:i=k
  ·subst hc; rw [if_pos rfl] at hk; cases hk; exact h.src i e0 hi (Ent.mut_live hm0) b (.inl (hb.resolve_right (hin b)))
  ·rw [if_neg hc] at hk; exact h.src k e hk hl b hb
theorem HeapRel.turnB {E:Nat→Option Ent} {i:Nat} {e0 e':Ent} {w':World} (h:HeapRel base M r E w) (hi:E i=some e0) (hm0:e0.mut=true) (ht:Turn w w' (blkOf (r i))) (he:e'.rel r w' (r i)) (hin:∀ b,e'.inB b→e0.inB b) (hwn:∀ b,e'.wB b→e0.wB b) :
  HeapRel base M r (upd [(i,e')] E) w':=by
 have hnot:∀ k e,k≠i→E k=some e→e.live=true→∀ b,foot e (r k) b→w'.heap[b]?=w.heap[b]?:=by
  intro k e hk hek hl b hb
  refine ht.other b fun hcon=>?_
  exact h.apart i k e0 e (Ne.symm hk) hi hek hm0 hl b (.inl hcon) hb
 refine ⟨by rw [ht.size]; exact h.size,h.one,ht.os.trans h.os,ht.tape.trans h.tape,ht.output.trans h.output,?_,?_,?_,?_,?_⟩
 ·intro b hb hM
  rw [ht.other b ?_]
  ·exact h.frame b hb hM
  ·intro hcon
   rcases h.mine i e0 hi hm0 b (.inl hcon) with h2 | h2
   ·omega
   ·exact hM h2
 ·intro k e hk
  rw [upd_one] at hk
  by_cases hc:i=k
  ·subst hc; rw [if_pos rfl] at hk; cases hk; exact he
  ·rw [if_neg hc] at hk
   exact Ent.rel_block (by rw [ht.size]; exact Nat.le_refl _) (fun b hl hb _=>hnot k e (Ne.symm hc) hk hl b hb) (h.ent k e hk)
 ·intro k j e e2 hkj hk hj hm hl b hb1 hb2
  rw [upd_one] at hk hj
  by_cases hc:i=k
  ·subst hc
   rw [if_neg hkj] at hj
   rw [if_pos rfl] at hk; cases hk
   exact h.apart i j e0 e2 hkj hi hj hm0 hl b (hb1.imp id (hwn b)) hb2
  ·rw [if_neg hc] at hk
   by_cases hc2:i=j
   ·subst hc2; rw [if_pos rfl] at hj; cases hj; exact h.apart k i e e0 hkj hk hi hm (Ent.mut_live hm0) b hb1 (hb2.imp id (hin b))
   ·rw [if_neg hc2] at hj; exact h.apart k j e e2 hkj hk hj hm hl b hb1 hb2
 ·intro k e hk hm b hb
  rw [upd_one] at hk
  by_cases hc:i=k
  ·subst hc; rw [if_pos rfl] at hk; cases hk; exact h.mine i e0 hi hm0 b (hb.imp id (hwn b))
  ·rw [if_neg hc] at hk; exact h.mine k e hk hm b hb
 ·intro k e hk hl b hb
  rw [ht.size]
  rw [upd_one] at hk
  by_cases hc:i=k
  ·subst hc; rw [if_pos rfl] at hk; cases hk; exact h.src i e0 hi (Ent.mut_live hm0) b (hb.imp id (hin b))
  ·rw [if_neg hc] at hk; exact h.src k e hk hl b hb
theorem HeapRel.kill {E:Nat→Option Ent} (h:HeapRel base M r E w) (i:Nat):HeapRel base M r (upd [(i,.dead)] E) w:=by
 have conv:∀ k e,upd [(i,.dead)] E k=some e→e.live=true→E k=some e:=by
  intro k e hk hl
  rw [upd_one] at hk
  by_cases hc:i=k
  ·rw [if_pos hc] at hk; cases hk; cases hl
  ·rw [if_neg hc] at hk; exact hk
 refine ⟨h.size,h.one,h.os,h.tape,h.output,h.frame,?_,?_,?_,?_⟩
 ·intro k e hk
  rw [upd_one] at hk
  by_cases hc:i=k
  ·rw [if_pos hc] at hk; cases hk; exact trivial
  ·rw [if_neg hc] at hk; exact h.ent k e hk
 ·exact fun k j e e' hkj hk hj hm hl=>h.apart k j e e' hkj (conv k e hk (Ent.mut_live hm)) (conv j e' hj hl) hm hl
 ·exact fun k e hk hm=>h.mine k e (conv k e hk (Ent.mut_live hm)) hm
 ·exact fun k e hk hl=>h.src k e (conv k e hk hl) hl
theorem HeapRel.view {E:Nat→Option Ent} {c:Nat} {V:Value} {e:Ent} (h:HeapRel base M r E w) (hs:∀ i x,E i=some x→i≠c∧x.sc (fun i=>i≠c)) (h1:V.oneCell'=true) (hm:∀ b,blkOf V=some b→e.mut=false)
  (hb:∀ b,blkOf V=some b→∃ i e0,E i=some e0∧e0.live=true∧e0.mut=false∧blkOf (r i)=some b) (he:e.rel (more r c V) w V) (hin:∀ b,¬ e.inB b:=by intro _ h; exact h):HeapRel base M (more r c V) (upd [(c,e)] E) w:=by
 have hx:=h.ext (r':=more r c V) hs more_ne (more_one h.one h1)
 refine ⟨hx.size,hx.one,hx.os,hx.tape,hx.output,hx.frame,?_,?_,?_,?_⟩
 ·intro i x hi
  rw [upd_one] at hi
  by_cases hc:c=i
  ·subst hc; rw [if_pos rfl] at hi; cases hi; rw [more_new]; exact he
  ·rw [if_neg hc] at hi; exact hx.ent i x hi
 ·intro i j x x' hij hi hj hmi hl b hb1 hb2
  rw [upd_one] at hi hj
  by_cases hc:c=i
  ·subst hc; rw [if_pos rfl] at hi; cases hi; rw [more_new] at hb1; rw [hm b (wfoot_blk hin hb1)] at hmi; cases hmi
  ·rw [if_neg hc] at hi
   by_cases hc2:c=j
   ·subst hc2
    rw [more_new] at hb2
    rw [more_ne _ (hs i x hi).1] at hb1
    rw [if_pos rfl] at hj; cases hj
    obtain ⟨k,e0,hk,hl0,hm0,hbk⟩:=hb b (hb2.resolve_right (hin b))
    exact h.apart i k x e0 (by rintro rfl; rw [hk] at hi; cases hi; rw [hm0] at hmi; cases hmi) hi hk hmi hl0 b hb1 (.inl hbk)
   ·rw [if_neg hc2] at hj
    exact hx.apart i j x x' hij hi hj hmi hl b hb1 hb2
 ·intro i x hi hmi b hb1
  rw [upd_one] at hi
  by_cases hc:c=i
  ·subst hc; rw [if_pos rfl] at hi; cases hi; rw [more_new] at hb1; rw [hm b (wfoot_blk hin hb1)] at hmi; cases hmi
  ·rw [if_neg hc] at hi; exact hx.mine i x hi hmi b hb1
 ·intro i x hi hl b hb1
  rw [upd_one] at hi
  by_cases hc:c=i
  ·subst hc; rw [if_pos rfl] at hi; cases hi; rw [more_new] at hb1
   obtain ⟨k,e0,hk,hl0,hm0,hbk⟩:=hb b (hb1.resolve_right (hin b))
   exact h.src k e0 hk hl0 b (.inl hbk)
  ·rw [if_neg hc] at hi; exact hx.src i x hi hl b hb1
theorem HeapRel.viewD {E:Nat→Option Ent} {c:Nat} {V:Value} {e:Ent} (h:HeapRel base M r E w) (hs:∀ i x,E i=some x→i≠c∧x.sc (fun i=>i≠c)) (h1:V.oneCell'=true) (hm:∀ b,wfoot e V b→e.mut=false)
  (hb:∀ b,foot e V b→∃ i e0,E i=some e0∧e0.live=true∧e0.mut=false∧foot e0 (r i) b) (he:e.rel (more r c V) w V):HeapRel base M (more r c V) (upd [(c,e)] E) w:=by
 have hx:=h.ext (r':=more r c V) hs more_ne (more_one h.one h1)
 refine ⟨hx.size,hx.one,hx.os,hx.tape,hx.output,hx.frame,?_,?_,?_,?_⟩
 ·intro i x hi
  rw [upd_one] at hi
  by_cases hc:c=i
  ·subst hc; rw [if_pos rfl] at hi; cases hi; rw [more_new]; exact he
  ·rw [if_neg hc] at hi; exact hx.ent i x hi
 ·intro i j x x' hij hi hj hmi hl b hb1 hb2
  rw [upd_one] at hi hj
  by_cases hc:c=i
  ·subst hc; rw [if_pos rfl] at hi; cases hi; rw [more_new] at hb1; rw [hm b hb1] at hmi; cases hmi
  ·rw [if_neg hc] at hi
   by_cases hc2:c=j
   ·subst hc2
    rw [more_new] at hb2
    rw [more_ne _ (hs i x hi).1] at hb1
    rw [if_pos rfl] at hj; cases hj
    obtain ⟨k,e0,hk,hl0,hm0,hbk⟩:=hb b hb2
    exact h.apart i k x e0 (by rintro rfl; rw [hk] at hi; cases hi; rw [hm0] at hmi; cases hmi) hi hk hmi hl0 b hb1 hbk
   ·rw [if_neg hc2] at hj
    exact hx.apart i j x x' hij hi hj hmi hl b hb1 hb2
 ·intro i x hi hmi b hb1
  rw [upd_one] at hi
  by_cases hc:c=i
  ·subst hc; rw [if_pos rfl] at hi; cases hi; rw [more_new] at hb1; rw [hm b hb1] at hmi; cases hmi
  ·rw [if_neg hc] at hi; exact hx.mine i x hi hmi b hb1
 ·intro i x hi hl b hb1
  rw [upd_one] at hi
  by_cases hc:c=i
  ·subst hc; rw [if_pos rfl] at hi; cases hi; rw [more_new] at hb1
   obtain ⟨k,e0,hk,hl0,hm0,hbk⟩:=hb b hb1
   exact h.src k e0 hk hl0 b hbk
  ·rw [if_neg hc] at hi; exact hx.src i x hi hl b hb1
theorem HeapRel.pass {E:Nat→Option Ent} {i c:Nat} {V:Value} {e0 e:Ent} {w':World} (h:HeapRel base M r E w) (hs:∀ i x,E i=some x→i≠c∧x.sc (fun i=>i≠c)) (h1:V.oneCell'=true)
  (hi:E i=some e0) (hm0:e0.mut=true) (ht:Turn w w' (blkOf (r i))) (hb:∀ b,blkOf V=some b→blkOf (r i)=some b) (he:e.rel (more r c V) w' V) (hin:∀ b,¬ e.inB b:=by intro _ h; exact h) :
  HeapRel base M (more r c V) (upd [(c,e),(i,.dead)] E) w':=by
 have hci:c≠i:=fun hh=>(hs i e0 hi).1 hh.symm
 have ht':=h.turn (e':=.dead) hi hm0 ht trivial
 have hs':∀ k x,upd [(i,Ent.dead)] E k=some x→k≠c∧x.sc (fun i=>i≠c):=by
  intro k x hk
  rw [upd_one] at hk
  by_cases hc:i=k
  ·subst hc; rw [if_pos rfl] at hk; cases hk; exact ⟨Ne.symm hci,trivial⟩
  ·rw [if_neg hc] at hk; exact hs k x hk
 have hx:=ht'.ext (r':=more r c V) hs' more_ne (more_one h.one h1)
 have hE:∀ k,upd [(c,e),(i,.dead)] E k=if c=k then some e else upd [(i,.dead)] E k:=by
  intro k; rw [upd_two,upd_one]
 have hdead:∀ k x,upd [(i,Ent.dead)] E k=some x→x.live=true→k≠i∧E k=some x:=by
  intro k x hk hl
  rw [upd_one] at hk
  by_cases hc:i=k
  ·subst hc; rw [if_pos rfl] at hk; cases hk; cases hl
  ·rw [if_neg hc] at hk; exact ⟨Ne.symm hc,hk⟩
 refine ⟨hx.size,hx.one,hx.os,hx.tape,hx.output,hx.frame,?_,?_,?_,?_⟩
 ·intro k x hk
  rw [hE] at hk
  by_cases hc:c=k
  ·subst hc; rw [if_pos rfl] at hk; cases hk; rw [more_new]; exact he
  ·rw [if_neg hc] at hk; exact hx.ent k x hk
 ·intro k j x x' hkj hk hj hmk hl b hb1 hb2
  rw [hE] at hk hj
  by_cases hc:c=k
  ·subst hc
   rw [more_new] at hb1
   rw [if_neg hkj] at hj
   obtain ⟨hji,hj'⟩:=hdead j x' hj hl
   rw [more_ne _ (hs j x' hj').1] at hb2
   rw [if_pos rfl] at hk; cases hk
   exact h.apart i j e0 x' (Ne.symm hji) hi hj' hm0 hl b (.inl (hb b (wfoot_blk hin hb1))) hb2
  ·rw [if_neg hc] at hk
   obtain ⟨hki,hk'⟩:=hdead k x hk (Ent.mut_live hmk)
   by_cases hc2:c=j
   ·subst hc2
    rw [more_new] at hb2
    rw [more_ne _ (hs k x hk').1] at hb1
    rw [if_pos rfl] at hj; cases hj
    exact h.apart k i x e0 hki hk' hi hmk (Ent.mut_live hm0) b hb1 (.inl (hb b (hb2.resolve_right (hin b))))
   ·rw [if_neg hc2] at hj
    exact hx.apart k j x x' hkj hk hj hmk hl b hb1 hb2
 ·intro k x hk hmk b hb1
  rw [hE] at hk
  by_cases hc:c=k
  ·subst hc; rw [if_pos rfl] at hk; cases hk; rw [more_new] at hb1; exact h.mine i e0 hi hm0 b (.inl (hb b (wfoot_blk hin hb1)))
  ·rw [if_neg hc] at hk; exact hx.mine k x hk hmk b hb1
 ·intro k x hk hl b hb1
  rw [hE] at hk
  by_cases hc:c=k
  ·subst hc; rw [more_new] at hb1
   rw [if_pos rfl] at hk; cases hk
   have:=h.src i e0 hi (Ent.mut_live hm0) b (.inl (hb b (hb1.resolve_right (hin b))))
   rw [ht.size]; exact this
  ·rw [if_neg hc] at hk; exact hx.src k x hk hl b hb1
theorem HeapRel.drawn1 {E:Nat→Option Ent} (h:HeapRel base M r E w):HeapRel base M r E w.drew :=
 h.below ⟨rfl,rfl,⟨rfl,Nat.le_succ _⟩,Nat.le_refl _,fun _ _=>rfl⟩
theorem eff_value {E:Nat→Option Ent} {o:Oper} {c al:Nat} {v:SV} {us:List (Nat × Ent)} {r':Rho} {w':World} {V:Value} (hrun:(execOp a.eval o).run P w = .ok (.value V) w')
  (hr:∀ i,nw c al i→r' i=r i) (hh:HeapRel base M r' (upd us E) w') (hv:v.den r'=V):EffOk P base M r E o a w c v us al:=by
 intro Next Q hN
 unfold Oper.wp
 rw [hrun]
 simp only [Oper.upon]
 rw [← hv]
 exact hN r' w' hr hh
theorem eff_skip {E:Nat→Option Ent} {o:Oper} {c al:Nat} {us:List (Nat × Ent)} {w':World} (hrun:(execOp a.eval o).run P w = .ok .skip w')
  (hh:HeapRel base M r (upd us E) w'):EffOk P base M r E o a w c (.t []) us al:=by
 intro Next Q hN
 unfold Oper.wp
 rw [hrun]
 simp only [Oper.upon]
 exact hN r w' (fun _ _=>rfl) hh
theorem nw_one {c i:Nat}:nw c 1 i ↔ i≠c:=by unfold nw; omega
theorem fresh_one {E:Nat→Option Ent} {c:Nat} (h:∀ i e,E i=some e→nw c 1 i∧e.sc (nw c 1)):∀ i x,E i=some x→i≠c∧x.sc (fun i=>i≠c) :=
 fun i x hx=>⟨nw_one.1 (h i x hx).1,Ent.sc_mono (fun _ hj=>nw_one.1 hj) (h i x hx).2⟩
theorem eff_box {E:Nat→Option Ent} {o:Oper} {c:Nat} {ty:TypeId} {cs:List SC} {vs:Array Value} (h:HeapRel base M r E w) (hfresh:∀ i e,E i=some e→nw c 1 i∧e.sc (nw c 1)) (hcs:∀ x∈cs,SC.sc (nw c 1) x)
  (hv:vs=(cs.map (SC.den r)).toArray) (hrun:(execOp a.eval o).run P w = .ok (.value (.pointer (some ⟨w.heap.size,0,none⟩))) (w.alloc (.cells vs ty))) :
  EffOk P base M r E o a w c (.o (.c (.p c 0))) [(c,.box cs ty)] 1:=by
 subst hv
 refine eff_value hrun (r':=more r c (.pointer (some ⟨w.heap.size,0,none⟩))) (fun i hi=>more_ne i (nw_one.1 hi)) (h.mk1 (fresh_one hfresh) rfl (fun b hb=>by cases hb; rfl) ?_) ?_
 ·refine ⟨w.heap.size,rfl,?_⟩
  rw [SC.map_den_ext (r:=r) (m:=fun i=>i≠c) more_ne (fun x hx=>SC.sc_mono (fun _ hj=>nw_one.1 hj) (hcs x hx))]
  exact heap_alloc_new _ _
 ·simp only [SV.den,S1.den,SC.den,more_new,addrOf,Nat.add_zero]
end
end Go.Sx
namespace Go.Sx
open Go.RowKit
section
variable {P:Program} {base:World} {M:Scp} {N n0:Nat} {r0 r:Rho} {S:St} {a:Act} {w:World}
theorem eff_storeB {E:Nat→Option Ent} {o:Oper} {c:Nat} {t:TypeId} {x y:Operand} {inf:TypeInfo} {i j:Nat} {z:S1} {cs:List SC} {ty:TypeId} (h:HeapRel base M r E w)
  (ho:o.op = .store t x y) (hi:P.info? t=some inf) (e1:a.eval x=S1.den r (.c (.p i j))) (e2:a.eval y=z.den r) (hE:E i=some (.box cs ty))
  (hl1:z.cells.length=inf.size) (hl2:j+inf.size≤cs.length) (hok:okcs z.cells=true):EffOk P base M r E o a w c (.t []) [(i,.box (setAt cs j z.cells) ty)] 0:=by
 obtain ⟨b,hb,hheap⟩:=h.ent i _ hE
 have hcell:=S1.cells_ok h.one hok
 have hsz:(z.den r).cells.size=inf.size:=by rw [← Array.length_toList,hcell,List.length_map,hl1]
 have hst:=run_storeCells_at (P:=P) b j ty (z.cells.map (SC.den r)) 0 _ w hheap (by simp; omega) (by
  intro v hv
  simp only [List.mem_map] at hv
  obtain ⟨c,hc,rfl⟩:=hv
  exact SC.ok_den h.one (okcs_all hok c hc))
 have hset:((cs.map (SC.den r)).toArray.toList.take (j+0)++z.cells.map (SC.den r)++(cs.map (SC.den r)).toArray.toList.drop (j+0+(z.cells.map (SC.den r)).length))=(setAt cs j z.cells).map (SC.den r):=by
  rw [setAt_eq _ _ _ (by omega)]
  simp
 rw [hset] at hst
 have e1':a.eval x = .pointer (some ⟨b,j,none⟩):=by rw [e1]; simp only [S1.den,SC.den,hb,addrOf,Nat.zero_add]
 have hrun:(execOp a.eval o).run P w = .ok .skip (w.setRow b ((setAt cs j z.cells).map (SC.den r)).toArray):=by
  simp only [execOp,ho,e1',e2]
  generalize S1.den r z=v at hsz hcell
  rw [← hcell] at hst
  simp only [Instr.storeAt,Instr.sureAddr,Sem.run_bind,Sem.run_pure,Result.andThen_ok,storeVar,run_sizeOf' hi,hsz,ne_eq,not_true_eq_false,if_false,hst]
 refine eff_skip hrun (h.turn hE rfl ?_ ⟨b,hb,setRow_heap _ _ _ _ _ _ hheap⟩)
 rw [hb]
 exact Turn.row w b _
theorem rngS_len (n:Nat) (f:Nat→SC):(rngS n f).length=n:=by unfold rngS; simp
theorem setAt_rngS {n j:Nat} {f:Nat→SC} {cs:List SC} (h:j+cs.length≤n):setAt (rngS n f) j cs=rngS n (setF f j cs):=by
 rw [setAt_eq _ _ _ (by rw [rngS_len]; exact h)]
 apply List.ext_getElem?
 intro q
 unfold rngS
 rw [List.getElem?_map]
 simp only [List.getElem?_append,List.length_append,List.length_take,List.getElem?_take,List.getElem?_drop,List.length_map,List.length_range,List.getElem?_map]
 have m1:min j n=j:=by omega
 rw [m1]
 by_cases h1:q < j
 ·rw [if_pos (by omega),if_pos h1,if_pos h1,List.getElem?_range (by omega)]
  simp only [Option.map_some,setF]
  rw [if_neg (by omega)]
 ·by_cases h2:q < j+cs.length
  ·rw [if_pos h2,if_neg h1,List.getElem?_range (by omega)]
   simp only [Option.map_some,setF]
   rw [if_pos (by omega),nth_eq,List.getElem?_eq_getElem (by omega)]
  ·rw [if_neg h2,show j+cs.length+(q - (j+cs.length))=q by omega]
   by_cases h3:q < n
   ·rw [List.getElem?_range h3]
    simp only [Option.map_some,setF]
    rw [if_pos (by omega),nth_eq,List.getElem?_eq_none (by omega)]
   ·rw [List.getElem?_eq_none (by simp; omega)]; rfl
theorem eff_storeX {E:Nat→Option Ent} {o:Oper} {c:Nat} {t:TypeId} {x y:Operand} {inf:TypeInfo} {i j:Nat} {z:S1} {m:Nat} {f:Nat→SC} {ty:TypeId} {p:Pool} (h:HeapRel base M r E w)
  (ho:o.op = .store t x y) (hi:P.info? t=some inf) (e1:a.eval x=S1.den r (.c (.p i j))) (e2:a.eval y=z.den r) (hE:E i=some (.bx m f ty p))
  (hl1:z.cells.length=inf.size) (hl2:j+inf.size≤m) (hok:okcs z.cells=true):EffOk P base M r E o a w c (.t []) [(i,.bx m (setF f j z.cells) ty p)] 0:=by
 obtain ⟨⟨b,hb,hheap,hnb⟩,hpl,hap⟩:=h.ent i _ hE
 have hcl:(rngS m f).length=m:=rngS_len m f
 have hcell:=S1.cells_ok h.one hok
 have hsz:(z.den r).cells.size=inf.size:=by rw [← Array.length_toList,hcell,List.length_map,hl1]
 have hst:=run_storeCells_at (P:=P) b j ty (z.cells.map (SC.den r)) 0 _ w hheap (by simp [hcl]; omega) (by
  intro v hv
  simp only [List.mem_map] at hv
  obtain ⟨c,hc,rfl⟩:=hv
  exact SC.ok_den h.one (okcs_all hok c hc))
 have hset:(((rngS m f).map (SC.den r)).toArray.toList.take (j+0)++z.cells.map (SC.den r)++((rngS m f).map (SC.den r)).toArray.toList.drop (j+0+(z.cells.map (SC.den r)).length))=(setAt (rngS m f) j z.cells).map (SC.den r):=by
  rw [setAt_eq _ _ _ (by rw [hcl]; omega)]
  simp
 rw [hset] at hst
 have e1':a.eval x = .pointer (some ⟨b,j,none⟩):=by rw [e1]; simp only [S1.den,SC.den,hb,addrOf,Nat.zero_add]
 have hrun:(execOp a.eval o).run P w = .ok .skip (w.setRow b ((setAt (rngS m f) j z.cells).map (SC.den r)).toArray):=by
  simp only [execOp,ho,e1',e2]
  generalize S1.den r z=v at hsz hcell
  rw [← hcell] at hst
  simp only [Instr.storeAt,Instr.sureAddr,Sem.run_bind,Sem.run_pure,Result.andThen_ok,storeVar,run_sizeOf' hi,hsz,ne_eq,not_true_eq_false,if_false,hst]
 rw [setAt_rngS (by omega)] at hrun
 have hT:Turn w (w.setRow b ((rngS m (setF f j z.cells)).map (SC.den r)).toArray) (blkOf (r i)):=by rw [hb]; exact Turn.row w b _
 refine eff_skip hrun (h.turnB hE rfl hT ⟨⟨b,hb,setRow_heap _ _ _ _ _ _ hheap,hnb⟩,fun i' j' U s hp=>Sub.rel_block (by rw [hT.size]; exact Nat.le_refl _) (fun b' hb' _=>hT.other b' fun hcon=>hnb ?_) (hpl i' j' U s hp),hap⟩ (fun _ h=>h) (fun _ h=>h))
 rw [hb] at hcon; cases hcon
 exact ⟨i',j',U,s,hp,hb'⟩
theorem RowB.set {w:World} {b:Nat} {cur cur':Array Value} {ty:TypeId} (h:RowB w b cur ty) (hs:cur'.size=cur.size):RowB (w.setRow b cur') b cur' ty:=by
 obtain ⟨z,h1,h2⟩:=h
 exact ⟨z,setRow_heap _ _ _ _ _ _ h1,h2.imp id fun q=>by omega⟩
theorem run_storeCells_b {P:Program} (g o:Nat) (t:TypeId) (fz:Nat × Nat):∀ (vs:List Value) (i:Nat) (cur:Array Value) (w:World),w.heap[g]?=some (.cells cur t fz)→cur.size≤fz.1→o+i+vs.length≤cur.size→(∀ v∈vs,v.oneCell'=true) →
  (storeCells ⟨g,o,none⟩ vs i).run P w = .ok () (w.setRow g (cur.toList.take (o+i)++vs++cur.toList.drop (o+i+vs.length)).toArray)
 | [],i,cur,w,hg,_,_,_=>by
  simp only [storeCells,List.append_nil,List.length_nil,Nat.add_zero,List.take_append_drop,Array.toArray_toList]
  rw [setRow_self w g cur t fz hg]
  rfl
 | v :: rest,i,cur,w,hg,hfz,hl,h1=>by
  have hi:o+i < cur.size:=by simp at hl; omega
  have hadd:(⟨g,o,none⟩:Addr).add i=⟨g,o+i,none⟩:=by unfold Addr.add; split<;>simp_all
  have hcell:w.cell? ⟨g,o+i,none⟩=some cur[o+i]:=by simp [World.cell?,hg,hi]
  have hfro:w.frozen? ⟨g,o+i,none⟩=false:=by
   obtain ⟨lo,hi'⟩:=fz
   simp only [World.frozen?,hg,Bool.and_eq_false_iff,decide_eq_false_iff_not]
   left
   simp only at hfz
   omega
  have hst:(store ((⟨g,o,none⟩:Addr).add i) v).run P w = .ok () (w.setRow g (cur.setIfInBounds (o+i) v)):=by
   rw [hadd,run_store P w _ v _ (h1 v (by simp)),hcell]
   simp [hfro,setCell_eq_setRow w g (o+i) cur t fz v hg]
  have ih:=run_storeCells_b (P:=P) g o t fz rest (i+1) (cur.setIfInBounds (o+i) v) (w.setRow g (cur.setIfInBounds (o+i) v)) (setRow_heap w g cur _ t _ hg) (by simpa using hfz) (by simp at hl ⊢; omega) (fun x hx=>h1 x (by simp [hx]))
  simp only [storeCells,Sem.run_bind,hst,Result.andThen_ok,ih,setRow_setRow]
  congr 3
  have e:=list_seg_step cur.toList (o+i) v rest (by simp at hl ⊢; omega)
  simpa [Array.toList_setIfInBounds,Nat.add_assoc] using e
theorem RowB.store {P:Program} {w:World} {b:Nat} {cur:Array Value} {ty:TypeId} (o:Nat) (vs:List Value) (i:Nat) (h:RowB w b cur ty) (hl:o+i+vs.length≤cur.size) (h1:∀ v∈vs,v.oneCell'=true) :
  (storeCells ⟨b,o,none⟩ vs i).run P w = .ok () (w.setRow b (cur.toList.take (o+i)++vs++cur.toList.drop (o+i+vs.length)).toArray):=by
 obtain ⟨z,g1,g2⟩:=h
 rcases g2 with rfl | g2
 ·exact run_storeCells_at (P:=P) b o ty vs i cur w g1 hl h1
 ·exact run_storeCells_b (P:=P) b o ty z vs i cur w g1 g2 hl h1
theorem get_spliced (cur vs:List Value) (p q:Nat) (h:p+vs.length≤cur.length):(cur.take p++vs++cur.drop (p+vs.length))[q]?=if q < p then cur[q]? else if q < p+vs.length then vs[q - p]? else cur[q]?:=by
 simp only [List.getElem?_append,List.length_append,List.length_take,List.getElem?_take,List.getElem?_drop]
 have m1:min p cur.length=p:=by omega
 rw [m1]
 by_cases h1:q < p
 ·rw [if_pos (by omega),if_pos h1,if_pos h1,if_pos h1]
 ·by_cases h2:q < p+vs.length
  ·rw [if_pos h2,if_neg h1,if_neg h1,if_pos h2]
  ·rw [if_neg h2,if_neg h1,if_neg h2]
   congr 1; omega
theorem mul_lt_le {a b s:Nat} (h:a < b):a * s+s≤b * s:=by
 have:=Nat.mul_le_mul_right s (Nat.succ_le_of_lt h)
 rw [Nat.succ_mul] at this
 exact this
theorem eff_storeR {E:Nat→Option Ent} {o:Oper} {c:Nat} {t:TypeId} {x y:Operand} {inf:TypeInfo} {i sz e j m:Nat} {z:S1} {f:Nat→Nat→SC} {ty:TypeId} (h:HeapRel base M r E w)
  (ho:o.op = .store t x y) (hi:P.info? t=some inf) (e1:a.eval x=S1.den r (.c (.q i sz e j))) (e2:a.eval y=z.den r) (hE:E i=some (.own m sz f ty))
  (he:e < m) (hl1:z.cells.length=inf.size) (hl2:j+inf.size≤sz) (hok:okcs z.cells=true):EffOk P base M r E o a w c (.t []) [(i,.own m sz (updF f e j z.cells) ty)] 0:=by
 obtain ⟨hmx,hrel⟩:=h.ent i _ hE
 rcases hrel with ⟨b,of,cap,cur,hb,hheap,hmc,hc0,hsize,hcont⟩ | ⟨_,_,h0⟩
 ·have hcell:=S1.cells_ok h.one hok
  have hsz:(z.den r).cells.size=inf.size:=by rw [← Array.length_toList,hcell,List.length_map,hl1]
  have hrow:e * sz+sz≤cap * sz:=mul_lt_le (by omega)
  have hone:∀ v∈z.cells.map (SC.den r),v.oneCell'=true:=by
   intro v hv
   simp only [List.mem_map] at hv
   obtain ⟨c,hc,rfl⟩:=hv
   exact SC.ok_den h.one (okcs_all hok c hc)
  have hst:=RowB.store (P:=P) (of+(e * sz+j)) (z.cells.map (SC.den r)) 0 hheap (by simp; omega) hone
  have e1':a.eval x = .pointer (some ⟨b,of+(e * sz+j),none⟩):=by rw [e1]; simp only [S1.den,SC.den,hb,addrOf]
  have hrun:∃ cur',cur'=cur.toList.take (of+(e * sz+j)+0)++z.cells.map (SC.den r)++cur.toList.drop (of+(e * sz+j)+0+(z.cells.map (SC.den r)).length)∧(execOp a.eval o).run P w = .ok .skip (w.setRow b cur'.toArray):=by
   refine ⟨_,rfl,?_⟩
   simp only [execOp,ho,e1',e2]
   generalize S1.den r z=v at hsz hcell
   rw [← hcell] at hst ⊢
   simp only [Instr.storeAt,Instr.sureAddr,Sem.run_bind,Sem.run_pure,Result.andThen_ok,storeVar,run_sizeOf' hi,hsz,ne_eq,not_true_eq_false,if_false,hst]
  obtain ⟨cur',hcur',hrun⟩:=hrun
  rw [Nat.add_zero] at hcur'
  have hlen:(z.cells.map (SC.den r)).length=inf.size:=by simp [hl1]
  have hcs:cur'.length=cur.size:=by rw [hcur']; simp; omega
  refine eff_skip hrun (h.turn hE rfl ?_ ⟨hmx,.inl ⟨b,of,cap,cur'.toArray,hb,hheap.set (by simp [hcs]),hmc,hc0,by simp [hcs]; exact hsize,fun e' j' he' hj'=>?_⟩⟩)
  ·rw [hb,blkOf_slice hc0]
   exact Turn.row w b _
  ·simp only [List.getElem?_toArray]
   rw [hcur',get_spliced _ _ _ _ (by rw [hlen]; simp; omega),hlen]
   have hold:=hcont e' j' he' hj'
   rw [Array.getElem?_toList]
   unfold updF
   rcases Nat.lt_trichotomy e' e with h1 | h1 | h1
   ·have:=mul_lt_le (s:=sz) h1
    rw [if_pos (by omega),if_neg (by omega)]
    exact hold
   ·subst h1
    by_cases h2:j' < j
    ·rw [if_pos (by omega),if_neg (by omega)]; exact hold
    ·by_cases h3:j' < j+inf.size
     ·rw [if_neg (by omega),if_pos (by omega),if_pos ⟨rfl,by omega⟩]
      have e4:of+(e' * sz+j') - (of+(e' * sz+j))=j' - j:=by omega
      rw [e4,nth_eq,List.getElem?_map]
      have:j' - j < z.cells.length:=by omega
      rw [List.getElem?_eq_getElem this]
      rfl
     ·rw [if_neg (by omega),if_neg (by omega),if_pos ⟨rfl,by omega⟩,nth_eq]
      rw [List.getElem?_eq_none (by omega)]
      exact hold
   ·have:=mul_lt_le (s:=sz) h1
    rw [if_neg (by omega),if_neg (by omega),if_neg (by omega)]
    exact hold
 ·omega
theorem setAt_len {α:Type}:∀ (l:List α) (o:Nat) (xs:List α),(setAt l o xs).length=l.length
 | l,0,[]=>by cases l<;>rfl
 | [],0,_ :: _=>rfl
 | _ :: cs,0,x :: xs=>by simp [setAt,setAt_len cs 0 xs]
 | [],_+1,_=>rfl
 | c :: cs,o+1,xs=>by simp [setAt,setAt_len cs o xs]
theorem fillS_len:∀ (pl:List (Nat × Nat)) (xs:List S1) (cs cs':List SC),fillS cs pl xs=some cs'→cs'.length=cs.length
 | [],[],cs,cs',h=>by simp only [fillS,Option.some.injEq] at h; rw [h]
 | (o,n) :: pl,x :: xs,cs,cs',h=>by
  simp only [fillS] at h
  split at h
  ·rw [fillS_len pl xs _ cs' h,setAt_len]
  ·cases h
 | [],_ :: _,cs,cs',h=>by simp [fillS] at h
 | _ :: _,[],cs,cs',h=>by simp [fillS] at h
theorem litF_at {cs:List SC} {sz e j:Nat} {x:SC} (h:cs[e * sz+j]?=some x):litF cs sz e j=x:=by
 unfold litF; rw [nth_eq,h]
theorem eff_row {E:Nat→Option Ent} {o:Oper} {c n sz:Nat} {ty:TypeId} {f:Nat→Nat→SC} {vs:Array Value} (h:HeapRel base M r E w) (hfresh:∀ i e,E i=some e→nw c 1 i∧e.sc (nw c 1))
  (hf:∀ e j,(f e j).sc (nw c 1)) (hn:n≤9223372036854775807) (hsz:n * sz≤vs.size) (hv:∀ e j,e < n→j < sz→vs[e * sz+j]?=some ((f e j).den r))
  (hrun:(execOp a.eval o).run P w = .ok (.value (.slice (some ⟨w.heap.size,0,none⟩) n n)) (w.alloc (.cells vs ty))) :
  EffOk P base M r E o a w c (.o (.c (.n c))) [(c,.own n sz f ty)] 1:=by
 refine eff_value hrun (r':=more r c (.slice (some ⟨w.heap.size,0,none⟩) n n)) (fun i hi=>more_ne i (nw_one.1 hi)) (h.mk1 (fresh_one hfresh) rfl (fun b hb=>?_) ?_) ?_
 ·simp only [blkOf] at hb
  split at hb
  ·cases hb
  ·cases hb; rfl
 ·refine ⟨hn,?_⟩
  by_cases h0:n=0
  ·subst h0; exact .inr ⟨_,rfl,rfl⟩
  ·refine .inl ⟨w.heap.size,0,n,vs,rfl,.of (heap_alloc_new _ _),Nat.le_refl _,by omega,by omega,fun e j he hj=>?_⟩
   rw [Nat.zero_add,hv e j he hj,SC.den_ext (r:=r) (m:=fun i=>i≠c) more_ne (SC.sc_mono (fun _ hj=>nw_one.1 hj) (hf e j))]
 ·simp only [SV.den,S1.den,SC.den,more_new]
theorem run_valW {s:Sem Value} {v:Value} {w':World} (h:s.run P w = .ok v w'):(do pure (.value (← s)):Sem Next).run P w = .ok (.value v) w':=by simp [h]
theorem nth_replF {z:List Value} {e j:Nat} (h:j < z.length):(replF z e j).den r=z[j]:=by
 unfold replF; rw [nth_eq,List.getElem?_eq_getElem h]; rfl
theorem eff_mks {E:Nat→Option Ent} {o:Oper} {c:Nat} {t e:TypeId} {i:TypeInfo} {z:Value} {x y:Operand} {l:Int} (h:HeapRel base M r E w) (hfresh:∀ i e,E i=some e→nw c 1 i∧e.sc (nw c 1))
  (ho:o.op = .makeSlice t x y) (ht:P.underlying t=some (.slice e)) (hi:P.info? e=some i) (hz:i.zero=some z) (hzs:z.cells.size=i.size) (h0:0 < i.size)
  (ex:a.eval x = .int .i64 l) (ey:a.eval y = .int .i64 l) (hl0:0≤l) (hl1:l * i.bytes≤281474976710656) (hl2:l≤9223372036854775807) :
  EffOk P base M r E o a w c (.o (.c (.n c))) [(c,.own l.toNat i.size (replF z.cells.toList) e)] 1:=by
 obtain ⟨n,rfl⟩:∃ n:Nat,l=n:=⟨l.toNat,by omega⟩
 have hrun:(execOp a.eval o).run P w = .ok (.value (.slice (some ⟨w.heap.size,0,none⟩) n n)) (w.alloc (.cells (madeCells z.cells (n * i.size)) e)):=by
  simp only [execOp,ho,ex,ey]
  refine run_valW ?_
  have:=run_make (P:=P) w t e i z ht hi hz .i64 .i64 n n hl0 (Int.le_refl _) (by rw [Int.mul_comm]; exact hl1) hl2
  simpa using this
 rw [Int.toNat_natCast]
 refine eff_row h hfresh (fun e j=>?_) (by omega) ?_ (fun e j he hj=>?_) hrun
 ·unfold replF; split<;>trivial
 ·rw [size_madeCells]; exact Nat.le_refl _
 ·unfold madeCells
  have hlt2:e * i.size+j < n * i.size:=by have:=mul_lt_le (s:=i.size) he; omega
  rw [nth_replF (by simp; omega)]
  simp only [Array.getElem?_map]
  rw [Array.getElem?_eq_getElem (by simpa using hlt2)]
  simp only [Array.getElem_range,Option.map_some]
  have:(e * i.size+j) % z.cells.size=j:=by rw [hzs,Nat.mul_comm,Nat.mul_add_mod,Nat.mod_eq_of_lt hj]
  rw [this,getElem!_pos _ _ (by omega)]
  rfl
theorem zrep_arr (z:Value) (n:Nat):(Array.range n).map (z.cells[· % z.cells.size]!)=(zrep z.cells.toList n).toArray:=by
 apply Array.ext'
 simp [zrep,Array.toList_range]
theorem eff_slit {E:Nat→Option Ent} {o:Oper} {c len:Nat} {t e:TypeId} {i:TypeInfo} {z:Value} {parts:Array (Nat × Operand)} {ys:List S1} {cs:List SC} (h:HeapRel base M r E w) (hfresh:∀ i e,E i=some e→nw c 1 i∧e.sc (nw c 1))
  (ho:o.op = .buildSlice t len parts) (ht:P.underlying t=some (.slice e)) (hi:P.info? e=some i) (hz:i.zero=some z) (hsm:len * i.size≤16777216) (h0:0 < i.size)
  (hv:(parts.toList.map fun p=>xo p.2).map (XO.val a)=ys.map (S1.den r)) (hf:fillS ((zrep z.cells.toList (len * i.size)).map .v) (parts.toList.map fun p=>(p.1 * i.size,i.size)) ys=some cs) (hok:oks ys=true)
  (hcs:∀ x∈cs,SC.sc (nw c 1) x):EffOk P base M r E o a w c (.o (.c (.n c))) [(c,.own len i.size (litF cs i.size) e)] 1:=by
 have hzz:((zrep z.cells.toList (len * i.size)).map SC.v).map (SC.den r)=zrep z.cells.toList (len * i.size):=by
  rw [List.map_map]; exact (List.map_congr_left (fun x _=>rfl)).trans (List.map_id _)
 have hlen:cs.length=len * i.size:=by rw [fillS_len _ _ _ _ hf]; simp [zrep]
 have hfill:=fill_den (r:=r) (fun k=>some (k * i.size,i.size)) h.one (parts.toList.map (·.1)) (parts.toList.map fun p=>(p.1 * i.size,i.size)) ys _ cs (by rw [List.map_map,List.map_map]; rfl) (oks_one ys hok) hf
  (by have:=congrArg List.length hv; simp at this; simp [this])
 rw [hzz] at hfill
 have hev:(parts.map fun x=>(x.1,a.eval x.2)).toList=(parts.toList.map (·.1)).zip (ys.map (S1.den r)):=by
  rw [Array.toList_map,← hv,List.map_map,List.zip_map',List.map_congr_left]
  intro x _
  simp [xo_val]
 have hrun:(execOp a.eval o).run P w = .ok (.value (.slice (some ⟨w.heap.size,0,none⟩) len len)) (w.alloc (.cells (cs.map (SC.den r)).toArray e)):=by
  simp only [execOp,ho]
  refine run_valW ?_
  by_cases hpos:len * i.size=0
  ·have hl0:len=0:=by
    rcases Nat.mul_eq_zero.1 hpos with h1 | h1
    ·exact h1
    ·omega
   have hcn:cs=[]:=List.eq_nil_of_length_eq_zero (by rw [hlen,hpos])
   have hz0:zrep z.cells.toList (len * i.size)=[]:=by simp [zrep,hpos]
   rw [hz0,hcn] at hfill
   subst hl0
   simp only [List.map_nil] at hfill
   simp [Instr.buildSlice,run_underlying ht,sizeOf,typeInfo,hi,Array.range_zero',hcn,newRow]
   rw [Array.toList_map] at hev
   rw [hev,hfill]
   simp
  ·refine run_buildSlice w t e len _ _ i z ht hi hz (by omega) hpos ?_
   rw [zrep_arr,hev]
   exact hfill
 refine eff_row h hfresh (fun e j=>?_) (by have:len≤len * i.size:=Nat.le_mul_of_pos_right _ h0; omega) (by simp [hlen]) (fun e j he hj=>?_) hrun
 ·unfold litF
  split
  ·rename_i x hx; exact hcs x (nth_mem hx)
  ·trivial
 ·have hlt2:e * i.size+j < len * i.size:=by have:=mul_lt_le (s:=i.size) he; omega
  rw [litF_at (List.getElem?_eq_getElem (by omega))]
  simp [hlen,hlt2]
end
end Go.Sx
