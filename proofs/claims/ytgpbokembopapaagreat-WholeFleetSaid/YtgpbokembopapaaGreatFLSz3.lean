/- A part of the proof of a statement about this seat: how a function is stepped through, and plain laws. No conditions. -/
import Derived.Test.YtgpbokembopapaaGreatFLSz2
import Derived.Deep.LoopGhost
import Derived.ProofKit
import Derived.OpenShut
import Derived.Deep.Slices
set_option linter.unusedVariables false
set_option linter.unusedSimpArgs false
namespace Go.Sx
open Go.RowKit
inductive XC where
 | skip
 | reg (draw:Bool) (ops:List XOper)
 | regD (ops:List XOper) (preds:List (List Nat))
 | regG (A B C:List XOper) (preds:List (List Nat))
 | seq (x y:XC)
 | cond (c:XO) (x y:XC)
 | block (id:Nat) (x:XC)
 | loop (x:XC)
 | bad
 | cut (x:XC)
 | opn (s t j:Nat) (x:XC)
 | spl (s:Nat) (x:XC)
 | mrg (s:Nat) (x:XC)
 | frz (s t:Nat) (x:XC)
 | gst (x:XC)
 | gsa (x:XC)
 | exit (id:Nat)
 | ret
def addN (l:List Nat) (m:List Nat):List Nat:=l.foldl (fun m i=>if memN i m then m else m++[i]) m
def predsGo:List Oper→List (List Nat)→List (List Nat)
 | [],acc=>acc
 | o :: l,acc=>predsGo l (acc++[o.after.toList.foldl (fun m e=>if Region.binds .any e then addN (e.on :: acc.getD e.on []) m else m) []])
theorem predsGo_len:∀ (l:List Oper) (acc:List (List Nat)),(predsGo l acc).length=l.length+acc.length
 | [],acc=>by simp [predsGo]
 | o :: l,acc=>by rw [predsGo,predsGo_len l]; simp; omega
def leafRef (P:Program) (res:Bool) (t:TypeId):Bool :=
 match P.underlying t with
 | some (.int _)=>false
 | some .bool=>false
 | some .string=>false
 | some (.slice _)=>res
 | some (.func ..)=>false
 | _=>true
def refT (P:Program) (res:Bool) (t:TypeId):Bool :=
 match P.cellTypes P.depth t with
 | some ts=>ts.any (leafRef P res)
 | none=>true
def quietC (P:Program) (f:Nat):Bool :=
 match P.funcs[f]? with
 | some fn=>!(fn.params.any (refT P false)) && !(fn.resultTypes.any (refT P true))
 | none=>false
def quietX (P:Program) (x:XOper):Bool :=
 match x.op with
 | .box _=>false
 | .alloc _ _=>false
 | .store _=>false
 | .slit ..=>false
 | .mks ..=>false
 | .slc ..=>false
 | .app ..=>false
 | .ustr _=>false
 | .mkb=>false
 | .call f=>quietC P f
 | _=>true
def XC.er:XC→XC
 | .seq x y=>.seq x.er y.er
 | .cond c x y=>.cond c x.er y.er
 | .block i x=>.block i x.er
 | .loop x=>.loop x.er
 | .cut x=>x.er
 | .opn _ _ _ x=>x.er
 | .spl _ x=>x.er
 | .mrg _ x=>x.er
 | .frz _ _ x=>x.er
 | .gst x=>x.er
 | .gsa x=>x.er
 | .skip=>.skip
 | .reg d l=>.reg d l
 | .regD l p=>.regD l p
 | .regG A B C p=>.regD (A++B++C) p
 | .exit i=>.exit i
 | .ret=>.ret
 | .bad=>.bad
def xcode (P:Program) (N:Nat):Code→Option XC
 | .skip=>some .skip
 | .region _ ops draw=>match xopsL P ops N ops.toList with
  | some l=>if draw then (if l.all (quietX P) then (if P.follows .mixedOrders && Region.lexB .any ops then some (.reg true l) else none)
   else (if P.follows .mixedOrders && (predsOk ops (predsGo ops.toList []) && edgesOk ops) then some (.regD l (predsGo ops.toList [])) else none)) else some (.reg false l)
  | none=>none
 | .seq a b=>match xcode P N a with
  | some x=>match xcode P N b with
   | some y=>some (.seq x y)
   | none=>none
  | none=>none
 | .cond c a b=>match xcode P N a with
  | some x=>match xcode P N b with
   | some y=>some (.cond (xo c) x y)
   | none=>none
  | none=>none
 | .block id a=>match xcode P N a with
  | some x=>some (.block id x)
  | none=>none
 | .loop a=>match xcode P N a with
  | some x=>some (.loop x)
  | none=>none
 | .exit id=>some (.exit id)
 | .ret=>some .ret
 | .refuse _=>some .bad
 | _=>none
inductive XE where
 | norm
 | ex (id:Nat)
 | ret
abbrev Kont:=XE→St→Prop
def XE.ofExit:Exit→Option XE
 | .normal=>some .norm
 | .exit id=>some (.ex id)
 | .ret=>some .ret
 | _=>none
def vcOpsQ (Γ:Nat→Con):List XOper→St→(St→Prop)→Prop
 | [],S,K=>K S
 | o :: l,S,K=>match evQ Γ o S with
  | some (p,v)=>p∧vcOpsQ Γ l (S.put o.dst v) K
  | none=>match offG S.env o.guard with
   | true=>vcOpsQ Γ l (S.put o.dst (.g false (.c (.v (.bool true))))) K
   | false=>False
def kSeq (k:St→Prop) (K:Kont):Kont
 | .norm,S=>k S
 | .ex i,S=>K (.ex i) S
 | .ret,S=>K .ret S
def kBlock (id:Nat) (K:Kont):Kont
 | .ex j,S=>if j=id then K .norm S else K (.ex j) S
 | .norm,S=>K .norm S
 | .ret,S=>K .ret S
def scL (m:Nat→Prop):List SC→Prop
 | []=>True
 | x :: l=>x.sc m∧scL m l
def sc1 (m:Nat→Prop):S1→Prop
 | .c x=>x.sc m
 | .a cs=>scL m cs
def sc1L (m:Nat→Prop):List S1→Prop
 | []=>True
 | x :: l=>sc1 m x∧sc1L m l
def scV (m:Nat→Prop):SV→Prop
 | .o x=>sc1 m x
 | .t xs=>sc1L m xs
 | .g _ x=>sc1 m x
def scEnv (m:Nat→Prop):List (Nat × SV)→Prop
 | []=>True
 | (_,v) :: l=>scV m v∧scEnv m l
def scF (m:Nat→Prop) (f:Nat→Nat→SC):Prop:=∀ e j,(f e j).sc m
def bxSc (m:Nat→Prop) (f:Nat→SC):Prop:=∀ j,(f j).sc m
def scE (m:Nat→Prop):Ent→Prop
 | .box cs _=>scL m cs
 | .ro _ _ f=>scF m f
 | .own _ _ f _=>scF m f
 | .nils=>True
 | .dead=>True
 | .deep _ _ _ _ _ al=>alSc m al
 | .inn _ _ _ _=>True
 | .len _=>True
 | .als j _ _=>m j
 | .dm _ _=>True
 | .itr i _ _=>m i
 | .bx _ f _ p=>bxSc m f∧poolSc m p
def scEnt (m:Nat→Prop):List (Nat × Ent)→Prop
 | []=>True
 | (i,v) :: l=>m i∧scE m v∧scEnt m l
abbrev Bnd:=List (Nat × SC)
def CP.sub (b:Bnd):CP→CP
 | .v x=>.v x
 | .p i j=>match lk b i with
  | some (.n k)=>.p k j
  | some (.v V)=>.v (.pointer (some ⟨(addrOf V).block,(addrOf V).off+j,none⟩))
  | _=>.p i j
def subP (b:Bnd):List CP→List CP
 | []=>[]
 | x :: l=>x.sub b :: subP b l
def SC.sub (b:Bnd):SC→SC
 | .v x=>.v x
 | .f g cs=>.f g (subP b cs)
 | .n i=>match lk b i with
  | some c=>c
  | none=>.n i
 | .p i j=>match lk b i with
  | some (.n k)=>.p k j
  | some (.v V)=>.v (.pointer (some ⟨(addrOf V).block,(addrOf V).off+j,none⟩))
  | _=>.p i j
 | .q i sz e j=>match lk b i with
  | some (.n k)=>.q k sz e j
  | some (.v V)=>.v (.pointer (some ⟨(addrOf V).block,(addrOf V).off+(e * sz+j),none⟩))
  | _=>.q i sz e j
def subL (b:Bnd):List SC→List SC
 | []=>[]
 | x :: l=>x.sub b :: subL b l
def S1.sub (b:Bnd):S1→S1
 | .c x=>.c (x.sub b)
 | .a cs=>.a (subL b cs)
def sub1L (b:Bnd):List S1→List S1
 | []=>[]
 | x :: l=>x.sub b :: sub1L b l
def SV.sub (b:Bnd):SV→SV
 | .o x=>.o (x.sub b)
 | .t xs=>.t (sub1L b xs)
 | .g c x=>.g c (x.sub b)
def bindC:SC→SC→Bnd
 | .n i,.n k=>[(i,.n k)]
 | .n i,.v x=>[(i,.v x)]
 | .p i _,.p k _=>[(i,.n k)]
 | .q i _ _ _,.q k _ _ _=>[(i,.n k)]
 | _,_=>[]
def bindL:List SC→List SC→Bnd
 | x :: l,y :: k=>bindC x y++bindL l k
 | _,_=>[]
def bind1:S1→S1→Bnd
 | .c x,.c y=>bindC x y
 | .a xs,.a ys=>bindL xs ys
 | _,_=>[]
def bind1L:List S1→List S1→Bnd
 | x :: l,y :: k=>bind1 x y++bind1L l k
 | _,_=>[]
def bindV:SV→SV→Bnd
 | .o x,.o y=>bind1 x y
 | .t xs,.t ys=>bind1L xs ys
 | .g _ x,.g _ y=>bind1 x y
 | _,_=>[]
def bindEnv (env:List (Nat × SV)):List (Nat × SV)→Bnd
 | []=>[]
 | (s,v) :: l=>(match lk env s with | some x=>bindV v x | none=>[])++bindEnv env l
def imgB (b:Bnd) (i:Nat):Option Nat :=
 match lk b i with
 | some (.n k)=>some k
 | some _=>none
 | none=>some i
def bindEnt (ents:List (Nat × Ent)) (b:Bnd):List (Nat × Ent)→Bnd
 | []=>[]
 | (i,.box cs _) :: l=>(match imgB b i with
  | some k=>match lk ents k with
   | some (.box cs' _)=>bindL cs cs'
   | _=>[]
  | none=>[])++bindEnt ents b l
 | _ :: l=>bindEnt ents b l
def bndOk (n0:Nat):Bnd→Prop
 | []=>True
 | (i,.n k) :: l=>(i < n0→k=i)∧bndOk n0 l
 | (i,.v V) :: l=>n0≤i∧V.oneCell'=true∧bndOk n0 l
 | _ :: _=>False
def rowEq (n sz:Nat) (f f':Nat→Nat→SC) (τ:SC→SC):Prop:=∀ e j,e < n→j < sz→f e j=τ (f' e j)
def mapEq (τ:SC→SC):List SC→List SC→Prop
 | [],[]=>True
 | x :: l,y :: k=>x=τ y∧mapEq τ l k
 | _,_=>False
def DM.frz (d:DM):DM:=match d.row with
 | some (_,r)=>⟨d.x,d.y,d.val,some (none,r)⟩
 | none=>d
def cEq:Option (Nat × Nat × (Nat→Nat→Value))→Option (Nat × Nat × (Nat→Nat→Value))→Prop
 | _,none=>True
 | some (n,s,g),some (n',s',g')=>n=n'∧(n=0∨s=s')∧∀ a b,a < n→b < s→g' a b=g a b
 | none,some _=>False
def deepEq (n sz:Nat) (f:Nat→Nat→Value) (c:Nat→Nat→Option (Nat × Nat × (Nat→Nat→Value))) (f':Nat→Nat→Value) (c':Nat→Nat→Option (Nat × Nat × (Nat→Nat→Value))):Prop :=
 ∀ e j,e < n→j < sz→f' e j=f e j∧cEq (c e j) (c' e j)
def alMem (τ:SC→SC):List (Nat × Nat × Nat)→Nat→Nat→Nat→Prop
 | [],_,_,_=>False
 | (e,j,c) :: l,e',j',c'=>(e=e'∧j=j'∧SC.n c=τ (.n c'))∨alMem τ l e' j' c'
def alEq (τ:SC→SC) (al:List (Nat × Nat × Nat)):List (Nat × Nat × Nat)→Prop
 | []=>True
 | (e',j',c') :: l'=>alMem τ al e' j' c'∧alEq τ al l'
def alIn (n sz:Nat):List (Nat × Nat × Nat)→Prop
 | []=>True
 | (e,j,_) :: l=>e < n∧j < sz∧alIn n sz l
def deepOf (n sz:Nat) (f:Nat→Nat→SC) (f':Nat→Nat→Value) (c':Nat→Nat→Option (Nat × Nat × (Nat→Nat→Value))):Prop :=
 ∀ e j,e < n→j < sz→f e j = .v (f' e j)∧(c' e j=none∨(f' e j = .slice none 0 0∧∃ s g,c' e j=some (0,s,g)))
def bxEq (n:Nat) (f f':Nat→SC) (τ:SC→SC):Prop:=∀ j,j < n→f j=τ (f' j)
def noOut (p:Pool):Prop:=∀ i j U k,p i j≠some (U,.out k)
def leE (τ:SC→SC):Ent→Ent→Prop
 | .box cs ty,.box cs' ty'=>ty=ty'∧mapEq τ cs cs'
 | .ro n sz f,.ro n' sz' f'=>n=n'∧(n=0∨sz=sz')∧rowEq n sz f f' τ
 | .own n sz f ty,.own n' sz' f' ty'=>n=n'∧sz=sz'∧ty=ty'∧rowEq n sz f f' τ
 | .own n sz f _,.ro n' sz' f'=>n=n'∧(n=0∨sz=sz')∧rowEq n sz f f' τ
 | .nils,.own n' _ _ _=>n'=0
 | .nils,.ro n' _ _=>n'=0
 | .nils,.nils=>True
 | .dm k l,.dm k' l'=>k=k'∧(l'=l∨l'=l.map DM.frz)
 | .itr i m sn,.itr i' m' sn'=>SC.n i=τ (.n i')∧m=m'∧sn=sn'
 | .bx n f ty p,.bx n' f' ty' p'=>n=n'∧ty=ty'∧bxEq n f f' τ∧p=p'∧noOut p'
 | .deep o n sz f c al,.deep o' n' sz' f' c' al'=>(o'=o∨o'=none)∧n=n'∧sz=sz'∧deepEq n sz f c f' c'∧alEq τ al al'∧alIn n sz al'
 | .own n sz f ty,.deep o' n' sz' f' c' al'=>(o'=some ty∨o'=none)∧n=n'∧sz=sz'∧deepOf n sz f f' c'∧al'=[]
 | .ro n sz f,.deep o' n' sz' f' c' al'=>o'=none∧n=n'∧sz=sz'∧deepOf n sz f f' c'∧al'=[]
 | .nils,.deep _ n' _ _ _ al'=>n'=0∧al'=[]
 | .deep _ n sz f _ al,.ro n' sz' f'=>n=n'∧(n=0∨sz=sz')∧rowEq n sz (alF f al) f' τ
 | .len n,.len n'=>n=n'
 | _,.dead=>True
 | _,_=>False
def nilE:Ent→Prop
 | .own n _ _ _=>n=0
 | .ro n _ _=>n=0
 | .nils=>True
 | .dead=>True
 | .deep _ n _ _ _ al=>n=0∧al=[]
 | _=>False
def leEnv (b:Bnd) (env:List (Nat × SV)):List (Nat × SV)→Prop
 | []=>True
 | (s,v) :: l=>lk env s=some (v.sub b)∧leEnv b env l
def leAt (b:Bnd) (ents:List (Nat × Ent)) (i:Nat) (e':Ent):Prop :=
 match lk b i with
 | some (.v (.slice none 0 0))=>nilE e'
 | _=>match imgB b i with
  | some k=>match lk ents k with
   | some e=>leE (SC.sub b) e e'
   | none=>False
  | none=>False
def leEnt (b:Bnd) (ents:List (Nat × Ent)):List (Nat × Ent)→Prop
 | []=>True
 | (i,e') :: l=>leAt b ents i e'∧leEnt b ents l
def outN (i:Nat):List Nat→Prop
 | []=>True
 | j :: l=>j≠i∧outN i l
def imgs (b:Bnd):List (Nat × Ent)→List Nat
 | []=>[]
 | (_,.dead) :: l=>imgs b l
 | (i,_) :: l=>(match imgB b i with | some k=>[k] | none=>[])++imgs b l
def nodupN:List Nat→Prop
 | []=>True
 | i :: l=>outN i l∧nodupN l
def LeB (n0:Nat) (S S':St) (b:Bnd):Prop :=
 bndOk n0 b∧leEnv b S.env S'.env∧leEnt b S.ents S'.ents∧nodupN (imgs b S'.ents)∧n0≤S'.next∧scEnv (upto S'.next) S'.env∧scEnt (upto S'.next) S'.ents
def bndOf (S S':St):Bnd:=bindEnv S.env S'.env++bindEnt S.ents (bindEnv S.env S'.env) S'.ents
def Le (n0:Nat) (S S':St):Prop:=LeB n0 S S' (bndOf S S')
def kLoop {α:Type} (n0:Nat) (I:α→St) (μ:α→Nat) (x:α) (K:Kont):Kont
 | .norm,S=>∃ y,Le n0 S (I y)∧μ y < μ x
 | .ex i,S=>K (.ex i) S
 | .ret,S=>K .ret S
def vcLoop (n0:Nat) (B:Kont→St→Prop) (S:St) (K:Kont):Prop :=
 ∃ (α:Type) (I:α→St) (μ:α→Nat) (x:α),Le n0 S (I x)∧∀ x,B (kLoop n0 I μ x K) (I x)
def kCut {α:Type} (n0:Nat) (I:α→St) (K:Kont):Kont
 | .norm,S=>∃ y,Le n0 S (I y)
 | .ex i,S=>K (.ex i) S
 | .ret,S=>K .ret S
def vcCut (n0:Nat) (B:Kont→St→Prop) (S:St) (K:Kont):Prop :=
 ∃ (α:Type) (I:α→St),(∀ y,K .norm (I y))∧B (kCut n0 I K) S
def vcCond (S:St) (x y:Prop):Option (Prop × S1)→Prop
 | some (p,.c (.v (.bool b)))=>p∧(b=true→x)∧(b=false→y)
 | _=>False
def vF (g:Nat→Nat→Value):Nat→Nat→SC:=fun a b=>.v (g a b)
def ixSum (env:List (Nat × SV)) (t:Nat):Option Int :=
 if t < 1000 then (match lk env t with
  | some (.o (.c (.v (.int _ e))))=>some e
  | _=>none)
 else (match lk env (t / 1000) with
  | some (.o (.c (.v (.int _ a))))=>(match lk env (t % 1000) with
   | some (.o (.c (.v (.int _ b))))=>some (a+b)
   | _=>none)
  | _=>none)
def lastN:List SC→Option Nat
 | []=>none
 | x :: l=>match lastN l with
  | some i=>some i
  | none=>match x with
   | .n i=>some i
   | _=>none
def nameS (S:St) (s:Nat):Option Nat :=
 match lk S.env s with
 | some (.o (.c (.n i)))=>some i
 | some (.o (.c (.p b _)))=>match lk S.ents b with
  | some (.box cs _)=>lastN cs
  | _=>none
 | _=>none
def vcOpn (s t j:Nat) (k:St→Prop) (S:St):Prop :=
 match nameS S s with
 | some i=>match ixSum S.env t with
  | some e=>match lk S.ents i with
   | some (.deep o n sz f c al)=>match c e.toNat j with
    | some (n',s',g)=>(0≤e∧e.toNat < n∧j < sz)∧k ⟨S.env,(i,.deep o n sz f c ((e.toNat,j,S.next) :: al)) :: (S.next,.ro n' s' (vF g)) :: S.ents,S.next+1⟩
    | none=>False
   | _=>False
  | _=>False
 | _=>False
def vcSpl (s:Nat) (k:St→Prop) (S:St):Prop :=
 match nameS S s with
 | some i=>match lk S.ents i with
  | some (.deep (some ty) n sz f c _)=>k ⟨S.env,(i,.own n sz (fun e j=>.v (f e j)) ty) :: (S.next,.inn n sz f c) :: S.ents,S.next+1⟩
  | _=>False
 | _=>False
def vOf:SC→Value
 | .v x=>x
 | _=>.bool false
def mrg1 (E:Nat→Option Ent):SC→Option (Nat × Nat × (Nat→Nat→Value))
 | .n i=>match E i with
  | some (.ro m s g)=>some (m,s,fun a b=>vOf (g a b))
  | some .nils=>some (0,1,fun _ _=>.bool false)
  | _=>none
 | .v (.slice none 0 0)=>some (0,1,fun _ _=>.bool false)
 | _=>none
def mrgC (E:Nat→Option Ent) (n0:Nat) (c:Nat→Nat→Option (Nat × Nat × (Nat→Nat→Value))) (F:Nat→Nat→SC) (e j:Nat):Option (Nat × Nat × (Nat→Nat→Value)) :=
 if e < n0 then c e j else mrg1 E (F e j)
def okM (E:Nat→Option Ent):SC→Prop
 | .n i=>match E i with
  | some (.ro m s g)=>∀ a b,a < m→b < s→g a b = .v (vOf (g a b))
  | _=>True
 | _=>True
def mrgOk (E:Nat→Option Ent) (n0 n sz:Nat) (f:Nat→Nat→Value) (F:Nat→Nat→SC):Prop :=
 (∀ e j,e < n0→j < sz→F e j = .v (f e j))∧∀ e j,n0≤e→e < n→j < sz→okM E (F e j)
def lkE (l:List (Nat × Ent)):Nat→Option Ent:=lk l
def findInn:List (Nat × Ent)→Option Nat
 | []=>none
 | (i,.inn ..) :: _=>some i
 | _ :: l=>findInn l
def vcMrg (s:Nat) (k:St→Prop) (S:St):Prop :=
 match nameS S s with
 | some i=>match lk S.ents i with
  | some (.own n sz F ty)=>match findInn S.ents with
   | some q=>match lk S.ents q with
    | some (.inn n0 sz0 f c)=>(n0≤n∧sz0=sz∧mrgOk (lkE S.ents) n0 n sz f F)∧∀ F':Nat→Nat→Value,(∀ e j x,F e j = .v x→F' e j=x)→k ⟨S.env,(i,.deep (some ty) n sz F' (mrgC (lkE S.ents) n0 c F) []) :: (q,.dead) :: S.ents,S.next⟩
    | _=>False
   | none=>False
  | _=>False
 | _=>False
def vcFrz (s t:Nat) (k:St→Prop) (S:St):Prop :=
 match lk S.env s with
 | some (.o (.c (.n i)))=>match ixSum S.env t with
  | some e=>match lk S.ents i with
   | some (.own n sz f ty)=>if e=0 then k ⟨S.env,(i,.ro n sz f) :: S.ents,S.next⟩ else k ⟨S.env,(i,.als S.next n true) :: (S.next,.own n sz f ty) :: S.ents,S.next+1⟩
   | _=>False
  | _=>False
 | _=>False
def Told {α:Type} (S:St) (S':α→St):Prop:=∀ base M N n0 r0 r a w,Rel base M N n0 r0 r S a w→∃ y r',Rel base M N n0 r0 r' (S' y) a w
def vcGst (k:St→Prop) (S:St):Prop:=∃ (α:Type) (S':α→St),Told S S'∧∀ y,k (S' y)
def kGsa (K:Kont):Kont
 | .norm,S=>vcGst (K .norm) S
 | .ex i,S=>K (.ex i) S
 | .ret,S=>K .ret S
def vcC (Γ:Nat→Con) (n0:Nat):XC→Kont→St→Prop
 | .skip,K,S=>K .norm S
 | .reg d l,K,S=>match d with
  | true=>vcOpsQ Γ l S (K .norm)
  | false=>vcOps Γ l (K .norm) S
 | .regD l ps,K,S=>vcD Γ ps l S (K .norm)
 | .regG A B C ps,K,S=>vcG Γ ps A B C S (K .norm)
 | .seq x y,K,S=>vcC Γ n0 x (kSeq (vcC Γ n0 y K) K) S
 | .cond c x y,K,S=>vcCond S (vcC Γ n0 x K S) (vcC Γ n0 y K S) (rd S.env c)
 | .block id x,K,S=>vcC Γ n0 x (kBlock id K) S
 | .loop x,K,S=>vcLoop n0 (vcC Γ n0 x) S K
 | .exit id,K,S=>K (.ex id) S
 | .ret,K,S=>K .ret S
 | .bad,_,_=>False
 | .cut x,K,S=>vcCut n0 (vcC Γ n0 x) S K
 | .opn s t j x,K,S=>vcOpn s t j (vcC Γ n0 x K) S
 | .spl s x,K,S=>vcSpl s (vcC Γ n0 x K) S
 | .mrg s x,K,S=>vcMrg s (vcC Γ n0 x K) S
 | .frz s t x,K,S=>vcFrz s t (vcC Γ n0 x K) S
 | .gst x,K,S=>vcGst (vcC Γ n0 x K) S
 | .gsa x,K,S=>vcC Γ n0 x (kGsa K) S
section
variable {P:Program} {base:World} {M:Scp} {N n0:Nat} {r0 r:Rho} {S:St} {a:Act} {w:World}
variable (P base M N n0 r0) in
def Post (K:Kont):Exit→Act→World→Prop :=
 fun e a' w'=>∃ x r' S',XE.ofExit e=some x∧K x S'∧Rel base M N n0 r0 r' S' a' w'
theorem replFalse (m j:Nat):(Array.replicate m false).getD j false=false:=by
 rcases Nat.lt_or_ge j m with h | h
 ·simp [h]
 ·simp [h]
theorem HeapRel.drew {E:Nat→Option Ent} (h:HeapRel base M r E w):HeapRel base M r E { w with drawn:=w.drawn+1 } :=
 h.below ⟨rfl,rfl,⟨rfl,Nat.le_succ _⟩,Nat.le_refl _,fun _ _=>rfl⟩
theorem quiet_list {Γ:Nat→Con} {ops:Array Oper} (hΓ:∀ f,COk P f (Γ f)):∀ (l:List Oper) (xl:List XOper) (S:St) (a:Act) (K:St→Prop),xopsL P ops N l=some xl→vcOpsQ Γ xl S K →
  Rel base M N n0 r0 r S a w→wpQuiet P ops (HeapRel base M r (lk S.ents)) (fun a'=>∃ S',K S'∧S'.ents=S.ents∧Rel base M N n0 r0 r S' a' w) l a
 | [],xl,S,a,K,hx,h,hr=>by
  simp only [xopsL,Option.some.injEq] at hx
  subst hx
  exact ⟨S,h,rfl,hr⟩
 | o :: l,xl,S,a,K,hx,h,hr=>by
  simp only [xopsL] at hx
  split at hx
  ·rename_i x hxo
   split at hx
   ·rename_i hd
    split at hx
    ·rename_i xs hxs
     cases hx
     simp only [vcOpsQ] at h
     split at h
     ·rename_i p v he
      obtain ⟨gd,hg,hq⟩:=evQ_sound hΓ hxo he h.1 hr
      have hdo:=(xop_parts hxo).2
      have hd':∀ s,o.dst=some s→s < N:=by
       intro s hs
       rw [hdo,hs] at hd
       simpa [dstOk] using hd
      have hput:=hr.put (d:=o.dst) (v:=v) hd' hq.sc
      rw [hdo] at h
      have ih:=quiet_list hΓ l xs (S.put o.dst v) (a.put o.dst (v.den r)) K hxs h.2 hput
      have hents:(S.put o.dst v).ents=S.ents:=by unfold St.put; split<;>rfl
      rw [hents] at ih
      unfold wpQuiet
      rw [hg]
      split
      ·rename_i hgt
       exact ⟨v.den r,fun w' hw'=>hq.yes hgt w' hw',ih⟩
      ·rename_i hgt
       rw [hq.no (by simpa using hgt)] at ih
       exact ih
     ·split at h
      ·rename_i hoff
       have hg:=guard_sound hxo hr (offG_spec hoff)
       have hdo:=(xop_parts hxo).2
       have hd':∀ s,o.dst=some s→s < N:=by
        intro s hs
        rw [hdo,hs] at hd
        simpa [dstOk] using hd
       have hput:=hr.put (d:=o.dst) (v:=.g false (.c (.v (.bool true)))) hd' trivial
       rw [hdo] at h
       have ih:=quiet_list hΓ l xs (S.put o.dst (.g false (.c (.v (.bool true))))) (a.put o.dst ((SV.g false (.c (.v (.bool true)))).den r)) K hxs h hput
       have hents:(S.put o.dst (.g false (.c (.v (.bool true))))).ents=S.ents:=by unfold St.put; split<;>rfl
       rw [hents] at ih
       unfold wpQuiet
       rw [hg]
       split
       ·rename_i hgt; cases hgt
       ·exact ih
      ·exact h.elim
    ·cases hx
   ·cases hx
  ·cases hx
theorem seq_list {Γ:Nat→Con} {ops:Array Oper} (hΓ:∀ f,COk P f (Γ f)) {K:Kont}:∀ (l:List Oper) (xl:List XOper) (S:St) (r:Rho) (a:Act) (w:World),xopsL P ops N l=some xl→vcOps Γ xl (K .norm) S →
  Rel base M N n0 r0 r S a w→wpList P ops (Post base M N n0 r0 K) l a w
 | [],xl,S,r,a,w,hx,h,hr=>by
  simp only [xopsL,Option.some.injEq] at hx
  subst hx
  exact ⟨.norm,r,S,rfl,h,hr⟩
 | o :: l,xl,S,r,a,w,hx,h,hr=>by
  simp only [xopsL] at hx
  split at hx
  ·rename_i x hxo
   split at hx
   ·rename_i hd
    split at hx
    ·rename_i xs hxs
     cases hx
     simp only [vcOps,vcOpK] at h
     have hd':∀ s,x.dst=some s→s < N:=by
      intro s hs
      rw [hs] at hd
      simpa [dstOk] using hd
     have:=vcOp_sound (Q:=Post base M N n0 r0 K) (Next:=wpList P ops (Post base M N n0 r0 K) l) hΓ hxo hd' h hr
      (fun r' S' a' w' hK hr'=>seq_list hΓ l xs S' r' a' w' hxs hK hr')
     unfold wpList
     split
     ·rename_i hg; rw [if_pos hg] at this; exact .inl this
     ·rename_i hg; rw [if_neg hg] at this; exact this
    ·cases hx
   ·cases hx
  ·cases hx
theorem wpQuiet_mono {ops:Array Oper} {C:World→Prop} {Q Q':Act→Prop} (h:∀ a,Q a→Q' a):∀ {l:List Oper} {a:Act},wpQuiet P ops C Q l a→wpQuiet P ops C Q' l a
 | [],a,hq=>h a hq
 | o :: l,a,hq=>by
  unfold wpQuiet at hq ⊢
  split
  ·rename_i hg; rw [if_pos hg] at hq; exact Oper.quiet_mono (fun a' ha'=>wpQuiet_mono h ha') hq
  ·rename_i hg; rw [if_neg hg] at hq; exact wpQuiet_mono h hq
theorem scL_sound {m:Nat→Prop}:∀ {l:List SC},scL m l→∀ x∈l,x.sc m
 | [],_,x,h=>by cases h
 | y :: l,hl,x,h=>by
  cases h with
  | head=>exact hl.1
  | tail _ hm=>exact scL_sound hl.2 x hm
theorem sc1_sound {m:Nat→Prop} {x:S1} (h:sc1 m x):x.sc m:=by
 cases x with
 | c x=>exact h
 | a cs=>exact scL_sound h
theorem sc1L_sound {m:Nat→Prop}:∀ {l:List S1},sc1L m l→∀ y∈l,y.sc m
 | [],_,y,hy=>by cases hy
 | z :: l,hl,y,hy=>by
  cases hy with
  | head=>exact sc1_sound hl.1
  | tail _ hm=>exact sc1L_sound hl.2 y hm
theorem scV_sound {m:Nat→Prop} {x:SV} (h:scV m x):x.sc m:=by
 cases x with
 | o x=>exact sc1_sound h
 | g b x=>exact sc1_sound h
 | t xs=>exact sc1L_sound h
theorem scEnv_sound {m:Nat→Prop}:∀ {l:List (Nat × SV)},scEnv m l→∀ s v,lk l s=some v→v.sc m
 | [],_,s,v,h=>by cases h
 | (i,x) :: l,hl,s,v,h=>by
  simp only [lk] at h
  split at h
  ·cases h; exact scV_sound hl.1
  ·exact scEnv_sound hl.2 s v h
theorem scE_sound {m:Nat→Prop} {x:Ent} (h:scE m x):x.sc m:=by
 cases x with
 | box cs ty=>exact scL_sound h
 | ro n sz f=>exact h
 | own n sz f ty=>exact h
 | nils=>trivial
 | dead=>trivial
 | deep o n sz f c al=>exact h
 | inn n sz f c=>trivial
 | dm _ _=>trivial
 | bx _ _ _ _=>exact h
 | itr _ _ _=>exact h
 | len _=>trivial
 | als _ _ _=>exact h
theorem scEnt_sound {m:Nat→Prop}:∀ {l:List (Nat × Ent)},scEnt m l→∀ s v,lk l s=some v→m s∧v.sc m
 | [],_,s,v,h=>by cases h
 | (i,x) :: l,hl,s,v,h=>by
  simp only [lk] at h
  split at h
  ·rename_i e; subst e; cases h; exact ⟨hl.1,scE_sound hl.2.1⟩
  ·exact scEnt_sound hl.2.2 s v h
def subR (b:Bnd) (r:Rho):Rho:=fun i=>match lk b i with | some c=>c.den r | none=>r i
theorem bndOk_at {n0:Nat}:∀ {b:Bnd},bndOk n0 b→∀ i c,lk b i=some c→(∃ k,c = .n k∧(i < n0→k=i))∨(∃ V,c = .v V∧n0≤i∧V.oneCell'=true)
 | [],_,i,c,h=>by cases h
 | (j,.n k) :: b,hb,i,c,h=>by
  simp only [lk] at h
  split at h
  ·rename_i e; subst e; cases h; exact .inl ⟨k,rfl,hb.1⟩
  ·exact bndOk_at hb.2 i c h
 | (j,.v V) :: b,hb,i,c,h=>by
  simp only [lk] at h
  split at h
  ·rename_i e; subst e; cases h; exact .inr ⟨V,rfl,hb.1,hb.2.1⟩
  ·exact bndOk_at hb.2.2 i c h
 | (j,.p _ _) :: b,hb,i,c,h=>hb.elim
 | (j,.q _ _ _ _) :: b,hb,i,c,h=>hb.elim
 | (j,.f _ _) :: b,hb,i,c,h=>hb.elim
theorem denP_sub {n0:Nat} {b:Bnd} (hb:bndOk n0 b) (r:Rho):∀ (l:List CP),denP (subR b r) l=denP r (subP b l)
 | []=>rfl
 | .v x :: l=>by simp only [denP,subP,CP.sub,CP.den,denP_sub hb r l]
 | .p i j :: l=>by
  simp only [denP,subP,denP_sub hb r l]
  congr 1
  simp only [CP.den,CP.sub,subR]
  cases h:lk b i with
  | none=>rfl
  | some c=>rcases bndOk_at hb i c h with ⟨k,rfl,_⟩ | ⟨V,rfl,_⟩<;>rfl
theorem SC.den_sub {n0:Nat} {b:Bnd} (hb:bndOk n0 b) (r:Rho) (x:SC):x.den (subR b r)=(x.sub b).den r:=by
 cases x with
 | v x=>rfl
 | n i=>
  simp only [SC.den,SC.sub,subR]
  cases lk b i with
  | none=>rfl
  | some c=>rfl
 | p i j=>
  simp only [SC.den,SC.sub,subR]
  cases h:lk b i with
  | none=>rfl
  | some c=>rcases bndOk_at hb i c h with ⟨k,rfl,_⟩ | ⟨V,rfl,_⟩<;>rfl
 | q i sz e j=>
  simp only [SC.den,SC.sub,subR]
  cases h:lk b i with
  | none=>rfl
  | some c=>rcases bndOk_at hb i c h with ⟨k,rfl,_⟩ | ⟨V,rfl,_⟩<;>rfl
 | f g cs=>simp only [SC.den,SC.sub]; rw [denP_sub hb r cs]
theorem subL_eq (b:Bnd):∀ (l:List SC),subL b l=l.map (SC.sub b)
 | []=>rfl
 | x :: l=>by simp [subL,subL_eq b l]
theorem sub1L_eq (b:Bnd):∀ (l:List S1),sub1L b l=l.map (S1.sub b)
 | []=>rfl
 | x :: l=>by simp [sub1L,sub1L_eq b l]
theorem S1.den_sub {n0:Nat} {b:Bnd} (hb:bndOk n0 b) (r:Rho) (x:S1):x.den (subR b r)=(x.sub b).den r:=by
 cases x with
 | c x=>exact SC.den_sub hb r x
 | a cs=>
  simp only [S1.den,S1.sub,subL_eq,List.map_map]
  congr 2
  exact List.map_congr_left fun x _=>SC.den_sub hb r x
theorem SV.den_sub {n0:Nat} {b:Bnd} (hb:bndOk n0 b) (r:Rho) (x:SV):x.den (subR b r)=(x.sub b).den r:=by
 cases x with
 | o x=>exact S1.den_sub hb r x
 | g c x=>simp only [SV.den,SV.sub]; rw [S1.den_sub hb r x]
 | t xs=>
  simp only [SV.den,SV.sub,sub1L_eq,List.map_map]
  congr 2
  exact List.map_congr_left fun x _=>S1.den_sub hb r x
theorem mapEq_map {τ:SC→SC}:∀ {l k:List SC},mapEq τ l k→l=k.map τ
 | [],[],_=>rfl
 | x :: l,y :: k,h=>by rw [List.map_cons,h.1,mapEq_map h.2]
 | [],_ :: _,h=>h.elim
 | _ :: _,[],h=>h.elim
theorem cEq_row {V:Value} {x:Option (Nat × Nat × (Nat→Nat→Value))} {n s:Nat} {g:Nat→Nat→Value} (h:cEq x (some (n,s,g))) (hx:∀ n' s' g',x=some (n',s',g')→rowIs w V n' s' g'):rowIs w V n s g:=by
 cases x with
 | none=>exact h.elim
 | some x=>
  obtain ⟨n',s',g'⟩:=x
  obtain ⟨h1,h2,h3⟩:=h
  subst h1
  obtain ⟨a,cap,g1,g2,g3,g4⟩:=hx _ _ _ rfl
  refine ⟨a,cap,g1,g2,g3,fun hn=>?_⟩
  obtain rfl:s'=s:=h2.resolve_left (Nat.ne_of_gt hn)
  obtain ⟨b,o,k1,k2,k3⟩:=g4 hn
  exact ⟨b,o,k1,k2,fun e j he hj=>by rw [h3 e j he hj]; exact k3 e j he hj⟩
theorem cEq_some {x y:Option (Nat × Nat × (Nat→Nat→Value))} (h:cEq x y) (hy:y.isSome=true):x.isSome=true:=by
 cases y with
 | none=>cases hy
 | some y=>
  cases x with
  | none=>exact h.elim
  | some x=>rfl
theorem cEq_refl (x:Option (Nat × Nat × (Nat→Nat→Value))):cEq x x:=by
 cases x with
 | none=>trivial
 | some x=>exact ⟨rfl,.inr rfl,fun _ _ _ _=>rfl⟩
theorem deepEq_inner {n sz:Nat} {f f':Nat→Nat→Value} {c c':Nat→Nat→Option (Nat × Nat × (Nat→Nat→Value))} (h:deepEq n sz f c f' c') (h2:innerIs w n sz f c):innerIs w n sz f' c':=by
 intro e j n' sz' g he hj hc
 obtain ⟨h3,h4⟩:=h e j he hj
 rw [h3]
 rw [hc] at h4
 exact cEq_row h4 fun n1 s1 g1 hx=>h2 e j n1 s1 g1 he hj hx
theorem deepEq_innerB {n sz:Nat} {f f':Nat→Nat→Value} {c c':Nat→Nat→Option (Nat × Nat × (Nat→Nat→Value))} (h:deepEq n sz f c f' c') {b:Nat} (h2:innerB n sz f' c' b):innerB n sz f c b:=by
 obtain ⟨e,j,he,hj,h3,h4⟩:=h2
 exact ⟨e,j,he,hj,cEq_some (h e j he hj).2 h3,by rw [← (h e j he hj).1]; exact h4⟩
theorem deepEq_row {n sz:Nat} {V:Value} {f f':Nat→Nat→Value} {c c':Nat→Nat→Option (Nat × Nat × (Nat→Nat→Value))} (h:deepEq n sz f c f' c') (h2:rowIs w V n sz f):rowIs w V n sz f':=by
 obtain ⟨a,cap,g1,g2,g3,g4⟩:=h2
 refine ⟨a,cap,g1,g2,g3,fun hn=>?_⟩
 obtain ⟨b,o,k1,k2,k3⟩:=g4 hn
 exact ⟨b,o,k1,k2,fun e j he hj=>by rw [k3 e j he hj,(h e j he hj).1]⟩
theorem deepEq_own {n sz:Nat} {V:Value} {ty:TypeId} {f f':Nat→Nat→Value} {c c':Nat→Nat→Option (Nat × Nat × (Nat→Nat→Value))} (h:deepEq n sz f c f' c') (h2:ownIs w V n sz f ty):ownIs w V n sz f' ty:=by
 obtain ⟨g0,g⟩:=h2
 refine ⟨g0,?_⟩
 rcases g with ⟨b,o,cap,cur,k1,k2,k3,k4,k5,k6⟩ | g
 ·exact .inl ⟨b,o,cap,cur,k1,k2,k3,k4,k5,fun e j he hj=>by rw [k6 e j he hj,(h e j he hj).1]⟩
 ·exact .inr g
theorem ownIs_row {n sz:Nat} {V:Value} {ty:TypeId} {f:Nat→Nat→Value} (h2:ownIs w V n sz f ty):rowIs w V n sz f:=by
 obtain ⟨g0,g⟩:=h2
 rcases g with ⟨b,o,cap,cur,k1,k2,k3,k4,k5,k6⟩ | ⟨a,k1,k2⟩
 ·exact ⟨_,cap,k1,k3,g0,fun hn=>⟨b,o,rfl,k2.lt,fun e j he hj=>by rw [k2.cell,k6 e j he hj]⟩⟩
 ·exact ⟨a,0,by rw [k1,k2],by omega,g0,fun hn=>by omega⟩
theorem deepOf_innerB {n sz:Nat} {f:Nat→Nat→SC} {f':Nat→Nat→Value} {c':Nat→Nat→Option (Nat × Nat × (Nat→Nat→Value))} (h:deepOf n sz f f' c') {b:Nat}:¬ innerB n sz f' c' b:=by
 rintro ⟨e,j,he,hj,h3,h4⟩
 rcases (h e j he hj).2 with h5 | ⟨h5,_⟩
 ·rw [h5] at h3
  cases h3
 ·rw [h5] at h4
  cases h4
theorem deepOf_inner {n sz:Nat} {f:Nat→Nat→SC} {f':Nat→Nat→Value} {c':Nat→Nat→Option (Nat × Nat × (Nat→Nat→Value))} (h:deepOf n sz f f' c'):innerIs w n sz f' c':=by
 intro e j n' sz' g he hj hc
 rcases (h e j he hj).2 with h5 | ⟨h5,s,g',h6⟩
 ·rw [h5] at hc
  cases hc
 ·rw [h6] at hc
  cases hc
  rw [h5]
  exact ⟨none,0,rfl,by omega,by omega,fun hn=>by omega⟩
theorem deepOf_own {n sz:Nat} {V:Value} {ty:TypeId} {f:Nat→Nat→SC} {f':Nat→Nat→Value} {c':Nat→Nat→Option (Nat × Nat × (Nat→Nat→Value))} (h:deepOf n sz f f' c') {r:Rho} (h2:(Ent.own n sz f ty).rel r w V):ownIs w V n sz f' ty:=by
 obtain ⟨g0,g⟩:=h2
 refine ⟨g0,?_⟩
 rcases g with ⟨b,o,cap,cur,k1,k2,k3,k4,k5,k6⟩ | g
 ·exact .inl ⟨b,o,cap,cur,k1,k2,k3,k4,k5,fun e j he hj=>by rw [k6 e j he hj,(h e j he hj).1]; rfl⟩
 ·exact .inr g
theorem deepOf_row {n sz:Nat} {V:Value} {f:Nat→Nat→SC} {f':Nat→Nat→Value} {c':Nat→Nat→Option (Nat × Nat × (Nat→Nat→Value))} (h:deepOf n sz f f' c') {r:Rho} (h2:(Ent.ro n sz f).rel r w V):rowIs w V n sz f':=by
 obtain ⟨a,cap,g1,g2,g3,g4⟩:=h2
 refine ⟨a,cap,g1,g2,g3,fun hn=>?_⟩
 obtain ⟨b,o,k1,k2,k3⟩:=g4 hn
 exact ⟨b,o,k1,k2,fun e j he hj=>by rw [k3 e j he hj,(h e j he hj).1]; rfl⟩
theorem innerB_zero {sz b:Nat} {f:Nat→Nat→Value} {c:Nat→Nat→Option (Nat × Nat × (Nat→Nat→Value))}:¬ innerB 0 sz f c b:=by
 rintro ⟨e,j,he,_⟩; omega
theorem alMem_is {τ:SC→SC} {r r':Rho} {f:Nat→Nat→Value} (hτ:∀ x,(τ x).den r=x.den r') {e' j' c':Nat}:∀ {al:List (Nat × Nat × Nat)},alMem τ al e' j' c'→alIs r f al→r' c'=f e' j'
 | [],h,_=>h.elim
 | (e,j,c) :: l,h,⟨h8,h9⟩=>by
  rcases h with ⟨h1,h2,h3⟩ | h
  ·subst h1; subst h2
   have h10:(SC.n c').den r'=(SC.n c).den r:=by rw [h3,hτ]
   have h11:r' c'=r c:=h10
   rw [h11,h8]
  ·exact alMem_is hτ h h9
theorem alEq_is {τ:SC→SC} {r r':Rho} {n sz:Nat} {f f':Nat→Nat→Value} {c c':Nat→Nat→Option (Nat × Nat × (Nat→Nat→Value))} (hτ:∀ x,(τ x).den r=x.den r') (hd:deepEq n sz f c f' c') {al:List (Nat × Nat × Nat)} (h9:alIs r f al):∀ {al':List (Nat × Nat × Nat)},alEq τ al al'→alIn n sz al'→alIs r' f' al'
 | [],_,_=>trivial
 | (e',j',c') :: l',⟨h1,h4⟩,⟨h5,h6,h7⟩=>⟨by rw [alMem_is hτ h1 h9,(hd e' j' h5 h6).1],alEq_is hτ hd h9 h4 h7⟩
theorem deep_nil {o:Option TypeId} {sz:Nat} {f:Nat→Nat→Value} {c:Nat→Nat→Option (Nat × Nat × (Nat→Nat→Value))} {r':Rho} {a:Option Addr}:(Ent.deep o 0 sz f c []).rel r' w (.slice a 0 0):=by
 refine ⟨?_,fun e j n' sz' g he=>by omega,trivial⟩
 cases o with
 | none=>exact ⟨a,0,rfl,by omega,by omega,fun hn=>by omega⟩
 | some ty=>exact ⟨⟨by omega,.inr ⟨a,rfl,rfl⟩⟩,fun b _=>innerB_zero⟩
theorem DM.frz_val (d:DM):d.frz.val=d.val∧d.frz.x=d.x∧d.frz.y=d.y∧d.frz.row.isSome=d.row.isSome∧d.frz.own=false:=by
 unfold DM.frz DM.own
 split
 ·rename_i h; simp [h]
 ·rename_i h
  exact ⟨rfl,rfl,rfl,rfl,by rw [h]⟩
theorem dmB_frz {l:List DM} {b:Nat} (h:dmB (l.map DM.frz) b):dmB l b:=by
 obtain ⟨d,h1,h2,h3⟩:=h
 obtain ⟨d0,h4,rfl⟩:=List.mem_map.1 h1
 obtain ⟨g1,_,_,g4,_⟩:=DM.frz_val d0
 exact ⟨d0,h4,by rw [← g4]; exact h2,by rw [← g1]; exact h3⟩
theorem dmW_frz {l:List DM} {b:Nat}:¬ dmW (l.map DM.frz) b:=by
 rintro ⟨d,h1,h2,_⟩
 obtain ⟨d0,_,rfl⟩:=List.mem_map.1 h1
 rw [(DM.frz_val d0).2.2.2.2] at h2
 cases h2
theorem dm_frz {r r':Rho} {k:Bool} {l:List DM} {V:Value} (h:(Ent.dm k l).rel r w V):(Ent.dm k (l.map DM.frz)).rel r' w V:=by
 obtain ⟨⟨b,es,clock,h1,h2,h3,h4,h5⟩,h6,h7⟩:=h
 refine ⟨⟨b,es,clock,h1,h2,?_,h4,fun hb=>h5 (dmB_frz hb)⟩,?_,?_⟩
 ·rw [h3,List.map_map]
  refine List.map_congr_left fun d _=>?_
  obtain ⟨g1,g2,g3,_⟩:=DM.frz_val d
  simp only [Function.comp,g1,g2,g3]
 ·intro d hd o n sz g hr
  obtain ⟨d0,hd0,rfl⟩:=List.mem_map.1 hd
  rw [(DM.frz_val d0).1]
  unfold DM.frz at hr
  split at hr
  ·rename_i o0 rr h8
   cases hr
   have:=h6 d0 hd0 o0 n sz g h8
   cases o0 with
   | none=>exact this
   | some ty=>exact own_to_row this
  ·rename_i h8
   rw [h8] at hr; cases hr
 ·intro i j d d' b hi hj hij ho
  rw [List.getElem?_map] at hi
  cases hi':l[i]? with
  | none=>rw [hi'] at hi; cases hi
  | some d0=>
   rw [hi'] at hi
   cases hi
   rw [(DM.frz_val d0).2.2.2.2] at ho
   cases ho
theorem leE_rel {τ:SC→SC} {r':Rho} {V:Value} (hτ:∀ x,(τ x).den r=x.den r'):∀ {e e':Ent},leE τ e e'→e.rel r w V→e'.rel r' w V
 | .box cs ty,.box cs' ty',⟨h1,h2⟩,⟨b,h3,h4⟩=>⟨b,h3,by
   rw [mapEq_map h2,List.map_map] at h4
   rw [← h1]
   have:cs'.map (SC.den r')=cs'.map (SC.den r ∘ τ):=List.map_congr_left fun x _=>(hτ x).symm
   rw [this]; exact h4⟩
 | .ro n sz f,.ro n' sz' f',⟨h1,h2,h3⟩,⟨a,cap,g1,g2,g3,g4⟩=>by
  subst h1
  refine ⟨a,cap,g1,g2,g3,fun hn=>?_⟩
  obtain rfl:sz=sz':=h2.resolve_left (Nat.ne_of_gt hn)
  obtain ⟨b,o,k1,k2,k3⟩:=g4 hn
  exact ⟨b,o,k1,k2,fun e j he hj=>by rw [k3 e j he hj,h3 e j he hj,hτ]⟩
 | .own n sz f ty,.own n' sz' f' ty',⟨h1,h2,h0,h3⟩,⟨g0,g⟩=>by
  subst h1; subst h2; subst h0
  refine ⟨g0,?_⟩
  rcases g with ⟨b,o,cap,cur,k1,k2,k3,k4,k5,k6⟩ | g
  ·exact .inl ⟨b,o,cap,cur,k1,k2,k3,k4,k5,fun e j he hj=>by rw [k6 e j he hj,h3 e j he hj,hτ]⟩
  ·exact .inr g
 | .own n sz f ty,.ro n' sz' f',⟨h1,h2,h3⟩,⟨g0,g⟩=>by
  subst h1
  rcases g with ⟨b,o,cap,cur,k1,k2,k3,k4,k5,k6⟩ | ⟨a,k1,k2⟩
  ·refine ⟨_,cap,k1,k3,g0,fun hn=>?_⟩
   obtain rfl:sz=sz':=h2.resolve_left (Nat.ne_of_gt hn)
   exact ⟨b,o,rfl,k2.lt,fun e j he hj=>by rw [k2.cell,k6 e j he hj,h3 e j he hj,hτ]⟩
  ·exact ⟨a,0,by rw [k1,k2],by omega,g0,fun hn=>by omega⟩
 | .nils,.own n' sz' f' ty',h,⟨a,g⟩=>by
  have h:n'=0:=h
  subst h
  exact ⟨by omega,.inr ⟨a,g,rfl⟩⟩
 | .nils,.ro n' sz' f',h,⟨a,g⟩=>by
  have h:n'=0:=h
  subst h
  exact ⟨a,0,g,by omega,by omega,fun hn=>by omega⟩
 | .nils,.nils,_,h=>h
 | .dm k l,.dm k' l',⟨h1,h2⟩,g=>by
  subst h1
  rcases h2 with rfl | rfl
  ·exact g
  ·exact dm_frz g
 | .itr i m sn,.itr i' m' sn',⟨h1,h2,h3⟩,⟨rb,b,g1,g2,g3⟩=>by
  subst h2; subst h3
  have:=hτ (.n i')
  rw [← h1] at this
  exact ⟨rb,b,g1,by simp only [SC.den] at this; rw [← this]; exact g2,g3⟩
 | .bx n f ty p,.bx n' f' ty' p',⟨h1,h2,h3,h4,h5⟩,⟨⟨b,g1,g2,g3⟩,g4,g5⟩=>by
  subst h1; subst h2; subst h4
  refine ⟨⟨b,g1,?_,g3⟩,fun i j U s hp=>Sub.rel_ext (fun k hk=>absurd (by rw [← hk]; exact hp) (h5 i j U k)) (g4 i j U s hp),g5⟩
  have:(rngS n f').map (SC.den r')=(rngS n f).map (SC.den r):=by
   unfold rngS
   rw [List.map_map,List.map_map]
   exact List.map_congr_left fun j hj=>by
    show (f' j).den r'=(f j).den r
    rw [h3 j (List.mem_range.1 hj),hτ]
  rw [this]; exact g2
 | .deep o n sz f c al,.deep o' n' sz' f' c' al',⟨h1,h2,h3,h4,h5,h6⟩,⟨g1,g2,g3⟩=>by
  subst h2; subst h3
  refine ⟨?_,deepEq_inner h4 g2,alEq_is hτ h4 g3 h5 h6⟩
  rcases h1 with h1 | h1
  ·subst h1
   cases o' with
   | none=>exact deepEq_row h4 g1
   | some ty=>exact ⟨deepEq_own h4 g1.1,fun b hb hi=>g1.2 b hb (deepEq_innerB h4 hi)⟩
  ·subst h1
   cases o with
   | none=>exact deepEq_row h4 g1
   | some ty=>exact deepEq_row h4 (ownIs_row g1.1)
 | .own n sz f ty,.deep o' n' sz' f' c' al',⟨h1,h2,h3,h4,h5⟩,g=>by
  subst h2; subst h3; subst h5
  refine ⟨?_,deepOf_inner h4,trivial⟩
  rcases h1 with h1 | h1
  ·subst h1
   exact ⟨deepOf_own h4 g,fun b _=>deepOf_innerB h4⟩
  ·subst h1
   exact ownIs_row (deepOf_own h4 g)
 | .ro n sz f,.deep o' n' sz' f' c' al',⟨h1,h2,h3,h4,h5⟩,g=>by
  subst h1; subst h2; subst h3; subst h5
  exact ⟨deepOf_row h4 g,deepOf_inner h4,trivial⟩
 | .nils,.deep o' n' sz' f' c' al',⟨h,h5⟩,⟨a,g⟩=>by
  subst h; subst h5
  subst g
  exact deep_nil
 | .deep o n sz f c al,.ro n' sz' f',⟨h1,h2,h3⟩,g=>by
  subst h1
  obtain ⟨a,cap,g1,g2,g3,g4⟩:=deep_row g
  refine ⟨a,cap,g1,g2,g3,fun hn=>?_⟩
  obtain rfl:sz=sz':=h2.resolve_left (Nat.ne_of_gt hn)
  obtain ⟨b,o,k1,k2,k3⟩:=g4 hn
  exact ⟨b,o,k1,k2,fun e j he hj=>by
   rw [k3 e j he hj]
   have:=h3 e j he hj
   have e2:=hτ (f' e j)
   rw [← this,alF_den g.2.2] at e2
   rw [← e2]⟩
 | .len n,.len n',h,g=>by
  have h:n=n':=h
  subst h; exact g
 | e,.dead,_,_=>trivial
 | .box _ _,.ro _ _ _,h,_=>h.elim
 | .box _ _,.own _ _ _ _,h,_=>h.elim
 | .box _ _,.nils,h,_=>h.elim
 | .box _ _,.dm _ _,h,_=>h.elim
 | .box _ _,.deep _ _ _ _ _ _,h,_=>h.elim
 | .box _ _,.inn _ _ _ _,h,_=>h.elim
 | .box _ _,.itr _ _ _,h,_=>h.elim
 | .box _ _,.len _,h,_=>h.elim
 | .ro _ _ _,.box _ _,h,_=>h.elim
 | .ro _ _ _,.own _ _ _ _,h,_=>h.elim
 | .ro _ _ _,.nils,h,_=>h.elim
 | .ro _ _ _,.dm _ _,h,_=>h.elim
 | .ro _ _ _,.inn _ _ _ _,h,_=>h.elim
 | .ro _ _ _,.itr _ _ _,h,_=>h.elim
 | .ro _ _ _,.len _,h,_=>h.elim
 | .own _ _ _ _,.box _ _,h,_=>h.elim
 | .own _ _ _ _,.nils,h,_=>h.elim
 | .own _ _ _ _,.dm _ _,h,_=>h.elim
 | .own _ _ _ _,.inn _ _ _ _,h,_=>h.elim
 | .own _ _ _ _,.itr _ _ _,h,_=>h.elim
 | .own _ _ _ _,.len _,h,_=>h.elim
 | .nils,.box _ _,h,_=>h.elim
 | .nils,.dm _ _,h,_=>h.elim
 | .nils,.inn _ _ _ _,h,_=>h.elim
 | .nils,.itr _ _ _,h,_=>h.elim
 | .nils,.len _,h,_=>h.elim
 | .dead,.box _ _,h,_=>h.elim
 | .dead,.ro _ _ _,h,_=>h.elim
 | .dead,.own _ _ _ _,h,_=>h.elim
 | .dead,.nils,h,_=>h.elim
 | .dead,.dm _ _,h,_=>h.elim
 | .dead,.deep _ _ _ _ _ _,h,_=>h.elim
 | .dead,.inn _ _ _ _,h,_=>h.elim
 | .dead,.itr _ _ _,h,_=>h.elim
 | .dead,.len _,h,_=>h.elim
 | .dm _ _,.box _ _,h,_=>h.elim
 | .dm _ _,.ro _ _ _,h,_=>h.elim
 | .dm _ _,.own _ _ _ _,h,_=>h.elim
 | .dm _ _,.nils,h,_=>h.elim
 | .dm _ _,.deep _ _ _ _ _ _,h,_=>h.elim
 | .dm _ _,.inn _ _ _ _,h,_=>h.elim
 | .dm _ _,.itr _ _ _,h,_=>h.elim
 | .dm _ _,.len _,h,_=>h.elim
 | .deep _ _ _ _ _ _,.box _ _,h,_=>h.elim
 | .deep _ _ _ _ _ _,.own _ _ _ _,h,_=>h.elim
 | .deep _ _ _ _ _ _,.nils,h,_=>h.elim
 | .deep _ _ _ _ _ _,.dm _ _,h,_=>h.elim
 | .deep _ _ _ _ _ _,.inn _ _ _ _,h,_=>h.elim
 | .deep _ _ _ _ _ _,.itr _ _ _,h,_=>h.elim
 | .deep _ _ _ _ _ _,.len _,h,_=>h.elim
 | .inn _ _ _ _,.box _ _,h,_=>h.elim
 | .inn _ _ _ _,.ro _ _ _,h,_=>h.elim
 | .inn _ _ _ _,.own _ _ _ _,h,_=>h.elim
 | .inn _ _ _ _,.nils,h,_=>h.elim
 | .inn _ _ _ _,.dm _ _,h,_=>h.elim
 | .inn _ _ _ _,.deep _ _ _ _ _ _,h,_=>h.elim
 | .inn _ _ _ _,.inn _ _ _ _,h,_=>h.elim
 | .inn _ _ _ _,.itr _ _ _,h,_=>h.elim
 | .inn _ _ _ _,.len _,h,_=>h.elim
 | .itr _ _ _,.box _ _,h,_=>h.elim
 | .itr _ _ _,.ro _ _ _,h,_=>h.elim
 | .itr _ _ _,.own _ _ _ _,h,_=>h.elim
 | .itr _ _ _,.nils,h,_=>h.elim
 | .itr _ _ _,.dm _ _,h,_=>h.elim
 | .itr _ _ _,.deep _ _ _ _ _ _,h,_=>h.elim
 | .itr _ _ _,.inn _ _ _ _,h,_=>h.elim
 | .itr _ _ _,.len _,h,_=>h.elim
 | .len _,.box _ _,h,_=>h.elim
 | .len _,.ro _ _ _,h,_=>h.elim
 | .len _,.own _ _ _ _,h,_=>h.elim
 | .len _,.nils,h,_=>h.elim
 | .len _,.dm _ _,h,_=>h.elim
 | .len _,.deep _ _ _ _ _ _,h,_=>h.elim
 | .len _,.inn _ _ _ _,h,_=>h.elim
 | .len _,.itr _ _ _,h,_=>h.elim
 | .box _ _,.als _ _ _,h,_=>h.elim
 | .als _ _ _,.box _ _,h,_=>h.elim
 | .ro _ _ _,.als _ _ _,h,_=>h.elim
 | .als _ _ _,.ro _ _ _,h,_=>h.elim
 | .own _ _ _ _,.als _ _ _,h,_=>h.elim
 | .als _ _ _,.own _ _ _ _,h,_=>h.elim
 | .nils,.als _ _ _,h,_=>h.elim
 | .als _ _ _,.nils,h,_=>h.elim
 | .dead,.als _ _ _,h,_=>h.elim
 | .dm _ _,.als _ _ _,h,_=>h.elim
 | .als _ _ _,.dm _ _,h,_=>h.elim
 | .deep _ _ _ _ _ _,.als _ _ _,h,_=>h.elim
 | .als _ _ _,.deep _ _ _ _ _ _,h,_=>h.elim
 | .inn _ _ _ _,.als _ _ _,h,_=>h.elim
 | .als _ _ _,.inn _ _ _ _,h,_=>h.elim
 | .itr _ _ _,.als _ _ _,h,_=>h.elim
 | .als _ _ _,.itr _ _ _,h,_=>h.elim
 | .len _,.als _ _ _,h,_=>h.elim
 | .als _ _ _,.len _,h,_=>h.elim
 | .als _ _ _,.als _ _ _,h,_=>h.elim
 | .bx _ _ _ _,.box _ _,h,_=>h.elim
 | .box _ _,.bx _ _ _ _,h,_=>h.elim
 | .bx _ _ _ _,.ro _ _ _,h,_=>h.elim
 | .ro _ _ _,.bx _ _ _ _,h,_=>h.elim
 | .bx _ _ _ _,.own _ _ _ _,h,_=>h.elim
 | .own _ _ _ _,.bx _ _ _ _,h,_=>h.elim
 | .bx _ _ _ _,.nils,h,_=>h.elim
 | .nils,.bx _ _ _ _,h,_=>h.elim
 | .bx _ _ _ _,.deep _ _ _ _ _ _,h,_=>h.elim
 | .deep _ _ _ _ _ _,.bx _ _ _ _,h,_=>h.elim
 | .bx _ _ _ _,.inn _ _ _ _,h,_=>h.elim
 | .inn _ _ _ _,.bx _ _ _ _,h,_=>h.elim
 | .bx _ _ _ _,.len _,h,_=>h.elim
 | .len _,.bx _ _ _ _,h,_=>h.elim
 | .bx _ _ _ _,.als _ _ _,h,_=>h.elim
 | .als _ _ _,.bx _ _ _ _,h,_=>h.elim
 | .bx _ _ _ _,.dm _ _,h,_=>h.elim
 | .dm _ _,.bx _ _ _ _,h,_=>h.elim
 | .bx _ _ _ _,.itr _ _ _,h,_=>h.elim
 | .itr _ _ _,.bx _ _ _ _,h,_=>h.elim
 | .dead,.bx _ _ _ _,h,_=>h.elim
theorem leE_live {τ:SC→SC} {e e':Ent} (h:leE τ e e') (hl:e'.live=true):e.live=true:=by
 cases e<;>cases e'<;>first | rfl | exact h.elim | cases hl
theorem leE_mut {τ:SC→SC} {e e':Ent} (h:leE τ e e') (hm:e'.mut=true):e.mut=true∨e = .nils:=by
 cases e<;>cases e'<;>first | exact .inl rfl | exact .inr rfl | exact h.elim | (cases hm; done) | (rcases h.1 with h1 | h1<;>subst h1<;>first | exact .inl hm | cases hm) | (have h1:=h.1; subst h1; cases hm)
theorem leE_inB {τ:SC→SC} {e e':Ent} (h:leE τ e e') {b:Nat} (hb:e'.inB b):e.inB b:=by
 cases e<;>cases e'<;>first | exact hb.elim | exact h.elim | skip
 ·exact (deepOf_innerB (by obtain ⟨_,h2,h3,h4,_⟩:=h; subst h2; subst h3; exact h4) hb).elim
 ·exact (deepOf_innerB (by obtain ⟨_,h2,h3,h4,_⟩:=h; subst h2; subst h3; exact h4) hb).elim
 ·obtain ⟨h,_⟩:=h
  subst h
  exact (innerB_zero hb).elim
 ·obtain ⟨_,h2,h3,h4,_⟩:=h
  subst h2; subst h3
  exact deepEq_innerB h4 hb
 ·rcases h.2 with h1 | h1
  ·subst h1; exact hb
  ·subst h1; exact dmB_frz hb
 ·obtain ⟨_,_,_,h4,_⟩:=h
  subst h4; exact hb
theorem leE_wB {τ:SC→SC} {e e':Ent} (h:leE τ e e') {b:Nat} (hb:e'.wB b):e.wB b:=by
 cases e'<;>first | exact hb.elim | skip
 ·cases e<;>first | exact h.elim | skip
  rcases h.2 with h1 | h1
  ·subst h1; exact hb
  ·subst h1; exact (dmW_frz hb).elim
 ·cases e<;>first | exact h.elim | skip
  obtain ⟨_,_,_,h4,_⟩:=h
  subst h4; exact hb
theorem nilE_inB {e':Ent} (h:nilE e') {b:Nat}:¬ e'.inB b:=by
 cases e'<;>first | exact fun hb=>hb | exact h.elim | skip
 obtain ⟨h,_⟩:=h
 subst h
 exact innerB_zero
theorem nilE_rel {r':Rho}:∀ {e':Ent},nilE e'→e'.rel r' w (.slice none 0 0)
 | .own n _ _ _,h=>by have h:n=0:=h; subst h; exact ⟨by omega,.inr ⟨none,rfl,rfl⟩⟩
 | .ro n _ _,h=>by have h:n=0:=h; subst h; exact ⟨none,0,rfl,by omega,by omega,fun hn=>by omega⟩
 | .nils,_=>⟨none,rfl⟩
 | .dead,_=>trivial
 | .deep _ n _ _ _ al,h=>by obtain ⟨h,h5⟩:=h; subst h; subst h5; exact deep_nil
 | .box _ _,h=>h.elim
 | .dm _ _,h=>h.elim
 | .inn _ _ _ _,h=>h.elim
 | .itr _ _ _,h=>h.elim
 | .len _,h=>h.elim
 | .als _ _ _,h=>h.elim
 | .bx _ _ _ _,h=>h.elim
theorem leEnv_sound {b:Bnd} {env:List (Nat × SV)}:∀ {l:List (Nat × SV)},leEnv b env l→∀ s v,lk l s=some v→lk env s=some (v.sub b)
 | [],_,s,v,h=>by cases h
 | (i,x) :: l,hl,s,v,h=>by
  simp only [lk] at h
  split at h
  ·rename_i e; subst e; cases h; exact hl.1
  ·exact leEnv_sound hl.2 s v h
theorem leEnt_sound {b:Bnd} {ents:List (Nat × Ent)}:∀ {l:List (Nat × Ent)},leEnt b ents l→∀ i e,lk l i=some e→leAt b ents i e
 | [],_,s,v,h=>by cases h
 | (i,x) :: l,hl,s,v,h=>by
  simp only [lk] at h
  split at h
  ·rename_i e; subst e; cases h; exact hl.1
  ·exact leEnt_sound hl.2 s v h
theorem outN_mem {i:Nat}:∀ {l:List Nat},outN i l→i ∉ l
 | [],_=>by simp
 | j :: l,h=>by simp only [List.mem_cons,not_or]; exact ⟨fun e=>h.1 e.symm,outN_mem h.2⟩
theorem imgs_mem {b:Bnd} {i k:Nat} {e:Ent} (hk:imgB b i=some k) (hl:e.live=true):∀ {l:List (Nat × Ent)},lk l i=some e→k∈imgs b l
 | (j,e') :: l,h=>by
  simp only [lk] at h
  split at h
  ·rename_i hj
   subst hj
   cases h
   cases e<;>first | (cases hl; done) | simp [imgs,hk]
  ·have:=imgs_mem hk hl h
   cases e'<;>simp only [imgs,List.mem_append]<;>first | exact this | exact .inr this
theorem imgs_apart {b:Bnd} {i j k:Nat} {e e':Ent} (hij:i≠j) (hi:imgB b i=some k) (hj:imgB b j=some k) (hl:e.live=true) (hl':e'.live=true):∀ {l:List (Nat × Ent)},nodupN (imgs b l)→lk l i=some e→lk l j=some e'→False
 | (m,x) :: l,hn,h1,h2=>by
  have hx:x.live=true→∃ rest,imgs b ((m,x) :: l)=(match imgB b m with | some k=>[k] | none=>[])++rest∧rest=imgs b l:=by
   intro hx
   cases x<;>first | (cases hx; done) | exact ⟨_,rfl,rfl⟩
  have hrest:nodupN (imgs b l):=by
   cases x<;>simp only [imgs] at hn<;>first | exact hn | (cases hm:imgB b m<;>rw [hm] at hn<;>simp only [List.nil_append,List.singleton_append] at hn<;>first | exact hn | exact hn.2)
  simp only [lk] at h1 h2
  by_cases hmi:m=i
  ·rw [if_pos hmi] at h1
   cases h1
   subst hmi
   rw [if_neg hij] at h2
   obtain ⟨rest,g1,g2⟩:=hx hl
   rw [g1,hi,g2] at hn
   exact outN_mem hn.1 (imgs_mem hj hl' h2)
  ·rw [if_neg hmi] at h1
   by_cases hmj:m=j
   ·rw [if_pos hmj] at h2
    cases h2
    subst hmj
    obtain ⟨rest,g1,g2⟩:=hx hl'
    rw [g1,hj,g2] at hn
    exact outN_mem hn.1 (imgs_mem hi hl h1)
   ·rw [if_neg hmj] at h2
    exact imgs_apart hij hi hj hl hl' hrest h1 h2
theorem leAt_cases {b:Bnd} {ents:List (Nat × Ent)} {i:Nat} {e':Ent} (h:leAt b ents i e'):(lk b i=some (.v (.slice none 0 0))∧nilE e')∨∃ k e,imgB b i=some k∧lk ents k=some e∧leE (SC.sub b) e e':=by
 unfold leAt at h
 split at h
 ·rename_i hb; exact .inl ⟨hb,h⟩
 ·split at h
  ·rename_i k hk
   split at h
   ·rename_i e he; exact .inr ⟨k,e,hk,he,h⟩
   ·exact h.elim
  ·exact h.elim
theorem subR_img {b:Bnd} {i k:Nat} (h:imgB b i=some k):subR b r i=r k:=by
 unfold imgB at h
 unfold subR
 split at h
 ·rename_i hb; rw [hb]; cases h; rfl
 ·cases h
 ·rename_i hb; rw [hb]; cases h; rfl
theorem HeapRel.le {b:Bnd} {ents ents':List (Nat × Ent)} (h:HeapRel base M r (lk ents) w) (hb:bndOk n0 b) (hl:leEnt b ents ents') (hn:nodupN (imgs b ents')):HeapRel base M (subR b r) (lk ents') w:=by
 have hrel:∀ i e',lk ents' i=some e'→e'.rel (subR b r) w (subR b r i):=by
  intro i e' he
  rcases leAt_cases (leEnt_sound hl i e' he) with ⟨h1,h2⟩ | ⟨k,e,h1,h2,h3⟩
  ·have:subR b r i = .slice none 0 0:=by unfold subR; rw [h1]; rfl
   rw [this]; exact nilE_rel h2
  ·rw [subR_img h1]
   exact leE_rel (fun x=>(SC.den_sub hb r x).symm) h3 (h.ent k e h2)
 have hblk:∀ i e',lk ents' i=some e'→e'.live=true→∀ bb,foot e' (subR b r i) bb→∃ k e,imgB b i=some k∧lk ents k=some e∧e.live=true∧foot e (r k) bb∧(e'.mut=true→wfoot e' (subR b r i) bb→e.mut=true∧wfoot e (r k) bb):=by
  intro i e' he hlv bb hbb
  rcases leAt_cases (leEnt_sound hl i e' he) with ⟨h1,h2⟩ | ⟨k,e,h1,h2,h3⟩
  ·have:subR b r i = .slice none 0 0:=by unfold subR; rw [h1]; rfl
   rw [this] at hbb
   rcases hbb with hbb | hbb
   ·cases hbb
   ·exact (nilE_inB h2 hbb).elim
  ·rw [subR_img h1] at hbb ⊢
   refine ⟨k,e,h1,h2,leE_live h3 hlv,hbb.imp id (leE_inB h3),fun hm hbb=>?_⟩
   have hbb':=hbb.imp id (leE_wB h3)
   refine ⟨?_,hbb'⟩
   rcases leE_mut h3 hm with g | rfl
   ·exact g
   ·obtain ⟨a,ha⟩:=h.ent k _ h2
    rw [ha] at hbb'
    rcases hbb' with hbb' | hbb'
    ·cases a<;>simp [blkOf] at hbb'
    ·exact hbb'.elim
 refine ⟨h.size,fun i=>?_,h.os,h.tape,h.output,h.frame,hrel,?_,?_,?_⟩
 ·unfold subR
  split
  ·rename_i c hc
   rcases bndOk_at hb i c hc with ⟨k,rfl,_⟩ | ⟨V,rfl,_,hV⟩
   ·exact h.one k
   ·exact hV
  ·exact h.one i
 ·intro i j e e' hij he he' hm hlv bb h1 h2
  obtain ⟨k,x,g1,g2,g3,_,g⟩:=hblk i e he (Ent.mut_live hm) bb (wfoot_foot h1)
  obtain ⟨g5,g4⟩:=g hm h1
  obtain ⟨k',x',g1',g2',g3',g4',_⟩:=hblk j e' he' hlv bb h2
  by_cases hk:k=k'
  ·subst hk
   exact imgs_apart hij g1 g1' (Ent.mut_live hm) hlv hn he he'
  ·exact h.apart k k' x x' hk g2 g2' g5 g3' bb g4 g4'
 ·intro i e he hm bb h1
  obtain ⟨k,x,g1,g2,g3,_,g⟩:=hblk i e he (Ent.mut_live hm) bb (wfoot_foot h1)
  exact h.mine k x g2 (g hm h1).1 bb (g hm h1).2
 ·intro i e he hlv bb h1
  obtain ⟨k,x,g1,g2,g3,g4,_⟩:=hblk i e he hlv bb h1
  exact h.src k x g2 g3 bb g4
theorem Rel.leB {S S':St} {b:Bnd} (hr:Rel base M N n0 r0 r S a w) (h:LeB n0 S S' b):Rel base M N n0 r0 (subR b r) S' a w:=by
 obtain ⟨hb,h1,h2,h3,h4,h5,h6⟩:=h
 refine ⟨hr.defers,hr.tmps,fun s v hl=>?_,hr.heap.le hb h2 h3,scEnv_sound h5,scEnt_sound h6,h4,fun i hi=>?_⟩
 ·rw [SV.den_sub hb]; exact hr.slot s _ (leEnv_sound h1 s v hl)
 ·unfold subR
  split
  ·rename_i c hc
   rcases bndOk_at hb i c hc with ⟨k,rfl,hk⟩ | ⟨V,rfl,hn,_⟩
   ·rw [hk hi]; exact hr.keep i hi
   ·omega
  ·exact hr.keep i hi
theorem Rel.le {S S':St} (hr:Rel base M N n0 r0 r S a w) (h:Le n0 S S'):∃ r',Rel base M N n0 r0 r' S' a w:=⟨_,hr.leB h⟩
theorem vcC_sound {Γ:Nat→Con} (hΓ:∀ f,COk P f (Γ f)):∀ (c:Code) (x:XC) (S:St) (K:Kont),xcode P N c=some x→vcC Γ n0 x K S →
  ∀ r a w,Rel base M N n0 r0 r S a w→c.wp P (Post base M N n0 r0 K) a w
 | .skip,x,S,K,hx,h,r,a,w,hr=>by
  simp only [xcode,Option.some.injEq] at hx; subst hx
  exact wp_skip ⟨.norm,r,S,rfl,h,hr⟩
 | .region id ops draw,x,S,K,hx,h,r,a,w,hr=>by
  simp only [xcode] at hx
  split at hx
  ·rename_i l hl
   split at hx
   ·rename_i hdraw
    subst hdraw
    split at hx
    ·split at hx
     ·rename_i hB
      cases hx
      simp only [Bool.and_eq_true] at hB
      have hq:=quiet_list hΓ ops.toList l S a (K .norm) hl h hr
      refine wp_region_quiet (C:=HeapRel base M r (lk S.ents)) hB.1 hB.2 hr.heap.drew ?_
      refine wpQuiet_mono (fun a' ⟨S',hK,he,hr'⟩ w' hw'=>⟨.norm,r,S',rfl,hK,hr'.world (by rw [he]; exact hw')⟩) hq
     ·cases hx
    ·split at hx
     ·rename_i hB
      cases hx
      simp only [Bool.and_eq_true] at hB
      refine wp_region_any hB.1 ?_
      refine wpAny_go hΓ hB.2.1 hB.2.2 (by simpa using predsGo_len ops.toList []) (fun r' S' a' w' hK hr'=>⟨.norm,r',S',rfl,hK,hr'⟩) l.length l 0 (predsGo ops.toList []) S (Nat.le_refl _) h (fun j o _ ho=>?_) ?_ (fun j=>?_) ops.size _ r a _ (by simp) ?_ ?_ (fun i hi=>by omega) (fun i _=>replFalse _ _) ?_
      ·rw [Nat.zero_add] at ho
       exact xopsL_at hl j o (by rw [Array.getElem?_toList]; exact ho)
      ·rw [xopsL_len hl]; simp
      ·rw [Nat.zero_add]
       cases hj:(predsGo ops.toList [])[j]? with
       | none=>exact .inl ⟨rfl,rfl⟩
       | some p=>exact .inr ⟨p,p,rfl,rfl,fun i hi=>by rw [Nat.zero_add]; exact hi⟩
      ·unfold unl
       exact Nat.le_trans (List.length_filter_le _ _) (by simp)
      ·intro j hj
       rw [replFalse] at hj
       cases hj
      ·exact ⟨hr.defers,hr.tmps,hr.slot,hr.heap.drew,hr.scE,hr.scH,hr.low,hr.keep⟩
     ·cases hx
   ·rename_i hdraw
    have:draw=false:=by simpa using hdraw
    subst this
    cases hx
    exact wp_region_list (seq_list hΓ ops.toList l S r a w hl h hr)
  ·cases hx
 | .seq c d,x,S,K,hx,h,r,a,w,hr=>by
  simp only [xcode] at hx
  split at hx
  ·rename_i x1 h1
   split at hx
   ·rename_i x2 h2
    cases hx
    refine wp_seq (wp_mono (vcC_sound hΓ c x1 S _ h1 h r a w hr) ?_)
    rintro e a' w' ⟨xe,r',S',hxe,hK,hr'⟩
    cases e<;>simp only [XE.ofExit,Option.some.injEq,reduceCtorEq] at hxe
    ·subst hxe; exact vcC_sound hΓ d x2 S' K h2 hK r' a' w' hr'
    ·subst hxe; exact ⟨_,r',S',rfl,hK,hr'⟩
    ·subst hxe; exact ⟨_,r',S',rfl,hK,hr'⟩
   ·cases hx
  ·cases hx
 | .cond c y z,x,S,K,hx,h,r,a,w,hr=>by
  simp only [xcode] at hx
  split at hx
  ·rename_i x1 h1
   split at hx
   ·rename_i x2 h2
    cases hx
    simp only [vcC] at h
    unfold vcCond at h
    split at h
    ·rename_i p b hrd
     have:=rd_sound hr hrd h.1
     rw [xo_val] at this
     refine wp_cond_split (t:=b) this (fun hb=>vcC_sound hΓ y x1 S K h1 (h.2.1 hb) r a w hr) (fun hb=>vcC_sound hΓ z x2 S K h2 (h.2.2 hb) r a w hr)
    ·exact h.elim
   ·cases hx
  ·cases hx
 | .block id c,x,S,K,hx,h,r,a,w,hr=>by
  simp only [xcode] at hx
  split at hx
  ·rename_i x1 h1
   cases hx
   refine wp_block (wp_mono (vcC_sound hΓ c x1 S _ h1 h r a w hr) ?_)
   rintro e a' w' ⟨xe,r',S',hxe,hK,hr'⟩
   cases e<;>simp only [XE.ofExit,Option.some.injEq,reduceCtorEq] at hxe
   ·subst hxe; exact ⟨.norm,r',S',rfl,hK,hr'⟩
   ·rename_i j
    subst hxe
    simp only [kBlock] at hK
    simp only [Exit.inBlock]
    split
    ·rename_i e; rw [if_pos e] at hK; exact ⟨.norm,r',S',rfl,hK,hr'⟩
    ·rename_i e; rw [if_neg e] at hK; exact ⟨_,r',S',rfl,hK,hr'⟩
   ·subst hxe; exact ⟨_,r',S',rfl,hK,hr'⟩
  ·cases hx
 | .loop c,x,S,K,hx,h,r,a,w,hr=>by
  simp only [xcode] at hx
  split at hx
  ·rename_i x1 h1
   cases hx
   simp only [vcC] at h
   obtain ⟨α,I,μ,x0,hle,hround⟩:=h
   refine wp_loop_ghost (fun n a w=>∃ y r,μ y=n∧Rel base M N n0 r0 r (I y) a w) (μ x0) ?_ ?_
   ·obtain ⟨r1,hr1⟩:=hr.le hle
    exact ⟨x0,r1,rfl,hr1⟩
   rintro n a' w' ⟨y,r',rfl,hr'⟩
   refine wp_mono (vcC_sound hΓ c x1 (I y) _ h1 (hround y) r' a' w' hr') ?_
   rintro e a2 w2 ⟨xe,r2,S2,hxe,hK,hr2⟩
   cases e<;>simp only [XE.ofExit,Option.some.injEq,reduceCtorEq] at hxe
   ·subst hxe
    obtain ⟨z,hz1,hz2⟩:=hK
    obtain ⟨r3,hr3⟩:=hr2.le hz1
    exact ⟨μ z,hz2,z,r3,rfl,hr3⟩
   ·subst hxe; exact ⟨_,r2,S2,rfl,hK,hr2⟩
   ·subst hxe; exact ⟨_,r2,S2,rfl,hK,hr2⟩
  ·cases hx
 | .exit id,x,S,K,hx,h,r,a,w,hr=>by
  simp only [xcode,Option.some.injEq] at hx; subst hx
  exact wp_exit ⟨.ex id,r,S,rfl,h,hr⟩
 | .ret,x,S,K,hx,h,r,a,w,hr=>by
  simp only [xcode,Option.some.injEq] at hx; subst hx
  exact wp_ret ⟨.ret,r,S,rfl,h,hr⟩
 | .rangeFunc _ _ _ _,x,S,K,hx,h,r,a,w,hr=>by simp [xcode] at hx
 | .scope _,x,S,K,hx,h,r,a,w,hr=>by simp [xcode] at hx
 | .label _,x,S,K,hx,h,r,a,w,hr=>by simp [xcode] at hx
 | .goto _,x,S,K,hx,h,r,a,w,hr=>by simp [xcode] at hx
 | .refuse _,x,S,K,hx,h,r,a,w,hr=>by
  simp only [xcode,Option.some.injEq] at hx; subst hx
  exact h.elim
theorem inv_seq {c:Code} {u v:XC} (h:xcode P N c=some (.seq u v)):∃ a b,c = .seq a b∧xcode P N a=some u∧xcode P N b=some v:=by
 cases c<;>simp only [xcode] at h
 case seq a b=>
  split at h
  ·rename_i x1 h1
   split at h
   ·rename_i x2 h2; cases h; exact ⟨a,b,rfl,h1,h2⟩
   ·cases h
  ·cases h
 all_goals (first | (cases h; done) | skip)
 all_goals (repeat' split at h)
 all_goals (cases h)
theorem inv_cond {c:Code} {q:XO} {u v:XC} (h:xcode P N c=some (.cond q u v)):∃ o a b,c = .cond o a b∧q=xo o∧xcode P N a=some u∧xcode P N b=some v:=by
 cases c<;>simp only [xcode] at h
 case cond o a b=>
  split at h
  ·rename_i x1 h1
   split at h
   ·rename_i x2 h2; cases h; exact ⟨o,a,b,rfl,rfl,h1,h2⟩
   ·cases h
  ·cases h
 all_goals (first | (cases h; done) | skip)
 all_goals (repeat' split at h)
 all_goals (cases h)
theorem inv_block {c:Code} {i:Nat} {u:XC} (h:xcode P N c=some (.block i u)):∃ a,c = .block i a∧xcode P N a=some u:=by
 cases c<;>simp only [xcode] at h
 case block j a=>
  split at h
  ·rename_i x1 h1; cases h; exact ⟨a,rfl,h1⟩
  ·cases h
 all_goals (first | (cases h; done) | skip)
 all_goals (repeat' split at h)
 all_goals (cases h)
theorem inv_loop {c:Code} {u:XC} (h:xcode P N c=some (.loop u)):∃ a,c = .loop a∧xcode P N a=some u:=by
 cases c<;>simp only [xcode] at h
 case loop a=>
  split at h
  ·rename_i x1 h1; cases h; exact ⟨a,rfl,h1⟩
  ·cases h
 all_goals (first | (cases h; done) | skip)
 all_goals (repeat' split at h)
 all_goals (cases h)
theorem HeapRel.opn {ents:List (Nat × Ent)} {i e j n sz n' s' c0:Nat} {o:Option TypeId} {f:Nat→Nat→Value} {c:Nat→Nat→Option (Nat × Nat × (Nat→Nat→Value))} {al:List (Nat × Nat × Nat)} {g:Nat→Nat→Value}
  (h:HeapRel base M r (lk ents) w) (hs:∀ i x,lk ents i=some x→i≠c0∧x.sc (fun i=>i≠c0)) (hi:lk ents i=some (.deep o n sz f c al)) (hc:c e j=some (n',s',g)) (he:e < n) (hj:j < sz) :
  HeapRel base M (more r c0 (f e j)) (lk ((i,.deep o n sz f c ((e,j,c0) :: al)) :: (c0,.ro n' s' (vF g)) :: ents)) w:=by
 have hd:=h.ent i _ hi
 have hrow:rowIs w (f e j) n' s' g:=hd.2.1 e j n' s' g he hj hc
 have h1:(f e j).oneCell'=true:=by obtain ⟨a,cap,hV,_⟩:=hrow; rw [hV]; rfl
 have hx:=h.ext (r':=more r c0 (f e j)) hs more_ne (more_one h.one h1)
 have hic:i≠c0:=(hs i _ hi).1
 have hfoot:∀ b,blkOf (f e j)=some b→(Ent.deep o n sz f c al).inB b:=fun b hb=>⟨e,j,he,hj,by rw [hc]; rfl,hb⟩
 have hcase:∀ k x,lk ((i,Ent.deep o n sz f c ((e,j,c0) :: al)) :: (c0,.ro n' s' (vF g)) :: ents) k=some x →
   (k=i∧x = .deep o n sz f c ((e,j,c0) :: al))∨(k=c0∧x = .ro n' s' (vF g))∨(k≠i∧k≠c0∧lk ents k=some x):=by
  intro k x hk
  simp only [lk] at hk
  split at hk
  ·rename_i h2; cases hk; exact .inl ⟨h2.symm,rfl⟩
  ·rename_i h2
   split at hk
   ·rename_i h3; cases hk; exact .inr (.inl ⟨h3.symm,rfl⟩)
   ·rename_i h3; exact .inr (.inr ⟨fun hh=>h2 hh.symm,fun hh=>h3 hh.symm,hk⟩)
 refine ⟨hx.size,hx.one,hx.os,hx.tape,hx.output,hx.frame,?_,?_,?_,?_⟩
 ·intro k x hk
  rcases hcase k x hk with ⟨rfl,rfl⟩ | ⟨rfl,rfl⟩ | ⟨_,_,h2⟩
  ·have:=hx.ent _ _ hi
   exact ⟨this.1,this.2.1,more_new,this.2.2⟩
  ·rw [more_new]; exact hrow
  ·exact hx.ent k x h2
 ·intro k k' x x' hkk hk hk' hm hl b hb hb'
  have old:∀ y,y=(Ent.deep o n sz f c al)→y.live=true:=by rintro y rfl; rfl
  rcases hcase k x hk with ⟨rfl,rfl⟩ | ⟨rfl,rfl⟩ | ⟨h3,h4,h2⟩
  ·rcases hcase k' x' hk' with ⟨rfl,rfl⟩ | ⟨rfl,rfl⟩ | ⟨_,_,h2'⟩
   ·exact hkk rfl
   ·have hb2:=hb'.resolve_right id
    rw [more_new] at hb2
    rw [more_ne _ hic] at hb
    cases o with
    | none=>cases hm
    | some ty=>exact hd.1.2 b (hb.resolve_right id) (hfoot b hb2)
   ·exact hx.apart _ k' _ x' hkk hi h2' hm hl b hb hb'
  ·cases hm
  ·rcases hcase k' x' hk' with ⟨rfl,rfl⟩ | ⟨rfl,rfl⟩ | ⟨_,_,h2'⟩
   ·exact hx.apart k _ x _ hkk h2 hi hm rfl b hb hb'
   ·have hb2:=hb'.resolve_right id
    rw [more_new] at hb2
    exact hx.apart k _ x _ h3 h2 hi hm rfl b hb (.inr (hfoot b hb2))
   ·exact hx.apart k k' x x' hkk h2 h2' hm hl b hb hb'
 ·intro k x hk hm b hb
  rcases hcase k x hk with ⟨rfl,rfl⟩ | ⟨rfl,rfl⟩ | ⟨_,_,h2⟩
  ·exact hx.mine _ _ hi hm b hb
  ·cases hm
  ·exact hx.mine k x h2 hm b hb
 ·intro k x hk hl b hb
  rcases hcase k x hk with ⟨rfl,rfl⟩ | ⟨rfl,rfl⟩ | ⟨_,_,h2⟩
  ·exact hx.src _ _ hi rfl b hb
  ·have hb2:=hb.resolve_right id
   rw [more_new] at hb2
   exact hx.src _ _ hi rfl b (.inr (hfoot b hb2))
  ·exact hx.src k x h2 hl b hb
theorem vcOpn_sound {s t j:Nat} {k:St→Prop} {S:St} (hr:Rel base M N n0 r0 r S a w) (h:vcOpn s t j k S):∃ r' S',k S'∧Rel base M N n0 r0 r' S' a w:=by
 unfold vcOpn at h
 split at h
 ·rename_i i _
  split at h
  ·rename_i e _
   split at h
   ·rename_i o n sz f c al hi
    split at h
    ·rename_i n' s' g hc
     obtain ⟨⟨h0,h1,h2⟩,hk⟩:=h
     have hne:∀ i,upto S.next i→i≠S.next:=fun i hi=>Nat.ne_of_lt hi
     refine ⟨more r S.next (f e.toNat j),_,hk,hr.defers,hr.tmps,fun s v hl=>?_,hr.heap.opn (fun i x hx=>⟨hne i (hr.scH i x hx).1,Ent.sc_mono hne (hr.scH i x hx).2⟩) hi hc h1 h2,fun s v hl=>SV.sc_mono (upto_mono (Nat.le_succ _)) (hr.scE s v hl),fun k x hx=>?_,Nat.le_trans hr.low (Nat.le_succ _),fun i hi=>?_⟩
     ·rw [SV.den_ext (m:=upto S.next) (fun i hi=>more_ne i (hne i hi)) (hr.scE s v hl)]
      exact hr.slot s v hl
     ·simp only [lk] at hx
      split at hx
      ·rename_i h2; cases hx; subst h2
       have:=hr.scH _ _ hi
       exact ⟨Nat.lt_succ_of_lt this.1,Nat.lt_succ_self _,alSc_mono (upto_mono (Nat.le_succ _)) this.2⟩
      ·split at hx
       ·rename_i h3; cases hx; subst h3
        exact ⟨Nat.lt_succ_self _,fun _ _=>trivial⟩
       ·have:=hr.scH _ _ hx
        exact ⟨Nat.lt_succ_of_lt this.1,Ent.sc_mono (upto_mono (Nat.le_succ _)) this.2⟩
     ·rw [more_ne i (Nat.ne_of_lt (Nat.lt_of_lt_of_le hi hr.low))]
      exact hr.keep i hi
    ·exact h.elim
   ·exact h.elim
  ·exact h.elim
 ·exact h.elim
theorem HeapRel.spl {ents:List (Nat × Ent)} {i n sz c0:Nat} {ty:TypeId} {f:Nat→Nat→Value} {c:Nat→Nat→Option (Nat × Nat × (Nat→Nat→Value))} {al:List (Nat × Nat × Nat)}
  (h:HeapRel base M r (lk ents) w) (hs:∀ i x,lk ents i=some x→i≠c0∧x.sc (fun i=>i≠c0)) (hi:lk ents i=some (.deep (some ty) n sz f c al)) :
  HeapRel base M (more r c0 (.bool true)) (lk ((i,.own n sz (fun e j=>.v (f e j)) ty) :: (c0,.inn n sz f c) :: ents)) w:=by
 have hd:=h.ent i _ hi
 have hx:=h.ext (r':=more r c0 (.bool true)) hs more_ne (more_one h.one rfl)
 have hic:i≠c0:=(hs i _ hi).1
 have hcase:∀ k x,lk ((i,Ent.own n sz (fun e j=>.v (f e j)) ty) :: (c0,.inn n sz f c) :: ents) k=some x →
   (k=i∧x = .own n sz (fun e j=>.v (f e j)) ty)∨(k=c0∧x = .inn n sz f c)∨(k≠i∧k≠c0∧lk ents k=some x):=by
  intro k x hk
  simp only [lk] at hk
  split at hk
  ·rename_i h2; cases hk; exact .inl ⟨h2.symm,rfl⟩
  ·rename_i h2
   split at hk
   ·rename_i h3; cases hk; exact .inr (.inl ⟨h3.symm,rfl⟩)
   ·rename_i h3; exact .inr (.inr ⟨fun hh=>h2 hh.symm,fun hh=>h3 hh.symm,hk⟩)
 have hfi:∀ b,foot (.own n sz (fun e j=>.v (f e j)) ty) (more r c0 (.bool true) i) b→foot (.deep (some ty) n sz f c al) (more r c0 (.bool true) i) b:=fun b hb=>.inl (hb.resolve_right id)
 have hfc:∀ b,foot (.inn n sz f c) (more r c0 (.bool true) c0) b→foot (.deep (some ty) n sz f c al) (more r c0 (.bool true) i) b:=fun b hb=>by
  rcases hb with hb | hb
  ·rw [more_new] at hb; cases hb
  ·exact .inr hb
 refine ⟨hx.size,hx.one,hx.os,hx.tape,hx.output,hx.frame,?_,?_,?_,?_⟩
 ·intro k x hk
  rcases hcase k x hk with ⟨rfl,rfl⟩ | ⟨rfl,rfl⟩ | ⟨_,_,h2⟩
  ·have:=hx.ent _ _ hi
   exact this.1.1
  ·exact hd.2.1
  ·exact hx.ent k x h2
 ·intro k k' x x' hkk hk hk' hm hl b hb hb'
  rcases hcase k x hk with ⟨rfl,rfl⟩ | ⟨rfl,rfl⟩ | ⟨h3,h4,h2⟩
  ·rcases hcase k' x' hk' with ⟨rfl,rfl⟩ | ⟨rfl,rfl⟩ | ⟨_,_,h2'⟩
   ·exact hkk rfl
   ·rcases hb' with hb' | hb'
    ·rw [more_new] at hb'; cases hb'
    ·exact (hx.ent _ _ hi).1.2 b (hb.resolve_right id) hb'
   ·exact hx.apart _ k' _ x' hkk hi h2' rfl hl b hb hb'
  ·cases hm
  ·rcases hcase k' x' hk' with ⟨rfl,rfl⟩ | ⟨rfl,rfl⟩ | ⟨_,_,h2'⟩
   ·exact hx.apart k _ x _ hkk h2 hi hm rfl b hb (hfi b hb')
   ·exact hx.apart k _ x _ h3 h2 hi hm rfl b hb (hfc b hb')
   ·exact hx.apart k k' x x' hkk h2 h2' hm hl b hb hb'
 ·intro k x hk hm b hb
  rcases hcase k x hk with ⟨rfl,rfl⟩ | ⟨rfl,rfl⟩ | ⟨_,_,h2⟩
  ·exact hx.mine _ _ hi rfl b hb
  ·cases hm
  ·exact hx.mine k x h2 hm b hb
 ·intro k x hk hl b hb
  rcases hcase k x hk with ⟨rfl,rfl⟩ | ⟨rfl,rfl⟩ | ⟨_,_,h2⟩
  ·exact hx.src _ _ hi rfl b (hfi b hb)
  ·exact hx.src _ _ hi rfl b (hfc b hb)
  ·exact hx.src k x h2 hl b hb
theorem vcSpl_sound {s:Nat} {k:St→Prop} {S:St} (hr:Rel base M N n0 r0 r S a w) (h:vcSpl s k S):∃ r' S',k S'∧Rel base M N n0 r0 r' S' a w:=by
 unfold vcSpl at h
 split at h
 ·rename_i i _
  split at h
  ·rename_i ty n sz f c al hi
   have hne:∀ i,upto S.next i→i≠S.next:=fun i hi=>Nat.ne_of_lt hi
   refine ⟨more r S.next (.bool true),_,h,hr.defers,hr.tmps,fun s v hl=>?_,hr.heap.spl (fun i x hx=>⟨hne i (hr.scH i x hx).1,Ent.sc_mono hne (hr.scH i x hx).2⟩) hi,fun s v hl=>SV.sc_mono (upto_mono (Nat.le_succ _)) (hr.scE s v hl),fun k x hx=>?_,Nat.le_trans hr.low (Nat.le_succ _),fun i hi=>?_⟩
   ·rw [SV.den_ext (m:=upto S.next) (fun i hi=>more_ne i (hne i hi)) (hr.scE s v hl)]
    exact hr.slot s v hl
   ·simp only [lk] at hx
    split at hx
    ·rename_i h2; cases hx; subst h2
     have:=hr.scH _ _ hi
     exact ⟨Nat.lt_succ_of_lt this.1,fun _ _=>trivial⟩
    ·split at hx
     ·rename_i h3; cases hx; subst h3
      exact ⟨Nat.lt_succ_self _,trivial⟩
     ·have:=hr.scH _ _ hx
      exact ⟨Nat.lt_succ_of_lt this.1,Ent.sc_mono (upto_mono (Nat.le_succ _)) this.2⟩
   ·rw [more_ne i (Nat.ne_of_lt (Nat.lt_of_lt_of_le hi hr.low))]
    exact hr.keep i hi
  ·exact h.elim
 ·exact h.elim
theorem mrg1_row {ents:List (Nat × Ent)} (h:HeapRel base M r (lk ents) w) {x:SC} (hok:okM (lk ents) x) {m s:Nat} {g:Nat→Nat→Value} (hx:mrg1 (lk ents) x=some (m,s,g)):rowIs w (x.den r) m s g:=by
 unfold mrg1 at hx
 split at hx
 ·rename_i i
  split at hx
  ·rename_i m' s' g' hi
   cases hx
   obtain ⟨ad,cap,h1,h2,h3,h4⟩:=h.ent i _ hi
   simp only [okM,hi] at hok
   refine ⟨ad,cap,h1,h2,h3,fun hn=>?_⟩
   obtain ⟨b,o,k1,k2,k3⟩:=h4 hn
   exact ⟨b,o,k1,k2,fun e j he hj=>by
    rw [k3 e j he hj]
    have:=hok e j he hj
    rw [this]; rfl⟩
  ·rename_i hi
   cases hx
   obtain ⟨ad,h1⟩:=h.ent i _ hi
   exact ⟨ad,0,h1,by omega,by omega,fun hn=>by omega⟩
  ·cases hx
 ·cases hx
  exact ⟨none,0,rfl,by omega,by omega,fun hn=>by omega⟩
 ·cases hx
theorem mrg1_foot {ents:List (Nat × Ent)} (h:HeapRel base M r (lk ents) w) {x:SC} {b:Nat} (hx:(mrg1 (lk ents) x).isSome=true) (hb:blkOf (x.den r)=some b):∃ i e,lk ents i=some e∧e.mut=false∧e.live=true∧foot e (r i) b:=by
 unfold mrg1 at hx
 split at hx
 ·rename_i i
  split at hx
  ·rename_i m' s' g' hi
   exact ⟨i,_,hi,rfl,rfl,.inl hb⟩
  ·rename_i hi
   obtain ⟨ad,h1⟩:=h.ent i _ hi
   simp only [SC.den] at hb
   rw [h1] at hb
   cases ad<;>simp [blkOf] at hb
  ·cases hx
 ·cases hb
 ·cases hx
theorem HeapRel.mrg {ents:List (Nat × Ent)} {i q n n0 sz:Nat} {ty:TypeId} {F:Nat→Nat→SC} {f:Nat→Nat→Value} {c:Nat→Nat→Option (Nat × Nat × (Nat→Nat→Value))}
  (h:HeapRel base M r (lk ents) w) (hi:lk ents i=some (.own n sz F ty)) (hq:lk ents q=some (.inn n0 sz f c)) (hn:n0≤n) (hok:mrgOk (lk ents) n0 n sz f F) :
  HeapRel base M r (lk ((i,.deep (some ty) n sz (fun e j=>(F e j).den r) (mrgC (lk ents) n0 c F) []) :: (q,.dead) :: ents)) w:=by
 have hd:=h.ent i _ hi
 have hin:innerIs w n0 sz f c:=h.ent q _ hq
 have hiq:i≠q:=by rintro rfl; rw [hi] at hq; cases hq
 have hcase:∀ k x,lk ((i,Ent.deep (some ty) n sz (fun e j=>(F e j).den r) (mrgC (lk ents) n0 c F) []) :: (q,.dead) :: ents) k=some x →
   (k=i∧x = .deep (some ty) n sz (fun e j=>(F e j).den r) (mrgC (lk ents) n0 c F) [])∨x = .dead∨(k≠i∧lk ents k=some x):=by
  intro k x hk
  simp only [lk] at hk
  split at hk
  ·rename_i h2; cases hk; exact .inl ⟨h2.symm,rfl⟩
  ·rename_i h2
   split at hk
   ·rename_i h3; cases hk; exact .inr (.inl rfl)
   ·rename_i h3; exact .inr (.inr ⟨fun hh=>h2 hh.symm,hk⟩)
 have hinB:∀ b,innerB n sz (fun e j=>(F e j).den r) (mrgC (lk ents) n0 c F) b→∃ k e,lk ents k=some e∧e.mut=false∧e.live=true∧foot e (r k) b:=by
  rintro b ⟨e,j,he,hj,h1,h2⟩
  unfold mrgC at h1
  split at h1
  ·rename_i hlt
   simp only at h2
   rw [hok.1 e j hlt hj] at h2
   exact ⟨q,_,hq,rfl,rfl,.inr ⟨e,j,hlt,hj,h1,h2⟩⟩
  ·exact mrg1_foot h h1 h2
 refine ⟨h.size,h.one,h.os,h.tape,h.output,h.frame,?_,?_,?_,?_⟩
 ·intro k x hk
  rcases hcase k x hk with ⟨rfl,rfl⟩ | rfl | ⟨_,h2⟩
  ·refine ⟨⟨hd,fun b hb hh=>?_⟩,fun e j n' sz' g he hj hc=>?_,trivial⟩
   ·obtain ⟨k2,e2,g1,g2,g3,g4⟩:=hinB b hh
    exact h.apart k k2 _ e2 (by rintro rfl; rw [hi] at g1; cases g1; cases g2) hi g1 rfl g3 b (.inl hb) g4
   ·unfold mrgC at hc
    split at hc
    ·rename_i hlt
     simp only
     rw [hok.1 e j hlt hj]
     exact hin e j n' sz' g hlt hj hc
    ·rename_i hlt
     exact mrg1_row h (hok.2 e j (by omega) he hj) hc
  ·exact trivial
  ·exact h.ent k x h2
 ·intro k k' x x' hkk hk hk' hm hl b hb hb'
  have hcl:∀ k x,lk ents k=some x→x.mut=true→wfoot x (r k) b→k≠k'→∀ e,(k'=i→e = .own n sz F ty)→lk ents k'=some e→foot x' (r k') b→(k'=i∧x' = .deep (some ty) n sz (fun e j=>(F e j).den r) (mrgC (lk ents) n0 c F) [])∨lk ents k'=some x'→False:=by
   intro k x g1 g2 g3 g4 e _ _ g5 g6
   rcases g6 with ⟨rfl,rfl⟩ | g6
   ·rcases g5 with g5 | g5
    ·exact h.apart k k' x _ g4 g1 hi g2 rfl b g3 (.inl g5)
    ·obtain ⟨k2,e2,f1,f2,f3,f4⟩:=hinB b g5
     exact h.apart k k2 x e2 (by rintro rfl; rw [g1] at f1; cases f1; rw [g2] at f2; cases f2) g1 f1 g2 f3 b g3 f4
   ·exact h.apart k k' x x' g4 g1 g6 g2 hl b g3 g5
  rcases hcase k' x' hk' with ⟨rfl,rfl⟩ | rfl | ⟨h3',h2'⟩
  ·rcases hcase k x hk with ⟨rfl,rfl⟩ | rfl | ⟨h3,h2⟩
   ·exact hkk rfl
   ·cases hm
   ·exact hcl k x h2 hm hb hkk _ (fun _=>rfl) hi hb' (.inl ⟨rfl,rfl⟩)
  ·cases hl
  ·rcases hcase k x hk with ⟨rfl,rfl⟩ | rfl | ⟨h3,h2⟩
   ·exact h.apart _ k' _ x' hkk hi h2' rfl hl b hb hb'
   ·cases hm
   ·exact h.apart k k' x x' hkk h2 h2' hm hl b hb hb'
 ·intro k x hk hm b hb
  rcases hcase k x hk with ⟨rfl,rfl⟩ | rfl | ⟨_,h2⟩
  ·exact h.mine _ _ hi rfl b hb
  ·cases hm
  ·exact h.mine k x h2 hm b hb
 ·intro k x hk hl b hb
  rcases hcase k x hk with ⟨rfl,rfl⟩ | rfl | ⟨_,h2⟩
  ·rcases hb with hb | hb
   ·exact h.src _ _ hi rfl b (.inl hb)
   ·obtain ⟨k2,e2,f1,f2,f3,f4⟩:=hinB b hb
    exact h.src k2 e2 f1 f3 b f4
  ·cases hl
  ·exact h.src k x h2 hl b hb
theorem vcMrg_sound {s:Nat} {k:St→Prop} {S:St} (hr:Rel base M N n0 r0 r S a w) (h:vcMrg s k S):∃ r' S',k S'∧Rel base M N n0 r0 r' S' a w:=by
 unfold vcMrg at h
 split at h
 ·rename_i i _
  split at h
  ·rename_i n sz F ty hi
   split at h
   ·rename_i q _
    split at h
    ·rename_i n0' sz0 f c hq
     obtain ⟨⟨h1,rfl,h3⟩,hk⟩:=h
     refine ⟨r,_,hk (fun e j=>(F e j).den r) (fun e j x hx=>by rw [hx]; rfl),hr.defers,hr.tmps,hr.slot,hr.heap.mrg hi hq h1 h3,hr.scE,fun k x hx=>?_,hr.low,hr.keep⟩
     simp only [lk] at hx
     split at hx
     ·rename_i h2; cases hx; subst h2
      exact ⟨(hr.scH _ _ hi).1,trivial⟩
     ·split at hx
      ·rename_i h3; cases hx; subst h3
       exact ⟨(hr.scH _ _ hq).1,trivial⟩
      ·exact hr.scH _ _ hx
    ·exact h.elim
   ·exact h.elim
  ·exact h.elim
 ·exact h.elim
theorem HeapRel.remap {ents ents':List (Nat × Ent)} {r':Rho} {O:Nat→Nat→Prop} (h:HeapRel base M r (lk ents) w) (one:∀ i,(r' i).oneCell'=true) (hent:∀ k x,lk ents' k=some x→x.rel r' w (r' k))
  (hw:∀ k x,lk ents' k=some x→x.mut=true→∀ b,wfoot x (r' k) b→∃ i e,lk ents i=some e∧e.mut=true∧wfoot e (r i) b∧O k i)
  (hf:∀ k x,lk ents' k=some x→x.live=true→∀ b,foot x (r' k) b→∃ i e,lk ents i=some e∧e.live=true∧foot e (r i) b∧O k i)
  (hs:∀ k k' i x x' b,k≠k'→O k i→O k' i→lk ents' k=some x→lk ents' k'=some x'→x.mut=true→x'.live=true→wfoot x (r' k) b→¬ foot x' (r' k') b):HeapRel base M r' (lk ents') w:=by
 refine ⟨h.size,one,h.os,h.tape,h.output,h.frame,hent,?_,?_,?_⟩
 ·intro k k' x x' hkk hk hk' hm hl b hb hb'
  obtain ⟨i,e,g1,g2,g3,g4⟩:=hw k x hk hm b hb
  obtain ⟨i',e',g1',g2',g3',g4'⟩:=hf k' x' hk' hl b hb'
  by_cases hii:i=i'
  ·subst hii
   exact hs k k' i x x' b hkk g4 g4' hk hk' hm hl hb hb'
  ·exact h.apart i i' e e' hii g1 g1' g2 g2' b g3 g3'
 ·intro k x hk hm b hb
  obtain ⟨i,e,g1,g2,g3,_⟩:=hw k x hk hm b hb
  exact h.mine i e g1 g2 b g3
 ·intro k x hk hl b hb
  obtain ⟨i,e,g1,g2,g3,_⟩:=hf k x hk hl b hb
  exact h.src i e g1 g2 b g3
theorem HeapRel.toRo {ents:List (Nat × Ent)} {i n sz:Nat} {f:Nat→Nat→SC} {ty:TypeId} (h:HeapRel base M r (lk ents) w) (hi:lk ents i=some (.own n sz f ty)):HeapRel base M r (lk ((i,.ro n sz f) :: ents)) w:=by
 have hcase:∀ k x',lk ((i,Ent.ro n sz f) :: ents) k=some x'→(k=i∧x' = .ro n sz f)∨(k≠i∧lk ents k=some x'):=by
  intro k x' hk
  simp only [lk] at hk
  split at hk
  ·rename_i h2; cases hk; exact .inl ⟨h2.symm,rfl⟩
  ·rename_i h2; exact .inr ⟨fun e=>h2 e.symm,hk⟩
 refine HeapRel.remap (O:=fun k i'=>k=i') h h.one ?_ ?_ ?_ ?_
 ·intro k x' hk
  rcases hcase k x' hk with ⟨rfl,rfl⟩ | ⟨_,h2⟩
  ·obtain ⟨g0,g⟩:=h.ent _ _ hi
   rcases g with ⟨b,o,cap,cur,k1,k2,k3,k4,k5,k6⟩ | ⟨a,k1,k2⟩
   ·exact ⟨_,cap,k1,k3,g0,fun hn=>⟨b,o,rfl,k2.lt,fun e j he hj=>by rw [k2.cell,k6 e j he hj]⟩⟩
   ·exact ⟨a,0,by rw [k1,k2],by omega,g0,fun hn=>by omega⟩
  ·exact h.ent k x' h2
 ·intro k x' hk hm b hb
  rcases hcase k x' hk with ⟨rfl,rfl⟩ | ⟨_,h2⟩
  ·cases hm
  ·exact ⟨_,_,h2,hm,hb,rfl⟩
 ·intro k x' hk hm b hb
  rcases hcase k x' hk with ⟨rfl,rfl⟩ | ⟨_,h2⟩
  ·exact ⟨_,_,hi,rfl,hb.imp id (fun h=>h.elim),rfl⟩
  ·exact ⟨_,_,h2,hm,hb,rfl⟩
 ·intro k k' i' x1 x2 b hkk h3 h4 _ _ _ _ _ _
  exact hkk (h3.trans h4.symm)
theorem HeapRel.hid {ents:List (Nat × Ent)} {i n sz c0:Nat} {f:Nat→Nat→SC} {ty:TypeId} (h:HeapRel base M r (lk ents) w) (hs:∀ i x,lk ents i=some x→i≠c0∧x.sc (fun i=>i≠c0)) (hi:lk ents i=some (.own n sz f ty)) :
  HeapRel base M (more r c0 (r i)) (lk ((i,.als c0 n true) :: (c0,.own n sz f ty) :: ents)) w:=by
 have hx:=h.ext (r':=more r c0 (r i)) hs more_ne (more_one h.one (h.one i))
 have hic:i≠c0:=(hs i _ hi).1
 have hcase:∀ k x',lk ((i,Ent.als c0 n true) :: (c0,.own n sz f ty) :: ents) k=some x'→(k=i∧x' = .als c0 n true)∨(k=c0∧x' = .own n sz f ty)∨(k≠i∧k≠c0∧lk ents k=some x'):=by
  intro k x' hk
  simp only [lk] at hk
  split at hk
  ·rename_i h2; cases hk; exact .inl ⟨h2.symm,rfl⟩
  ·rename_i h2
   split at hk
   ·rename_i h3; cases hk; exact .inr (.inl ⟨h3.symm,rfl⟩)
   ·rename_i h3; exact .inr (.inr ⟨fun e=>h2 e.symm,fun e=>h3 e.symm,hk⟩)
 have hrel:(Ent.own n sz f ty).rel (more r c0 (r i)) w (r i):=by have:=hx.ent _ _ hi; rwa [more_ne _ hic] at this
 refine HeapRel.remap (O:=fun k i'=>(k≠c0∧k=i')∨(k=c0∧i'=i)) hx hx.one ?_ ?_ ?_ ?_
 ·intro k x' hk
  rcases hcase k x' hk with ⟨rfl,rfl⟩ | ⟨rfl,rfl⟩ | ⟨_,_,h2⟩
  ·rw [more_ne _ hic]
   obtain ⟨g0,g⟩:=hrel
   rcases g with ⟨b,o,cap,cur,k1,k2,k3,k4,k5,k6⟩ | ⟨a,k1,k2⟩
   ·exact ⟨_,n,cap,by rw [more_new]; exact k1,Nat.le_refl _,k3,by simpa using k1,fun _=>rfl⟩
   ·exact ⟨a,0,0,by rw [more_new]; exact k1,by omega,by omega,by simpa using k1,fun _=>k2⟩
  ·rw [more_new]; exact hrel
  ·exact hx.ent k x' h2
 ·intro k x' hk hm b hb
  rcases hcase k x' hk with ⟨rfl,rfl⟩ | ⟨rfl,rfl⟩ | ⟨_,h3,h2⟩
  ·cases hm
  ·exact ⟨_,_,hi,rfl,by rw [more_new] at hb; rw [more_ne _ hic]; exact hb,.inr ⟨rfl,rfl⟩⟩
  ·exact ⟨_,_,h2,hm,hb,.inl ⟨h3,rfl⟩⟩
 ·intro k x' hk hm b hb
  rcases hcase k x' hk with ⟨rfl,rfl⟩ | ⟨rfl,rfl⟩ | ⟨_,h3,h2⟩
  ·cases hm
  ·exact ⟨_,_,hi,rfl,by rw [more_new] at hb; rw [more_ne _ hic]; exact hb,.inr ⟨rfl,rfl⟩⟩
  ·exact ⟨_,_,h2,hm,hb,.inl ⟨h3,rfl⟩⟩
 ·intro k k' i' x1 x2 b hkk h3 h4 hk hk' hm hl hb hb'
  have hdead:∀ x',lk ((i,Ent.als c0 n true) :: (c0,.own n sz f ty) :: ents) i=some x'→x' = .als c0 n true:=by
   intro x' hx
   rcases hcase _ x' hx with ⟨_,e⟩ | ⟨e,_⟩ | ⟨e,_⟩
   ·exact e
   ·exact absurd e hic
   ·exact absurd rfl e
  rcases h3 with ⟨h3,rfl⟩ | ⟨rfl,rfl⟩
  ·rcases h4 with ⟨_,h4⟩ | ⟨rfl,rfl⟩
   ·exact hkk h4.symm
   ·rw [hdead x1 hk] at hm; cases hm
  ·rcases h4 with ⟨_,h4⟩ | ⟨h4,_⟩
   ·subst h4
    rw [hdead x2 hk'] at hl; cases hl
   ·exact hkk h4.symm
theorem vcFrz_sound {s t:Nat} {k:St→Prop} {S:St} (hr:Rel base M N n0 r0 r S a w) (h:vcFrz s t k S):∃ r' S',k S'∧Rel base M N n0 r0 r' S' a w:=by
 unfold vcFrz at h
 split at h
 ·rename_i i _
  split at h
  ·rename_i e _
   split at h
   ·rename_i n sz f ty hi
    by_cases he:e=0
    ·rw [if_pos he] at h
     refine ⟨r,_,h,hr.defers,hr.tmps,hr.slot,hr.heap.toRo hi,hr.scE,fun k x' hx=>?_,hr.low,hr.keep⟩
     simp only [lk] at hx
     split at hx
     ·rename_i h3; cases hx; subst h3
      have:=hr.scH _ _ hi; exact ⟨this.1,this.2⟩
     ·exact hr.scH _ _ hx
    ·have hne:∀ i,upto S.next i→i≠S.next:=fun i hi=>Nat.ne_of_lt hi
     rw [if_neg he] at h
     refine ⟨more r S.next (r i),_,h,hr.defers,hr.tmps,fun s v hl=>?_,hr.heap.hid (fun i x hx=>⟨hne i (hr.scH i x hx).1,Ent.sc_mono hne (hr.scH i x hx).2⟩) hi,fun s v hl=>SV.sc_mono (upto_mono (Nat.le_succ _)) (hr.scE s v hl),fun k x' hx=>?_,Nat.le_trans hr.low (Nat.le_succ _),fun i hi=>?_⟩
     ·rw [SV.den_ext (m:=upto S.next) (fun i hi=>more_ne i (hne i hi)) (hr.scE s v hl)]
      exact hr.slot s v hl
     ·simp only [lk] at hx
      split at hx
      ·rename_i h3; cases hx; subst h3
       exact ⟨Nat.lt_succ_of_lt (hr.scH _ _ hi).1,Nat.lt_succ_self _⟩
      ·split at hx
       ·rename_i h3; cases hx; subst h3
        exact ⟨Nat.lt_succ_self _,Ent.sc_mono (upto_mono (Nat.le_succ _)) (hr.scH _ _ hi).2⟩
       ·have:=hr.scH _ _ hx
        exact ⟨Nat.lt_succ_of_lt this.1,Ent.sc_mono (upto_mono (Nat.le_succ _)) this.2⟩
     ·rw [more_ne i (Nat.ne_of_lt (Nat.lt_of_lt_of_le hi hr.low))]
      exact hr.keep i hi
   ·exact h.elim
  ·exact h.elim
 ·exact h.elim
theorem regG_sound {Γ:Nat→Con} (hΓ:∀ f,COk P f (Γ f)) {A B C:List XOper} {ps:List (List Nat)} {S:St} {K:Kont} (c:Code) (hx:xcode P N c=some (.regD (A++B++C) ps)) (h:vcG Γ ps A B C S (K .norm)) :
  ∀ r a w,Rel base M N n0 r0 r S a w→c.wp P (Post base M N n0 r0 K) a w:=by
 intro r a w hr
 cases c with
 | region id ops draw=>
  simp only [xcode] at hx
  split at hx
  ·rename_i l hl
   split at hx
   ·rename_i hdraw
    subst hdraw
    split at hx
    ·split at hx<;>cases hx
    ·split at hx
     ·rename_i hB
      simp only [Option.some.injEq,XC.regD.injEq] at hx
      obtain ⟨rfl,rfl⟩:=hx
      simp only [Bool.and_eq_true] at hB
      refine wp_region_any hB.1 ?_
      refine wpAny_G (r:=r) hΓ hB.2.1 hB.2.2 (by simpa using predsGo_len ops.toList []) (fun r' S' a' w' hK hr'=>⟨.norm,r',S',rfl,hK,hr'⟩) h (fun j o _ ho=>?_) ?_ ?_ ops.size _ (by simp) ?_ ?_ (fun i=>replFalse _ _)
      ·exact xopsL_at hl j o (by rw [Array.getElem?_toList]; exact ho)
      ·rw [xopsL_len hl]; simp
      ·exact ⟨hr.defers,hr.tmps,hr.slot,hr.heap.drew,hr.scE,hr.scH,hr.low,hr.keep⟩
      ·unfold unl
       exact Nat.le_trans (List.length_filter_le _ _) (by simp)
      ·intro j hj
       rw [replFalse] at hj
       cases hj
     ·cases hx
   ·cases hx
  ·cases hx
 | seq a b=>simp only [xcode] at hx; (repeat' split at hx); all_goals (cases hx)
 | cond a b c=>simp only [xcode] at hx; (repeat' split at hx); all_goals (cases hx)
 | block a b=>simp only [xcode] at hx; (repeat' split at hx); all_goals (cases hx)
 | loop a=>simp only [xcode] at hx; (repeat' split at hx); all_goals (cases hx)
 | _=>simp [xcode] at hx
theorem vcE_sound {Γ:Nat→Con} (hΓ:∀ f,COk P f (Γ f)):∀ (x:XC) (c:Code) (S:St) (K:Kont),xcode P N c=some x.er→vcC Γ n0 x K S →
  ∀ r a w,Rel base M N n0 r0 r S a w→c.wp P (Post base M N n0 r0 K) a w
 | .skip,c,S,K,hx,h,r,a,w,hr=>vcC_sound hΓ c _ S K hx h r a w hr
 | .reg _ _,c,S,K,hx,h,r,a,w,hr=>vcC_sound hΓ c _ S K hx h r a w hr
 | .regD _ _,c,S,K,hx,h,r,a,w,hr=>vcC_sound hΓ c _ S K hx h r a w hr
 | .regG A B C ps,c,S,K,hx,h,r,a,w,hr=>regG_sound hΓ c hx h r a w hr
 | .exit _,c,S,K,hx,h,r,a,w,hr=>vcC_sound hΓ c _ S K hx h r a w hr
 | .ret,c,S,K,hx,h,r,a,w,hr=>vcC_sound hΓ c _ S K hx h r a w hr
 | .bad,c,S,K,hx,h,r,a,w,hr=>h.elim
 | .cut z,c,S,K,hx,h,r,a,w,hr=>by
  simp only [vcC] at h
  obtain ⟨α,I,hI,hb⟩:=h
  refine wp_mono (vcE_sound hΓ z c S _ hx hb r a w hr) ?_
  rintro e a2 w2 ⟨xe,r2,S2,hxe,hK,hr2⟩
  cases e<;>simp only [XE.ofExit,Option.some.injEq,reduceCtorEq] at hxe
  ·subst hxe
   obtain ⟨z,hz1⟩:=hK
   obtain ⟨r3,hr3⟩:=hr2.le hz1
   exact ⟨.norm,r3,I z,rfl,hI z,hr3⟩
  ·subst hxe; exact ⟨_,r2,S2,rfl,hK,hr2⟩
  ·subst hxe; exact ⟨_,r2,S2,rfl,hK,hr2⟩
 | .opn s t j z,c,S,K,hx,h,r,a,w,hr=>by
  obtain ⟨r',S',h',hr'⟩:=vcOpn_sound hr h
  exact vcE_sound hΓ z c S' K hx h' r' a w hr'
 | .spl s z,c,S,K,hx,h,r,a,w,hr=>by
  obtain ⟨r',S',h',hr'⟩:=vcSpl_sound hr h
  exact vcE_sound hΓ z c S' K hx h' r' a w hr'
 | .mrg s z,c,S,K,hx,h,r,a,w,hr=>by
  obtain ⟨r',S',h',hr'⟩:=vcMrg_sound hr h
  exact vcE_sound hΓ z c S' K hx h' r' a w hr'
 | .gst z,c,S,K,hx,h,r,a,w,hr=>by
  obtain ⟨α,S',h1,h2⟩:=h
  obtain ⟨y,r',hr'⟩:=h1 _ _ _ _ _ _ _ _ hr
  exact vcE_sound hΓ z c (S' y) K hx (h2 y) r' a w hr'
 | .gsa z,c,S,K,hx,h,r,a,w,hr=>by
  simp only [vcC] at h
  refine wp_mono (vcE_sound hΓ z c S _ hx h r a w hr) ?_
  rintro e a2 w2 ⟨xe,r2,S2,hxe,hK,hr2⟩
  cases e<;>simp only [XE.ofExit,Option.some.injEq,reduceCtorEq] at hxe
  ·subst hxe
   obtain ⟨α,S',h1,h2⟩:=hK
   obtain ⟨y,r',hr'⟩:=h1 _ _ _ _ _ _ _ _ hr2
   exact ⟨.norm,r',S' y,rfl,h2 y,hr'⟩
  ·subst hxe; exact ⟨_,r2,S2,rfl,hK,hr2⟩
  ·subst hxe; exact ⟨_,r2,S2,rfl,hK,hr2⟩
 | .frz s t z,c,S,K,hx,h,r,a,w,hr=>by
  obtain ⟨r',S',h',hr'⟩:=vcFrz_sound hr h
  exact vcE_sound hΓ z c S' K hx h' r' a w hr'
 | .seq y1 y2,c,S,K,hx,h,r,a,w,hr=>by
  obtain ⟨c1,c2,rfl,h1,h2⟩:=inv_seq hx
  refine wp_seq (wp_mono (vcE_sound hΓ y1 c1 S _ h1 h r a w hr) ?_)
  rintro e a' w' ⟨xe,r',S',hxe,hK,hr'⟩
  cases e<;>simp only [XE.ofExit,Option.some.injEq,reduceCtorEq] at hxe
  ·subst hxe; exact vcE_sound hΓ y2 c2 S' K h2 hK r' a' w' hr'
  ·subst hxe; exact ⟨_,r',S',rfl,hK,hr'⟩
  ·subst hxe; exact ⟨_,r',S',rfl,hK,hr'⟩
 | .cond q y1 y2,c,S,K,hx,h,r,a,w,hr=>by
  obtain ⟨o,c1,c2,rfl,rfl,h1,h2⟩:=inv_cond hx
  simp only [vcC] at h
  unfold vcCond at h
  split at h
  ·rename_i p b hrd
   have:=rd_sound hr hrd h.1
   rw [xo_val] at this
   refine wp_cond_split (t:=b) this (fun hb=>vcE_sound hΓ y1 c1 S K h1 (h.2.1 hb) r a w hr) (fun hb=>vcE_sound hΓ y2 c2 S K h2 (h.2.2 hb) r a w hr)
  ·exact h.elim
 | .block id y,c,S,K,hx,h,r,a,w,hr=>by
  obtain ⟨c1,rfl,h1⟩:=inv_block hx
  refine wp_block (wp_mono (vcE_sound hΓ y c1 S _ h1 h r a w hr) ?_)
  rintro e a' w' ⟨xe,r',S',hxe,hK,hr'⟩
  cases e<;>simp only [XE.ofExit,Option.some.injEq,reduceCtorEq] at hxe
  ·subst hxe; exact ⟨.norm,r',S',rfl,hK,hr'⟩
  ·rename_i j
   subst hxe
   simp only [kBlock] at hK
   simp only [Exit.inBlock]
   split
   ·rename_i e; rw [if_pos e] at hK; exact ⟨.norm,r',S',rfl,hK,hr'⟩
   ·rename_i e; rw [if_neg e] at hK; exact ⟨_,r',S',rfl,hK,hr'⟩
  ·subst hxe; exact ⟨_,r',S',rfl,hK,hr'⟩
 | .loop y,c,S,K,hx,h,r,a,w,hr=>by
  obtain ⟨c1,rfl,h1⟩:=inv_loop hx
  simp only [vcC] at h
  obtain ⟨α,I,μ,x0,hle,hround⟩:=h
  refine wp_loop_ghost (fun n a w=>∃ y r,μ y=n∧Rel base M N n0 r0 r (I y) a w) (μ x0) ?_ ?_
  ·obtain ⟨r1,hr1⟩:=hr.le hle
   exact ⟨x0,r1,rfl,hr1⟩
  rintro n a' w' ⟨z,r',rfl,hr'⟩
  refine wp_mono (vcE_sound hΓ y c1 (I z) _ h1 (hround z) r' a' w' hr') ?_
  rintro e a2 w2 ⟨xe,r2,S2,hxe,hK,hr2⟩
  cases e<;>simp only [XE.ofExit,Option.some.injEq,reduceCtorEq] at hxe
  ·subst hxe
   obtain ⟨z2,hz1,hz2⟩:=hK
   obtain ⟨r3,hr3⟩:=hr2.le hz1
   exact ⟨μ z2,hz2,z2,r3,rfl,hr3⟩
  ·subst hxe; exact ⟨_,r2,S2,rfl,hK,hr2⟩
  ·subst hxe; exact ⟨_,r2,S2,rfl,hK,hr2⟩
end
end Go.Sx
namespace Go.Sx
open Go.RowKit
inductive XR where
 | s (t:Nat)
 | b1 (a:Nat)
 | bn (a n:Nat)
def xres (P:Program):List ResultVar→Option (List XR)
 | []=>some []
 | .tmp t :: l=>match xres P l with
  | some xs=>some (.s t :: xs)
  | none=>none
 | .cell a t :: l=>match P.underlying t with
  | some d=>match xres P l with
   | some xs=>if isAggD d then (match P.info? t with
    | some i=>some (.bn a i.size :: xs)
    | none=>none) else some (.b1 a :: xs)
   | none=>none
  | none=>none
structure XFn where
 n:Nat
 code:XC
 res:List XR
def xfn (P:Program) (fn:Func):Option XFn :=
 match fn.body with
 | some c=>match xcode P fn.ntmps c with
  | some x=>match xres P fn.results.toList with
   | some l=>some ⟨fn.ntmps,x,l⟩
   | none=>none
  | none=>none
 | none=>none
def XFn.er (X:XFn):XFn:=⟨X.n,X.code.er,X.res⟩
def ret1 (S:St):XR→Option (Prop × S1)
 | .s t=>rd S.env (.t t)
 | .b1 a=>match rd S.env (.t a) with
  | some (p,x)=>match qLoad1 (lk S.ents) [x] with
   | some (q,y)=>some (p∧q,y)
   | none=>none
  | none=>none
 | .bn a n=>match rd S.env (.t a) with
  | some (p,x)=>match qLoadN (lk S.ents) n [x] with
   | some (q,y)=>some (p∧q,y)
   | none=>none
  | none=>none
def rets (S:St):List XR→Option (Prop × List S1)
 | []=>some (True,[])
 | x :: l=>match ret1 S x with
  | some (p,y)=>match rets S l with
   | some (q,ys)=>some (p∧q,y :: ys)
   | none=>none
  | none=>none
def retV:List S1→SV
 | [x]=>.o x
 | xs=>.t xs
def kRet (res:List XR) (Q:SV→St→Prop):Kont
 | .ex _,_=>False
 | .norm,S=>match rets S res with
  | some (p,xs)=>p∧Q (retV xs) S
  | none=>False
 | .ret,S=>match rets S res with
  | some (p,xs)=>p∧Q (retV xs) S
  | none=>False
def env0:Nat→List S1→List (Nat × SV)
 | _,[]=>[]
 | k,x :: xs=>(k,.o x) :: env0 (k+1) xs
def vcF (Γ:Nat→Con) (X:XFn) (args:List S1) (ents:List (Nat × Ent)) (n0:Nat) (Q:SV→St→Prop):Prop :=
 args.length≤X.n∧vcC Γ n0 X.code (kRet X.res Q) ⟨env0 0 args,ents,n0⟩
section
variable {P:Program} {base:World} {M:Scp} {N n0:Nat} {r0 r:Rho} {S:St} {a:Act} {w:World}
def resOne (tmps:Array Value):ResultVar→Go.Sem Value
 | .tmp t=>pure (tmps.getD t undef)
 | .cell b t=>do loadVar t (← asAddr (tmps.getD b undef))
theorem results_eq (fn:Func) (tmps:Array Value):results fn tmps=(do
  let vs ← fn.results.mapM (resOne tmps)
  pure (if h:vs.size=1 then vs[0] else .tuple vs)):=by
 unfold results
 congr 2
theorem ret1_sound {x:XR} {rv:ResultVar} {p:Prop} {y:S1} (hr:Rel base M N n0 r0 r S a w) (hx:xres P [rv]=some [x]) (h:ret1 S x=some (p,y)) (hp:p) :
    (resOne a.tmps rv).run P w = .ok (y.den r) w∧y.sc (upto S.next):=by
  cases rv with
  | tmp t=>
    simp only [xres,Option.some.injEq,List.cons.injEq,and_true] at hx
    subst hx
    simp only [ret1] at h
    refine ⟨?_,rd_sc hr h⟩
    have:=rd_sound hr h hp
    simp only [XO.val] at this
    simp only [resOne,Sem.run_pure,this]
  | cell b t=>
    simp only [xres] at hx
    split at hx
    · rename_i d hu
      split at hx
      · rename_i hd
        split at hx
        · rename_i i hi
          simp only [Option.some.injEq,List.cons.injEq,and_true] at hx
          subst hx
          simp only [ret1] at h
          split at h
          · rename_i p1 z hrd
            split at h
            · rename_i q y' hq
              cases h
              have hz:=rd_sound hr hrd hp.1
              simp only [XO.val] at hz
              have hsc:=opQ_sc (op:=.loadN i.size) (ys:=[z]) hr.scH (by intro y' hy'; simp only [List.mem_singleton] at hy'; subst hy'; exact rd_sc hr hrd) hq
              refine ⟨?_,hsc⟩
              have hl := sound_loadN (P := P) (o := ⟨none, .load t (.tmp b), 0, "", #[], none⟩) (a := a) (t := t) (x := .tmp b) (ys := [z]) hr.heap rfl hu hd hi hz hq hp.2
              unfold Yields at hl
              simp only [execOp,Act.eval,Instr.loadAt,Sem.run_bind] at hl
              simp only [resOne,Sem.run_bind]
              rw [hz] at hl ⊢
              unfold qLoadN at hq
              split at hq
              · rename_i heq; cases heq
                simp only [S1.den,SC.den,Instr.sureAddr,asAddr,Sem.run_bind,Sem.run_pure,Result.andThen_ok] at hl ⊢
                generalize (loadVar t _).run P w=res at hl ⊢
                cases res with
                | ok v w'=>simp only [Result.andThen_ok,Result.ok.injEq,Next.value.injEq] at hl; simp only [hl.1,hl.2]
                | halt x w'=>simp at hl
              · rename_i heq; cases heq
                simp only [S1.den,SC.den,Instr.sureAddr,asAddr,Sem.run_bind,Sem.run_pure,Result.andThen_ok] at hl ⊢
                generalize (loadVar t _).run P w=res at hl ⊢
                cases res with
                | ok v w'=>simp only [Result.andThen_ok,Result.ok.injEq,Next.value.injEq] at hl; simp only [hl.1,hl.2]
                | halt x w'=>simp at hl
              · cases hq
            · cases h
          · cases h
        · cases hx
      · rename_i hd
        simp only [Option.some.injEq,List.cons.injEq,and_true] at hx
        subst hx
        simp only [ret1] at h
        split at h
        · rename_i p1 z hrd
          split at h
          · rename_i q y' hq
            cases h
            have hz:=rd_sound hr hrd hp.1
            simp only [XO.val] at hz
            have hsc:=opQ_sc (op:=.load1) (ys:=[z]) hr.scH (by intro y' hy'; simp only [List.mem_singleton] at hy'; subst hy'; exact rd_sc hr hrd) hq
            refine ⟨?_,hsc⟩
            have hl := sound_load1 (P := P) (o := ⟨none, .load t (.tmp b), 0, "", #[], none⟩) (a := a) (t := t) (x := .tmp b) (xs := []) (ys := [z]) hr.heap rfl hu (by simpa using hd) hz hq hp.2
            unfold Yields at hl
            simp only [execOp,Act.eval,Instr.loadAt,Sem.run_bind] at hl
            simp only [resOne,Sem.run_bind]
            rw [hz] at hl ⊢
            unfold qLoad1 at hq
            split at hq
            · rename_i heq; cases heq
              simp only [S1.den,SC.den,Instr.sureAddr,asAddr,Sem.run_bind,Sem.run_pure,Result.andThen_ok] at hl ⊢
              generalize (loadVar t _).run P w=res at hl ⊢
              cases res with
              | ok v w'=>simp only [Result.andThen_ok,Result.ok.injEq,Next.value.injEq] at hl; simp only [hl.1,hl.2]
              | halt x w'=>simp at hl
            · rename_i heq; cases heq
              simp only [S1.den,SC.den,Instr.sureAddr,asAddr,Sem.run_bind,Sem.run_pure,Result.andThen_ok] at hl ⊢
              generalize (loadVar t _).run P w=res at hl ⊢
              cases res with
              | ok v w'=>simp only [Result.andThen_ok,Result.ok.injEq,Next.value.injEq] at hl; simp only [hl.1,hl.2]
              | halt x w'=>simp at hl
            · cases hq
          · cases h
        · cases h
    · cases hx
theorem xres_cons {rv:ResultVar} {l:List ResultVar} {xl:List XR} (h:xres P (rv :: l)=some xl):∃ x xs,xl=x :: xs∧xres P [rv]=some [x]∧xres P l=some xs:=by
 cases rv with
 | tmp t=>
  simp only [xres] at h ⊢
  split at h
  ·rename_i xs hxs; cases h; exact ⟨_,xs,rfl,rfl,hxs⟩
  ·cases h
 | cell b t=>
  simp only [xres] at h ⊢
  split at h
  ·rename_i d hu
   split at h
   ·rename_i xs hxs
    split at h
    ·rename_i hd
     split at h
     ·rename_i i hi; cases h; exact ⟨_,xs,rfl,by simp [hd],hxs⟩
     ·cases h
    ·rename_i hd; cases h; exact ⟨_,xs,rfl,by simp [hd],hxs⟩
   ·cases h
  ·cases h
theorem rets_sound (hr:Rel base M N n0 r0 r S a w):∀ {l:List ResultVar} {xl:List XR} {p:Prop} {ys:List S1},xres P l=some xl→rets S xl=some (p,ys)→p →
  (l.mapM (resOne a.tmps)).run P w = .ok (ys.map (S1.den r)) w∧∀ y∈ys,y.sc (upto S.next)
 | [],xl,p,ys,hx,h,hp=>by
  simp only [xres,Option.some.injEq] at hx; subst hx
  simp only [rets,Option.some.injEq,Prod.mk.injEq] at h
  obtain ⟨_,rfl⟩:=h
  exact ⟨rfl,fun y hy=>by cases hy⟩
 | rv :: l,xl,p,ys,hx,h,hp=>by
  obtain ⟨x,xs,rfl,h1,h2⟩:=xres_cons hx
  simp only [rets] at h
  split at h
  ·rename_i p1 y hy
   split at h
   ·rename_i q ys' hys
    cases h
    obtain ⟨e1,s1⟩:=ret1_sound hr h1 hy hp.1
    obtain ⟨e2,s2⟩:=rets_sound hr h2 hys hp.2
    refine ⟨?_,fun z hz=>by cases hz with | head=>exact s1 | tail _ hm=>exact s2 z hm⟩
    simp only [List.mapM_cons,Sem.run_bind]
    rw [e1]
    simp only [Result.andThen_ok]
    rw [e2]
    simp
   ·cases h
  ·cases h
theorem env0_lk:∀ (xs:List S1) (k s:Nat) (v:SV),lk (env0 k xs) s=some v→k≤s∧∃ x,v = .o x∧xs[s - k]?=some x
 | [],k,s,v,h=>by cases h
 | x :: xs,k,s,v,h=>by
  simp only [env0,lk] at h
  split at h
  ·rename_i e; subst e; cases h; exact ⟨Nat.le_refl _,x,rfl,by simp⟩
  ·rename_i e
   obtain ⟨h1,y,h2,h3⟩:=env0_lk xs (k+1) s v h
   refine ⟨by omega,y,h2,?_⟩
   have:s - k=(s - (k+1))+1:=by omega
   rw [this,List.getElem?_cons_succ]
   exact h3
theorem calls_vc {f:Nat} {fn:Func} {X:XFn} {Γ:Nat→Con} {args:List S1} {ents:List (Nat × Ent)} {Q:SV→St→Prop} (hf:P.funcs[f]?=some fn) (hx:xfn P fn=some X.er) (hΓ:∀ f,COk P f (Γ f))
  (h:vcF Γ X args ents n0 Q) (hh:HeapRel base M r (lk ents) w) (hargs:∀ x∈args,S1.sc (upto n0) x) (hents:∀ i e,lk ents i=some e→i < n0∧e.sc (upto n0)) :
  Calls P f (args.map (S1.den r)).toArray w (fun e w'=>∃ r' v S,(∀ i,i < n0→r' i=r i)∧e = .returned (v.den r')∧Q v S∧HeapRel base M r' (lk S.ents) w'∧v.sc (upto S.next)∧n0≤S.next ∧
   (∀ i e,lk S.ents i=some e→i < S.next∧e.sc (upto S.next))):=by
 unfold xfn at hx
 split at hx
 ·rename_i c hbody
  split at hx
  ·rename_i x hxc
   split at hx
   ·rename_i l hl
    obtain ⟨xn,xc,xr⟩:=X
    simp only [XFn.er,Option.some.injEq,XFn.mk.injEq] at hx
    obtain ⟨rfl,rfl,rfl⟩:=hx
    obtain ⟨hlen,hvc⟩:=h
    simp only at hlen hvc
    refine calls_of_wp hf hbody ?_
    have hrel:Rel base M fn.ntmps n0 r r ⟨env0 0 args,ents,n0⟩ { tmps:=(args.map (S1.den r)).toArray++Array.replicate (fn.ntmps - (args.map (S1.den r)).toArray.size) undef,defers:=[] } w:=by
     refine ⟨rfl,?_,?_,hh,?_,hents,Nat.le_refl _,fun _ _=>rfl⟩
     ·simp; omega
     ·intro s v hlk
      obtain ⟨_,y,rfl,hy⟩:=env0_lk args 0 s v hlk
      simp only [Nat.sub_zero] at hy
      have hs:=(List.getElem?_eq_some_iff.1 hy).1
      rw [Array.getD_eq_getD_getElem?,Array.getElem?_append,if_pos (by simpa using hs)]
      simp [hy,SV.den]
     ·intro s v hlk
      obtain ⟨_,y,rfl,hy⟩:=env0_lk args 0 s v hlk
      exact hargs y (List.mem_of_getElem? hy)
    refine wp_mono (vcE_sound hΓ xc c _ _ hxc hvc r _ w hrel) ?_
    rintro e a' w' ⟨xe,r',S',hxe,hK,hr'⟩
    have fin:∀ (hh:(match rets S' l with | some (p,xs)=>p∧Q (retV xs) S' | none=>False)),a'.defers=[]∧∃ v,(results fn a'.tmps).run P w' = .ok v w' ∧
      ∃ r2 v2 S2,(∀ i,i < n0→r2 i=r i)∧Ending.returned v = .returned (SV.den r2 v2)∧Q v2 S2∧HeapRel base M r2 (lk S2.ents) w'∧v2.sc (upto S2.next)∧n0≤S2.next ∧
       (∀ i e,lk S2.ents i=some e→i < S2.next∧e.sc (upto S2.next)):=by
     intro hh
     split at hh
     ·rename_i p xs hrets
      obtain ⟨e1,s1⟩:=rets_sound hr' hl hrets hh.1
      refine ⟨hr'.defers,(retV xs).den r',?_,r',retV xs,S',hr'.keep,rfl,hh.2,hr'.heap,?_,hr'.low,hr'.scH⟩
      ·rw [results_eq,Array.mapM_eq_mapM_toList]
       simp only [Sem.run_bind,Sem.run_map,e1,Result.andThen_ok]
       match xs with
       | []=>simp [retV,SV.den]
       | [x]=>simp [retV,SV.den]
       | x :: y :: zs=>simp [retV,SV.den]
      ·match xs,s1 with
       | [],s1=>exact fun y hy=>by cases hy
       | [x],s1=>exact s1 x (by simp)
       | x :: y :: zs,s1=>exact s1
     ·exact hh.elim
    cases e<;>simp only [XE.ofExit,Option.some.injEq,reduceCtorEq] at hxe
    ·subst hxe; exact fin hK
    ·subst hxe; exact hK.elim
    ·subst hxe; exact fin hK
   ·cases hx
  ·cases hx
 ·cases hx
theorem HeapRel.init (w:World) (r:Rho) (hr:∀ i,(r i).oneCell'=true):HeapRel w ⟨fun _=>False,fun _=>False⟩ r (lk []) w :=
 ⟨Nat.le_refl _,hr,rfl,rfl,.refl _,fun _ _ _=>rfl,(fun i e h=>by cases h),(fun i j e e' _ h=>by cases h),(fun i e h=>by cases h),(fun i e h=>by cases h)⟩
theorem HeapRel.toBelow {r r0:Rho} {E E0:Nat→Option Ent} {w w':World} (hm:∀ b,¬ mutB E0 r0 b) (h:HeapRel w ⟨mutB E0 r0,allB E0 r0⟩ r E w'):BelowD w.heap.size w w' :=
 ⟨h.os,h.tape,h.output,h.size,fun b hb=>h.frame b hb (hm b)⟩
def plain (sp:List S1→Option (Prop × SV)):Con:=fun args _ _=>
 match sp args with
 | some (pre,res)=>some (.q pre res)
 | none=>none
theorem cok_tab {l:List (Nat × Con)} (h:∀ f g,lk l f=some g→COk P f g):∀ f,COk P f (tab l f):=by
 intro f args E n ha hE
 unfold tab
 cases hg:lk l f with
 | none=>trivial
 | some g=>exact h f g hg args E n ha hE
theorem cok_nil:∀ f g,lk ([]:List (Nat × Con)) f=some g→COk P f g:=fun f g h=>by cases h
theorem cok_cons {f:Nat} {g:Con} {l:List (Nat × Con)} (h:COk P f g) (hl:∀ f g,lk l f=some g→COk P f g):∀ f' g',lk ((f,g) :: l) f'=some g'→COk P f' g':=by
 intro f' g' h'
 simp only [lk] at h'
 split at h'
 ·rename_i e; subst e; cases h'; exact h
 ·exact hl f' g' h'
def sg (k0 n:Nat) (img:List Nat) (k:Nat):Nat:=if k < k0 then img.getD k 0 else n+(k - k0)
def renP (σ:Nat→Nat):List CP→List CP
 | []=>[]
 | .v x :: l=>.v x :: renP σ l
 | .p i j :: l=>.p (σ i) j :: renP σ l
def SC.ren (σ:Nat→Nat):SC→SC
 | .v x=>.v x
 | .f g cs=>.f g (renP σ cs)
 | .p i j=>.p (σ i) j
 | .n i=>.n (σ i)
 | .q i sz e j=>.q (σ i) sz e j
def renL (σ:Nat→Nat):List SC→List SC
 | []=>[]
 | x :: l=>x.ren σ :: renL σ l
def S1.ren (σ:Nat→Nat):S1→S1
 | .c x=>.c (x.ren σ)
 | .a cs=>.a (renL σ cs)
def ren1L (σ:Nat→Nat):List S1→List S1
 | []=>[]
 | x :: l=>x.ren σ :: ren1L σ l
def SV.ren (σ:Nat→Nat):SV→SV
 | .o x=>.o (x.ren σ)
 | .t xs=>.t (ren1L σ xs)
 | .g b x=>.g b (x.ren σ)
def renAl (σ:Nat→Nat):List (Nat × Nat × Nat)→List (Nat × Nat × Nat)
 | []=>[]
 | (e,j,c) :: l=>(e,j,σ c) :: renAl σ l
def renF (σ:Nat→Nat) (f:Nat→SC):Nat→SC:=fun j=>(f j).ren σ
def Sub.ren (σ:Nat→Nat):Sub→Sub
 | .out k=>.out (σ k)
 | .box cs ty=>.box cs ty
 | .dm k l=>.dm k l
def renPl (σ:Nat→Nat) (p:Pool):Pool:=fun i j=>match p i j with
 | some (U,s)=>some (U,s.ren σ)
 | none=>none
theorem renPl_some {σ:Nat→Nat} {p:Pool} {i j:Nat} {U:Value} {s:Sub} (h:renPl σ p i j=some (U,s)):∃ s0,p i j=some (U,s0)∧s=s0.ren σ:=by
 unfold renPl at h
 split at h
 ·rename_i U0 s0 h0; cases h; exact ⟨s0,h0,rfl⟩
 ·cases h
theorem renPl_of {σ:Nat→Nat} {p:Pool} {i j:Nat} {U:Value} {s:Sub} (h:p i j=some (U,s)):renPl σ p i j=some (U,s.ren σ):=by unfold renPl; rw [h]
theorem Sub.ren_foot {σ:Nat→Nat} {s:Sub} {V:Value} {b:Nat}:(s.ren σ).foot V b ↔ s.foot V b:=by cases s<;>exact Iff.rfl
theorem Sub.ren_wfoot {σ:Nat→Nat} {s:Sub} {V:Value} {b:Nat}:(s.ren σ).wfoot V b ↔ s.wfoot V b:=by cases s<;>exact Iff.rfl
theorem renPl_B {σ:Nat→Nat} {p:Pool} {b:Nat}:poolB (renPl σ p) b ↔ poolB p b:=by
 constructor
 ·rintro ⟨i,j,U,s,h1,h2⟩
  obtain ⟨s0,h3,rfl⟩:=renPl_some h1
  exact ⟨i,j,U,s0,h3,Sub.ren_foot.1 h2⟩
 ·rintro ⟨i,j,U,s,h1,h2⟩
  exact ⟨i,j,U,_,renPl_of h1,Sub.ren_foot.2 h2⟩
theorem renPl_W {σ:Nat→Nat} {p:Pool} {b:Nat}:poolW (renPl σ p) b ↔ poolW p b:=by
 constructor
 ·rintro ⟨i,j,U,s,h1,h2⟩
  obtain ⟨s0,h3,rfl⟩:=renPl_some h1
  exact ⟨i,j,U,s0,h3,Sub.ren_wfoot.1 h2⟩
 ·rintro ⟨i,j,U,s,h1,h2⟩
  exact ⟨i,j,U,_,renPl_of h1,Sub.ren_wfoot.2 h2⟩
theorem renPl_ap {σ:Nat→Nat} {p:Pool} (h:poolAp p):poolAp (renPl σ p):=by
 intro i j i' j' U U' s s' b h1 h2 hne hw hf
 obtain ⟨s0,h3,rfl⟩:=renPl_some h1
 obtain ⟨s1,h4,rfl⟩:=renPl_some h2
 exact h i j i' j' U U' s0 s1 b h3 h4 hne (Sub.ren_wfoot.1 hw) (Sub.ren_foot.1 hf)
theorem Sub.rel_ren {σ:Nat→Nat} {r:Rho} {w:World} {V:Value}:∀ {s:Sub},s.rel (fun i=>r (σ i)) w V→(s.ren σ).rel r w V
 | .box _ _,h=>h
 | .dm _ _,h=>h
 | .out _,h=>h
theorem poolSc_ren {σ:Nat→Nat} {m:Nat→Prop} {p:Pool}:poolSc m (renPl σ p) ↔ poolSc (fun i=>m (σ i)) p:=by
 constructor
 ·intro h i j U k hp
  exact h i j U (σ k) (by rw [renPl_of hp]; rfl)
 ·intro h i j U k hp
  obtain ⟨s0,h3,h4⟩:=renPl_some hp
  cases s0 with
  | out q=>cases h4; exact h i j U q h3
  | box _ _=>cases h4
  | dm _ _=>cases h4
def Ent.ren (σ:Nat→Nat):Ent→Ent
 | .box cs ty=>.box (renL σ cs) ty
 | .ro n sz f=>.ro n sz (fun e j=>(f e j).ren σ)
 | .own n sz f ty=>.own n sz (fun e j=>(f e j).ren σ) ty
 | .nils=>.nils
 | .dead=>.dead
 | .dm k l=>.dm k l
 | .deep o n sz f c al=>.deep o n sz f c (renAl σ al)
 | .inn n sz f c=>.inn n sz f c
 | .itr i m sn=>.itr (σ i) m sn
 | .bx n f ty p=>.bx n (renF σ f) ty (renPl σ p)
 | .len n=>.len n
 | .als j n b=>.als (σ j) n b
def renE (σ:Nat→Nat):List (Nat × Ent)→List (Nat × Ent)
 | []=>[]
 | (i,e) :: l=>(σ i,e.ren σ) :: renE σ l
theorem denP_ren (σ:Nat→Nat) (r:Rho):∀ (l:List CP),denP r (renP σ l)=denP (fun i=>r (σ i)) l
 | []=>rfl
 | .v x :: l=>by simp only [renP,denP,denP_ren σ r l,CP.den]
 | .p i j :: l=>by simp only [renP,denP,denP_ren σ r l,CP.den]
theorem SC.den_ren (σ:Nat→Nat) (r:Rho) (x:SC):(x.ren σ).den r=x.den (fun i=>r (σ i)):=by
 cases x
 case f g cs=>simp only [SC.ren,SC.den,denP_ren]
 all_goals rfl
theorem renL_eq (σ:Nat→Nat):∀ l,renL σ l=l.map (SC.ren σ)
 | []=>rfl
 | x :: l=>by simp [renL,renL_eq σ l]
theorem ren1L_eq (σ:Nat→Nat):∀ l,ren1L σ l=l.map (S1.ren σ)
 | []=>rfl
 | x :: l=>by simp [ren1L,ren1L_eq σ l]
theorem S1.den_ren (σ:Nat→Nat) (r:Rho) (x:S1):(x.ren σ).den r=x.den (fun i=>r (σ i)):=by
 cases x with
 | c x=>exact SC.den_ren σ r x
 | a cs=>simp only [S1.den,S1.ren,renL_eq,List.map_map]; congr 2; exact List.map_congr_left fun x _=>SC.den_ren σ r x
theorem SV.den_ren (σ:Nat→Nat) (r:Rho) (x:SV):(x.ren σ).den r=x.den (fun i=>r (σ i)):=by
 cases x with
 | o x=>exact S1.den_ren σ r x
 | g b x=>simp only [SV.den,SV.ren]; rw [S1.den_ren]
 | t xs=>simp only [SV.den,SV.ren,ren1L_eq,List.map_map]; congr 2; exact List.map_congr_left fun x _=>S1.den_ren σ r x
theorem renP_sc {σ:Nat→Nat} {m:Nat→Prop}:∀ {l:List CP},scP m (renP σ l) ↔ scP (fun i=>m (σ i)) l
 | []=>Iff.rfl
 | .v x :: l=>by simp only [renP,scP,CP.sc,renP_sc]
 | .p i j :: l=>by simp only [renP,scP,CP.sc,renP_sc]
theorem SC.sc_ren {σ:Nat→Nat} {m:Nat→Prop} {x:SC}:(x.ren σ).sc m ↔ x.sc (fun i=>m (σ i)):=by
 cases x
 case f g cs=>exact renP_sc
 all_goals exact Iff.rfl
theorem renL_sc {σ:Nat→Nat} {m:Nat→Prop}:∀ {l:List SC},scL m (renL σ l) ↔ scL (fun i=>m (σ i)) l
 | []=>Iff.rfl
 | x :: l=>by simp only [renL,scL,SC.sc_ren,renL_sc]
theorem S1.sc_ren {σ:Nat→Nat} {m:Nat→Prop} {x:S1}:sc1 m (x.ren σ) ↔ sc1 (fun i=>m (σ i)) x:=by
 cases x with
 | c x=>exact SC.sc_ren
 | a cs=>exact renL_sc
theorem ren1L_sc {σ:Nat→Nat} {m:Nat→Prop}:∀ {l:List S1},sc1L m (ren1L σ l) ↔ sc1L (fun i=>m (σ i)) l
 | []=>Iff.rfl
 | x :: l=>by simp only [ren1L,sc1L,S1.sc_ren,ren1L_sc]
theorem SV.sc_ren {σ:Nat→Nat} {m:Nat→Prop} {x:SV}:scV m (x.ren σ) ↔ scV (fun i=>m (σ i)) x:=by
 cases x with
 | o x=>exact S1.sc_ren
 | g b x=>exact S1.sc_ren
 | t xs=>exact ren1L_sc
theorem renAl_sc {σ:Nat→Nat} {m:Nat→Prop}:∀ {l:List (Nat × Nat × Nat)},alSc m (renAl σ l) ↔ alSc (fun i=>m (σ i)) l
 | []=>Iff.rfl
 | (e,j,c) :: l=>by simp only [renAl,alSc,renAl_sc]
theorem renAl_is {σ:Nat→Nat} {r:Rho} {f:Nat→Nat→Value}:∀ {l:List (Nat × Nat × Nat)},alIs (fun i=>r (σ i)) f l→alIs r f (renAl σ l)
 | [],_=>trivial
 | (e,j,c) :: l,h=>⟨h.1,renAl_is h.2⟩
theorem Ent.sc_ren {σ:Nat→Nat} {m:Nat→Prop} {x:Ent}:scE m (x.ren σ) ↔ scE (fun i=>m (σ i)) x:=by
 cases x with
 | box cs ty=>exact renL_sc
 | ro n sz f=>exact forall_congr' fun e=>forall_congr' fun j=>SC.sc_ren
 | own n sz f ty=>exact forall_congr' fun e=>forall_congr' fun j=>SC.sc_ren
 | nils=>exact Iff.rfl
 | dead=>exact Iff.rfl
 | dm _ _=>exact Iff.rfl
 | deep o n sz f c al=>exact renAl_sc
 | inn n sz f c=>exact Iff.rfl
 | itr _ _ _=>exact Iff.rfl
 | len _=>exact Iff.rfl
 | als _ _ _=>exact Iff.rfl
 | bx n f ty p=>exact and_congr (forall_congr' fun j=>SC.sc_ren) poolSc_ren
theorem scL_iff {m:Nat→Prop}:∀ {l:List SC},scL m l ↔ ∀ x∈l,x.sc m
 | []=>by simp [scL]
 | x :: l=>by simp [scL,scL_iff]
theorem sc1_iff {m:Nat→Prop} {x:S1}:sc1 m x ↔ x.sc m:=by
 cases x with
 | c x=>exact Iff.rfl
 | a cs=>exact scL_iff
theorem sc1L_iff {m:Nat→Prop}:∀ {l:List S1},sc1L m l ↔ ∀ x∈l,x.sc m
 | []=>by simp [sc1L]
 | x :: l=>by simp [sc1L,sc1L_iff,sc1_iff]
theorem scV_iff {m:Nat→Prop} {x:SV}:scV m x ↔ x.sc m:=by
 cases x with
 | o x=>exact sc1_iff
 | g b x=>exact sc1_iff
 | t xs=>exact sc1L_iff
theorem scE_iff {m:Nat→Prop} {x:Ent}:scE m x ↔ x.sc m:=by
 cases x with
 | box cs ty=>exact scL_iff
 | ro n sz f=>exact Iff.rfl
 | own n sz f ty=>exact Iff.rfl
 | nils=>exact Iff.rfl
 | dead=>exact Iff.rfl
 | dm _ _=>exact Iff.rfl
 | deep o n sz f c al=>exact Iff.rfl
 | inn n sz f c=>exact Iff.rfl
 | itr _ _ _=>exact Iff.rfl
 | len _=>exact Iff.rfl
 | als _ _ _=>exact Iff.rfl
 | bx _ _ _ _=>exact Iff.rfl
theorem renE_lk {σ:Nat→Nat}:∀ {l:List (Nat × Ent)} {i:Nat} {e:Ent},lk (renE σ l) i=some e→∃ k e',(k,e')∈l∧σ k=i∧e=e'.ren σ
 | (k,x) :: l,i,e,h=>by
  simp only [renE,lk] at h
  split at h
  ·rename_i hk; cases h; exact ⟨k,x,by simp,hk,rfl⟩
  ·obtain ⟨k',e',h1,h2⟩:=renE_lk h
   exact ⟨k',e',by simp [h1],h2⟩
def covers (cn:List (Nat × Ent)):Nat→Bool
 | 0=>true
 | k+1=>(lk cn k).isSome && covers cn k
def inE (E:Nat→Option Ent) (σ:Nat→Nat):List (Nat × Ent)→Prop
 | []=>True
 | (k,e) :: l=>(∃ e0,E (σ k)=some e0∧leE (SC.ren σ) e0 e)∧inE E σ l
def inE0 (E:Nat→Option Ent) (σ:Nat→Nat):List (Nat × Ent)→Prop
 | []=>True
 | (k,_) :: l=>(∃ e0,E (σ k)=some e0)∧inE0 E σ l
def apartE (σ:Nat→Nat):List (Nat × Ent)→List (Nat × Ent)→Prop
 | [],_=>True
 | (k,e) :: l,all=>(e.mut=true→∀ k' e',(k',e')∈all→k'≠k→σ k'≠σ k)∧apartE σ l all
def keysNodup:List (Nat × Ent)→Prop
 | []=>True
 | (k,_) :: l=>outN k (keys l)∧keysNodup l
def told (ents:List (Nat × Ent)):List (Nat × Ent)→Bool
 | []=>true
 | (k,e) :: l=>(!e.mut || (lk ents k).isSome) && told ents l
def rowLen:Ent→Nat
 | .ro n _ _=>n
 | .own n _ _ _=>n
 | .deep _ n _ _ _ _=>n
 | _=>0
def Lens (E:Nat→Option Ent):Prop:=∀ i e,E i=some e→rowLen e≤9223372036854775807
theorem HeapRel.lens {E:Nat→Option Ent} (h:HeapRel base M r E w):Lens E:=by
 intro i e he
 have:=h.ent i e he
 cases e with
 | box cs ty=>simp [rowLen]
 | ro n sz f=>obtain ⟨a,cap,_,_,hm,_⟩:=this; exact hm
 | own n sz f ty=>exact this.1
 | nils=>simp [rowLen]
 | dead=>simp [rowLen]
 | dm _ _=>simp [rowLen]
 | deep o n sz f c al=>
  obtain ⟨this,_⟩:=this
  cases o with
  | none=>obtain ⟨a,cap,_,_,hm,_⟩:=this; exact hm
  | some ty=>exact this.1.1
 | inn n sz f c=>simp [rowLen]
 | itr _ _ _=>simp [rowLen]
 | len _=>simp [rowLen]
 | als _ _ _=>simp [rowLen]
 | bx _ _ _ _=>simp [rowLen]
end
end Go.Sx
namespace Go.Sx
open Go.RowKit
section
variable {P:Program} {base:World} {M:Scp} {N n0:Nat} {r0 r:Rho} {S:St} {a:Act} {w:World}
theorem Ent.rel_ren {σ:Nat→Nat} {V:Value}:∀ {e:Ent},e.rel (fun i=>r (σ i)) w V→(e.ren σ).rel r w V
 | .box cs ty,⟨b,h1,h2⟩=>⟨b,h1,by
   rw [renL_eq,List.map_map]
   have:cs.map (SC.den r ∘ SC.ren σ)=cs.map (SC.den fun i=>r (σ i)):=List.map_congr_left fun x _=>SC.den_ren σ r x
   rw [this]; exact h2⟩
 | .ro n sz f,⟨a,cap,h1,h2,hm,h3⟩=>⟨a,cap,h1,h2,hm,fun hn=>by
   obtain ⟨b,o,h4,h5,h6⟩:=h3 hn
   exact ⟨b,o,h4,h5,fun e j he hj=>by rw [SC.den_ren]; exact h6 e j he hj⟩⟩
 | .own n sz f ty,⟨hm,hr⟩=>⟨hm,by
   rcases hr with ⟨b,o,cap,cur,h1,h2,h3,h4,h5,h6⟩ | hr
   ·exact .inl ⟨b,o,cap,cur,h1,h2,h3,h4,h5,fun e j he hj=>by rw [SC.den_ren]; exact h6 e j he hj⟩
   ·exact .inr hr⟩
 | .nils,h=>h
 | .dead,_=>trivial
 | .dm _ _,h=>h
 | .deep _ _ _ _ _ _,h=>⟨h.1,h.2.1,renAl_is h.2.2⟩
 | .inn _ _ _ _,h=>h
 | .itr _ _ _,h=>h
 | .len _,h=>h
 | .als _ _ _,h=>h
 | .bx n f ty p,⟨⟨b,h1,h2,h3⟩,h4,h5⟩=>⟨⟨b,h1,by
   have:(rngS n (renF σ f)).map (SC.den r)=(rngS n f).map (SC.den fun i=>r (σ i)):=by
    unfold rngS renF
    rw [List.map_map,List.map_map]
    exact List.map_congr_left fun j _=>SC.den_ren σ r (f j)
   rw [this]; exact h2,fun hb=>h3 (renPl_B.1 hb)⟩,fun i j U s hp=>by
   obtain ⟨s0,q1,rfl⟩:=renPl_some hp
   exact Sub.rel_ren (h4 i j U s0 q1),renPl_ap h5⟩
theorem Ent.ren_wB {σ:Nat→Nat} {e:Ent} {b:Nat}:(e.ren σ).wB b ↔ e.wB b:=by cases e<;>first | exact Iff.rfl | exact renPl_W
theorem Ent.ren_inB {σ:Nat→Nat} {e:Ent} {b:Nat}:(e.ren σ).inB b ↔ e.inB b:=by cases e<;>first | exact Iff.rfl | exact renPl_B
theorem Ent.ren_mut {σ:Nat→Nat} {e:Ent}:(e.ren σ).mut=e.mut:=by cases e<;>rfl
theorem Ent.ren_live {σ:Nat→Nat} {e:Ent}:(e.ren σ).live=e.live:=by cases e<;>rfl
theorem lk_of_mem:∀ {l:List (Nat × Ent)} {k:Nat} {e:Ent},keysNodup l→(k,e)∈l→lk l k=some e
 | (j,x) :: l,k,e,hn,h=>by
  simp only [lk]
  cases h with
  | head=>rw [if_pos rfl]
  | tail _ hm=>
   have hk:k∈keys l:=by
    clear hn
    induction l with
    | nil=>cases hm
    | cons y l ih=>
     obtain ⟨j',x'⟩:=y
     simp only [keys,List.mem_cons]
     cases hm with
     | head=>exact .inl rfl
     | tail _ hm=>exact .inr (ih hm)
   rw [if_neg (by rintro rfl; exact outN_mem hn.1 hk)]
   exact lk_of_mem hn.2 hm
theorem renE_some {σ:Nat→Nat}:∀ {l:List (Nat × Ent)} {k:Nat} {e:Ent},lk l k=some e→∃ e',lk (renE σ l) (σ k)=some e'
 | (j,x) :: l,k,e,h=>by
  simp only [lk] at h
  simp only [renE,lk]
  by_cases hj:j=k
  ·subst hj; exact ⟨_,by rw [if_pos rfl]⟩
  ·rw [if_neg hj] at h
   obtain ⟨e',he⟩:=renE_some (σ:=σ) h
   by_cases hs:σ j=σ k
   ·exact ⟨_,by rw [if_pos hs]⟩
   ·exact ⟨e',by rw [if_neg hs]; exact he⟩
theorem told_spec {ents:List (Nat × Ent)}:∀ {l:List (Nat × Ent)},told ents l=true→∀ k e,lk l k=some e→e.mut=true→∃ x,lk ents k=some x
 | (j,x) :: l,h,k,e,hk,hm=>by
  simp only [told,Bool.and_eq_true,Bool.or_eq_true,Bool.not_eq_true'] at h
  simp only [lk] at hk
  split at hk
  ·rename_i hj
   subst hj
   cases hk
   rcases h.1 with h1 | h1
   ·rw [hm] at h1; cases h1
   ·exact Option.isSome_iff_exists.1 h1
  ·exact told_spec h.2 k e hk hm
theorem lk_mem:∀ {l:List (Nat × Ent)} {k:Nat} {e:Ent},lk l k=some e→(k,e)∈l
 | (j,x) :: l,k,e,h=>by
  simp only [lk] at h
  split at h
  ·rename_i hj; subst hj; cases h; exact List.mem_cons_self
  ·exact List.mem_cons_of_mem _ (lk_mem h)
theorem inE_spec {E:Nat→Option Ent} {σ:Nat→Nat}:∀ {l:List (Nat × Ent)},inE E σ l→∀ k e,lk l k=some e→∃ e0,E (σ k)=some e0∧leE (SC.ren σ) e0 e
 | (j,x) :: l,h,k,e,hk=>by
  simp only [lk] at hk
  split at hk
  ·rename_i hj; subst hj; cases hk; exact h.1
  ·exact inE_spec h.2 k e hk
theorem inE0_spec {E:Nat→Option Ent} {σ:Nat→Nat}:∀ {l:List (Nat × Ent)},inE0 E σ l→∀ k e,lk l k=some e→∃ e0,E (σ k)=some e0
 | (j,x) :: l,h,k,e,hk=>by
  simp only [lk] at hk
  split at hk
  ·rename_i hj; subst hj; exact h.1
  ·exact inE0_spec h.2 k e hk
theorem apartE_spec {σ:Nat→Nat} {all:List (Nat × Ent)}:∀ {l:List (Nat × Ent)},apartE σ l all→∀ k e,(k,e)∈l→e.mut=true→∀ k' e',(k',e')∈all→k'≠k→σ k'≠σ k
 | (j,x) :: l,h,k,e,hk,hm=>by
  cases hk with
  | head=>exact h.1 hm
  | tail _ hk=>exact apartE_spec h.2 k e hk hm
theorem covers_spec {cn:List (Nat × Ent)}:∀ {k0:Nat},covers cn k0=true→∀ k,k < k0→∃ e,lk cn k=some e
 | k0+1,h,k,hk=>by
  simp only [covers,Bool.and_eq_true] at h
  by_cases hh:k=k0
  ·subst hh; exact Option.isSome_iff_exists.1 h.1
  ·exact covers_spec h.2 k (by omega)
def okOut:List (Nat × Ent)→Bool
 | []=>true
 | (_,.ro ..) :: _=>false
 | (_,.deep ..) :: _=>false
 | (_,.inn ..) :: _=>false
 | (_,.len ..) :: _=>false
 | (_,.als ..) :: _=>false
 | (_,.dm ..) :: _=>false
 | (_,.bx ..) :: _=>false
 | _ :: l=>okOut l
theorem okOut_spec:∀ {l:List (Nat × Ent)},okOut l=true→∀ k e,lk l k=some e→(∀ b,e.inB b→e.wB b)∧(e.mut=true∨e = .nils∨e = .dead)
 | (j,x) :: l,h,k,e,hk=>by
  simp only [lk] at hk
  split at hk
  ·cases hk
   cases x<;>first | exact ⟨fun b h=>h.elim,.inl rfl⟩ | exact ⟨fun b h=>h,.inl rfl⟩ | exact ⟨fun b h=>h,.inr (.inl rfl)⟩ | exact ⟨fun b h=>h,.inr (.inr rfl)⟩ | cases h
  ·refine okOut_spec ?_ k e hk
   cases x<;>first | exact h | cases h
def okRo (E:Nat→Option Ent) (σ:Nat→Nat) (ents:List (Nat × Ent)):List (Nat × Ent)→Prop
 | []=>True
 | (k,_) :: l=>((lk ents k).isSome=true∨∀ e0,E (σ k)=some e0→e0.mut=false)∧okRo E σ ents l
theorem okRo_spec {E:Nat→Option Ent} {σ:Nat→Nat} {ents:List (Nat × Ent)}:∀ {l:List (Nat × Ent)},okRo E σ ents l→∀ k e,lk l k=some e→(∃ x,lk ents k=some x)∨∀ e0,E (σ k)=some e0→e0.mut=false
 | (j,x) :: l,h,k,e,hk=>by
  simp only [lk] at hk
  split at hk
  ·rename_i hj; subst hj; exact h.1.imp Option.isSome_iff_exists.1 id
  ·exact okRo_spec h.2 k e hk
theorem HeapRel.call2 {E:Nat→Option Ent} {cn ents:List (Nat × Ent)} {σ:Nat→Nat} {r1 r':Rho} {w':World} {n nx:Nat} (h:HeapRel base M r E w) (hE:∀ i e,E i=some e→i < n∧e.sc (upto n))
  (hC:inE E σ cn) (hold:∀ k e,lk cn k=some e→∃ e0,E (σ k)=some e0) (ho:HeapRel w ⟨mutB (lk cn) (fun k=>r (σ k)),allB (lk cn) (fun k=>r (σ k))⟩ r1 (lk ents) w') (hsc:scEnt (upto nx) ents) (hkn:keysNodup ents) (htold:told ents cn=true) (hout:okOut ents=true∨okRo E σ ents cn)
  (h1:∀ i,(r' i).oneCell'=true) (hr1:∀ k,k < nx→r' (σ k)=r1 k) (hr0:∀ i,i < n→r' i=r i):HeapRel base M r' (upd (renE σ ents) E) w':=by
 have hcase:∀ i e,upd (renE σ ents) E i=some e→(∃ k e',lk ents k=some e'∧σ k=i∧e=e'.ren σ∧k < nx∧e'.sc (upto nx)∧r' i=r1 k)∨(lk (renE σ ents) i=none∧E i=some e):=by
  intro i e he
  unfold upd at he
  split at he
  ·rename_i x hx
   cases he
   obtain ⟨k,e',g1,g2,g3⟩:=renE_lk hx
   have g4:=lk_of_mem hkn g1
   obtain ⟨g5,g6⟩:=scEnt_sound hsc k e' g4
   exact .inl ⟨k,e',g4,g2,g3,g5,g6,by rw [← g2]; exact hr1 k g5⟩
  ·rename_i hx; exact .inr ⟨hx,he⟩
 have hmut:∀ b,mutB (lk cn) (fun k=>r (σ k)) b→∃ k e e0,lk cn k=some e∧E (σ k)=some e0∧e0.mut=true∧wfoot e0 (r (σ k)) b∧lk (renE σ ents) (σ k)≠none:=by
  rintro b ⟨k,e,hk,hm,hb⟩
  obtain ⟨e0,g1,g2⟩:=inE_spec hC k e hk
  obtain ⟨x,hx⟩:=told_spec htold k e hk hm
  obtain ⟨x',hx'⟩:=renE_some (σ:=σ) hx
  rcases leE_mut g2 hm with g3 | rfl
  ·exact ⟨k,e,e0,hk,g1,g3,hb.imp id (leE_wB g2),by rw [hx']; simp⟩
  ·obtain ⟨ad,had⟩:=h.ent _ _ g1
   have hb:=hb.imp id (leE_wB g2)
   simp only at hb
   rw [had] at hb
   rcases hb with hb | hb
   ·cases ad<;>simp [blkOf] at hb
   ·exact hb.elim
 have hall:∀ b,allB (lk cn) (fun k=>r (σ k)) b→∃ k e e0,lk cn k=some e∧E (σ k)=some e0∧e0.live=true∧foot e0 (r (σ k)) b:=by
  rintro b ⟨k,e,hk,hm,hb⟩
  obtain ⟨e0,g1,g2⟩:=inE_spec hC k e hk
  exact ⟨k,e,e0,hk,g1,leE_live g2 hm,hb.imp id (leE_inB g2)⟩
 have hkeep:∀ i e b,E i=some e→lk (renE σ ents) i=none→e.live=true→foot e (r i) b→b < w.heap.size∧w'.heap[b]?=w.heap[b]?:=by
  intro i e b he hn hl hb
  have hlt:=(h.src i e he hl b hb).1
  refine ⟨hlt,ho.frame b hlt fun hcon=>?_⟩
  obtain ⟨k,x,e0,_,g1,g2,g3,g4⟩:=hmut b hcon
  exact h.apart (σ k) i e0 e (by rintro hh; rw [hh] at g4; exact g4 hn) g1 he g2 hl b g3 hb
 refine ⟨Nat.le_trans h.size ho.size,h1,ho.os.trans h.os,ho.tape.trans h.tape,ho.output.trans h.output,?_,?_,?_,?_,?_⟩
 ·intro b hb hM
  rw [ho.frame b (Nat.lt_of_lt_of_le hb h.size) ?_]
  ·exact h.frame b hb hM
  ·intro hcon
   obtain ⟨k,x,e0,_,g1,g2,g3,g4⟩:=hmut b hcon
   rcases h.mine (σ k) e0 g1 g2 b g3 with g5 | g5
   ·omega
   ·exact hM g5
 ·intro i e he
  rcases hcase i e he with ⟨k,e',g1,g2,rfl,g4,g5,g6⟩ | ⟨g1,g2⟩
  ·rw [g6]
   refine Ent.rel_ren (Ent.rel_ext (r:=r1) (m:=upto nx) (fun j hj=>hr1 j hj) g5 (ho.ent k e' g1))
  ·rw [hr0 i (hE i e g2).1]
   exact Ent.rel_ext (m:=upto n) hr0 (hE i e g2).2 (Ent.rel_block ho.size (fun b hl hb _=>(hkeep i e b g2 g1 hl hb).2) (h.ent i e g2))
 ·intro i j e e' hij he he' hm hl b hb hb'
  rcases hcase i e he with ⟨k,x,g1,g2,rfl,g4,g5,g6⟩ | ⟨g1,g2⟩
  ·rw [Ent.ren_mut] at hm
   rw [g6] at hb
   have hb:=hb.imp id Ent.ren_wB.1
   rcases hcase j e' he' with ⟨k',x',g1',g2',rfl,g4',g5',g6'⟩ | ⟨g1',g2'⟩
   ·rw [Ent.ren_live] at hl
    rw [g6'] at hb'
    have hb':=hb'.imp id Ent.ren_inB.1
    exact ho.apart k k' x x' (by rintro rfl; exact hij (g2.symm.trans g2')) g1 g1' hm hl b hb hb'
   ·rw [hr0 j (hE j e' g2').1] at hb'
    have hlt:=(h.src j e' g2' hl b hb').1
    rcases ho.mine k x g1 hm b hb with g | g
    ·omega
    ·obtain ⟨k2,y,e0,_,f1,f2,f3,f4⟩:=hmut b g
     exact h.apart (σ k2) j e0 e' (by rintro hh; rw [hh] at f4; exact f4 g1') f1 g2' f2 hl b f3 hb'
  ·rw [hr0 i (hE i e g2).1] at hb
   have hlt:=(h.src i e g2 (Ent.mut_live hm) b (wfoot_foot hb)).1
   rcases hcase j e' he' with ⟨k',x',g1',g2',rfl,g4',g5',g6'⟩ | ⟨g1',g2'⟩
   ·rw [Ent.ren_live] at hl
    rw [g6'] at hb'
    have hb':=hb'.imp id Ent.ren_inB.1
    rcases hout with hout | hout
    rotate_left 1
    ·rcases (ho.src k' x' g1' hl b hb').2 with g | g
     ·omega
     ·obtain ⟨k2,y,e0,f0,f1,f2,f3⟩:=hall b g
      refine h.apart i (σ k2) e e0 ?_ g2 f1 hm f2 b hb f3
      rintro rfl
      rcases okRo_spec hout k2 y f0 with ⟨x,hx⟩ | hx
      ·obtain ⟨x',hx'⟩:=renE_some (σ:=σ) hx
       rw [hx'] at g1; cases g1
      ·rw [g2] at f1
       cases f1
       rw [hx e g2] at hm; cases hm
    obtain ⟨hin,hx⟩:=okOut_spec hout k' x' g1'
    have hb2:=hb'.imp id (hin b)
    rcases hx with hx | hx | hx
    ·rcases ho.mine k' x' g1' hx b hb2 with g | g
     ·omega
     ·obtain ⟨k2,y,e0,f0,f1,f2,f3,f4⟩:=hmut b g
      exact h.apart i (σ k2) e e0 (by rintro rfl; exact f4 g1) g2 f1 hm (Ent.mut_live f2) b hb (wfoot_foot f3)
    ·subst hx
     obtain ⟨ad,had⟩:=ho.ent k' _ g1'
     rw [had] at hb2
     rcases hb2 with hb2 | hb2
     ·cases ad<;>simp [blkOf] at hb2
     ·exact hb2.elim
    ·subst hx; cases hl
   ·rw [hr0 j (hE j e' g2').1] at hb'
    exact h.apart i j e e' hij g2 g2' hm hl b hb hb'
 ·intro i e he hm b hb
  rcases hcase i e he with ⟨k,x,g1,g2,rfl,g4,g5,g6⟩ | ⟨g1,g2⟩
  ·rw [Ent.ren_mut] at hm
   rw [g6] at hb
   have hb:=hb.imp id Ent.ren_wB.1
   rcases ho.mine k x g1 hm b hb with g | g
   ·exact .inl (Nat.le_trans h.size g)
   ·obtain ⟨k2,y,e0,_,f1,f2,f3,f4⟩:=hmut b g
    exact h.mine _ e0 f1 f2 b f3
  ·rw [hr0 i (hE i e g2).1] at hb
   exact h.mine i e g2 hm b hb
 ·intro i e he hl b hb
  rcases hcase i e he with ⟨k,x,g1,g2,rfl,g4,g5,g6⟩ | ⟨g1,g2⟩
  ·rw [Ent.ren_live] at hl
   rw [g6] at hb
   have hb:=hb.imp id Ent.ren_inB.1
   refine ⟨(ho.src k x g1 hl b hb).1,?_⟩
   rcases (ho.src k x g1 hl b hb).2 with g | g
   ·exact .inl (Nat.le_trans h.size g)
   ·obtain ⟨k2,y,e0,_,f1,f2,f3⟩:=hall b g
    exact (h.src _ e0 f1 f2 b f3).2
  ·rw [hr0 i (hE i e g2).1] at hb
   exact ⟨Nat.lt_of_lt_of_le (h.src i e g2 hl b hb).1 ho.size,(h.src i e g2 hl b hb).2⟩
theorem HeapRel.canon {E:Nat→Option Ent} {cn:List (Nat × Ent)} {σ:Nat→Nat} (h:HeapRel base M r E w) (hC:inE E σ cn) (hap:apartE σ cn cn) :
  HeapRel w ⟨mutB (lk cn) (fun k=>r (σ k)),allB (lk cn) (fun k=>r (σ k))⟩ (fun k=>r (σ k)) (lk cn) w:=by
 refine ⟨Nat.le_refl _,fun i=>h.one _,rfl,rfl,⟨rfl,Nat.le_refl _⟩,fun _ _ _=>rfl,?_,?_,fun i e he hm b hb=>.inr ⟨i,e,he,hm,hb⟩,fun i e he hl b hb=>⟨?_,.inr ⟨i,e,he,hl,hb⟩⟩⟩
 ·intro k e hk
  obtain ⟨e0,h1,h2⟩:=inE_spec hC k e hk
  exact leE_rel (fun x=>SC.den_ren σ r x) h2 (h.ent _ _ h1)
 ·intro k k' e e' hkk hk hk' hm hl b hb hb'
  obtain ⟨e0,h1,h2⟩:=inE_spec hC k e hk
  obtain ⟨e0',h1',h2'⟩:=inE_spec hC k' e' hk'
  have hne:=apartE_spec hap k e (lk_mem hk) hm k' e' (lk_mem hk') (Ne.symm hkk)
  have hb:=hb.imp id (leE_wB h2)
  rcases leE_mut h2 hm with h3 | rfl
  ·exact h.apart (σ k) (σ k') e0 e0' (Ne.symm hne) h1 h1' h3 (leE_live h2' hl) b hb (hb'.imp id (leE_inB h2'))
  ·obtain ⟨ad,had⟩:=h.ent _ _ h1
   rw [had] at hb
   rcases hb with hb | hb
   ·cases ad<;>simp [blkOf] at hb
   ·exact hb.elim
 ·obtain ⟨e0,h1,h2⟩:=inE_spec hC i e he
  exact (h.src _ _ h1 (leE_live h2 hl) b (hb.imp id (leE_inB h2))).1
def fitQ (k0:Nat) (res':SV) (ents':List (Nat × Ent)) (nx':Nat) (v:SV) (S:St):Prop:=Le k0 ⟨[(0,v)],S.ents,S.next⟩ ⟨[(0,res')],ents',nx'⟩
theorem fitQ_app (k0:Nat) (res':SV) (ents':List (Nat × Ent)) (nx':Nat) (v:SV) (S:St):fitQ k0 res' ents' nx' v S=Le k0 ⟨[(0,v)],S.ents,S.next⟩ ⟨[(0,res')],ents',nx'⟩:=rfl
def eqQ (res' v:SV) (_:St):Prop:=v=res'
theorem eqQ_app (res' v:SV) (S:St):eqQ res' v S=(v=res'):=rfl
def FitE (Γ:Nat→Con) (X:XFn) (args:List S1) (E:Nat→Option Ent) (n:Nat) (pre:Prop) (res:SV) (ents:List (Nat × Ent)) (next:Nat):Prop :=
 ∃ (k0:Nat) (img:List Nat) (args':List S1) (cn:List (Nat × Ent)) (res':SV) (ents':List (Nat × Ent)) (nx':Nat),
  args=ren1L (sg k0 n img) args'∧res=res'.ren (sg k0 n img)∧ents=renE (sg k0 n img) ents'∧next=n+(nx' - k0)∧k0≤nx' ∧
  sc1L (upto k0) args'∧scEnt (upto k0) cn∧scV (upto nx') res'∧scEnt (upto nx') ents'∧covers cn k0=true∧inE0 E (sg k0 n img) cn∧keysNodup ents'∧told ents' cn=true∧okOut ents'=true ∧
  (pre→Lens E→inE E (sg k0 n img) cn∧apartE (sg k0 n img) cn cn∧vcF Γ X args' cn k0 (fitQ k0 res' ents' nx'))
def FitD (Γ:Nat→Con) (X:XFn) (args:List S1) (E:Nat→Option Ent) (n:Nat) (pre:Prop) (res:SV) (ents:List (Nat × Ent)) (next:Nat):Prop :=
 ∃ (k0:Nat) (img:List Nat) (args':List S1) (cn:List (Nat × Ent)) (res':SV) (ents':List (Nat × Ent)) (nx':Nat),
  args=ren1L (sg k0 n img) args'∧res=res'.ren (sg k0 n img)∧ents=renE (sg k0 n img) ents'∧next=n+(nx' - k0)∧k0≤nx' ∧
  sc1L (upto k0) args'∧scEnt (upto k0) cn∧scV (upto nx') res'∧scEnt (upto nx') ents'∧covers cn k0=true∧inE0 E (sg k0 n img) cn∧keysNodup ents'∧told ents' cn=true∧(okOut ents'=true∨okRo E (sg k0 n img) ents' cn) ∧
  (pre→Lens E→inE E (sg k0 n img) cn∧apartE (sg k0 n img) cn cn∧vcF Γ X args' cn k0 (fitQ k0 res' ents' nx'))
theorem FitE.toD {Γ:Nat→Con} {X:XFn} {args:List S1} {E:Nat→Option Ent} {n:Nat} {pre:Prop} {res:SV} {ents:List (Nat × Ent)} {next:Nat} (h:FitE Γ X args E n pre res ents next):FitD Γ X args E n pre res ents next:=by
 obtain ⟨k0,img,args',cn,res',ents',nx',h1,h2,h3,h4,h5,h6,h7,h8,h9,h10,h11,h12,h13,h14,h15⟩:=h
 exact ⟨k0,img,args',cn,res',ents',nx',h1,h2,h3,h4,h5,h6,h7,h8,h9,h10,h11,h12,h13,.inl h14,h15⟩
theorem cok_d {f:Nat} {fn:Func} {X:XFn} {Γ:Nat→Con} {g:Con} (hf:P.funcs[f]?=some fn) (hx:xfn P fn=some X.er) (hb:bodied P f=true) (hΓ:∀ f,COk P f (Γ f))
  (h:∀ args E n cr,g args E n=some cr→∃ pre res ents next,cr = .e pre res ents next∧FitD Γ X args E n pre res ents next):COk P f g:=by
 intro args E n hargs hE
 cases hg:g args E n with
 | none=>trivial
 | some cr=>
  obtain ⟨pre,res,ents,next,rfl,k0,img,args',cn,res',ents',nx',rfl,rfl,rfl,rfl,hk,s1,s2,s3,s4,hcov,hin0,hkn,htold,hout,hvc⟩:=h args E n cr hg
  intro hp
  generalize hσ:sg k0 n img=σ at *
  have σlow:∀ k,k < k0→∃ e0,E (σ k)=some e0:=by
   intro k hk
   obtain ⟨e,he⟩:=covers_spec hcov k hk
   exact inE0_spec hin0 k e he
  have σhi:∀ k,k0≤k→σ k=n+(k - k0):=by
   intro k hk
   rw [← hσ]; unfold sg; rw [if_neg (by omega)]
  refine ⟨by omega,fun m hm1 hm2 hm3=>?_,fun i e he=>?_,fun base M r w hh=>?_⟩
  ·have hm:∀ k,k < nx'→m (σ k):=by
    intro k hk'
    by_cases hlt:k < k0
    ·obtain ⟨e0,he0⟩:=σlow k hlt
     exact (hm2 _ _ he0).1
    ·rw [σhi k (by omega)]; exact hm3 _ (by omega) (by omega)
   refine ⟨scV_iff.1 (SV.sc_ren.2 (scV_iff.2 (SV.sc_mono hm (scV_iff.1 s3)))),fun i e he=>?_⟩
   obtain ⟨k,e',h1,rfl,rfl⟩:=renE_lk he
   obtain ⟨h2,h3⟩:=scEnt_sound s4 k e' (lk_of_mem hkn h1)
   exact ⟨hm k h2,scE_iff.1 (Ent.sc_ren.2 (scE_iff.2 (Ent.sc_mono hm h3)))⟩
  ·obtain ⟨k,e',h1,rfl,rfl⟩:=renE_lk he
   obtain ⟨h2,h3⟩:=scEnt_sound s4 k e' (lk_of_mem hkn h1)
   by_cases hlt:k < k0
   ·obtain ⟨e0,he0⟩:=σlow k hlt
    exact .inl (by rw [he0]; simp)
   ·have h2:k < nx':=h2
    rw [σhi k (by omega)]
    exact .inr (by omega)
  ·obtain ⟨hin,hap,hv⟩:=hvc hp hh.lens
   have hcan:=hh.canon hin hap
   have hcalls:=calls_vc (n0:=k0) hf hx hΓ hv hcan (sc1L_sound s1) (fun i e he=>scEnt_sound s2 i e he)
   have hargs':args'.map (S1.den fun k=>r (σ k))=(ren1L σ args').map (S1.den r):=by
    rw [ren1L_eq,List.map_map]; exact List.map_congr_left fun x _=>(S1.den_ren σ r x).symm
   rw [hargs'] at hcalls
   refine .inl ⟨hb,hcalls.mono ?_⟩
   rintro e w' ⟨r1,v,S,hk1,rfl,⟨hbb,he1,he2,he3,_,_,_⟩,hw',_⟩
   have hv0:v=res'.sub (bndOf ⟨[(0,v)],S.ents,S.next⟩ ⟨[(0,res')],ents',nx'⟩):=by
    have:=he1.1
    simp only [lk,if_true,Option.some.injEq] at this
    exact this
   generalize bndOf ⟨[(0,v)],S.ents,S.next⟩ ⟨[(0,res')],ents',nx'⟩=b at hbb he1 he2 he3 hv0
   have hw2:=hw'.le hbb he2 he3
   have hlow1:∀ k,k < k0→subR b r1 k=r (σ k):=by
    intro k hk
    unfold subR
    split
    ·rename_i c hc
     rcases bndOk_at hbb k c hc with ⟨j,rfl,hj⟩ | ⟨V,rfl,hn,_⟩
     ·rw [hj hk]; exact hk1 k hk
     ·omega
    ·exact hk1 k hk
   have hr1:∀ k,k < nx'→(fun i=>if i < n then r i else subR b r1 (k0+(i - n))) (σ k)=subR b r1 k:=by
    intro k hk'
    by_cases hlt:k < k0
    ·obtain ⟨e0,he0⟩:=σlow k hlt
     simp only
     rw [if_pos (hE _ _ he0).1,hlow1 k hlt]
    ·simp only
     rw [σhi k (by omega),if_neg (by omega)]
     congr 1; omega
   refine ⟨fun i=>if i < n then r i else subR b r1 (k0+(i - n)),fun i hi=>if_pos hi,?_,?_⟩
   ·rw [SV.den_ren,hv0]
    conv=>lhs; rw [← SV.den_sub hbb r1 res']
    rw [SV.den_ext (m:=upto nx') (fun k hk=>hr1 k hk) (scV_sound s3)]
   ·exact hh.call2 hE hin (fun k e hk=>inE0_spec hin0 k e hk) hw2 s4 hkn htold hout (fun i=>by split<;>first | exact hh.one i | exact hw2.one _) hr1 (fun i hi=>if_pos hi)
def fitG (k0:Nat) (post:(Nat→Nat→Value)→Prop) (res':(Nat→Nat→Value)→SV) (ents':(Nat→Nat→Value)→List (Nat × Ent)) (nx':Nat) (v:SV) (S:St):Prop:=∃ G,post G∧Le k0 ⟨[(0,v)],S.ents,S.next⟩ ⟨[(0,res' G)],ents' G,nx'⟩
theorem fitG_app (k0:Nat) (post:(Nat→Nat→Value)→Prop) (res':(Nat→Nat→Value)→SV) (ents':(Nat→Nat→Value)→List (Nat × Ent)) (nx':Nat) (v:SV) (S:St):fitG k0 post res' ents' nx' v S=∃ G,post G∧Le k0 ⟨[(0,v)],S.ents,S.next⟩ ⟨[(0,res' G)],ents' G,nx'⟩:=rfl
def FitG (Γ:Nat→Con) (X:XFn) (args:List S1) (E:Nat→Option Ent) (n:Nat) (pre:Prop) (post:(Nat→Nat→Value)→Prop) (res:(Nat→Nat→Value)→SV) (ents:(Nat→Nat→Value)→List (Nat × Ent)) (next:Nat):Prop :=
 ∃ (k0:Nat) (img:List Nat) (args':List S1) (cn:List (Nat × Ent)) (res':(Nat→Nat→Value)→SV) (ents':(Nat→Nat→Value)→List (Nat × Ent)) (nx':Nat),
  args=ren1L (sg k0 n img) args'∧(∀ G,res G=(res' G).ren (sg k0 n img))∧(∀ G,ents G=renE (sg k0 n img) (ents' G))∧next=n+(nx' - k0)∧k0≤nx' ∧
  sc1L (upto k0) args'∧scEnt (upto k0) cn∧(∀ G,scV (upto nx') (res' G))∧(∀ G,scEnt (upto nx') (ents' G))∧covers cn k0=true∧inE0 E (sg k0 n img) cn∧(∀ G,keysNodup (ents' G))∧(∀ G,told (ents' G) cn=true)∧(∀ G,okOut (ents' G)=true∨okRo E (sg k0 n img) (ents' G) cn) ∧
  (pre→Lens E→inE E (sg k0 n img) cn∧apartE (sg k0 n img) cn cn∧vcF Γ X args' cn k0 (fitG k0 post res' ents' nx'))
theorem cok_g {f:Nat} {fn:Func} {X:XFn} {Γ:Nat→Con} {g:Con} (hf:P.funcs[f]?=some fn) (hx:xfn P fn=some X.er) (hb:bodied P f=true) (hΓ:∀ f,COk P f (Γ f))
  (h:∀ args E n cr,g args E n=some cr→∃ pre post res ents next,cr = .d pre post res ents next∧FitG Γ X args E n pre post res ents next):COk P f g:=by
 intro args E n hargs hE
 cases hg:g args E n with
 | none=>trivial
 | some cr=>
  obtain ⟨pre,post,res,ents,next,rfl,k0,img,args',cn,res',ents',nx',rfl,hres,hents,rfl,hk,s1,s2,s3,s4,hcov,hin0,hkn,htold,hout,hvc⟩:=h args E n cr hg
  intro hp
  generalize hσ:sg k0 n img=σ at *
  have σlow:∀ k,k < k0→∃ e0,E (σ k)=some e0:=by
   intro k hk
   obtain ⟨e,he⟩:=covers_spec hcov k hk
   exact inE0_spec hin0 k e he
  have σhi:∀ k,k0≤k→σ k=n+(k - k0):=by
   intro k hk
   rw [← hσ]; unfold sg; rw [if_neg (by omega)]
  refine ⟨by omega,fun G m hm1 hm2 hm3=>?_,fun G i e he=>?_,fun base M r w hh=>?_⟩
  ·have hm:∀ k,k < nx'→m (σ k):=by
    intro k hk'
    by_cases hlt:k < k0
    ·obtain ⟨e0,he0⟩:=σlow k hlt
     exact (hm2 _ _ he0).1
    ·rw [σhi k (by omega)]; exact hm3 _ (by omega) (by omega)
   refine ⟨by rw [hres G]; exact scV_iff.1 (SV.sc_ren.2 (scV_iff.2 (SV.sc_mono hm (scV_iff.1 (s3 G))))),fun i e he=>?_⟩
   rw [hents G] at he
   obtain ⟨k,e',h1,rfl,rfl⟩:=renE_lk he
   obtain ⟨h2,h3⟩:=scEnt_sound (s4 G) k e' (lk_of_mem (hkn G) h1)
   exact ⟨hm k h2,scE_iff.1 (Ent.sc_ren.2 (scE_iff.2 (Ent.sc_mono hm h3)))⟩
  ·rw [hents G] at he
   obtain ⟨k,e',h1,rfl,rfl⟩:=renE_lk he
   obtain ⟨h2,h3⟩:=scEnt_sound (s4 G) k e' (lk_of_mem (hkn G) h1)
   by_cases hlt:k < k0
   ·obtain ⟨e0,he0⟩:=σlow k hlt
    exact .inl (by rw [he0]; simp)
   ·have h2:k < nx':=h2
    rw [σhi k (by omega)]
    exact .inr (by omega)
  ·obtain ⟨hin,hap,hv⟩:=hvc hp hh.lens
   have hcan:=hh.canon hin hap
   have hcalls:=calls_vc (n0:=k0) hf hx hΓ hv hcan (sc1L_sound s1) (fun i e he=>scEnt_sound s2 i e he)
   have hargs':args'.map (S1.den fun k=>r (σ k))=(ren1L σ args').map (S1.den r):=by
    rw [ren1L_eq,List.map_map]; exact List.map_congr_left fun x _=>(S1.den_ren σ r x).symm
   rw [hargs'] at hcalls
   refine .inl ⟨hb,hcalls.mono ?_⟩
   rintro e w' ⟨r1,v,S,hk1,rfl,⟨G,hpo,hbb,he1,he2,he3,_,_,_⟩,hw',_⟩
   have hv0:v=(res' G).sub (bndOf ⟨[(0,v)],S.ents,S.next⟩ ⟨[(0,res' G)],ents' G,nx'⟩):=by
    have:=he1.1
    simp only [lk,if_true,Option.some.injEq] at this
    exact this
   generalize bndOf ⟨[(0,v)],S.ents,S.next⟩ ⟨[(0,res' G)],ents' G,nx'⟩=b at hbb he1 he2 he3 hv0
   have hw2:=hw'.le hbb he2 he3
   have hlow1:∀ k,k < k0→subR b r1 k=r (σ k):=by
    intro k hk
    unfold subR
    split
    ·rename_i c hc
     rcases bndOk_at hbb k c hc with ⟨j,rfl,hj⟩ | ⟨V,rfl,hn,_⟩
     ·rw [hj hk]; exact hk1 k hk
     ·omega
    ·exact hk1 k hk
   have hr1:∀ k,k < nx'→(fun i=>if i < n then r i else subR b r1 (k0+(i - n))) (σ k)=subR b r1 k:=by
    intro k hk'
    by_cases hlt:k < k0
    ·obtain ⟨e0,he0⟩:=σlow k hlt
     simp only
     rw [if_pos (hE _ _ he0).1,hlow1 k hlt]
    ·simp only
     rw [σhi k (by omega),if_neg (by omega)]
     congr 1; omega
   refine ⟨G,fun i=>if i < n then r i else subR b r1 (k0+(i - n)),hpo,fun i hi=>if_pos hi,?_,?_⟩
   ·rw [hres G,SV.den_ren,hv0]
    conv=>lhs; rw [← SV.den_sub hbb r1 (res' G)]
    rw [SV.den_ext (m:=upto nx') (fun k hk=>hr1 k hk) (scV_sound (s3 G))]
   ·rw [hents G]; exact hh.call2 hE hin (fun k e hk=>inE0_spec hin0 k e hk) hw2 (s4 G) (hkn G) (htold G) (hout G) (fun i=>by split<;>first | exact hh.one i | exact hw2.one _) hr1 (fun i hi=>if_pos hi)
theorem cok_e {f:Nat} {fn:Func} {X:XFn} {Γ:Nat→Con} {g:Con} (hf:P.funcs[f]?=some fn) (hx:xfn P fn=some X.er) (hb:bodied P f=true) (hΓ:∀ f,COk P f (Γ f))
  (h:∀ args E n cr,g args E n=some cr→∃ pre res ents next,cr = .e pre res ents next∧FitE Γ X args E n pre res ents next):COk P f g :=
 cok_d hf hx hb hΓ fun args E n cr hg=>by
  obtain ⟨pre,res,ents,next,h1,h2⟩:=h args E n cr hg
  exact ⟨pre,res,ents,next,h1,h2.toD⟩
def FitQ (Γ:Nat→Con) (X:XFn) (args:List S1) (E:Nat→Option Ent) (n:Nat) (pre:Prop) (res:SV):Prop :=
 ∃ (k0:Nat) (img:List Nat) (args':List S1) (cn:List (Nat × Ent)) (res':SV),
  args=ren1L (sg k0 n img) args'∧res=res'.ren (sg k0 n img)∧sc1L (upto k0) args'∧scEnt (upto k0) cn∧scV (upto k0) res'∧covers cn k0=true∧inE0 E (sg k0 n img) cn∧told [] cn=true ∧
  (pre→Lens E→inE E (sg k0 n img) cn∧vcF Γ X args' cn k0 (eqQ res'))
theorem told_nil:∀ {l:List (Nat × Ent)},told [] l=true→∀ k e,(k,e)∈l→e.mut=false
 | (j,x) :: l,h,k,e,hk=>by
  simp only [told,Bool.and_eq_true,Bool.or_eq_true,Bool.not_eq_true',lk,Option.isSome_none,Bool.false_eq_true,or_false] at h
  cases hk with
  | head=>exact h.1
  | tail _ hk=>exact told_nil h.2 k e hk
theorem apartE_nil {σ:Nat→Nat} {all:List (Nat × Ent)}:∀ {l:List (Nat × Ent)},told [] l=true→apartE σ l all
 | [],_=>trivial
 | (j,x) :: l,h=>by
  refine ⟨fun hm=>?_,apartE_nil (by simp only [told,Bool.and_eq_true] at h; exact h.2)⟩
  have:=told_nil h j x (by simp)
  rw [this] at hm; cases hm
theorem cok_q {f:Nat} {fn:Func} {X:XFn} {Γ:Nat→Con} {g:Con} (hf:P.funcs[f]?=some fn) (hx:xfn P fn=some X.er) (hb:bodied P f=true) (hΓ:∀ f,COk P f (Γ f))
  (h:∀ args E n cr,g args E n=some cr→∃ pre res,cr = .q pre res∧FitQ Γ X args E n pre res):COk P f g:=by
 intro args E n hargs hE
 cases hg:g args E n with
 | none=>trivial
 | some cr=>
  obtain ⟨pre,res,rfl,k0,img,args',cn,res',rfl,rfl,s1,s2,s3,hcov,hin0,htold,hvc⟩:=h args E n cr hg
  generalize hσ:sg k0 n img=σ at *
  have σlow:∀ k,k < k0→∃ e0,E (σ k)=some e0:=by
   intro k hk
   obtain ⟨e,he⟩:=covers_spec hcov k hk
   exact inE0_spec hin0 k e he
  refine ⟨fun m hm1 hm2=>?_,fun hp base M r w hh=>.inl ⟨hb,?_⟩⟩
  ·exact scV_iff.1 (SV.sc_ren.2 (scV_iff.2 (SV.sc_mono (fun k hk=>by obtain ⟨e0,he0⟩:=σlow k hk; exact (hm2 _ _ he0).1) (scV_iff.1 s3))))
  ·obtain ⟨hin,hv⟩:=hvc hp hh.lens
   have hcan:=hh.canon hin (apartE_nil htold)
   have hcalls:=calls_vc (n0:=k0) hf hx hΓ hv hcan (sc1L_sound s1) (fun i e he=>scEnt_sound s2 i e he)
   have hargs':args'.map (S1.den fun k=>r (σ k))=(ren1L σ args').map (S1.den r):=by
    rw [ren1L_eq,List.map_map]; exact List.map_congr_left fun x _=>(S1.den_ren σ r x).symm
   rw [hargs'] at hcalls
   refine hcalls.mono ?_
   rintro e w' ⟨r1,v,S,hk1,rfl,rfl,hw',_⟩
   refine ⟨?_,HeapRel.toBelow (fun b hb=>?_) hw'⟩
   ·rw [SV.den_ren,SV.den_ext (r:=fun k=>r (σ k)) (r':=r1) (m:=upto k0) (fun k hk=>hk1 k hk) (scV_sound s3)]
   ·obtain ⟨k,e,hk,hm,_⟩:=hb
    have:=told_nil htold k e (lk_mem hk)
    rw [hm] at this; cases this
def keepB (E:Nat→Option Ent):List (Nat × Ent)→Prop
 | []=>True
 | (k,.box cs ty) :: l=>E k=some (.box cs ty)∧keepB E l
 | _ :: l=>keepB E l
def eqR (cn:List (Nat × Ent)) (res' v:SV) (S:St):Prop:=v=res'∧keepB (lk S.ents) cn
theorem eqR_app (cn:List (Nat × Ent)) (res' v:SV) (S:St):eqR cn res' v S=(v=res'∧keepB (lk S.ents) cn):=rfl
end
end Go.Sx
namespace Go.Sx
open Go.RowKit
theorem vcC_skip (Γ:Nat→Con) (n0:Nat) (K:Kont) (S:St):vcC Γ n0 .skip K S=K .norm S:=rfl
theorem vcC_regT (Γ:Nat→Con) (n0:Nat) (l:List XOper) (K:Kont) (S:St):vcC Γ n0 (.reg true l) K S=vcOpsQ Γ l S (K .norm):=rfl
theorem vcC_regF (Γ:Nat→Con) (n0:Nat) (l:List XOper) (K:Kont) (S:St):vcC Γ n0 (.reg false l) K S=vcOps Γ l (K .norm) S:=rfl
theorem vcC_regG (Γ:Nat→Con) (n0:Nat) (A B C:List XOper) (ps:List (List Nat)) (K:Kont) (S:St):vcC Γ n0 (.regG A B C ps) K S=vcG Γ ps A B C S (K .norm):=rfl
theorem vcC_regD (Γ:Nat→Con) (n0:Nat) (l:List XOper) (ps:List (List Nat)) (K:Kont) (S:St):vcC Γ n0 (.regD l ps) K S=vcD Γ ps l S (K .norm):=rfl
theorem vcC_seq (Γ:Nat→Con) (n0:Nat) (x y:XC) (K:Kont) (S:St):vcC Γ n0 (.seq x y) K S=vcC Γ n0 x (kSeq (vcC Γ n0 y K) K) S:=rfl
theorem vcC_cond (Γ:Nat→Con) (n0:Nat) (c:XO) (x y:XC) (K:Kont) (S:St):vcC Γ n0 (.cond c x y) K S=vcCond S (vcC Γ n0 x K S) (vcC Γ n0 y K S) (rd S.env c):=rfl
theorem vcC_block (Γ:Nat→Con) (n0 i:Nat) (x:XC) (K:Kont) (S:St):vcC Γ n0 (.block i x) K S=vcC Γ n0 x (kBlock i K) S:=rfl
theorem vcC_loop (Γ:Nat→Con) (n0:Nat) (x:XC) (K:Kont) (S:St):vcC Γ n0 (.loop x) K S=vcLoop n0 (vcC Γ n0 x) S K:=rfl
theorem vcC_exit (Γ:Nat→Con) (n0 i:Nat) (K:Kont) (S:St):vcC Γ n0 (.exit i) K S=K (.ex i) S:=rfl
theorem vcC_ret (Γ:Nat→Con) (n0:Nat) (K:Kont) (S:St):vcC Γ n0 .ret K S=K .ret S:=rfl
theorem vcC_opn (Γ:Nat→Con) (n0:Nat) (s t j:Nat) (x:XC) (K:Kont) (S:St):vcC Γ n0 (.opn s t j x) K S=vcOpn s t j (vcC Γ n0 x K) S:=rfl
theorem vcC_spl (Γ:Nat→Con) (n0:Nat) (s:Nat) (x:XC) (K:Kont) (S:St):vcC Γ n0 (.spl s x) K S=vcSpl s (vcC Γ n0 x K) S:=rfl
theorem vcC_mrg (Γ:Nat→Con) (n0:Nat) (s:Nat) (x:XC) (K:Kont) (S:St):vcC Γ n0 (.mrg s x) K S=vcMrg s (vcC Γ n0 x K) S:=rfl
theorem vcC_frz (Γ:Nat→Con) (n0:Nat) (s t:Nat) (x:XC) (K:Kont) (S:St):vcC Γ n0 (.frz s t x) K S=vcFrz s t (vcC Γ n0 x K) S:=rfl
theorem vcC_gst (Γ:Nat→Con) (n0:Nat) (x:XC) (K:Kont) (S:St):vcC Γ n0 (.gst x) K S=vcGst (vcC Γ n0 x K) S:=rfl
theorem vcC_gsa (Γ:Nat→Con) (n0:Nat) (x:XC) (K:Kont) (S:St):vcC Γ n0 (.gsa x) K S=vcC Γ n0 x (kGsa K) S:=rfl
theorem kGsa_norm (K:Kont) (S:St):kGsa K .norm S=vcGst (K .norm) S:=rfl
theorem kGsa_ex (K:Kont) (i:Nat) (S:St):kGsa K (.ex i) S=K (.ex i) S:=rfl
theorem kGsa_ret (K:Kont) (S:St):kGsa K .ret S=K .ret S:=rfl
theorem vcC_cut (Γ:Nat→Con) (n0:Nat) (x:XC) (K:Kont) (S:St):vcC Γ n0 (.cut x) K S=vcCut n0 (vcC Γ n0 x) S K:=rfl
theorem kCut_norm {α:Type} (n0:Nat) (I:α→St) (K:Kont) (S:St):kCut n0 I K .norm S=∃ y,Le n0 S (I y):=rfl
theorem kCut_ex {α:Type} (n0:Nat) (I:α→St) (K:Kont) (i:Nat) (S:St):kCut n0 I K (.ex i) S=K (.ex i) S:=rfl
theorem kCut_ret {α:Type} (n0:Nat) (I:α→St) (K:Kont) (S:St):kCut n0 I K .ret S=K .ret S:=rfl
theorem vcC_bad (Γ:Nat→Con) (n0:Nat) (K:Kont) (S:St):vcC Γ n0 .bad K S=False:=rfl
theorem vcOps_nil (Γ:Nat→Con) (K:St→Prop) (S:St):vcOps Γ [] K S=K S:=rfl
theorem vcOps_cons (Γ:Nat→Con) (o:XOper) (l:List XOper) (K:St→Prop) (S:St):vcOps Γ (o :: l) K S=vcOp Γ o S (vcOps Γ l K):=rfl
theorem kSeq_norm (k:St→Prop) (K:Kont) (S:St):kSeq k K .norm S=k S:=rfl
theorem kSeq_ex (k:St→Prop) (K:Kont) (i:Nat) (S:St):kSeq k K (.ex i) S=K (.ex i) S:=rfl
theorem kSeq_ret (k:St→Prop) (K:Kont) (S:St):kSeq k K .ret S=K .ret S:=rfl
theorem kBlock_norm (i:Nat) (K:Kont) (S:St):kBlock i K .norm S=K .norm S:=rfl
theorem kBlock_ex (i j:Nat) (K:Kont) (S:St):kBlock i K (.ex j) S=if j=i then K .norm S else K (.ex j) S:=rfl
theorem kBlock_ret (i:Nat) (K:Kont) (S:St):kBlock i K .ret S=K .ret S:=rfl
theorem kRet_ex (res:List XR) (Q:SV→St→Prop) (i:Nat) (S:St):kRet res Q (.ex i) S=False:=rfl
theorem kRet_norm (res:List XR) (Q:SV→St→Prop) (S:St):kRet res Q .norm S=(match rets S res with | some (p,xs)=>p∧Q (retV xs) S | none=>False):=rfl
theorem kRet_ret (res:List XR) (Q:SV→St→Prop) (S:St):kRet res Q .ret S=(match rets S res with | some (p,xs)=>p∧Q (retV xs) S | none=>False):=rfl
theorem kLoop_norm {α:Type} (n0:Nat) (I:α→St) (μ:α→Nat) (x:α) (K:Kont) (S:St):kLoop n0 I μ x K .norm S=∃ y,Le n0 S (I y)∧μ y < μ x:=rfl
theorem kLoop_ex {α:Type} (n0:Nat) (I:α→St) (μ:α→Nat) (x:α) (K:Kont) (i:Nat) (S:St):kLoop n0 I μ x K (.ex i) S=K (.ex i) S:=rfl
theorem kLoop_ret {α:Type} (n0:Nat) (I:α→St) (μ:α→Nat) (x:α) (K:Kont) (S:St):kLoop n0 I μ x K .ret S=K .ret S:=rfl
theorem wrapI {n:Int} (h1:-9223372036854775808≤n) (h2:n≤9223372036854775807):IntKind.i64.wrap n=n:=by rw [IntKind.wrap_i64]; omega
theorem tmod_pos {a b:Int} (ha:0≤a):a.tmod b=a % b:=Int.tmod_eq_emod_of_nonneg ha
theorem tdiv_pos {a b:Int} (ha:0≤a):a.tdiv b=a / b:=Int.tdiv_eq_ediv_of_nonneg ha
theorem floor_neg {a b:Int} (hb:0 < b) (h:a.tmod b < 0):a.tdiv b - 1=a / b:=by
 have h1:¬ 0≤a:=fun h0=>by rw [tmod_pos h0] at h; have:=Int.emod_nonneg a (Int.ne_of_gt hb); omega
 have e:=Int.tmod_add_mul_tdiv a b
 have h2:-b < a.tmod b:=by
  have:=Int.neg_tmod (-a) b
  rw [Int.neg_neg] at this
  rw [this,tmod_pos (by omega)]
  have:=Int.emod_lt_of_pos (-a) hb
  omega
 have h3:a=b * (a.tdiv b - 1)+(a.tmod b+b):=by rw [Int.mul_sub]; omega
 have h4:a / b=a.tdiv b - 1:=by
  conv=>lhs; rw [h3]
  rw [Int.mul_add_ediv_left _ _ (by omega),Int.ediv_eq_zero_of_lt (by omega) (by omega)]
  omega
 omega
theorem floor_pos {a b:Int} (hb:0 < b) (h:¬ a.tmod b < 0):a.tdiv b=a / b:=by
 have e:=Int.tmod_add_mul_tdiv a b
 have h2:a.tmod b < b:=by
  rcases Int.lt_or_le a 0 with h0 | h0
  ·have:=Int.neg_tmod (-a) b
   rw [Int.neg_neg] at this
   rw [this,tmod_pos (by omega)]
   have:=Int.emod_nonneg (-a) (Int.ne_of_gt hb)
   omega
  ·rw [tmod_pos h0]; exact Int.emod_lt_of_pos a hb
 have h3:a=b * (a.tdiv b)+a.tmod b:=by omega
 conv=>rhs; rw [h3]
 rw [Int.mul_add_ediv_left _ _ (by omega),Int.ediv_eq_zero_of_lt (by omega) (by omega)]
 omega
theorem tdiv_range {a b:Int} (hb:0 < b) (h1:-9223372036854775808≤a) (h2:a≤9223372036854775807):-9223372036854775808≤a.tdiv b∧a.tdiv b≤9223372036854775807:=by
 rcases Int.le_total 0 a with h0 | h0
 ·rw [tdiv_pos h0]
  have:=Int.ediv_nonneg h0 (Int.le_of_lt hb)
  have:=Int.ediv_le_self b h0
  omega
 ·have e:=Int.neg_tdiv (-a) b
  rw [Int.neg_neg] at e
  rw [e,tdiv_pos (by omega)]
  have:=Int.ediv_nonneg (show 0≤-a by omega) (Int.le_of_lt hb)
  have:=Int.ediv_le_self b (show 0≤-a by omega)
  omega
theorem emod_range {a b:Int} (hb:0 < b):0≤a % b∧a % b < b:=⟨Int.emod_nonneg a (Int.ne_of_gt hb),Int.emod_lt_of_pos a hb⟩
theorem and_255 (h:Int):bitI .and .i64 h 255=h % 256:=by
 have e:(BitVec.ofInt 64 h &&& BitVec.ofInt 64 255).toNat=(h % 256).toNat:=by
  rw [BitVec.toNat_and]
  have e1:(BitVec.ofInt 64 255).toNat=2 ^ 8 - 1:=by decide
  rw [e1,Nat.and_two_pow_sub_one_eq_mod,BitVec.toNat_ofInt]
  have h1:((2 ^ 64:Nat):Int)=18446744073709551616:=by decide
  rw [h1]
  omega
 refine (congrArg (fun n:Nat=>IntKind.i64.wrap (n:Int)) e).trans ?_
 have h0:=emod_range (a:=h) (b:=256) (by omega)
 show IntKind.i64.wrap (((h % 256).toNat:Nat):Int)=h % 256
 rw [Int.toNat_of_nonneg h0.1,wrapI (by omega) (by omega)]
end Go.Sx
namespace Go.Sx
open Go.ChangeShapes Go.WideShapes Go.ChangeAt Go.RowKit
inductive Lf where
 | i (k:IntKind)
 | b
def Lf.ok:Lf→Value→Prop
 | .i k,v=>∃ n,v = .int k n∧k.min≤n∧n≤k.max
 | .b,v=>∃ x,v = .bool x
theorem trodAll_keep {H:Type} {enc:TypeId × Value→H} {P:Program} (hl:laidOutB P=true) {W W':World} (hb:Below W.heap.size W W') {sp:Nat→Bool}:∀ (ts:List TypeId) (vs:List Value) (ds:List (DataW H)) (ps:List MemPlace),
  ts.all (fun t=>P.readableRec t && decide (t < P.types.size))=true→DataW.TrodAll enc P W 0 (fun _=>true) true ts vs ds ps→(∀ x∈ps,x.block < W.heap.size)→(∀ x∈ps,sp x.block=true)→DataW.TrodAll enc P W' 0 sp true ts vs ds ps
 | [],vs,ds,ps,_,h,_,_=>by
  obtain ⟨rfl,rfl,rfl⟩:=trodAll_nil h
  exact trodAll_mk0
 | t :: ts,vs,ds,ps,ha,h,hlt,hsp=>by
  obtain ⟨v,vs,d,ds,p,q,rfl,rfl,rfl,h0,h1⟩:=trodAll_cons h
  simp only [List.all_cons,Bool.and_eq_true,decide_eq_true_eq] at ha
  refine trodAll_cons_mk (WideElems.Trod_stays hl ha.1.1 ha.1.2 h0 (fun x hx=>hb.same (hlt x (List.mem_append_left _ hx))) (fun x hx=>hsp x (List.mem_append_left _ hx))) ?_
  exact trodAll_keep hl hb ts vs ds q ha.2 h1 (fun x hx=>hlt x (List.mem_append_right _ hx)) (fun x hx=>hsp x (List.mem_append_right _ hx))
theorem post_true {H:Type} {enc:TypeId × Value→H} {P:Program} {f:Func} {s:ChangeSpec} {apart fresh handsOn:Bool} {W W':World} {args:Array Value} {ds gs:List (DataW H)} {before:List MemPlace} {t:TypeId}
  (hl:laidOutB P=true) (hr:f.resultTypes=#[t]) (ht:P.underlying t=some .bool) (hps:f.params.toList.all (fun t=>P.readableRec t && decide (t < P.types.size))=true) (hvars:s.vars=[])
  (hW:DataW.Whole enc P f.params.toList s.vars apart W args.toList ds gs before) (hs:s.fn H (ds++gs)={ results:=[.lit (.bool true)],args:=ds }) (hb:Below W.heap.size W W'):s.post enc P f apart fresh handsOn false W args (.bool true) W':=by
 have hW':=hW
 obtain ⟨p,q,hA,hV,rfl,hfz,hnd⟩:=hW
 rw [hvars] at hV
 obtain ⟨rfl,rfl⟩:=trodVars_none hV
 have hlt:=hW'.lt
 refine ⟨ds,[],p++[],[],p,[],hW',?_,?_,?_,hb.frame _,fun h=>by cases h⟩
 ·rw [hs,hr]; exact trodAll_mk1 (shut_bool ht _)
 ·rw [hs]; exact trodAll_keep hl hb _ _ _ _ hps hA (fun x hx=>hlt x (by simpa using hx)) (fun x hx=>by simpa using hlt x (by simpa using hx))
 ·rw [hs,hvars]; rfl
end Go.Sx
namespace Go.Sx
open Go.RowKit
def kindOk:List LK→List Value→Prop
 | [],[]=>True
 | .i k :: ks,.int k' n :: vs=>k'=k∧k.min≤n∧n≤k.max∧kindOk ks vs
 | .b :: ks,.bool _ :: vs=>kindOk ks vs
 | _,_=>False
structure Enc (α:Type) where
 sz:Nat
 ks:List LK
 wf:α→Prop
 enc:α→List SC
 dec:(Nat→SC)→α
 dflt:α
 flat:∀ x,∀ c∈enc x,∃ v,c = .v v∧v.oneCell'=true
 len:∀ x,(enc x).length=sz
 onto:∀ cs,kindOk ks cs→∃ x,enc x=cs.map SC.v∧wf x
 de:∀ x f,(∀ j,j < sz→f j=(match nth (enc x) j with | some c=>c | none=>noC))→dec f=x
def cellAt (cs:List SC) (j:Nat):SC:=match nth cs j with | some c=>c | none=>noC
def rowF {α:Type} (E:Enc α) (L:List α):Nat→Nat→SC:=fun e j=>cellAt (E.enc (L.getD e E.dflt)) j
def decL {α:Type} (E:Enc α) (n:Nat) (f:Nat→Nat→SC):List α:=(List.range n).map fun e=>E.dec (f e)
def isRow {α:Type} (E:Enc α) (n sz:Nat) (f:Nat→Nat→SC):Prop:=(n=0∨sz=E.sz)∧∀ e j,e < n→j < E.sz→f e j=rowF E (decL E n f) e j
section
variable {α:Type} {E:Enc α}
theorem cellAt_flat (x:α) (j:Nat):∃ v,cellAt (E.enc x) j = .v v∧v.oneCell'=true:=by
 unfold cellAt
 split
 ·rename_i c hc; exact E.flat x c (nth_mem hc)
 ·exact ⟨_,rfl,rfl⟩
theorem rowF_flat (L:List α) (e j:Nat):∃ v,rowF E L e j = .v v∧v.oneCell'=true:=cellAt_flat _ _
theorem rowF_sub (L:List α) (e j:Nat) (b:Bnd):(rowF E L e j).sub b=rowF E L e j:=by obtain ⟨v,h,_⟩:=rowF_flat (E:=E) L e j; rw [h]; rfl
theorem rowF_ren (L:List α) (e j:Nat) (σ:Nat→Nat):(rowF E L e j).ren σ=rowF E L e j:=by obtain ⟨v,h,_⟩:=rowF_flat (E:=E) L e j; rw [h]; rfl
theorem rowF_renf (L:List α) (σ:Nat→Nat):(fun e j=>(rowF E L e j).ren σ)=rowF E L:=by funext e j; exact rowF_ren L e j σ
theorem rowF_sc (L:List α) (m:Nat→Prop):scF m (rowF E L):=fun e j=>by obtain ⟨v,h,_⟩:=rowF_flat (E:=E) L e j; rw [h]; trivial
theorem rowF_scT (L:List α) (m:Nat→Prop):scF m (rowF E L) ↔ True:=iff_true_intro (rowF_sc L m)
theorem okRow_rowF (m sz:Nat) (L:List α):okRow m sz (rowF E L) ↔ True:=iff_true_intro fun e j _ _=>by obtain ⟨v,h,h1⟩:=rowF_flat (E:=E) L e j; rw [h]; exact h1
theorem decL_len (n:Nat) (f:Nat→Nat→SC):(decL E n f).length=n:=by simp [decL]
theorem decL_getD (n:Nat) (f:Nat→Nat→SC) (e:Nat) (h:e < n):(decL E n f).getD e E.dflt=E.dec (f e):=by
 unfold decL
 rw [List.getD_eq_getElem?_getD,List.getElem?_map,List.getElem?_range h]
 rfl
theorem decL_eq {n:Nat} {f:Nat→Nat→SC} {L:List α} (hn:n=L.length) (h:∀ e j,e < n→j < E.sz→f e j=rowF E L e j):decL E n f=L:=by
 subst hn
 apply List.ext_getElem (by simp [decL])
 intro i h1 h2
 have:=decL_getD (E:=E) L.length f i h2
 rw [List.getD_eq_getElem?_getD,List.getElem?_eq_getElem h1] at this
 simp only [Option.getD_some] at this
 rw [this]
 refine E.de _ _ fun j hj=>?_
 rw [h i j h2 hj]
 unfold rowF cellAt
 rw [List.getD_eq_getElem?_getD,List.getElem?_eq_getElem h2]
 rfl
theorem decL_rowF (L:List α):decL E L.length (rowF E L)=L:=decL_eq rfl fun _ _ _ _=>rfl
theorem isRow_of {n sz:Nat} {f:Nat→Nat→SC} {L:List α} (hn:n=L.length) (hs:n=0∨sz=E.sz) (h:∀ e j,e < n→j < E.sz→f e j=rowF E L e j):isRow E n sz f:=by
 refine ⟨hs,fun e j he hj=>?_⟩
 rw [decL_eq hn h]; exact h e j he hj
theorem isRow_rowF (L:List α):isRow E L.length E.sz (rowF E L) ↔ True:=iff_true_intro (isRow_of rfl (.inr rfl) fun _ _ _ _=>rfl)
theorem isRow_nil (sz:Nat) (f:Nat→Nat→SC):isRow E 0 sz f ↔ True:=iff_true_intro ⟨.inl rfl,fun e j he=>by omega⟩
theorem decL_nil (f:Nat→Nat→SC):decL E 0 f=[]:=rfl
theorem inE_row {Et:Nat→Option Ent} {l n s:Nat} {f:Nat→Nat→SC} {σ:Nat→Nat} (hl:rowOf Et l=some (n,s,f)) (h:isRow E n s f) :
  ∃ e0,Et l=some e0∧leE (SC.ren σ) e0 (.ro (decL E n f).length E.sz (rowF E (decL E n f))):=by
 obtain ⟨h1,h2⟩:=h
 rw [decL_len]
 have hr:rowEq n s f (rowF E (decL E n f)) (SC.ren σ):=by
  intro e j he hj
  obtain rfl:s=E.sz:=by omega
  rw [rowF_ren]; exact h2 e j he hj
 unfold rowOf at hl
 split at hl
 ·rename_i n' s' f' he
  cases hl
  exact ⟨_,he,rfl,h1,hr⟩
 ·rename_i n' s' f' ty he
  cases hl
  exact ⟨_,he,rfl,h1,hr⟩
 ·rename_i he
  cases hl
  exact ⟨_,he,rfl⟩
 ·rename_i he
  cases hl
  exact ⟨_,he,rfl,h1,hr⟩
 ·cases hl
theorem inE0_row {Et:Nat→Option Ent} {l n s:Nat} {f:Nat→Nat→SC} (hl:rowOf Et l=some (n,s,f)):∃ e0,Et l=some e0:=by
 unfold rowOf at hl
 split at hl
 ·rename_i he; exact ⟨_,he⟩
 ·rename_i he; exact ⟨_,he⟩
 ·rename_i he; exact ⟨_,he⟩
 ·rename_i he; exact ⟨_,he⟩
 ·cases hl
theorem lens_row {Et:Nat→Option Ent} {l n s:Nat} {f:Nat→Nat→SC} (hL:Lens Et) (hl:rowOf Et l=some (n,s,f)):(decL E n f).length≤9223372036854775807:=by
 rw [decL_len]
 unfold rowOf at hl
 split at hl
 ·rename_i he; cases hl; exact hL _ _ he
 ·rename_i he; cases hl; exact hL _ _ he
 ·cases hl; omega
 ·rename_i he; cases hl; exact hL _ _ he
 ·cases hl
theorem rowF_get {L:List α} {e:Nat} (h:e < L.length) (j:Nat):rowF E L e j=cellAt (E.enc L[e]) j:=by
 unfold rowF
 rw [List.getD_eq_getElem?_getD,List.getElem?_eq_getElem h]; rfl
theorem litF_one (cs:List SC) (sz j:Nat):litF cs sz 0 j=cellAt cs j:=by unfold litF cellAt; rw [Nat.zero_mul,Nat.zero_add]; cases nth cs j<;>rfl
theorem rowEq_push1 (E:Enc α) (L:List α) (x:α) {sz:Nat} {τ:SC→SC} (hτ:∀ v,τ (.v v) = .v v):rowEq (L.length+1) sz (catF L.length (rowF E L) (litF (E.enc x) sz)) (rowF E (L++[x])) τ:=by
 intro e j he hj
 obtain ⟨v,hv,_⟩:=rowF_flat (E:=E) (L++[x]) e j
 rw [hv,hτ,← hv]
 unfold catF
 split
 ·rename_i h
  rw [rowF_get h,rowF_get (by simp; omega),List.getElem_append_left h]
 ·rename_i h
  have he:e=L.length:=by omega
  subst he
  rw [Nat.sub_self,litF_one,rowF_get (by simp)]
  simp
theorem okRow_lit {cs:List SC} (h:okcs cs=true) (m sz sz':Nat):okRow m sz' (litF cs sz) ↔ True:=iff_true_intro fun e j _ _=>by
 unfold litF
 split
 ·rename_i x hx; exact okcs_all h x (nth_mem hx)
 ·rfl
theorem lit_scF {m:Nat→Prop} {cs:List SC} (h:scL m cs) (sz:Nat):scF m (litF cs sz) ↔ True:=iff_true_intro fun e j=>by
 unfold litF
 split
 ·rename_i x hx; exact scL_sound h x (nth_mem hx)
 ·trivial
end
end Go.Sx
namespace Go.Sx
open Go.RowKit
def keepS (env:List (Nat × SV)):List Nat→List (Nat × SV)
 | []=>[]
 | s :: l=>match lk env s with
  | some v=>(s,v) :: keepS env l
  | none=>keepS env l
def idsEnv:List (Nat × SV)→List Nat
 | []=>[]
 | (_,v) :: l=>v.ids++idsEnv l
def keepN (names:List Nat):List Nat→List (Nat × Ent)→List (Nat × Ent)
 | _,[]=>[]
 | seen,(i,e) :: l=>if memN i seen=true then keepN names seen l else if memN i names=true then (match e with
  | .dead=>keepN names (i :: seen) l
  | _=>(i,e) :: keepN names (i :: seen) l) else keepN names seen l
def mkI (S:St) (live:List Nat) (k:Nat) (env:List (Nat × SV)) (ents:List (Nat × Ent)):St :=
 ⟨env++keepS S.env live,ents++keepN (reach (lk (ents++S.ents)) (idsEnv (env++keepS S.env live))) (keys ents) S.ents,S.next+k⟩
theorem vcLoop_upd {α:Type} {n0:Nat} {B:Kont→St→Prop} {S:St} {K:Kont} (live:List Nat) (k:Nat) (f:α→List (Nat × SV)) (g:α→List (Nat × Ent)) (μ:α→Nat) (x0:α)
  (h0:Le n0 S (mkI S live k (f x0) (g x0))) (h:∀ x,B (kLoop n0 (fun x=>mkI S live k (f x) (g x)) μ x K) (mkI S live k (f x) (g x))):vcLoop n0 B S K :=
 ⟨α,fun x=>mkI S live k (f x) (g x),μ,x0,h0,h⟩
theorem vcCut_upd {α:Type} {n0:Nat} {B:Kont→St→Prop} {S:St} {K:Kont} (live:List Nat) (k:Nat) (f:α→List (Nat × SV)) (g:α→List (Nat × Ent))
  (h:∀ x,K .norm (mkI S live k (f x) (g x))) (h0:B (kCut n0 (fun x=>mkI S live k (f x) (g x)) K) S):vcCut n0 B S K :=
 ⟨α,fun x=>mkI S live k (f x) (g x),h,h0⟩
theorem rowEq_rowF {α:Type} {E:Enc α} (n sz:Nat) (L:List α) (b:Bnd):rowEq n sz (rowF E L) (rowF E L) (SC.sub b) ↔ True:=iff_true_intro fun e j _ _=>(rowF_sub L e j b).symm
theorem litF_sub {cs:List SC} {sz:Nat} {b:Bnd} (h:subL b cs=cs) (e j:Nat):(litF cs sz e j).sub b=litF cs sz e j:=by
 unfold litF
 split
 ·rename_i x hx
  rw [nth_eq] at hx
  have h2:(subL b cs)[e * sz+j]?=some (x.sub b):=by rw [subL_eq,List.getElem?_map,hx]; rfl
  rw [h,hx] at h2
  exact (Option.some.inj h2).symm
 ·rfl
theorem rowEq_lit {n sz sz':Nat} {cs:List SC} {b:Bnd} (h:subL b cs=cs):rowEq n sz (litF cs sz') (litF cs sz') (SC.sub b) ↔ True:=iff_true_intro fun e j _ _=>(litF_sub h e j).symm
end Go.Sx
namespace Go.Sx
open Go.ChangeShapes Go.WideShapes Go.ChangeAt Go.RowKit
def lvTF (P:Program) (rc:TypeId→Option (List TypeId)):List Field→Nat→Option (List TypeId)
 | [],_=>some []
 | f :: fs,off=>if f.offset≠off then none else match rc f.type with
  | some l=>if P.cellsOf f.type=l.length then (match lvTF P rc fs (off+l.length) with
   | some ls=>some (l++ls)
   | none=>none) else none
  | none=>none
def repL {α:Type}:Nat→List α→List α
 | 0,_=>[]
 | n+1,l=>l++repL n l
def lvT (P:Program):Nat→TypeId→Option (List TypeId)
 | 0,_=>none
 | d+1,t=>match P.underlying t with
  | some (.struct fs)=>match lvTF P (lvT P d) fs.toList 0 with
   | some ts=>if P.cellsOf t=ts.length then some ts else none
   | none=>none
  | some (.array n e)=>match lvT P d e with
   | some l=>if P.cellsOf e=l.length∧P.cellsOf t=n * l.length then some (repL n l) else none
   | none=>none
  | some (.int _)=>some [t]
  | some .bool=>some [t]
  | some .string=>some [t]
  | some (.slice _)=>some [t]
  | _=>none
def kOf (P:Program) (t:TypeId):Option LK :=
 match P.underlying t with
 | some (.int k)=>some (.i k)
 | some .bool=>some .b
 | _=>none
def kOfs (P:Program):List TypeId→Option (List LK)
 | []=>some []
 | t :: l=>match kOf P t with
  | some k=>match kOfs P l with
   | some ks=>some (k :: ks)
   | none=>none
  | none=>none
def kinds (P:Program) (t:TypeId):Option (List LK) :=
 match lvT P 20 t with
 | some ts=>kOfs P ts
 | none=>none
section
variable {H:Type} {enc:TypeId × Value→H} {P:Program} {w:World} {base:Nat} {sp:Nat→Bool} {held:Bool}
variable (enc P w base sp held) in
def leafOk:List TypeId→List Value→Prop
 | [],[]=>True
 | t :: ts,c :: cs=>(∃ fuel x,DataW.trod enc P w base sp held fuel t [c]=some x)∧leafOk ts cs
 | _,_=>False
theorem leafOk_append:∀ {ts us:List TypeId} {cs ds:List Value},leafOk enc P w base sp held ts cs→leafOk enc P w base sp held us ds→leafOk enc P w base sp held (ts++us) (cs++ds)
 | [],us,[],ds,_,h=>h
 | t :: ts,us,c :: cs,ds,h1,h2=>⟨h1.1,leafOk_append h1.2 h2⟩
 | [],_,_ :: _,_,h,_=>h.elim
 | _ :: _,_,[],_,h,_=>h.elim
theorem lvTF_ok {rc:TypeId→Option (List TypeId)} (hrc:∀ t ts,rc t=some ts→∀ fuel cs x,cs.length=P.cellsOf t→DataW.trod enc P w base sp held fuel t cs=some x→leafOk enc P w base sp held ts cs) :
  ∀ (fs:List Field) (off:Nat) (ts:List TypeId) (cs:List Value) (fuel:Nat) ,lvTF P rc fs off=some ts→cs.length=off+ts.length →
   (∀ f∈fs,∃ x,DataW.trod enc P w base sp held fuel f.type ((cs.drop f.offset).take (P.cellsOf f.type))=some x)→leafOk enc P w base sp held ts (cs.drop off)
 | [],off,ts,cs,fuel,h,hl,_=>by
  simp only [lvTF,Option.some.injEq] at h
  subst h
  have:cs.drop off=[]:=List.drop_eq_nil_of_le (by simp at hl; omega)
  rw [this]; exact trivial
 | f :: fs,off,ts,cs,fuel,h,hl,hf=>by
  simp only [lvTF] at h
  split at h
  ·cases h
  ·rename_i hoff
   simp only [ne_eq,Decidable.not_not] at hoff
   split at h
   ·rename_i l hl1
    split at h
    ·rename_i hc
     split at h
     ·rename_i ls hls
      cases h
      simp only [List.length_append] at hl
      obtain ⟨x,hx⟩:=hf f (by simp)
      rw [hoff,hc] at hx
      have h1:=hrc _ _ hl1 fuel _ x (by rw [hc]; simp; omega) hx
      have h2:=lvTF_ok hrc fs (off+l.length) ls cs fuel hls (by omega) (fun g hg=>hf g (by simp [hg]))
      have e:cs.drop off=(cs.drop off).take l.length++cs.drop (off+l.length):=by
       rw [← List.drop_drop]; exact (List.take_append_drop _ _).symm
      rw [e]
      exact leafOk_append h1 h2
     ·cases h
    ·cases h
   ·cases h
theorem rep_ok {ts:List TypeId}:∀ (n:Nat) (cs:List Value),cs.length=n * ts.length→(∀ i,i < n→leafOk enc P w base sp held ts ((cs.drop (i * ts.length)).take ts.length))→leafOk enc P w base sp held (repL n ts) cs
 | 0,cs,hl,_=>by
  have:cs=[]:=List.eq_nil_of_length_eq_zero (by simpa using hl)
  subst this; exact trivial
 | n+1,cs,hl,h=>by
  rw [Nat.succ_mul] at hl
  have h0:=h 0 (by omega)
  simp only [Nat.zero_mul,List.drop_zero] at h0
  have ih:=rep_ok (ts:=ts) n (cs.drop ts.length) (by simp; omega) (fun i hi=>by
   have:=h (i+1) (by omega)
   rw [List.drop_drop]
   have e:ts.length+i * ts.length=(i+1) * ts.length:=by rw [Nat.succ_mul]; omega
   rw [e]; exact this)
  have e:cs=cs.take ts.length++cs.drop ts.length:=(List.take_append_drop _ _).symm
  rw [e]
  exact leafOk_append h0 ih
theorem lvT_ok:∀ (d:Nat) (t:TypeId) (ts:List TypeId),lvT P d t=some ts→∀ fuel cs x,cs.length=P.cellsOf t→DataW.trod enc P w base sp held fuel t cs=some x→leafOk enc P w base sp held ts cs
 | 0,t,ts,h,_,_,_,_,_=>by simp [lvT] at h
 | d+1,t,ts,h,fuel,cs,x,hn,hx=>by
  unfold lvT at h
  split at h
  ·rename_i fs hu
   split at h
   ·rename_i ts' hts
    split at h
    ·rename_i hc
     cases h
     obtain ⟨xs,n,rfl,_,hlen,hxl,hxs⟩:=DataW.trod_struct hu hx
     have:=lvTF_ok (lvT_ok d) fs.toList 0 ts cs n hts (by omega) (fun f hf=>by
      obtain ⟨i,hi⟩:=List.getElem?_of_mem hf
      rw [Array.getElem?_toList] at hi
      have:=hxs i f hi
      rw [this]
      have hlt:i < xs.length:=by rw [hxl]; exact (Array.getElem?_eq_some_iff.1 hi).1
      exact ⟨_,List.getElem?_eq_getElem hlt⟩)
     simpa using this
    ·cases h
   ·cases h
  ·rename_i n e hu
   split at h
   ·rename_i l hl
    split at h
    ·rename_i hc
     cases h
     obtain ⟨xs,m,rfl,_,hlen,hxl,hxs⟩:=DataW.trod_array hu hx
     refine rep_ok n cs (by omega) (fun i hi=>?_)
     have:=hxs i hi
     rw [hc.1] at this
     rw [List.getElem?_eq_getElem (by omega)] at this
     have hi2:i * l.length+l.length≤n * l.length:=mul_lt_le hi
     exact lvT_ok d e l hl m _ _ (by rw [hc.1]; simp; omega) this
    ·cases h
   ·cases h
  all_goals (first | (cases h; done) | skip)
  all_goals
   rename_i hu
   cases h
   have h1:∃ c,cs=[c]:=by
    cases fuel with
    | zero=>simp [DataW.trod] at hx
    | succ n=>
     unfold DataW.trod at hx
     rw [hu] at hx
     split at hx<;>first | exact ⟨_,rfl⟩ | simp_all
   obtain ⟨c,rfl⟩:=h1
   exact ⟨⟨fuel,x,hx⟩,trivial⟩
theorem leaf_int {t:TypeId} {k:IntKind} {c:Value} (hu:P.underlying t=some (.int k)) (h:∃ fuel x,DataW.trod enc P w base sp held fuel t [c]=some x):∃ n,c = .int k n∧k.min≤n∧n≤k.max:=by
 obtain ⟨fuel,x,hx⟩:=h
 cases fuel with
 | zero=>simp [DataW.trod] at hx
 | succ f=>
  unfold DataW.trod at hx
  rw [hu] at hx
  split at hx<;>simp_all
  rename_i k' n
  obtain ⟨⟨rfl,h2⟩,_⟩:=hx
  simp only [Lit.wf,Bool.and_eq_true,decide_eq_true_eq] at h2
  exact h2
theorem leaf_bool {t:TypeId} {c:Value} (hu:P.underlying t=some .bool) (h:∃ fuel x,DataW.trod enc P w base sp held fuel t [c]=some x):∃ b,c = .bool b:=by
 obtain ⟨fuel,x,hx⟩:=h
 cases fuel with
 | zero=>simp [DataW.trod] at hx
 | succ f=>
  unfold DataW.trod at hx
  rw [hu] at hx
  split at hx<;>simp_all
theorem kinds_ok:∀ {ts:List TypeId} {ks:List LK} {cs:List Value},kOfs P ts=some ks→leafOk enc P w base sp held ts cs→kindOk ks cs
 | [],ks,[],h,_=>by cases h; exact trivial
 | t :: ts,ks,c :: cs,h,hl=>by
  simp only [kOfs] at h
  split at h
  ·rename_i k hk
   split at h
   ·rename_i ks' hks
    cases h
    have ih:=kinds_ok hks hl.2
    unfold kOf at hk
    split at hk
    ·rename_i k' hu
     cases hk
     obtain ⟨n,rfl,h1,h2⟩:=leaf_int hu hl.1
     exact ⟨rfl,h1,h2,ih⟩
    ·rename_i hu
     cases hk
     obtain ⟨b,rfl⟩:=leaf_bool hu hl.1
     exact ih
    ·cases hk
   ·cases h
  ·cases h
 | [],_,_ :: _,_,h=>h.elim
 | _ :: _,_,[],_,h=>h.elim
theorem leaf_row {α:Type} {E:Enc α} {t e:TypeId} {c:Value} (hu:P.underlying t=some (.slice e)) (hk:kinds P e=some E.ks) (hc:P.cellsOf e=E.sz) (hpos:0 < E.sz)
  (hsp:∀ b,sp b=true) (h:∃ fuel x,DataW.trod enc P w base sp held fuel t [c]=some x) :
  ∃ L:List α,(∀ x∈L,E.wf x)∧c.oneCell'=true∧(∀ r,(Ent.ro L.length E.sz (rowF E L)).rel r w c)∧∀ b,blkOf c=some b→b < w.heap.size:=by
 obtain ⟨fuel,x,hx⟩:=h
 rcases Deep.open_slice hu hx with ⟨h1,_⟩ | ⟨a,len,cap,m,n,D,Pl,h1,hb,hl,hm,hmm,_,hel⟩
 ·cases h1
  exact ⟨[],(fun x hx=>by cases hx),rfl,fun r=>⟨none,0,rfl,Nat.le_refl _,by simp,fun h=>by simp at h⟩,fun b hb=>by simp [blkOf] at hb⟩
 ·cases h1
  have hcell:∀ i,i < m→∃ y,E.wf y∧∃ cs',w.cells? base (a.add (i * P.cellsOf e)) (P.cellsOf e)=some cs'∧E.enc y=cs'.map SC.v:=by
   intro i hi
   obtain ⟨cs',h2,h3⟩:=hel i hi
   have hlen:=(World.cells?_some h2).2.1
   unfold kinds at hk
   split at hk
   ·rename_i ts hts
    have h4:=lvT_ok 20 e ts hts n cs' _ hlen h3
    obtain ⟨y,hy1,hy2⟩:=E.onto cs' (kinds_ok hk h4)
    exact ⟨y,hy2,cs',h2,hy1⟩
   ·cases hk
  have hlem:len≤m:=by rw [hmm]; split<;>omega
  have hlist:∀ k,k≤len→∃ L:List α,L.length=k∧(∀ x∈L,E.wf x)∧∀ i (hi:i < L.length),∃ cs',w.cells? base (a.add (i * P.cellsOf e)) (P.cellsOf e)=some cs'∧E.enc L[i]=cs'.map SC.v:=by
   intro k
   induction k with
   | zero=>intro _; exact ⟨[],rfl,(fun x hx=>by cases hx),fun i hi=>by simp at hi⟩
   | succ k ih=>
    intro hk
    obtain ⟨L,h1,h2,h3⟩:=ih (by omega)
    obtain ⟨y,g1,cs',g2,g3⟩:=hcell k (by omega)
    refine ⟨L++[y],by simp [h1],fun x hx=>?_,fun i hi=>?_⟩
    ·rw [List.mem_append] at hx
     rcases hx with hx | hx
     ·exact h2 x hx
     ·simp only [List.mem_singleton] at hx; subst hx; exact g1
    ·by_cases hik:i < L.length
     ·rw [List.getElem_append_left hik]; exact h3 i hik
     ·simp only [List.length_append,List.length_singleton] at hi
      have:i=k:=by omega
      subst this
      rw [List.getElem_append_right (by omega)]
      simp only [h1,Nat.sub_self,List.getElem_cons_zero]
      exact ⟨cs',g2,g3⟩
  obtain ⟨L,hL1,hL2,hL3⟩:=hlist len (Nat.le_refl _)
  have hcells:∀ i,i < L.length→∀ j,j < E.sz→w.cell? (a.add (i * E.sz+j))=some ((rowF E L i j).den fun _=>undef):=by
   intro i hi j hj
   obtain ⟨cs',g1,g2⟩:=hL3 i hi
   rw [hc] at g1
   obtain ⟨g3,g4,g5⟩:=World.cells?_some g1
   have:=g5 j (by omega)
   rw [Deep.add_add] at this
   rw [this,rowF_get hi]
   unfold cellAt
   rw [g2,nth_eq,List.getElem?_map,List.getElem?_eq_getElem (by omega)]
   rfl
  have hplain:0 < len→∃ b o,a=⟨b,o,none⟩∧b < w.heap.size:=by
   intro h0
   have:=hcells 0 (by omega) 0 hpos
   simp only [Nat.zero_mul,Nat.zero_add,Addr.add,if_true] at this
   unfold World.cell? at this
   split at this
   ·rename_i c e' fr hb'
    split at this
    ·cases this
    ·rename_i hs
     obtain ⟨b,o,s⟩:=a
     simp only [Bool.not_eq_true,Option.isSome_eq_false_iff,Option.isNone_iff_eq_none] at hs
     simp only at hs hb'
     subst hs
     exact ⟨b,o,rfl,(Array.getElem?_eq_some_iff.1 hb').1⟩
   ·cases this
  refine ⟨L,hL2,rfl,fun r=>⟨some a,cap,by rw [hL1],by omega,by simp [maxLen] at hm; omega,fun h0=>?_⟩,fun b hb'=>?_⟩
  ·obtain ⟨b,o,rfl,hlt⟩:=hplain (by omega)
   refine ⟨b,o,rfl,hlt,fun i j hi hj=>?_⟩
   have:=hcells i hi j hj
   rw [Addr.add_plain] at this
   rw [this]
   obtain ⟨v,hv,_⟩:=rowF_flat (E:=E) L i j
   rw [hv]; rfl
  ·simp only [blkOf] at hb'
   split at hb'
   ·cases hb'
   ·cases hb'
    obtain ⟨y,g1,cs',g2,g3⟩:=hcell 0 (by rw [hmm,hsp]; simp; omega)
    rw [hc] at g2
    obtain ⟨_,g4,g5⟩:=World.cells?_some g2
    have:=g5 0 (by omega)
    rw [List.getElem?_eq_getElem (by omega)] at this
    unfold World.cell? at this
    split at this
    ·rename_i c e' fr hb'
     have h2:=(Array.getElem?_eq_some_iff.1 hb').1
     simp only [Nat.zero_mul,Addr.add,if_true] at h2
     exact h2
    ·cases this
end
end Go.Sx
namespace Go.Sx
theorem kind_i {k:IntKind} {ks:List LK} {cs:List Value} (h:kindOk (.i k :: ks) cs):∃ n cs',cs = .int k n :: cs'∧k.min≤n∧n≤k.max∧kindOk ks cs':=by
 cases cs with
 | nil=>exact h.elim
 | cons v cs=>
  cases v<;>first | exact h.elim | skip
  obtain ⟨rfl,h1,h2,h3⟩:=h
  exact ⟨_,_,rfl,h1,h2,h3⟩
theorem kind_n {cs:List Value} (h:kindOk [] cs):cs=[]:=by
 cases cs with
 | nil=>rfl
 | cons v cs=>exact h.elim
end Go.Sx
namespace Go.Sx
open Go.RowKit
def encs {α:Type} (E:Enc α):List α→List SC
 | []=>[]
 | x :: l=>E.enc x++encs E l
theorem encs_at {α:Type} (E:Enc α):∀ (l:List α) (e j:Nat) (he:e < l.length),j < E.sz→(encs E l)[e * E.sz+j]?=(E.enc l[e])[j]?
 | [],e,j,he,_=>by simp at he
 | x :: l,0,j,_,hj=>by simp only [encs,Nat.zero_mul,Nat.zero_add]; rw [List.getElem?_append_left (by rw [E.len]; exact hj)]; rfl
 | x :: l,e+1,j,he,hj=>by
  simp only [encs]
  rw [List.getElem?_append_right (by rw [E.len,Nat.succ_mul]; omega),E.len]
  have e1:(e+1) * E.sz+j - E.sz=e * E.sz+j:=by rw [Nat.succ_mul]; omega
  rw [e1,encs_at E l e j (by simpa using he) hj]
  rfl
theorem lits_at {α:Type} (E:Enc α) (xs:List α) (e j:Nat) (he:e < xs.length) (hj:j < E.sz):litF (encs E xs) E.sz e j=rowF E xs e j:=by
 rw [rowF_get he]
 unfold litF cellAt
 rw [nth_eq,nth_eq,encs_at E xs e j he hj]
 cases (E.enc xs[e])[j]?<;>rfl
theorem lits_row {α:Type} (E:Enc α) (xs:List α):isRow E xs.length E.sz (litF (encs E xs) E.sz)∧decL E xs.length (litF (encs E xs) E.sz)=xs :=
 ⟨isRow_of rfl (.inr rfl) fun e j he hj=>lits_at E xs e j he hj,decL_eq rfl fun e j he hj=>lits_at E xs e j he hj⟩
theorem isRow_len {α:Type} {E:Enc α} (L:List α) {n sz:Nat} (hn:n=L.length) (hs:sz=E.sz):isRow E n sz (rowF E L) ↔ True:=by
 subst hn; subst hs; exact isRow_rowF L
end Go.Sx
namespace Go.Sx
open Go.ChangeShapes Go.WideShapes Go.ChangeAt Go.RowKit
section
variable {H:Type} {enc:TypeId × Value→H} {P:Program} {w:World} {base:Nat} {sp:Nat→Bool} {held:Bool}
def oneT (P:Program) (t:TypeId):Bool :=
 match P.underlying t with
 | some (.int _) | some .bool | some .string | some (.slice _)=>true
 | _=>false
theorem open_one {r:Reach} {b0:Nat} {t:TypeId} {v:Value} {d:DataW H} {ps:List MemPlace} (ho:oneT P t=true) (hv:Value.okWide P w r b0 t v) (hd:DataW.Trod enc P w base sp held t v d ps) :
  ∃ fuel x,DataW.trod enc P w base sp held fuel t [v]=some x:=by
 obtain ⟨fuel,hx⟩:=hd
 have:v.cells.toList=[v]:=by
  unfold oneT at ho
  unfold Value.okWide at hv
  cases v<;>first | rfl | skip
  split at ho
  all_goals first | (cases ho; done) | skip
  all_goals
   rename_i hu
   rw [hu] at hv
   simp [Cell.okWide,Cell.ok,hu] at hv
 rw [this] at hx
 exact ⟨fuel,_,hx⟩
theorem leafs_cons {t:TypeId} {ts:List TypeId} {cs:List Value} (h:leafOk enc P w base sp held (t :: ts) cs):∃ c cs',cs=c :: cs'∧(∃ fuel x,DataW.trod enc P w base sp held fuel t [c]=some x)∧leafOk enc P w base sp held ts cs':=by
 cases cs with
 | nil=>exact h.elim
 | cons c cs=>exact ⟨c,cs,rfl,h.1,h.2⟩
theorem leafs_nil {cs:List Value} (h:leafOk enc P w base sp held [] cs):cs=[]:=by
 cases cs with
 | nil=>rfl
 | cons c cs=>exact h.elim
end
def rhoL (l:List Value):Rho:=fun i=>match l[i]? with
 | some v=>v
 | none=>.bool true
def rowsIn (W:World) (r:Rho):List (Nat × Ent)→Prop
 | []=>True
 | (i,e) :: l=>(e.mut=false∧e.rel r W (r i)∧∀ b,foot e (r i) b→b < W.heap.size)∧rowsIn W r l
theorem rowsIn_lk {W:World} {r:Rho}:∀ {l:List (Nat × Ent)},rowsIn W r l→∀ i e,lk l i=some e→e.mut=false∧e.rel r W (r i)∧∀ b,foot e (r i) b→b < W.heap.size
 | [],_,i,e,h=>by cases h
 | (j,x) :: l,hl,i,e,h=>by
  simp only [lk] at h
  split at h
  ·rename_i hj; cases hj; cases h; exact hl.1
  ·exact rowsIn_lk hl.2 i e h
def onesL:List Value→Prop
 | []=>True
 | v :: l=>v.oneCell'=true∧onesL l
theorem footR {n sz m:Nat} {f:Nat→Nat→SC} {V:Value} (h:∀ b,blkOf V=some b→b < m):∀ b,foot (.ro n sz f) V b→b < m :=
 fun b hb=>h b (hb.resolve_right id)
theorem onesL_at:∀ {l:List Value},onesL l→∀ i,(rhoL l i).oneCell'=true
 | [],_,i=>rfl
 | v :: l,h,0=>h.1
 | v :: l,h,i+1=>onesL_at (l:=l) h.2 i
theorem rows_rel {W:World} {l:List (Nat × Ent)} {vs:List Value} (h1:onesL vs) (h:rowsIn W (rhoL vs) l):HeapRel W ⟨fun _=>False,fun _=>True⟩ (rhoL vs) (lk l) W where
 size:=Nat.le_refl _
 one:=onesL_at h1
 os:=rfl
 tape:=rfl
 output:=.refl _
 frame:=fun _ _ _=>rfl
 ent:=fun i e he=>(rowsIn_lk h i e he).2.1
 apart:=fun i j e e' _ hi _ hm=>by rw [(rowsIn_lk h i e hi).1] at hm; cases hm
 mine:=fun i e he hm=>by rw [(rowsIn_lk h i e he).1] at hm; cases hm
 src:=fun i e he _ b hb=>⟨(rowsIn_lk h i e he).2.2 b hb,.inr trivial⟩
theorem row_calls {P:Program} {f:Nat} {g:Con} {args:List S1} {n:Nat} {l:List (Nat × Ent)} {pre:Prop} {res:SV} (h:COk P f g) (hbd:bodied P f=true) (hs:g args (lk l) n=some (.q pre res)) (ha:sc1L (upto n) args) (hE:scEnt (upto n) l) {W:World} {vs:List Value} (h1:onesL vs) (hr:rowsIn W (rhoL vs) l) (hp:pre) :
  Calls P f (args.map (S1.den (rhoL vs))).toArray W (fun e w'=>e = .returned (res.den (rhoL vs))∧BelowD W.heap.size W w'):=by
 have:=h args (lk l) n (sc1L_sound ha) (fun i e h=>scEnt_sound hE i e h)
 rw [hs] at this
 exact (this.2 hp W _ _ W (rows_rel h1 hr)).calls hbd
end Go.Sx
namespace Go.Sx
def eI:Enc Int where
 sz:=1
 ks:=[.i .i64]
 wf:=fun x=>((-9223372036854775808)≤x∧x≤9223372036854775807)
 enc:=fun x=>[.v (.int .i64 x)]
 dec:=fun f=>intC (f 0)
 dflt:=0
 flat:=by
  intro x c hc
  simp only [List.mem_cons,List.not_mem_nil,or_false] at hc
  subst hc; exact ⟨_,rfl,rfl⟩
 len:=fun x=>rfl
 onto:=by
  intro cs h
  obtain ⟨n0,cs0,rfl,a0,b0,h0⟩:=kind_i h
  obtain rfl:=kind_n h0
  exact ⟨n0,rfl,⟨a0,b0⟩⟩
 de:=by
  intro x f h
  have h0:=h 0 (by decide)
  simp only [nth] at h0
  simp only [h0,intC,boolC]
theorem eI_sz:eI.sz=1:=rfl
theorem eI_0 (L:List Int) (e:Nat):rowF eI L e 0 = .v (.int .i64 (L.getD e eI.dflt)):=rfl
theorem eI_isRow (L:List Int):isRow eI L.length 1 (rowF eI L) ↔ True:=isRow_rowF L
def eU8:Enc Int where
 sz:=1
 ks:=[.i .u8]
 wf:=fun x=>(0≤x∧x≤255)
 enc:=fun x=>[.v (.int .u8 x)]
 dec:=fun f=>intC (f 0)
 dflt:=0
 flat:=by
  intro x c hc
  simp only [List.mem_cons,List.not_mem_nil,or_false] at hc
  subst hc; exact ⟨_,rfl,rfl⟩
 len:=fun x=>rfl
 onto:=by
  intro cs h
  obtain ⟨n0,cs0,rfl,a0,b0,h0⟩:=kind_i h
  obtain rfl:=kind_n h0
  exact ⟨n0,rfl,⟨a0,b0⟩⟩
 de:=by
  intro x f h
  have h0:=h 0 (by decide)
  simp only [nth] at h0
  simp only [h0,intC,boolC]
theorem eU8_sz:eU8.sz=1:=rfl
theorem eU8_0 (L:List Int) (e:Nat):rowF eU8 L e 0 = .v (.int .u8 (L.getD e eU8.dflt)):=rfl
theorem eU8_isRow (L:List Int):isRow eU8 L.length 1 (rowF eU8 L) ↔ True:=isRow_rowF L
def eU16:Enc Int where
 sz:=1
 ks:=[.i .u16]
 wf:=fun x=>(0≤x∧x≤65535)
 enc:=fun x=>[.v (.int .u16 x)]
 dec:=fun f=>intC (f 0)
 dflt:=0
 flat:=by
  intro x c hc
  simp only [List.mem_cons,List.not_mem_nil,or_false] at hc
  subst hc; exact ⟨_,rfl,rfl⟩
 len:=fun x=>rfl
 onto:=by
  intro cs h
  obtain ⟨n0,cs0,rfl,a0,b0,h0⟩:=kind_i h
  obtain rfl:=kind_n h0
  exact ⟨n0,rfl,⟨a0,b0⟩⟩
 de:=by
  intro x f h
  have h0:=h 0 (by decide)
  simp only [nth] at h0
  simp only [h0,intC,boolC]
theorem eU16_sz:eU16.sz=1:=rfl
theorem eU16_0 (L:List Int) (e:Nat):rowF eU16 L e 0 = .v (.int .u16 (L.getD e eU16.dflt)):=rfl
theorem eU16_isRow (L:List Int):isRow eU16 L.length 1 (rowF eU16 L) ↔ True:=isRow_rowF L
def eI32:Enc Int where
 sz:=1
 ks:=[.i .i32]
 wf:=fun x=>((-2147483648)≤x∧x≤2147483647)
 enc:=fun x=>[.v (.int .i32 x)]
 dec:=fun f=>intC (f 0)
 dflt:=0
 flat:=by
  intro x c hc
  simp only [List.mem_cons,List.not_mem_nil,or_false] at hc
  subst hc; exact ⟨_,rfl,rfl⟩
 len:=fun x=>rfl
 onto:=by
  intro cs h
  obtain ⟨n0,cs0,rfl,a0,b0,h0⟩:=kind_i h
  obtain rfl:=kind_n h0
  exact ⟨n0,rfl,⟨a0,b0⟩⟩
 de:=by
  intro x f h
  have h0:=h 0 (by decide)
  simp only [nth] at h0
  simp only [h0,intC,boolC]
theorem eI32_sz:eI32.sz=1:=rfl
theorem eI32_0 (L:List Int) (e:Nat):rowF eI32 L e 0 = .v (.int .i32 (L.getD e eI32.dflt)):=rfl
theorem eI32_isRow (L:List Int):isRow eI32 L.length 1 (rowF eI32 L) ↔ True:=isRow_rowF L
def eU32:Enc Int where
 sz:=1
 ks:=[.i .u32]
 wf:=fun x=>(0≤x∧x≤4294967295)
 enc:=fun x=>[.v (.int .u32 x)]
 dec:=fun f=>intC (f 0)
 dflt:=0
 flat:=by
  intro x c hc
  simp only [List.mem_cons,List.not_mem_nil,or_false] at hc
  subst hc; exact ⟨_,rfl,rfl⟩
 len:=fun x=>rfl
 onto:=by
  intro cs h
  obtain ⟨n0,cs0,rfl,a0,b0,h0⟩:=kind_i h
  obtain rfl:=kind_n h0
  exact ⟨n0,rfl,⟨a0,b0⟩⟩
 de:=by
  intro x f h
  have h0:=h 0 (by decide)
  simp only [nth] at h0
  simp only [h0,intC,boolC]
theorem eU32_sz:eU32.sz=1:=rfl
theorem eU32_0 (L:List Int) (e:Nat):rowF eU32 L e 0 = .v (.int .u32 (L.getD e eU32.dflt)):=rfl
theorem eU32_isRow (L:List Int):isRow eU32 L.length 1 (rowF eU32 L) ↔ True:=isRow_rowF L
def eU64:Enc Int where
 sz:=1
 ks:=[.i .u64]
 wf:=fun x=>(0≤x∧x≤18446744073709551615)
 enc:=fun x=>[.v (.int .u64 x)]
 dec:=fun f=>intC (f 0)
 dflt:=0
 flat:=by
  intro x c hc
  simp only [List.mem_cons,List.not_mem_nil,or_false] at hc
  subst hc; exact ⟨_,rfl,rfl⟩
 len:=fun x=>rfl
 onto:=by
  intro cs h
  obtain ⟨n0,cs0,rfl,a0,b0,h0⟩:=kind_i h
  obtain rfl:=kind_n h0
  exact ⟨n0,rfl,⟨a0,b0⟩⟩
 de:=by
  intro x f h
  have h0:=h 0 (by decide)
  simp only [nth] at h0
  simp only [h0,intC,boolC]
theorem eU64_sz:eU64.sz=1:=rfl
theorem eU64_0 (L:List Int) (e:Nat):rowF eU64 L e 0 = .v (.int .u64 (L.getD e eU64.dflt)):=rfl
theorem eU64_isRow (L:List Int):isRow eU64 L.length 1 (rowF eU64 L) ↔ True:=isRow_rowF L
theorem rowI_len {n:Nat} {L:List Int} (h:n=L.length):rowI n (rowF eU8 L)=L:=by
 subst h
 apply List.ext_getElem?
 intro i
 by_cases hi:i < L.length
 ·rw [rowI_get _ _ _ hi,eU8_0]
  simp [intC,List.getD_eq_getElem?_getD,hi]
 ·rw [List.getElem?_eq_none (by simp [rowI]; omega),List.getElem?_eq_none (by omega)]
theorem rowI_rowF (L:List Int):rowI L.length (rowF eU8 L)=L:=rowI_len rfl
theorem rowBytes_rowF (n:Nat) (L:List Int):rowBytes n 1 (rowF eU8 L) ↔ True:=iff_true_intro ⟨.inr rfl,fun e _=>by rw [eU8_0]; rfl⟩
theorem rowI_nil (f:Nat→Nat→SC):rowI 0 f=[]:=rfl
theorem rowBytes_nil (sz:Nat) (f:Nat→Nat→SC):rowBytes 0 sz f ↔ True:=iff_true_intro ⟨.inl rfl,fun e he=>by omega⟩
theorem pair_eta {α β:Type} (x:α × β):(x.1,x.2)=x:=rfl
theorem and3 {A B C D:Prop} (h:A∧B∧C) (d:D):A∧B∧C∧D:=⟨h.1,h.2.1,h.2.2,d⟩
theorem and4 {A B C F D:Prop} (h:A∧B∧C∧F) (d:D):A∧B∧C∧F∧D:=⟨h.1,h.2.1,h.2.2.1,h.2.2.2,d⟩
attribute [push_cast] vcC_gsa kGsa_norm kGsa_ex kGsa_ret vcC_gst isV decide_true decide_false onG offG fitG_app vcC_frz vcFrz eSlc3 isLen0 vcC_spl vcC_mrg vcSpl vcMrg eMkb nameS lastN vcC_regG vcG vcRun lenX allR barR keysX rdyB delN numX vcAllL vcAll findInn vcCR vcCallD vcC_opn vcOpn ixSum alF alMem alEq alIn alSc renAl eqR_app keepB qMkf cpOf cpS subP CP.sub renP scP CP.sc idsP pair_eta vcF env0 vcC_skip vcC_regT vcC_regF vcC_regD vcC_seq vcC_cond vcC_block vcC_loop vcC_exit vcC_ret vcOps_nil vcOps_cons kSeq_norm kSeq_ex kSeq_ret kBlock_norm kBlock_ex kBlock_ret kRet_ex kRet_norm kRet_ret kLoop_norm kLoop_ex kLoop_ret fitQ_app eqQ_app vcOpsQ vcOp vcOpG vcOp1 vcNil lenV vcEff evQ evQ0 evTup tupOf guardOf rd rds lk opQ qMv qBuild qLoad1 qLoadN qFld qPart1 qPartN qIx1 qIxN qIxA qIxS qBin qBinb qEqA qUn qConv qMin qMax qLenS qNil fin evPick evCR evExt recEff effE eBox eAlloc eStore eCall eSlit eMks eSlc eSlcO eApp lims takeI rowV rowOf boxOf reach reachB resE ids1L S1.ids SC.ids idsL SV.ids memN pushR pushN usesX readsX slotsL XO.slots vcD vcDgo recOf Rec.foot nRes keys vcCond tab plain rets ret1 retV St.put constS nth takeAt setAt fillS ups oks okcs S1.ok SC.ok Value.oneCell' S1.cells binI isShift eqCells eqC sc1L sc1 scL SC.sc scV scEnv scEnt scE Le LeB bndOf bindEnv bindEnt bindV bind1 bind1L bindL bindC imgB bndOk leEnv leEnt leAt leE nilE imgs outN nodupN mapEq SC.sub subL S1.sub sub1L SV.sub upto mkI keepS idsEnv keepN rowF_scT rowEq_rowF rowEq_lit okRow_rowF okRow_lit lit_scF isRow_rowF isRow_nil decL_rowF decL_nil List.getD_cons_zero List.getD_cons_succ sg SC.ren renL S1.ren ren1L SV.ren Ent.ren renE List.map_cons List.map_nil List.length_cons List.length_nil List.nil_append List.cons_append List.append_nil Option.getD_none Option.getD_some Int.toNat_natCast Int.toNat_zero Nat.add_zero Nat.zero_add Nat.le_refl Nat.zero_le Nat.sub_zero Nat.sub_self Nat.lt_irrefl Nat.add_lt_add_iff_left Nat.add_eq_zero_iff and_true true_and and_self and_false false_and forall_const Bool.false_eq_true Bool.true_eq_false false_or or_false or_true true_or cond_true cond_false beq_self_eq_true beq_true beq_false bne_iff_ne bne_eq_false_iff_eq beq_iff_eq beq_eq_false_iff_ne true_implies false_implies imp_self implies_true Bool.not_not Bool.and_true Bool.true_and Bool.and_false Bool.false_and Bool.not_true Bool.not_false Bool.true_or Bool.or_true Bool.false_or Bool.or_false Bool.cond_false_right Bool.cond_true_left Bool.cond_true_right Bool.cond_false_left SV.o.injEq SV.t.injEq SV.g.injEq S1.c.injEq S1.a.injEq SC.v.injEq SC.n.injEq SC.p.injEq Value.bool.injEq Value.int.injEq List.cons.injEq Option.some.injEq Prod.mk.injEq decide_eq_true_eq gt_iff_lt ge_iff_le ne_eq Int.cast_ofNat_Int Int.natCast_nonneg Int.ofNat_lt Int.ofNat_le not_false_eq_true not_true_eq_false Bool.not_eq_true' Bool.not_eq_false' Bool.or_eq_true Bool.and_eq_true Bool.or_eq_false_iff decide_eq_false_iff_not Int.zero_sub and_imp bne_self_eq_false Bool.bne_true Bool.bne_false Int.sub_zero vcC_bad vcC_cut kCut_norm kCut_ex kCut_ret qX qSlen qSidx qSbin qSslc qEqP qStr qSdata qToU qFromU ptrEq strI eUstr rowI_rowF rowBytes_rowF rowI_nil rowBytes_nil keyXY
attribute [push_cast] eI_isRow eI_sz eI_0 eU8_isRow eU8_sz eU8_0 eU16_isRow eU16_sz eU16_0 eI32_isRow eI32_sz eI32_0 eU32_isRow eU32_sz eU32_0 eU64_isRow eU64_sz eU64_0
end Go.Sx
namespace Go.Sx
def eC:Enc CC where
 sz:=2
 ks:=[.i .i64,.i .i64]
 wf:=fun x=>((-9223372036854775808)≤x.X∧x.X≤9223372036854775807)∧((-9223372036854775808)≤x.Y∧x.Y≤9223372036854775807)
 enc:=fun x=>[.v (.int .i64 x.X),.v (.int .i64 x.Y)]
 dec:=fun f=>⟨intC (f 0),intC (f 1)⟩
 dflt:=⟨0,0⟩
 flat:=by
  intro x c hc
  simp only [List.mem_cons,List.not_mem_nil,or_false] at hc
  rcases hc with rfl | rfl<;>exact ⟨_,rfl,rfl⟩
 len:=fun x=>rfl
 onto:=by
  intro cs h
  obtain ⟨n0,cs0,rfl,a0,b0,h0⟩:=kind_i h
  obtain ⟨n1,cs1,rfl,a1,b1,h1⟩:=kind_i h0
  obtain rfl:=kind_n h1
  exact ⟨⟨n0,n1⟩,rfl,⟨a0,b0⟩,⟨a1,b1⟩⟩
 de:=by
  intro x f h
  have h0:=h 0 (by decide)
  simp only [nth] at h0
  have h1:=h 1 (by decide)
  simp only [nth] at h1
  simp only [h0,h1,intC,boolC]
theorem eC_sz:eC.sz=2:=rfl
theorem eC_0 (L:List CC) (e:Nat):rowF eC L e 0 = .v (.int .i64 (L.getD e eC.dflt).X):=rfl
theorem eC_1 (L:List CC) (e:Nat):rowF eC L e 1 = .v (.int .i64 (L.getD e eC.dflt).Y):=rfl
theorem eC_eta (x:CC):CC.mk x.X x.Y=x:=rfl
theorem eC_isRow (L:List CC):isRow eC L.length 2 (rowF eC L) ↔ True:=isRow_rowF L
attribute [push_cast] eC_eta eC_isRow eC_sz eC_0 eC_1
def O1 (d:Nat) (op:XOp) (s:Nat):XOper:=⟨some d,op,[.t s],none⟩
def O2 (d:Nat) (op:XOp) (s r:Nat):XOper:=⟨some d,op,[.t s,.t r],none⟩
def K1 (d:Nat) (op:XOp) (v:Value):XOper:=⟨some d,op,[.k v],none⟩
def K2 (d:Nat) (op:XOp) (s:Nat) (v:Value):XOper:=⟨some d,op,[.t s,.k v],none⟩
def G1 (d:Nat) (op:XOp) (s g:Nat) (b:Bool):XOper:=⟨some d,op,[.t s],some (g,b)⟩
def G2 (d:Nat) (op:XOp) (s r g:Nat) (b:Bool):XOper:=⟨some d,op,[.t s,.t r],some (g,b)⟩
def GK (d:Nat) (op:XOp) (s:Nat) (v:Value) (g:Nat) (b:Bool):XOper:=⟨some d,op,[.t s,.k v],some (g,b)⟩
def iV (n:Int):Value:=.int .i64 n
attribute [push_cast] O1 O2 K1 K2 G1 G2 GK iV
def gridRow (p:Int→Int→Bool) (x0 y:Int) (n:Nat):List CC:=((List.range n).filter fun i:Nat=>p (x0+i) y).map fun i:Nat=>(⟨x0+i,y⟩:CC)
def gridUp (p:Int→Int→Bool) (x0:Int) (w:Nat) (y0:Int) (h:Nat):List CC:=(List.range h).flatMap fun j:Nat=>gridRow p x0 (y0+j) w
def gridL (p:Int→Int→Bool) (x0 x1 y0 y1:Int):List CC:=gridUp p x0 (x1 - x0+1).toNat y0 (y1 - y0+1).toNat
theorem gridRow_zero (p:Int→Int→Bool) (x0 y:Int):gridRow p x0 y 0=[]:=rfl
theorem gridUp_zero (p:Int→Int→Bool) (x0:Int) (w:Nat) (y0:Int):gridUp p x0 w y0 0=[]:=rfl
theorem gridRow_yes {p:Int→Int→Bool} {x0 y:Int} {n:Nat} (h:p (x0+n) y=true):gridRow p x0 y (n+1)=gridRow p x0 y n++[⟨x0+n,y⟩]:=by
 simp [gridRow,List.range_succ,List.filter_append,h]
theorem gridRow_no {p:Int→Int→Bool} {x0 y:Int} {n:Nat} (h:p (x0+n) y=false):gridRow p x0 y (n+1)=gridRow p x0 y n:=by
 simp [gridRow,List.range_succ,List.filter_append,h]
theorem gridUp_succ (p:Int→Int→Bool) (x0:Int) (w:Nat) (y0:Int) (h:Nat):gridUp p x0 w y0 (h+1)=gridUp p x0 w y0 h++gridRow p x0 (y0+h) w:=by
 simp [gridUp,List.range_succ,List.flatMap_append]
theorem gridRow_len (p:Int→Int→Bool) (x0 y:Int) (n:Nat):(gridRow p x0 y n).length≤n:=by
 unfold gridRow; rw [List.length_map]
 exact Nat.le_trans (List.length_filter_le _ _) (by simp)
theorem gridUp_len (p:Int→Int→Bool) (x0:Int) (w:Nat) (y0:Int):∀ h,(gridUp p x0 w y0 h).length≤h * w
 | 0=>by simp [gridUp_zero]
 | h+1=>by
  rw [gridUp_succ,List.length_append,Nat.succ_mul]
  have:=gridUp_len p x0 w y0 h
  have:=gridRow_len p x0 (y0+h) w
  omega
theorem gridRow_mem {p:Int→Int→Bool} {x0 y:Int} {n:Nat} {c:CC}:c∈gridRow p x0 y n ↔ p c.X c.Y=true∧x0≤c.X∧c.X < x0+n∧c.Y=y:=by
 simp only [gridRow,List.mem_map,List.mem_filter,List.mem_range]
 constructor
 ·rintro ⟨i,⟨h1,h2⟩,rfl⟩; exact ⟨h2,by simp only; omega,by simp only; omega,rfl⟩
 ·rintro ⟨h1,h2,h3,h4⟩
  have e:x0+((c.X - x0).toNat:Int)=c.X:=by omega
  refine ⟨(c.X - x0).toNat,⟨by omega,?_⟩,?_⟩
  ·rw [e,← h4]; exact h1
  ·rw [e,← h4]
theorem gridUp_mem {p:Int→Int→Bool} {x0 y0:Int} {w h:Nat} {c:CC}:c∈gridUp p x0 w y0 h ↔ p c.X c.Y=true∧(x0≤c.X∧c.X < x0+w)∧y0≤c.Y∧c.Y < y0+h:=by
 simp only [gridUp,List.mem_flatMap,List.mem_range,gridRow_mem]
 constructor
 ·rintro ⟨j,h1,h2,h3,h4,h5⟩; exact ⟨h2,⟨h3,h4⟩,by omega,by omega⟩
 ·rintro ⟨h1,⟨h2,h3⟩,h4,h5⟩; exact ⟨(c.Y - y0).toNat,by omega,h1,h2,h3,by omega⟩
theorem gridL_mem {p:Int→Int→Bool} {x0 x1 y0 y1:Int} {c:CC}:c∈gridL p x0 x1 y0 y1 ↔ p c.X c.Y=true∧(x0≤c.X∧c.X≤x1)∧y0≤c.Y∧c.Y≤y1:=by
 unfold gridL; rw [gridUp_mem]
 constructor
 ·rintro ⟨h1,⟨h2,h3⟩,h4,h5⟩; exact ⟨h1,⟨h2,by omega⟩,h4,by omega⟩
 ·rintro ⟨h1,⟨h2,h3⟩,h4,h5⟩; exact ⟨h1,⟨h2,by omega⟩,h4,by omega⟩
theorem push_eq {α:Type} {E:Enc α} {L L':List α} {x:α} {sz:Nat} {b:Bnd} (h:L'=L++[x]):L.length+1=L'.length∧rowEq (L.length+1) sz (catF L.length (rowF E L) (litF (E.enc x) sz)) (rowF E L') (SC.sub b):=by
 subst h
 exact ⟨by simp,rowEq_push1 E L x (fun _=>rfl)⟩
theorem same_eq {α:Type} {E:Enc α} {L L':List α} {n sz:Nat} {b:Bnd} (h:L'=L):L.length=L'.length∧rowEq n sz (rowF E L) (rowF E L') (SC.sub b):=by
 subst h
 exact ⟨rfl,(rowEq_rowF _ _ _ _).2 trivial⟩
end Go.Sx
namespace Go.Sx
instance:DecidableEq CC:=fun a b=>if h:a.X=b.X∧a.Y=b.Y then isTrue (by cases a; cases b; simp only at h; rw [h.1,h.2]) else isFalse (fun e=>h (by rw [e]; exact ⟨rfl,rfl⟩))
theorem getD_ext {α:Type} {L K:List α} (d:α) (hl:L.length=K.length) (h:∀ i,i < L.length→L.getD i d=K.getD i d):L=K:=by
 refine List.ext_getElem hl fun i h1 h2=>?_
 have:=h i h1
 rw [List.getD_eq_getElem?_getD,List.getD_eq_getElem?_getD,List.getElem?_eq_getElem h1,List.getElem?_eq_getElem h2] at this
 exact this
end Go.Sx
namespace Go.Sx
open Go.RowKit
section
variable {P:Program} {base:World} {M:Scp} {r:Rho} {w:World}
theorem HeapRel.mkB {E:Nat→Option Ent} {c:Nat} {V:Value} {e:Ent} {w':World} (h:HeapRel base M r E w) (hs:∀ i x,E i=some x→i≠c∧x.sc (fun i=>i≠c)) (h1:V.oneCell'=true)
  (hbl:BelowD w.heap.size w w') (hb:∀ b,blkOf V=some b→w.heap.size≤b∧b < w'.heap.size) (he:e.rel (more r c V) w' V) (hin:∀ b,¬ e.inB b:=by intro _ h; exact h):HeapRel base M (more r c V) (upd [(c,e)] E) w':=by
 have hx:=(h.below hbl).ext (r':=more r c V) hs more_ne (more_one h.one h1)
 have hsz:=hbl.size
 refine ⟨hx.size,hx.one,hx.os,hx.tape,hx.output,hx.frame,?_,?_,?_,?_⟩
 ·intro i x hi
  rw [upd_one] at hi
  by_cases hc:c=i
  ·subst hc; rw [if_pos rfl] at hi; cases hi; rw [more_new]; exact he
  ·rw [if_neg hc] at hi; exact hx.ent i x hi
 ·intro i j x x' hij hi hj hm hl b hb1 hb2
  rw [upd_one] at hi hj
  by_cases hc:c=i
  ·subst hc
   rw [more_new] at hb1
   rw [if_neg hij] at hj
   rw [more_ne _ (hs j x' hj).1] at hb2
   have:=(h.src j x' hj hl b hb2).1
   rw [if_pos rfl] at hi; cases hi
   have:=hb b (wfoot_blk hin hb1)
   omega
  ·rw [if_neg hc] at hi
   by_cases hc2:c=j
   ·subst hc2
    rw [if_pos rfl] at hj
    cases hj
    rw [more_new] at hb2
    have hb2:=hb2.resolve_right (hin b)
    rw [more_ne _ (hs i x hi).1] at hb1
    have:=(h.src i x hi (Ent.mut_live hm) b (wfoot_foot hb1)).1
    have:=hb b hb2
    omega
   ·rw [if_neg hc2] at hj
    exact hx.apart i j x x' hij hi hj hm hl b hb1 hb2
 ·intro i x hi hm b hb1
  rw [upd_one] at hi
  by_cases hc:c=i
  ·subst hc; rw [if_pos rfl] at hi; cases hi; rw [more_new] at hb1; exact .inl (by have:=hb b (wfoot_blk hin hb1); have:=h.size; omega)
  ·rw [if_neg hc] at hi; exact hx.mine i x hi hm b hb1
 ·intro i x hi hl b hb1
  rw [upd_one] at hi
  by_cases hc:c=i
  ·subst hc; rw [if_pos rfl] at hi; cases hi; rw [more_new] at hb1; have:=hb b (hb1.resolve_right (hin b)); have:=h.size; exact ⟨by omega,.inl (by omega)⟩
  ·rw [if_neg hc] at hi; exact hx.src i x hi hl b hb1
end
end Go.Sx
namespace Go.Sx
open Go.RowKit
theorem inE_own {α:Type} {E:Enc α} {Et:Nat→Option Ent} {l n s ty:Nat} {f:Nat→Nat→SC} {σ:Nat→Nat} (hl:Et l=some (.own n s f ty)) (h:isRow E n s f) (hs:s=E.sz) :
  ∃ e0,Et l=some e0∧leE (SC.ren σ) e0 (.own (decL E n f).length E.sz (rowF E (decL E n f)) ty):=by
 obtain ⟨h1,h2⟩:=h
 refine ⟨_,hl,(decL_len n f).symm,hs,rfl,?_⟩
 intro e j he hj
 subst hs
 rw [rowF_ren]; exact h2 e j he hj
def sameCon:Con:=fun args _ _=>match args with
 | [x]=>some (.q True (.o x))
 | _=>none
attribute [push_cast] sameCon
end Go.Sx
namespace Go.Sx
theorem decL_one {α:Type} {E:Enc α} (x:α):decL E 1 (rowF E [x])=[x]:=decL_rowF [x]
theorem isRow_one (x:Int):isRow eU8 1 1 (rowF eU8 [x]) ↔ True:=isRow_rowF (E:=eU8) [x]
attribute [push_cast] decL_one isRow_one
end Go.Sx
