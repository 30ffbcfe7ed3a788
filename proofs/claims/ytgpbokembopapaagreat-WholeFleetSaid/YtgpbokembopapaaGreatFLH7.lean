/- A part of the proof of a statement about this seat: how a function is stepped through, and plain laws. No conditions. -/
import Derived.Test.YtgpbokembopapaaGreatRows
import Derived.Test.YtgpbokembopapaaGreatFLSz4
import Derived.Test.YtgpbokembopapaaGreatFLH6
import Derived.KernelRfl
set_option linter.unusedVariables false
set_option linter.unusedSimpArgs false
set_option maxRecDepth 20000
namespace Go.Proofs.YtgpbokembopapaaGreat
open Go.Sx Go.Way
section
open Go.Sx
theorem cok_or {P:Program} {f:Nat} {g h:Con} (hg:COk P f g) (hh:COk P f h):COk P f (fun a E n=>match g a E n with | some r=>some r | none=>h a E n):=by
 intro a E n h1 h2
 have c1:=hg a E n h1 h2
 have c2:=hh a E n h1 h2
 show CROk P f a E n (match g a E n with | some r=>some r | none=>h a E n)
 cases e:g a E n with
 | some r=>rw [e] at c1; exact c1
 | none=>exact c2
theorem vcLoop_s {α:Type} {n0:Nat} {B:Kont→St→Prop} {S:St} {K:Kont} (f:α→St→St) (μ:α→Nat) (x0:α) (h0:Le n0 S (f x0 S)) (h:∀ x,B (kLoop n0 (fun x=>f x S) μ x K) (f x S)):vcLoop n0 B S K:=⟨α,fun x=>f x S,μ,x0,h0,h⟩
def rw3:Nat→Nat→SC:=fun e _=>if e=0 then .p 2 0 else if e=1 then .p 5 0 else .p 8 0
def rw1:Nat→Nat→SC:=fun _ _=>.p 2 0
def rw2:Nat→Nat→SC:=fun e _=>if e=0 then .p 2 0 else .p 5 0
def I4 (k:Nat) (g:Nat→GV) (S:St):St:=match k with
 | 0=>⟨[(5,.o (.c (.v (.slice none 0 0)))),(6,.o (.c (.v (.int .i64 0))))]++keepS S.env [0,1],S.ents,2⟩
 | 1=>⟨[(5,.o (.c (.n 4))),(6,.o (.c (.v (.int .i64 1))))]++keepS S.env [0,1],(4,.own 1 1 rw1 64) :: (2,.bx 73 (stF (newX 0) (g 0)) 130 (stP (newX 0) (g 0))) :: S.ents,5⟩
 | 2=>⟨[(5,.o (.c (.n 7))),(6,.o (.c (.v (.int .i64 2))))]++keepS S.env [0,1],(7,.own 2 1 rw2 64) :: (2,.bx 73 (stF (newX 0) (g 0)) 130 (stP (newX 0) (g 0))) :: (5,.bx 73 (stF (newX 1) (g 1)) 130 (stP (newX 1) (g 1))) :: S.ents,8⟩
 | _=>⟨[(5,.o (.c (.n 10))),(6,.o (.c (.v (.int .i64 3))))]++keepS S.env [0,1],(10,.own 3 1 rw3 64) :: (2,.bx 73 (stF (newX 0) (g 0)) 130 (stP (newX 0) (g 0))) :: (5,.bx 73 (stF (newX 1) (g 1)) 130 (stP (newX 1) (g 1))) :: (8,.bx 73 (stF (newX 2) (g 2)) 130 (stP (newX 2) (g 2))) :: S.ents,11⟩
theorem I4_0 (g:Nat→GV) (S:St):I4 0 g S=⟨[(5,.o (.c (.v (.slice none 0 0)))),(6,.o (.c (.v (.int .i64 0))))]++keepS S.env [0,1],S.ents,2⟩:=rfl
theorem I4_1 (g:Nat→GV) (S:St):I4 1 g S=⟨[(5,.o (.c (.n 4))),(6,.o (.c (.v (.int .i64 1))))]++keepS S.env [0,1],(4,.own 1 1 rw1 64) :: (2,.bx 73 (stF (newX 0) (g 0)) 130 (stP (newX 0) (g 0))) :: S.ents,5⟩:=rfl
theorem I4_2 (g:Nat→GV) (S:St):I4 2 g S=⟨[(5,.o (.c (.n 7))),(6,.o (.c (.v (.int .i64 2))))]++keepS S.env [0,1],(7,.own 2 1 rw2 64) :: (2,.bx 73 (stF (newX 0) (g 0)) 130 (stP (newX 0) (g 0))) :: (5,.bx 73 (stF (newX 1) (g 1)) 130 (stP (newX 1) (g 1))) :: S.ents,8⟩:=rfl
theorem I4_3 (g:Nat→GV) (S:St):I4 3 g S=⟨[(5,.o (.c (.n 10))),(6,.o (.c (.v (.int .i64 3))))]++keepS S.env [0,1],(10,.own 3 1 rw3 64) :: (2,.bx 73 (stF (newX 0) (g 0)) 130 (stP (newX 0) (g 0))) :: (5,.bx 73 (stF (newX 1) (g 1)) 130 (stP (newX 1) (g 1))) :: (8,.bx 73 (stF (newX 2) (g 2)) 130 (stP (newX 2) (g 2))) :: S.ents,11⟩:=rfl
theorem rw3_0 (j:Nat):rw3 0 j = .p 2 0:=rfl
theorem rw3_1 (j:Nat):rw3 1 j = .p 5 0:=rfl
theorem rw3_2 (j:Nat):rw3 2 j = .p 8 0:=rfl
theorem rw1_row:rowEq 1 1 (litF [SC.p 2 0] 1) rw1 (SC.sub [(4,SC.n 4),(0,SC.n 0),(1,SC.n 1)]):=by
 intro e j he hj
 obtain rfl:e=0:=by omega
 obtain rfl:j=0:=by omega
 rfl
theorem rw2_row:rowEq 2 1 (catF 1 rw1 (litF [SC.p 5 0] 1)) rw2 (SC.sub [(7,SC.n 7),(0,SC.n 0),(1,SC.n 1)]):=by
 intro e j he hj
 obtain rfl:j=0:=by omega
 rcases (by omega:e=0∨e=1) with rfl | rfl<;>rfl
theorem rw3_row:rowEq 3 1 (catF 2 rw2 (litF [SC.p 8 0] 1)) rw3 (SC.sub [(10,SC.n 10),(0,SC.n 0),(1,SC.n 1)]):=by
 intro e j he hj
 obtain rfl:j=0:=by omega
 rcases (by omega:e=0∨e=1∨e=2) with rfl | rfl | rfl<;>rfl
theorem rw1_sc:scF (upto 5) rw1:=fun _ _=>by show 2 < 5; decide
theorem rw2_sc:scF (upto 8) rw2:=fun e _=>by
 unfold rw2
 split
 ·show 2 < 8; decide
 ·show 5 < 8; decide
theorem rw3_scT2 {n:Nat} (h:8 < n):scF (upto n) rw3 ↔ True:=iff_true_intro fun e _=>by
 unfold rw3
 split
 ·show 2 < n; omega
 ·split
  ·show 5 < n; omega
  ·show 8 < n; omega
theorem rw3_scT {n:Nat} (h:8 < n):(∀ e j:Nat,SC.sc (upto n) (rw3 e j)) ↔ True:=iff_true_intro fun e _=>by
 unfold rw3
 split
 ·show 2 < n; omega
 ·split
  ·show 5 < n; omega
  ·show 8 < n; omega
theorem rw3_rowT {b:Bnd} (h2:lk b 2=none) (h5:lk b 5=none) (h8:lk b 8=none):rowEq 3 1 rw3 rw3 (SC.sub b) ↔ True:=iff_true_intro fun e j _ _=>by
 unfold rw3
 split
 ·simp only [SC.sub,h2]
 ·split
  ·simp only [SC.sub,h5]
  ·simp only [SC.sub,h8]
attribute [push_cast] rw3_0 rw3_1 rw3_2 rw3_scT rw3_scT2 rw3_rowT
def upG (g:Nat→GV) (i:Nat) (G:GV):Nat→GV:=fun j=>if j=i then G else g j
noncomputable def g28u:Con:=fun a E n=>match g28s a E n with | some r=>some r | none=>g28 a E n
theorem c28u:COk Tryz.prog 28 g28u:=cok_or c28s c28
noncomputable def g32u:Con:=fun a E n=>match g32s a E n with | some r=>some r | none=>g32 a E n
theorem c32u:COk Tryz.prog 32 g32u:=cok_or c32s c32
end
def upX (X:Nat→STN) (i:Nat) (x:STN):Nat→STN:=fun j=>if j=i then x else X j
def whoK (n:I64):Nat:=(n.1 % 3).toNat
theorem whoK_at {n:I64} {i:Nat} (h:n.1 % 3=(i:Int)):whoK n=i:=by unfold whoK; rw [h]; rfl
theorem whoK_lt (n:I64):whoK n < 3:=by unfold whoK; omega
def talkX (X:Nat→STN) (t:TK):Nat→STN :=
 if t.w.tmod 4=2 then upX X (whoK t.who) (relD (X (whoK t.who)) t.r)
 else if t.w.tmod 4=3 then (if whoK t.oth=whoK t.who then X else upX X (whoK t.who) (hearD (X (whoK t.who)) (X (whoK t.oth))))
 else if t.n.put=true then upX X (whoK t.who) (updA (X (whoK t.who)) (X (whoK t.who)).me.toNat (putH (hOf (X (whoK t.who)) (X (whoK t.who)).me.toNat) t.n.id t.n.s) (qOf (X (whoK t.who)) (X (whoK t.who)).me.toNat))
 else upX X (whoK t.who) (updA (X (whoK t.who)) (X (whoK t.who)).me.toNat (hOf (X (whoK t.who)) (X (whoK t.who)).me.toNat) (plcL (qOf (X (whoK t.who)) (X (whoK t.who)).me.toNat) t.n.id t.n.p))
def XK (L:List TK) (k:Nat):Nat→STN:=(L.take k).foldl talkX (fun i:Nat=>newX (i:Int))
theorem XK_succ {L:List TK} {k:Nat} (h:k < L.length):XK L (k+1)=talkX (XK L k) (L.getD k eTk.dflt):=by
 unfold XK
 rw [List.take_add_one,List.getElem?_eq_getElem h,List.foldl_append,getT_at h]
 rfl
theorem XK_0 (L:List TK) (i:Nat):XK L 0 i=newX (i:Int):=rfl
theorem talk_2 {X:Nat→STN} {t:TK} (h:t.w.tmod 4=2):talkX X t=upX X (whoK t.who) (relD (X (whoK t.who)) t.r):=if_pos h
theorem talk_3 {X:Nat→STN} {t:TK} (h2:¬ t.w.tmod 4=2) (h:t.w.tmod 4=3) (hn:whoK t.oth≠whoK t.who):talkX X t=upX X (whoK t.who) (hearD (X (whoK t.who)) (X (whoK t.oth))):=by
 unfold talkX; rw [if_neg h2,if_pos h,if_neg hn]
theorem talk_3s {X:Nat→STN} {t:TK} (h2:¬ t.w.tmod 4=2) (h:t.w.tmod 4=3) (hn:whoK t.oth=whoK t.who):talkX X t=X:=by
 unfold talkX; rw [if_neg h2,if_pos h,if_pos hn]
theorem talk_p {X:Nat→STN} {t:TK} (h2:¬ t.w.tmod 4=2) (h:¬ t.w.tmod 4=3) (hp:t.n.put=true):talkX X t=upX X (whoK t.who) (updA (X (whoK t.who)) (X (whoK t.who)).me.toNat (putH (hOf (X (whoK t.who)) (X (whoK t.who)).me.toNat) t.n.id t.n.s) (qOf (X (whoK t.who)) (X (whoK t.who)).me.toNat)):=by
 unfold talkX; rw [if_neg h2,if_neg h,if_pos hp]
theorem talk_q {X:Nat→STN} {t:TK} (h2:¬ t.w.tmod 4=2) (h:¬ t.w.tmod 4=3) (hp:t.n.put=false):talkX X t=upX X (whoK t.who) (updA (X (whoK t.who)) (X (whoK t.who)).me.toNat (hOf (X (whoK t.who)) (X (whoK t.who)).me.toNat) (plcL (qOf (X (whoK t.who)) (X (whoK t.who)).me.toNat) t.n.id t.n.p)):=by
 unfold talkX; rw [if_neg h2,if_neg h,if_neg (by rw [hp]; decide)]
def ok3 (X:Nat→STN):Prop:=∀ i,i < 3→okSt (X i)∧(X i).me=i
theorem ok3_up {X:Nat→STN} (h:ok3 X) {i:Nat} {x:STN} (hi:i < 3) (hx:okSt x) (hm:x.me=(X i).me):ok3 (upX X i x):=by
 intro j hj
 unfold upX
 by_cases e:j=i
 ·rw [if_pos e]; exact ⟨hx,by rw [hm,(h i hi).2,e]⟩
 ·rw [if_neg e]; exact h j hj
theorem rel_me (x:STN) (r:RL):(relD x r).me=x.me:=by
 unfold relD; split
 ·exact (take_H x r).1
 ·rfl
theorem ok3_talk {X:Nat→STN} (h:ok3 X) (t:TK):ok3 (talkX X t):=by
 have hi:=whoK_lt t.who
 have hx:=(h _ hi).1
 unfold talkX
 split
 ·exact ok3_up h hi (okSt_rel _ hx) (rel_me _ _)
 ·split
  ·split
   ·exact h
   ·exact ok3_up h hi (okSt_hear hx (h _ (whoK_lt t.oth)).1) (hear_me _ _)
  ·split
   ·exact ok3_up h hi (okSt_put hx _) rfl
   ·exact ok3_up h hi (okSt_plc hx _) rfl
theorem ok3_0:ok3 (fun i:Nat=>newX (i:Int)):=fun i hi=>⟨okSt_new (by omega),rfl⟩
theorem ok3_fold:∀ (L:List TK) {X:Nat→STN},ok3 X→ok3 (L.foldl talkX X)
 | [],_,h=>h
 | t :: L,_,h=>ok3_fold L (ok3_talk h t)
theorem ok3_K (L:List TK) (k:Nat):ok3 (XK L k):=ok3_fold _ ok3_0
def hearP (X:Nat→STN) (a b:Nat):Nat→STN:=upX X a (hearD (X a) (X b))
def turnX (k:Nat) (X:Nat→STN) (i:Nat):Nat→STN:=hearP (hearP X ((k+i) % 3) ((k+i+1) % 3)) ((k+i) % 3) ((k+i+2) % 3)
def roundX (k:Nat) (X:Nat→STN):Nat→Nat→STN
 | 0=>X
 | i+1=>turnX k (roundX k X i) i
def roundsX (k:Nat) (X:Nat→STN):Nat→Nat→STN
 | 0=>X
 | r+1=>roundX k (roundsX k X r) 3
theorem ok3_hear {X:Nat→STN} (h:ok3 X) {a b:Nat} (ha:a < 3) (hb:b < 3):ok3 (hearP X a b):=ok3_up h ha (okSt_hear (h a ha).1 (h b hb).1) (hear_me _ _)
theorem ok3_turn {X:Nat→STN} (h:ok3 X) (k i:Nat):ok3 (turnX k X i):=ok3_hear (ok3_hear h (Nat.mod_lt _ (by decide)) (Nat.mod_lt _ (by decide))) (Nat.mod_lt _ (by decide)) (Nat.mod_lt _ (by decide))
theorem ok3_round {X:Nat→STN} (h:ok3 X) (k:Nat):∀ i,ok3 (roundX k X i)
 | 0=>h
 | i+1=>ok3_turn (ok3_round h k i) k i
theorem ok3_rounds {X:Nat→STN} (h:ok3 X) (k:Nat):∀ r,ok3 (roundsX k X r)
 | 0=>h
 | r+1=>ok3_round (ok3_rounds h k r) k 3
theorem wr1:IntKind.i64.wrap 1=1:=wrapI (by decide) (by decide)
theorem wr2:IntKind.i64.wrap 2=2:=wrapI (by decide) (by decide)
theorem wr3:IntKind.i64.wrap 3=3:=wrapI (by decide) (by decide)
theorem wr4:IntKind.i64.wrap 4=4:=wrapI (by decide) (by decide)
theorem wr5:IntKind.i64.wrap 5=5:=wrapI (by decide) (by decide)
theorem wr6:IntKind.i64.wrap 6=6:=wrapI (by decide) (by decide)
theorem wr0:IntKind.i64.wrap 0=0:=wrapI (by decide) (by decide)
theorem tm0:(0:Int).tmod 3=0:=rfl
theorem tm1:(1:Int).tmod 3=1:=rfl
theorem tm2:(2:Int).tmod 3=2:=rfl
theorem tm3:(3:Int).tmod 3=0:=rfl
theorem tm4:(4:Int).tmod 3=1:=rfl
theorem tm5:(5:Int).tmod 3=2:=rfl
theorem tm6:(6:Int).tmod 3=0:=rfl
theorem ord_k {v:Int} (h:0≤v∧v≤255):∃ k:Nat,k < 3∧(IntKind.i64.wrap v).tmod 3=(k:Int):=by
 refine ⟨(v % 3).toNat,by omega,?_⟩
 rw [wrapI (by omega) (by omega),Int.tmod_eq_emod_of_nonneg h.1]
 omega
structure EqX (X:Nat→STN):Prop where
 ok:ok3 X
 rel:∀ i,i < 3→relL (X i)=relL (X 0)
 all:∀ i,i < 3→∀ a,a < 8→allX (X i) a=allX (X 0) a
 same:∀ i,i < 3→sameSt (X i) (X 0)=true
 size:sizeK (X 0) 8≤1048576
theorem view_eq {x y:STN} (h:relL x=relL y) (ha:∀ a,a < 8→allX x a=allX y a) (n:Int):viewK x n 8=viewK y n 8:=by
 have hi:∀ i,i < 8→viewI x n i=viewI y n i:=by
  intro i h8
  unfold viewI
  rw [h,ha i h8]
 have hk:∀ k,k≤8→viewK x n k=viewK y n k:=by
  intro k
  induction k with
  | zero=>intro _; rfl
  | succ k ih=>intro h8; rw [viewK_succ,viewK_succ,ih (by omega),hi k (by omega)]
 exact hk 8 (Nat.le_refl 8)
theorem size_eq {x y:STN} (ha:∀ a,a < 8→allX x a=allX y a):sizeK x 8=sizeK y 8:=by
 have hk:∀ k,k≤8→sizeK x k=sizeK y k:=by
  intro k
  induction k with
  | zero=>intro _; rfl
  | succ k ih=>intro h8; rw [sizeK_succ,sizeK_succ,ih (by omega),ha k (by omega)]
 exact hk 8 (Nat.le_refl 8)
theorem EqX.view {X:Nat→STN} (h:EqX X) {i:Nat} (hi:i < 3) (n:Int):viewK (X i) n 8=viewK (X 0) n 8:=view_eq (h.rel i hi) (h.all i hi) n
theorem EqX.siz {X:Nat→STN} (h:EqX X) {i:Nat} (hi:i < 3):sizeK (X i) 8=sizeK (X 0) 8:=size_eq (h.all i hi)
section
open Go.Sx
theorem gen_K {Γ:Nat→Con} {n0:Nat} {x:XC} {K:Kont} {S:St} (h:∀ (Γ':Nat→Con) (K':Kont),Γ'=Γ→K'=K→vcC Γ' n0 x K' S):vcC Γ n0 x K S:=h Γ K rfl rfl
def optK (o:Option (Prop × Rec)) (F:Prop→Rec→Prop):Prop:=match o with
 | some (p,t)=>F p t
 | none=>False
theorem optK_some (p:Prop) (t:Rec) (F:Prop→Rec→Prop):optK (some (p,t)) F=F p t:=rfl
theorem gen_F {o:Option (Prop × Rec)} {F:Prop→Rec→Prop} (h:∀ F',F'=F→optK o F'):optK o F:=h F rfl
theorem vcDgo_k {Γ:Nat→Con} {preds:List (List Nat)} {x:XOper} {l:List XOper} {c m:Nat} {S:St} {acc:List Foot} {K:St→Prop}
  (h:optK (recOf Γ c x S) (fun p t=>p∧vcDgo Γ preds l (c+t.al) m (pushR t S) (acc++[t.foot]) K)):vcDgo Γ preds (x :: l) c m S acc K:=by
 unfold vcDgo
 unfold optK at h
 cases e:recOf Γ c x S with
 | some z=>rw [e] at h; exact h
 | none=>rw [e] at h; exact h.elim
theorem vcDgo_e {Γ:Nat→Con} {preds:List (List Nat)} {c m:Nat} {S:St} {acc:List Foot} {K:St→Prop} (h1:c≤m) (h2:indep [] acc preds=true) (h3:K S):vcDgo Γ preds [] c m S acc K:=⟨h1,h2,h3⟩
theorem vcC_D {Γ:Nat→Con} {n0:Nat} {R:XC} {l:List XOper} {ps:List (List Nat)} {env:List (Nat × SV)} {ents:List (Nat × Ent)} {nx nx':Nat} {K:Kont} (hx:R = .regD l ps) (hn:nx+nRes l=nx')
  (h:vcDgo Γ ps l nx nx' ⟨env,ents,nx'⟩ [] (K .norm)):vcC Γ n0 R K ⟨env,ents,nx⟩:=by
 subst hx
 subst hn
 exact h
end
end Go.Proofs.YtgpbokembopapaaGreat
namespace Go.Proofs.YtgpbokembopapaaGreat
open Go.Sx Go.Way
theorem ord_F:OrdT cmpF where
 o:=ordI_lex (ordI_pr FR.q) (ordI_lex (ordI_pr FR.x) (ordI_lex (ordI_pr FR.y) ordI_0))
 eq:=fun p q h=>by
  have e:cmpF p q=if cmpI p.q q.q≠0 then cmpI p.q q.q else if cmpI p.x q.x≠0 then cmpI p.x q.x else if cmpI p.y q.y≠0 then cmpI p.y q.y else 0:=rfl
  rw [e] at h
  have key:∀ (a:Int) (b:Int),(if a≠0 then a else b)=0→a=0∧b=0:=by
   intro a b h
   by_cases q:a=0
   ·rw [if_neg (by simp [q])] at h; exact ⟨q,h⟩
   ·rw [if_pos q] at h; exact absurd h q
  obtain ⟨h1,h⟩:=key _ _ h
  obtain ⟨h2,h⟩:=key _ _ h
  obtain ⟨h3,_⟩:=key _ _ h
  rw [cmpI_zero] at h1 h2 h3
  exact FR_ext h1 h2 h3
def relP (M:RL→Prop) (a b:Nat) (f:FR):Prop:=∃ r,M r∧goodR r∧(loR r).toNat=a∧(hiR r).toNat=b∧frR r=f
theorem rOf_take {x:STN} {r:RL} (hr:goodR r) (a b:Nat):rOf (takeD x r) a b=if (loR r).toNat=a∧(hiR r).toNat=b then mxO cmpF (rOf x a b) (frR r) else rOf x a b:=by
 have hl:(loR r).toNat < 8∧(hiR r).toNat < 8:=by
  obtain ⟨h1,h2,_⟩:=hr
  unfold loR hiR
  split<;>omega
 by_cases g:putF (rOf x (loR r).toNat (hiR r).toNat) (frR r)=true
 ·rw [show takeD x r=setR x (loR r).toNat (hiR r).toNat (frR r) from if_pos g,rOf_set]
  by_cases hk:(loR r).toNat=a∧(hiR r).toNat=b
  ·obtain ⟨rfl,rfl⟩:=hk
   rw [if_pos (show ((loR r).toNat=(loR r).toNat∧(hiR r).toNat=(hiR r).toNat)∧_ from ⟨⟨rfl,rfl⟩,hl⟩),if_pos (show (loR r).toNat=(loR r).toNat∧(hiR r).toNat=(hiR r).toNat from ⟨rfl,rfl⟩)]
   cases ho:rOf x (loR r).toNat (hiR r).toNat with
   | none=>rfl
   | some p=>rw [ho] at g; exact (if_pos (of_decide_eq_true g)).symm
  ·rw [if_neg (fun q=>hk ⟨q.1.1.symm,q.1.2.symm⟩),if_neg hk]
 ·rw [show takeD x r=x from if_neg g]
  by_cases hk:(loR r).toNat=a∧(hiR r).toNat=b
  ·obtain ⟨rfl,rfl⟩:=hk
   rw [if_pos (show (loR r).toNat=(loR r).toNat∧(hiR r).toNat=(hiR r).toNat from ⟨rfl,rfl⟩)]
   cases ho:rOf x (loR r).toNat (hiR r).toNat with
   | none=>rw [ho] at g; exact absurd rfl g
   | some p=>rw [ho] at g; exact (if_neg (fun w=>g (decide_eq_true w))).symm
  ·rw [if_neg hk]
theorem top_take {x:STN} {r:RL} {M:RL→Prop} {a b:Nat} (hr:goodR r) (h:topP cmpF (relP M a b) (rOf x a b)):topP cmpF (relP (fun q=>M q∨q=r) a b) (rOf (takeD x r) a b):=by
 rw [rOf_take hr]
 by_cases hk:(loR r).toNat=a∧(hiR r).toNat=b
 ·rw [if_pos hk]
  refine topP_congr (fun f=>⟨?_,?_⟩) (topP_step ord_F (frR r) h)
  ·rintro (⟨q,h1,h2⟩ | rfl)
   ·exact ⟨q,.inl h1,h2⟩
   ·exact ⟨r,.inr rfl,hr,hk.1,hk.2,rfl⟩
  ·rintro ⟨q,h1 | rfl,h2⟩
   ·exact .inl ⟨q,h1,h2⟩
   ·exact .inr h2.2.2.2.symm
 ·rw [if_neg hk]
  refine topP_congr (fun f=>⟨?_,?_⟩) h
  ·rintro ⟨q,h1,h2⟩; exact ⟨q,.inl h1,h2⟩
  ·rintro ⟨q,h1 | rfl,h2⟩
   ·exact ⟨q,h1,h2⟩
   ·exact absurd ⟨h2.2.1,h2.2.2.1⟩ hk
theorem top_fold {a b:Nat} {L:List RL}:∀ {x:STN} {M:RL→Prop},(∀ r∈L,goodR r)→topP cmpF (relP M a b) (rOf x a b)→topP cmpF (relP (fun q=>M q∨q∈L) a b) (rOf (L.foldl takeD x) a b):=by
 induction L with
 | nil=>exact fun _ h=>topP_congr (fun f=>⟨fun ⟨q,h1,h2⟩=>⟨q,.inl h1,h2⟩,fun ⟨q,h1,h2⟩=>⟨q,h1.elim id (fun w=>by cases w),h2⟩⟩) h
 | cons r L ih=>
  intro x M hl h
  refine topP_congr (fun f=>⟨?_,?_⟩) (ih (fun q hq=>hl q (List.mem_cons_of_mem _ hq)) (top_take (hl r (List.mem_cons_self ..)) h))
  ·rintro ⟨q,(h1 | rfl) | h1,h2⟩
   ·exact ⟨q,.inl h1,h2⟩
   ·exact ⟨q,.inr (List.mem_cons_self ..),h2⟩
   ·exact ⟨q,.inr (List.mem_cons_of_mem _ h1),h2⟩
  ·rintro ⟨q,h1 | h1,h2⟩
   ·exact ⟨q,.inl (.inl h1),h2⟩
   ·rcases List.mem_cons.1 h1 with rfl | h1
    ·exact ⟨q,.inl (.inr rfl),h2⟩
    ·exact ⟨q,.inr h1,h2⟩
theorem relL_in {x:STN} {a b:Nat} {f:FR} (ha:a < 8) (hb:b < 8) (h:rOf x a b=some f):(⟨a,b,f.q,f.x,f.y⟩:RL)∈relL x:=by
 unfold relL relTo relRow
 rw [List.mem_flatMap]
 refine ⟨a,List.mem_range.2 ha,?_⟩
 rw [List.mem_filterMap]
 exact ⟨b,List.mem_range.2 hb,by rw [h]; rfl⟩
theorem rOf_lt {x:STN} {a b:Nat} {f:FR} (h:rOf x a b=some f):a < 8∧b < 8:=by
 unfold rOf at h
 split at h
 ·assumption
 ·cases h
theorem norm_rel {x:STN} (hx:okRel x) {a b:Nat} {f:FR} (h:rOf x a b=some f):(loR ⟨a,b,f.q,f.x,f.y⟩).toNat=a∧(hiR ⟨a,b,f.q,f.x,f.y⟩).toNat=b∧frR ⟨a,b,f.q,f.x,f.y⟩=f:=by
 obtain ⟨h1,h2,_⟩:=hx a b f h
 have hn:¬ ((b:Int) < (a:Int)):=by omega
 unfold loR hiR frR
 simp only [if_neg hn,Int.toNat_natCast,true_and]
 unfold nmF rlF
 have:f.q % 4=f.q:=by omega
 simp only [this]
theorem top_hear {x y:STN} {M M':RL→Prop} {a b:Nat} (hy:okSt y) (h:topP cmpF (relP M a b) (rOf x a b)) (h':topP cmpF (relP M' a b) (rOf y a b)):topP cmpF (relP (fun q=>M q∨M' q) a b) (rOf (hearD x y) a b):=by
 have hf:=top_fold (L:=relL y) (x:=hearK x y 8) (fun r hr=>relL_good hy.2.2.2 hr) (show topP cmpF (relP M a b) (rOf (hearK x y 8) a b) from h)
 have e:rOf (hearD x y) a b=mxJ cmpF (rOf x a b) (rOf y a b):=by
  cases hb:rOf y a b with
  | none=>
   show rOf (hearD x y) a b=rOf x a b
   refine topP_uniq ord_F (fun f=>⟨?_,fun ⟨q,h1,h2⟩=>⟨q,.inl h1,h2⟩⟩) hf h
   rintro ⟨q,h1 | h1,h2⟩
   ·exact ⟨q,h1,h2⟩
   ·obtain ⟨a',b',f',ha,hb',hq,rfl⟩:=relL_mem h1
    obtain ⟨n1,n2,n3⟩:=norm_rel hy.2.2.2 hq
    obtain ⟨_,g1,g2,g3⟩:=h2
    rw [n1] at g1; rw [n2] at g2
    subst g1; subst g2
    rw [hb] at hq; cases hq
  | some m=>
   show rOf (hearD x y) a b=mxO cmpF (rOf x a b) m
   refine topP_uniq ord_F (fun f=>⟨?_,?_⟩) hf (topP_step ord_F m h)
   ·rintro ⟨q,h1 | h1,h2⟩
    ·exact .inl ⟨q,h1,h2⟩
    ·obtain ⟨a',b',f',ha,hb',hq,rfl⟩:=relL_mem h1
     obtain ⟨n1,n2,n3⟩:=norm_rel hy.2.2.2 hq
     obtain ⟨_,g1,g2,g3⟩:=h2
     rw [n1] at g1; rw [n2] at g2
     subst g1; subst g2
     rw [hb] at hq; cases hq
     exact .inr (g3.symm.trans n3)
   ·rintro (⟨q,h1,h2⟩ | rfl)
    ·exact ⟨q,.inl h1,h2⟩
    ·obtain ⟨l1,l2⟩:=rOf_lt hb
     have hin:=relL_in l1 l2 hb
     exact ⟨_,.inr hin,relL_good hy.2.2.2 hin,norm_rel hy.2.2.2 hb⟩
 rw [e]
 refine topP_congr (fun f=>⟨?_,?_⟩) (top_join ord_F h h')
 ·rintro (⟨q,h1,h2⟩ | ⟨q,h1,h2⟩)
  ·exact ⟨q,.inl h1,h2⟩
  ·exact ⟨q,.inr h1,h2⟩
 ·rintro ⟨q,h1 | h1,h2⟩
  ·exact .inl ⟨q,h1,h2⟩
  ·exact .inr ⟨q,h1,h2⟩
theorem relL_eq {x y:STN} (h:∀ a b,rOf x a b=rOf y a b):relL x=relL y:=by
 unfold relL relTo relRow
 simp only [h]
theorem Atl.sh {S S':List SE} {Q:List QE} {N:NT→Prop} (h:Atl S Q N) (e:shS S=shS S'):Atl S' Q N :=
 ⟨okH_S.2 (by rw [← e]; exact okH_S.1 h.oS),h.oQ,fun id=>by rw [← e]; exact h.s id,h.p⟩
def upN {α:Type} (f:Nat→α) (i:Nat) (v:α):Nat→α:=fun j=>if j=i then v else f j
structure KN (X:Nat→STN) (N:Nat→Nat→NT→Prop) (M:Nat→RL→Prop):Prop where
 ok:ok3 X
 a:∀ i,i < 3→∀ r,r < 8→Atl (shv (hOf (X i) r)) (qOf (X i) r) (N i r)
 r:∀ i,i < 3→∀ a b,topP cmpF (relP (M i) a b) (rOf (X i) a b)
theorem KN.congr {X:Nat→STN} {N N':Nat→Nat→NT→Prop} {M M':Nat→RL→Prop} (h:KN X N M) (hN:∀ i,i < 3→∀ r n,N i r n ↔ N' i r n) (hM:∀ i,i < 3→∀ q,M i q ↔ M' i q):KN X N' M' :=
 ⟨h.ok,fun i hi r hr=>(h.a i hi r hr).congr (hN i hi r),fun i hi a b=>topP_congr (fun f=>⟨fun ⟨q,w,v⟩=>⟨q,(hM i hi q).1 w,v⟩,fun ⟨q,w,v⟩=>⟨q,(hM i hi q).2 w,v⟩⟩) (h.r i hi a b)⟩
theorem KN.up {X:Nat→STN} {N:Nat→Nat→NT→Prop} {M:Nat→RL→Prop} (h:KN X N M) {i:Nat} (hi:i < 3) {x:STN} {Ni:Nat→NT→Prop} {Mi:RL→Prop} (hx:okSt x) (hm:x.me=(X i).me)
  (ha:∀ r,r < 8→Atl (shv (hOf x r)) (qOf x r) (Ni r)) (hr:∀ a b,topP cmpF (relP Mi a b) (rOf x a b)):KN (upX X i x) (upN N i Ni) (upN M i Mi):=by
 refine ⟨ok3_up h.ok hi hx hm,fun j hj r h8=>?_,fun j hj a b=>?_⟩
 ·unfold upX upN
  by_cases e:j=i
  ·rw [if_pos e,if_pos e]; exact ha r h8
  ·rw [if_neg e,if_neg e]; exact h.a j hj r h8
 ·unfold upX upN
  by_cases e:j=i
  ·rw [if_pos e,if_pos e]; exact hr a b
  ·rw [if_neg e,if_neg e]; exact h.r j hj a b
theorem KN.hear {X:Nat→STN} {N:Nat→Nat→NT→Prop} {M:Nat→RL→Prop} (h:KN X N M) {a b:Nat} (ha:a < 3) (hb:b < 3) :
  KN (hearP X a b) (upN N a (fun r n=>N a r n∨N b r n)) (upN M a (fun q=>M a q∨M b q)):=by
 have oa:=(h.ok a ha).1
 have ob:=(h.ok b hb).1
 refine h.up ha (okSt_hear oa ob) (hear_me _ _) (fun r hr=>?_) (fun p q=>top_hear ob (h.r a ha p q) (h.r b hb p q))
 rw [hear_H _ _ hr,hear_Q _ _ hr]
 exact (h.a a ha r hr).join (h.a b hb r hr) (by rw [shv_sh,shv_sh]; rfl)
def Src (P:NT→Prop) (N:Nat→Nat→NT→Prop):Prop:=∀ i r n,N i r n→P n
theorem KN.note {X:Nat→STN} {N:Nat→Nat→NT→Prop} {M:Nat→RL→Prop} (h:KN X N M) {i:Nat} (hi:i < 3) (n:NT) {T:SH} {L:List QE} (a:Nat) (ha:a < 8)
  (hT:T=shS (tellS (shv (hOf (X i) a)) n (.bool false))) (hL:L=tellQ (qOf (X i) a) n) :
  KN (upX X i (updA (X i) a T L)) (upN N i (fun r m=>N i r m∨(r=a∧m=n))) (upN M i (M i)):=by
 have o:=(h.ok i hi).1
 have ht:=(h.a i hi a ha).tell n (.bool false)
 have okT:okH T:=by rw [hT]; exact okH_S.1 ht.oS
 have okL:okQ L:=by rw [hL]; exact ht.oQ
 refine h.up hi (okSt_upd o okT okL) rfl (fun r hr=>?_) (h.r i hi)
 rw [hOf_upd,qOf_upd]
 by_cases e:r=a
 ·rw [if_pos ⟨e,hr⟩,if_pos ⟨e,hr⟩]
  subst e
  rw [hL]
  refine (ht.sh ?_).congr fun m=>⟨fun w=>w.elim .inl (fun w=>.inr ⟨rfl,w⟩),fun w=>w.elim .inl (fun w=>.inr w.2)⟩
  rw [hT,shv_sh]
 ·rw [if_neg (fun w=>e w.1),if_neg (fun w=>e w.1)]
  exact (h.a i hi r hr).congr fun m=>⟨.inl,fun w=>w.elim id (fun w=>absurd w.1 e)⟩
theorem KN.rel {X:Nat→STN} {N:Nat→Nat→NT→Prop} {M:Nat→RL→Prop} (h:KN X N M) {i:Nat} (hi:i < 3) (q:RL):∃ M',KN (upX X i (relD (X i) q)) N M':=by
 have o:=(h.ok i hi).1
 unfold relD
 have hN:∀ j,j < 3→∀ r n,upN N i (N i) j r n ↔ N j r n:=fun j _ r n=>by
  unfold upN
  by_cases e:j=i
  ·rw [if_pos e,e]
  ·rw [if_neg e]
 split
 ·rename_i g
  have hg:=good_iff.1 g
  obtain ⟨e0,e1,e2⟩:=take_H (X i) q
  refine ⟨_,(h.up hi (okSt_take o hg) e0 (Ni:=N i) (fun r hr=>?_) (fun a b=>top_take hg (h.r i hi a b))).congr hN (fun _ _ _=>Iff.rfl)⟩
  have:=h.a i hi r hr
  unfold hOf qOf at *
  rw [e1,e2]; exact this
 ·exact ⟨_,(h.up hi o rfl (h.a i hi) (h.r i hi)).congr hN (fun _ _ _=>Iff.rfl)⟩
theorem KN.talk {X:Nat→STN} {N:Nat→Nat→NT→Prop} {M:Nat→RL→Prop} {P:NT→Prop} (h:KN X N M) (hs:Src P N) (t:TK) (ht:P t.n):∃ N' M',KN (talkX X t) N' M'∧Src P N':=by
 have hi:=whoK_lt t.who
 have hj:=whoK_lt t.oth
 have hme:=(h.ok _ hi).2
 have hm8:(X (whoK t.who)).me.toNat < 8:=by rw [hme]; omega
 have hsn:∀ a,Src P (upN N (whoK t.who) (fun r m=>N (whoK t.who) r m∨(r=a∧m=t.n))):=by
  intro a i r n w
  unfold upN at w
  split at w
  ·rcases w with w | ⟨_,rfl⟩
   ·exact hs _ _ _ w
   ·exact ht
  ·exact hs _ _ _ w
 unfold talkX
 split
 ·obtain ⟨M',h'⟩:=h.rel hi t.r
  exact ⟨_,_,h',hs⟩
 ·split
  ·split
   ·exact ⟨_,_,h,hs⟩
   ·refine ⟨_,_,h.hear hi hj,fun i r n w=>?_⟩
    unfold upN at w
    split at w
    ·exact w.elim (hs _ _ _) (hs _ _ _)
    ·exact hs _ _ _ w
  ·split
   ·rename_i hp
    refine ⟨_,_,h.note hi t.n _ hm8 ?_ ?_,hsn _⟩
    ·unfold tellS; rw [if_pos hp,putH_S,shv_sh]
    ·unfold tellQ; rw [if_pos hp]
   ·rename_i hp
    refine ⟨_,_,h.note hi t.n _ hm8 ?_ ?_,hsn _⟩
    ·unfold tellS; rw [if_neg hp,shv_sh]
    ·unfold tellQ; rw [if_neg hp]
theorem KN.fold {P:NT→Prop}:∀ (L:List TK) {X:Nat→STN} {N:Nat→Nat→NT→Prop} {M:Nat→RL→Prop},KN X N M→Src P N→(∀ t∈L,P t.n)→∃ N' M',KN (L.foldl talkX X) N' M'∧Src P N'
 | [],_,_,_,h,hs,_=>⟨_,_,h,hs⟩
 | t :: L,_,_,_,h,hs,hP=>by
  obtain ⟨N',M',h',hs'⟩:=h.talk hs t (hP t (List.mem_cons_self ..))
  exact KN.fold L h' hs' fun q hq=>hP q (List.mem_cons_of_mem _ hq)
theorem KN.start:KN (fun i:Nat=>newX (i:Int)) (fun _ _ _=>False) (fun _ _=>False):=by
 refine ⟨ok3_0,fun i hi r hr=>?_,fun i hi a b=>?_⟩
 ·show Atl (shv (hOf (newX i) r)) (qOf (newX i) r) _
  rw [hOf_new,qOf_new]; exact atl_nil
 ·show topP cmpF _ (rOf (newX i) a b)
  rw [rOf_new]
  rintro s ⟨q,h,_⟩
  exact h
theorem KN.round {X:Nat→STN} {N:Nat→Nat→NT→Prop} {M:Nat→RL→Prop} (h:KN X N M) {k:Nat} (hk:k < 3) :
  KN (roundX k X 3) (fun _ r n=>N 0 r n∨N 1 r n∨N 2 r n) (fun _ q=>M 0 q∨M 1 q∨M 2 q):=by
 have d:∀ i,i < 3→i=0∨i=1∨i=2:=fun i hi=>by omega
 rcases d k hk with rfl | rfl | rfl
 ·refine ((((((h.hear (a:=0) (b:=1) (by decide) (by decide)).hear (a:=0) (b:=2) (by decide) (by decide)).hear (a:=1) (b:=2) (by decide) (by decide)).hear (a:=1) (b:=0) (by decide) (by decide)).hear (a:=2) (b:=0) (by decide) (by decide)).hear (a:=2) (b:=1) (by decide) (by decide)).congr ?_ ?_
  ·intro i hi r n
   rcases d i hi with rfl | rfl | rfl<;>simp [upN]<;>grind
  ·intro i hi q
   rcases d i hi with rfl | rfl | rfl<;>simp [upN]<;>grind
 ·refine ((((((h.hear (a:=1) (b:=2) (by decide) (by decide)).hear (a:=1) (b:=0) (by decide) (by decide)).hear (a:=2) (b:=0) (by decide) (by decide)).hear (a:=2) (b:=1) (by decide) (by decide)).hear (a:=0) (b:=1) (by decide) (by decide)).hear (a:=0) (b:=2) (by decide) (by decide)).congr ?_ ?_
  ·intro i hi r n
   rcases d i hi with rfl | rfl | rfl<;>simp [upN]<;>grind
  ·intro i hi q
   rcases d i hi with rfl | rfl | rfl<;>simp [upN]<;>grind
 ·refine ((((((h.hear (a:=2) (b:=0) (by decide) (by decide)).hear (a:=2) (b:=1) (by decide) (by decide)).hear (a:=0) (b:=1) (by decide) (by decide)).hear (a:=0) (b:=2) (by decide) (by decide)).hear (a:=1) (b:=2) (by decide) (by decide)).hear (a:=1) (b:=0) (by decide) (by decide)).congr ?_ ?_
  ·intro i hi r n
   rcases d i hi with rfl | rfl | rfl<;>simp [upN]<;>grind
  ·intro i hi q
   rcases d i hi with rfl | rfl | rfl<;>simp [upN]<;>grind
theorem Atl.few2 {S:List SE} {Q:List QE} {N:NT→Prop} (h:Atl S Q N) (hN:∀ n,N n→n.s.length≤2) (id:Int):(scO S id).length≤2:=by
 have hs:=h.s id
 rw [lkS_G] at hs
 unfold scO
 cases hf:lkS S id with
 | none=>simp
 | some s=>
  rw [hf] at hs
  obtain ⟨⟨n,a,_,_,e,_⟩,_⟩:=hs
  have:=hN n a
  rw [e] at this
  exact this
theorem Atl.part2 {S:List SE} {Q:List QE} {N:NT→Prop} (h:Atl S Q N) (hN:∀ n,N n→n.s.length≤2) (id:Int):(partC S Q id).length≤9800:=by
 unfold partC
 split
 ·rename_i hc
  have hl:=ofC_len (plO Q id).x (plO Q id).y (plO Q id).h (S:=scO S id) (fun b hb=>((scn_get (scO_ok h.oS hc.1)).2 b hb).2)
  have:=h.few2 hN id
  omega
 ·simp
theorem Atl.ids {S:List SE} {Q:List QE} {N:NT→Prop} (h:Atl S Q N) {id:Int} (hi:id∈idsL S Q 64):∃ n,N n∧n.id=id:=by
 unfold idsL at hi
 obtain ⟨i,hm,rfl⟩:=List.mem_map.1 hi
 have hf:=(List.mem_filter.1 hm).2
 rw [Bool.or_eq_true] at hf
 rcases hf with hf | hf
 ·have hs:=h.s (i:Int)
  rw [lkS_G] at hs
  cases e:lkS S (i:Int) with
  | none=>rw [e] at hf; cases hf
  | some s=>
   rw [e] at hs
   obtain ⟨⟨n,a,_,b,_⟩,_⟩:=hs
   exact ⟨n,a,b⟩
 ·have hs:=h.p (i:Int)
  rw [lkP_G] at hs
  cases e:lkP Q (i:Int) with
  | none=>rw [e] at hf; cases hf
  | some s=>
   rw [e] at hs
   obtain ⟨⟨n,a,_,b,_⟩,_⟩:=hs
   exact ⟨n,a,b⟩
theorem Atl.all2 {S:List SE} {Q:List QE} {N:NT→Prop} (h:Atl S Q N) (hN:∀ n,N n→n.s.length≤2) {I:List Int} (hI:∀ n,N n→n.id∈I) (hl:I.length≤10):(allC S Q).length≤98000:=by
 have h1:=flat_bd (fun i=>h.part2 hN i) (idsL S Q 64)
 have h2:=nodupI_le (ids_nodup S Q 64) (l2:=I) fun a ha=>by
  obtain ⟨n,w,rfl⟩:=h.ids ha
  exact hI n w
 have:9800 * (idsL S Q 64).length≤9800 * 10:=Nat.mul_le_mul_left _ (by omega)
 unfold allC
 omega
theorem size_le {x:STN} {b:Nat} (h:∀ a,a < 8→(allX x a).length≤b):∀ k,k≤8→sizeK x k≤b * k
 | 0,_=>by simp [sizeK]
 | k+1,hk=>by
  have h1:=size_le h k (by omega)
  have h2:=h k (by omega)
  rw [sizeK_succ,Nat.mul_succ]; omega
theorem KN.eqX {X:Nat→STN} {N:Nat→NT→Prop} {M:RL→Prop} (h:KN X (fun _=>N) (fun _=>M)) {L:List TK} (hL:L.length≤10) (hs:∀ t∈L,t.n.s.length≤2) (hP:∀ r n,N r n→∃ t∈L,t.n=n):EqX X:=by
 have hrel:∀ i,i < 3→relL (X i)=relL (X 0):=fun i hi=>relL_eq fun a b=>topP_uniq ord_F (fun _=>Iff.rfl) (h.r i hi a b) (h.r 0 (by decide) a b)
 have hcl:∀ i,i < 3→∀ r,r < 8→Atl (shv (cloS (hOf (X i) r) (qOf (X i) r))) (cloP (hOf (X i) r) (qOf (X i) r)) (fun n=>False∨N r n):=fun i hi r hr=>atl_nil.join (h.a i hi r hr) (by rw [shv_sh]; rfl)
 refine ⟨h.ok,hrel,fun i hi a ha=>((h.a i hi a ha).same (h.a 0 (by decide) a ha) fun _=>Iff.rfl).2,fun i hi=>sameSt_yes (hrel i hi) fun a ha=>((hcl i hi a ha).same (hcl 0 (by decide) a ha) fun _=>Iff.rfl).1,?_⟩
 have:=size_le (x:=X 0) (b:=98000) (fun a ha=>(h.a 0 (by decide) a ha).all2 (fun n w=>?_) (I:=L.map fun t=>t.n.id) (fun n w=>?_) (by rw [List.length_map]; exact hL)) 8 (Nat.le_refl 8)
 ·omega
 ·obtain ⟨t,ht,rfl⟩:=hP _ _ w; exact hs t ht
 ·obtain ⟨t,ht,rfl⟩:=hP _ _ w; exact List.mem_map.2 ⟨t,ht,rfl⟩
theorem told_get {L:List TK} (h:toldB L=true):L.length≤10∧∀ t∈L,t.n.s.length≤2:=by
 unfold toldB at h
 rw [Bool.and_eq_true,decide_eq_true_eq,List.all_eq_true] at h
 exact ⟨h.1,fun t ht=>of_decide_eq_true (h.2 t ht)⟩
theorem fin_eq {L:List TK} {k:Nat} (hL:toldB L=true) (hk:k < 3):EqX (roundsX k (XK L L.length) 2):=by
 obtain ⟨h1,h2⟩:=told_get hL
 obtain ⟨N,M,h,hs⟩:=KN.fold (P:=fun n=>∃ t∈L,t.n=n) L KN.start (fun _ _ _ w=>w.elim) (fun t ht=>⟨t,ht,rfl⟩)
 have e:XK L L.length=L.foldl talkX (fun i:Nat=>newX (i:Int)):=by unfold XK; rw [List.take_length]
 rw [e]
 have hr:=(h.round hk).round hk
 exact KN.eqX hr h1 h2 fun r n w=>by
  rcases w with (w | w | w) | (w | w | w) | (w | w | w)<;>exact hs _ _ _ w
theorem mul_q (f g:FR):(mulF f g).q=(f.q % 4+g.q % 4) % 4:=rfl
theorem mul_cases (f g:FR):(f.q % 4=0∧(mulF f g).x=g.x+f.x∧(mulF f g).y=g.y+f.y)∨(f.q % 4=1∧(mulF f g).x=-g.y+f.x∧(mulF f g).y=g.x+f.y)∨(f.q % 4=2∧(mulF f g).x=-g.x+f.x∧(mulF f g).y=-g.y+f.y)∨(f.q % 4=3∧(mulF f g).x=g.y+f.x∧(mulF f g).y=-g.x+f.y):=by
 have h:f.q % 4=0∨f.q % 4=1∨f.q % 4=2∨f.q % 4=3:=by omega
 unfold mulF
 rcases h with h | h | h | h
 ·refine .inl ⟨h,?_,?_⟩<;>simp only [h,trn0]
 ·refine .inr (.inl ⟨h,?_,?_⟩)<;>simp only [h,trn1]
 ·refine .inr (.inr (.inl ⟨h,?_,?_⟩))<;>simp only [h,trn2]
 ·refine .inr (.inr (.inr ⟨h,?_,?_⟩))<;>simp only [h,trn3]<;>omega
theorem inv_q (f:FR):(invF f).q=(-f.q) % 4:=rfl
theorem inv_cases (f:FR):(f.q % 4=0∧(invF f).x=-f.x∧(invF f).y=-f.y)∨(f.q % 4=3∧(invF f).x=f.y∧(invF f).y=-f.x)∨(f.q % 4=2∧(invF f).x=f.x∧(invF f).y=f.y)∨(f.q % 4=1∧(invF f).x=-f.y∧(invF f).y=f.x):=by
 have h:f.q % 4=0∨f.q % 4=3∨f.q % 4=2∨f.q % 4=1:=by omega
 unfold invF
 rcases h with h | h | h | h
 ·have h2:(-f.q) % 4=0:=by omega
  refine .inl ⟨h,?_,?_⟩<;>simp only [h2,trn0]
 ·have h2:(-f.q) % 4=1:=by omega
  refine .inr (.inl ⟨h,?_,?_⟩)<;>simp only [h2,trn1]<;>omega
 ·have h2:(-f.q) % 4=2:=by omega
  refine .inr (.inr (.inl ⟨h,?_,?_⟩))<;>simp only [h2,trn2]<;>omega
 ·have h2:(-f.q) % 4=3:=by omega
  refine .inr (.inr (.inr ⟨h,?_,?_⟩))<;>simp only [h2,trn3]<;>omega
theorem mul_0 {f g:FR} (h:f.q % 4=0):(mulF f g).x=g.x+f.x∧(mulF f g).y=g.y+f.y:=by
 have c:=mul_cases f g
 omega
theorem mul_1 {f g:FR} (h:f.q % 4=1):(mulF f g).x=-g.y+f.x∧(mulF f g).y=g.x+f.y:=by
 have c:=mul_cases f g
 omega
theorem mul_2 {f g:FR} (h:f.q % 4=2):(mulF f g).x=-g.x+f.x∧(mulF f g).y=-g.y+f.y:=by
 have c:=mul_cases f g
 omega
theorem mul_3 {f g:FR} (h:f.q % 4=3):(mulF f g).x=g.y+f.x∧(mulF f g).y=-g.x+f.y:=by
 have c:=mul_cases f g
 omega
set_option maxHeartbeats 4000000 in
theorem mul_assoc' (f g h:FR):mulF (mulF f g) h=mulF f (mulF g h):=by
 have q1:=mul_q f g
 have q2:=mul_q g h
 have q3:=mul_q (mulF f g) h
 have q4:=mul_q f (mulF g h)
 have hq:(mulF (mulF f g) h).q=(mulF f (mulF g h)).q:=by omega
 clear q2 q3 q4
 rcases (by omega:f.q % 4=0∨f.q % 4=1∨f.q % 4=2∨f.q % 4=3) with a | a | a | a<;>rcases (by omega:g.q % 4=0∨g.q % 4=1∨g.q % 4=2∨g.q % 4=3) with b | b | b | b
 ·have x1:=mul_0 (g:=g) a
  have x2:=mul_0 (g:=h) b
  have x3:=mul_0 (f:=mulF f g) (g:=h) (by omega)
  have x4:=mul_0 (g:=mulF g h) a
  clear q1 a b
  exact FR_ext hq (by omega) (by omega)
 ·have x1:=mul_0 (g:=g) a
  have x2:=mul_1 (g:=h) b
  have x3:=mul_1 (f:=mulF f g) (g:=h) (by omega)
  have x4:=mul_0 (g:=mulF g h) a
  clear q1 a b
  exact FR_ext hq (by omega) (by omega)
 ·have x1:=mul_0 (g:=g) a
  have x2:=mul_2 (g:=h) b
  have x3:=mul_2 (f:=mulF f g) (g:=h) (by omega)
  have x4:=mul_0 (g:=mulF g h) a
  clear q1 a b
  exact FR_ext hq (by omega) (by omega)
 ·have x1:=mul_0 (g:=g) a
  have x2:=mul_3 (g:=h) b
  have x3:=mul_3 (f:=mulF f g) (g:=h) (by omega)
  have x4:=mul_0 (g:=mulF g h) a
  clear q1 a b
  exact FR_ext hq (by omega) (by omega)
 ·have x1:=mul_1 (g:=g) a
  have x2:=mul_0 (g:=h) b
  have x3:=mul_1 (f:=mulF f g) (g:=h) (by omega)
  have x4:=mul_1 (g:=mulF g h) a
  clear q1 a b
  exact FR_ext hq (by omega) (by omega)
 ·have x1:=mul_1 (g:=g) a
  have x2:=mul_1 (g:=h) b
  have x3:=mul_2 (f:=mulF f g) (g:=h) (by omega)
  have x4:=mul_1 (g:=mulF g h) a
  clear q1 a b
  exact FR_ext hq (by omega) (by omega)
 ·have x1:=mul_1 (g:=g) a
  have x2:=mul_2 (g:=h) b
  have x3:=mul_3 (f:=mulF f g) (g:=h) (by omega)
  have x4:=mul_1 (g:=mulF g h) a
  clear q1 a b
  exact FR_ext hq (by omega) (by omega)
 ·have x1:=mul_1 (g:=g) a
  have x2:=mul_3 (g:=h) b
  have x3:=mul_0 (f:=mulF f g) (g:=h) (by omega)
  have x4:=mul_1 (g:=mulF g h) a
  clear q1 a b
  exact FR_ext hq (by omega) (by omega)
 ·have x1:=mul_2 (g:=g) a
  have x2:=mul_0 (g:=h) b
  have x3:=mul_2 (f:=mulF f g) (g:=h) (by omega)
  have x4:=mul_2 (g:=mulF g h) a
  clear q1 a b
  exact FR_ext hq (by omega) (by omega)
 ·have x1:=mul_2 (g:=g) a
  have x2:=mul_1 (g:=h) b
  have x3:=mul_3 (f:=mulF f g) (g:=h) (by omega)
  have x4:=mul_2 (g:=mulF g h) a
  clear q1 a b
  exact FR_ext hq (by omega) (by omega)
 ·have x1:=mul_2 (g:=g) a
  have x2:=mul_2 (g:=h) b
  have x3:=mul_0 (f:=mulF f g) (g:=h) (by omega)
  have x4:=mul_2 (g:=mulF g h) a
  clear q1 a b
  exact FR_ext hq (by omega) (by omega)
 ·have x1:=mul_2 (g:=g) a
  have x2:=mul_3 (g:=h) b
  have x3:=mul_1 (f:=mulF f g) (g:=h) (by omega)
  have x4:=mul_2 (g:=mulF g h) a
  clear q1 a b
  exact FR_ext hq (by omega) (by omega)
 ·have x1:=mul_3 (g:=g) a
  have x2:=mul_0 (g:=h) b
  have x3:=mul_3 (f:=mulF f g) (g:=h) (by omega)
  have x4:=mul_3 (g:=mulF g h) a
  clear q1 a b
  exact FR_ext hq (by omega) (by omega)
 ·have x1:=mul_3 (g:=g) a
  have x2:=mul_1 (g:=h) b
  have x3:=mul_0 (f:=mulF f g) (g:=h) (by omega)
  have x4:=mul_3 (g:=mulF g h) a
  clear q1 a b
  exact FR_ext hq (by omega) (by omega)
 ·have x1:=mul_3 (g:=g) a
  have x2:=mul_2 (g:=h) b
  have x3:=mul_1 (f:=mulF f g) (g:=h) (by omega)
  have x4:=mul_3 (g:=mulF g h) a
  clear q1 a b
  exact FR_ext hq (by omega) (by omega)
 ·have x1:=mul_3 (g:=g) a
  have x2:=mul_3 (g:=h) b
  have x3:=mul_2 (f:=mulF f g) (g:=h) (by omega)
  have x4:=mul_3 (g:=mulF g h) a
  clear q1 a b
  exact FR_ext hq (by omega) (by omega)
def okq (f:FR):Prop:=0≤f.q∧f.q < 4
theorem okq_mul (f g:FR):okq (mulF f g):=by unfold okq; rw [mul_q]; omega
theorem mul_id {f:FR} (h:okq f):mulF f idF=f:=by
 unfold okq at h
 have q:=mul_q f idF
 have i1:idF.q=0:=rfl
 have i2:idF.x=0:=rfl
 have i3:idF.y=0:=rfl
 have c:=mul_cases f idF
 refine FR_ext (by rw [q,i1]; omega) ?_ ?_<;>rw [i2,i3] at c<;>omega
theorem id_mul {f:FR} (h:okq f):mulF idF f=f:=by
 unfold okq at h
 have q:=mul_q idF f
 have i1:idF.q=0:=rfl
 have i2:idF.x=0:=rfl
 have i3:idF.y=0:=rfl
 have c:=mul_cases idF f
 refine FR_ext (by rw [q,i1]; omega) ?_ ?_<;>rw [i1,i2,i3] at c<;>omega
theorem inv_0 {f:FR} (h:f.q % 4=0):(invF f).x=-f.x∧(invF f).y=-f.y:=by
 have c:=inv_cases f
 omega
theorem inv_1 {f:FR} (h:f.q % 4=1):(invF f).x=-f.y∧(invF f).y=f.x:=by
 have c:=inv_cases f
 omega
theorem inv_2 {f:FR} (h:f.q % 4=2):(invF f).x=f.x∧(invF f).y=f.y:=by
 have c:=inv_cases f
 omega
theorem inv_3 {f:FR} (h:f.q % 4=3):(invF f).x=f.y∧(invF f).y=-f.x:=by
 have c:=inv_cases f
 omega
theorem mul_inv (f:FR):mulF f (invF f)=idF:=by
 have q:=mul_q f (invF f)
 have q2:=inv_q f
 have i1:idF.q=0:=rfl
 have i2:idF.x=0:=rfl
 have i3:idF.y=0:=rfl
 rcases (by omega:f.q % 4=0∨f.q % 4=1∨f.q % 4=2∨f.q % 4=3) with a | a | a | a
 ·have x1:=inv_0 a
  have x2:=mul_0 (g:=invF f) a
  exact FR_ext (by omega) (by omega) (by omega)
 ·have x1:=inv_1 a
  have x2:=mul_1 (g:=invF f) a
  exact FR_ext (by omega) (by omega) (by omega)
 ·have x1:=inv_2 a
  have x2:=mul_2 (g:=invF f) a
  exact FR_ext (by omega) (by omega) (by omega)
 ·have x1:=inv_3 a
  have x2:=mul_3 (g:=invF f) a
  exact FR_ext (by omega) (by omega) (by omega)
theorem inv_mul (f:FR):mulF (invF f) f=idF:=by
 have q:=mul_q (invF f) f
 have q2:=inv_q f
 have i1:idF.q=0:=rfl
 have i2:idF.x=0:=rfl
 have i3:idF.y=0:=rfl
 rcases (by omega:f.q % 4=0∨f.q % 4=1∨f.q % 4=2∨f.q % 4=3) with a | a | a | a
 ·have x1:=inv_0 a
  have x2:=mul_0 (f:=invF f) (g:=f) (by omega)
  exact FR_ext (by omega) (by omega) (by omega)
 ·have x1:=inv_1 a
  have x2:=mul_3 (f:=invF f) (g:=f) (by omega)
  exact FR_ext (by omega) (by omega) (by omega)
 ·have x1:=inv_2 a
  have x2:=mul_2 (f:=invF f) (g:=f) (by omega)
  exact FR_ext (by omega) (by omega) (by omega)
 ·have x1:=inv_3 a
  have x2:=mul_1 (f:=invF f) (g:=f) (by omega)
  exact FR_ext (by omega) (by omega) (by omega)
inductive Cn (l:List RL) (a:Int):Int→Prop
 | refl:Cn l a a
 | fwd {r:RL}:r∈l→Cn l a r.A→Cn l a r.B
 | bwd {r:RL}:r∈l→Cn l a r.B→Cn l a r.A
theorem Cn.trans {l:List RL} {a b c:Int} (h:Cn l a b) (h2:Cn l b c):Cn l a c:=by
 induction h2 with
 | refl=>exact h
 | fwd hr _ ih=>exact .fwd hr ih
 | bwd hr _ ih=>exact .bwd hr ih
theorem Cn.symm {l:List RL} {a b:Int} (h:Cn l a b):Cn l b a:=by
 induction h with
 | refl=>exact .refl
 | fwd hr _ ih=>exact Cn.trans (.bwd hr .refl) ih
 | bwd hr _ ih=>exact Cn.trans (.fwd hr .refl) ih
theorem lkK_some {m:List KF} {k:Int}:(lkK m k).isSome=true ↔ k∈m.map KF.k:=by
 induction m with
 | nil=>exact ⟨fun h=>(by cases h),fun h=>(by cases h)⟩
 | cons e m ih=>
  unfold lkK
  by_cases h:e.k=k
  ·rw [if_pos h]; exact ⟨fun _=>by rw [List.map_cons,h]; exact List.mem_cons_self ..,fun _=>rfl⟩
  ·rw [if_neg h,ih,List.map_cons]
   exact ⟨fun w=>List.mem_cons_of_mem _ w,fun w=>(List.mem_cons.1 w).elim (fun w=>absurd w.symm h) id⟩
theorem step_fix {m:List KF} {r:RL} (h:stepF m r=m):(lkK m r.A).isSome=(lkK m r.B).isSome:=by
 unfold stepF at h
 cases ha:lkK m r.A with
 | none=>
  cases hb:lkK m r.B with
  | none=>rfl
  | some e=>rw [ha,hb] at h; simp at h
 | some e=>
  cases hb:lkK m r.B with
  | none=>rw [ha,hb] at h; simp at h
  | some e=>rfl
theorem pass_fix:∀ {l:List RL} {m:List KF},passF l m=m→∀ r∈l,(lkK m r.A).isSome=(lkK m r.B).isSome
 | [],_,_,_,h=>by cases h
 | r :: l,m,h,q,hq=>by
  have e:passF (r :: l) m=passF l (stepF m r):=rfl
  have hl:=pass_len l (stepF m r)
  rw [e] at h
  have hs:stepF m r=m:=by
   rcases step_len m r with w | w
   ·exact w
   ·have:=hl.1; rw [h] at this; omega
  rw [hs] at h
  rcases List.mem_cons.1 hq with rfl | hq
  ·exact step_fix hs
  ·exact pass_fix h q hq
theorem iter_grow {l:List RL} {a:Int}:∀ k,passF l (iterF l [⟨a,idF⟩] k)=iterF l [⟨a,idF⟩] k∨k+1≤(iterF l [⟨a,idF⟩] k).length
 | 0=>.inr (Nat.le_refl _)
 | k+1=>by
  have h:=pass_len l (iterF l [⟨a,idF⟩] k)
  show passF l (passF l (iterF l [⟨a,idF⟩] k))=passF l (iterF l [⟨a,idF⟩] k)∨_≤(passF l (iterF l [⟨a,idF⟩] k)).length
  rcases iter_grow (l:=l) (a:=a) k with w | w
  ·rw [w]; exact .inl w
  ·by_cases g:(passF l (iterF l [⟨a,idF⟩] k)).length=(iterF l [⟨a,idF⟩] k).length
   ·have:=h.2 g; rw [this]; exact .inl this
   ·exact .inr (by have:=h.1; omega)
theorem from_pass {l:List RL} (hl:∀ r∈l,goodR r) {a:Int} (ha:0≤a∧a < 8):passF l (fromF l a)=fromF l a:=by
 rcases iter_grow (l:=l) (a:=a) 8 with w | w
 ·exact w
 ·have:=((InvF.one ha).iter hl 8).len
  exact absurd this (by omega)
theorem step_mem {m:List KF} {r:RL} {e:KF} (h:e∈m):e∈stepF m r:=by
 unfold stepF
 split
 ·exact List.mem_append_left _ h
 ·exact List.mem_append_left _ h
 ·exact h
theorem pass_mem:∀ {l:List RL} {m:List KF} {e:KF},e∈m→e∈passF l m
 | [],_,_,h=>h
 | r :: l,m,e,h=>pass_mem (l:=l) (step_mem h)
theorem iter_mem {l:List RL} {m:List KF} {e:KF} (h:e∈m):∀ k,e∈iterF l m k
 | 0=>h
 | k+1=>pass_mem (iter_mem h k)
theorem step_all {P:KF→Prop} {m:List KF} {r:RL} (h:∀ e∈m,P e) (h1:∀ e,P e→e.k=r.A→P ⟨r.B,mulF e.f (rlF r)⟩) (h2:∀ e,P e→e.k=r.B→P ⟨r.A,mulF e.f (invF (rlF r))⟩):∀ e∈stepF m r,P e:=by
 intro e he
 unfold stepF at he
 split at he
 ·rename_i e0 w _
  obtain ⟨w1,w2⟩:=lkK_mem w
  rcases List.mem_append.1 he with he | he
  ·exact h e he
  ·rw [List.mem_singleton] at he; subst he; exact h1 e0 (h e0 w1) w2
 ·rename_i e0 _ w
  obtain ⟨w1,w2⟩:=lkK_mem w
  rcases List.mem_append.1 he with he | he
  ·exact h e he
  ·rw [List.mem_singleton] at he; subst he; exact h2 e0 (h e0 w1) w2
 ·exact h e he
theorem from_all {P:KF→Prop} {l:List RL} {a:Int} (h0:P ⟨a,idF⟩) (h1:∀ r∈l,∀ e,P e→e.k=r.A→P ⟨r.B,mulF e.f (rlF r)⟩) (h2:∀ r∈l,∀ e,P e→e.k=r.B→P ⟨r.A,mulF e.f (invF (rlF r))⟩):∀ e∈fromF l a,P e:=by
 have hp:∀ (L:List RL) (m:List KF),(∀ r∈L,r∈l)→(∀ e∈m,P e)→∀ e∈passF L m,P e:=by
  intro L
  induction L with
  | nil=>exact fun m _ h=>h
  | cons r L ih=>exact fun m hL h=>ih (stepF m r) (fun q hq=>hL q (List.mem_cons_of_mem _ hq)) (step_all h (h1 r (hL r (List.mem_cons_self ..))) (h2 r (hL r (List.mem_cons_self ..))))
 have hi:∀ k,∀ e∈iterF l [⟨a,idF⟩] k,P e:=by
  intro k
  induction k with
  | zero=>intro e he; rw [show iterF l [⟨a,idF⟩] 0=[⟨a,idF⟩] from rfl,List.mem_singleton] at he; subst he; exact h0
  | succ k ih=>exact hp l _ (fun _ h=>h) ih
 exact hi 8
theorem btw_some {l:List RL} {a b:Int}:(btwO l a b).isSome=true ↔ (lkK (fromF l a) b).isSome=true:=by
 unfold btwO
 cases lkK (fromF l a) b<;>exact Iff.rfl
theorem btw_cn {l:List RL} (hl:∀ r∈l,goodR r) {a b:Int} (ha:0≤a∧a < 8):(btwO l a b).isSome=true ↔ Cn l a b:=by
 rw [btw_some]
 constructor
 ·intro h
  cases e:lkK (fromF l a) b with
  | none=>rw [e] at h; cases h
  | some e0=>
   obtain ⟨h1,h2⟩:=lkK_mem e
   have:=from_all (P:=fun e=>Cn l a e.k) (l:=l) (a:=a) .refl (fun r hr e w q=>.fwd hr (by rw [← q]; exact w)) (fun r hr e w q=>.bwd hr (by rw [← q]; exact w)) e0 h1
   rw [← h2]; exact this
 ·intro h
  have hf:=pass_fix (from_pass hl ha)
  induction h with
  | refl=>exact lkK_some.2 (List.mem_map.2 ⟨⟨a,idF⟩,iter_mem (List.mem_singleton.2 rfl) 8,rfl⟩)
  | fwd hr _ ih=>rw [← hf _ hr]; exact ih
  | bwd hr _ ih=>rw [hf _ hr]; exact ih
structure PotF (pot:Int→FR) (l:List RL):Prop where
 nq:∀ k,okq (pot k)
 sat:∀ r∈l,pot r.B=mulF (pot r.A) (rlF r)
theorem PotF.val {pot:Int→FR} {l:List RL} (h:PotF pot l) {a:Int}:∀ e∈fromF l a,e.f=mulF (invF (pot a)) (pot e.k):=by
 refine from_all (P:=fun e=>e.f=mulF (invF (pot a)) (pot e.k)) ?_ ?_ ?_
 ·exact (inv_mul _).symm
 ·intro r hr e he hk
  show mulF e.f (rlF r)=mulF (invF (pot a)) (pot r.B)
  rw [he,hk,mul_assoc',← h.sat r hr]
 ·intro r hr e he hk
  show mulF e.f (invF (rlF r))=mulF (invF (pot a)) (pot r.A)
  rw [he,hk,mul_assoc',h.sat r hr,mul_assoc',mul_inv,mul_id (h.nq _)]
theorem PotF.btw {pot:Int→FR} {l:List RL} (h:PotF pot l) {a b:Int} {f:FR} (hb:btwO l a b=some f):f=mulF (invF (pot a)) (pot b):=by
 unfold btwO at hb
 cases e:lkK (fromF l a) b with
 | none=>rw [e] at hb; cases hb
 | some e0=>
  rw [e] at hb
  cases hb
  obtain ⟨h1,h2⟩:=lkK_mem e
  rw [h.val e0 h1,h2]
theorem PotF.add {pot:Int→FR} {l:List RL} (h:PotF pot l) {r:RL} (hn:¬ Cn l r.A r.B):∃ pot',PotF pot' (l++[r]):=by
 classical
 let c:=mulF (mulF (pot r.A) (rlF r)) (invF (pot r.B))
 refine ⟨fun k=>if Cn l r.B k then mulF c (pot k) else pot k,fun k=>?_,fun s hs=>?_⟩
 ·show okq (if _ then _ else _)
  split
  ·exact okq_mul _ _
  ·exact h.nq k
 ·show (if Cn l r.B s.B then mulF c (pot s.B) else pot s.B)=mulF (if Cn l r.B s.A then mulF c (pot s.A) else pot s.A) (rlF s)
  rcases List.mem_append.1 hs with hs | hs
  ·by_cases g:Cn l r.B s.A
   ·rw [if_pos g,if_pos (.fwd hs g),h.sat s hs]
    exact (mul_assoc' c _ _).symm
   ·rw [if_neg g,if_neg (fun w=>g (.bwd hs w)),h.sat s hs]
  ·rw [List.mem_singleton] at hs
   subst hs
   rw [if_pos .refl,if_neg (fun w=>hn w.symm)]
   show mulF (mulF (mulF (pot s.A) (rlF s)) (invF (pot s.B))) (pot s.B)=_
   rw [mul_assoc',inv_mul,mul_id (okq_mul _ _)]
theorem frm_pot:∀ (L:List RL) {l:List RL},(∀ r∈l,goodR r)→(∃ pot,PotF pot l)→(∀ r∈L,goodR r)→∃ pot,PotF pot (L.foldl addF l)
 | [],_,_,h,_=>h
 | r :: L,l,hl,h,hL=>by
  have hr:=hL r (List.mem_cons_self ..)
  have hL':∀ q∈L,goodR q:=fun q hq=>hL q (List.mem_cons_of_mem _ hq)
  refine frm_pot L (addF_good hl hr) ?_ hL'
  unfold addF
  split
  ·exact h
  ·rename_i g
   obtain ⟨pot,hp⟩:=h
   exact hp.add (r:=nmR r) fun w=>g ((btw_cn hl hr.1).2 w)
theorem frm_comp {x:STN} (hx:okSt x):∀ {i j:Int} {f:FR},(0≤i∧i < 8)→(0≤j∧j < 8)→btwO (frmL (relL x)) i j=some f→∀ k,btwO (frmL (relL x)) i k=(btwO (frmL (relL x)) j k).map (mulF f):=by
 intro i j f hi hj hb k
 have hg:=frmL_good hx.2.2.2
 obtain ⟨pot,hp⟩:∃ pot,PotF pot (frmL (relL x)):=frm_pot (relL x) (fun _ h=>by cases h) ⟨fun _=>idF,⟨fun _=>⟨Int.le_refl _,by decide⟩,fun _ h=>by cases h⟩⟩ fun r hr=>relL_good hx.2.2.2 hr
 have c1:=(btw_cn hg hi).1 (show (btwO (frmL (relL x)) i j).isSome=true by rw [hb]; rfl)
 cases e:btwO (frmL (relL x)) j k with
 | none=>
  cases e2:btwO (frmL (relL x)) i k with
  | none=>rfl
  | some w=>
   have c2:=(btw_cn hg hi).1 (show (btwO (frmL (relL x)) i k).isSome=true by rw [e2]; rfl)
   have:=(btw_cn hg hj).2 (c1.symm.trans c2)
   rw [e] at this; cases this
 | some g=>
  have c2:=(btw_cn hg hj).1 (show (btwO (frmL (relL x)) j k).isSome=true by rw [e]; rfl)
  have c3:=(btw_cn hg hi).2 (c1.trans c2)
  cases e2:btwO (frmL (relL x)) i k with
  | none=>rw [e2] at c3; cases c3
  | some w=>
   show some w=some (mulF f g)
   rw [hp.btw e2,hp.btw hb,hp.btw e,mul_assoc',← mul_assoc' (pot j),mul_inv,id_mul (hp.nq _)]
theorem viewK_img {x:STN} (hx:okSt x) {i j:Int} {f:FR} (hi:0≤i∧i < 8) (hj:0≤j∧j < 8) (hb:btwO (frmL (relL x)) i j=some f):∀ k,(viewK x j k).map (imgE f)=viewK x i k
 | 0=>rfl
 | k+1=>by
  rw [viewK_succ,viewK_succ,List.map_append,viewK_img hx hi hj hb k]
  congr 1
  unfold viewI
  rw [frm_comp hx hi hj hb (k:Int)]
  cases btwO (frmL (relL x)) j (k:Int) with
  | none=>rfl
  | some g=>
   show ((allX x k).map (imgE g)).map (imgE f)=(allX x k).map (imgE (mulF f g))
   rw [List.map_map]
   exact List.map_congr_left fun e _=>(imgE_mul f g e).symm
theorem cell_key {a b:EE} (h:keyE a=keyE b) (hc:cellE a):cellE b:=by
 unfold keyE at h
 simp only [Prod.mk.injEq] at h
 unfold cellE at *
 rw [← h.1,← h.2]
 exact hc
theorem EqX.img {X:Nat→STN} (h:EqX X) {i j:Int} (hi:0≤i∧i < 8) (hj:0≤j∧j < 8) {f:FR} (hb:btwO (frmL (relL (X 0))) i j=some f) :
  validF f=true∧valE (conL (viewK (X 0) j 8))=true∧(∀ e∈conL (viewK (X 0) j 8),cellE e∧cellE (imgE f e))∧srtL cmpE ((conL (viewK (X 0) j 8)).map (imgE f))=conL (viewK (X 0) i 8):=by
 have ho:=(h.ok 0 (by decide)).1
 have hu:=viewK_unit (X 0) j 8
 have hk:=viewK_img ho hi hj hb 8
 refine ⟨valid_bd (btw_bd (frmL_good ho.2.2.2) hi hb),con_val hu (viewK_cell ho hj 8) (Nat.le_trans (viewK_len (X 0) j 8) h.size),fun e he=>?_,?_⟩
 ·obtain ⟨c,hc,hke⟩:=con_key (unit_ok hu) he
  refine ⟨cell_key hke (viewK_cell ho hj 8 c hc),?_⟩
  have hm:imgE f c∈viewK (X 0) i 8:=by rw [← hk]; exact List.mem_map.2 ⟨c,hc,rfl⟩
  refine cell_key ?_ (viewK_cell ho hi 8 _ hm)
  unfold keyE at hke ⊢
  simp only [Prod.mk.injEq] at hke
  unfold imgE
  simp only
  rw [hke.1,hke.2]
 ·rw [con_img (unit_ok hu),hk]
end Go.Proofs.YtgpbokembopapaaGreat
