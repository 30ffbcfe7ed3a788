/- A part of the proof of a statement about this seat: how a function is stepped through, and plain laws. No conditions. -/
import Derived.Test.YtgpbokembopapaaGreatRows
import Derived.Test.YtgpbokembopapaaGreatFLSz4
import Derived.Test.YtgpbokembopapaaGreatFLM8
import Derived.KernelRfl
set_option linter.unusedVariables false
set_option linter.unusedSimpArgs false
set_option maxRecDepth 20000
namespace Go.Proofs.YtgpbokembopapaaGreat
open Go.Sx Go.Way
structure NT where
 put:Bool
 id:Int
 s:List CC
 p:PL
def eNt:DEnc NT where
 sz:=8
 cell:=fun x j=>match j with
  | 0=>some (.bool x.put)
  | 1=>some (.int .i64 x.id)
  | 3=>some (.int .i64 x.p.v)
  | 4=>some (.bool x.p.g)
  | 5=>some (.int .i64 x.p.x)
  | 6=>some (.int .i64 x.p.y)
  | 7=>some (.int .i64 x.p.h)
  | _=>none
 inr:=fun x j=>match j with
  | 2=>inL eC x.s
  | _=>none
 dflt:=⟨false,0,[],⟨0,false,0,0,0⟩⟩
 dec:=fun f c=>⟨boolV (f 0),intV (f 1),decO eC (c 2),⟨intV (f 3),boolV (f 4),intV (f 5),intV (f 6),intV (f 7)⟩⟩
 de:=by
  intro x f c h1 h2
  have a0:=h1 0 _ (by decide) rfl
  have a1:=h1 1 _ (by decide) rfl
  have a3:=h1 3 _ (by decide) rfl
  have a4:=h1 4 _ (by decide) rfl
  have a5:=h1 5 _ (by decide) rfl
  have a6:=h1 6 _ (by decide) rfl
  have a7:=h1 7 _ (by decide) rfl
  have a2:=decO_in (h2 2 (by decide))
  simp only [a0,a1,a2,a3,a4,a5,a6,a7,intV,boolV]
theorem eNt_sz:eNt.sz=8:=rfl
section
variable (L:List NT) (V:Nat→Nat→Value) (e:Nat)
theorem eNt_0:deepF eNt L V e 0 = .bool (L.getD e eNt.dflt).put:=rfl
theorem eNt_1:deepF eNt L V e 1 = .int .i64 (L.getD e eNt.dflt).id:=rfl
theorem eNt_3:deepF eNt L V e 3 = .int .i64 (L.getD e eNt.dflt).p.v:=rfl
theorem eNt_4:deepF eNt L V e 4 = .bool (L.getD e eNt.dflt).p.g:=rfl
theorem eNt_5:deepF eNt L V e 5 = .int .i64 (L.getD e eNt.dflt).p.x:=rfl
theorem eNt_6:deepF eNt L V e 6 = .int .i64 (L.getD e eNt.dflt).p.y:=rfl
theorem eNt_7:deepF eNt L V e 7 = .int .i64 (L.getD e eNt.dflt).p.h:=rfl
theorem eNt_2:deepC eNt L e 2=some ((L.getD e eNt.dflt).s.length,2,rowG eC (L.getD e eNt.dflt).s):=rfl
end
attribute [push_cast] eNt_sz eNt_0 eNt_1 eNt_2 eNt_3 eNt_4 eNt_5 eNt_6 eNt_7
def fewB (L:List NT):Bool:=decide (L.length≤10) && L.all fun n=>decide (n.s.length≤3)
def tellS (S:List SE) (n:NT) (V:Value):List SE:=if n.put=true then putL S n.id n.s V else S
def tellQ (Q:List QE) (n:NT):List QE:=if n.put=true then Q else plcL Q n.id n.p
abbrev SH:=List (Int × List CC)
def shS (S:List SE):SH:=S.map fun s=>(s.i,s.l)
def lkH:SH→Int→Option (List CC)
 | [],_=>none
 | s :: S,x=>if s.1=x then some s.2 else lkH S x
def setH:SH→Int→List CC→SH
 | [],x,l=>[(x,l)]
 | s :: S,x,l=>if s.1=x then (x,l) :: S else s :: setH S x l
def putH (S:SH) (id:Int) (s:List CC):SH:=if putE id s=0 then (match lkH S id with | some o=>if 0 < cmpS s o then setH S id s else S | none=>setH S id s) else S
theorem lkH_S (x:Int):∀ S:List SE,lkH (shS S) x=(lkS S x).map SE.l
 | []=>rfl
 | s :: S=>by
  show (if s.i=x then some s.l else lkH (shS S) x)=(lkS (s :: S) x).map SE.l
  unfold lkS
  split
  ·rfl
  ·exact lkH_S x S
theorem setH_S (x:Int) (V:Value) (l:List CC):∀ S:List SE,shS (setS S x V l)=setH (shS S) x l
 | []=>rfl
 | s :: S=>by
  unfold setS
  show _=(if s.i=x then (x,l) :: shS S else (s.i,s.l) :: setH (shS S) x l)
  split
  ·rfl
  ·show (s.i,s.l) :: shS (setS S x V l)=_
   rw [setH_S x V l S]
theorem putH_S (S:List SE) (id:Int) (s:List CC) (V:Value):shS (putL S id s V)=putH (shS S) id s:=by
 unfold putL putH
 split
 ·rw [lkH_S]
  cases lkS S id with
  | none=>exact setH_S _ _ _ _
  | some o=>
   simp only [Option.map_some]
   split
   ·exact setH_S _ _ _ _
   ·rfl
 ·rfl
def reV (T:SH) (G:Nat→Nat→Value):List SE:=(List.range T.length).map fun j=>⟨(T.getD j (0,[])).1,G 0 j,(T.getD j (0,[])).2⟩
theorem reV_sh (T:SH) (G:Nat→Nat→Value):shS (reV T G)=T:=by
 unfold shS reV
 rw [List.map_map]
 exact map_getD_range T (0,[])
theorem reV_of (S:List SE):reV (shS S) (fun _ j=>(S.getD j ⟨0,.bool false,[]⟩).v)=S:=by
 unfold reV
 have hl:(shS S).length=S.length:=by unfold shS; rw [List.length_map]
 rw [hl]
 apply List.ext_getElem (by simp)
 intro i h1 h2
 rw [List.getElem_map,List.getElem_range]
 unfold shS
 simp [List.getD_eq_getElem?_getD,List.getElem?_eq_getElem h2]
def joinH (A:SH) (B:List SE) (I:List Int):SH:=I.foldl (fun a id=>match lkS B id with | some s=>putH a id s.l | none=>a) A
def joinQ (A B:List QE) (I:List Int):List QE:=I.foldl (fun a id=>match lkP B id with | some q=>plcL a id q.p | none=>a) A
theorem foldl_take {β:Type} (f:β→Int→β) (a:β) {I:List Int} {k:Nat} (h:k < I.length):(I.take (k+1)).foldl f a=f ((I.take k).foldl f a) (I.getD k eI.dflt):=by
 rw [List.take_add_one,List.getElem?_eq_getElem h,List.foldl_append]
 simp only [Option.toList_some,List.foldl_cons,List.foldl_nil,List.getD_eq_getElem?_getD,List.getElem?_eq_getElem h,Option.getD_some]
theorem okS_set {S:List SE} {x:Int} {V:Value} {l:List CC} (h:okS S) (hl:scnB l=true) (hx:idB x=true):okS (setS S x V l):=by
 induction S with
 | nil=>intro s hs; simp only [setS,List.mem_singleton] at hs; subst hs; exact ⟨hl,hx⟩
 | cons a S ih=>
  intro s hs
  unfold setS at hs
  split at hs
  ·rcases List.mem_cons.1 hs with rfl | g
   ·exact ⟨hl,hx⟩
   ·exact h s (by simp [g])
  ·rcases List.mem_cons.1 hs with rfl | g
   ·exact h _ (by simp)
   ·exact ih (fun s hs=>h s (by simp [hs])) s g
theorem putE_ok {id:Int} {s:List CC} (h:putE id s=0):scnB s=true∧idB id=true:=by
 unfold putE at h
 split at h
 ·cases h
 ·rename_i h1
  split at h
  ·cases h
  ·rename_i h2
   exact ⟨by simpa using h1,by simpa using h2⟩
theorem plcE_ok {id:Int} {p:PL} (h:plcE id p=0):plB p=true∧idB id=true:=by
 unfold plcE at h
 split at h
 ·cases h
 ·rename_i h1
  split at h
  ·cases h
  ·rename_i h2
   exact ⟨by simpa using h1,by simpa using h2⟩
theorem okS_put {S:List SE} {id:Int} {s:List CC} {V:Value} (h:okS S):okS (putL S id s V):=by
 unfold putL
 split
 ·rename_i h0
  obtain ⟨h1,h2⟩:=putE_ok h0
  split
  ·split
   ·exact okS_set h h1 h2
   ·exact h
  ·exact okS_set h h1 h2
 ·exact h
theorem okQ_set {S:List QE} {x:Int} {p:PL} (h:okQ S) (hl:plB p=true) (hx:idB x=true):okQ (setP S x p):=by
 induction S with
 | nil=>intro s hs; simp only [setP,List.mem_singleton] at hs; subst hs; exact ⟨hl,hx⟩
 | cons a S ih=>
  intro s hs
  unfold setP at hs
  split at hs
  ·rcases List.mem_cons.1 hs with rfl | g
   ·exact ⟨hl,hx⟩
   ·exact h s (by simp [g])
  ·rcases List.mem_cons.1 hs with rfl | g
   ·exact h _ (by simp)
   ·exact ih (fun s hs=>h s (by simp [hs])) s g
theorem okQ_plc {S:List QE} {id:Int} {p:PL} (h:okQ S):okQ (plcL S id p):=by
 unfold plcL
 split
 ·rename_i h0
  obtain ⟨h1,h2⟩:=plcE_ok h0
  split
  ·split
   ·exact okQ_set h h1 h2
   ·exact h
  ·exact okQ_set h h1 h2
 ·exact h
theorem okS_tell {S:List SE} {n:NT} {V:Value} (h:okS S):okS (tellS S n V):=by
 unfold tellS; split
 ·exact okS_put h
 ·exact h
theorem okQ_tell {Q:List QE} {n:NT} (h:okQ Q):okQ (tellQ Q n):=by
 unfold tellQ; split
 ·exact h
 ·exact okQ_plc h
def sameAt (S:List SE) (Q:List QE) (S':List SE) (Q':List QE) (id:Int):Bool:=decide ((lkS S id).isSome=(lkS S' id).isSome) && decide ((lkP Q id).isSome=(lkP Q' id).isSome) && decide ((plO Q id).v=(plO Q' id).v∧(plO Q id).g=(plO Q' id).g∧(plO Q id).x=(plO Q' id).x∧(plO Q id).y=(plO Q' id).y∧(plO Q id).h=(plO Q' id).h) && decide (scO S id=scO S' id)
def sameA (S:List SE) (Q:List QE) (S':List SE) (Q':List QE):Bool:=decide (idsL S Q 64=idsL S' Q' 64) && (idsL S Q 64).all (sameAt S Q S' Q')
theorem getI_at {L:List Int} {k:Nat} (h:k < L.length):L.getD k eI.dflt=L[k]:=by rw [List.getD_eq_getElem?_getD,List.getElem?_eq_getElem h]; rfl
theorem all_no {I:List Int} {f:Int→Bool} {k:Nat} (h:k < I.length) (hf:f (I.getD k eI.dflt)=false):I.all f=false:=by
 rw [List.all_eq_false]
 rw [getI_at h] at hf
 exact ⟨I[k],List.getElem_mem h,by rw [hf]; simp⟩
theorem all_yes {I:List Int} {f:Int→Bool} (h:∀ i,i < I.length→f (I.getD i eI.dflt)=true):I.all f=true:=by
 rw [List.all_eq_true]
 intro x hx
 obtain ⟨k,hk,rfl⟩:=List.getElem_of_mem hx
 have:=h k hk
 rwa [getI_at hk] at this
section
variable {S S':List SE} {Q Q':List QE} {id:Int}
theorem sameAt_no (h:((¬(lkS S id).isSome=(lkS S' id).isSome∨¬(lkP Q id).isSome=(lkP Q' id).isSome)∨((plO Q id).v == (plO Q' id).v && ((plO Q id).g == (plO Q' id).g && ((plO Q id).x == (plO Q' id).x && ((plO Q id).y == (plO Q' id).y && (plO Q id).h == (plO Q' id).h))))=false)∨¬scO S id=scO S' id):sameAt S Q S' Q' id=false:=by
 rw [Bool.eq_false_iff]
 intro ht
 unfold sameAt at ht
 simp only [Bool.and_eq_true,decide_eq_true_eq] at ht
 obtain ⟨⟨⟨q1,q2⟩,q3⟩,q4⟩:=ht
 rcases h with ((h | h) | h) | h
 ·exact h q1
 ·exact h q2
 ·rw [q3.1,q3.2.1,q3.2.2.1,q3.2.2.2.1,q3.2.2.2.2] at h
  simp at h
 ·exact h q4
theorem sameAt_yes (q1:(lkS S id).isSome=(lkS S' id).isSome) (q2:(lkP Q id).isSome=(lkP Q' id).isSome) (q3:(plO Q id).v=(plO Q' id).v) (q4:(plO Q id).g=(plO Q' id).g) (q5:(plO Q id).x=(plO Q' id).x) (q6:(plO Q id).y=(plO Q' id).y) (q7:(plO Q id).h=(plO Q' id).h) (q8:scO S id=scO S' id):sameAt S Q S' Q' id=true:=by
 unfold sameAt
 simp only [Bool.and_eq_true,decide_eq_true_eq]
 exact ⟨⟨⟨q1,q2⟩,q3,q4,q5,q6,q7⟩,q8⟩
end
theorem joinH_take (A:SH) (B:List SE) {I:List Int} {k:Nat} (h:k < I.length):joinH A B (I.take (k+1))=match lkS B (I.getD k eI.dflt) with | some s=>putH (joinH A B (I.take k)) (I.getD k eI.dflt) s.l | none=>joinH A B (I.take k):=by
 unfold joinH
 rw [foldl_take _ _ h]
theorem joinQ_take (A B:List QE) {I:List Int} {k:Nat} (h:k < I.length):joinQ A B (I.take (k+1))=match lkP B (I.getD k eI.dflt) with | some s=>plcL (joinQ A B (I.take k)) (I.getD k eI.dflt) s.p | none=>joinQ A B (I.take k):=by
 unfold joinQ
 rw [foldl_take _ _ h]
def x9L0:XC:=(.seq (.reg false [O2 21 (.bin .lss) 20 19]) (.seq (.cond (.t 21) .skip (.exit 0)) (.seq (.block 1 (.seq (.reg false [O2 22 (.ixS 1) 18 20,O1 23 .load1 22,O1 6 .mv 23]) (.seq (.seq (.reg false [O1 25 .mv 1,O1 26 .nilc 25,O1 27 (.fld 0) 26,O1 28 .load1 27,O1 29 .mv 6,O2 30 (.call 1050016) 28 29,O1 24 .mv 30,O1 31 (.ext 0) 24,O1 32 (.ext 1) 24,O1 7 .mv 31,O1 8 .mv 32]) (.seq (.reg false [O1 33 .mv 8]) (.cond (.t 33) (.reg false [O1 34 .mv 0,O1 35 .mv 6,O1 36 .mv 7,⟨(some 37),(.call 39),[(.t 34),(.t 35),(.t 36)],none⟩]) .skip))) (.seq (.reg false [O1 39 .mv 1,O1 40 .nilc 39,O1 41 (.fld 1) 40,O1 42 .load1 41,O1 43 .mv 6,O2 44 (.call 1050032) 42 43,O1 38 .mv 44,O1 45 (.ext 0) 38,O1 46 (.ext 1) 38,⟨(some 9),(.alloc 32 [(iV 0),(.bool false),(iV 0),(iV 0),(iV 0)]),[],none⟩,⟨none,(.store 5),[(.t 9),(.t 45)],none⟩,O1 10 .mv 46]) (.seq (.reg false [O1 47 .mv 10]) (.cond (.t 47) (.reg false [O1 48 .mv 0,O1 49 .mv 6,O1 50 (.loadN 5) 9,⟨(some 51),(.call 40),[(.t 48),(.t 49),(.t 50)],none⟩]) .skip)))))) (.reg false [K2 52 (.bin .add) 20 (iV 1),O1 20 .mv 52]))))
def x9:XFn:=⟨53,(.seq (.reg false [K1 4 .mv (iV 0)]) (.seq (.seq (.reg false [O1 11 .mv 0,⟨(some 12),(.x (.eqP false)),[(.t 11),(.k (.pointer none))],none⟩,O1 13 .mv 12,G1 14 .mv 1 13 false,⟨(some 15),(.x (.eqP false)),[(.t 14),(.k (.pointer none))],(some (13,false))⟩,⟨(some 16),.pick,[(.t 13),(.k (.bool true)),(.t 15)],none⟩]) (.cond (.t 16) (.seq (.reg false [K1 4 .mv (iV 1)]) .ret) .skip)) (.seq (.seq (.reg false [O1 17 .mv 1,O1 18 (.call 11) 17,O1 19 .lenS 18,K1 20 .mv (iV 0)]) (.block 0 (.loop x9L0))) (.seq (.reg false [K1 4 .mv (iV 0)]) .ret)))),[(.s 4)]⟩
theorem x9_ok:xfn Tryz.prog Tryz.f9=some x9.er:=by kernel_rfl
def x10L0:XC:=(.seq (.reg false [O2 25 (.bin .lss) 24 23]) (.seq (.cond (.t 25) .skip (.exit 0)) (.seq (.block 1 (.seq (.reg false [O2 26 (.ixS 1) 22 24,O1 27 .load1 26,O1 6 .mv 27]) (.seq (.reg false [O1 29 .mv 0,O1 30 .mv 6,O2 31 (.call 12) 29 30,O1 28 .mv 31,O1 32 (.ext 0) 28,O1 33 (.ext 1) 28,O1 7 .mv 32,O1 8 .mv 33]) (.seq (.reg false [O1 35 .mv 1,O1 36 .mv 6,O2 37 (.call 12) 35 36,O1 34 .mv 37,O1 38 (.ext 0) 34,O1 39 (.ext 1) 34,O1 9 .mv 38,O1 10 .mv 39]) (.seq (.reg false [O1 41 .mv 0,O1 42 .mv 6,O2 43 (.call 13) 41 42,O1 40 .mv 43,O1 44 (.ext 0) 40,O1 45 (.ext 1) 40,⟨(some 11),(.alloc 32 [(iV 0),(.bool false),(iV 0),(iV 0),(iV 0)]),[],none⟩,⟨none,(.store 5),[(.t 11),(.t 44)],none⟩,O1 12 .mv 45]) (.seq (.reg false [O1 47 .mv 1,O1 48 .mv 6,O2 49 (.call 13) 47 48,O1 46 .mv 49,O1 50 (.ext 0) 46,O1 51 (.ext 1) 46,⟨(some 13),(.alloc 32 [(iV 0),(.bool false),(iV 0),(iV 0),(iV 0)]),[],none⟩,⟨none,(.store 5),[(.t 13),(.t 50)],none⟩,O1 14 .mv 51]) (.seq (.reg false [O1 52 .mv 8,O1 53 .mv 10,O2 54 (.binb .neq) 52 53,O1 55 .mv 54,G1 56 .mv 12 55 false,G1 57 .mv 14 55 false,G2 58 (.binb .neq) 56 57 55 false,⟨(some 59),.pick,[(.t 55),(.k (.bool true)),(.t 58)],none⟩,O1 60 .mv 59,G1 61 (.loadN 5) 11 60 false,G1 62 (.loadN 5) 13 60 false,⟨(some 63),(.eqA true [(.i .i64),.b,(.i .i64),(.i .i64),(.i .i64)]),[(.t 61),(.t 62)],(some (60,false))⟩,⟨(some 64),.pick,[(.t 60),(.k (.bool true)),(.t 63)],none⟩,O1 65 .mv 64,G1 66 .mv 7 65 false,G1 67 .mv 9 65 false,G2 68 (.call 42) 66 67 65 false,G1 69 (.un .not) 68 65 false,⟨(some 70),.pick,[(.t 65),(.k (.bool true)),(.t 69)],none⟩]) (.cond (.t 70) (.seq (.reg false [K1 4 .mv (.bool false)]) .ret) .skip)))))))) (.reg false [K2 71 (.bin .add) 24 (iV 1),O1 24 .mv 71]))))
def x10:XFn:=⟨72,(.seq (.reg false [K1 4 .mv (.bool false)]) (.seq (.seq (.reg false [O1 15 .mv 0,O1 16 (.call 11) 15,O1 17 .mv 1,O1 18 (.call 11) 17,O2 19 (.call 41) 16 18,O1 20 (.un .not) 19]) (.cond (.t 20) (.seq (.reg false [K1 4 .mv (.bool false)]) .ret) .skip)) (.seq (.seq (.reg false [O1 21 .mv 0,O1 22 (.call 11) 21,O1 23 .lenS 22,K1 24 .mv (iV 0)]) (.block 0 (.loop x10L0))) (.seq (.reg false [K1 4 .mv (.bool true)]) .ret)))),[(.s 4)]⟩
theorem x10_ok:xfn Tryz.prog Tryz.f10=some x10.er:=by kernel_rfl
def g6:Con:=fun args_ E_ nn_=>match args_ with
 | [.c (.n l)]=>(match rowD eNt.sz E_ l with
  | some (l_n,l_s,l_f,l_c)=>some (.q (isDeep eNt l_n l_s l_f l_c∧True) (.o (.c (.v (.bool (fewB (decD eNt l_n l_f l_c)))))))
  | none=>none)
 | _=>none
def g10:Con:=fun args_ E_ nn_=>match args_ with
 | [.c (.p a 0),.c (.p b 0)]=>(match E_ a with
  | some (.box [.n a_scans,.n a_places] a_ty)=>(match E_ b with
  | some (.box [.n b_scans,.n b_places] b_ty)=>(match E_ a_scans with
  | some (.dm a_scans_k a_scans_l)=>(match E_ a_places with
  | some (.dm a_places_k a_places_l)=>(match E_ b_scans with
  | some (.dm b_scans_k b_scans_l)=>(match E_ b_places with
  | some (.dm b_places_k b_places_l)=>some (.e (isM eSc a_scans_k a_scans_l∧isM ePl a_places_k a_places_l∧isM eSc b_scans_k b_scans_l∧isM ePl b_places_k b_places_l∧a≠b∧a≠a_scans∧a≠a_places∧a≠b_scans∧a≠b_places∧b≠a_scans∧b≠a_places∧b≠b_scans∧b≠b_places∧a_scans≠a_places∧a_scans≠b_scans∧a_scans≠b_places∧a_places≠b_scans∧a_places≠b_places∧b_scans≠b_places∧okS (decM eSc a_scans_l)∧okS (decM eSc b_scans_l)) (.o (.c (.v (.bool (sameA (decM eSc a_scans_l) (decM ePl a_places_l) (decM eSc b_scans_l) (decM ePl b_places_l)))))) [(a,.box [.n a_scans,.n a_places] a_ty),(a_scans,.dm false (mapF eSc ((decM eSc a_scans_l)))),(a_places,.dm false (mapF ePl ((decM ePl a_places_l)))),(b,.box [.n b_scans,.n b_places] b_ty),(b_scans,.dm false (mapF eSc ((decM eSc b_scans_l)))),(b_places,.dm false (mapF ePl ((decM ePl b_places_l))))] (nn_+0))
  | _=>none)
  | _=>none)
  | _=>none)
  | _=>none)
  | _=>none)
  | _=>none)
 | _=>none
theorem c10:COk Tryz.prog 10 g10:=by
 refine cok_d Tryz.func10 x10_ok (by kernel_rfl) (cok_tab (cok_cons c11 (cok_cons c41 (cok_cons c12 (cok_cons c13 (cok_cons c42 cok_nil)))))) ?_
 intro args_ E_ nn_ cr_ hg_
 unfold g10 at hg_
 split at hg_
 ·rename_i a b
  split at hg_
  ·rename_i a_scans a_places a_ty h_a
   split at hg_
   ·rename_i b_scans b_places b_ty h_b
    split at hg_
    ·rename_i a_scans_k a_scans_l h_a_scans
     split at hg_
     ·rename_i a_places_k a_places_l h_a_places
      split at hg_
      ·rename_i b_scans_k b_scans_l h_b_scans
       split at hg_
       ·rename_i b_places_k b_places_l h_b_places
        cases hg_
        refine ⟨_,_,_,_,rfl,6,[a,b,a_scans,a_places,b_scans,b_places],[.c (.p 0 0),.c (.p 1 0)],[(0,.box [.n 2,.n 3] a_ty),(1,.box [.n 4,.n 5] b_ty),(2,.dm eSc.k (mapF eSc (decM eSc a_scans_l))),(3,.dm ePl.k (mapF ePl (decM ePl a_places_l))),(4,.dm eSc.k (mapF eSc (decM eSc b_scans_l))),(5,.dm ePl.k (mapF ePl (decM ePl b_places_l)))],.o (.c (.v (.bool (sameA (decM eSc a_scans_l) (decM ePl a_places_l) (decM eSc b_scans_l) (decM ePl b_places_l))))),[(0,.box [.n 2,.n 3] a_ty),(2,.dm false (mapF eSc ((decM eSc a_scans_l)))),(3,.dm false (mapF ePl ((decM ePl a_places_l)))),(1,.box [.n 4,.n 5] b_ty),(4,.dm false (mapF eSc ((decM eSc b_scans_l)))),(5,.dm false (mapF ePl ((decM ePl b_places_l))))],6,rfl,rfl,by simp only [renE,Ent.ren,rowF_renf]<;>rfl,rfl,by decide,and4 (by simp only [push_cast,Nat.reduceLT,Nat.reduceAdd]) ⟨rfl,⟨⟨_,h_a⟩,⟨_,h_b⟩,⟨_,h_a_scans⟩,⟨_,h_a_places⟩,⟨_,h_b_scans⟩,⟨_,h_b_places⟩,trivial⟩,by simp only [keysNodup,outN,keys]<;>decide,rfl,.inr ⟨.inl rfl,.inl rfl,.inl rfl,.inl rfl,.inl rfl,.inl rfl,trivial⟩,?_⟩⟩
        intro hpre hlen
        obtain ⟨i_a_scans,hpre⟩:=hpre
        obtain ⟨i_a_places,hpre⟩:=hpre
        obtain ⟨i_b_scans,hpre⟩:=hpre
        obtain ⟨i_b_places,hpre⟩:=hpre
        obtain ⟨n_a_b,hpre⟩:=hpre
        obtain ⟨n_a_a_scans,hpre⟩:=hpre
        obtain ⟨n_a_a_places,hpre⟩:=hpre
        obtain ⟨n_a_b_scans,hpre⟩:=hpre
        obtain ⟨n_a_b_places,hpre⟩:=hpre
        obtain ⟨n_b_a_scans,hpre⟩:=hpre
        obtain ⟨n_b_a_places,hpre⟩:=hpre
        obtain ⟨n_b_b_scans,hpre⟩:=hpre
        obtain ⟨n_b_b_places,hpre⟩:=hpre
        obtain ⟨n_a_scans_a_places,hpre⟩:=hpre
        obtain ⟨n_a_scans_b_scans,hpre⟩:=hpre
        obtain ⟨n_a_scans_b_places,hpre⟩:=hpre
        obtain ⟨n_a_places_b_scans,hpre⟩:=hpre
        obtain ⟨n_a_places_b_places,hpre⟩:=hpre
        obtain ⟨n_b_scans_b_places,hpre⟩:=hpre
        have hap:apartE (sg 6 nn_ [a,b,a_scans,a_places,b_scans,b_places]) [(0,.box [.n 2,.n 3] a_ty),(1,.box [.n 4,.n 5] b_ty),(2,.dm eSc.k (mapF eSc (decM eSc a_scans_l))),(3,.dm ePl.k (mapF ePl (decM ePl a_places_l))),(4,.dm eSc.k (mapF eSc (decM eSc b_scans_l))),(5,.dm ePl.k (mapF ePl (decM ePl b_places_l)))] [(0,.box [.n 2,.n 3] a_ty),(1,.box [.n 4,.n 5] b_ty),(2,.dm eSc.k (mapF eSc (decM eSc a_scans_l))),(3,.dm ePl.k (mapF ePl (decM ePl a_places_l))),(4,.dm eSc.k (mapF eSc (decM eSc b_scans_l))),(5,.dm ePl.k (mapF ePl (decM ePl b_places_l)))]:=by
         refine ⟨fun _ k2 e2 hm hne=>?_,?_⟩
         ·simp only [List.mem_cons,List.not_mem_nil,or_false,Prod.mk.injEq] at hm
          rcases hm with ⟨rfl,_⟩ | ⟨rfl,_⟩ | ⟨rfl,_⟩ | ⟨rfl,_⟩ | ⟨rfl,_⟩ | ⟨rfl,_⟩
          ·exact absurd rfl hne
          ·exact fun hh=>n_a_b (Eq.symm (show b=a from hh))
          ·exact fun hh=>n_a_a_scans (Eq.symm (show a_scans=a from hh))
          ·exact fun hh=>n_a_a_places (Eq.symm (show a_places=a from hh))
          ·exact fun hh=>n_a_b_scans (Eq.symm (show b_scans=a from hh))
          ·exact fun hh=>n_a_b_places (Eq.symm (show b_places=a from hh))
         refine ⟨fun _ k2 e2 hm hne=>?_,?_⟩
         ·simp only [List.mem_cons,List.not_mem_nil,or_false,Prod.mk.injEq] at hm
          rcases hm with ⟨rfl,_⟩ | ⟨rfl,_⟩ | ⟨rfl,_⟩ | ⟨rfl,_⟩ | ⟨rfl,_⟩ | ⟨rfl,_⟩
          ·exact fun hh=>n_a_b (show a=b from hh)
          ·exact absurd rfl hne
          ·exact fun hh=>n_b_a_scans (Eq.symm (show a_scans=b from hh))
          ·exact fun hh=>n_b_a_places (Eq.symm (show a_places=b from hh))
          ·exact fun hh=>n_b_b_scans (Eq.symm (show b_scans=b from hh))
          ·exact fun hh=>n_b_b_places (Eq.symm (show b_places=b from hh))
         refine ⟨fun _ k2 e2 hm hne=>?_,?_⟩
         ·simp only [List.mem_cons,List.not_mem_nil,or_false,Prod.mk.injEq] at hm
          rcases hm with ⟨rfl,_⟩ | ⟨rfl,_⟩ | ⟨rfl,_⟩ | ⟨rfl,_⟩ | ⟨rfl,_⟩ | ⟨rfl,_⟩
          ·exact fun hh=>n_a_a_scans (show a=a_scans from hh)
          ·exact fun hh=>n_b_a_scans (show b=a_scans from hh)
          ·exact absurd rfl hne
          ·exact fun hh=>n_a_scans_a_places (Eq.symm (show a_places=a_scans from hh))
          ·exact fun hh=>n_a_scans_b_scans (Eq.symm (show b_scans=a_scans from hh))
          ·exact fun hh=>n_a_scans_b_places (Eq.symm (show b_places=a_scans from hh))
         refine ⟨fun _ k2 e2 hm hne=>?_,?_⟩
         ·simp only [List.mem_cons,List.not_mem_nil,or_false,Prod.mk.injEq] at hm
          rcases hm with ⟨rfl,_⟩ | ⟨rfl,_⟩ | ⟨rfl,_⟩ | ⟨rfl,_⟩ | ⟨rfl,_⟩ | ⟨rfl,_⟩
          ·exact fun hh=>n_a_a_places (show a=a_places from hh)
          ·exact fun hh=>n_b_a_places (show b=a_places from hh)
          ·exact fun hh=>n_a_scans_a_places (show a_scans=a_places from hh)
          ·exact absurd rfl hne
          ·exact fun hh=>n_a_places_b_scans (Eq.symm (show b_scans=a_places from hh))
          ·exact fun hh=>n_a_places_b_places (Eq.symm (show b_places=a_places from hh))
         refine ⟨fun _ k2 e2 hm hne=>?_,?_⟩
         ·simp only [List.mem_cons,List.not_mem_nil,or_false,Prod.mk.injEq] at hm
          rcases hm with ⟨rfl,_⟩ | ⟨rfl,_⟩ | ⟨rfl,_⟩ | ⟨rfl,_⟩ | ⟨rfl,_⟩ | ⟨rfl,_⟩
          ·exact fun hh=>n_a_b_scans (show a=b_scans from hh)
          ·exact fun hh=>n_b_b_scans (show b=b_scans from hh)
          ·exact fun hh=>n_a_scans_b_scans (show a_scans=b_scans from hh)
          ·exact fun hh=>n_a_places_b_scans (show a_places=b_scans from hh)
          ·exact absurd rfl hne
          ·exact fun hh=>n_b_scans_b_places (Eq.symm (show b_places=b_scans from hh))
         refine ⟨fun _ k2 e2 hm hne=>?_,?_⟩
         ·simp only [List.mem_cons,List.not_mem_nil,or_false,Prod.mk.injEq] at hm
          rcases hm with ⟨rfl,_⟩ | ⟨rfl,_⟩ | ⟨rfl,_⟩ | ⟨rfl,_⟩ | ⟨rfl,_⟩ | ⟨rfl,_⟩
          ·exact fun hh=>n_a_b_places (show a=b_places from hh)
          ·exact fun hh=>n_b_b_places (show b=b_places from hh)
          ·exact fun hh=>n_a_scans_b_places (show a_scans=b_places from hh)
          ·exact fun hh=>n_a_places_b_places (show a_places=b_places from hh)
          ·exact fun hh=>n_b_scans_b_places (show b_scans=b_places from hh)
          ·exact absurd rfl hne
         trivial
        refine ⟨⟨⟨_,h_a,by simp only [leE,mapEq,SC.ren,and_true,true_and,and_self]<;>first | rfl | exact ⟨rfl,rfl⟩⟩,⟨_,h_b,by simp only [leE,mapEq,SC.ren,and_true,true_and,and_self]<;>first | rfl | exact ⟨rfl,rfl⟩⟩,⟨_,h_a_scans,isM_le i_a_scans⟩,⟨_,h_a_places,isM_le i_a_places⟩,⟨_,h_b_scans,isM_le i_b_scans⟩,⟨_,h_b_places,isM_le i_b_places⟩,trivial⟩,hap,?_⟩
        clear i_a_scans
        generalize decM eSc a_scans_l=a_scansL at *
        clear i_a_places
        generalize decM ePl a_places_l=a_placesL at *
        clear i_b_scans
        generalize decM eSc b_scans_l=b_scansL at *
        clear i_b_places
        generalize decM ePl b_places_l=b_placesL at *
        clear h_a_scans
        clear h_a_places
        clear h_b_scans
        clear h_b_places
        simp (maxSteps:=9999999) only [x10,push_cast,simprocAttr,g11,g41,g12,g13,g42]
        refine ⟨fun h=>?_,fun h=>?_⟩
        ·unfold sameA; rw [decide_eq_false h]; rfl
        have hI:=idsL_len a_scansL a_placesL 64
        have hsm:sameA a_scansL a_placesL b_scansL b_placesL=(idsL a_scansL a_placesL 64).all (sameAt a_scansL a_placesL b_scansL b_placesL):=by unfold sameA; rw [decide_eq_true h,Bool.true_and]
        rw [hsm]
        clear hsm h
        generalize idsL a_scansL a_placesL 64=I at *
        refine vcLoop_upd (α:={k:Nat // k≤I.length∧∀ i,i < k→sameAt a_scansL a_placesL b_scansL b_placesL (I.getD i eI.dflt)=true}) [0,1,22,23] 0 (fun s=>[(24,.o (.c (.v (.int .i64 (s.1:Nat)))))]) (fun s=>[(8,.own (I).length 1 (rowF eI (I)) 3),(0,.box [.n 2,.n 3] a_ty),(1,.box [.n 4,.n 5] b_ty),(2,.dm false (mapF eSc (a_scansL))),(3,.dm false (mapF ePl (a_placesL))),(4,.dm false (mapF eSc (b_scansL))),(5,.dm false (mapF ePl (b_placesL)))]) (fun s=>I.length - s.1) ⟨0,by omega,fun i hi=>by omega⟩ ?_ ?_
        ·simp only [push_cast,simprocAttr,g11,g41,g12,g13,g42]
        rintro ⟨k,hk,hall⟩
        simp only [x10L0,push_cast,simprocAttr,g11,g41,g12,g13,g42]
        refine ⟨fun hlt=>⟨hlt,hlt,hpre.1,hpre.2,fun h=>(all_no hlt (sameAt_no h)).symm,fun q1 q2 q3 q4 q5 q6 q7 q8=>⟨⟨k+1,by omega,fun i hi=>?_⟩,wrapI (by omega) (by omega),by simp only; omega⟩⟩,fun hn=>(all_yes fun i hi=>hall i (by omega)).symm⟩
        by_cases e:i=k
        ·subst e; exact sameAt_yes q1 q2 q3 q4 q5 q6 q7 q8
        ·exact hall i (by omega)
       ·cases hg_
      ·cases hg_
     ·cases hg_
    ·cases hg_
   ·cases hg_
  ·cases hg_
 ·cases hg_
def g9:Con:=fun args_ E_ nn_=>match args_ with
 | [.c (.p a 0),.c (.p b 0)]=>(match E_ a with
  | some (.box [.n a_scans,.n a_places] a_ty)=>(match E_ b with
  | some (.box [.n b_scans,.n b_places] b_ty)=>(match E_ a_scans with
  | some (.dm a_scans_k a_scans_l)=>(match E_ a_places with
  | some (.dm a_places_k a_places_l)=>(match E_ b_scans with
  | some (.dm b_scans_k b_scans_l)=>(match E_ b_places with
  | some (.dm b_places_k b_places_l)=>some (.d (isM eSc a_scans_k a_scans_l∧isM ePl a_places_k a_places_l∧isM eSc b_scans_k b_scans_l∧isM ePl b_places_k b_places_l∧a≠b∧a≠a_scans∧a≠a_places∧a≠b_scans∧a≠b_places∧b≠a_scans∧b≠a_places∧b≠b_scans∧b≠b_places∧a_scans≠a_places∧a_scans≠b_scans∧a_scans≠b_places∧a_places≠b_scans∧a_places≠b_places∧b_scans≠b_places∧okS (decM eSc a_scans_l)∧okS (decM eSc b_scans_l)) (fun G_=>True) (fun G_=>.o (.c (.v (.int .i64 (0))))) (fun G_=>[(a,.box [.n a_scans,.n a_places] a_ty),(a_scans,.dm false (mapF eSc (reV (joinH (shS (decM eSc a_scans_l)) (decM eSc b_scans_l) (idsL (decM eSc b_scans_l) (decM ePl b_places_l) 64)) G_))),(a_places,.dm false (mapF ePl (joinQ (decM ePl a_places_l) (decM ePl b_places_l) (idsL (decM eSc b_scans_l) (decM ePl b_places_l) 64)))),(b,.box [.n b_scans,.n b_places] b_ty),(b_scans,.dm false (mapF eSc ((decM eSc b_scans_l)))),(b_places,.dm false (mapF ePl ((decM ePl b_places_l))))]) (nn_+0))
  | _=>none)
  | _=>none)
  | _=>none)
  | _=>none)
  | _=>none)
  | _=>none)
 | _=>none
theorem c9:COk Tryz.prog 9 g9:=by
 refine cok_g Tryz.func9 x9_ok (by kernel_rfl) (cok_tab (cok_cons c11 (cok_cons c39 (cok_cons c40 (cok_cons c1050016 (cok_cons c1050032 cok_nil)))))) ?_
 intro args_ E_ nn_ cr_ hg_
 unfold g9 at hg_
 split at hg_
 ·rename_i a b
  split at hg_
  ·rename_i a_scans a_places a_ty h_a
   split at hg_
   ·rename_i b_scans b_places b_ty h_b
    split at hg_
    ·rename_i a_scans_k a_scans_l h_a_scans
     split at hg_
     ·rename_i a_places_k a_places_l h_a_places
      split at hg_
      ·rename_i b_scans_k b_scans_l h_b_scans
       split at hg_
       ·rename_i b_places_k b_places_l h_b_places
        cases hg_
        refine ⟨_,_,_,_,_,rfl,6,[a,b,a_scans,a_places,b_scans,b_places],[.c (.p 0 0),.c (.p 1 0)],[(0,.box [.n 2,.n 3] a_ty),(1,.box [.n 4,.n 5] b_ty),(2,.dm eSc.k (mapF eSc (decM eSc a_scans_l))),(3,.dm ePl.k (mapF ePl (decM ePl a_places_l))),(4,.dm eSc.k (mapF eSc (decM eSc b_scans_l))),(5,.dm ePl.k (mapF ePl (decM ePl b_places_l)))],(fun G_=>.o (.c (.v (.int .i64 (0))))),(fun G_=>[(0,.box [.n 2,.n 3] a_ty),(2,.dm false (mapF eSc (reV (joinH (shS (decM eSc a_scans_l)) (decM eSc b_scans_l) (idsL (decM eSc b_scans_l) (decM ePl b_places_l) 64)) G_))),(3,.dm false (mapF ePl (joinQ (decM ePl a_places_l) (decM ePl b_places_l) (idsL (decM eSc b_scans_l) (decM ePl b_places_l) 64)))),(1,.box [.n 4,.n 5] b_ty),(4,.dm false (mapF eSc ((decM eSc b_scans_l)))),(5,.dm false (mapF ePl ((decM ePl b_places_l))))]),6,rfl,(fun _=>rfl),(fun _=>by simp only [renE,Ent.ren,renAl,rowF_renf]<;>rfl),rfl,by decide,by simp only [push_cast,Nat.reduceLT,Nat.reduceAdd],by simp only [push_cast,Nat.reduceLT,Nat.reduceAdd],(fun _=>by simp only [push_cast,Nat.reduceLT,Nat.reduceAdd]),(fun _=>by simp only [push_cast,Nat.reduceLT,Nat.reduceAdd]),rfl,⟨⟨_,h_a⟩,⟨_,h_b⟩,⟨_,h_a_scans⟩,⟨_,h_a_places⟩,⟨_,h_b_scans⟩,⟨_,h_b_places⟩,trivial⟩,(fun _=>by simp only [keysNodup,outN,keys]<;>decide),(fun _=>rfl),(fun _=>.inr ⟨.inl rfl,.inl rfl,.inl rfl,.inl rfl,.inl rfl,.inl rfl,trivial⟩),?_⟩
        intro hpre hlen
        obtain ⟨i_a_scans,hpre⟩:=hpre
        obtain ⟨i_a_places,hpre⟩:=hpre
        obtain ⟨i_b_scans,hpre⟩:=hpre
        obtain ⟨i_b_places,hpre⟩:=hpre
        obtain ⟨n_a_b,hpre⟩:=hpre
        obtain ⟨n_a_a_scans,hpre⟩:=hpre
        obtain ⟨n_a_a_places,hpre⟩:=hpre
        obtain ⟨n_a_b_scans,hpre⟩:=hpre
        obtain ⟨n_a_b_places,hpre⟩:=hpre
        obtain ⟨n_b_a_scans,hpre⟩:=hpre
        obtain ⟨n_b_a_places,hpre⟩:=hpre
        obtain ⟨n_b_b_scans,hpre⟩:=hpre
        obtain ⟨n_b_b_places,hpre⟩:=hpre
        obtain ⟨n_a_scans_a_places,hpre⟩:=hpre
        obtain ⟨n_a_scans_b_scans,hpre⟩:=hpre
        obtain ⟨n_a_scans_b_places,hpre⟩:=hpre
        obtain ⟨n_a_places_b_scans,hpre⟩:=hpre
        obtain ⟨n_a_places_b_places,hpre⟩:=hpre
        obtain ⟨n_b_scans_b_places,hpre⟩:=hpre
        have hap:apartE (sg 6 nn_ [a,b,a_scans,a_places,b_scans,b_places]) [(0,.box [.n 2,.n 3] a_ty),(1,.box [.n 4,.n 5] b_ty),(2,.dm eSc.k (mapF eSc (decM eSc a_scans_l))),(3,.dm ePl.k (mapF ePl (decM ePl a_places_l))),(4,.dm eSc.k (mapF eSc (decM eSc b_scans_l))),(5,.dm ePl.k (mapF ePl (decM ePl b_places_l)))] [(0,.box [.n 2,.n 3] a_ty),(1,.box [.n 4,.n 5] b_ty),(2,.dm eSc.k (mapF eSc (decM eSc a_scans_l))),(3,.dm ePl.k (mapF ePl (decM ePl a_places_l))),(4,.dm eSc.k (mapF eSc (decM eSc b_scans_l))),(5,.dm ePl.k (mapF ePl (decM ePl b_places_l)))]:=by
         refine ⟨fun _ k2 e2 hm hne=>?_,?_⟩
         ·simp only [List.mem_cons,List.not_mem_nil,or_false,Prod.mk.injEq] at hm
          rcases hm with ⟨rfl,_⟩ | ⟨rfl,_⟩ | ⟨rfl,_⟩ | ⟨rfl,_⟩ | ⟨rfl,_⟩ | ⟨rfl,_⟩
          ·exact absurd rfl hne
          ·exact fun hh=>n_a_b (Eq.symm (show b=a from hh))
          ·exact fun hh=>n_a_a_scans (Eq.symm (show a_scans=a from hh))
          ·exact fun hh=>n_a_a_places (Eq.symm (show a_places=a from hh))
          ·exact fun hh=>n_a_b_scans (Eq.symm (show b_scans=a from hh))
          ·exact fun hh=>n_a_b_places (Eq.symm (show b_places=a from hh))
         refine ⟨fun _ k2 e2 hm hne=>?_,?_⟩
         ·simp only [List.mem_cons,List.not_mem_nil,or_false,Prod.mk.injEq] at hm
          rcases hm with ⟨rfl,_⟩ | ⟨rfl,_⟩ | ⟨rfl,_⟩ | ⟨rfl,_⟩ | ⟨rfl,_⟩ | ⟨rfl,_⟩
          ·exact fun hh=>n_a_b (show a=b from hh)
          ·exact absurd rfl hne
          ·exact fun hh=>n_b_a_scans (Eq.symm (show a_scans=b from hh))
          ·exact fun hh=>n_b_a_places (Eq.symm (show a_places=b from hh))
          ·exact fun hh=>n_b_b_scans (Eq.symm (show b_scans=b from hh))
          ·exact fun hh=>n_b_b_places (Eq.symm (show b_places=b from hh))
         refine ⟨fun _ k2 e2 hm hne=>?_,?_⟩
         ·simp only [List.mem_cons,List.not_mem_nil,or_false,Prod.mk.injEq] at hm
          rcases hm with ⟨rfl,_⟩ | ⟨rfl,_⟩ | ⟨rfl,_⟩ | ⟨rfl,_⟩ | ⟨rfl,_⟩ | ⟨rfl,_⟩
          ·exact fun hh=>n_a_a_scans (show a=a_scans from hh)
          ·exact fun hh=>n_b_a_scans (show b=a_scans from hh)
          ·exact absurd rfl hne
          ·exact fun hh=>n_a_scans_a_places (Eq.symm (show a_places=a_scans from hh))
          ·exact fun hh=>n_a_scans_b_scans (Eq.symm (show b_scans=a_scans from hh))
          ·exact fun hh=>n_a_scans_b_places (Eq.symm (show b_places=a_scans from hh))
         refine ⟨fun _ k2 e2 hm hne=>?_,?_⟩
         ·simp only [List.mem_cons,List.not_mem_nil,or_false,Prod.mk.injEq] at hm
          rcases hm with ⟨rfl,_⟩ | ⟨rfl,_⟩ | ⟨rfl,_⟩ | ⟨rfl,_⟩ | ⟨rfl,_⟩ | ⟨rfl,_⟩
          ·exact fun hh=>n_a_a_places (show a=a_places from hh)
          ·exact fun hh=>n_b_a_places (show b=a_places from hh)
          ·exact fun hh=>n_a_scans_a_places (show a_scans=a_places from hh)
          ·exact absurd rfl hne
          ·exact fun hh=>n_a_places_b_scans (Eq.symm (show b_scans=a_places from hh))
          ·exact fun hh=>n_a_places_b_places (Eq.symm (show b_places=a_places from hh))
         refine ⟨fun _ k2 e2 hm hne=>?_,?_⟩
         ·simp only [List.mem_cons,List.not_mem_nil,or_false,Prod.mk.injEq] at hm
          rcases hm with ⟨rfl,_⟩ | ⟨rfl,_⟩ | ⟨rfl,_⟩ | ⟨rfl,_⟩ | ⟨rfl,_⟩ | ⟨rfl,_⟩
          ·exact fun hh=>n_a_b_scans (show a=b_scans from hh)
          ·exact fun hh=>n_b_b_scans (show b=b_scans from hh)
          ·exact fun hh=>n_a_scans_b_scans (show a_scans=b_scans from hh)
          ·exact fun hh=>n_a_places_b_scans (show a_places=b_scans from hh)
          ·exact absurd rfl hne
          ·exact fun hh=>n_b_scans_b_places (Eq.symm (show b_places=b_scans from hh))
         refine ⟨fun _ k2 e2 hm hne=>?_,?_⟩
         ·simp only [List.mem_cons,List.not_mem_nil,or_false,Prod.mk.injEq] at hm
          rcases hm with ⟨rfl,_⟩ | ⟨rfl,_⟩ | ⟨rfl,_⟩ | ⟨rfl,_⟩ | ⟨rfl,_⟩ | ⟨rfl,_⟩
          ·exact fun hh=>n_a_b_places (show a=b_places from hh)
          ·exact fun hh=>n_b_b_places (show b=b_places from hh)
          ·exact fun hh=>n_a_scans_b_places (show a_scans=b_places from hh)
          ·exact fun hh=>n_a_places_b_places (show a_places=b_places from hh)
          ·exact fun hh=>n_b_scans_b_places (show b_scans=b_places from hh)
          ·exact absurd rfl hne
         trivial
        refine ⟨⟨⟨_,h_a,by simp only [leE,mapEq,SC.ren,and_true,true_and,and_self]<;>first | rfl | exact ⟨rfl,rfl⟩⟩,⟨_,h_b,by simp only [leE,mapEq,SC.ren,and_true,true_and,and_self]<;>first | rfl | exact ⟨rfl,rfl⟩⟩,⟨_,h_a_scans,isM_le i_a_scans⟩,⟨_,h_a_places,isM_le i_a_places⟩,⟨_,h_b_scans,isM_le i_b_scans⟩,⟨_,h_b_places,isM_le i_b_places⟩,trivial⟩,hap,?_⟩
        clear i_a_scans
        generalize decM eSc a_scans_l=a_scansL at *
        clear i_a_places
        generalize decM ePl a_places_l=a_placesL at *
        clear i_b_scans
        generalize decM eSc b_scans_l=b_scansL at *
        clear i_b_places
        generalize decM ePl b_places_l=b_placesL at *
        clear h_a_scans
        clear h_a_places
        clear h_b_scans
        clear h_b_places
        simp (maxSteps:=9999999) only [x9,push_cast,simprocAttr,g11,g39,g40,g1050016,g1050032]
        have hI:=idsL_len b_scansL b_placesL 64
        generalize idsL b_scansL b_placesL 64=I at *
        refine vcLoop_upd (α:={s:Nat × List SE // s.1≤I.length∧shS s.2=joinH (shS a_scansL) b_scansL (I.take s.1)∧okS s.2}) [0,1,18,19] 0 (fun s=>[(20,.o (.c (.v (.int .i64 (s.1.1:Nat)))))]) (fun s=>[(6,.own (I).length 1 (rowF eI (I)) 3),(0,.box [.n 2,.n 3] a_ty),(1,.box [.n 4,.n 5] b_ty),(2,.dm false (mapF eSc (s.1.2))),(3,.dm false (mapF ePl (joinQ a_placesL b_placesL (I.take s.1.1)))),(4,.dm false (mapF eSc (b_scansL))),(5,.dm false (mapF ePl (b_placesL)))]) (fun s=>I.length - s.1.1) ⟨(0,a_scansL),by simp only; omega,rfl,hpre.1⟩ ?_ ?_
        ·simp only [push_cast,simprocAttr,g11,g39,g40,g1050016,g1050032]
         exact .inl rfl
        rintro ⟨⟨k,S⟩,hk,hsh,hok⟩
        simp only at hk hsh hok
        have hd1:=findDM_S (I.getD k eI.dflt) b_scansL
        have hd2:=findDM_Q (I.getD k eI.dflt) b_placesL
        cases hf1:lkS b_scansL (I.getD k eI.dflt) with
        | none=>
         cases hf2:lkP b_placesL (I.getD k eI.dflt) with
         | none=>
          rw [hf1] at hd1; rw [hf2] at hd2
          simp only [Option.map_none,Option.map_some] at hd1 hd2
          simp only [x9L0,push_cast,simprocAttr,g11,g39,g40,g1050016,g1050032,hd1,hd2]
          refine ⟨fun hlt=>?_,fun hn=>?_⟩
          ·have hj1:=joinH_take (shS a_scansL) b_scansL hlt
           have hj2:=joinQ_take a_placesL b_placesL hlt
           rw [hf1] at hj1; rw [hf2] at hj2
           simp only at hj1 hj2
           exact ⟨hlt,hlt,⟨(k+1,S),by simp only; omega,by simp only; rw [hj1,← hsh],hok⟩,⟨wrapI (by omega) (by omega),.inl rfl,.inl (by rw [hj2])⟩,by simp only; omega⟩
          ·obtain rfl:k=I.length:=by omega
           rw [List.take_length] at hsh ⊢
           exact ⟨fun _ j=>(S.getD j ⟨0,.bool false,[]⟩).v,.inl (by rw [← hsh,reV_of]),.inl rfl⟩
         | some w=>
          rw [hf1] at hd1; rw [hf2] at hd2
          simp only [Option.map_none,Option.map_some] at hd1 hd2
          simp only [x9L0,push_cast,simprocAttr,g11,g39,g40,g1050016,g1050032,hd1,hd2]
          refine ⟨fun hlt=>?_,fun hn=>?_⟩
          ·have hj1:=joinH_take (shS a_scansL) b_scansL hlt
           have hj2:=joinQ_take a_placesL b_placesL hlt
           rw [hf1] at hj1; rw [hf2] at hj2
           simp only at hj1 hj2
           exact ⟨hlt,hlt,⟨(k+1,S),by simp only; omega,by simp only; rw [hj1,← hsh],hok⟩,⟨wrapI (by omega) (by omega),.inl rfl,.inl (by rw [hj2])⟩,by simp only; omega⟩
          ·obtain rfl:k=I.length:=by omega
           rw [List.take_length] at hsh ⊢
           exact ⟨fun _ j=>(S.getD j ⟨0,.bool false,[]⟩).v,.inl (by rw [← hsh,reV_of]),.inl rfl⟩
        | some u=>
         cases hf2:lkP b_placesL (I.getD k eI.dflt) with
         | none=>
          rw [hf1] at hd1; rw [hf2] at hd2
          simp only [Option.map_none,Option.map_some] at hd1 hd2
          simp only [x9L0,push_cast,simprocAttr,g11,g39,g40,g1050016,g1050032,hd1,hd2]
          refine ⟨fun hlt=>?_,fun hn=>?_⟩
          ·have hj1:=joinH_take (shS a_scansL) b_scansL hlt
           have hj2:=joinQ_take a_placesL b_placesL hlt
           rw [hf1] at hj1; rw [hf2] at hj2
           simp only at hj1 hj2
           exact ⟨hlt,hlt,hok,fun G=>⟨⟨(k+1,putL S (I.getD k eI.dflt) u.l (G 0 0)),by simp only; omega,by simp only; rw [hj1,← hsh,putH_S],okS_put hok⟩,⟨wrapI (by omega) (by omega),.inl rfl,.inl (by rw [hj2])⟩,by simp only; omega⟩⟩
          ·obtain rfl:k=I.length:=by omega
           rw [List.take_length] at hsh ⊢
           exact ⟨fun _ j=>(S.getD j ⟨0,.bool false,[]⟩).v,.inl (by rw [← hsh,reV_of]),.inl rfl⟩
         | some w=>
          rw [hf1] at hd1; rw [hf2] at hd2
          simp only [Option.map_none,Option.map_some] at hd1 hd2
          simp only [x9L0,push_cast,simprocAttr,g11,g39,g40,g1050016,g1050032,hd1,hd2]
          refine ⟨fun hlt=>?_,fun hn=>?_⟩
          ·have hj1:=joinH_take (shS a_scansL) b_scansL hlt
           have hj2:=joinQ_take a_placesL b_placesL hlt
           rw [hf1] at hj1; rw [hf2] at hj2
           simp only at hj1 hj2
           exact ⟨hlt,hlt,hok,fun G=>⟨⟨(k+1,putL S (I.getD k eI.dflt) u.l (G 0 0)),by simp only; omega,by simp only; rw [hj1,← hsh,putH_S],okS_put hok⟩,⟨wrapI (by omega) (by omega),.inl rfl,.inl (by rw [hj2])⟩,by simp only; omega⟩⟩
          ·obtain rfl:k=I.length:=by omega
           rw [List.take_length] at hsh ⊢
           exact ⟨fun _ j=>(S.getD j ⟨0,.bool false,[]⟩).v,.inl (by rw [← hsh,reV_of]),.inl rfl⟩
       ·cases hg_
      ·cases hg_
     ·cases hg_
    ·cases hg_
   ·cases hg_
  ·cases hg_
 ·cases hg_
end Go.Proofs.YtgpbokembopapaaGreat
namespace Go.Proofs.YtgpbokembopapaaGreat
open Go.Sx Go.Way
theorem awk_putE:putE 3 [⟨0,96⟩]=0:=by decide
theorem awk_plcE:plcE 3 ⟨1,false,32,32,0⟩=0:=by decide
end Go.Proofs.YtgpbokembopapaaGreat
