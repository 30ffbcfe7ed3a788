/- A part of the proof of a statement about this seat: how a function is stepped through, and plain laws. No conditions. -/
import Derived.Test.YtgpbokembopapaaGreatRows
import Derived.Test.YtgpbokembopapaaGreatFLSz4
import Derived.RangeFuncMany
import Derived.RangeFuncLeaves
import Derived.Sort.MapsRangeIn
import Derived.WalkKit
import Derived.OwnWalkIn
import Derived.TacticsInMore
import Derived.RegionIn
import Derived.LoopNIn
import Derived.LoopIn
import Derived.RangeFuncGives
import Derived.Maps.AppendAt
import Derived.Shelf.Abstract
import Derived.Test.YtgpbokembopapaaGreatFLM1
import Derived.KernelRfl
set_option linter.unusedVariables false
set_option linter.unusedSimpArgs false
set_option maxRecDepth 20000
namespace Go.Proofs.YtgpbokembopapaaGreat
open Go.Sx Go.Way
section
open Go.Maps Go.Sort Go.Shelf Go.RowKit
variable {F:Fence} {n:Nat} {P:Program} {w w':World} {ops:Array Oper} {rest:List Oper} {o:Oper} {a:Act} {Q:Exit→Act→World→Prop}
theorem wpl_range (hg:o.guard=none) (m:Operand) (t:TypeId) (hop:o.op=Op.range t m) {v:Value} (hrun:(Instr.range t (a.eval m)).run P w = .ok v w') (hK:wpListIn F n P ops Q rest (a.put o.dst v) w'):wpListIn F n P ops Q (o :: rest) a w:=by
 refine wpListIn_plain hg fun K' hK'=>?_
 unfold Oper.wpIn
 refine ⟨by simp [Oper.about,hop],?_⟩
 rw [Oper.semAt_plain F _ _ (by rw [hop]; intro c hc'; cases hc')]
 simp [execOp,hop,hrun,Result.andThen]
 exact hK' _ _ hK
theorem wpl_next (hg:o.guard=none) (it:Operand) (hop:o.op=Op.next it false) {v:Value} (hrun:(Instr.next (a.eval it) false o.type).run P w = .ok v w') (hK:wpListIn F n P ops Q rest (a.put o.dst v) w'):wpListIn F n P ops Q (o :: rest) a w:=by
 refine wpListIn_plain hg fun K' hK'=>?_
 unfold Oper.wpIn
 refine ⟨by simp [Oper.about,hop],?_⟩
 rw [Oper.semAt_plain F _ _ (by rw [hop]; intro c hc'; cases hc')]
 simp [execOp,hop,hrun,Result.andThen]
 exact hK' _ _ hK
structure MapAt (W:World) (b:Nat) (es:Array MapEntry) (q:Nat→EE):Prop where
 obj:W.heap[b]?=some (.map es es.size)
 born:BornOk es es.size
 val:∀ (i:Nat) (e:MapEntry),es[i]?=some e→e.val = .agg #[.int .i64 (q i).X,.int .i64 (q i).Y,.int .i64 (q i).H,.int .i64 (q i).P]
def AbidesD {β:Type} (B:Nat) (J:β→World→Prop):Prop :=
 ∀ s W W' row,J s W→W.grownBy W' row→W.drawn≤W'.drawn→(∀ r,row=some r→B≤r∧∃ o:Obj,W.heap[r]?=some o∧o.isWalk=true)→J s W'
theorem run_append_one {P:Program} {w:World} (base:Nat) (t ty e:TypeId) (i:TypeInfo) (z:Value) (size bytes:Nat) (ht:P.underlying t=some (.slice e)) (hi:P.info? e=some i) (hz:i.zero=some z)
  (hsize:i.size=size) (hby:i.bytes=bytes) (hzs:z.cells.size=size) (hsz:0 < size) (v:Value) (n:Nat) (xs:List Value) (hown:w.ownsRow base e size v n xs)
  (a:Addr) (c:Nat) (news:List Value) (hl:news.length=1 * size) (hnews:∀ j u,news[j]?=some u→w.cell? (a.add j)=some u) (h1:∀ u∈news,u.oneCell'=true)
  (h63:n+1≤maxLen) (hbytes:(n+1) * bytes≤140737488355328) (hbase:base≤w.heap.size) :
  ∃ v' w',(Builtin.append_ #[t,t] ty #[v,.slice (some a) 1 c]).run P w = .ok v' w'∧w'.ownsRow base e size v' (n+1) (xs++news)∧w.grownBy w' v.ownBlock∧w.drawn≤w'.drawn:=by
 obtain ⟨v',w',hrun,r1,r2,_⟩:=run_append_own (P:=P) w base t ty e i z size bytes ht hi hz hsize hby hzs hsz v n xs hown a 1 c news hl hnews h1 h63 hbytes hbase
 refine ⟨v',w',hrun,r1,r2,?_⟩
 have hml:(maxLen:Nat)=maxLen:=rfl
 simp only [maxLen] at h63
 subst hsize
 subst hby
 have key:∀ v2 w2,(Builtin.append_ #[t,t] ty #[v,.slice (some a) 1 c]).run P w = .ok v2 w2→w.drawn≤w2.drawn→w.drawn≤w'.drawn:=by
  intro v2 w2 h2 h3
  rw [hrun] at h2
  cases h2
  exact h3
 rcases hown.2 with ⟨rfl,rfl⟩ | ⟨g,cap,cur,rfl,hbg,hg,hnc,hcm,hcs,htake⟩
 ·have hr:=run_append_nil (P:=P) w t ty e i z ht hi hz a 1 c news hl hnews (by omega) (by omega) (by have hb:=hbytes; simp only [Nat.zero_add] at hb; omega)
  exact key _ _ hr (Nat.le_succ _)
 ·by_cases hroom:n+1≤cap
  ·have hfit:n * i.size+news.length≤cur.size:=by rw [hl,hcs,← Nat.add_mul]; exact Nat.mul_le_mul_right _ hroom
   have hr:=run_append_room (P:=P) w t ty e i ht hi g n cap cur hg a 1 c news hl hnews h1 hroom hfit
   exact key _ _ hr (Nat.le_refl _)
  ·have holds:∀ j u,xs[j]?=some u→w.cell? ((⟨g,0,none⟩:Addr).add j)=some u:=hown.cells (g:=g) rfl
   have hr:=run_append_grow (P:=P) w t ty e i z ht hi hz ⟨g,0,none⟩ n cap xs hown.1 holds a 1 c news hl hnews (by omega) (by omega) (growslice_fits (by omega) hbytes)
   exact key _ _ hr (Nat.le_succ _)
theorem wpl_append (hg:o.guard=none) (s x:Operand) (t:TypeId) (hop:o.op=Op.call { callee:=Callee.builtin Builtin.append,args:=#[s,x],argTypes:=#[t,t] })
  (base:Nat) (e:TypeId) (i:TypeInfo) (z:Value) (size bytes:Nat) (h1:P.underlying t=some (.slice e)) (h2:P.info? e=some i) (h3:i.zero=some z) (h4:i.size=size) (h5:i.bytes=bytes) (h6:z.cells.size=size) (h7:0 < size)
  (v:Value) (k:Nat) (xs:List Value) (hs:a.eval s=v) (hown:w.ownsRow base e size v k xs) (ad:Addr) (c:Nat) (news:List Value) (hx:a.eval x = .slice (some ad) 1 c) (hn:news.length=1 * size)
  (hc:∀ j u,news[j]?=some u→w.cell? (ad.add j)=some u) (h1c:∀ u∈news,u.oneCell'=true) (b1:k+1≤maxLen) (b2:(k+1) * bytes≤140737488355328) (b3:base≤w.heap.size)
  (hK:∀ v' w',w'.ownsRow base e size v' (k+1) (xs++news)→w.grownBy w' v.ownBlock→w.drawn≤w'.drawn→wpListIn F n P ops Q rest (a.put o.dst v') w'):wpListIn F n P ops Q (o :: rest) a w:=by
 refine wpListIn_plain hg fun K' hK'=>?_
 obtain ⟨v',w',hrun,r1,r2,r3⟩:=run_append_one (P:=P) (w:=w) base t o.type e i z size bytes h1 h2 h3 h4 h5 h6 h7 v k xs hown ad c news hn hc h1c b1 b2 b3
 unfold Oper.wpIn
 refine ⟨?_,?_⟩
 ·simp [Oper.about,hop,resolve,Target.leads,Sem.run_pure]
 ·rw [Oper.semAt_plain F _ _ (by rw [hop]; intro c hc'; cases hc')]
  simp [execOp,hop,resolve,invoke,builtin,hs,hx,hrun,Result.andThen]
  exact hK' _ _ (hK v' w' r1 r2 r3)
theorem drewW_heap {w w':World} (h:drewW w w'):w'.heap=w.heap∧w'.os=w.os∧w'.tape=w.tape∧w'.output=w.output∧w.drawn≤w'.drawn:=by
 rcases h with rfl | rfl
 ·exact ⟨rfl,rfl,rfl,rfl,Nat.le_refl _⟩
 ·exact ⟨rfl,rfl,rfl,rfl,Nat.le_succ _⟩
end
section
open Go.Maps Go.Sort Go.Shelf Go.RowKit
set_option maxRecDepth 100000 in
set_option maxHeartbeats 1000000 in
theorem valuesIt (F:Fence) (n:Nat) (hf:F.fn 129) (hro:F.round=none) (hn:1≤n) (l Bm b:Nat) (es:Array MapEntry) (q:Nat→EE) (J:List Nat→World→Prop)
  (hY:∀ pre j W,J pre W→someOf es.size pre→j < es.size→j ∉ pre→YieldAt F (n - 1) Tryz.prog l #[.agg #[.int .i64 (q j).X,.int .i64 (q j).Y,.int .i64 (q j).H,.int .i64 (q j).P]] W fun e W'=>e = .returned (.bool true)∧J (pre++[j]) W'∧KeepsWalks W W')
  (W:World) (hJ:AbidesD W.heap.size J) (hm:W.cell? ⟨Bm,0,none⟩=some (.map (some b))) (hown:MapAt W b es q) (h0:J [] W) :
  CallsIn F n Tryz.prog 129 #[.func (.yield l) #[] #[],.pointer (some ⟨Bm,0,none⟩)] W fun e W'=>(∃ v,e = .returned v)∧∃ sn,someOf es.size sn∧es.size≤sn.length∧J sn W':=by
 have hblt:b < W.heap.size:=(Array.getElem?_eq_some_iff.1 hown.obj).1
 have hrng:(Instr.range 100 (.map (some b))).run Tryz.prog W = .ok (.pointer (some ⟨W.heap.size,0,none⟩)) (W.alloc (.mapIter (some b) es.size #[] es.size)):=by
  have g:(getObj b).run Tryz.prog W = .ok (.map es es.size) W:=by simp [getObj,Sem.run,hown.obj]
  simp only [Instr.range,Sem.run_bind,run_underlying Tryz.underlying100,Result.andThen_ok,g,Sem.run_pure]
  simp [newObj,Sem.run]
 obtain ⟨w0,hw0⟩:∃ w0,W.alloc (.mapIter (some b) es.size #[] es.size)=w0:=⟨_,rfl⟩
 rw [hw0] at hrng
 have hg0:W.grownBy w0 none:=by rw [← hw0]; exact ⟨rfl,rfl,rfl,by simp,fun k hk _=>Below.heap_alloc _ _ k hk⟩
 have hd0:W.drawn≤w0.drawn:=by rw [← hw0]; exact Nat.le_refl _
 have hb0:w0.heap[b]?=some (.map es es.size):=by rw [← hw0]; exact (Below.heap_alloc _ _ b hblt).trans hown.obj
 have hi0:w0.heap[W.heap.size]?=some (.mapIter (some b) es.size ([]:List Nat).toArray es.size):=by rw [← hw0]; exact World.alloc_heap_new W _
 have hs0:w0.heap.size=W.heap.size+1:=by rw [← hw0]; simp
 refine callsIn_of_wp Tryz.func129 rfl hf ?_ hro
 simp only [Tryz.ntmps129,List.size_toArray,List.length_cons,List.length_nil,Nat.reduceAdd,Nat.reduceSub,Array.replicate_succ,Array.replicate_zero,List.push_toArray,List.append_toArray,List.nil_append,List.cons_append]
 gi_wp2_with (first
  | (gi_at_range; refine wpl_range rfl _ 100 rfl hrng ?_)
  | gi_in)
 clear hrng
 go_frame
 gi_loopw [4] (fun _ wr=>∃ sn:List Nat,someOf es.size sn∧wr.heap[b]?=some (.map es es.size)∧wr.heap[W.heap.size]?=some (.mapIter (some b) es.size sn.toArray es.size)∧J sn wr)
  (fun _ wr=>es.size - (match wr.heap[W.heap.size]? with | some (.mapIter _ _ sn _)=>sn.size | _=>0))
 case atStart=>
  exact ⟨[],⟨List.nodup_nil,fun a h=>by cases h⟩,hb0,hi0,hJ [] W w0 none h0 hg0 hd0 (fun r e=>by cases e)⟩
 case round=>
  obtain ⟨sn,hsn,hmb,hit,hJs⟩:=hrel
  rcases run_next (P:=Tryz.prog) (w:=wr) 0 hmb hit hown.born hsn with ⟨hc,hrun⟩ | ⟨hc,j,e,w1,hjn,hej,hjl,hdr,hrun⟩
  ·gi_wp2_with (first
    | (gi_at_next; refine wpl_next rfl _ rfl hrun ?_)
    | gi_in)
   go_end0
   exact ⟨⟨_,rfl⟩,sn,hsn,hc,hJs⟩
  ·have hj2:es[j]?=some e:=hej
   obtain ⟨w2,hw2⟩:∃ w2,({ w1 with heap:=wr.heap.setIfInBounds W.heap.size (.mapIter (some b) es.size (sn++[j]).toArray es.size) }:World)=w2:=⟨_,rfl⟩
   rw [hw2,hown.val j e hej] at hrun
   have hlt:W.heap.size < wr.heap.size:=(Array.getElem?_eq_some_iff.1 hit).1
   have hbr:b≠W.heap.size:=by omega
   have hit2:w2.heap[W.heap.size]?=some (.mapIter (some b) es.size (sn++[j]).toArray es.size):=by
    rw [← hw2]; simp [hlt]
   have hmb2:w2.heap[b]?=some (.map es es.size):=by
    rw [← hw2]; simp [Array.getElem?_setIfInBounds,hbr.symm,hmb]
   have hd2:wr.drawn≤w2.drawn:=by rw [← hw2]; exact (drewW_heap hdr).2.2.2.2
   have hgr:wr.grownBy w2 (some W.heap.size):=by
    obtain ⟨d1,d2,d3,d4,d5⟩:=drewW_heap hdr
    rw [← hw2]
    refine ⟨d2,d3,d4,by simp,fun k hk hne=>?_⟩
    have:W.heap.size≠k:=fun h=>hne (by rw [h])
    simp [Array.getElem?_setIfInBounds,this]
   have hJ2:J sn w2:=hJ sn wr w2 (some W.heap.size) hJs hgr hd2 (fun r e=>by cases e; exact ⟨Nat.le_refl _,_,hit,rfl⟩)
   have hsn2:=someOf_push hsn hjl hjn
   have hen:=run_entry (P:=Tryz.prog) (w:=w2) hmb2 hit2 hown.born (by simp) hej
   rw [hown.val j e hej] at hen
   clear hw2
   have hJ3:J sn (w2.alloc (Obj.cells #[Value.int IntKind.i64 (q j).X,Value.int IntKind.i64 (q j).Y,Value.int IntKind.i64 (q j).H,Value.int IntKind.i64 (q j).P] 119)):=hJ sn w2 _ none hJ2 (World.grownBy_alloc _ _ none) (Nat.le_refl _) (fun r e=>by cases e)
   have hmb3:(w2.alloc (Obj.cells #[Value.int IntKind.i64 (q j).X,Value.int IntKind.i64 (q j).Y,Value.int IntKind.i64 (q j).H,Value.int IntKind.i64 (q j).P] 119)).heap[b]?=some (.map es es.size):=(Below.heap_alloc _ _ b (Array.getElem?_eq_some_iff.1 hmb2).1).trans hmb2
   have hit3:(w2.alloc (Obj.cells #[Value.int IntKind.i64 (q j).X,Value.int IntKind.i64 (q j).Y,Value.int IntKind.i64 (q j).H,Value.int IntKind.i64 (q j).P] 119)).heap[W.heap.size]?=some (.mapIter (some b) es.size (sn++[j]).toArray es.size):=(Below.heap_alloc _ _ _ (Array.getElem?_eq_some_iff.1 hit2).1).trans hit2
   obtain ⟨fn,tmps,assign,body,hy,hR⟩:=hY sn j _ hJ3 hsn hjl hjn
   gi_wp2_with (first
    | (gi_at_next; refine wpl_next rfl _ rfl hrun ?_)
    | gi_in)
   refine hR.mono ?_
   rintro e4 W4 ⟨rfl,hJ4,hk4⟩
   gi_wp2
   have hmb4:=hk4.same b _ hmb3 rfl
   have hit4:=hk4.same W.heap.size _ hit3 rfl
   go_roundw
   case rel=>exact ⟨sn++[j],hsn2,hmb4,hit4,hJ4⟩
   case measure=>rw [hit4,hit]; simp; omega
end
section
open Go.Maps Go.Sort Go.Shelf Go.RowKit
def eCells (e:EE):List Value:=[.int .i64 e.X,.int .i64 e.Y,.int .i64 e.H,.int .i64 e.P]
def qCells (q:Nat→EE) (sn:List Nat):List Value:=sn.flatMap (fun j=>eCells (q j))
theorem qCells_snoc (q:Nat→EE) (sn:List Nat) (j:Nat):qCells q (sn++[j])=qCells q sn++eCells (q j):=by simp [qCells]
theorem cell_four_new (w:World) (a b c d:Value) (t:TypeId):∀ j u,[a,b,c,d][j]?=some u→(w.alloc (.cells #[a,b,c,d] t)).cell? ((⟨w.heap.size,0,none⟩:Addr).add j)=some u:=by
 intro j u hj
 have hc:∀ k,World.cell? (w.alloc (.cells #[a,b,c,d] t)) ⟨w.heap.size,k,none⟩=#[a,b,c,d][k]?:=fun k=>by simp only [World.cell?,World.alloc_heap_new]; rfl
 match j,hj with
 | 0,hj=>simp at hj; subst hj; simp [Addr.add,hc]
 | 1,hj=>simp at hj; subst hj; simp [Addr.add,hc]
 | 2,hj=>simp at hj; subst hj; simp [Addr.add,hc]
 | 3,hj=>simp at hj; subst hj; simp [Addr.add,hc]
def apAssign : Code := (Code.region 2 #[{ dst := some 5, op := Op.alloc 119, type := 0, pos := "iter.go:51", after := #[], guard := none }, { dst := none, op := Op.store 119 (Operand.tmp 5) (Operand.tmp 7), type := 0, pos := "iter.go:51", after := #[{ on := 0, ground := Ground.data }, { on := 0, ground := Ground.phase }], guard := none }] false)
def apBody : Code := (Code.block 1 (Code.region 3 #[{ dst := some 8, op := Op.load 39 (Operand.tmp 2), type := 39, pos := "iter.go:52", after := #[], guard := none }, { dst := some 9, op := Op.load 119 (Operand.tmp 5), type := 119, pos := "iter.go:52", after := #[], guard := none }, { dst := some 10, op := Op.buildSlice 39 1 #[(0, Operand.tmp 9)], type := 39, pos := "iter.go:52", after := #[{ on := 1, ground := Ground.data }], guard := none }, { dst := some 11, op := Op.call { callee := Callee.builtin Builtin.append, args := #[Operand.tmp 8, Operand.tmp 10], argTypes := #[39, 39] }, type := 39, pos := "iter.go:52", after := #[{ on := 0, ground := Ground.data }, { on := 2, ground := Ground.data }], guard := none }, { dst := none, op := Op.store 39 (Operand.tmp 2) (Operand.tmp 11), type := 0, pos := "iter.go:52", after := #[{ on := 3, ground := Ground.data }, { on := 3, ground := Ground.chain }, { on := 0, ground := Ground.phase }, { on := 1, ground := Ground.phase }, { on := 2, ground := Ground.phase }, { on := 3, ground := Ground.phase }], guard := none }] false))
def apRec (fn:FuncId) (sv:Value) (Bs D:Nat) (st:LoopState) (pend:Option Code):Loop :=
 { state:=st,pending:=pend,fn,tmps:=#[.slice none 0 0,sv,.pointer (some ⟨Bs,0,none⟩),undef,.slice none 0 0,undef,sv,undef,undef,undef,undef,undef,undef],params:=#[7],assign:=apAssign,body:=apBody,defers:=D }
structure ApAt (q:Nat→EE) (w0:World) (fn:FuncId) (sv:Value) (Bs l D:Nat) (ss:List Nat) (W:World):Prop where
 box:∃ v,W.heap[Bs]?=some (.cells #[v] 39 (0,0))∧W.ownsRow w0.heap.size 119 4 v ss.length (qCells q ss)∧(v = .slice none 0 0 ↔ ss=[])
 L:W.heap[l]?=some (.loop (apRec fn sv Bs D .ready none))
 K:W.heap[D]?=some (.deferred (some []))
 below:Below w0.heap.size w0 W
 dr:w0.drawn≤W.drawn
theorem ownsRow_abides {W W':World} {row:Option Nat} {base:Nat} {e:TypeId} {size:Nat} {v:Value} {k:Nat} {xs:List Value} (h:W.ownsRow base e size v k xs) (hg:W.grownBy W' row)
  (hrow:∀ r,row=some r→∃ o:Obj,W.heap[r]?=some o∧o.isWalk=true):W'.ownsRow base e size v k xs:=by
 refine h.kept hg ?_
 rcases h.2 with ⟨rfl,_⟩ | ⟨g,cap,cur,rfl,_,hgb,_⟩
 ·exact .inl rfl
 ·refine .inr fun e'=>?_
  obtain ⟨o,ho,hw⟩:=hrow g (by simpa [Value.ownBlock] using e'.symm)
  rw [hgb] at ho; cases ho; cases hw
theorem ap_abides (q:Nat→EE) (w0:World) (fn:FuncId) (sv:Value) (Bs l D B:Nat) (hB:w0.heap.size≤B):AbidesD B (ApAt q w0 fn sv Bs l D):=fun s W W' row h hg hdr hrow=>by
 have hrow':∀ r,row=some r→∃ o:Obj,W.heap[r]?=some o∧o.isWalk=true:=fun r e=>(hrow r e).2
 obtain ⟨v,hv,hr,hn⟩:=h.box
 exact ⟨⟨v,(grownBy_keeps hg hrow' hv rfl).trans hv,ownsRow_abides hr hg hrow',hn⟩,(grownBy_keeps hg hrow' h.L rfl).trans h.L,(grownBy_keeps hg hrow' h.K rfl).trans h.K,
  h.below.grown hg h.below.size (fun k e=>Nat.le_trans hB (hrow k e).1),Nat.le_trans h.dr hdr⟩
theorem grownBy_putObj (W:World) (l:Nat) (o:Obj):W.grownBy (W.putObj l o) (some l) :=
 ⟨rfl,rfl,rfl,by simp,fun k _ hk=>World.putObj_heap_other (fun e=>hk (by rw [e]))⟩
theorem grownBy_setCell0 (W:World) (b:Nat) (v:Value):W.grownBy (W.setCell ⟨b,0,none⟩ v) (some b) :=
 ⟨rfl,rfl,rfl,(KeepsWalks.setCell W _ v).size,fun k _ hk=>Below.heap_setCell _ _ _ k (fun e=>hk (by rw [e]))⟩
theorem ownsRow_ne {W:World} {base:Nat} {e:TypeId} {size:Nat} {v:Value} {k:Nat} {xs:List Value} (h:W.ownsRow base e size v k xs) {j:Nat} {o:Obj} (hj:W.heap[j]?=some o) (hno:∀ cur,o≠.cells cur e (0,0)) :
  v.ownBlock=none∨v.ownBlock≠some j:=by
 rcases h.2 with ⟨rfl,_⟩ | ⟨g,cap,cur,rfl,_,hgb,_⟩
 ·exact .inl rfl
 ·refine .inr fun e'=>?_
  have:g=j:=by simpa [Value.ownBlock] using e'
  subst this; rw [hgb] at hj; cases hj; exact hno cur rfl
theorem cell_of_box {W:World} {B:Nat} {v:Value} {t:TypeId} (h:W.heap[B]?=some (.cells #[v] t (0,0))):W.cell? ⟨B,0,none⟩=some v∧W.frozen? ⟨B,0,none⟩=false:=by
 constructor<;>simp [World.cell?,World.frozen?,h]
theorem heap_setCell_box {W:World} {B:Nat} {v:Value} {t:TypeId} (v':Value) (h:W.heap[B]?=some (.cells #[v] t (0,0))):(W.setCell ⟨B,0,none⟩ v').heap[B]?=some (.cells #[v'] t (0,0)):=by
 obtain ⟨hlt,hk⟩:=Array.getElem?_eq_some_iff.1 h
 show (W.heap.modify B _)[B]?=_
 rw [Array.getElem?_eq_getElem (by rw [Array.size_modify]; exact hlt),Array.getElem_modify_self,hk]
 rfl
theorem ownsRow_not_walk {W:World} {base:Nat} {e:TypeId} {size:Nat} {v:Value} {k:Nat} {xs:List Value} (h:W.ownsRow base e size v k xs):∀ (j:Nat) (o:Obj),v.ownBlock=some j→W.heap[j]?=some o→o.isWalk=false:=by
 intro j o hj ho
 rcases h.2 with ⟨rfl,_⟩ | ⟨g,cap,cur,rfl,_,hgb,_⟩
 ·simp [Value.ownBlock] at hj
 ·have:g=j:=by simpa [Value.ownBlock] using hj
  subst this; rw [hgb] at ho; cases ho; rfl
theorem info119:(Tryz.prog.info? 119).map (fun i=>(i.zero,i.size,i.bytes))=some (some (.agg #[.int .i64 0,.int .i64 0,.int .i64 0,.int .i64 0]),4,32):=by kernel_rfl
set_option maxRecDepth 100000 in
set_option maxHeartbeats 2000000 in
theorem apYield (q:Nat→EE) (F:Fence) (m:Nat) (w0:World) (fn:FuncId) (hfn:F.fn fn) (sv:Value) (Bs l D:Nat) (hBl:Bs≠l) (hDl:D≠l) (hDB:D≠Bs) (h0B:w0.heap.size≤Bs) (h0l:w0.heap.size≤l)
    (N:Nat) (hN:N≤maxLen) (hNb:N * 32≤140737488355328) (ss:List Nat) (x:Nat) (W:World) (h:ApAt q w0 fn sv Bs l D ss W) (hlen:ss.length < N) :
    YieldAt F m Tryz.prog l #[.agg #[.int .i64 (q x).X,.int .i64 (q x).Y,.int .i64 (q x).H,.int .i64 (q x).P]] W fun e W'=>e = .returned (.bool true)∧ApAt q w0 fn sv Bs l D (ss++[x]) W'∧KeepsWalks W W':=by
  obtain ⟨i0,hi,hz0,hz1,hz2⟩:=info_parts info119
  refine ⟨fn,#[.slice none 0 0,sv,.pointer (some ⟨Bs,0,none⟩),undef,.slice none 0 0,undef,sv,.agg #[.int .i64 (q x).X,.int .i64 (q x).Y,.int .i64 (q x).H,.int .i64 (q x).P],undef,undef,undef,undef,undef],apAssign,apBody,by simpa [apRec] using run_yield (P:=Tryz.prog) (args:=#[(.agg #[.int .i64 (q x).X,.int .i64 (q x).Y,.int .i64 (q x).H,.int .i64 (q x).P])]) h.L rfl,roundIn_of_wpIn hfn ?_⟩
  obtain ⟨v0,hv0,_,_⟩:=h.box
  have hBW:Bs < W.heap.size:=(Array.getElem?_eq_some_iff.1 hv0).1
  have hlW:l < W.heap.size:=(Array.getElem?_eq_some_iff.1 h.L).1
  unfold apAssign
  gi_wp2_with (rw [Oper.semAt_eq _ _ _ (fun c h=>by cases h)]; go_simp; try go_bits)
  have h:=ap_abides q w0 fn sv Bs l D w0.heap.size (Nat.le_refl _) ss W _ none h (World.grownBy_alloc W (Obj.cells #[Value.int .i64 (q x).X,Value.int .i64 (q x).Y,Value.int .i64 (q x).H,Value.int .i64 (q x).P] 119) none) (Nat.le_refl _) (fun r e=>by cases e)
  have hvar:=World.alloc_heap_new W (Obj.cells #[Value.int .i64 (q x).X,Value.int .i64 (q x).Y,Value.int .i64 (q x).H,Value.int .i64 (q x).P] 119)
  have hkA:=KeepsWalks.alloc W (Obj.cells #[Value.int .i64 (q x).X,Value.int .i64 (q x).Y,Value.int .i64 (q x).H,Value.int .i64 (q x).P] 119)
  have hsA:(W.alloc (Obj.cells #[Value.int .i64 (q x).X,Value.int .i64 (q x).Y,Value.int .i64 (q x).H,Value.int .i64 (q x).P] 119)).heap.size=W.heap.size+1:=by simp
  obtain ⟨WA,hWA⟩:∃ WA,W.alloc (Obj.cells #[Value.int .i64 (q x).X,Value.int .i64 (q x).Y,Value.int .i64 (q x).H,Value.int .i64 (q x).P] 119)=WA:=⟨_,rfl⟩
  rw [hWA] at h hvar hkA hsA ⊢
  clear hWA
  obtain ⟨v,hv,hrow,_⟩:=h.box
  have hl:l < WA.heap.size:=(Array.getElem?_eq_some_iff.1 h.L).1
  have hbr:=run_beginRound (P:=Tryz.prog) h.L rfl
  have hdW:=h.dr
  obtain ⟨W2,hW2⟩:∃ W2,WA.putObj l (.loop { apRec fn sv Bs D .ready none with state:=.busy })=W2:=⟨_,rfl⟩
  rw [hW2] at hbr
  have hg2:WA.grownBy W2 (some l):=by rw [← hW2]; exact grownBy_putObj _ _ _
  have hk2:KeepsWalks WA W2:=by rw [← hW2]; exact KeepsWalks.putObj _ h.L rfl
  have hv2:W2.heap[Bs]?=some (.cells #[v] 39 (0,0)):=by rw [← hW2]; exact (World.putObj_heap_other hBl).trans hv
  have hK2:W2.heap[D]?=some (.deferred (some [])):=by rw [← hW2]; exact (World.putObj_heap_other hDl).trans h.K
  have hL2:W2.heap[l]?=some (.loop { apRec fn sv Bs D .ready none with state:=.busy }):=by rw [← hW2]; exact World.putObj_heap_same hl
  have hrow2:W2.ownsRow w0.heap.size 119 4 v ss.length (qCells q ss):=hrow.kept hg2 (ownsRow_ne hrow h.L (fun cur e=>by cases e))
  have hb2:Below w0.heap.size w0 W2:=h.below.grown hg2 h.below.size (fun k e=>by cases e; exact h0l)
  obtain ⟨hc2,hf2⟩:=cell_of_box hv2
  have hBlt:Bs < W2.heap.size:=(Array.getElem?_eq_some_iff.1 hv2).1
  have hl2:l < W2.heap.size:=(Array.getElem?_eq_some_iff.1 hL2).1
  have hDlt:D < W2.heap.size:=(Array.getElem?_eq_some_iff.1 hK2).1
  have ne_of:∀ {j:Nat} {o:Obj},W2.heap[j]?=some o→(∀ cur,o≠.cells cur 119 (0,0))→some j≠v.ownBlock:=fun hj hno=>by
    rcases ownsRow_ne hrow2 hj hno with e | e
    · rw [e]; simp
    · exact fun e'=>e e'.symm
  have hd2:WA.drawn=W2.drawn:=by rw [← hW2]; rfl
  have hvar2:W2.heap[W.heap.size]?=some (Obj.cells #[Value.int .i64 (q x).X,Value.int .i64 (q x).Y,Value.int .i64 (q x).H,Value.int .i64 (q x).P] 119):=by rw [← hW2]; exact (World.putObj_heap_other (by omega)).trans hvar
  have hsz2:W2.heap.size=W.heap.size+1:=by rw [← hW2]; simp [hsA]
  clear hW2
  have hcell:∀ k,World.cell? W2 ⟨W.heap.size,k,none⟩=#[Value.int .i64 (q x).X,Value.int .i64 (q x).Y,Value.int .i64 (q x).H,Value.int .i64 (q x).P][k]?:=fun k=>by simp only [World.cell?,hvar2]; rfl
  have hk0:=hcell 0
  have hk1:=hcell 1
  have hk2':=hcell 2
  have hk3:=hcell 3
  simp only [List.getElem?_toArray,List.getElem?_cons_zero,List.getElem?_cons_succ] at hk0 hk1 hk2' hk3
  have hA:∀ k,k < W2.heap.size→(W2.alloc (Obj.cells #[Value.int .i64 (q x).X,Value.int .i64 (q x).Y,Value.int .i64 (q x).H,Value.int .i64 (q x).P] 119)).heap[k]?=W2.heap[k]?:=fun k hk=>Below.heap_alloc _ _ k hk
  have hfour:∀ j u,(eCells (q x))[j]?=some u→(W2.alloc (Obj.cells #[Value.int .i64 (q x).X,Value.int .i64 (q x).Y,Value.int .i64 (q x).H,Value.int .i64 (q x).P] 119)).cell? ((⟨W.heap.size+1,0,none⟩:Addr).add j)=some u:=by rw [← hsz2]; exact cell_four_new W2 _ _ _ _ 119
  unfold apBody
  gi_wp2_with (first
    | (gi_at_builtin; refine wpl_append rfl _ _ 39 rfl w0.heap.size 119 i0 (.agg #[.int .i64 0,.int .i64 0,.int .i64 0,.int .i64 0]) 4 32 Tryz.underlying39 hi hz0 hz1 hz2 rfl (by decide) _ _ _ rfl (hrow2.alloc _) ⟨W.heap.size+1,0,none⟩ 1 (eCells (q x)) rfl rfl hfour (by simp [Value.oneCell',eCells]) (by omega) (by omega) (by have:=hb2.size; simp; omega) ?_; intro v' w3 hown' hg3 hd3
       have hv3:w3.heap[Bs]?=some (.cells #[v] 39 (0,0)):=(hg3.block Bs (by simp; omega) (ne_of hv2 (fun cur e=>by cases e))).trans ((hA Bs hBlt).trans hv2)
       obtain ⟨hc3,hf3⟩:=cell_of_box hv3
       obtain ⟨g',cap',cur',rfl,hbase',hgb',hr1,hr2,hr3,hr4⟩:∃ g' cap' cur',v' = .slice (some ⟨g',0,none⟩) (ss.length+1) cap'∧w0.heap.size≤g'∧w3.heap[g']?=some (.cells cur' 119 (0,0))∧ss.length+1≤cap'∧cap'≤maxLen∧cur'.size=cap' * 4∧cur'.toList.take ((ss.length+1) * 4)=qCells q ss++eCells (q x):=by
         rcases hown'.2 with ⟨_,h0⟩ | h'
         · exact absurd h0 (by omega)
         · exact h'
       go_frame)
    | (rw [Oper.semAt_eq _ _ _ (fun c h=>by cases h)]; go_simp; try go_bits))
  have hg3':(W2.alloc (Obj.cells #[Value.int .i64 (q x).X,Value.int .i64 (q x).Y,Value.int .i64 (q x).H,Value.int .i64 (q x).P] 119)).grownBy w3 v.ownBlock:=hg3
  have hL3:w3.heap[l]?=some (.loop { apRec fn sv Bs D .ready none with state:=.busy }):=(hg3'.block l (by simp; omega) (ne_of hL2 (fun cur e=>by cases e))).trans ((hA l hl2).trans hL2)
  have hK3:w3.heap[D]?=some (.deferred (some [])):=(hg3'.block D (by simp; omega) (ne_of hK2 (fun cur e=>by cases e))).trans ((hA D hDlt).trans hK2)
  obtain ⟨w4,hw4⟩:∃ w4,w3.setCell ⟨Bs,0,none⟩ (.slice (some ⟨g',0,none⟩) (ss.length+1) cap')=w4:=⟨_,rfl⟩
  rw [hw4]
  have hg4:w3.grownBy w4 (some Bs):=by rw [← hw4]; exact grownBy_setCell0 _ _ _
  have hd4:w3.drawn=w4.drawn:=by rw [← hw4]; rfl
  have hd3':W2.drawn≤w3.drawn:=hd3
  have hv4:w4.heap[Bs]?=some (.cells #[.slice (some ⟨g',0,none⟩) (ss.length+1) cap'] 39 (0,0)):=by rw [← hw4]; exact heap_setCell_box _ hv3
  have hL4:w4.heap[l]?=some (.loop { apRec fn sv Bs D .ready none with state:=.busy }):=(hg4.block l (Array.getElem?_eq_some_iff.1 hL3).1 (fun e=>hBl (by cases e; rfl))).trans hL3
  have hK4:w4.heap[D]?=some (.deferred (some [])):=(hg4.block D (Array.getElem?_eq_some_iff.1 hK3).1 (fun e=>hDB (by cases e; rfl))).trans hK3
  have hrow4:=hown'.kept hg4 (ownsRow_ne hown' hv3 (fun cur e=>by cases e))
  have hl4:l < w4.heap.size:=(Array.getElem?_eq_some_iff.1 hL4).1
  have hb3:Below w0.heap.size w0 w3:=(hb2.alloc hb2.size _).grown hg3' (by have:=hb2.size; simp; omega) (fun k e=>(hrow2.lt k e).1)
  have hb4:Below w0.heap.size w0 w4:=hb3.grown hg4 hb3.size (fun k e=>by cases e; exact h0B)
  have hk4:KeepsWalks WA w4:=((hk2.trans (KeepsWalks.alloc _ _)).trans (KeepsWalks.of_grownBy hg3' (ownsRow_not_walk (hrow2.alloc _)))).trans (by rw [← hw4]; exact KeepsWalks.setCell _ _ _)
  clear hw4
  refine ⟨_,_,run_endRound none hL4,rfl,⟨⟨_,(World.putObj_heap_other hBl).trans hv4,?_,by simp⟩,World.putObj_heap_same hl4,(World.putObj_heap_other hDl).trans hK4,hb4.grown (grownBy_putObj _ _ _) hb4.size (fun k e=>by cases e; exact h0l),(by show w0.drawn≤w4.drawn; omega)⟩,hkA.trans (hk4.trans (KeepsWalks.putObj _ hL4 rfl))⟩
  have:=hrow4.kept (grownBy_putObj w4 l (.loop { { apRec fn sv Bs D .ready none with state:=.busy } with state:=if (none:Option Code).isNone then .ready else .done,pending:=none })) (ownsRow_ne hrow4 hL4 (fun cur e=>by cases e))
  rw [qCells_snoc,List.length_append]
  exact this
end
section
open Go.Maps Go.Sort Go.Shelf Go.RowKit
set_option maxRecDepth 100000 in
set_option maxHeartbeats 2000000 in
theorem appendSeq_in (F:Fence) (n:Nat) (h11:F.fn 128) (hro:F.round=none) (hn:3≤n) (hFg:F.fn 129) (q:Nat→EE) (w:World) (Bm b:Nat) (es:Array MapEntry) (hm:w.cell? ⟨Bm,0,none⟩=some (.map (some b))) (hBm:Bm < w.heap.size) (hown:MapAt w b es q)
    (hN:es.size≤maxLen) (hNb:es.size * 32≤140737488355328) :
    CallsIn F n Tryz.prog 128 #[.slice none 0 0,.func (.func 129) #[] #[.pointer (some ⟨Bm,0,none⟩)]] w fun e w'=>∃ (v:Value) (ss:List Nat),e = .returned v∧(someOf es.size ss∧es.size≤ss.length)∧w'.ownsRow w.heap.size 119 4 v ss.length (qCells q ss)∧Below w.heap.size w w'∧w.drawn≤w'.drawn:=by
  have eg:∀ args w,(callFunc 129 args).run Tryz.prog w = .ok (.enter 129 args) w:=enters_of Tryz.func129 (by kernel_rfl) rfl
  have h1:1≤n:=by omega
  refine callsIn_of_wp_marks Tryz.func128 rfl h11 ?_ hro
  simp only [Tryz.ntmps128,List.size_toArray,List.length_cons,List.length_nil,Nat.reduceAdd,Nat.reduceSub,Array.replicate_succ,Array.replicate_zero,List.push_toArray,List.append_toArray,List.nil_append,List.cons_append]
  gi_wp2
  refine wpIn_rangeFunc ?_
  intro fn hfn
  rw [hro]
  obtain ⟨W0,hW0⟩:∃ W0,w.alloc (.cells #[.slice none 0 0] 39)=W0:=⟨_,rfl⟩
  have hs0:W0.heap.size=w.heap.size+1:=by rw [← hW0]; simp
  have hv0:W0.heap[w.heap.size]?=some (.cells #[.slice none 0 0] 39 (0,0)):=by rw [← hW0]; exact World.alloc_heap_new w _
  have hb0:Below w.heap.size w W0:=by rw [← hW0]; exact (Below.refl _ w).alloc (Nat.le_refl _) _
  rw [hW0]
  obtain ⟨W1,hW1⟩:∃ W1,(W0.alloc (.deferred (some []))).alloc (.loop (apRec fn (.func (.func 129) #[] #[.pointer (some ⟨Bm,0,none⟩)]) w.heap.size W0.heap.size .ready none))=W1:=⟨_,rfl⟩
  have hold:∀ k,k < W0.heap.size→W1.heap[k]?=W0.heap[k]?:=fun k hk=>by
    rw [← hW1]; exact (Below.heap_alloc _ _ k (by simp; omega)).trans (Below.heap_alloc _ _ k hk)
  have hb1:Below w.heap.size w W1:=by rw [← hW1]; exact (hb0.alloc hb0.size _).alloc (by have:=hb0.size; simp; omega) _
  have hd1:w.drawn≤W1.drawn:=by rw [← hW1,← hW0]; exact Nat.le_refl _
  have hs1:W1.heap.size=W0.heap.size+2:=by rw [← hW1]; simp
  have hM:ApAt q w fn (.func (.func 129) #[] #[.pointer (some ⟨Bm,0,none⟩)]) w.heap.size (W0.heap.size+1) W0.heap.size [] W1 :=
    ⟨⟨_,(hold w.heap.size (by omega)).trans hv0,⟨rfl,.inl ⟨rfl,rfl⟩⟩,by simp⟩,
     by rw [← hW1]; have:=World.alloc_heap_new (W0.alloc (.deferred (some []))) (.loop (apRec fn (.func (.func 129) #[] #[.pointer (some ⟨Bm,0,none⟩)]) w.heap.size W0.heap.size .ready none)); rwa [World.size_alloc] at this,
     by rw [← hW1]; exact (Below.heap_alloc _ _ _ (by simp)).trans (World.alloc_heap_new W0 _),hb1,hd1⟩
  refine ⟨W0.heap.size+1,[{ target:=.collected W0.heap.size,args:=#[] }],W1,{ target:=.fn (.func 129) #[.pointer (some ⟨Bm,0,none⟩)],args:=#[.func (.yield (W0.heap.size+1)) #[] #[]] },W1,129,
    #[.func (.yield (W0.heap.size+1)) #[] #[]]++#[.pointer (some ⟨Bm,0,none⟩)],W1,?_,?_,?_,?_,fun _=>h1,?_⟩
  · rw [← hW1]; exact run_enterLoop_outer _ _ _ _ _
  · simp [resolve,go_sem]
  · intro f' hf'; simp [Target.leads] at hf'; subst hf'; exact hFg
  · simp [invoke,go_sem,eg]
  · have hcb:W1.cell? ⟨Bm,0,none⟩=some (.map (some b)):=(hb1.cell (p:=⟨Bm,0,none⟩) hBm).trans hm
    have hmw:MapAt W1 b es q:=⟨(hb1.block b (Array.getElem?_eq_some_iff.1 hown.obj).1).trans hown.obj,hown.born,hown.val⟩
    refine (valuesIt F (n - 1) hFg hro (by omega) (W0.heap.size+1) Bm b es q (ApAt q w fn (.func (.func 129) #[] #[.pointer (some ⟨Bm,0,none⟩)]) w.heap.size (W0.heap.size+1) W0.heap.size)
      (fun pre x W hJ hsm hx hxn=>apYield q F (n - 1 - 1) w fn hfn _ w.heap.size (W0.heap.size+1) W0.heap.size (by omega) (by omega) (by omega) (Nat.le_refl _) (by omega) es.size hN hNb pre x W hJ (by have:=someOf_le (someOf_push hsm hx hxn); simp at this; omega)) W1
      (ap_abides _ _ _ _ _ _ _ _ hb1.size) hcb hmw hM).mono ?_
    rintro e W2 ⟨⟨v0,rfl⟩,ss,hS1,hS2,h2⟩
    have hS:someOf es.size ss∧es.size≤ss.length:=⟨hS1,hS2⟩
    obtain ⟨v,hv,hrow,hnil⟩:=h2.box
    have hend:=run_endLoop (P:=Tryz.prog) h2.L (by simp [apRec])
    obtain ⟨W3,hW3⟩:∃ W3,W2.putObj (W0.heap.size+1) (.loop { apRec fn (.func (.func 129) #[] #[.pointer (some ⟨Bm,0,none⟩)]) w.heap.size W0.heap.size .ready none with state:=.exhausted })=W3:=⟨_,rfl⟩
    rw [hW3] at hend
    have hg3:W2.grownBy W3 (some (W0.heap.size+1)):=by rw [← hW3]; exact grownBy_putObj _ _ _
    have hv3:W3.heap[w.heap.size]?=some (.cells #[v] 39 (0,0)):=by rw [← hW3]; exact (World.putObj_heap_other (by omega)).trans hv
    have hK3:W3.heap[W0.heap.size]?=some (.deferred (some [])):=by rw [← hW3]; exact (World.putObj_heap_other (by omega)).trans h2.K
    have hrow3:=hrow.kept hg3 (ownsRow_ne hrow h2.L (fun cur e=>by cases e))
    have hb3:Below w.heap.size w W3:=h2.below.grown hg3 h2.below.size (fun k e=>by cases e; omega)
    obtain ⟨hc3,hf3⟩:=cell_of_box hv3
    have hd3:w.drawn≤W3.drawn:=by rw [← hW3]; exact h2.dr
    clear hW3
    refine ⟨none,W3,hend,?_⟩
    gi_wp2
    rw [← hs0]
    refine ⟨by simp,.inl ⟨_,_,rfl,run_takeDeferred hK3,?_⟩⟩
    exact ⟨_,results_tmp rfl _ _ _,v,ss,rfl,hS,hrow3.kept (grownBy_putObj _ _ _) (ownsRow_ne hrow3 hK3 (fun cur e=>by cases e)),hb3.grown (grownBy_putObj _ _ _) hb3.size (fun k e=>by cases e; omega),hd3⟩
set_option maxHeartbeats 1000000 in
theorem collect_in (F:Fence) (n:Nat) (h8:F.fn 87) (h11:F.fn 128) (hro:F.round=none) (hn:4≤n) (hFg:F.fn 129) (q:Nat→EE) (w:World) (Bm b:Nat) (es:Array MapEntry) (hm:w.cell? ⟨Bm,0,none⟩=some (.map (some b))) (hBm:Bm < w.heap.size) (hown:MapAt w b es q)
  (hN:es.size≤maxLen) (hNb:es.size * 32≤140737488355328) :
  CallsIn F n Tryz.prog 87 #[.func (.func 129) #[] #[.pointer (some ⟨Bm,0,none⟩)]] w fun e w'=>∃ (v:Value) (ss:List Nat),e = .returned v∧(someOf es.size ss∧es.size≤ss.length)∧w'.ownsRow w.heap.size 119 4 v ss.length (qCells q ss)∧Below w.heap.size w w'∧w.drawn≤w'.drawn:=by
 have h1:1≤n:=by omega
 refine callsIn_of_wp Tryz.func87 rfl h8 ?_ hro
 simp only [Tryz.ntmps87,List.size_toArray,List.length_cons,List.length_nil,Nat.reduceAdd,Nat.reduceSub,Array.replicate_succ,Array.replicate_zero,List.push_toArray,List.append_toArray,List.nil_append,List.cons_append]
 gi_wp2_with (gi_at_call 128; refine (appendSeq_in F (n - 1) h11 hro (by omega) hFg q _ Bm b es hm hBm hown hN hNb).mono ?_; rintro e w' ⟨v,ss,rfl,hS,hrow,hb,hd⟩)
 go_ret
 exact ⟨v,ss,rfl,hS,hrow,hb,hd⟩
end
theorem flat_at {α:Type} (f:α→List Value) (hf:∀ a,(f a).length=4):∀ (ss:List α) (e j:Nat) (a:α),ss[e]?=some a→j < 4→(ss.flatMap f)[e * 4+j]?=(f a)[j]?
 | [],e,j,a,h,_=>by simp at h
 | x :: ss,0,j,a,h,hj=>by
  simp only [List.getElem?_cons_zero,Option.some.injEq] at h
  subst h
  rw [List.flatMap_cons,Nat.zero_mul,Nat.zero_add,List.getElem?_append_left (by rw [hf]; exact hj)]
 | x :: ss,e+1,j,a,h,hj=>by
  rw [List.getElem?_cons_succ] at h
  rw [List.flatMap_cons,List.getElem?_append_right (by rw [hf]; omega),hf,show (e+1) * 4+j - 4=e * 4+j by omega]
  exact flat_at f hf ss e j a h hj
theorem map_getD_range {α:Type} (L:List α) (d:α):(List.range L.length).map (fun j=>L.getD j d)=L:=by
 apply List.ext_getElem (by simp)
 intro i h1 h2
 rw [List.getElem_map,List.getElem_range,List.getD_eq_getElem?_getD,List.getElem?_eq_getElem h2]
 rfl
def collCon:Con:=fun args E n=>match args with
 | [.c (.f g [.p bx 0])]=>match E bx with
  | some (.box [.n i] ty)=>match E i with
   | some (.dm k l)=>some (.d (g=129∧isM eTal k l∧l.length≤4398046511104) (fun G=>∃ L':List EE,L'.Perm (decM eTal l)∧G=rowG eE L') (fun G=>.o (.c (.n n))) (fun G=>[(n,.own l.length eE.sz (vF G) 119)]) (n+1))
   | _=>none
  | _=>none
 | _=>none
theorem c87:COk Tryz.prog 87 collCon:=by
 intro args E n hargs hE
 unfold collCon
 split
 ·rename_i g bx
  split
  ·rename_i i ty hEb
   split
   ·rename_i k l hEi
    rintro ⟨rfl,⟨hk,hl⟩,hlen⟩
    refine ⟨Nat.le_succ _,fun G q _ _ h3=>⟨h3 n (Nat.le_refl _) (Nat.lt_succ_self _),fun j e h=>?_⟩,fun G j e h=>?_,fun base M r w hh=>?_⟩
    ·obtain ⟨rfl,rfl⟩:=lk_one1 h; exact ⟨h3 _ (Nat.le_refl _) (Nat.lt_succ_self _),fun e j=>trivial⟩
    ·obtain ⟨rfl,rfl⟩:=lk_one1 h; exact .inr ⟨Nat.le_refl _,Nat.lt_succ_self _⟩
    ·obtain ⟨b,es,clock,g1,g2,g3,g4,g5,g6,g7,hsz,_,_⟩:=dm_obj (P:=Tryz.prog) hh hEi
     obtain ⟨B,p1,p2⟩:=hh.ent bx _ hEb
     have hcl:clock=es.size:=g4.1
     subst hcl
     have hB:B < w.heap.size:=(Array.getElem?_eq_some_iff.1 p2).1
     have hm:w.cell? ⟨B,0,none⟩=some (.map (some b)):=by
      simp only [World.cell?,p2]
      show some (r i)=_
      rw [g1]
     have hval:∀ (j:Nat) (e:MapEntry),es[j]?=some e→e.val = .agg #[.int .i64 ((decM eTal l).getD j eE.dflt).X,.int .i64 ((decM eTal l).getD j eE.dflt).Y,.int .i64 ((decM eTal l).getD j eE.dflt).H,.int .i64 ((decM eTal l).getD j eE.dflt).P]:=by
      intro j e hj
      have h1:(es.toList.map (fun e=>(e.key,e.val)))[j]?=some (e.key,e.val):=by
       rw [List.getElem?_map,Array.getElem?_toList,hj]; rfl
      have hjl:j < (decM eTal l).length:=by
       have:=(Array.getElem?_eq_some_iff.1 hj).1
       unfold decM; rw [List.length_map]; omega
      rw [g3,hl,denDM,mapF,List.getElem?_map,List.getElem?_map,List.getElem?_eq_getElem hjl] at h1
      simp only [Option.map_some,Option.some.injEq,Prod.mk.injEq] at h1
      rw [← h1.2,List.getD_eq_getElem?_getD,List.getElem?_eq_getElem hjl]
      rfl
     have hc:=collect_in Fence.wide 4 trivial trivial rfl (Nat.le_refl _) trivial (fun j=>(decM eTal l).getD j eE.dflt) w B b es hm hB ⟨g2,g4,hval⟩ (by simp only [maxLen]; omega) (by omega)
     have ha:([S1.c (.f 129 [.p bx 0])].map (S1.den r)).toArray=#[.func (.func 129) #[] #[.pointer (some ⟨B,0,none⟩)]]:=by
      show #[Value.func (.func 129) #[] #[.pointer (some ⟨(addrOf (r bx)).block,(addrOf (r bx)).off+0,none⟩)]]=_
      rw [p1]; rfl
     rw [ha]
     refine .inl ⟨by kernel_rfl,(callsIn_wide.1 hc).mono ?_⟩
     rintro e w' ⟨v,ss,rfl,⟨hs1,hs2⟩,hrow,hb,hd⟩
     have hbd:BelowD w.heap.size w w':=⟨hb.os,hb.tape,⟨hb.output,hd⟩,hb.size,hb.block⟩
     have hslen:ss.length=l.length:=by have:=someOf_le hs1; omega
     have hdl:(decM eTal l).length=es.size:=by unfold decM; rw [List.length_map]; omega
     refine ⟨rowG eE (ss.map fun j=>(decM eTal l).getD j eE.dflt),more r n v,⟨_,?_,rfl⟩,fun j hj=>more_ne j (by omega),?_,?_⟩
     ·have:=(someOf_perm hs1 hs2).map (fun j=>(decM eTal l).getD j eE.dflt)
      rw [← hdl,map_getD_range] at this
      exact this
     ·simp only [SV.den,S1.den,SC.den,more_new]
     ·refine hh.mkB (fun j e he=>⟨by have:=(hE j e he).1; omega,Ent.sc_mono (fun i hi=>Nat.ne_of_lt hi) (hE j e he).2⟩) ?_ hbd ?_ ?_
      ·rcases hrow.2 with ⟨rfl,_⟩ | ⟨g,cap,cur,rfl,_⟩<;>rfl
      ·intro b' hb'
       rcases hrow.2 with ⟨rfl,_⟩ | ⟨g,cap,cur,rfl,hg,hgb,_⟩
       ·simp [blkOf] at hb'
       ·simp only [blkOf] at hb'
        split at hb'
        ·cases hb'
        ·cases hb'; exact ⟨hg,(Array.getElem?_eq_some_iff.1 hgb).1⟩
      ·refine ⟨by omega,?_⟩
       rcases hrow.2 with ⟨rfl,h0⟩ | ⟨g,cap,cur,rfl,hg,hgb,hn1,hn2,hcs,htk⟩
       ·exact .inr ⟨none,by rfl,by omega⟩
       ·by_cases h0:cap=0
        ·subst h0
         have:ss.length=0:=by omega
         exact .inr ⟨some ⟨g,0,none⟩,by rw [this],by omega⟩
        ·refine .inl ⟨g,0,cap,cur,by rw [hslen],RowB.of hgb,by omega,by omega,by rw [hcs]; show 0+cap * 4≤cap * 4; omega,fun e j he hj=>?_⟩
         have hes:e < ss.length:=by omega
         have hj4:j < 4:=hj
         have hlt:e * 4+j < ss.length * 4:=by omega
         have h1:(cur.toList.take (ss.length * 4))[e * 4+j]?=cur.toList[e * 4+j]?:=by rw [List.getElem?_take,if_pos hlt]
         rw [htk] at h1
         show cur[0+(e * 4+j)]?=_
         rw [Nat.zero_add,← Array.getElem?_toList,← h1]
         rw [show qCells (fun j=>(decM eTal l).getD j eE.dflt) ss=ss.flatMap (fun j=>eCells ((decM eTal l).getD j eE.dflt)) from rfl]
         rw [flat_at _ (fun _=>rfl) ss e j ss[e] (List.getElem?_eq_getElem hes) hj4]
         have h2:=encV_at eE (ss.map fun j=>(decM eTal l).getD j eE.dflt) (e:=e) (more r n (.slice (some ⟨g,0,none⟩) ss.length cap)) hj
         rw [List.getD_eq_getElem?_getD,List.getElem?_map,List.getElem?_eq_getElem hes] at h2
         rw [rowG_f]
         exact h2
   ·trivial
  ·trivial
 ·trivial
attribute [push_cast] collCon
end Go.Proofs.YtgpbokembopapaaGreat
namespace Go.Proofs.YtgpbokembopapaaGreat
open Go.Sx Go.Way
theorem ixOf_zero {L:List EE} (h:∀ e∈L,zeroE e=false):ixOf zeroE L=-1:=ixOf_none (d:=eE.dflt) fun i hi=>by
 rw [List.getD_eq_getElem?_getD,List.getElem?_eq_getElem hi]
 exact h _ (List.getElem_mem hi)
section
open Go.Sx
variable {α:Type} {cf:α→α→Int}
theorem srtL_congr (h:OrdI cf) {L R:List α} (hd:diffL cf L) (hp:R.Perm L):srtL cf R=srtL cf L:=srtL_uniq h hd ((srtL_perm R).trans hp) (srtL_sorted h R)
theorem diffL_perm (h:OrdI cf) {L R:List α} (hd:diffL cf L) (hp:R.Perm L):diffL cf R:=by
 unfold diffL at *
 exact (hp.pairwise_iff (fun {a b} hab h0=>hab (h.zero h0))).2 hd
theorem srtL_len (L:List α):(srtL cf L).length=L.length:=(srtL_perm L).length_eq
end
def keyE (e:EE):Int × Int:=(e.X,e.Y)
def posE (e:EE):Prop:=0≤e.H∧0≤e.P∧(0 < e.H∨0 < e.P)
theorem cmpE_zero (a b:EE):cmpE a b=0 ↔ keyE a=keyE b:=by
 have h:=cmpC_cases a.X a.Y b.X b.Y
 unfold cmpE keyE
 rw [Prod.mk.injEq]
 omega
theorem diffL_nodup (T:List EE):diffL cmpE T ↔ (T.map keyE).Nodup:=by
 unfold diffL List.Nodup
 rw [List.pairwise_map]
 refine ⟨fun h=>h.imp fun {a b} g e=>g ((cmpE_zero a b).2 e),fun h=>h.imp fun {a b} g e=>g ((cmpE_zero a b).1 e)⟩
theorem addT_keys (x y h p:Int):∀ T:List EE,(addT T x y h p).map keyE=if (x,y)∈T.map keyE then T.map keyE else T.map keyE++[(x,y)]
 | []=>rfl
 | e :: T=>by
  unfold addT
  by_cases g:e.X=x∧e.Y=y
  ·rw [if_pos g,if_pos (by simp [keyE,g.1,g.2])]
   simp [keyE,g.1,g.2]
  ·rw [if_neg g,List.map_cons,addT_keys x y h p T]
   have hne:(x,y)≠keyE e:=fun e1=>g (by unfold keyE at e1; rw [Prod.mk.injEq] at e1; exact ⟨e1.1.symm,e1.2.symm⟩)
   by_cases hm:(x,y)∈T.map keyE
   ·rw [if_pos hm,if_pos (by rw [List.map_cons]; exact List.mem_cons_of_mem _ hm),List.map_cons]
   ·rw [if_neg hm,if_neg (by rw [List.map_cons,List.mem_cons]; exact fun o=>o.elim hne hm),List.map_cons,List.cons_append]
theorem addT_nodup {T:List EE} {x y h p:Int} (hd:(T.map keyE).Nodup):((addT T x y h p).map keyE).Nodup:=by
 rw [addT_keys]
 split
 ·exact hd
 ·rename_i g
  rw [List.nodup_append]
  refine ⟨hd,by simp,fun a ha b hb e=>g ?_⟩
  rw [List.mem_singleton] at hb
  rw [← hb,← e]; exact ha
theorem addT_all {q:EE→Prop} {x y h p:Int}:∀ {T:List EE},(∀ e∈T,q e)→q ⟨x,y,h,p⟩→(∀ e∈T,q e→q ⟨x,y,e.H+h,e.P+p⟩)→∀ e∈addT T x y h p,q e
 | [],_,h1,_,e,he=>by simp only [addT,List.mem_singleton] at he; subst he; exact h1
 | a :: T,h0,h1,h2,e,he=>by
  unfold addT at he
  split at he
  ·rcases List.mem_cons.1 he with rfl | g
   ·exact h2 a (by simp) (h0 a (by simp))
   ·exact h0 e (by simp [g])
  ·rcases List.mem_cons.1 he with rfl | g
   ·exact h0 _ (by simp)
   ·exact addT_all (fun e' he'=>h0 e' (by simp [he'])) h1 (fun e' he'=>h2 e' (by simp [he'])) e g
theorem addT_len (x y h p:Int):∀ T:List EE,(addT T x y h p).length≤T.length+1
 | []=>by simp [addT]
 | e :: T=>by
  unfold addT
  split
  ·simp
  ·have:=addT_len x y h p T; simp only [List.length_cons]; omega
def atT (T:List EE) (c:Int × Int):Int × Int:=match findT T c.1 c.2 with | some e=>(e.H,e.P) | none=>(0,0)
theorem findT_addT (x y h p a b:Int):∀ T:List EE,findT (addT T x y h p) a b=if (a,b)=(x,y) then some ⟨x,y,(atT T (x,y)).1+h,(atT T (x,y)).2+p⟩ else findT T a b
 | []=>by
  simp only [addT,findT,atT,Prod.mk.injEq]
  by_cases g:a=x∧b=y
  ·rw [if_pos g,if_pos ⟨g.1.symm,g.2.symm⟩]; simp
  ·rw [if_neg g,if_neg (fun o=>g ⟨o.1.symm,o.2.symm⟩)]
 | e :: T=>by
  have ih:=findT_addT x y h p a b T
  unfold addT
  by_cases g:e.X=x∧e.Y=y
  ·rw [if_pos g]
   simp only [findT,atT,if_pos g,Prod.mk.injEq]
   by_cases g2:a=x∧b=y
   ·rw [if_pos g2,if_pos ⟨g2.1.symm,g2.2.symm⟩]
   ·rw [if_neg g2,if_neg (fun o=>g2 ⟨o.1.symm,o.2.symm⟩),if_neg (fun o=>g2 ⟨o.1.symm.trans g.1,o.2.symm.trans g.2⟩)]
  ·rw [if_neg g]
   simp only [findT]
   rw [ih]
   simp only [atT,findT,if_neg g,Prod.mk.injEq]
   by_cases g2:a=x∧b=y
   ·rw [if_pos g2,if_pos g2,if_neg (fun o=>g ⟨o.1.trans g2.1,o.2.trans g2.2⟩)]
   ·rw [if_neg g2,if_neg g2]
theorem atT_addT (T:List EE) (x y h p:Int) (c:Int × Int):atT (addT T x y h p) c=if c=(x,y) then ((atT T c).1+h,(atT T c).2+p) else atT T c:=by
 obtain ⟨a,b⟩:=c
 unfold atT
 simp only
 rw [findT_addT]
 by_cases g:(a,b)=(x,y)
 ·rw [if_pos g,if_pos g]
  cases g
  rfl
 ·rw [if_neg g,if_neg g]
structure TalOk (T:List EE) (n:Nat):Prop where
 nd:(T.map keyE).Nodup
 pos:∀ e∈T,posE e
 bd:okT T (1099511627776 * (n:Int))
 len:T.length≤n
theorem talOk_nil:TalOk [] 0:=⟨List.nodup_nil,(fun e h=>by cases h),(fun e h=>by cases h),Nat.le_refl _⟩
theorem TalOk.add {T:List EE} {n:Nat} (h:TalOk T n) {x y hh pp:Int} (h1:0≤hh∧hh≤1099511627776) (h2:0≤pp∧pp≤1099511627776) (h3:0 < hh∨0 < pp):TalOk (addT T x y hh pp) (n+1):=by
 refine ⟨addT_nodup h.nd,addT_all h.pos ⟨h1.1,h2.1,h3⟩ (fun e he q=>?_),?_,Nat.le_trans (addT_len _ _ _ _ _) (Nat.succ_le_succ h.len)⟩
 ·obtain ⟨q1,q2,q3⟩:=q
  exact ⟨by simp only; omega,by simp only; omega,by simp only; omega⟩
 ·have:=okT_add (c:=1099511627776) (x:=x) (y:=y) (h:=hh) (p:=pp) h.bd (by omega) (by omega) (by omega) (by omega)
  rw [show 1099511627776 * ((n+1:Nat):Int)=1099511627776 * (n:Int)+1099511627776 by push_cast; omega]
  exact this
theorem posE_zero {e:EE} (h:posE e):zeroE e=false:=by
 obtain ⟨h1,h2,h3⟩:=h
 unfold zeroE
 rw [decide_eq_false_iff_not]
 omega
def addL (T L:List EE):List EE:=L.foldl (fun t e=>addT t e.X e.Y e.H e.P) T
theorem addL_take {L:List EE} {k:Nat} (T:List EE) (h:k < L.length):addL T (L.take (k+1))=addT (addL T (L.take k)) (L.getD k eE.dflt).X (L.getD k eE.dflt).Y (L.getD k eE.dflt).H (L.getD k eE.dflt).P:=by
 unfold addL
 rw [List.take_add_one,List.getElem?_eq_getElem h,List.foldl_append]
 simp only [Option.toList_some,List.foldl_cons,List.foldl_nil,List.getD_eq_getElem?_getD,List.getElem?_eq_getElem h,Option.getD_some]
theorem cntE_bd {e:EE} (h:cntB e=true) (hp:posE e):(0≤e.H∧e.H≤1099511627776)∧(0≤e.P∧e.P≤1099511627776)∧(0 < e.H∨0 < e.P):=by
 unfold cntB winB at h
 simp only [Bool.and_eq_true,decide_eq_true_eq] at h
 obtain ⟨h1,h2,h3⟩:=hp
 exact ⟨⟨h1,h.1.2⟩,⟨h2,h.2.2⟩,h3⟩
theorem TalOk.addL {T:List EE} {n:Nat} (h:TalOk T n):∀ {L:List EE},(∀ e∈L,cntB e=true∧posE e)→TalOk (addL T L) (n+L.length)
 | [],_=>h
 | e :: L,hL=>by
  obtain ⟨h1,h2,h3⟩:=cntE_bd (hL e (by simp)).1 (hL e (by simp)).2
  have:=(h.add (x:=e.X) (y:=e.Y) h1 h2 h3).addL (L:=L) (fun e' he=>hL e' (by simp [he]))
  rw [show n+(e :: L).length=n+1+L.length by simp; omega]
  exact this
def sumT (A B:List EE):List EE:=addL (addL [] A) B
def posL (L:List EE):Prop:=∀ e∈L,posE e
def sameC (x y:Int) (c:CC):Bool:=decide (x=c.X) && decide (y=c.Y)
theorem valE_all {L:List EE} (h:valE L=true) (hp:posL L):∀ e∈L,cntB e=true∧posE e:=by
 intro e he
 refine ⟨?_,hp e he⟩
 obtain ⟨i,hi,rfl⟩:=List.getElem_of_mem he
 have:=(valE_get h).2 i hi
 unfold okE goodE at this
 rw [List.getD_eq_getElem?_getD,List.getElem?_eq_getElem hi] at this
 simp only [Option.getD_some,Bool.and_eq_true] at this
 exact this.1.1.1.1
theorem TalOk.wide {T:List EE} {n:Nat} (h:TalOk T n) (hn:n≤4194303):okT T 4611686018427387903:=by
 intro e he
 have:=h.bd e he
 omega
theorem TalOk.part {T:List EE} {n k:Nat} (h:TalOk T n) {L:List EE} (hL:∀ e∈L,cntB e=true∧posE e) (hk:k≤L.length):TalOk (YtgpbokembopapaaGreat.addL T (L.take k)) (n+k):=by
 have:=h.addL (L:=L.take k) (fun e he=>hL e (List.mem_of_mem_take he))
 rw [List.length_take,Nat.min_eq_left hk] at this
 exact this
theorem getE_mem {L:List EE} {k:Nat} (h:k < L.length):L.getD k eE.dflt∈L:=by
 rw [List.getD_eq_getElem?_getD,List.getElem?_eq_getElem h]; exact List.getElem_mem h
theorem wide_none {L R:List EE} (hp:R.Perm L) (h:L.all cntB=true):R.any wideE=false:=by
 rw [List.any_eq_false]
 intro e he
 rw [List.all_eq_true] at h
 unfold wideE
 rw [h e (hp.mem_iff.1 he)]
 simp
def x88:XFn:=⟨4,(.seq (.reg false [O1 1 (.box 100) 0,⟨(some 2),.mv,[(.k .nilFunc)],none⟩]) (.seq (.reg false [⟨(some 3),(.x (.mkf 129)),[(.t 1)],none⟩,O1 2 .mv 3]) .ret)),[(.s 2)]⟩
theorem x88_ok:xfn Tryz.prog Tryz.f88=some x88.er:=by kernel_rfl
def x89L0:XC:=(.seq (.seq (.reg false [O1 16 .mv 6,O1 17 .mv 0,O1 18 .lenS 17,O2 19 (.bin .lss) 16 18]) (.cond (.t 19) .skip (.exit 0))) (.seq (.block 1 (.seq (.reg false [O1 22 .mv 0,O1 23 .mv 6,O2 24 (.ixS 4) 22 23,O1 25 (.loadN 4) 24,⟨(some 7),(.alloc 119 [(iV 0),(iV 0),(iV 0),(iV 0)]),[],none⟩,⟨none,(.store 4),[(.t 7),(.t 25)],none⟩]) (.seq (.reg false [O1 26 .mv 1,O1 27 (.loadN 4) 7,O2 28 .callv 26 27,O1 29 (.un .not) 28]) (.cond (.t 29) (.seq (.reg false [O1 30 .mv 0,O1 31 .mv 5,O1 32 (.loadN 4) 7,O2 33 (.ixS 4) 30 31,⟨none,(.store 4),[(.t 33),(.t 32)],none⟩]) (.reg false [O1 34 .mv 5,K2 35 (.bin .add) 34 (iV 1),O1 5 .mv 35])) .skip)))) (.reg false [O1 20 .mv 6,K2 21 (.bin .add) 20 (iV 1),O1 6 .mv 21])))
def x89:XFn:=⟨42,(.seq (.reg false [K1 4 .mv (.slice none 0 0)]) (.seq (.reg false [O1 8 .mv 0,O1 9 .mv 1,O2 10 (.call 130) 8 9,O1 5 .mv 10]) (.seq (.seq (.reg false [O1 11 .mv 5,K2 12 (.bin .eql) 11 (iV (-1))]) (.cond (.t 12) (.seq (.reg false [O1 13 .mv 0,O1 4 .mv 13]) .ret) .skip)) (.seq (.seq (.reg false [O1 14 .mv 5,K2 15 (.bin .add) 14 (iV 1),O1 6 .mv 15]) (.block 0 (.loop x89L0))) (.seq (.reg false [O1 36 .mv 0,O1 37 .mv 5,O2 38 (.slc 4 true false false) 36 37,⟨none,.other,[],none⟩]) (.seq (.reg false [O1 39 .mv 0,O1 40 .mv 5,O2 41 (.slc 4 false true false) 39 40,O1 4 .mv 41]) .ret)))))),[(.s 4)]⟩
theorem x89_ok:xfn Tryz.prog Tryz.f89=some x89.er:=by kernel_rfl
def x50:XFn:=⟨12,(.seq (.reg false [K1 2 .mv (.slice none 0 0)]) (.seq (.reg false [O1 4 .mv 0,O1 5 (.call 88) 4,O1 6 (.call 87) 5,O1 3 .mv 6]) (.seq (.reg false [O1 7 .mv 3,⟨(some 8),(.call 89),[(.t 7),(.k (.func (.func 90) #[] #[]))],none⟩,O1 3 .mv 8]) (.seq (.reg false [O1 9 .mv 3,⟨(some 10),(.call 58),[(.t 9),(.k (.func (.func 91) #[] #[]))],none⟩]) (.seq (.reg false [O1 11 .mv 3,O1 2 .mv 11]) .ret))))),[(.s 2)]⟩
theorem x50_ok:xfn Tryz.prog Tryz.f50=some x50.er:=by kernel_rfl
def x51L0:XC:=(.seq (.reg false [O2 26 (.bin .lss) 25 24]) (.seq (.cond (.t 26) .skip (.exit 0)) (.seq (.block 1 (.seq (.reg false [O2 27 (.ixS 4) 23 25,O1 28 (.loadN 4) 27,⟨(some 10),(.alloc 119 [(iV 0),(iV 0),(iV 0),(iV 0)]),[],none⟩,⟨none,(.store 4),[(.t 10),(.t 28)],none⟩]) (.reg false [O1 29 .mv 8,O1 30 (.fld 0) 10,O1 31 (.loadN 2) 30,O1 32 (.fld 2) 10,O1 33 .load1 32,O1 34 (.fld 3) 10,O1 35 .load1 34,⟨(some 36),(.call 49),[(.t 29),(.t 31),(.t 33),(.t 35)],none⟩]))) (.reg false [K2 37 (.bin .add) 25 (iV 1),O1 25 .mv 37]))))
def x51L1:XC:=(.seq (.reg false [O2 41 (.bin .lss) 40 39]) (.seq (.cond (.t 41) .skip (.exit 2)) (.seq (.block 3 (.seq (.reg false [O2 42 (.ixS 4) 38 40,O1 43 (.loadN 4) 42,⟨(some 12),(.alloc 119 [(iV 0),(iV 0),(iV 0),(iV 0)]),[],none⟩,⟨none,(.store 4),[(.t 12),(.t 43)],none⟩]) (.reg false [O1 44 .mv 8,O1 45 (.fld 0) 12,O1 46 (.loadN 2) 45,O1 47 .mv 2,O1 48 (.fld 2) 12,O1 49 .load1 48,O2 50 (.bin .mul) 47 49,O1 51 .mv 2,O1 52 (.fld 3) 12,O1 53 .load1 52,O2 54 (.bin .mul) 51 53,⟨(some 55),(.call 49),[(.t 44),(.t 46),(.t 50),(.t 54)],none⟩]))) (.reg false [K2 56 (.bin .add) 40 (iV 1),O1 40 .mv 56]))))
def x51:XFn:=⟨65,(.seq (.reg false [K1 6 .mv (.slice none 0 0),K1 7 .mv (iV 0)]) (.seq (.seq (.reg false [O1 14 .mv 0,O1 15 (.call 52) 14,O1 16 (.un .not) 15,O1 17 .mv 16,G1 18 .mv 1 17 false,G1 19 (.call 52) 18 17 false,G1 20 (.un .not) 19 17 false,⟨(some 21),.pick,[(.t 17),(.k (.bool true)),(.t 20)],none⟩]) (.cond (.t 21) (.seq (.reg false [K1 6 .mv (.slice none 0 0),K1 7 .mv (iV 1)]) .ret) .skip)) (.seq (.reg false [⟨(some 22),(.call 1050179),[],none⟩,O1 8 .mv 22]) (.seq (.seq (.reg false [O1 23 .mv 0,O1 24 .lenS 23,K1 25 .mv (iV 0)]) (.block 0 (.loop x51L0))) (.seq (.seq (.reg false [O1 38 .mv 1,O1 39 .lenS 38,K1 40 .mv (iV 0)]) (.block 2 (.loop x51L1))) (.seq (.reg false [O1 57 .mv 8,O1 58 (.call 50) 57,O1 13 .mv 58]) (.seq (.seq (.reg false [O1 59 .mv 13,⟨(some 60),(.call 93),[(.t 59),(.k (.func (.func 94) #[] #[]))],none⟩]) (.cond (.t 60) (.seq (.reg false [K1 6 .mv (.slice none 0 0),K1 7 .mv (iV 2)]) .ret) .skip)) (.seq (.seq (.reg false [O1 61 .mv 13,O1 62 .lenS 61,K2 63 (.bin .gtr) 62 (iV 1048576)]) (.cond (.t 63) (.seq (.reg false [K1 6 .mv (.slice none 0 0),K1 7 .mv (iV 6)]) .ret) .skip)) (.seq (.reg false [O1 64 .mv 13,O1 6 .mv 64,K1 7 .mv (iV 0)]) .ret))))))))),[(.s 6),(.s 7)]⟩
theorem x51_ok:xfn Tryz.prog Tryz.f51=some x51.er:=by kernel_rfl
def x15:XFn:=⟨11,(.seq (.reg false [K1 4 .mv (.slice none 0 0),K1 5 .mv (iV 0)]) (.seq (.reg false [O1 6 .mv 0,O1 7 .mv 1,⟨(some 8),(.call 51),[(.t 6),(.t 7),(.k (iV 1))],none⟩,O1 9 (.ext 0) 8,O1 10 (.ext 1) 8,O1 4 .mv 9,O1 5 .mv 10]) .ret)),[(.s 4),(.s 5)]⟩
theorem x15_ok:xfn Tryz.prog Tryz.f15=some x15.er:=by kernel_rfl
def g88:Con:=fun args_ E_ nn_=>match args_ with
 | [.c (.n m)]=>(match E_ m with
  | some (.dm m_k m_l)=>some (.e (isM eTal m_k m_l∧True) (.o (.c (.f 129 [.p (nn_+0) 0]))) [(m,.dm true (mapF eTal ((decM eTal m_l)))),((nn_+0),.box [.n m] 100)] (nn_+1))
  | _=>none)
 | _=>none
theorem c88:COk Tryz.prog 88 g88:=by
 refine cok_d Tryz.func88 x88_ok (by kernel_rfl) (cok_tab cok_nil) ?_
 intro args_ E_ nn_ cr_ hg_
 unfold g88 at hg_
 split at hg_
 ·rename_i m
  split at hg_
  ·rename_i m_k m_l h_m
   cases hg_
   refine ⟨_,_,_,_,rfl,1,[m],[.c (.n 0)],[(0,.dm eTal.k (mapF eTal (decM eTal m_l)))],.o (.c (.f 129 [.p 1 0])),[(0,.dm true (mapF eTal ((decM eTal m_l)))),(1,.box [.n 0] 100)],2,rfl,rfl,by simp only [renE,Ent.ren,rowF_renf]<;>rfl,rfl,by decide,and4 (by simp only [push_cast,Nat.reduceLT,Nat.reduceAdd]) ⟨rfl,⟨⟨_,h_m⟩,trivial⟩,by simp only [keysNodup,outN,keys]<;>decide,rfl,.inr ⟨.inl rfl,trivial⟩,?_⟩⟩
   intro hpre hlen
   obtain ⟨i_m,hpre⟩:=hpre
   have hap:apartE (sg 1 nn_ [m]) [(0,.dm eTal.k (mapF eTal (decM eTal m_l)))] [(0,.dm eTal.k (mapF eTal (decM eTal m_l)))]:=by
    refine ⟨fun _ k2 e2 hm hne=>?_,?_⟩
    ·simp only [List.mem_cons,List.not_mem_nil,or_false,Prod.mk.injEq] at hm
     obtain ⟨rfl,_⟩:=hm
     exact absurd rfl hne
    trivial
   refine ⟨⟨⟨_,h_m,isM_le i_m⟩,trivial⟩,hap,?_⟩
   clear i_m
   generalize decM eTal m_l=mL at *
   clear h_m
   simp (maxSteps:=9999999) only [x88,push_cast,simprocAttr]
  ·cases hg_
 ·cases hg_
attribute [push_cast] g88
def g87:Con:=collCon
def g89:Con:=fun args_ E_ nn_=>match args_ with
 | [.c (.n s),.c (.v (.func (.func 90) f_a f_b))]=>(match rowOf E_ s with
  | some (s_n,s_s,s_f)=>some (.q (isRow eE s_n s_s s_f∧f_a=#[]∧f_b=#[]∧∀ e∈(decL eE s_n s_f),zeroE e=false) (.o (.c (.n s))))
  | none=>none)
 | _=>none
theorem c89:COk Tryz.prog 89 g89:=by
 refine cok_q Tryz.func89 x89_ok (by kernel_rfl) (cok_tab (cok_cons c130z cok_nil)) ?_
 intro args_ E_ nn_ cr_ hg_
 unfold g89 at hg_
 split at hg_
 ·rename_i s f_a f_b
  split at hg_
  ·rename_i s_n s_s s_f h_s
   cases hg_
   refine ⟨_,_,rfl,1,[s],[.c (.n 0),.c (.v (.func (.func 90) f_a f_b))],[(0,.ro (decL eE s_n s_f).length eE.sz (rowF eE (decL eE s_n s_f)))],.o (.c (.n 0)),rfl,rfl,and3 (by simp only [push_cast,Nat.reduceLT,Nat.reduceAdd]) ⟨rfl,⟨inE0_row h_s,trivial⟩,rfl,?_⟩⟩
   intro hpre hlen
   obtain ⟨i_s,hpre⟩:=hpre
   refine ⟨⟨inE_row h_s i_s,trivial⟩,?_⟩
   have z_s:=lens_row (E:=eE) hlen h_s
   clear i_s
   generalize decL eE s_n s_f=sL at *
   clear h_s
   obtain ⟨rfl,rfl,hz0⟩:=hpre
   have hz:=ixOf_zero hz0
   simp (maxSteps:=9999999) only [x89,push_cast,simprocAttr,g130z,hz]
  ·cases hg_
 ·cases hg_
def g50:Con:=fun args_ E_ nn_=>match args_ with
 | [.c (.n t)]=>(match E_ t with
  | some (.dm t_k t_l)=>some (.e (isM eTal t_k t_l∧(∀ e∈(decM eTal t_l),zeroE e=false)∧diffL cmpE (decM eTal t_l)∧((decM eTal t_l)).length≤4398046511104) (.o (.c (.n (nn_+0)))) [(t,.dm true (mapF eTal ((decM eTal t_l)))),((nn_+0),.own (srtL cmpE (decM eTal t_l)).length 4 (rowF eE (srtL cmpE (decM eTal t_l))) 119)] (nn_+1))
  | _=>none)
 | _=>none
theorem c50:COk Tryz.prog 50 g50:=by
 refine cok_d Tryz.func50 x50_ok (by kernel_rfl) (cok_tab (cok_cons c88 (cok_cons c87 (cok_cons c89 (cok_cons c58t cok_nil))))) ?_
 intro args_ E_ nn_ cr_ hg_
 unfold g50 at hg_
 split at hg_
 ·rename_i t
  split at hg_
  ·rename_i t_k t_l h_t
   cases hg_
   refine ⟨_,_,_,_,rfl,1,[t],[.c (.n 0)],[(0,.dm eTal.k (mapF eTal (decM eTal t_l)))],.o (.c (.n 1)),[(0,.dm true (mapF eTal ((decM eTal t_l)))),(1,.own (srtL cmpE (decM eTal t_l)).length 4 (rowF eE (srtL cmpE (decM eTal t_l))) 119)],2,rfl,rfl,by simp only [renE,Ent.ren,rowF_renf]<;>rfl,rfl,by decide,and4 (by simp only [push_cast,Nat.reduceLT,Nat.reduceAdd]) ⟨rfl,⟨⟨_,h_t⟩,trivial⟩,by simp only [keysNodup,outN,keys]<;>decide,rfl,.inr ⟨.inl rfl,trivial⟩,?_⟩⟩
   intro hpre hlen
   obtain ⟨i_t,hpre⟩:=hpre
   have hap:apartE (sg 1 nn_ [t]) [(0,.dm eTal.k (mapF eTal (decM eTal t_l)))] [(0,.dm eTal.k (mapF eTal (decM eTal t_l)))]:=by
    refine ⟨fun _ k2 e2 hm hne=>?_,?_⟩
    ·simp only [List.mem_cons,List.not_mem_nil,or_false,Prod.mk.injEq] at hm
     obtain ⟨rfl,_⟩:=hm
     exact absurd rfl hne
    trivial
   refine ⟨⟨⟨_,h_t,isM_le i_t⟩,trivial⟩,hap,?_⟩
   clear i_t
   generalize decM eTal t_l=tL at *
   clear h_t
   simp (maxSteps:=9999999) only [x50,push_cast,simprocAttr,g88,g87,g89,g58t]
   refine ⟨hpre.2.2,?_⟩
   rintro G ⟨L',hp,rfl⟩
   have hl:=hp.length_eq
   have hd:=diffL_perm ord_E hpre.2.1 hp
   rw [rowG_f,← hl]
   have e1:decL eE L'.length (rowF eE L')=L':=decL_rowF _
   rw [e1,srtL_congr ord_E hpre.2.1 hp,srtL_len,hl]
   have i1:isRow eE tL.length 4 (rowF eE L'):=(isRow_len L' hl.symm rfl).2 trivial
   exact ⟨⟨i1,fun e he=>hpre.1 e (hp.mem_iff.1 he)⟩,⟨by omega,i1,hd⟩,rfl,(rowEq_rowF _ _ _ _).2 trivial⟩
  ·cases hg_
 ·cases hg_
def g86:Con:=fun args_ E_ nn_=>match args_ with
 | [.c (.n s),.a [.v (.int .i64 v_X),.v (.int .i64 v_Y)]]=>(match rowOf E_ s with
  | some (s_n,s_s,s_f)=>some (.q (isRow eC s_n s_s s_f∧True) (.o (.c (.v (.int .i64 (ixOf (sameC v_X v_Y) (decL eC s_n s_f)))))))
  | none=>none)
 | _=>none
theorem c86:COk Tryz.prog 86 g86:=by
 refine cok_q Tryz.func86 x86_ok (by kernel_rfl) (cok_tab cok_nil) ?_
 intro args_ E_ nn_ cr_ hg_
 unfold g86 at hg_
 split at hg_
 ·rename_i s v_X v_Y
  split at hg_
  ·rename_i s_n s_s s_f h_s
   cases hg_
   refine ⟨_,_,rfl,1,[s],[.c (.n 0),.a [.v (.int .i64 v_X),.v (.int .i64 v_Y)]],[(0,.ro (decL eC s_n s_f).length eC.sz (rowF eC (decL eC s_n s_f)))],.o (.c (.v (.int .i64 (ixOf (sameC v_X v_Y) (decL eC s_n s_f))))),rfl,rfl,and3 (by simp only [push_cast,Nat.reduceLT,Nat.reduceAdd]) ⟨rfl,⟨inE0_row h_s,trivial⟩,rfl,?_⟩⟩
   intro hpre hlen
   obtain ⟨i_s,hpre⟩:=hpre
   refine ⟨⟨inE_row h_s i_s,trivial⟩,?_⟩
   have z_s:=lens_row (E:=eC) hlen h_s
   clear i_s
   generalize decL eC s_n s_f=sL at *
   clear h_s
   simp (maxSteps:=9999999) only [x86,push_cast,simprocAttr]
   refine vcLoop_upd (α:={k:Nat // k≤sL.length∧∀ i,i < k→(sameC v_X v_Y) (sL.getD i eC.dflt)=false}) [0,3,7] 0 (fun s=>[(8,.o (.c (.v (.int .i64 (s.1:Nat)))))]) (fun s=>[]) (fun s=>sL.length - s.1) ⟨0,by omega,fun i hi=>by omega⟩ ?_ ?_
   ·simp only [push_cast,simprocAttr]
   rintro ⟨k,hk,hall⟩
   simp only [x86L0,push_cast,simprocAttr]
   refine ⟨fun hlt=>⟨hlt,hlt,fun h1 h2=>(ixOf_some (p:=sameC v_X v_Y) (d:=eC.dflt) hlt hall (by unfold sameC; rw [decide_eq_true h1,decide_eq_true h2]; rfl)).symm,fun hw=>?_⟩,fun hn=>?_⟩
   ·exact ⟨⟨k+1,by omega,fun i hi=>by
     by_cases h:i=k
     ·subst h; exact hw
     ·exact hall i (by omega)⟩,wrapI (by omega) (by omega),by simp only; omega⟩
   ·exact (ixOf_none (p:=sameC v_X v_Y) (d:=eC.dflt) (fun i hi=>hall i (by omega))).symm
  ·cases hg_
 ·cases hg_
def g48:Con:=fun args_ E_ nn_=>match args_ with
 | [.c (.n s),.a [.v (.int .i64 v_X),.v (.int .i64 v_Y)]]=>(match rowOf E_ s with
  | some (s_n,s_s,s_f)=>some (.q (isRow eC s_n s_s s_f∧True) (.o (.c (.v (.bool (((decL eC s_n s_f)).any (sameC v_X v_Y)))))))
  | none=>none)
 | _=>none
theorem c48:COk Tryz.prog 48 g48:=by
 refine cok_q Tryz.func48 x48_ok (by kernel_rfl) (cok_tab (cok_cons c86 cok_nil)) ?_
 intro args_ E_ nn_ cr_ hg_
 unfold g48 at hg_
 split at hg_
 ·rename_i s v_X v_Y
  split at hg_
  ·rename_i s_n s_s s_f h_s
   cases hg_
   refine ⟨_,_,rfl,1,[s],[.c (.n 0),.a [.v (.int .i64 v_X),.v (.int .i64 v_Y)]],[(0,.ro (decL eC s_n s_f).length eC.sz (rowF eC (decL eC s_n s_f)))],.o (.c (.v (.bool (((decL eC s_n s_f)).any (sameC v_X v_Y))))),rfl,rfl,and3 (by simp only [push_cast,Nat.reduceLT,Nat.reduceAdd]) ⟨rfl,⟨inE0_row h_s,trivial⟩,rfl,?_⟩⟩
   intro hpre hlen
   obtain ⟨i_s,hpre⟩:=hpre
   refine ⟨⟨inE_row h_s i_s,trivial⟩,?_⟩
   have z_s:=lens_row (E:=eC) hlen h_s
   clear i_s
   generalize decL eC s_n s_f=sL at *
   clear h_s
   simp (maxSteps:=9999999) only [x48,push_cast,simprocAttr,g86]
   exact ixOf_any _ sL
  ·cases hg_
 ·cases hg_
def g51:Con:=fun args_ E_ nn_=>match args_ with
 | [.c (.n a),.c (.n b),.c (.v (.int .i64 factor))]=>(match rowOf E_ a with
  | some (a_n,a_s,a_f)=>(match rowOf E_ b with
  | some (b_n,b_s,b_f)=>some (.e (isRow eE a_n a_s a_f∧isRow eE b_n b_s b_f∧factor=1∧(valE (decL eE a_n a_f)=true∧valE (decL eE b_n b_f)=true)∧(posL (decL eE a_n a_f)∧posL (decL eE b_n b_f))∧(sumT (decL eE a_n a_f) (decL eE b_n b_f)).all cntB=true∧(sumT (decL eE a_n a_f) (decL eE b_n b_f)).length≤1048576) (.t [.c (.n (nn_+0)),.c (.v (.int .i64 (0)))]) [((nn_+0),.own (srtL cmpE (sumT (decL eE a_n a_f) (decL eE b_n b_f))).length 4 (rowF eE (srtL cmpE (sumT (decL eE a_n a_f) (decL eE b_n b_f)))) 119)] (nn_+1))
  | none=>none)
  | none=>none)
 | _=>none
theorem c51:COk Tryz.prog 51 g51:=by
 refine cok_d Tryz.func51 x51_ok (by kernel_rfl) (cok_tab (cok_cons c52 (cok_cons c49 (cok_cons c50 (cok_cons c1050179 (cok_cons c93 cok_nil)))))) ?_
 intro args_ E_ nn_ cr_ hg_
 unfold g51 at hg_
 split at hg_
 ·rename_i a b factor
  split at hg_
  ·rename_i a_n a_s a_f h_a
   split at hg_
   ·rename_i b_n b_s b_f h_b
    cases hg_
    refine ⟨_,_,_,_,rfl,2,[a,b],[.c (.n 0),.c (.n 1),.c (.v (.int .i64 factor))],[(0,.ro (decL eE a_n a_f).length eE.sz (rowF eE (decL eE a_n a_f))),(1,.ro (decL eE b_n b_f).length eE.sz (rowF eE (decL eE b_n b_f)))],.t [.c (.n 2),.c (.v (.int .i64 (0)))],[(2,.own (srtL cmpE (sumT (decL eE a_n a_f) (decL eE b_n b_f))).length 4 (rowF eE (srtL cmpE (sumT (decL eE a_n a_f) (decL eE b_n b_f)))) 119)],3,rfl,rfl,by simp only [renE,Ent.ren,rowF_renf]<;>rfl,rfl,by decide,and4 (by simp only [push_cast,Nat.reduceLT,Nat.reduceAdd]) ⟨rfl,⟨inE0_row h_a,inE0_row h_b,trivial⟩,by simp only [keysNodup,outN,keys]<;>decide,rfl,.inl rfl,?_⟩⟩
    intro hpre hlen
    obtain ⟨i_a,hpre⟩:=hpre
    obtain ⟨i_b,hpre⟩:=hpre
    refine ⟨⟨inE_row h_a i_a,inE_row h_b i_b,trivial⟩,by simp only [apartE]<;>(first | trivial | (simp [Ent.mut]; done)),?_⟩
    have z_a:=lens_row (E:=eE) hlen h_a
    have z_b:=lens_row (E:=eE) hlen h_b
    clear i_a
    generalize decL eE a_n a_f=aL at *
    clear i_b
    generalize decL eE b_n b_f=bL at *
    clear h_a
    clear h_b
    obtain ⟨rfl,⟨v1,v2⟩,⟨p1,p2⟩,hcn,hln⟩:=hpre
    obtain ⟨l1,k1⟩:=valE_get v1
    obtain ⟨l2,k2⟩:=valE_get v2
    have A1:=talOk_nil.addL (valE_all v1 p1)
    have A2:=A1.addL (valE_all v2 p2)
    simp (maxSteps:=9999999) only [x51,push_cast,simprocAttr,g52,g49,g50,g1050179,g93,v1,v2]
    refine vcLoop_upd (α:={k:Nat // k≤aL.length}) [1,2,8,23,24] 0 (fun s=>[(25,.o (.c (.v (.int .i64 (s.1:Nat)))))]) (fun s=>[(2,.dm true (mapF eTal (addL [] (aL.take s.1))))]) (fun s=>aL.length - s.1) ⟨0,by omega⟩ ?_ ?_
    ·simp only [push_cast,simprocAttr,g52,g49,g50,g1050179,g93,v1,v2]
     exact .inl rfl
    rintro ⟨k,hk⟩
    simp only [x51L0,push_cast,simprocAttr,g52,g49,g50,g1050179,g93,v1,v2]
    have B1:=talOk_nil.part (valE_all v1 p1) hk
    refine ⟨fun hlt=>?_,fun hn=>?_⟩
    ·have c1:=cntE_bd (valE_all v1 p1 _ (getE_mem hlt)).1 (p1 _ (getE_mem hlt))
     exact ⟨hlt,hlt,⟨B1.wide (by omega),by omega,by omega,by omega⟩,⟨k+1,by omega⟩,⟨wrapI (by omega) (by omega),.inl (by rw [addL_take _ hlt])⟩,by simp only; omega⟩
    obtain rfl:k=aL.length:=by omega
    rw [List.take_length]
    refine vcLoop_upd (α:={k:Nat // k≤bL.length}) [2,8,38,39] 0 (fun s=>[(40,.o (.c (.v (.int .i64 (s.1:Nat)))))]) (fun s=>[(2,.dm true (mapF eTal (addL (addL [] aL) (bL.take s.1))))]) (fun s=>bL.length - s.1) ⟨0,by omega⟩ ?_ ?_
    ·simp only [push_cast,simprocAttr,g52,g49,g50,g1050179,g93,v1,v2]
     exact .inl rfl
    rintro ⟨k,hk⟩
    simp only [x51L1,push_cast,simprocAttr,g52,g49,g50,g1050179,g93,v1,v2]
    have B2:=A1.part (valE_all v2 p2) hk
    refine ⟨fun hlt=>?_,fun hn=>?_⟩
    ·have c1:=cntE_bd (valE_all v2 p2 _ (getE_mem hlt)).1 (p2 _ (getE_mem hlt))
     have w1:IntKind.i64.wrap (1 * (bL.getD k eE.dflt).H)=(bL.getD k eE.dflt).H:=by rw [Int.one_mul]; exact wrapI (by omega) (by omega)
     have w2:IntKind.i64.wrap (1 * (bL.getD k eE.dflt).P)=(bL.getD k eE.dflt).P:=by rw [Int.one_mul]; exact wrapI (by omega) (by omega)
     rw [w1,w2]
     exact ⟨hlt,hlt,⟨B2.wide (by omega),by omega,by omega,by omega⟩,⟨k+1,by omega⟩,⟨wrapI (by omega) (by omega),.inl (by rw [addL_take _ hlt])⟩,by simp only; omega⟩
    obtain rfl:k=bL.length:=by omega
    rw [List.take_length]
    have e0:addL (addL [] aL) bL=sumT aL bL:=rfl
    rw [e0] at A2 ⊢
    have hwn:=wide_none (srtL_perm (cf:=cmpE) (sumT aL bL)) hcn
    have hsl:=srtL_len (cf:=cmpE) (sumT aL bL)
    rw [hwn,hsl]
    exact ⟨⟨fun e he=>posE_zero (A2.pos e he),(diffL_nodup _).2 A2.nd,by omega⟩,fun h=>Bool.noConfusion h,fun _=>⟨fun h=>by omega,fun _=>⟨rfl,(rowEq_rowF _ _ _ _).2 trivial⟩⟩⟩
   ·cases hg_
  ·cases hg_
 ·cases hg_
def g15:Con:=fun args_ E_ nn_=>match args_ with
 | [.c (.n a),.c (.n b)]=>(match rowOf E_ a with
  | some (a_n,a_s,a_f)=>(match rowOf E_ b with
  | some (b_n,b_s,b_f)=>some (.e (isRow eE a_n a_s a_f∧isRow eE b_n b_s b_f∧(valE (decL eE a_n a_f)=true∧valE (decL eE b_n b_f)=true)∧(posL (decL eE a_n a_f)∧posL (decL eE b_n b_f))∧(sumT (decL eE a_n a_f) (decL eE b_n b_f)).all cntB=true∧(sumT (decL eE a_n a_f) (decL eE b_n b_f)).length≤1048576) (.t [.c (.n (nn_+0)),.c (.v (.int .i64 (0)))]) [((nn_+0),.own (srtL cmpE (sumT (decL eE a_n a_f) (decL eE b_n b_f))).length 4 (rowF eE (srtL cmpE (sumT (decL eE a_n a_f) (decL eE b_n b_f)))) 119)] (nn_+1))
  | none=>none)
  | none=>none)
 | _=>none
theorem c15:COk Tryz.prog 15 g15:=by
 refine cok_d Tryz.func15 x15_ok (by kernel_rfl) (cok_tab (cok_cons c51 cok_nil)) ?_
 intro args_ E_ nn_ cr_ hg_
 unfold g15 at hg_
 split at hg_
 ·rename_i a b
  split at hg_
  ·rename_i a_n a_s a_f h_a
   split at hg_
   ·rename_i b_n b_s b_f h_b
    cases hg_
    refine ⟨_,_,_,_,rfl,2,[a,b],[.c (.n 0),.c (.n 1)],[(0,.ro (decL eE a_n a_f).length eE.sz (rowF eE (decL eE a_n a_f))),(1,.ro (decL eE b_n b_f).length eE.sz (rowF eE (decL eE b_n b_f)))],.t [.c (.n 2),.c (.v (.int .i64 (0)))],[(2,.own (srtL cmpE (sumT (decL eE a_n a_f) (decL eE b_n b_f))).length 4 (rowF eE (srtL cmpE (sumT (decL eE a_n a_f) (decL eE b_n b_f)))) 119)],3,rfl,rfl,by simp only [renE,Ent.ren,rowF_renf]<;>rfl,rfl,by decide,and4 (by simp only [push_cast,Nat.reduceLT,Nat.reduceAdd]) ⟨rfl,⟨inE0_row h_a,inE0_row h_b,trivial⟩,by simp only [keysNodup,outN,keys]<;>decide,rfl,.inl rfl,?_⟩⟩
    intro hpre hlen
    obtain ⟨i_a,hpre⟩:=hpre
    obtain ⟨i_b,hpre⟩:=hpre
    refine ⟨⟨inE_row h_a i_a,inE_row h_b i_b,trivial⟩,by simp only [apartE]<;>(first | trivial | (simp [Ent.mut]; done)),?_⟩
    have z_a:=lens_row (E:=eE) hlen h_a
    have z_b:=lens_row (E:=eE) hlen h_b
    clear i_a
    generalize decL eE a_n a_f=aL at *
    clear i_b
    generalize decL eE b_n b_f=bL at *
    clear h_a
    clear h_b
    simp (maxSteps:=9999999) only [x15,push_cast,simprocAttr,g51]
    exact hpre
   ·cases hg_
  ·cases hg_
 ·cases hg_
end Go.Proofs.YtgpbokembopapaaGreat
