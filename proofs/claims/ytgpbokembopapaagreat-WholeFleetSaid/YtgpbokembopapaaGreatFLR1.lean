/- 'wayfindertop.WholeFleet' returns true whatever the input, and the arguments read as before. No conditions. -/
import Derived.Test.YtgpbokembopapaaGreatFLH8
import Derived.Test.YtgpbokembopapaaGreatFLSz4
set_option linter.unusedVariables false
set_option linter.unusedSimpArgs false
namespace Go.Proofs.YtgpbokembopapaaGreat
open Go.Sx Go.ChangeShapes Go.WideShapes Go.ChangeAt Go.RowKit
theorem own:ownKnob Tryz.prog.godebug=none:=by kernel_rfl
theorem laidOut:laidOutB Tryz.prog=true:=by kernel_rfl
theorem uB:Tryz.prog.underlying 4=some .bool:=by kernel_rfl
section
variable {H:Type} {enc:TypeId × Value→H} {P:Program} {w:World} {base:Nat} {sp:Nat→Bool} {held:Bool}
theorem tk_onto {tu ti tb tm te:TypeId} {cs:List Value} (htu:P.underlying tu=some (.int .u8)) (hti:P.underlying ti=some (.int .i64)) (htb:P.underlying tb=some .bool) (htm:P.underlying tm=some (.slice te)) (hk:kinds P te=some eC.ks) (hc:P.cellsOf te=eC.sz) (hsp:∀ b,sp b=true)
  (h:leafOk enc P w base sp held [tu,ti,ti,tb,ti,tm,ti,tb,ti,ti,ti,ti,ti,ti,ti,ti] cs):∃ x:TK,OnTo eTk w x cs:=by
 obtain ⟨v0,c0,rfl,e0,h⟩:=leafs_cons h
 obtain ⟨v1,c1,rfl,e1,h⟩:=leafs_cons h
 obtain ⟨v2,c2,rfl,e2,h⟩:=leafs_cons h
 obtain ⟨v3,c3,rfl,e3,h⟩:=leafs_cons h
 obtain ⟨v4,c4,rfl,e4,h⟩:=leafs_cons h
 obtain ⟨v5,c5,rfl,e5,h⟩:=leafs_cons h
 obtain ⟨v6,c6,rfl,e6,h⟩:=leafs_cons h
 obtain ⟨v7,c7,rfl,e7,h⟩:=leafs_cons h
 obtain ⟨v8,c8,rfl,e8,h⟩:=leafs_cons h
 obtain ⟨v9,c9,rfl,e9,h⟩:=leafs_cons h
 obtain ⟨v10,c10,rfl,e10,h⟩:=leafs_cons h
 obtain ⟨v11,c11,rfl,e11,h⟩:=leafs_cons h
 obtain ⟨v12,c12,rfl,e12,h⟩:=leafs_cons h
 obtain ⟨v13,c13,rfl,e13,h⟩:=leafs_cons h
 obtain ⟨v14,c14,rfl,e14,h⟩:=leafs_cons h
 obtain ⟨v15,c15,rfl,e15,h⟩:=leafs_cons h
 obtain rfl:=leafs_nil h
 obtain ⟨n0,rfl,_⟩:=leaf_int htu e0
 obtain ⟨n1,rfl,w1⟩:=leaf_int hti e1
 obtain ⟨n2,rfl,w2⟩:=leaf_int hti e2
 obtain ⟨n3,rfl⟩:=leaf_bool htb e3
 obtain ⟨n4,rfl,w4⟩:=leaf_int hti e4
 obtain ⟨M,_,_,m1,m2⟩:=leaf_row (E:=eC) htm hk hc (by decide) hsp e5
 obtain ⟨n6,rfl,w6⟩:=leaf_int hti e6
 obtain ⟨n7,rfl⟩:=leaf_bool htb e7
 obtain ⟨n8,rfl,w8⟩:=leaf_int hti e8
 obtain ⟨n9,rfl,w9⟩:=leaf_int hti e9
 obtain ⟨n10,rfl,w10⟩:=leaf_int hti e10
 obtain ⟨n11,rfl,w11⟩:=leaf_int hti e11
 obtain ⟨n12,rfl,w12⟩:=leaf_int hti e12
 obtain ⟨n13,rfl,w13⟩:=leaf_int hti e13
 obtain ⟨n14,rfl,w14⟩:=leaf_int hti e14
 obtain ⟨n15,rfl,w15⟩:=leaf_int hti e15
 have w1':-9223372036854775808≤n1∧n1≤9223372036854775807:=w1
 have w2':-9223372036854775808≤n2∧n2≤9223372036854775807:=w2
 refine ⟨⟨n0,⟨n1,w1'⟩,⟨n2,w2'⟩,⟨n3,n4,M,⟨n6,n7,n8,n9,n10⟩⟩,⟨n11,n12,n13,n14,n15⟩⟩,fun j v hj hv=>?_,fun j n s g hj hg=>?_⟩
 ·have hj:j < 16:=hj
  rcases (by omega:j=0∨j=1∨j=2∨j=3∨j=4∨j=5∨j=6∨j=7∨j=8∨j=9∨j=10∨j=11∨j=12∨j=13∨j=14∨j=15) with rfl | rfl | rfl | rfl | rfl | rfl | rfl | rfl | rfl | rfl | rfl | rfl | rfl | rfl | rfl | rfl<;>first | exact hv | cases hv
 ·have hj:j < 16:=hj
  rcases (by omega:j=0∨j=1∨j=2∨j=3∨j=4∨j=5∨j=6∨j=7∨j=8∨j=9∨j=10∨j=11∨j=12∨j=13∨j=14∨j=15) with rfl | rfl | rfl | rfl | rfl | rfl | rfl | rfl | rfl | rfl | rfl | rfl | rfl | rfl | rfl | rfl
  ·cases hg
  ·cases hg
  ·cases hg
  ·cases hg
  ·cases hg
  ·cases hg; exact ⟨v5,rfl,ro_rowIs m1,m2⟩
  ·cases hg
  ·cases hg
  ·cases hg
  ·cases hg
  ·cases hg
  ·cases hg
  ·cases hg
  ·cases hg
  ·cases hg
  ·cases hg
end
set_option maxRecDepth 100000 in
theorem wholeFleet_lifted (os:Os) (started:os.Started) (H:Type) (enc:TypeId × Value→H) :
  ReturnsInHanded {} Tryz.checked os 4 .any (Rows.wholeFleetSpec.pre6 enc Tryz.prog Tryz.f4 Rows.wholeFleetRow.domain false) (Rows.wholeFleetSpec.post enc Tryz.prog Tryz.f4 false true false false):=by
 refine returnsInHanded_of_change (C:=Tryz.checked) own started (by kernel_rfl) Tryz.func4
  (ChangeSpec.witness6 (enc:=enc) (C:=Tryz.checked) false ⟨#[],#[.slice none 0 0,.slice none 0 0],[]⟩ 8 (by kernel_rfl) (by kernel_rfl) (by kernel_rfl) (by kernel_rfl)) ?_
 intro W base args ds gs before hval0 hW hcnd _
 have hval:∀ (j:Nat) t v,Tryz.f4.params[j]?=some t→args[j]?=some v→Value.okWide Tryz.prog W .any base t v:=hval0
 have hW':=hW
 obtain ⟨p,q,hA0,hV,rfl,hfz,hnd⟩:=hW
 have hA:DataW.TrodAll enc Tryz.prog W 0 (fun _=>true) true Tryz.f4.params.toList args.toList ds p:=hA0
 rw [Tryz.params4] at hA hval
 obtain ⟨v0,vs0,d0,ds0,p0,q0,hargs,rfl,rfl,h0,r0⟩:=trodAll_cons hA
 obtain ⟨v1,vs1,d1,ds1,p1,q1,rfl,rfl,rfl,h1,r1⟩:=trodAll_cons r0
 obtain ⟨rfl,rfl,rfl⟩:=trodAll_nil r1
 obtain rfl:args=#[v0,v1]:=by cases args; simp_all
 obtain ⟨rfl,rfl⟩:=trodVars_none hV
 obtain ⟨lL,l_V,one_l,rel_l,blk_l⟩:=leaf_deep (D:=eTk) (e:=72) (ts:=[5,3,3,4,3,28,3,4,3,3,3,3,3,3,3,3]) (by kernel_rfl) (by kernel_rfl) (by kernel_rfl) (by decide) (fun _=>rfl) (fun cs hcs=>tk_onto (tu:=5) (ti:=3) (tb:=4) (tm:=28) (te:=89) (by kernel_rfl) (by kernel_rfl) (by kernel_rfl) (by kernel_rfl) (by kernel_rfl) (by kernel_rfl) (fun _=>rfl) hcs) (open_one (by kernel_rfl) (hval 0 61 v0 rfl rfl) h0)
 obtain ⟨orderL,f_order,one_order,rel_order,blk_order⟩:=leaf_row (E:=eU8) (e:=5) (by kernel_rfl) (by kernel_rfl) (by kernel_rfl) (by decide) (fun _=>rfl) (open_one (by kernel_rfl) (hval 1 23 v1 rfl rfl) h1)
 have key:=row_calls (n:=2) (l:=[(0,.deep none lL.length eTk.sz (deepF eTk lL l_V) (deepC eTk lL) []),(1,.ro orderL.length eU8.sz (rowF eU8 orderL))]) (vs:=[v0,v1]) c4 (by kernel_rfl) (args:=[.c (.n 0),.c (.n 1)]) rfl (by simp only [sc1L,sc1,scL,SC.sc,scV,scEnt,scE,alSc,rowF_scT,upto,Nat.reduceLT,Nat.reduceAdd,and_self,and_true,true_and]) (by simp only [sc1L,sc1,scL,SC.sc,scV,scEnt,scE,alSc,rowF_scT,upto,Nat.reduceLT,Nat.reduceAdd,and_self,and_true,true_and]) (W:=W) ⟨one_l,one_order,trivial⟩ ⟨⟨rfl,rel_l _,blk_l⟩,⟨rfl,rel_order _,footR blk_order⟩,trivial⟩ ?_
 ·refine key.mono fun e W' ⟨he,hb⟩=>?_
  subst he
  exact ⟨_,rfl,post_true laidOut rfl uB (by kernel_rfl) rfl hW' rfl hb.below⟩
 ·refine ⟨(isDeep_deep _ _ _).2 rfl,(isRow_rowF _).2 trivial,?_⟩
  try rw [decD_deep lL]
  try rw [decL_rowF orderL]
  exact f_order
theorem wholeFleet:Rows.WholeFleetSaid :=
 OpenClaim.holds_of_wide 4 Tryz.f4 rfl rfl rfl rfl rfl rfl rfl ⟨rfl,rfl,rfl,rfl,rfl⟩ rfl rfl rfl rfl rfl (by kernel_rfl) Tryz.func4 (by kernel_rfl)
  (of_decide_eq_true (by kernel_rfl)) (by unfold Func.isWrapper; first | (rw [if_pos (by decide +kernel)]; kernel_rfl) | (rw [if_neg (by decide +kernel)]; exact ⟨rfl,rfl⟩))
  (fun os started H enc _=>wholeFleet_lifted os started H enc)
end Go.Proofs.YtgpbokembopapaaGreat
