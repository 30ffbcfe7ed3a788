/- A part of the proof of a statement about this seat: how a function is stepped through, and plain laws. No conditions. -/
import Derived.Test.YtgpbokembopapaaGreatFLSz1
set_option linter.unusedVariables false
set_option linter.unusedSimpArgs false
namespace Go.Sx
open Go.RowKit
section
variable {P:Program} {base:World} {M:Scp} {N n0:Nat} {r0 r:Rho} {S:St} {a:Act} {w:World}
theorem elem_of {t e:TypeId} (h:P.underlying t=some (.slice e)):P.elem t=e:=by simp [Program.elem,h]
theorem run_slc {o:Oper} {t e:TypeId} {i:TypeInfo} {x:Operand} {lo hi:Option Operand} {ad:Option Addr} {n cap:Nat} {l hh:Nat} {ol oh:Option Int} (ho:o.op = .slice t x lo hi none) (ht:P.underlying t=some (.slice e)) (hi':P.info? e=some i)
  (ex:a.eval x = .slice ad n cap) (hlo:lo.map a.eval=ol.map (fun v=>(.int .i64 v:Value))∨∃ k,lo.map a.eval=ol.map (fun v=>(.int k v:Value)))
  (hhi:∃ k,hi.map a.eval=oh.map (fun v=>(.int k v:Value))) (h1:ol.getD 0=l) (h2:oh.getD n=hh) (hlh:l≤hh) (hhn:hh≤n) (hnc:n≤cap) :
  (execOp a.eval o).run P w = .ok (.value (.slice (if cap=l then ad else ad.map (·.add (l * i.size))) (hh - l) (cap - l))) w:=by
 have ht':P.underlying t=some (.slice (P.elem t)):=by rw [elem_of ht]; exact ht
 simp only [execOp,ho]
 refine run_valW ?_
 rw [run_sliceAt_slice _ _ _ _ _ _ ht',ex,run_slice_any _ _ _ _ _ ht']
 obtain ⟨k1,hlo⟩:∃ k,lo.map a.eval=ol.map (fun v=>(.int k v:Value)):=by
  rcases hlo with h | h
  ·exact ⟨_,h⟩
  ·exact h
 obtain ⟨k2,hhi⟩:=hhi
 rw [hlo,hhi]
 have hb:(Instr.sliceBounds true n cap (ol.map fun v=>(.int k1 v:Value)) (oh.map fun v=>(.int k2 v:Value)) (Option.map a.eval none)).run P w = .ok (l,hh,cap) w:=by
  cases ol with
  | none=>
   simp only [Option.getD_none] at h1
   have:l=0:=by omega
   subst this
   cases oh with
   | none=>
    simp only [Option.getD_none] at h2
    have:hh=n:=by omega
    subst this
    simp [Instr.sliceBounds]
   | some v=>
    simp only [Option.getD_some] at h2
    subst h2
    simp only [Instr.sliceBounds,Option.map_some,Option.map_none,Sem.run_bind,Sem.run_pure,Result.andThen_ok]
    rw [run_sliceBound _ _ _ _ _ (by omega) (by omega)]
    simp
  | some u=>
   simp only [Option.getD_some] at h1
   subst h1
   cases oh with
   | none=>
    simp only [Option.getD_none] at h2
    have:hh=n:=by omega
    subst this
    simp only [Instr.sliceBounds,Option.map_some,Option.map_none,Sem.run_bind,Sem.run_pure,Result.andThen_ok]
    rw [run_sliceBound _ _ _ _ _ (by omega) (by omega)]
    simp
   | some v=>
    simp only [Option.getD_some] at h2
    subst h2
    simp only [Instr.sliceBounds,Option.map_some,Option.map_none,Sem.run_bind,Sem.run_pure,Result.andThen_ok]
    rw [run_sliceBound _ _ _ _ _ (by omega) (by omega)]
    simp only [Result.andThen_ok,Sem.run_bind]
    rw [run_sliceBound _ _ _ _ _ (by omega) (by omega)]
    simp
 rw [hb]
 simp only [Result.andThen_ok,elem_of ht,run_sizeOf' hi',sliced]
theorem run_slc0 {o:Oper} {t e:TypeId} {i:TypeInfo} {x:Operand} {lo:Option Operand} {hi mx:Operand} {ad:Option Addr} {n cap:Nat} {ol:Option Int} {k1 k2 k3:IntKind} (ho:o.op = .slice t x lo (some hi) (some mx)) (ht:P.underlying t=some (.slice e)) (hi':P.info? e=some i)
  (ex:a.eval x = .slice ad n cap) (hlo:lo.map a.eval=ol.map (fun v=>(.int k1 v:Value))) (h1:ol.getD 0=0) (h2:a.eval hi = .int k2 0) (h3:a.eval mx = .int k3 0) :
  (execOp a.eval o).run P w = .ok (.value (.slice ad 0 0)) w:=by
 have ht':P.underlying t=some (.slice (P.elem t)):=by rw [elem_of ht]; exact ht
 simp only [execOp,ho]
 refine run_valW ?_
 rw [run_sliceAt_slice _ _ _ _ _ _ ht',ex,run_slice_any _ _ _ _ _ ht',hlo]
 simp only [Option.map_some,h2,h3]
 have hb:(Instr.sliceBounds true n cap (ol.map fun v=>(.int k1 v:Value)) (some (.int k2 0)) (some (.int k3 0))).run P w = .ok (0,0,0) w:=by
  cases ol with
  | none=>
   simp only [Instr.sliceBounds,Option.map_none,Sem.run_bind,Sem.run_pure,Result.andThen_ok]
   rw [run_sliceBound _ _ _ _ _ (by omega) (by omega)]
   simp only [Result.andThen_ok,Sem.run_bind]
   rw [run_sliceBound _ _ _ _ _ (by omega) (by simp)]
   simp
  | some u=>
   simp only [Option.getD_some] at h1
   subst h1
   simp only [Instr.sliceBounds,Option.map_some,Sem.run_bind,Sem.run_pure,Result.andThen_ok]
   rw [run_sliceBound _ _ _ _ _ (by omega) (by omega)]
   simp only [Result.andThen_ok,Sem.run_bind]
   rw [run_sliceBound _ _ _ _ _ (by omega) (by simp)]
   simp only [Result.andThen_ok,Sem.run_bind]
   rw [run_sliceBound _ _ _ _ _ (by omega) (by simp)]
   simp
 rw [hb]
 simp only [Result.andThen_ok,elem_of ht,run_sizeOf' hi',sliced,if_true,Nat.sub_zero]
theorem eff_slc0 {E:Nat→Option Ent} {o:Oper} {c:Nat} {ad:Option Addr} (h:HeapRel base M r E w) (hfresh:∀ i e,E i=some e→nw c 1 i∧e.sc (nw c 1))
  (hrun:(execOp a.eval o).run P w = .ok (.value (.slice ad 0 0)) w):EffOk P base M r E o a w c (.o (.c (.n c))) [(c,.nils)] 1 :=
 eff_value hrun (r':=more r c (.slice ad 0 0)) (fun i hi=>more_ne i (nw_one.1 hi)) (h.view (fresh_one hfresh) rfl (fun _ _=>rfl) (fun b hb=>by cases ad<;>simp [blkOf] at hb) ⟨ad,rfl⟩)
  (by simp only [SV.den,S1.den,SC.den,more_new])
theorem blk_slc {ad:Option Addr} {n cap l k b:Nat} {n':Nat} (h:blkOf (.slice (if cap=l then ad else ad.map (·.add k)) n' (cap - l))=some b):blkOf (.slice ad n cap)=some b:=by
 cases ad with
 | none=>split at h<;>simp [blkOf] at h
 | some ad=>
  split at h
  ·rename_i hc
   have:cap - l=0:=by omega
   simp [blkOf,this] at h
  ·simp only [Option.map_some,blkOf] at h ⊢
   split at h
   ·cases h
   ·rw [if_neg (by omega)]
    rw [← h]
    congr 1
    unfold Addr.add
    split<;>rfl
theorem eff_slcRo {E:Nat→Option Ent} {o:Oper} {c i n cap l hh sz:Nat} {f:Nat→Nat→SC} {ad:Option Addr} (h:HeapRel base M r E w) (hfresh:∀ i e,E i=some e→nw c 1 i∧e.sc (nw c 1))
  (hE:E i=some (.ro n sz f)) (hr:r i = .slice ad n cap) (hlh:l≤hh) (hhn:hh≤n)
  (hrun:(execOp a.eval o).run P w = .ok (.value (.slice (if cap=l then ad else ad.map (·.add (l * sz))) (hh - l) (cap - l))) w) :
  EffOk P base M r E o a w c (.o (.c (.n c))) [(c,.ro (hh - l) sz (shF l f))] 1:=by
 refine eff_value hrun (r':=more r c (.slice (if cap=l then ad else ad.map (·.add (l * sz))) (hh - l) (cap - l))) (fun i hi=>more_ne i (nw_one.1 hi))
  (h.view (fresh_one hfresh) rfl (fun _ _=>rfl) (fun b hb=>⟨i,_,hE,rfl,rfl,by rw [hr]; exact blk_slc hb⟩) ?_) (by simp only [SV.den,S1.den,SC.den,more_new])
 obtain ⟨ad',cap',h1,h2,hm,h3⟩:=h.ent i _ hE
 rw [hr] at h1
 cases h1
 refine ⟨_,_,rfl,by omega,by omega,fun hp=>?_⟩
 obtain ⟨b,of,rfl,h5,h6⟩:=h3 (by omega)
 rw [if_neg (by omega)]
 refine ⟨b,of+l * sz,by simp [Addr.add_plain],h5,fun e j he hj=>?_⟩
 have:=h6 (e+l) j (by omega) hj
 have e1:of+l * sz+(e * sz+j)=of+((e+l) * sz+j):=by rw [Nat.add_mul]; omega
 rw [e1,this]
 unfold shF
 rw [SC.den_ext (r:=r) (m:=fun i=>i≠c) more_ne (SC.sc_mono (fun _ hj=>nw_one.1 hj) ((hfresh i _ hE).2 (e+l) j))]
theorem eff_slcDeep {E:Nat→Option Ent} {o:Oper} {c i n cap l hh sz:Nat} {f:Nat→Nat→Value} {d:Nat→Nat→Option (Nat × Nat × (Nat→Nat→Value))} {al:List (Nat × Nat × Nat)} {ad:Option Addr} (h:HeapRel base M r E w) (hfresh:∀ i e,E i=some e→nw c 1 i∧e.sc (nw c 1))
  (hE:E i=some (.deep none n sz f d al)) (hr:r i = .slice ad n cap) (hlh:l≤hh) (hhn:hh≤n)
  (hrun:(execOp a.eval o).run P w = .ok (.value (.slice (if cap=l then ad else ad.map (·.add (l * sz))) (hh - l) (cap - l))) w) :
  EffOk P base M r E o a w c (.o (.c (.n c))) [(c,.deep none (hh - l) sz (fun e j=>f (e+l) j) (fun e j=>d (e+l) j) [])] 1:=by
 refine eff_value hrun (r':=more r c (.slice (if cap=l then ad else ad.map (·.add (l * sz))) (hh - l) (cap - l))) (fun i hi=>more_ne i (nw_one.1 hi))
  (h.viewD (fresh_one hfresh) rfl (fun _ _=>rfl) (fun b hb=>⟨i,_,hE,rfl,rfl,?_⟩) ?_) (by simp only [SV.den,S1.den,SC.den,more_new])
 ·rcases hb with hb | ⟨e,j,he,hj,h1,h2⟩
  ·exact .inl (by rw [hr]; exact blk_slc hb)
  ·exact .inr ⟨e+l,j,by omega,hj,h1,h2⟩
 obtain ⟨⟨ad',cap',h1,h2,hm,h3⟩,hi,_⟩:=h.ent i _ hE
 rw [hr] at h1
 cases h1
 refine ⟨⟨_,_,rfl,by omega,by omega,fun hp=>?_⟩,fun e j n' sz' g he hj hc=>hi (e+l) j n' sz' g (by omega) hj hc,trivial⟩
 obtain ⟨b,of,rfl,h5,h6⟩:=h3 (by omega)
 rw [if_neg (by omega)]
 refine ⟨b,of+l * sz,by simp [Addr.add_plain],h5,fun e j he hj=>?_⟩
 have:=h6 (e+l) j (by omega) hj
 have e1:of+l * sz+(e * sz+j)=of+((e+l) * sz+j):=by rw [Nat.add_mul]; omega
 rw [e1,this]
theorem run_slc3 {o:Oper} {t e:TypeId} {i:TypeInfo} {x:Operand} {lo:Option Operand} {hi mx:Operand} {ad:Option Addr} {n cap:Nat} {ol:Option Int} {k1 k2 k3:IntKind} {m:Nat} (ho:o.op = .slice t x lo (some hi) (some mx)) (ht:P.underlying t=some (.slice e)) (hi':P.info? e=some i)
  (ex:a.eval x = .slice ad n cap) (hlo:lo.map a.eval=ol.map (fun v=>(.int k1 v:Value))) (h1:ol.getD 0=0) (h2:a.eval hi = .int k2 m) (h3:a.eval mx = .int k3 m) (hm:m≤n) (hnc:n≤cap) (h0:0 < m) :
  (execOp a.eval o).run P w = .ok (.value (.slice (ad.map (·.add (0 * i.size))) m m)) w:=by
 have ht':P.underlying t=some (.slice (P.elem t)):=by rw [elem_of ht]; exact ht
 simp only [execOp,ho]
 refine run_valW ?_
 rw [run_sliceAt_slice _ _ _ _ _ _ ht',ex,run_slice_any _ _ _ _ _ ht',hlo]
 simp only [Option.map_some,h2,h3]
 have hb:(Instr.sliceBounds true n cap (ol.map fun v=>(.int k1 v:Value)) (some (.int k2 m)) (some (.int k3 m))).run P w = .ok (0,m,m) w:=by
  cases ol with
  | none=>
   simp only [Instr.sliceBounds,Option.map_none,Sem.run_bind,Sem.run_pure,Result.andThen_ok]
   rw [run_sliceBound _ _ _ _ _ (by omega) (by simp; omega)]
   simp only [Result.andThen_ok,Sem.run_bind]
   rw [run_sliceBound _ _ _ _ _ (by omega) (by simp)]
   simp
  | some u=>
   simp only [Option.getD_some] at h1
   subst h1
   simp only [Instr.sliceBounds,Option.map_some,Sem.run_bind,Sem.run_pure,Result.andThen_ok]
   rw [run_sliceBound _ _ _ _ _ (by omega) (by simp; omega)]
   simp only [Result.andThen_ok,Sem.run_bind]
   rw [run_sliceBound _ _ _ _ _ (by omega) (by simp)]
   simp only [Result.andThen_ok,Sem.run_bind]
   rw [run_sliceBound _ _ _ _ _ (by omega) (by simp)]
   simp
 rw [hb]
 simp only [Result.andThen_ok,elem_of ht,run_sizeOf' hi',sliced,Nat.sub_zero]
 rw [if_neg (by omega)]
theorem HeapRel.weakL {E:Nat→Option Ent} {i:Nat} {x:Ent} (h:HeapRel base M r E w) (hx:x.live=false) (he:x.rel r w (r i)):HeapRel base M r (upd [(i,x)] E) w:=by
 have conv:∀ k e,upd [(i,x)] E k=some e→e.live=true→E k=some e:=by
  intro k e hk hl
  rw [upd_one] at hk
  by_cases hc:i=k
  ·rw [if_pos hc] at hk; cases hk; rw [hx] at hl; cases hl
  ·rw [if_neg hc] at hk; exact hk
 refine ⟨h.size,h.one,h.os,h.tape,h.output,h.frame,?_,?_,?_,?_⟩
 ·intro k e hk
  rw [upd_one] at hk
  by_cases hc:i=k
  ·rw [if_pos hc] at hk; cases hk; subst hc; exact he
  ·rw [if_neg hc] at hk; exact h.ent k e hk
 ·exact fun k j e e' hkj hk hj hm hl=>h.apart k j e e' hkj (conv k e hk (Ent.mut_live hm)) (conv j e' hj hl) hm hl
 ·exact fun k e hk hm=>h.mine k e (conv k e hk (Ent.mut_live hm)) hm
 ·exact fun k e hk hl=>h.src k e (conv k e hk hl) hl
theorem eff_weak {E:Nat→Option Ent} {o:Oper} {c:Nat} {V:Value} {x:Ent} (h:HeapRel base M r E w) (hfresh:∀ i e,E i=some e→nw c 1 i∧e.sc (nw c 1)) (hx:x.live=false)
  (he:x.rel (more r c V) w V) (hrun:(execOp a.eval o).run P w = .ok (.value V) w) (hone:V.oneCell'=true):EffOk P base M r E o a w c (.o (.c (.n c))) [(c,x)] 1:=by
 have h2:HeapRel base M (more r c V) (upd [(c,x)] E) w:=by
  have hx':=h.ext (r':=more r c V) (fresh_one hfresh) more_ne (more_one h.one hone)
  exact hx'.weakL hx (by rw [more_new]; exact he)
 exact eff_value hrun (fun i hi=>more_ne i (nw_one.1 hi)) h2 (by simp only [SV.den,S1.den,SC.den,more_new])
theorem eff_slcOwn {E:Nat→Option Ent} {o:Oper} {c i n cap l hh sz:Nat} {f:Nat→Nat→SC} {ty:TypeId} {ad:Option Addr} (h:HeapRel base M r E w) (hfresh:∀ i e,E i=some e→nw c 1 i∧e.sc (nw c 1))
  (hE:E i=some (.own n sz f ty)) (hr:r i = .slice ad n cap) (hlh:l≤hh) (hhn:hh≤n)
  (hrun:(execOp a.eval o).run P w = .ok (.value (.slice (if cap=l then ad else ad.map (·.add (l * sz))) (hh - l) (cap - l))) w) :
  EffOk P base M r E o a w c (.o (.c (.n c))) [(c,.own (hh - l) sz (shF l f) ty),(i,.dead)] 1:=by
 refine eff_value hrun (r':=more r c (.slice (if cap=l then ad else ad.map (·.add (l * sz))) (hh - l) (cap - l))) (fun i hi=>more_ne i (nw_one.1 hi))
  (h.pass (fresh_one hfresh) rfl hE rfl (Turn.same w _) (fun b hb=>by rw [hr]; exact blk_slc hb) ?_) (by simp only [SV.den,S1.den,SC.den,more_new])
 obtain ⟨hm,hrel⟩:=h.ent i _ hE
 rw [hr] at hrel
 refine ⟨by omega,?_⟩
 rcases hrel with ⟨b,of,cap',cur,h1,h2,h3,h4,h5,h6⟩ | ⟨ad',h1,h0⟩
 ·cases h1
  by_cases hc:cap=l
  ·rw [if_pos hc]
   have e1:hh - l=0:=by omega
   have e2:cap - l=0:=by omega
   rw [e1,e2]
   exact .inr ⟨_,rfl,rfl⟩
  ·rw [if_neg hc]
   have hmul:(cap - l) * sz+l * sz=cap * sz:=by rw [← Nat.add_mul]; congr 1; omega
   refine .inl ⟨b,of+l * sz,cap - l,cur,by simp [Addr.add_plain],h2,by omega,by omega,by omega,fun e j he hj=>?_⟩
   have:=h6 (e+l) j (by omega) hj
   have e1:of+l * sz+(e * sz+j)=of+((e+l) * sz+j):=by rw [Nat.add_mul]; omega
   rw [e1,this]
   unfold shF
   rw [SC.den_ext (r:=r) (m:=fun i=>i≠c) more_ne (SC.sc_mono (fun _ hj=>nw_one.1 hj) ((hfresh i _ hE).2 (e+l) j))]
 ·cases h1
  have e1:hh - l=0:=by omega
  have e2:l=0:=by omega
  rw [e1,e2,if_pos rfl]
  exact .inr ⟨_,rfl,rfl⟩
end
end Go.Sx
namespace Go.Sx
open Go.RowKit
section
variable {P:Program} {base:World} {M:Scp} {N n0:Nat} {r0 r:Rho} {S:St} {a:Act} {w:World}
theorem growBy_le (newLen:Nat):∀ (k c:Nat),Builtin.growBy newLen k c≤max c (2 * newLen+768)
 | 0,c=>by unfold Builtin.growBy; omega
 | k+1,c=>by
  unfold Builtin.growBy
  split
  ·omega
  ·have:=growBy_le newLen k (c+(c+768) / 4)
   omega
theorem nextslicecap_le {need cap:Nat} (h:cap < need):Builtin.nextslicecap need cap≤2 * need+768:=by
 unfold Builtin.nextslicecap
 split
 ·omega
 ·split
  ·omega
  ·have:=growBy_le need 4 cap
   omega
theorem fit_le {k u:Nat} (h:u≤(2 * k+768) * 256) (h2:k≤281474976710):u≤281474976710656 :=
 Nat.le_trans h (Nat.le_trans (Nat.mul_le_mul_right 256 (Nat.add_le_add_right (Nat.mul_le_mul_left 2 h2) 768)) (by decide))
def newsOf (g:Nat→Nat→SC) (m sz:Nat):List SC:=(List.range (m * sz)).map fun k=>g (k / sz) (k % sz)
theorem newsOf_len (g:Nat→Nat→SC) (m sz:Nat):(newsOf g m sz).length=m * sz:=by simp [newsOf]
theorem newsOf_at (g:Nat→Nat→SC) {m sz e j:Nat} (he:e < m) (hj:j < sz):(newsOf g m sz)[e * sz+j]?=some (g e j):=by
 have:=mul_lt_le (s:=sz) he
 unfold newsOf
 rw [List.getElem?_map,List.getElem?_range (by omega)]
 simp only [Option.map_some]
 have h1:(e * sz+j) / sz=e:=by rw [Nat.mul_comm,Nat.mul_add_div (by omega),Nat.div_eq_of_lt hj]; omega
 have h2:(e * sz+j) % sz=j:=by rw [Nat.mul_comm,Nat.mul_add_mod,Nat.mod_eq_of_lt hj]
 rw [h1,h2]
theorem newsOf_ok {g:Nat→Nat→SC} {m sz:Nat} (h:okRow m sz g):∀ x∈newsOf g m sz,x.ok=true:=by
 intro x hx
 unfold newsOf at hx
 simp only [List.mem_map,List.mem_range] at hx
 obtain ⟨k,hk,rfl⟩:=hx
 by_cases h0:sz=0
 ·subst h0; simp at hk
 ·exact h _ _ (by rw [Nat.div_lt_iff_lt_mul (by omega)]; exact hk) (Nat.mod_lt _ (by omega))
theorem src_of {E:Nat→Option Ent} (h:HeapRel base M r E w) {x:S1} {m sz sz2:Nat} {g:Nat→Nat→SC} {tx e':TypeId} (hk:P.underlying tx=some (.slice e')) (hx:rowV E x=some (m,sz2,g)) (hs:m=0∨sz2=sz) (h0:0 < sz) (hok:okRow m sz g) :
  Src P sz tx (x.den r) m ((newsOf g m sz).map (SC.den r)) w:=by
 obtain ⟨ad,cap,hv,hc,hp⟩:=rowV_val h hx
 have hone:∀ u∈(newsOf g m sz).map (SC.den r),u.oneCell'=true:=by
  intro u hu
  simp only [List.mem_map] at hu
  obtain ⟨y,hy,rfl⟩:=hu
  exact SC.ok_den h.one (newsOf_ok hok y hy)
 by_cases hm:m=0
 ·subst hm
  have hn:newsOf g 0 sz=[]:=by simp [newsOf]
  rw [hv,hn]
  refine ⟨.inl ⟨e',hk⟩,fun _=>rfl,?_,?_,by simp,fun u hu=>by cases hu⟩
  ·cases ad<;>simp [Builtin.firstCells,loadCells,loadCellsFrom]
  ·cases ad<;>simp [Builtin.firstCells,loadCells,loadCellsFrom]
 ·rcases hs with hs | rfl
  ·exact absurd hs hm
  ·obtain ⟨b,o,rfl,hlt⟩:=hp (by omega)
   rw [hv]
   refine Src.ofSlice w hk _ _ _ _ (by simp [newsOf_len]) (fun j u hu=>?_) hone
   rw [Addr.add_plain]
   simp only [List.getElem?_map,Option.map_eq_some_iff] at hu
   obtain ⟨y,hy,rfl⟩:=hu
   have hj:j < m * sz2:=by
    have:=(List.getElem?_eq_some_iff.1 hy).1
    rwa [newsOf_len] at this
   have hjd:=Nat.div_add_mod j sz2
   have hlt1:j / sz2 < m:=by rw [Nat.div_lt_iff_lt_mul h0]; exact hj
   have hlt2:j % sz2 < sz2:=Nat.mod_lt _ h0
   have hy':=newsOf_at g hlt1 hlt2
   rw [Nat.mul_comm,hjd] at hy'
   rw [hy'] at hy
   cases hy
   have:=rowV_cells h hx hv hlt1 hlt2
   rw [Nat.mul_comm (j / sz2),hjd] at this
   exact this
theorem run_app {o:Oper} {t tx:TypeId} {s x:Operand} {v:Value} {w':World} (ho:∃ c,o.op = .call c∧c.callee = .builtin .append∧c.args.toList=[s,x]∧c.argTypes.toList=[t,tx])
  (h:(Builtin.append_ #[t,tx] o.type #[a.eval s,a.eval x]).run P w = .ok v w'):(execOp a.eval o).run P w = .ok (.value v) w':=by
 obtain ⟨c,ho,hc,ha,ht⟩:=ho
 have ha':c.args=#[s,x]:=by rw [← Array.toArray_toList (xs:=c.args),ha]
 have ht':c.argTypes=#[t,tx]:=by rw [← Array.toArray_toList (xs:=c.argTypes),ht]
 simp only [execOp,ho,resolve,hc,ha',ht',invoke,builtin,Sem.run_bind,Sem.run_pure,Result.andThen_ok,List.map_toArray,List.map_cons,List.map_nil]
 rw [h]
 rfl
theorem grown_row {E:Nat→Option Ent} {o:Oper} {c n m cap:Nat} {t tx e:TypeId} {i:TypeInfo} {z:Value} {s x:Operand} {sd:Option Addr} {f g:Nat→Nat→SC} (h:HeapRel base M r E w) (hfresh:∀ i e,E i=some e→nw c 1 i∧e.sc (nw c 1))
  (ho:∃ c,o.op = .call c∧c.callee = .builtin .append∧c.args.toList=[s,x]∧c.argTypes.toList=[t,tx]) (ht:P.underlying t=some (.slice e)) (hi:P.info? e=some i) (hz:i.zero=some z) (hzs:z.cells.size=i.size) (hb:0 < i.bytes∧i.bytes≤256)
  (es:a.eval s = .slice sd n cap) (hold:(Builtin.firstCells i.size n (.slice sd n cap)).run P w.drew = .ok ((newsOf f n i.size).map (SC.den r)).toArray w.drew) (hsrc:Src P i.size tx (a.eval x) m ((newsOf g m i.size).map (SC.den r)) w)
  (hg:cap < n+m) (hle:n+m≤281474976710) (hfsc:∀ e j,(f e j).sc (nw c 1)) (hgsc:∀ e j,(g e j).sc (nw c 1)) :
  ∃ w' r' V,(execOp a.eval o).run P w = .ok (.value V) w'∧(∀ i,nw c 1 i→r' i=r i)∧r' c=V∧HeapRel base M r' (upd [(c,.own (n+m) i.size (catF n f g) e)] E) w':=by
 have hfit:Builtin.nextslicecap (n+m) cap * i.bytes≤281474976710656:=by
  have h1:=nextslicecap_le hg
  generalize Builtin.nextslicecap (n+m) cap=q at h1
  have h2:q * i.bytes≤(2 * (n+m)+768) * 256:=Nat.mul_le_mul h1 hb.2
  exact fit_le h2 hle
 have h63:((n+m:Nat):Int)≤9223372036854775807:=by omega
 have hrun:=run_append_grow_src (P:=P) w t tx o.type e i z ht hi hz sd n cap _ hold (a.eval x) m _ hsrc hg h63 hfit
 rw [← es] at hrun
 have hcap:=grownCap_ge w (n+m) cap e
 refine ⟨_,more r c _,_,run_app ho hrun,fun k hk=>more_ne k (nw_one.1 hk),more_new,?_⟩
 have hd:=h.drawn1
 refine hd.mk1 (fresh_one hfresh) rfl (fun b hb=>?_) ⟨by omega,.inl ⟨_,0,_,_,rfl,.of (heap_alloc_new _ _),hcap,by omega,?_,fun e1 j he hj=>?_⟩⟩
 ·simp only [blkOf] at hb
  split at hb
  ·cases hb
  ·cases hb; rfl
 ·have hmul:(n+m) * i.size+(grownCap w (n+m) cap e - (n+m)) * i.size=grownCap w (n+m) cap e * i.size:=by rw [← Nat.add_mul]; congr 1; omega
  simp [newsOf_len,Builtin.zeroCells,hzs]
  rw [← Nat.add_mul]
  omega
 ·rw [Nat.zero_add]
  have hrow:=mul_lt_le (s:=i.size) he
  rw [Array.getElem?_append_left (by simp [newsOf_len]; rw [← Nat.add_mul]; omega)]
  simp only [List.getElem?_toArray,← List.map_append,List.getElem?_map]
  have hsc:∀ y:SC,y.sc (nw c 1)→y.den (more r c (.slice (some ⟨w.heap.size,0,none⟩) (n+m) (grownCap w (n+m) cap e)))=y.den r :=
   fun y hy=>SC.den_ext (m:=fun i=>i≠c) more_ne (SC.sc_mono (fun _ hj=>nw_one.1 hj) hy)
  unfold catF
  by_cases h1:e1 < n
  ·have:=mul_lt_le (s:=i.size) h1
   rw [if_pos h1,List.getElem?_append_left (by rw [newsOf_len]; omega),newsOf_at f h1 hj]
   simp only [Option.map_some]
   rw [hsc _ (hfsc e1 j)]
  ·have hle2:n * i.size≤e1 * i.size:=Nat.mul_le_mul_right _ (by omega)
   rw [if_neg h1,List.getElem?_append_right (by rw [newsOf_len]; omega),newsOf_len]
   have e2:e1 * i.size+j - n * i.size=(e1 - n) * i.size+j:=by rw [Nat.sub_mul]; omega
   rw [e2,newsOf_at g (by omega) hj]
   simp only [Option.map_some]
   rw [hsc _ (hgsc _ j)]
end
end Go.Sx
namespace Go.Sx
open Go.RowKit
section
variable {P:Program} {base:World} {M:Scp} {N n0:Nat} {r0 r:Rho} {S:St} {a:Act} {w:World}
theorem run_app0 {t tx ty e:TypeId} {i:TypeInfo} {sd:Option Addr} {x:Value} {news:List Value} (ht:P.underlying t=some (.slice e)) (hi:P.info? e=some i) (hs:Src P i.size tx x 0 news w) :
  (Builtin.append_ #[t,tx] ty #[.slice sd 0 0,x]).run P w = .ok (.slice sd 0 0) w:=by
 have hn:news=[]:=List.eq_nil_of_length_eq_zero (by rw [hs.newsLen]; simp)
 have hc:=hs.cells
 rw [hn] at hc
 rcases hs.kind with ⟨e',hk⟩ | hk<;>cases sd<;>simp [Builtin.append_,run_underlying ht,run_underlying hk,sizeOf,typeInfo,hi,hs.len,hc,storeCells]
theorem firstCells0 (size:Nat) (sd:Option Addr) (w':World):(Builtin.firstCells size 0 (.slice sd 0 0)).run P w' = .ok #[] w':=by
 cases sd<;>simp [Builtin.firstCells,loadCells,loadCellsFrom]
theorem newsOf0 (f:Nat→Nat→SC) (sz:Nat):newsOf f 0 sz=[]:=by simp [newsOf]
theorem catF0 (f g:Nat→Nat→SC):catF 0 f g=g:=by funext e j; simp [catF]
theorem den_news {m sz:Nat} {g:Nat→Nat→SC} {r:Rho}:((newsOf g m sz).map (SC.den r)).length=m * sz:=by simp [newsOf_len]
theorem eff_appOwn1 {E:Nat→Option Ent} {o:Oper} {c k n m:Nat} {t tx e e':TypeId} {i:TypeInfo} {z:Value} {s x:Operand} {f g:Nat→Nat→SC} (h:HeapRel base M r E w) (hfresh:∀ i e,E i=some e→nw c 1 i∧e.sc (nw c 1))
  (ho:∃ c,o.op = .call c∧c.callee = .builtin .append∧c.args.toList=[s,x]∧c.argTypes.toList=[t,tx]) (ht:P.underlying t=some (.slice e)) (hk:P.underlying tx=some (.slice e')) (hi:P.info? e=some i) (hz:i.zero=some z) (hzs:z.cells.size=i.size) (hb:0 < i.bytes∧i.bytes≤256) (h0:0 < i.size)
  (hE:E k=some (.own n i.size f e)) (es:a.eval s=r k) (hsrc:Src P i.size tx (a.eval x) m ((newsOf g m i.size).map (SC.den r)) w) (hgsc:∀ e j,(g e j).sc (nw c 1)) (hle:n+m≤281474976710) :
  EffOk P base M r E o a w c (.o (.c (.n c))) [(c,.own (n+m) i.size (catF n f g) e),(k,.dead)] 1:=by
 have hck:c≠k:=fun hh=>(fresh_one hfresh k _ hE).1 hh.symm
 have hfsc:∀ e j,(f e j).sc (nw c 1):=(hfresh k _ hE).2
 have finish:(∃ w' r' V,(execOp a.eval o).run P w = .ok (.value V) w'∧(∀ i,nw c 1 i→r' i=r i)∧r' c=V∧HeapRel base M r' (upd [(c,.own (n+m) i.size (catF n f g) e)] E) w') →
   EffOk P base M r E o a w c (.o (.c (.n c))) [(c,.own (n+m) i.size (catF n f g) e),(k,.dead)] 1:=by
  rintro ⟨w',r',V,h1,h2,h3,h4⟩
  refine eff_value h1 h2 ((h4.kill k).congrE fun j=>?_) h3
  rw [upd_two,upd_one,upd_one]
  by_cases hj:c=j
  ·subst hj; rw [if_pos rfl,if_neg (Ne.symm hck),if_pos rfl]
  ·rw [if_neg hj,if_neg hj]
 obtain ⟨hmx,hrel⟩:=h.ent k _ hE
 rcases hrel with ⟨b,of,cap,cur,h1,h2,h3,h4,h5,h6⟩ | ⟨ad,h1,hn0⟩
 ·have hnews:=den_news (m:=m) (sz:=i.size) (g:=g) (r:=r)
  by_cases hroom:n+m≤cap
  ·have hrow:n * i.size+m * i.size≤cap * i.size:=by rw [← Nat.add_mul]; exact Nat.mul_le_mul_right _ hroom
   have hst:=RowB.store (P:=P) (of+n * i.size) ((newsOf g m i.size).map (SC.den r)) 0 h2 (by rw [hnews]; omega) hsrc.one
   rw [Nat.add_zero] at hst
   generalize hcur:cur.toList.take (of+n * i.size)++(newsOf g m i.size).map (SC.den r)++cur.toList.drop (of+n * i.size+((newsOf g m i.size).map (SC.den r)).length)=cur' at hst
   have hlen:cur'.length=cur.size:=by rw [← hcur]; simp [newsOf_len]; omega
   have hrun:(Builtin.append_ #[t,tx] o.type #[a.eval s,a.eval x]).run P w = .ok (.slice (some ⟨b,of,none⟩) (n+m) cap) (w.setRow b cur'.toArray):=by
    rw [es,h1]
    rcases hsrc.kind with ⟨e',hk⟩ | hk<;>simp [Builtin.append_,run_underlying ht,run_underlying hk,sizeOf,typeInfo,hi,hsrc.len,hroom,hsrc.cells,Addr.add_plain,hst]
   refine eff_value (run_app ho hrun) (r':=more r c (.slice (some ⟨b,of,none⟩) (n+m) cap)) (fun j hj=>more_ne j (nw_one.1 hj))
    (h.pass (fresh_one hfresh) rfl hE rfl (w':=w.setRow b cur'.toArray) ?_ (fun b' hb'=>?_) ⟨by omega,.inl ⟨b,of,cap,cur'.toArray,rfl,h2.set (by simp [hlen]),hroom,h4,by simp [hlen]; exact h5,fun e1 j he hj=>?_⟩⟩) (by simp only [SV.den,S1.den,SC.den,more_new])
   ·rw [h1,blkOf_slice h4]; exact Turn.row w b _
   ·rw [blkOf_slice h4] at hb'; rw [h1,blkOf_slice h4]; exact hb'
   ·have hsc:∀ y:SC,y.sc (nw c 1)→y.den (more r c (.slice (some ⟨b,of,none⟩) (n+m) cap))=y.den r :=
     fun y hy=>SC.den_ext (m:=fun i=>i≠c) more_ne (SC.sc_mono (fun _ hj=>nw_one.1 hj) hy)
    simp only [List.getElem?_toArray]
    rw [← hcur,get_spliced _ _ _ _ (by rw [hnews]; simp; omega),hnews]
    unfold catF
    by_cases hlt:e1 < n
    ·have:=mul_lt_le (s:=i.size) hlt
     rw [if_pos (by omega),if_pos hlt,hsc _ (hfsc e1 j),Array.getElem?_toList]
     exact h6 e1 j hlt hj
    ·have hle2:n * i.size≤e1 * i.size:=Nat.mul_le_mul_right _ (by omega)
     have hlt2:e1 - n < m:=by omega
     have:=mul_lt_le (s:=i.size) hlt2
     have e2:(e1 - n) * i.size=e1 * i.size - n * i.size:=Nat.sub_mul _ _ _
     rw [if_neg (by omega),if_pos (by omega),if_neg hlt,hsc _ (hgsc _ j)]
     have e3:of+(e1 * i.size+j) - (of+n * i.size)=(e1 - n) * i.size+j:=by omega
     rw [e3,List.getElem?_map,newsOf_at g hlt2 hj]
     rfl
  ·refine finish (grown_row (cap:=cap) (sd:=some ⟨b,of,none⟩) h hfresh ho ht hi hz hzs hb (by rw [es,h1]) ?_ hsrc (by omega) hle hfsc hgsc)
   refine run_firstCells_some w.drew i.size n _ n cap _ (by simp [newsOf_len]) (fun j u hu=>?_)
   rw [Addr.add_plain]
   have hj:j < n * i.size:=by
    have:=(List.getElem?_eq_some_iff.1 hu).1
    simpa [newsOf_len] using this
   have hjd:=Nat.div_add_mod j i.size
   have hlt1:j / i.size < n:=by rw [Nat.div_lt_iff_lt_mul h0]; exact hj
   have hlt2:j % i.size < i.size:=Nat.mod_lt _ h0
   have hy':=newsOf_at f hlt1 hlt2
   rw [Nat.mul_comm,hjd] at hy'
   rw [List.getElem?_map,hy'] at hu
   simp only [Option.map_some,Option.some.injEq] at hu
   have hc:=h6 _ _ hlt1 hlt2
   rw [Nat.mul_comm (j / i.size),hjd] at hc
   rw [RowB.cell (w:=w.drew) (cur:=cur) (ty:=e) (h2.congr rfl),hc,hu]
 ·subst hn0
  by_cases hm:m=0
  ·subst hm
   have hrun:=run_app0 (ty:=o.type) (sd:=ad) ht hi hsrc
   rw [← h1,← es] at hrun
   refine eff_value (run_app ho hrun) (r':=more r c (a.eval s)) (fun j hj=>more_ne j (nw_one.1 hj))
    (h.pass (fresh_one hfresh) (by rw [es]; exact h.one k) hE rfl (Turn.same w _) (fun b' hb'=>by rw [es] at hb'; exact hb') ⟨by omega,.inr ⟨ad,by rw [es,h1],rfl⟩⟩) (by simp only [SV.den,S1.den,SC.den,more_new])
  ·refine finish (grown_row (cap:=0) (sd:=ad) h hfresh ho ht hi hz hzs hb (by rw [es,h1]) ?_ hsrc (by omega) hle hfsc hgsc)
   rw [newsOf0]
   exact firstCells0 _ _ _
theorem eff_appOwn {E:Nat→Option Ent} {o:Oper} {c k n m:Nat} {t tx e e':TypeId} {i:TypeInfo} {z:Value} {s x:Operand} {y:S1} {sz2:Nat} {f g:Nat→Nat→SC} (h:HeapRel base M r E w) (hfresh:∀ i e,E i=some e→nw c 1 i∧e.sc (nw c 1))
  (ho:∃ c,o.op = .call c∧c.callee = .builtin .append∧c.args.toList=[s,x]∧c.argTypes.toList=[t,tx]) (ht:P.underlying t=some (.slice e)) (hk:P.underlying tx=some (.slice e')) (hi:P.info? e=some i) (hz:i.zero=some z) (hzs:z.cells.size=i.size) (hb:0 < i.bytes∧i.bytes≤256) (h0:0 < i.size)
  (hE:E k=some (.own n i.size f e)) (es:a.eval s=r k) (ex:a.eval x=y.den r) (hx:rowV E y=some (m,sz2,g)) (hss:m=0∨sz2=i.size) (hok:okRow m i.size g) (hgsc:∀ e j,(g e j).sc (nw c 1)) (hle:n+m≤281474976710) :
  EffOk P base M r E o a w c (.o (.c (.n c))) [(c,.own (n+m) i.size (catF n f g) e),(k,.dead)] 1 :=
 eff_appOwn1 h hfresh ho ht hk hi hz hzs hb h0 hE es (by rw [ex]; exact src_of h hk hx hss h0 hok) hgsc hle
theorem eff_appLen {E:Nat→Option Ent} {o:Oper} {c k j m n:Nat} {t tx e e':TypeId} {i:TypeInfo} {s x:Operand} {y:S1} {f:Nat→Nat→SC} (h:HeapRel base M r E w) (hfresh:∀ i e,E i=some e→nw c 1 i∧e.sc (nw c 1))
  (ho:∃ c,o.op = .call c∧c.callee = .builtin .append∧c.args.toList=[s,x]∧c.argTypes.toList=[t,tx]) (ht:P.underlying t=some (.slice e)) (hk:P.underlying tx=some (.slice e')) (hi:P.info? e=some i)
  (hE:E k=some (.als j m false)) (hE2:E j=some (.own n i.size f e)) (es:a.eval s=r k) (ex:a.eval x=y.den r) (hx:isLen0 E y=true) (h0:0 < m) :
  EffOk P base M r E o a w c (.o (.c (.n c))) [(c,.own m i.size f e),(j,.dead)] 1:=by
 have hv:∃ ad cap,y.den r = .slice ad 0 cap:=by
  unfold isLen0 at hx
  split at hx
  ·rename_i j
   split at hx
   ·rename_i q hj
    obtain ⟨ad,cap,h1,_⟩:=h.ent j _ hj
    simp only [beq_iff_eq] at hx
    subst hx
    exact ⟨ad,cap,h1⟩
   ·cases hx
  ·cases hx
 obtain ⟨ad,cap,hv⟩:=hv
 obtain ⟨sa,n',cap',g1,g2,g3,g4,_⟩:=h.ent k _ hE
 obtain ⟨hm,hrel⟩:=h.ent j _ hE2
 obtain ⟨b,of,cap2,cur,h1,h2,h3,h4,h5,h6⟩:∃ b o cap' cur,r j = .slice (some ⟨b,o,none⟩) n cap'∧RowB w b cur e∧n≤cap'∧0 < cap'∧o+cap' * i.size≤cur.size∧∀ e j,e < n→j < i.size→cur[o+(e * i.size+j)]?=some ((f e j).den r):=by
  rcases hrel with g | ⟨a',g,hn⟩
  ·exact g
  ·rw [g] at g1; cases g1; omega
 rw [h1] at g1
 cases g1
 simp only [Bool.false_eq_true,if_false] at g4
 have hrun:(Builtin.append_ #[t,tx] o.type #[a.eval s,a.eval x]).run P w = .ok (.slice (some ⟨b,of,none⟩) m m) w:=by
  rw [es,g4,ex,hv]
  cases ad<;>simp [Builtin.append_,run_underlying ht,run_underlying hk,sizeOf,typeInfo,hi,Builtin.lenOf,Builtin.firstCells,loadCells,loadCellsFrom,storeCells]
 refine eff_value (run_app ho hrun) (r':=more r c (.slice (some ⟨b,of,none⟩) m m)) (fun j hj=>more_ne j (nw_one.1 hj))
  (h.pass (fresh_one hfresh) rfl hE2 rfl (Turn.same w _) (fun b' hb=>by rw [blkOf_slice h0] at hb; cases hb; rw [h1]; exact blkOf_slice h4) ?_) (by simp only [SV.den,S1.den,SC.den,more_new])
 have hmul:m * i.size≤cap' * i.size:=Nat.mul_le_mul_right _ (by omega)
 refine ⟨by omega,.inl ⟨b,of,m,cur,rfl,h2,Nat.le_refl _,h0,by omega,fun e j he hj=>?_⟩⟩
 rw [h6 e j (by omega) hj]
 rw [SC.den_ext (r:=r) (m:=fun i=>i≠c) more_ne (SC.sc_mono (fun _ hj=>nw_one.1 hj) ((hfresh _ _ hE2).2 e j))]
theorem eff_appNil {E:Nat→Option Ent} {o:Oper} {c m:Nat} {t tx e e':TypeId} {i:TypeInfo} {z:Value} {s x:Operand} {y:S1} {sz2:Nat} {g:Nat→Nat→SC} {ad:Option Addr} (h:HeapRel base M r E w) (hfresh:∀ i e,E i=some e→nw c 1 i∧e.sc (nw c 1))
  (ho:∃ c,o.op = .call c∧c.callee = .builtin .append∧c.args.toList=[s,x]∧c.argTypes.toList=[t,tx]) (ht:P.underlying t=some (.slice e)) (hk:P.underlying tx=some (.slice e')) (hi:P.info? e=some i) (hz:i.zero=some z) (hzs:z.cells.size=i.size) (hb:0 < i.bytes∧i.bytes≤256) (h0:0 < i.size)
  (es:a.eval s = .slice ad 0 0) (ex:a.eval x=y.den r) (hx:rowV E y=some (m,sz2,g)) (hss:m=0∨sz2=i.size) (hok:okRow m i.size g) (hgsc:∀ e j,(g e j).sc (nw c 1)) (hle:m≤281474976710) :
  ∃ w' r' V,(execOp a.eval o).run P w = .ok (.value V) w'∧(∀ i,nw c 1 i→r' i=r i)∧r' c=V∧HeapRel base M r' (upd [(c,.own m i.size g e)] E) w':=by
 have hsrc:Src P i.size tx (a.eval x) m ((newsOf g m i.size).map (SC.den r)) w:=by rw [ex]; exact src_of h hk hx hss h0 hok
 by_cases hm:m=0
 ·subst hm
  have hrun:=run_app0 (ty:=o.type) (sd:=ad) ht hi hsrc
  rw [← es] at hrun
  refine ⟨w,more r c (a.eval s),_,run_app ho hrun,fun j hj=>more_ne j (nw_one.1 hj),more_new,
   h.view (fresh_one hfresh) (by rw [es]; rfl) (fun b hb=>?_) (fun b hb=>?_) ⟨by omega,.inr ⟨ad,es,rfl⟩⟩⟩
  ·rw [es] at hb; cases ad<;>simp [blkOf] at hb
  ·rw [es] at hb; cases ad<;>simp [blkOf] at hb
 ·have key:=grown_row (n:=0) (f:=g) (g:=g) (cap:=0) (sd:=ad) h hfresh ho ht hi hz hzs hb es (by rw [newsOf0]; exact firstCells0 _ _ _) hsrc (by omega) (by omega) hgsc hgsc
  rw [catF0,Nat.zero_add] at key
  exact key
end
end Go.Sx
namespace Go.Sx
open Go.RowKit
section
variable {P:Program} {base:World} {M:Scp} {N n0:Nat} {r0 r:Rho} {S:St} {a:Act} {w:World}
theorem evPick_sound {o:Oper} {c x y:Operand} {gd:Option Bool} {q:Prop} {v:SV} (hr:Rel base M N n0 r0 r S a w)
  (ho:o.op = .pick c x y) (h:evPick gd (rd S.env (xo c)) (rd S.env (xo x)) (rd S.env (xo y))=some (q,v)) (hq:q):Qt P base M r S a o gd v:=by
 unfold evPick at h
 split at h
 ·rename_i pc bc px bx py by_ hc hx hy
  refine fin_sound h hq trivial (fun hp w' hw'=>quietAt_of_yields ?_)
  obtain ⟨h1,h2,h3⟩:=hp
  have e1:=rd_sound hr hc h1
  rw [xo_val] at e1
  unfold Yields
  simp only [execOp,ho,e1]
  cases bc with
  | true=>
   have e2:=rd_sound hr hx (h2 rfl)
   rw [xo_val] at e2
   simp [asBool,e2,S1.den,SC.den]
  | false=>
   have e3:=rd_sound hr hy (h3 rfl)
   rw [xo_val] at e3
   simp [asBool,e3,S1.den,SC.den]
 ·cases h
theorem evExt_sound {o:Oper} {x:Operand} {i:Nat} {gd:Option Bool} {q:Prop} {v:SV} (hr:Rel base M N n0 r0 r S a w)
  (ho:o.op = .extract x i) (h:evExt S.env gd i [xo x]=some (q,v)) (hq:q):Qt P base M r S a o gd v:=by
 unfold evExt at h
 split at h
 ·rename_i s heq
  simp only [List.cons.injEq,and_true] at heq
  split at h
  ·rename_i xs hl
   split at h
   ·rename_i z hz
    refine fin_sound h hq (hr.scE _ _ hl z (nth_mem hz)) (fun _ w' hw'=>quietAt_of_yields ?_)
    have e1:a.eval x=SV.den r (.t xs):=by rw [← xo_val,heq]; exact hr.slot _ _ hl
    unfold Yields
    simp only [execOp,ho,e1,SV.den]
    refine run_val ?_
    rw [nth_eq] at hz
    simp [Instr.extract,hz]
   ·cases h
  ·cases h
 ·cases h
theorem xop1_mv {op:Op} {xs:List XO} (h:xop1 P op=some (.mv,xs)):∃ x,(op = .move x∨op = .assign x)∧xs=[xo x]:=by
 replace h:=xop1_old h (by intro k hk; cases hk) (by intro hk; cases hk)
 cases op<;>simp only [xop0] at h
 case move x=>simp only [Option.some.injEq,Prod.mk.injEq,true_and] at h; exact ⟨x,.inl rfl,h.symm⟩
 case assign x=>simp only [Option.some.injEq,Prod.mk.injEq,true_and] at h; exact ⟨x,.inr rfl,h.symm⟩
 all_goals (first | (cases h; done) | skip)
 all_goals (repeat' split at h)
 all_goals (cases h)
theorem tupOf_sound {x:Operand} {xs:List S1} (hr:Rel base M N n0 r0 r S a w) (h:tupOf S.env (xo x)=some xs):a.eval x=SV.den r (.t xs)∧∀ z∈xs,z.sc (upto S.next):=by
 rw [← xo_val]
 unfold tupOf at h
 split at h
 ·rename_i s heq
  split at h
  ·rename_i l hl
   cases h
   rw [heq]
   exact ⟨hr.slot _ _ hl,hr.scE _ _ hl⟩
  ·cases h
 ·cases h
theorem run_mv {o:Oper} {x:Operand} {v:Value} (ho:o.op = .move x∨o.op = .assign x) (hv:a.eval x=v):Yields P o a w v:=by
 rcases ho with ho | ho<;>(unfold Yields; simp [execOp,ho,hv])
theorem xop1_call {op:Op} {xs:List XO} {f:Nat} (h:xop1 P op=some (.call f,xs)) (hv:isV f=false):∃ c,op = .call c∧c.callee = .value (.func f)∧xs=c.args.toList.map xo:=by
 replace h:=xop1_old h (by intro k hk; cases hk) (by intro hk; cases hk) (by intro f' hf; cases hf; exact hv)
 cases op<;>simp only [xop0] at h
 case call c=>
  refine ⟨c,rfl,?_⟩
  split at h
  ·rename_i f' hc
   split at h
   ·cases h
   ·simp only [Option.some.injEq,Prod.mk.injEq,XOp.call.injEq] at h
    obtain ⟨rfl,rfl⟩:=h
    exact ⟨hc,rfl⟩
  all_goals (first | (cases h; done) | skip)
  all_goals (repeat' split at h)
  all_goals (cases h)
 all_goals (first | (cases h; done) | skip)
 all_goals (repeat' split at h)
 all_goals (cases h)
theorem xop1_run {o:Oper} {f:Nat} {xs:List XO} {args:List Value} (h:xop1 P o.op=some (.call f,xs)) (hargs:xs.map (XO.val a)=args) :
  (execOp a.eval o).run P w=(callX f args.toArray).run P w:=by
 cases hv:isV f with
 | false=>
  obtain ⟨c,ho,hc,rfl⟩:=xop1_call h hv
  rw [callX_f hv]
  refine run_callf ho hc ?_
  rw [← hargs,List.map_map,Array.toList_map]
  exact List.map_congr_left fun x _=>(xo_val a x).symm
 | true=>
  obtain ⟨ys,hp,rfl⟩:=xop1_prim h hv
  rw [(primN_sound hp a).2,← hargs,List.map_map]
  congr 3
  exact List.map_congr_left fun x _=>(xo_val a x).symm
theorem xop1_callv {op:Op} {xs:List XO} (h:xop1 P op=some (.callv,xs)):∃ c i,op = .call c∧c.callee = .value (.tmp i)∧xs = .t i :: c.args.toList.map xo:=by
 replace h:=xop1_old h (by intro k hk; cases hk) (by intro hk; cases hk)
 cases op<;>simp only [xop0] at h
 case call c=>
  split at h
  ·split at h<;>cases h
  ·rename_i i hc
   simp only [Option.some.injEq,Prod.mk.injEq,true_and] at h
   exact ⟨c,i,rfl,hc,h.symm⟩
  all_goals (first | (cases h; done) | skip)
  all_goals (repeat' split at h)
  all_goals (cases h)
 all_goals (first | (cases h; done) | skip)
 all_goals (repeat' split at h)
 all_goals (cases h)
theorem xop1_pick {op:Op} {xs:List XO} (h:xop1 P op=some (.pick,xs)):∃ c x y,op = .pick c x y∧xs=[xo c,xo x,xo y]:=by
 replace h:=xop1_old h (by intro k hk; cases hk) (by intro hk; cases hk)
 cases op<;>simp only [xop0] at h
 case pick c x y=>simp only [Option.some.injEq,Prod.mk.injEq,true_and] at h; exact ⟨c,x,y,rfl,h.symm⟩
 all_goals (first | (cases h; done) | skip)
 all_goals (repeat' split at h)
 all_goals (cases h)
theorem xop1_ext {op:Op} {xs:List XO} {i:Nat} (h:xop1 P op=some (.ext i,xs)):∃ x,op = .extract x i∧xs=[xo x]:=by
 replace h:=xop1_old h (by intro k hk; cases hk) (by intro hk; cases hk)
 cases op<;>simp only [xop0] at h
 case extract x j=>simp only [Option.some.injEq,Prod.mk.injEq,XOp.ext.injEq] at h; obtain ⟨rfl,rfl⟩:=h; exact ⟨x,rfl,rfl⟩
 all_goals (first | (cases h; done) | skip)
 all_goals (repeat' split at h)
 all_goals (cases h)
theorem xop1_box {op:Op} {xs:List XO} {ty:TypeId} (h:xop1 P op=some (.box ty,xs)):∃ x,op = .box ty x∧xs=[xo x]:=by
 replace h:=xop1_old h (by intro k hk; cases hk) (by intro hk; cases hk)
 cases op<;>simp only [xop0] at h
 case box t x=>simp only [Option.some.injEq,Prod.mk.injEq,XOp.box.injEq] at h; obtain ⟨rfl,rfl⟩:=h; exact ⟨x,rfl,rfl⟩
 all_goals (first | (cases h; done) | skip)
 all_goals (repeat' split at h)
 all_goals (cases h)
theorem xop1_alloc {op:Op} {xs:List XO} {ty:TypeId} {z:List Value} (h:xop1 P op=some (.alloc ty z,xs)):∃ zz,op = .alloc ty∧(P.info? ty).bind (·.zero)=some zz∧z=zz.cells.toList:=by
 replace h:=xop1_old h (by intro k hk; cases hk) (by intro hk; cases hk)
 cases op<;>simp only [xop0] at h
 case alloc t=>
  split at h
  ·rename_i zz hz
   simp only [Option.some.injEq,Prod.mk.injEq,XOp.alloc.injEq] at h
   obtain ⟨⟨rfl,rfl⟩,_⟩:=h
   exact ⟨zz,rfl,hz,rfl⟩
  ·cases h
 all_goals (first | (cases h; done) | skip)
 all_goals (repeat' split at h)
 all_goals (cases h)
theorem xop1_mkb {op:Op} {xs:List XO} (h:xop1 P op=some (.mkb,xs)):∃ s e x,op = .convert s s x∧P.underlying s=some (.slice e)∧P.underlying e=some (.int .u8)∧xs=[xo x]:=by
 replace h:=xop1_old h (by intro k hk; cases hk) (by intro hk; cases hk)
 cases op<;>simp only [xop0] at h
 case convert s t x=>
  split at h
  ·cases h
  ·rename_i d e hs ht
   split at h
   ·rename_i hst
    subst hst
    split at h
    ·rename_i hu
     simp only [Option.some.injEq,Prod.mk.injEq,true_and] at h
     exact ⟨s,e,x,rfl,ht,hu,h.symm⟩
    ·cases h
   ·cases h
  ·cases h
 all_goals (first | (cases h; done) | skip)
 all_goals (repeat' split at h)
 all_goals (cases h)
theorem xop1_store {op:Op} {xs:List XO} {n:Nat} (h:xop1 P op=some (.store n,xs)):∃ t x y inf,op = .store t x y∧P.info? t=some inf∧n=inf.size∧xs=[xo x,xo y]:=by
 replace h:=xop1_old h (by intro k hk; cases hk) (by intro hk; cases hk)
 cases op<;>simp only [xop0] at h
 case store t x y=>
  split at h
  ·rename_i inf hi
   simp only [Option.some.injEq,Prod.mk.injEq,XOp.store.injEq] at h
   obtain ⟨rfl,rfl⟩:=h
   exact ⟨t,x,y,inf,rfl,hi,rfl,rfl⟩
  ·cases h
 all_goals (first | (cases h; done) | skip)
 all_goals (repeat' split at h)
 all_goals (cases h)
theorem rds_cons {env:List (Nat × SV)} {x:XO} {xs:List XO} {p:Prop} {y:S1} {ys:List S1} (h:rds env (x :: xs)=some (p,y :: ys)) :
  ∃ p1 q,rd env x=some (p1,y)∧rds env xs=some (q,ys)∧(p→p1∧q):=by
 simp only [rds] at h
 split at h
 ·rename_i p1 y1 h1
  split at h
  ·rename_i q ys1 h2
   cases h
   exact ⟨p1,q,h1,h2,id⟩
  ·cases h
 ·cases h
theorem evQ0_sound {Γ:Nat→Con} {ops:Array Oper} {o:Oper} {xp:XOper} {q:Prop} {v:SV} (hΓ:∀ f,COk P f (Γ f)) (hx:xop P ops o=some xp)
  (h:evQ0 Γ xp S=some (q,v)) (hq:q) (hr:Rel base M N n0 r0 r S a w):∃ gd,Region.wanted o (yielded ops a.tmps)=gdB gd∧Qt P base M r S a o gd v:=by
 obtain ⟨hx1,hdst⟩:=xop_parts hx
 unfold evQ0 at h
 split at h
 ·cases h
 ·rename_i gd hg
  refine ⟨gd,guard_sound hx hr hg,?_⟩
  obtain ⟨d,xop,xargs,xg⟩:=xp
  simp only at h hx1
  split at h
  ·-- pick
   obtain ⟨c,x,y,ho,rfl⟩:=xop1_pick hx1
   exact evPick_sound hr ho h hq
  ·rename_i i
   obtain ⟨x,ho,rfl⟩:=xop1_ext hx1
   exact evExt_sound hr ho h hq
  ·rename_i f
   split at h
   ·cases h
   rename_i hvf
   obtain ⟨c,ho,hc,rfl⟩:=xop1_call hx1 hvf
   split at h
   ·rename_i p ys hrd
    refine evCR_sound (fun hp=>⟨hvf,fun w'=>?_⟩) (rds_sc hr hrd) (fun i e h=>hr.scH i e (resE_sub i e h)) (hΓ f ys _ S.next (rds_sc hr hrd) (fun i e h=>hr.scH i e (resE_sub i e h))) h hq
    refine run_callf ho hc ?_
    have:=rds_sound hr hrd hp
    rw [List.map_map] at this
    rw [Array.toList_map,← this]
    exact List.map_congr_left fun x _=>(xo_val a x).symm
   ·cases h
  ·obtain ⟨c,i,ho,hc,rfl⟩:=xop1_callv hx1
   split at h
   ·rename_i p f fs cs ys hrd
    obtain ⟨p1,q,hrd1,hrd2,hpq⟩:=rds_cons hrd
    refine evCR_sound (fun hp=>⟨hp.2.1,fun w'=>?_⟩) (rds_sc hr hrd2) (fun i e h=>hr.scH i e (resE_sub i e h)) (hΓ f ys _ S.next (rds_sc hr hrd2) (fun i e h=>hr.scH i e (resE_sub i e h))) h hq
    obtain ⟨hp,_,rfl,rfl⟩:=hp
    refine run_callv ho hc (rd_sound hr hrd1 (hpq hp).1) ?_
    have:=rds_sound hr hrd2 (hpq hp).2
    rw [List.map_map] at this
    rw [Array.toList_map,← this]
    exact List.map_congr_left fun x _=>(xo_val a x).symm
   ·rename_i p f cs ys hrd
    obtain ⟨p1,q,hrd1,hrd2,hpq⟩:=rds_cons hrd
    have hsf:=rd_sc hr hrd1
    have hys:∀ y∈ys++cpS cs,S1.sc (upto S.next) y:=fun y hy=>by
     rcases List.mem_append.1 hy with g | g
     ·exact rds_sc hr hrd2 y g
     ·exact cpS_sc hsf y g
    refine evCR_sound (fun hp=>⟨hp.2,fun w'=>?_⟩) hys (fun i e h=>hr.scH i e (resE_sub i e h)) (hΓ f (ys++cpS cs) _ S.next hys (fun i e h=>hr.scH i e (resE_sub i e h))) h hq
    replace hp:=hp.1
    rw [List.map_append,cpS_den]
    refine run_callc ho hc (rd_sound hr hrd1 (hpq hp).1) ?_
    have:=rds_sound hr hrd2 (hpq hp).2
    rw [List.map_map] at this
    rw [Array.toList_map,← this]
    exact List.map_congr_left fun x _=>(xo_val a x).symm
   ·cases h
  ·cases h
  ·cases h
  ·cases h
  ·cases h
  ·cases h
  ·cases h
  ·cases h
  ·cases h
  ·-- the rest
   split at h
   ·rename_i p ys hrd
    split at h
    ·rename_i q' z hq'
     refine fin_sound h hq (opQ_sc hr.scH (rds_sc hr hrd) hq') (fun hp w' hw'=>quietAt_of_yields ?_)
     exact sound_q hw' hx1 (rds_sound hr hrd hp.1) hq' hp.2
    ·cases h
   ·cases h
theorem evQ_sound {Γ:Nat→Con} {ops:Array Oper} {o:Oper} {xp:XOper} {q:Prop} {v:SV} (hΓ:∀ f,COk P f (Γ f)) (hx:xop P ops o=some xp)
  (h:evQ Γ xp S=some (q,v)) (hq:q) (hr:Rel base M N n0 r0 r S a w):∃ gd,Region.wanted o (yielded ops a.tmps)=gdB gd∧Qt P base M r S a o gd v:=by
 unfold evQ at h
 split at h
 ·rename_i xs ht
  simp only [Option.some.injEq,Prod.mk.injEq] at h
  obtain ⟨rfl,rfl⟩:=h
  obtain ⟨hx1,hdst⟩:=xop_parts hx
  unfold evTup at ht
  split at ht
  ·cases ht
  ·rename_i hg
   refine ⟨none,guard_sound hx hr (by rw [hg]; rfl),?_⟩
   obtain ⟨d,xop,xargs,xg⟩:=xp
   simp only at ht hx1
   split at ht
   ·obtain ⟨x,ho,rfl⟩:=xop1_mv hx1
    simp only at ht
    obtain ⟨e1,e2⟩:=tupOf_sound hr ht
    exact ⟨e2,fun _ w' hw'=>quietAt_of_yields (run_mv ho e1),fun h=>by cases h⟩
   ·cases ht
 ·exact evQ0_sound hΓ hx h hq hr
theorem xop1_slit {op:Op} {xs:List XO} {ty:TypeId} {len sz:Nat} {zs:List Value} {pl:List (Nat × Nat)} (h:xop1 P op=some (.slit ty len sz zs pl,xs)) :
  ∃ t parts i z,op = .buildSlice t len parts∧P.underlying t=some (.slice ty)∧P.info? ty=some i∧i.zero=some z∧sz=i.size∧len * i.size≤16777216∧0 < i.size∧zs=zrep z.cells.toList (len * i.size) ∧
   pl=(parts.toList.map fun p=>(p.1 * i.size,i.size))∧xs=parts.toList.map fun p=>xo p.2:=by
 replace h:=xop1_old h (by intro k hk; cases hk) (by intro hk; cases hk)
 cases op<;>simp only [xop0] at h
 case buildSlice t len' parts=>
  split at h
  ·rename_i e ht
   split at h
   ·rename_i i hi
    split at h
    ·rename_i z hz
     split at h
     ·rename_i hc
      simp only [Option.some.injEq,Prod.mk.injEq,XOp.slit.injEq] at h
      obtain ⟨⟨rfl,rfl,rfl,rfl,rfl⟩,rfl⟩:=h
      exact ⟨t,parts,i,z,rfl,ht,hi,hz,rfl,hc.1,hc.2,rfl,rfl,rfl⟩
     ·cases h
    ·cases h
   ·cases h
  ·cases h
 all_goals (first | (cases h; done) | skip)
 all_goals (repeat' split at h)
 all_goals (cases h)
theorem xop1_mks {op:Op} {xs:List XO} {ty:TypeId} {sz bytes:Nat} {zs:List Value} (h:xop1 P op=some (.mks ty sz bytes zs,xs)) :
  ∃ t x y i z,op = .makeSlice t x y∧P.underlying t=some (.slice ty)∧P.info? ty=some i∧i.zero=some z∧sz=i.size∧bytes=i.bytes∧z.cells.size=i.size∧0 < i.size∧zs=z.cells.toList∧xs=[xo x,xo y]:=by
 replace h:=xop1_old h (by intro k hk; cases hk) (by intro hk; cases hk)
 cases op<;>simp only [xop0] at h
 case makeSlice t x y=>
  split at h
  ·rename_i e ht
   split at h
   ·rename_i i hi
    split at h
    ·rename_i z hz
     split at h
     ·rename_i hc
      simp only [Option.some.injEq,Prod.mk.injEq,XOp.mks.injEq] at h
      obtain ⟨⟨rfl,rfl,rfl,rfl⟩,rfl⟩:=h
      exact ⟨t,x,y,i,z,rfl,ht,hi,hz,rfl,rfl,hc.1,hc.2,rfl,rfl⟩
     ·cases h
    ·cases h
   ·cases h
  ·cases h
 all_goals (first | (cases h; done) | skip)
 all_goals (repeat' split at h)
 all_goals (cases h)
theorem xop1_slc {op:Op} {xs:List XO} {sz:Nat} {bl bh bm:Bool} (h:xop1 P op=some (.slc sz bl bh bm,xs)) :
  ∃ t x lo hi mx e i,op = .slice t x lo hi mx∧P.underlying t=some (.slice e)∧P.info? e=some i∧sz=i.size∧bl=lo.isSome∧bh=hi.isSome∧bm=mx.isSome∧xs=xo x :: (lo.toList++hi.toList++mx.toList).map xo:=by
 replace h:=xop1_old h (by intro k hk; cases hk) (by intro hk; cases hk)
 cases op<;>simp only [xop0] at h
 case slice t x lo hi mx=>
  split at h
  ·rename_i e ht
   split at h
   ·rename_i i hi'
    simp only [Option.some.injEq,Prod.mk.injEq,XOp.slc.injEq] at h
    obtain ⟨⟨rfl,rfl,rfl,rfl⟩,rfl⟩:=h
    exact ⟨t,x,lo,hi,mx,e,i,rfl,ht,hi',rfl,rfl,rfl,rfl,rfl⟩
   ·cases h
  ·cases h
 all_goals (first | (cases h; done) | skip)
 all_goals (repeat' split at h)
 all_goals (cases h)
theorem xop1_app {op:Op} {xs:List XO} {ty:TypeId} {sz bytes:Nat} (h:xop1 P op=some (.app ty sz bytes,xs)) :
  ∃ c t tx e' i z s x,op = .call c∧c.callee = .builtin .append∧c.args.toList=[s,x]∧c.argTypes.toList=[t,tx]∧P.underlying t=some (.slice ty)∧P.underlying tx=some (.slice e')∧P.info? ty=some i∧i.zero=some z∧z.cells.size=i.size∧(0 < i.bytes∧i.bytes≤256)∧0 < i.size ∧
   sz=i.size∧xs=[xo s,xo x]:=by
 replace h:=xop1_old h (by intro k hk; cases hk) (by intro hk; cases hk)
 cases op<;>simp only [xop0] at h
 case call c=>
  split at h
  ·split at h<;>cases h
  ·cases h
  ·cases h
  ·cases h
  ·repeat' split at h
   all_goals (cases h)
  ·repeat' split at h
   all_goals (cases h)
  ·rename_i hc
   split at h
   ·rename_i t tx s x ht hs
    split at h
    ·rename_i e e' hu hu'
     split at h
     ·rename_i i hi
      split at h
      ·rename_i hb
       split at h
       ·rename_i z hz
        split at h
        ·rename_i hzs
         simp only [Option.some.injEq,Prod.mk.injEq,XOp.app.injEq] at h
         obtain ⟨⟨rfl,rfl,rfl⟩,rfl⟩:=h
         exact ⟨c,t,tx,e',i,z,s,x,rfl,hc,hs,ht,hu,hu',hi,hz,hzs,⟨hb.1,hb.2.1⟩,hb.2.2,rfl,rfl⟩
        ·cases h
       ·cases h
      ·cases h
     ·cases h
    ·cases h
   ·cases h
  ·cases h
 all_goals (first | (cases h; done) | skip)
 all_goals (repeat' split at h)
 all_goals (cases h)
theorem xop1_ustr {op:Op} {xs:List XO} {e:Nat} (h:xop1 P op=some (.ustr e,xs)) :
  ∃ c pt it x y,op = .call c∧c.callee = .builtin .unsafeString∧c.argTypes.toList=[pt,it]∧c.args.toList=[x,y]∧P.underlying pt=some (.pointer e)∧P.cellsOf e=1∧xs=[xo x,xo y]:=by
 replace h:=xop1_old h (by intro k hk; cases hk) (by intro hk; cases hk)
 cases op<;>simp only [xop0] at h
 case call c=>
  split at h
  ·split at h<;>cases h
  ·cases h
  ·cases h
  ·cases h
  ·repeat' split at h
   all_goals (cases h)
  ·rename_i hc
   split at h
   ·rename_i pt it x y ht hs
    split at h
    ·rename_i e' hu
     split at h
     ·rename_i hcc
      simp only [Option.some.injEq,Prod.mk.injEq,XOp.ustr.injEq] at h
      obtain ⟨rfl,rfl⟩:=h
      exact ⟨c,pt,it,x,y,rfl,hc,ht,hs,hu,hcc,rfl⟩
     ·cases h
    ·cases h
   ·cases h
  all_goals (first | (cases h; done) | skip)
  all_goals (repeat' split at h)
  all_goals (cases h)
 all_goals (first | (cases h; done) | skip)
 all_goals (repeat' split at h)
 all_goals (cases h)
theorem cells_sc {m:Nat→Prop} {z:S1} (h:z.sc m):∀ x∈z.cells,SC.sc m x:=by
 cases z with
 | c c=>intro x hx; simp only [S1.cells,List.mem_singleton] at hx; subst hx; exact h
 | a zs=>exact h
theorem rowV_sc {E:Nat→Option Ent} {m:Nat→Prop} {x:S1} {n sz:Nat} {f:Nat→Nat→SC} (hE:∀ i e,E i=some e→e.sc m) (h:rowV E x=some (n,sz,f)):∀ e j,(f e j).sc m:=by
 unfold rowV at h
 split at h
 ·unfold rowOf at h
  split at h
  ·rename_i he; cases h; exact hE _ _ he
  ·rename_i he; cases h; exact hE _ _ he
  ·cases h; exact fun _ _=>trivial
  ·rename_i he; cases h; exact fun _ _=>alF_sc (hE _ _ he)
  ·cases h
 ·cases h; exact fun _ _=>trivial
 ·cases h
theorem takeI_inv {b:Bool} {ys ys':List S1} {o:Option Int} (h:takeI b ys=some (o,ys')):(b=false∧o=none∧ys'=ys)∨(b=true∧∃ k n,o=some n∧ys = .c (.v (.int k n)) :: ys'):=by
 unfold takeI at h
 split at h
 ·cases h; exact .inl ⟨rfl,rfl,rfl⟩
 ·cases h; exact .inr ⟨rfl,_,_,rfl,rfl⟩
 ·cases h
theorem takeI_val {lo:Option Operand} {rest:List Operand} {ys ys':List S1} {o:Option Int} (h:takeI lo.isSome ys=some (o,ys')) (hv:((lo.toList++rest).map xo).map (XO.val a)=ys.map (S1.den r)) :
  (∃ k,lo.map a.eval=o.map (fun v=>(.int k v:Value)))∧(rest.map xo).map (XO.val a)=ys'.map (S1.den r):=by
 cases lo with
 | none=>
  rcases takeI_inv h with ⟨_,rfl,rfl⟩ | ⟨hh,_⟩
  ·exact ⟨⟨.i64,rfl⟩,by simpa using hv⟩
  ·cases hh
 | some x=>
  rcases takeI_inv h with ⟨hh,_⟩ | ⟨_,k,n,rfl,rfl⟩
  ·cases hh
  ·simp only [Option.toList_some,List.singleton_append,List.map_cons,List.cons.injEq] at hv
   refine ⟨⟨k,?_⟩,hv.2⟩
   have:=hv.1
   rw [xo_val] at this
   simp only [Option.map_some,this]
   rfl
theorem lims_val {lo hi mx:Option Operand} {ys:List S1} {l h m:Option Int} (hl:lims lo.isSome hi.isSome mx.isSome ys=some (l,h,m)) (hv:((lo.toList++hi.toList++mx.toList).map xo).map (XO.val a)=ys.map (S1.den r)) :
  (∃ k,lo.map a.eval=l.map (fun v=>(.int k v:Value)))∧(∃ k,hi.map a.eval=h.map (fun v=>(.int k v:Value)))∧(∃ k,mx.map a.eval=m.map (fun v=>(.int k v:Value))):=by
 unfold lims at hl
 split at hl
 ·rename_i l' ys1 h1
  split at hl
  ·rename_i h' ys2 h2
   split at hl
   ·rename_i m' h3
    cases hl
    rw [List.append_assoc] at hv
    obtain ⟨g1,hv1⟩:=takeI_val h1 hv
    obtain ⟨g2,hv2⟩:=takeI_val h2 hv1
    have hv3:((mx.toList++[]).map xo).map (XO.val a)=ys2.map (S1.den r):=by simpa using hv2
    obtain ⟨g3,_⟩:=takeI_val h3 hv3
    exact ⟨g1,g2,g3⟩
   ·cases hl
  ·cases hl
 ·cases hl
theorem eff_slc_sound {E:Nat→Option Ent} {o:Oper} {c:Nat} {t e:TypeId} {i:TypeInfo} {x:Operand} {lo hi mx:Option Operand} {ys:List S1} {q:Prop} {v:SV} {us:List (Nat × Ent)} {al:Nat} (h:HeapRel base M r E w) (hfresh:∀ i e,E i=some e→nw c al i∧e.sc (nw c al))
  (ho:o.op = .slice t x lo hi mx) (ht:P.underlying t=some (.slice e)) (hi':P.info? e=some i) (hv:(xo x :: (lo.toList++hi.toList++mx.toList).map xo).map (XO.val a)=ys.map (S1.den r))
  (he:eSlc c i.size lo.isSome hi.isSome mx.isSome E ys=some (q,v,us,al)) (hq:q):EffOk P base M r E o a w c v us al:=by
 cases ys with
 | nil=>simp [eSlc] at he
 | cons y ys=>
  simp only [List.map_cons,List.cons.injEq] at hv
  obtain ⟨ex,hv⟩:=hv
  rw [xo_val] at ex
  simp only [eSlc] at he
  split at he
  ·rename_i l hh m hlims
   obtain ⟨⟨k1,g1⟩,⟨k2,g2⟩,⟨k3,g3⟩⟩:=lims_val hlims hv
   split at he
   rotate_left 1
   ·rename_i hm0
    unfold eSlc3 at he
    split at he
    ·rename_i k
     split at he
     ·rename_i j n hE
      cases he
      obtain ⟨q1,rfl,q2,q3⟩:=hq
      obtain ⟨ad,n',cap',k1',k2',k3',k4',k5'⟩:=h.ent k _ hE
      obtain rfl:=k5' rfl
      simp only [if_true] at k4'
      have h1:=k4'
      cases hi with
      | none=>simp at g2
      | some hi=>
       cases mx with
       | none=>simp at g3
       | some mx=>
        simp only [Option.map_some,Option.some.injEq] at g2 g3
        have e1:(m.toNat:Int)=m:=by omega
        have hrun:=run_slc3 (w:=w) ho ht hi' (by rw [ex]; exact h1) g1 q1 (by rw [g2,e1]) (by rw [g3,e1]) (m:=m.toNat) (by omega) k3' (by omega)
        have e2:ad.map (·.add (0 * i.size))=ad:=by
         cases ad with
         | none=>rfl
         | some ad=>
          simp [Addr.add]
        rw [e2] at hrun
        refine eff_weak h hfresh rfl ⟨ad,n,cap',?_,by omega,k3',by simp,by simp⟩ hrun rfl
        rw [more_ne _ (nw_one.1 (hfresh _ _ hE).2)]
        exact k1'
     ·rename_i n sz' f hE
      cases he
      obtain ⟨rfl,q1,rfl,q2,q3⟩:=hq
      obtain ⟨ad,cap,h1,k3,hm,h3⟩:=h.ent k _ hE
      cases hi with
      | none=>simp at g2
      | some hi=>
       cases mx with
       | none=>simp at g3
       | some mx=>
        simp only [Option.map_some,Option.some.injEq] at g2 g3
        have e1:(m.toNat:Int)=m:=by omega
        have hrun:=run_slc3 (w:=w) ho ht hi' (by rw [ex]; exact h1) g1 q1 (by rw [g2,e1]) (by rw [g3,e1]) (m:=m.toNat) (by omega) k3 (by omega)
        have e2:ad.map (·.add (0 * i.size))=ad:=by
         cases ad with
         | none=>rfl
         | some ad=>
          simp [Addr.add]
        rw [e2] at hrun
        refine eff_value hrun (r':=more r c (.slice ad m.toNat m.toNat)) (fun i hi=>more_ne i (nw_one.1 hi))
         (h.view (fresh_one hfresh) rfl (fun _ _=>rfl) (fun b hb=>⟨k,_,hE,rfl,rfl,?_⟩) ?_) (by simp only [SV.den,S1.den,SC.den,more_new])
        ·rw [h1]
         cases ad with
         | none=>simp [blkOf] at hb
         | some ad=>
          simp only [blkOf] at hb ⊢
          rw [if_neg (by omega)] at hb ⊢
          exact hb
        ·refine ⟨ad,m.toNat,rfl,Nat.le_refl _,by omega,fun hp=>?_⟩
         obtain ⟨b,o,rfl,h5,h6⟩:=h3 (by omega)
         exact ⟨b,o,rfl,h5,fun e j he hj=>by
          rw [h6 e j (by omega) hj,SC.den_ext (r:=r) (m:=fun i=>i≠c) more_ne (SC.sc_mono (fun _ hj=>nw_one.1 hj) ((hfresh _ _ hE).2 e j))]⟩
     ·cases he
    ·cases he
   split at he
   ·rename_i rw_ hrw
    obtain ⟨n,sz,f⟩:=rw_
    cases he
    obtain ⟨q1,rfl,rfl⟩:=hq
    obtain ⟨ad,cap,hval,_⟩:=rowV_val h hrw
    cases hi with
    | none=>simp at g2
    | some hi=>
     cases mx with
     | none=>simp at g3
     | some mx=>
      simp only [Option.map_some,Option.some.injEq] at g2 g3
      exact eff_slc0 h hfresh (run_slc0 ho ht hi' (by rw [ex,hval]) g1 q1 g2 g3)
   ·cases he
  ·rename_i l hh hlims
   obtain ⟨⟨k1,g1⟩,⟨k2,g2⟩,⟨k3,g3⟩⟩:=lims_val hlims hv
   cases mx with
   | some mx=>simp at g3
   | none=>
    unfold eSlcO at he
    split at he
    ·rename_i k
     split at he
     ·rename_i n sz' f hE
      cases he
      obtain ⟨rfl,q1,q2,q3⟩:=hq
      obtain ⟨ad,cap,h1,h2,hm,h3⟩:=h.ent k _ hE
      have hrun:=run_slc (w:=w) (l:=(l.getD 0).toNat) (hh:=(hh.getD n).toNat) ho ht hi' (by rw [ex]; exact h1) (.inr ⟨k1,g1⟩) ⟨k2,g2⟩ (by omega) (by omega) (by omega) (by omega) h2
      have key:=eff_slcRo h hfresh hE h1 (by omega) (by omega) hrun
      have e1:(hh.getD n).toNat - (l.getD 0).toNat=(hh.getD n - l.getD 0).toNat:=by omega
      rw [e1] at key
      exact key
     ·rename_i n sz' f ty hE
      cases he
      obtain ⟨rfl,q1,q2,q3⟩:=hq
      obtain ⟨hm,hrel⟩:=h.ent k _ hE
      obtain ⟨ad,cap,h1,h2⟩:∃ ad cap,r k = .slice ad n cap∧n≤cap:=by
       rcases hrel with ⟨b,of,cap,cur,h1,h2,h3,h4⟩ | ⟨ad,h1,h0⟩
       ·exact ⟨_,cap,h1,h3⟩
       ·exact ⟨ad,0,by rw [h1,h0],by omega⟩
      have hrun:=run_slc (w:=w) (l:=(l.getD 0).toNat) (hh:=(hh.getD n).toNat) ho ht hi' (by rw [ex]; exact h1) (.inr ⟨k1,g1⟩) ⟨k2,g2⟩ (by omega) (by omega) (by omega) (by omega) h2
      have key:=eff_slcOwn h hfresh hE h1 (by omega) (by omega) hrun
      have e1:(hh.getD n).toNat - (l.getD 0).toNat=(hh.getD n - l.getD 0).toNat:=by omega
      rw [e1] at key
      exact key
     ·rename_i n sz' f d al' hE
      cases he
      obtain ⟨rfl,q1,q2,q3⟩:=hq
      obtain ⟨⟨ad,cap,h1,h2,hm,h3⟩,_⟩:=h.ent k _ hE
      have hrun:=run_slc (w:=w) (l:=(l.getD 0).toNat) (hh:=(hh.getD n).toNat) ho ht hi' (by rw [ex]; exact h1) (.inr ⟨k1,g1⟩) ⟨k2,g2⟩ (by omega) (by omega) (by omega) (by omega) h2
      have key:=eff_slcDeep h hfresh hE h1 (by omega) (by omega) hrun
      have e1:(hh.getD n).toNat - (l.getD 0).toNat=(hh.getD n - l.getD 0).toNat:=by omega
      rw [e1] at key
      exact key
     ·rename_i j n hE
      cases he
      obtain ⟨rfl,q1⟩:=hq
      obtain ⟨ad,n',cap',k1',k2',k3',k4',k5'⟩:=h.ent k _ hE
      obtain rfl:=k5' rfl
      simp only [if_true] at k4'
      have hrun:=run_slc (w:=w) (l:=n) (hh:=n) ho ht hi' (by rw [ex]; exact k4') (.inr ⟨k1,g1⟩) ⟨k2,g2⟩ q1 rfl (by omega) (by omega) k3'
      rw [Nat.sub_self] at hrun
      exact eff_weak h hfresh rfl ⟨_,_,rfl,by omega,by omega⟩ hrun rfl
     ·cases he
    ·cases he
  ·cases he
theorem eff_app_sound {E:Nat→Option Ent} {o:Oper} {c0:Call} {c:Nat} {t tx e e':TypeId} {i:TypeInfo} {z:Value} {s x:Operand} {ys:List S1} {q:Prop} {v:SV} {us:List (Nat × Ent)} {al bytes:Nat} (h:HeapRel base M r E w) (hfresh:∀ i e,E i=some e→nw c al i∧e.sc (nw c al))
  (ho:o.op = .call c0) (hc:c0.callee = .builtin .append) (ha:c0.args.toList=[s,x]) (hat:c0.argTypes.toList=[t,tx]) (ht:P.underlying t=some (.slice e)) (hk:P.underlying tx=some (.slice e')) (hi:P.info? e=some i) (hz:i.zero=some z) (hzs:z.cells.size=i.size) (hb:0 < i.bytes∧i.bytes≤256) (h0:0 < i.size)
  (hv:[xo s,xo x].map (XO.val a)=ys.map (S1.den r)) (he:eApp c e i.size bytes E ys=some (q,v,us,al)) (hq:q):EffOk P base M r E o a w c v us al:=by
 obtain ⟨y1,y2,rfl,es,ex⟩:=map2 hv
 rw [xo_val] at es ex
 have hoo:∃ c,o.op = .call c∧c.callee = .builtin .append∧c.args.toList=[s,x]∧c.argTypes.toList=[t,tx]:=⟨c0,ho,hc,ha,hat⟩
 unfold eApp at he
 split at he
 ·rename_i k y heq
  cases heq
  split at he
  ·rename_i n sz' f ty' hE
   split at he
   ·rename_i m sz2 g hx
    cases he
    obtain ⟨rfl,rfl,q1,q2,q3⟩:=hq
    exact eff_appOwn h hfresh hoo ht hk hi hz hzs hb h0 hE es ex hx q1 q2 (rowV_sc (fun i e he=>(hfresh i e he).2) hx) q3
   ·cases he
  ·rename_i j m hE
   split at he
   ·rename_i hx
    split at he
    ·rename_i n sz' f ty' hE2
     cases he
     obtain ⟨rfl,rfl,q3⟩:=hq
     exact eff_appLen h hfresh hoo ht hk hi hE hE2 es ex hx q3
    ·cases he
   ·cases he
  ·rename_i hE
   split at he
   ·rename_i m sz2 g hx
    cases he
    obtain ⟨q1,q2,q3⟩:=hq
    obtain ⟨ad,h1⟩:=h.ent k _ hE
    obtain ⟨w',r',V,g1,g2,g3,g4⟩:=eff_appNil h hfresh hoo ht hk hi hz hzs hb h0 (by rw [es]; exact h1) ex hx q1 q2 (rowV_sc (fun i e he=>(hfresh i e he).2) hx) q3
    have hck:c≠k:=fun hh=>(fresh_one hfresh k _ hE).1 hh.symm
    refine eff_value g1 g2 ((g4.kill k).congrE fun j=>?_) g3
    rw [upd_two,upd_one,upd_one]
    by_cases hj:c=j
    ·subst hj; rw [if_pos rfl,if_neg (Ne.symm hck),if_pos rfl]
    ·rw [if_neg hj,if_neg hj]
   ·cases he
  ·cases he
 ·rename_i y heq
  cases heq
  split at he
  ·rename_i m sz2 g hx
   cases he
   obtain ⟨q1,q2,q3⟩:=hq
   obtain ⟨w',r',V,g1,g2,g3,g4⟩:=eff_appNil (ad:=none) h hfresh hoo ht hk hi hz hzs hb h0 es ex hx q1 q2 (rowV_sc (fun i e he=>(hfresh i e he).2) hx) q3
   exact eff_value g1 g2 g4 g3
  ·cases he
 ·cases he
end
end Go.Sx
namespace Go.Sx
open Go.RowKit
section
variable {P:Program} {base:World} {M:Scp} {N n0:Nat} {r0 r:Rho} {S:St} {a:Act} {w:World}
theorem fillS_cells {m:Nat→Prop} {zs:List Value} {pl:List (Nat × Nat)} {ys:List S1} {cs:List SC} (h:fillS (zs.map .v) pl ys=some cs) (hy:∀ y∈ys,S1.sc m y):∀ x∈cs,SC.sc m x :=
 fillS_sc h hy (fun x hx=>by simp only [List.mem_map] at hx; obtain ⟨v,_,rfl⟩:=hx; trivial)
theorem liesAt_off {e:TypeId} (hc:P.cellsOf e=1) (count off n:Nat) (hn:off+n≤count):liesAt P P.depth e count off e n=true:=by
 have hd:P.depth=(2 * (P.types.size+Made.depth)+1)+1:=rfl
 rw [hd]
 simp only [liesAt,Bool.or_eq_true]
 left
 rw [hd]
 simp [rowAt,hc,hn,sameLayout,Nat.mod_one]
theorem rowI_get (n:Nat) (f:Nat→Nat→SC) (j:Nat) (hj:j < n):(rowI n f)[j]?=some (intC (f j 0)):=by
 simp [rowI,hj]
theorem bind_pure_valW {s:Sem Value} {v:Value} {w':World} (h:s.run P w = .ok v w') (c:Call) (ρ:Operand→Value) (ty:TypeId) (b:Builtin) (hc:c.callee = .builtin b)
  (hb:∀ cs,builtin b c.argTypes ty cs (c.args.map ρ)=(do pure (.value (← s)))):(do let d ← resolve ρ c ty; invoke d.target d.args:Sem Next).run P w = .ok (.value v) w':=by
 simp only [resolve,hc,Sem.run_bind,Sem.run_pure,Result.andThen_ok,invoke,hb]
 simp [h]
theorem eff_ustr {E:Nat→Option Ent} {o:Oper} {c0:Call} {c al:Nat} {pt it e:TypeId} {x y:Operand} {ys:List S1} {q:Prop} {v:SV} {us:List (Nat × Ent)} (h:HeapRel base M r E w)
  (ho:o.op = .call c0) (hc:c0.callee = .builtin .unsafeString) (ht:c0.argTypes.toList=[pt,it]) (hxx:c0.args.toList=[x,y]) (hu:P.underlying pt=some (.pointer e)) (hcc:P.cellsOf e=1)
  (hv:[xo x,xo y].map (XO.val a)=ys.map (S1.den r)) (he:eUstr e E ys=some (q,v,us,al)) (hq:q):EffOk P base M r E o a w c v us al:=by
 obtain ⟨z1,z2,rfl,e1,e2⟩:=map2 hv
 rw [xo_val] at e1 e2
 unfold eUstr at he
 split at he
 ·rename_i i l heq
  cases heq
  split at he
  ·rename_i n sz f ty hEi
   cases he
   obtain ⟨rfl,h0,hl,hb,hmx,hby⟩:=hq
   obtain ⟨hm,hrel⟩:=h.ent i _ hEi
   obtain ⟨b,o',cap,cur,g1,g2,g3,g4,g5,g6⟩:∃ b o cap cur,r i = .slice (some ⟨b,o,none⟩) n cap∧RowB w b cur ty∧n≤cap∧0 < cap∧o+cap * sz≤cur.size∧∀ e j,e < n→j < sz→cur[o+(e * sz+j)]?=some ((f e j).den r):=by
    rcases hrel with hh | ⟨_,_,hh⟩
    ·exact hh
    ·omega
   obtain ⟨zz,g2,hzz⟩:=g2
   have hsz:sz=1:=by rcases hb.1 with hh | hh<;>omega
   subst hsz
   obtain ⟨m,rfl⟩:∃ m:Nat,l=m:=⟨l.toNat,by omega⟩
   simp only [Int.toNat_natCast]
   have hcell:∀ j u,(strB (rowI m f)).data.toList[j]?=some u→w.cell? ((⟨b,o',none⟩:Addr).add j)=some (.int .u8 u.toNat):=by
    intro j u hu
    have hjm:j < m:=by
     have:=(List.getElem?_eq_some_iff.1 hu).1
     simpa [strB,rowI] using this
    have hj2:(strB (rowI m f)).data.toList[j]?=some (UInt8.ofNat (intC (f j 0)).toNat):=by
     simp [strB,rowI,hjm]
    rw [hj2] at hu
    cases hu
    rw [Addr.add_plain]
    have hc1:=g6 j 0 (by omega) (by omega)
    rw [hb.2 j (by omega)] at hc1
    simp only [Nat.mul_one,Nat.add_zero,SC.den] at hc1
    have hw:w.cell? ⟨b,o'+j,none⟩=some (.int .u8 (intC (f j 0))):=by
     simp only [World.cell?,g2]
     simpa using hc1
    have hr:=hby (intC (f j 0)) (List.mem_map.2 ⟨j,List.mem_range.2 (by omega),rfl⟩)
    rw [hw]
    congr 2
    generalize intC (f j 0)=u at hr
    have:(UInt8.ofNat u.toNat).toNat=u.toNat % 256:=by simp
    rw [this]; omega
   have hlen:(strB (rowI m f)).data.toList.length=m:=by simp [strB,rowI]
   have hrun:(Builtin.unsafeString_ c0.argTypes o.type (c0.args.map a.eval)).run P w = .ok (.string (strB (rowI m f))) (w.freeze ⟨b,o',none⟩ m):=by
    have h1:c0.argTypes=#[pt,it]:=by apply Array.ext'; rw [ht]
    have h2:c0.args.map a.eval=#[.pointer (some ⟨b,o',none⟩),.int .i64 (m:Int)]:=by
     apply Array.ext'
     rw [Array.toList_map,hxx]
     simp only [List.map_cons,List.map_nil,e1,e2,S1.den,SC.den,g1,addrOf,Nat.zero_mul,Nat.add_zero]
    have hlb:=Lib.run_loadBytes (P:=P) w (strB (rowI m f)).data.toList ⟨b,o',none⟩ .empty hcell
    rw [hlen] at hlb
    have hlies:=liesAt_off (P:=P) hcc (cur.size / P.cellsOf ty) o' m (by rw [hcc,Nat.div_one]; omega)
    have hsh:w.shape? b=some (ty,cur.size):=by simp [World.shape?,g2]
    obtain ⟨m1,m2,m3,hdef⟩:∃ m1 m2 m3:String,Builtin.unsafeString_ #[pt,it] o.type #[.pointer (some ⟨b,o',none⟩),.int .i64 (m:Int)] =
      (do
       let n ← asInt (.int .i64 (m:Int))
       if n < 0 then runtimePanic (.error m1)
       if n > IntKind.i64.max then unsupported (.unsafePointer m2)
       if n=0 then pure (.string .empty)
       else if ← variablesAt ⟨b,o',none⟩ (← elemOf pt) n.toNat then do
        let s ← loadBytes ⟨b,o',none⟩ .empty n.toNat
        freeze ⟨b,o',none⟩ n.toNat
        pure (.string s)
       else unsupported (.unsafePointer m3)):=⟨_,_,_,rfl⟩
    rw [h1,h2,hdef]
    have hmax:IntKind.i64.max=9223372036854775807:=rfl
    have hneg:¬ (m:Int) < 0:=by omega
    have hm0:m≠0:=by omega
    have h63:¬ (9223372036854775807:Int) < (m:Int):=by omega
    have hfin:(⟨ByteArray.empty.data++(strB (rowI m f)).data.toList.toArray⟩:ByteArray)=strB (rowI m f):=by
     have h1:ByteArray.empty.data=#[]:=rfl
     rw [h1]; simp
    rw [hfin] at hlb
    simp [asInt,asIntOf,hmax,h63,hneg,hm0,variablesAt,hsh,elemOf,run_underlying hu,hlies,hlb]
   refine eff_value (V:=.string (strB (rowI m f))) (w':=w.freeze ⟨b,o',none⟩ m) (r':=r) ?_ (fun _ _=>rfl) ?_ rfl
   ·simp only [execOp,ho]
    exact bind_pure_valW hrun c0 a.eval o.type .unsafeString hc fun cs=>rfl
   ·refine h.turn hEi rfl ?_ trivial
    have hbk:blkOf (r i)=some b:=by rw [g1]; exact blkOf_slice g4
    rw [hbk]
    unfold World.freeze
    rw [if_neg (by omega)]
    exact ⟨by simp,rfl,rfl,⟨rfl,Nat.le_refl _⟩,fun k hk=>by
     simp only [Array.getElem?_modify]
     rw [if_neg (fun hh=>hk (by rw [hh]))]⟩
  ·cases he
 ·cases he
theorem eff_mkb {E:Nat→Option Ent} {o:Oper} {c:Nat} {s e:TypeId} {x:Operand} {i n sz:Nat} {f:Nat→Nat→SC} {ty:TypeId} (h:HeapRel base M r E w)
  (ho:o.op = .convert s s x) (hs:P.underlying s=some (.slice e)) (he:P.underlying e=some (.int .u8)) (ex:a.eval x=r i) (hE:E i=some (.own n sz f ty)) (hn:0 < n) :
  EffOk P base M r E o a w c (.o (.c (.n i))) [(i,.own n sz f ty)] 0:=by
 obtain ⟨hm,hr⟩:=h.ent i _ hE
 rcases hr with ⟨b,of,cap,cur,h1,⟨z,g,hz⟩,h3,h4,h5,h6⟩ | ⟨_,_,h0⟩
 ·have hsh:w.shape? b=some (ty,cur.size):=by simp [World.shape?,g]
  have hrun:(execOp a.eval o).run P w = .ok (.value (r i)) (w.freeze ⟨b,cur.size,none⟩ 1):=by
   simp only [execOp,ho,ex,h1]
   refine run_valW ?_
   simp [convert,run_underlying hs,run_underlying he,markStringish,hsh]
  refine eff_value (r':=r) hrun (fun _ _=>rfl) (h.turn hE rfl ?_ ⟨hm,.inl ⟨b,of,cap,cur,h1,?_,h3,h4,h5,h6⟩⟩) rfl
  ·rw [h1,blkOf_slice h4]
   unfold World.freeze
   rw [if_neg (by omega)]
   exact ⟨by simp,rfl,rfl,⟨rfl,Nat.le_refl _⟩,fun k hk=>by
    simp only [Array.getElem?_modify]
    rw [if_neg (fun hh=>hk (by rw [hh]))]⟩
  ·obtain ⟨lo,hi⟩:=z
   refine ⟨if lo == hi then (cur.size,cur.size+1) else (min lo cur.size,max hi (cur.size+1)),?_,.inr ?_⟩
   ·unfold World.freeze
    rw [if_neg (by omega)]
    simp only [Array.getElem?_modify,if_true,g,Option.map_some]
   ·split
    ·exact Nat.le_refl _
    ·rename_i hne
     rcases hz with hz | hz
     ·cases hz; exact absurd rfl hne
     ·exact Nat.le_min.2 ⟨hz,Nat.le_refl _⟩
 ·omega
theorem effE_sound {Γ:Nat→Con} {o:Oper} {op:XOp} {args:List XO} {E:Nat→Option Ent} {ys:List S1} {q:Prop} {v:SV} {us:List (Nat × Ent)} {c al:Nat} (hΓ:∀ f,COk P f (Γ f)) (hx:xop1 P o.op=some (op,args)) (h:HeapRel base M r E w)
  (hv:args.map (XO.val a)=ys.map (S1.den r)) (hys:∀ y∈ys,S1.sc (nw c al) y) (hfresh:∀ i e,E i=some e→nw c al i∧e.sc (nw c al))
  (hlow:(∀ y∈ys,S1.sc (upto c) y)∧∀ i e,resE (reach E (ids1L ys)) E i=some e→i < c∧e.sc (upto c))
  (he:effE Γ c op E ys=some (q,v,us,al)) (hq:q):EffOk P base M r E o a w c v us al:=by
 unfold effE at he
 split at he
 ·rename_i ty
  obtain ⟨x,ho,rfl⟩:=xop1_box hx
  unfold eBox at he
  split at he
  ·rename_i z
   cases he
   simp only [List.map_cons,List.map_nil,List.cons.injEq,and_true] at hv
   rw [xo_val] at hv
   refine eff_box (vs:=(a.eval x).cells) h hfresh (cells_sc (hys z (by simp))) ?_ ?_
   ·rw [hv,← S1.cells_ok h.one hq,Array.toArray_toList]
   ·simp [execOp,ho,Instr.box,newVar,newRow]
  ·cases he
 ·rename_i ty z
  obtain ⟨zz,ho,hz,rfl⟩:=xop1_alloc hx
  obtain ⟨i,hi,hzi⟩:=Option.bind_eq_some_iff.1 hz
  unfold eAlloc at he
  cases he
  refine eff_box (vs:=zz.cells) h hfresh ?_ ?_ ?_
  ·intro x hx
   simp only [List.mem_map] at hx
   obtain ⟨v,_,rfl⟩:=hx
   trivial
  ·rw [List.map_map]
   have:(SC.den r ∘ SC.v)=id:=rfl
   rw [this,List.map_id,Array.toArray_toList]
  ·simp [execOp,ho,Instr.alloc,zeroValue,run_typeInfo' hi,hzi,newVar,newRow]
 ·rename_i n
  obtain ⟨t,x,y,inf,ho,hi,rfl,rfl⟩:=xop1_store hx
  obtain ⟨y1,y2,rfl,e1,e2⟩:=map2 hv
  rw [xo_val] at e1 e2
  unfold eStore at he
  split at he
  ·rename_i i j z heq
   cases heq
   split at he
   ·rename_i cs ty hE
    cases he
    exact eff_storeB h ho hi e1 e2 hE hq.1 hq.2.1 hq.2.2
   ·rename_i m f ty p hE
    cases he
    exact eff_storeX h ho hi e1 e2 hE hq.1 hq.2.1 hq.2.2
   ·cases he
  ·rename_i i sz e j z heq
   cases heq
   split at he
   ·rename_i m sz' f ty hE
    cases he
    obtain ⟨rfl,q1,q2,q3,q4⟩:=hq
    exact eff_storeR h ho hi e1 e2 hE q1 q2 q3 q4
   ·cases he
  ·cases he
 ·rename_i f
  exact call_eff (l:=reach E (ids1L ys)) h (xop1_run hx hv) hfresh hlow.1 hlow.2 (hΓ f ys _ c hlow.1 hlow.2) he hq
 ·rename_i ty len sz zs pl
  obtain ⟨t,parts,i,z,ho,ht,hi,hz,rfl,h1,h2,rfl,rfl,rfl⟩:=xop1_slit hx
  unfold eSlit at he
  split at he
  ·rename_i cs hf
   cases he
   exact eff_slit h hfresh ho ht hi hz h1 h2 hv hf hq.1 (fillS_cells hf hys)
  ·cases he
 ·rename_i ty sz bytes zs
  obtain ⟨t,x,y,i,z,ho,ht,hi,hz,rfl,rfl,hzs,h0,rfl,rfl⟩:=xop1_mks hx
  obtain ⟨y1,y2,rfl,e1,e2⟩:=map2 hv
  rw [xo_val] at e1 e2
  unfold eMks at he
  split at he
  ·rename_i l m heq
   cases heq
   cases he
   obtain ⟨rfl,q1,q2,q3,q4⟩:=hq
   exact eff_mks h hfresh ho ht hi hz hzs h0 e1 e2 q1 q2 q3
  ·cases he
 ·rename_i sz bl bh bm
  obtain ⟨t,x,lo,hi,mx,e,i,ho,ht,hi',rfl,rfl,rfl,rfl,rfl⟩:=xop1_slc hx
  exact eff_slc_sound h hfresh ho ht hi' hv he hq
 ·rename_i ty sz bytes
  obtain ⟨c0,t,tx,e',i,z,s,x,ho,hc,ha,hat,ht,hk,hi,hz,hzs,hb,h0,rfl,rfl⟩:=xop1_app hx
  exact eff_app_sound h hfresh ho hc ha hat ht hk hi hz hzs hb h0 hv he hq
 ·rename_i te
  obtain ⟨c0,pt,it,x,y,ho,hc,ht,hxx,hu,hcc,rfl⟩:=xop1_ustr hx
  exact eff_ustr h ho hc ht hxx hu hcc hv he hq
 ·obtain ⟨s,e,x,ho,hs,hu,rfl⟩:=xop1_mkb hx
  unfold eMkb at he
  split at he
  ·rename_i i
   split at he
   ·rename_i hEi
    cases he
    simp only [List.map_cons,List.map_nil,List.cons.injEq,and_true] at hv
    rw [xo_val] at hv
    exact eff_mkb h ho hs hu hv hEi hq
   ·cases he
  ·cases he
 ·cases he
theorem lk_one {i c:Nat} {x e:Ent} (h:lk [(c,x)] i=some e):c=i∧e=x:=by
 simp only [lk] at h
 split at h
 ·rename_i hc; cases h; exact ⟨hc,rfl⟩
 ·cases h
theorem lk_two {i c d:Nat} {x y e:Ent} (h:lk [(c,x),(d,y)] i=some e):(c=i∧e=x)∨(d=i∧e=y):=by
 simp only [lk] at h
 split at h
 ·rename_i hc; cases h; exact .inl ⟨hc,rfl⟩
 ·split at h
  ·rename_i hc; cases h; exact .inr ⟨hc,rfl⟩
  ·cases h
theorem effE_sc {Γ:Nat→Con} {op:XOp} {E:Nat→Option Ent} {ys:List S1} {q:Prop} {v:SV} {us:List (Nat × Ent)} {c al:Nat} {m:Nat→Prop} (hΓ:∀ f,COk P f (Γ f))
  (hys:∀ y∈ys,S1.sc m y) (hE:∀ i e,E i=some e→m i∧e.sc m) (hnew:∀ i,c≤i→i < c+al→m i)
  (hlow:(∀ y∈ys,S1.sc (upto c) y)∧∀ i e,resE (reach E (ids1L ys)) E i=some e→i < c∧e.sc (upto c))
  (he:effE Γ c op E ys=some (q,v,us,al)) (hq:q):v.sc m∧∀ i e,lk us i=some e→(E i≠none∨(c≤i∧i < c+al))∧m i∧e.sc m:=by
 have one:∀ (x:Ent),al=1→x.sc m→∀ i e,lk [(c,x)] i=some e→(E i≠none∨(c≤i∧i < c+al))∧m i∧e.sc m:=by
  intro x h1 hx i e h
  obtain ⟨rfl,rfl⟩:=lk_one h
  exact ⟨.inr (by omega),hnew _ (by omega) (by omega),hx⟩
 have two:∀ (x:Ent) (k:Nat),al=1→x.sc m→E k≠none→∀ i e,lk [(c,x),(k,.dead)] i=some e→(E i≠none∨(c≤i∧i < c+al))∧m i∧e.sc m:=by
  intro x k h1 hx hk i e h
  rcases lk_two h with ⟨rfl,rfl⟩ | ⟨rfl,rfl⟩
  ·exact ⟨.inr (by omega),hnew _ (by omega) (by omega),hx⟩
  ·refine ⟨.inl hk,?_,trivial⟩
   cases hek:E k with
   | none=>exact absurd hek hk
   | some e=>exact (hE k e hek).1
 have twoL:∀ (x y:Ent) (k:Nat),al=1→x.sc m→E k≠none→y.sc m→∀ i e,lk [(c,x),(k,y)] i=some e→(E i≠none∨(c≤i∧i < c+al))∧m i∧e.sc m:=by
  intro x y k h1 hx hk hy i e h
  rcases lk_two h with ⟨rfl,rfl⟩ | ⟨rfl,rfl⟩
  ·exact ⟨.inr (by omega),hnew _ (by omega) (by omega),hx⟩
  ·refine ⟨.inl hk,?_,hy⟩
   cases hek:E k with
   | none=>exact absurd hek hk
   | some e=>exact (hE k e hek).1
 have hEs:∀ i e,E i=some e→e.sc m:=fun i e h=>(hE i e h).2
 unfold effE at he
 split at he
 ·unfold eBox at he
  split at he
  ·cases he
   exact ⟨show m c from hnew c (by omega) (by omega),one _ rfl (cells_sc (hys _ (by simp)))⟩
  ·cases he
 ·unfold eAlloc at he
  cases he
  refine ⟨show m c from hnew c (by omega) (by omega),one _ rfl ?_⟩
  intro x hx
  simp only [List.mem_map] at hx
  obtain ⟨v,_,rfl⟩:=hx
  trivial
 ·unfold eStore at he
  split at he
  ·split at he
   ·rename_i i j z _ cs ty hEi
    cases he
    refine ⟨(fun x hx=>by cases hx),fun k e h=>?_⟩
    obtain ⟨rfl,rfl⟩:=lk_one h
    refine ⟨.inl (by rw [hEi]; simp),(hE i _ hEi).1,fun x hx=>?_⟩
    rcases setAt_mem hx with hx | hx
    ·exact (hE i _ hEi).2 x hx
    ·exact cells_sc (hys z (by simp)) x hx
   ·rename_i i j z _ m' f ty p hEi
    cases he
    refine ⟨(fun x hx=>by cases hx),fun k e h=>?_⟩
    obtain ⟨rfl,rfl⟩:=lk_one h
    refine ⟨.inl (by rw [hEi]; simp),(hE i _ hEi).1,fun j1=>?_,(hE i _ hEi).2.2⟩
    unfold setF
    split
    ·split
     ·rename_i x hx; exact cells_sc (hys z (by simp)) x (nth_mem hx)
     ·exact (hE i _ hEi).2.1 j1
    ·exact (hE i _ hEi).2.1 j1
   ·cases he
  ·split at he
   ·rename_i i sz e j z _ m' sz' f ty hEi
    cases he
    refine ⟨(fun x hx=>by cases hx),fun k e h=>?_⟩
    obtain ⟨rfl,rfl⟩:=lk_one h
    refine ⟨.inl (by rw [hEi]; simp),(hE i _ hEi).1,fun e1 j1=>?_⟩
    unfold updF
    split
    ·split
     ·rename_i x hx; exact cells_sc (hys z (by simp)) x (nth_mem hx)
     ·exact (hE i _ hEi).2 e1 j1
    ·exact (hE i _ hEi).2 e1 j1
   ·cases he
  ·cases he
 ·rename_i f
  unfold eCall at he
  have hc:=hΓ f ys _ c hlow.1 hlow.2
  split at he
  ·rename_i pre res ents next hcr
   rw [hcr] at hc
   cases he
   obtain ⟨h1,h23,h3,_⟩:=hc hq
   have hnx:c+(next - c)=next:=by omega
   obtain ⟨g1,g2⟩:=h23 m hys (fun i e h=>hE i e (resE_sub i e h)) (fun i h4 h5=>hnew i h4 (by omega))
   refine ⟨g1,fun i e h=>⟨?_,g2 i e h⟩⟩
   rcases h3 i e h with g3 | g3
   ·refine .inl fun hn=>g3 ?_
    cases hre:resE (reach E (ids1L ys)) E i with
    | none=>rfl
    | some e'=>rw [resE_sub i e' hre] at hn; cases hn
   ·exact .inr ⟨g3.1,by omega⟩
  ·cases he
 ·unfold eSlit at he
  split at he
  ·rename_i cs hf
   cases he
   refine ⟨show m c from hnew c (by omega) (by omega),one _ rfl fun e j=>?_⟩
   unfold litF
   split
   ·rename_i x hx; exact fillS_cells hf hys x (nth_mem hx)
   ·trivial
  ·cases he
 ·unfold eMks at he
  split at he
  ·cases he
   refine ⟨show m c from hnew c (by omega) (by omega),one _ rfl fun e j=>?_⟩
   unfold replF
   split<;>trivial
  ·cases he
 ·unfold eSlc at he
  split at he
  ·split at he
   ·split at he
    ·split at he
     ·cases he
      exact ⟨show m c from hnew c (by omega) (by omega),one _ rfl trivial⟩
     ·cases he
    ·unfold eSlc3 at he
     split at he
     ·split at he
      ·rename_i hEi
       cases he
       exact ⟨show m c from hnew c (by omega) (by omega),one _ rfl (show m _ from hEs _ _ hEi)⟩
      ·rename_i hEi
       cases he
       exact ⟨show m c from hnew c (by omega) (by omega),one _ rfl fun e j=>(hEs _ _ hEi) _ _⟩
      ·cases he
     ·cases he
   ·unfold eSlcO at he
    split at he
    ·split at he
     ·rename_i hEi
      cases he
      exact ⟨show m c from hnew c (by omega) (by omega),one _ rfl fun e j=>(hEs _ _ hEi) _ _⟩
     ·rename_i hEi
      cases he
      exact ⟨show m c from hnew c (by omega) (by omega),two _ _ rfl (fun e j=>(hEs _ _ hEi) _ _) (by rw [hEi]; simp)⟩
     ·cases he
      exact ⟨show m c from hnew c (by omega) (by omega),one _ rfl trivial⟩
     ·cases he
      exact ⟨show m c from hnew c (by omega) (by omega),one _ rfl trivial⟩
     ·cases he
    ·cases he
   ·cases he
  ·cases he
 ·unfold eApp at he
  split at he
  ·split at he
   ·rename_i hEi
    split at he
    ·rename_i hx
     cases he
     refine ⟨show m c from hnew c (by omega) (by omega),two _ _ rfl (fun e j=>?_) (by rw [hEi]; simp)⟩
     unfold catF
     split
     ·exact (hEs _ _ hEi) _ _
     ·exact rowV_sc hEs hx _ _
    ·cases he
   ·split at he
    ·split at he
     ·rename_i hEi
      cases he
      exact ⟨show m c from hnew c (by omega) (by omega),two _ _ rfl (fun e j=>(hEs _ _ hEi) _ _) (by rw [hEi]; simp)⟩
     ·cases he
    ·cases he
   ·rename_i hEi
    split at he
    ·rename_i hx
     cases he
     exact ⟨show m c from hnew c (by omega) (by omega),two _ _ rfl (rowV_sc hEs hx) (by rw [hEi]; simp)⟩
    ·cases he
   ·cases he
  ·split at he
   ·rename_i hx
    cases he
    exact ⟨show m c from hnew c (by omega) (by omega),one _ rfl (rowV_sc hEs hx)⟩
   ·cases he
  ·cases he
 ·unfold eUstr at he
  split at he
  ·split at he
   ·rename_i hEi
    cases he
    refine ⟨trivial,fun i e h=>?_⟩
    obtain ⟨rfl,rfl⟩:=lk_one h
    exact ⟨.inl (by rw [hEi]; simp),(hE _ _ hEi).1,trivial⟩
   ·cases he
  ·cases he
 ·unfold eMkb at he
  split at he
  ·rename_i i
   split at he
   ·rename_i n sz f ty hEi
    cases he
    refine ⟨(hE _ _ hEi).1,fun k e h=>?_⟩
    obtain ⟨rfl,rfl⟩:=lk_one h
    exact ⟨.inl (by rw [hEi]; simp),(hE _ _ hEi).1,(hE _ _ hEi).2⟩
   ·cases he
  ·cases he
 ·cases he
theorem rd_scG {env:List (Nat × SV)} {m:Nat→Prop} (h:∀ s v,lk env s=some v→SV.sc m v) {x:XO} {p:Prop} {y:S1} (hr:rd env x=some (p,y)):y.sc m:=by
 cases x with
 | t i=>
  simp only [rd] at hr
  split at hr
  ·rename_i x' hl; cases hr; exact h _ _ hl
  ·rename_i b x' hl; cases hr; exact h _ _ hl
  ·cases hr
 | k v=>
  simp only [rd,Option.some.injEq,Prod.mk.injEq] at hr
  obtain ⟨_,rfl⟩:=hr
  exact constS_sc _ v
theorem rds_scG {env:List (Nat × SV)} {m:Nat→Prop} (h:∀ s v,lk env s=some v→SV.sc m v):∀ {xs:List XO} {p:Prop} {ys:List S1},rds env xs=some (p,ys)→∀ y∈ys,S1.sc m y
 | [],p,ys,hr=>by simp only [rds,Option.some.injEq,Prod.mk.injEq] at hr; obtain ⟨_,rfl⟩:=hr; intro y hy; cases hy
 | x :: xs,p,ys,hr=>by
  simp only [rds] at hr
  split at hr
  ·rename_i p1 y h1
   split at hr
   ·rename_i q ys' h2
    cases hr
    intro z hz
    cases hz with
    | head=>exact rd_scG h h1
    | tail _ hm=>exact rds_scG h h2 z hm
   ·cases hr
  ·cases hr
def pushM (t:Rec) (S:St) (m:Nat):St:=⟨(match t.d with | some s=>(s,t.v) :: S.env | none=>S.env),t.us++S.ents,m⟩
theorem rec_eff {Γ:Nat→Con} {ops:Array Oper} {o:Oper} {xp:XOper} {c m:Nat} {p:Prop} {t:Rec} {Next:Act→World→Prop} {Q:Exit→Act→World→Prop} (hΓ:∀ f,COk P f (Γ f)) (hx:xop P ops o=some xp)
  (hd:∀ s,xp.dst=some s→s < N) (h:recEff Γ c xp S=some (p,t)) (hp:p) (hr:Rel base M N n0 r0 r S a w) (hn0:n0≤c) (hcm:c+t.al≤m) (hSm:S.next≤m)
  (hfe:∀ s v,lk S.env s=some v→v.sc (nw c t.al)) (hfh:∀ i e,lk S.ents i=some e→nw c t.al i∧e.sc (nw c t.al))
  (hlow:∀ p ys,rds S.env xp.args=some (p,ys)→(∀ y∈ys,S1.sc (upto c) y)∧∀ i e,resE (reach (lk S.ents) (ids1L ys)) (lk S.ents) i=some e→i < c∧e.sc (upto c))
  (hN:∀ r' a' w',Rel base M N n0 r0 r' (pushM t S m) a' w'→Next a' w') :
  Region.wanted o (yielded ops a.tmps)=true∧o.wp P a w Next Q:=by
 obtain ⟨hx1,hdst⟩:=xop_parts hx
 unfold recEff at h
 split at h
 ·cases h
 ·rename_i hgn
  obtain ⟨gd,hg1,hg2⟩:=onG_spec hgn
  refine ⟨(guard_sound hx hr hg1).trans hg2,?_⟩
  split at h
  ·rename_i p1 ys hrd
   split at h
   ·rename_i q v us al heff
    cases h
    simp only at hcm hfe hfh hN
    obtain ⟨hp1,hq⟩:=hp
    have hl:=hlow _ _ hrd
    have hsc:=effE_sc (m:=upto m) hΓ (fun y hy=>S1.sc_mono (upto_mono hSm) (rds_sc hr hrd y hy)) (fun i e hi=>⟨Nat.lt_of_lt_of_le (hr.scH i e hi).1 hSm,Ent.sc_mono (upto_mono hSm) (hr.scH i e hi).2⟩) (fun i _ hi=>show i < m by omega) hl heff hq
    have key:=effE_sound hΓ hx1 hr.heap (rds_sound hr hrd hp1) (rds_scG hfe hrd) hfh hl heff hq
    refine key Next Q fun r' w' hr' hh=>hN r' _ w' ?_
    have hrel:Rel base M N n0 r0 r' ⟨S.env,us++S.ents,m⟩ a w':=by
     refine ⟨hr.defers,hr.tmps,fun s v hl=>?_,?_,fun s v hl=>SV.sc_mono (upto_mono hSm) (hr.scE s v hl),fun i e he=>?_,Nat.le_trans hr.low hSm,fun i hi=>?_⟩
     ·rw [SV.den_ext (r:=r) (m:=nw c al) hr' (hfe s v hl)]; exact hr.slot s v hl
     ·have:lk (us++S.ents)=upd us (lk S.ents):=funext (lk_append us S.ents)
      rw [this]; exact hh
     ·rw [lk_append] at he
      unfold upd at he
      split at he
      ·rename_i e' he'; cases he; exact (hsc.2 i _ he').2
      ·exact ⟨Nat.lt_of_lt_of_le (hr.scH i e he).1 hSm,Ent.sc_mono (upto_mono hSm) (hr.scH i e he).2⟩
     ·rw [hr' i (by unfold nw; omega)]; exact hr.keep i hi
    have:=hrel.put (d:=o.dst) (v:=v) (by rw [← hdst]; exact hd) hsc.1
    have e:(⟨S.env,us++S.ents,m⟩:St).put o.dst v=pushM ⟨xp.dst,v,us,c,al,usesX xp,reach (lk S.ents) (ids1L ys)⟩ S m:=by
     rw [← hdst]; unfold St.put pushM; cases xp.dst<;>rfl
    rw [e] at this
    exact this
   ·cases h
  ·cases h
theorem upto_nw {n al:Nat}:∀ i,upto n i→nw n al i:=fun i hi=>by have:i < n:=hi; unfold nw; omega
theorem vcCallD_sound {Γ:Nat→Con} {ops:Array Oper} {o:Oper} {xp:XOper} {K:St→Prop} {Next:Act→World→Prop} {Q:Exit→Act→World→Prop} (hΓ:∀ f,COk P f (Γ f)) (hx:xop P ops o=some xp)
  (hd:∀ s,xp.dst=some s→s < N) (h:vcCallD Γ xp S K) (hr:Rel base M N n0 r0 r S a w)
  (hN:∀ r' S' a' w',K S'→Rel base M N n0 r0 r' S' a' w'→Next a' w') :
  if Region.wanted o (yielded ops a.tmps)=true then o.wp P a w Next Q else Next (a.put o.dst undef) w:=by
 obtain ⟨hx1,hdst⟩:=xop_parts hx
 unfold vcCallD at h
 split at h
 ·exact h.elim
 ·rename_i hgn
  have hw1:Region.wanted o (yielded ops a.tmps)=true:=guard_sound (gd:=none) hx hr (by rw [hgn]; rfl)
  rw [if_pos hw1]
  split at h
  ·rename_i f hop
   rw [hop] at hx1
   split at h
   ·rename_i p ys hrd
    have hys:=rds_sc hr hrd
    have hlow:∀ i e,resE (reach (lk S.ents) (ids1L ys)) (lk S.ents) i=some e→i < S.next∧e.sc (upto S.next):=fun i e hi=>hr.scH i e (resE_sub i e hi)
    have hc:=hΓ f ys _ S.next hys hlow
    unfold vcCR at h
    split at h
    ·rename_i pre post res ents next heq
     rw [heq] at hc
     obtain ⟨⟨hp,hpre⟩,hK⟩:=h
     have hle:=(hc hpre).1
     refine call_effD hr.heap (l:=reach (lk S.ents) (ids1L ys)) ?_ (fun i e hi=>⟨upto_nw i (hr.scH i e hi).1,Ent.sc_mono upto_nw (hr.scH i e hi).2⟩) hys hlow hc hpre Next Q (fun G r' w' hpo hr' hh=>hN r' _ _ w' (hK G hpo) ?_)
     ·exact xop1_run hx1 (rds_sound hr hrd hp)
     ·have hsc:=(hc hpre).2.1 G (upto next) (fun y hy=>S1.sc_mono (upto_mono hle) (hys y hy)) (fun i e hi=>⟨Nat.lt_of_lt_of_le (hlow i e hi).1 hle,Ent.sc_mono (upto_mono hle) (hlow i e hi).2⟩) (fun i _ hi=>hi)
      have hrel:Rel base M N n0 r0 r' ⟨S.env,ents G++S.ents,next⟩ a w':=by
       refine ⟨hr.defers,hr.tmps,fun s v hl=>?_,?_,fun s v hl=>SV.sc_mono (upto_mono hle) (hr.scE s v hl),fun i e he=>?_,Nat.le_trans hr.low hle,fun i hi=>?_⟩
       ·rw [SV.den_ext (r:=r) (m:=nw S.next (next - S.next)) hr' (SV.sc_mono upto_nw (hr.scE s v hl))]; exact hr.slot s v hl
       ·have:lk (ents G++S.ents)=upd (ents G) (lk S.ents):=funext (lk_append (ents G) S.ents)
        rw [this]; exact hh
       ·rw [lk_append] at he
        unfold upd at he
        split at he
        ·rename_i e' he'; cases he; exact hsc.2 i _ he'
        ·exact ⟨Nat.lt_of_lt_of_le (hr.scH i e he).1 hle,Ent.sc_mono (upto_mono hle) (hr.scH i e he).2⟩
       ·rw [hr' i (upto_nw i (Nat.lt_of_lt_of_le hi hr.low))]; exact hr.keep i hi
      have:=hrel.put (d:=o.dst) (v:=res G) (by rw [← hdst]; exact hd) hsc.1
      have e:(⟨S.env,ents G++S.ents,next⟩:St).put o.dst (res G)=⟨(match xp.dst with | some s=>(s,res G) :: S.env | none=>S.env),ents G++S.ents,next⟩:=by
       rw [← hdst]; unfold St.put; cases xp.dst<;>rfl
      rw [e] at this
      exact this
    ·exact h.elim
   ·exact h.elim
  ·exact h.elim
theorem vcOp1_sound {Γ:Nat→Con} {ops:Array Oper} {o:Oper} {xp:XOper} {K:St→Prop} {Next:Act→World→Prop} {Q:Exit→Act→World→Prop} (hΓ:∀ f,COk P f (Γ f)) (hx:xop P ops o=some xp)
  (hd:∀ s,xp.dst=some s→s < N) (h:vcOp1 Γ xp S K) (hr:Rel base M N n0 r0 r S a w)
  (hN:∀ r' S' a' w',K S'→Rel base M N n0 r0 r' S' a' w'→Next a' w') :
  if Region.wanted o (yielded ops a.tmps)=true then o.wp P a w Next Q else Next (a.put o.dst undef) w:=by
 unfold vcOp1 at h
 split at h
 ·rename_i p v he
  obtain ⟨gd,hg,hq⟩:=evQ_sound hΓ hx he h.1 hr
  rw [hg]
  rw [(xop_parts hx).2] at h hd
  exact hq.go hr hd h.2 hN
 ·unfold vcEff at h
  split at h
  ·rename_i p t hre
   have hlow:∀ p ys,rds S.env xp.args=some (p,ys)→(∀ y∈ys,S1.sc (upto S.next) y)∧∀ i e,resE (reach (lk S.ents) (ids1L ys)) (lk S.ents) i=some e→i < S.next∧e.sc (upto S.next) :=
    fun p ys hrd=>⟨rds_sc hr hrd,fun i e hi=>hr.scH i e (resE_sub i e hi)⟩
   obtain ⟨hg,hw⟩:=rec_eff (Q:=Q) (m:=S.next+t.al) hΓ hx hd hre h.1 hr hr.low (Nat.le_refl _) (Nat.le_add_right _ _) (fun s v hl=>SV.sc_mono upto_nw (hr.scE s v hl))
    (fun i e hi=>⟨upto_nw i (hr.scH i e hi).1,Ent.sc_mono upto_nw (hr.scH i e hi).2⟩) hlow (fun r' a' w' hr'=>hN r' (pushN t S) a' w' h.2 hr')
   rw [if_pos hg]
   exact hw
  ·exact vcCallD_sound hΓ hx hd h hr hN
theorem vcOpG_sound {Γ:Nat→Con} {ops:Array Oper} {o:Oper} {xp:XOper} {K:St→Prop} {Next:Act→World→Prop} {Q:Exit→Act→World→Prop} (hΓ:∀ f,COk P f (Γ f)) (hx:xop P ops o=some xp)
  (hd:∀ s,xp.dst=some s→s < N) (h:vcOpG Γ xp S K) (hr:Rel base M N n0 r0 r S a w)
  (hN:∀ r' S' a' w',K S'→Rel base M N n0 r0 r' S' a' w'→Next a' w') :
  if Region.wanted o (yielded ops a.tmps)=true then o.wp P a w Next Q else Next (a.put o.dst undef) w:=by
 unfold vcOpG at h
 split at h
 ·exact vcOp1_sound hΓ hx hd h hr hN
 ·rename_i g hgd
  split at h
  ·rename_i p v he
   refine vcOp1_sound hΓ hx hd ?_ hr hN
   unfold vcOp1
   rw [he]; exact h
  ·split at h
   ·rename_i c hc
    rw [← hgd] at hc
    have hw:=guard_sound hx hr hc
    obtain ⟨hx1,hdst⟩:=xop_parts hx
    cases c with
    | false=>
     rw [hw,if_neg (by simp [gdB])]
     refine hN r _ _ w (h.2 rfl) ?_
     rw [hdst]
     exact hr.put (d:=o.dst) (v:=.g false (.c (.v (.bool true)))) (by rw [← hdst]; exact hd) trivial
    | true=>
     rw [hw,if_pos (show gdB (some true)=true from rfl)]
     have hx':xop P ops { o with guard:=none }=some ⟨xp.dst,xp.op,xp.args,none⟩:=by
      unfold xop
      simp only [hx1,hdst]
     have:=vcOp1_sound (o:={ o with guard:=none }) (Q:=Q) hΓ hx' hd (h.1 rfl) hr hN
     have hw':Region.wanted { o with guard:=none } (yielded ops a.tmps)=true:=by simp [Region.wanted]
     rw [if_pos hw'] at this
     exact this
   ·exact h.elim
theorem xop1_isnil {op:Op} {xs:List XO} {neg:Bool} (h:xop1 P op=some (.isnil neg,xs)) :
  ∃ bo t x e ty,op = .binOp bo t x (.const (.slice none 0 0)) ty∧((bo = .eql∧neg=false)∨(bo = .neq∧neg=true))∧P.underlying t=some (.slice e)∧xs=[xo x]:=by
 replace h:=xop1_old h (by intro k hk; cases hk) (by intro hk; cases hk)
 cases op<;>simp only [xop0] at h
 case binOp bo t x y ty=>
  split at h
  ·cases h
  ·cases h
  ·rename_i e hu
   split at h
   ·cases h; exact ⟨_,t,x,e,ty,rfl,.inl ⟨rfl,rfl⟩,hu,rfl⟩
   ·cases h; exact ⟨_,t,x,e,ty,rfl,.inr ⟨rfl,rfl⟩,hu,rfl⟩
   ·cases h
  ·repeat' split at h
   all_goals (cases h)
  ·cases h
 all_goals (first | (cases h; done) | skip)
 all_goals (repeat' split at h)
 all_goals (cases h)
theorem run_nil_in (d:Nat) {t e:TypeId} {ad:Option Addr} {n cap:Nat} (hu:P.underlying t=some (.slice e)):(Op.equalIn (d+1) t (.slice ad n cap) (.slice none 0 0)).run P w = .ok ad.isNone w:=by
 cases ad<;>simp [Op.equalIn,run_underlying hu]
theorem run_nil_eql {t e:TypeId} {ad:Option Addr} {n cap:Nat} (hu:P.underlying t=some (.slice e)):(Op.equal t (.slice ad n cap) (.slice none 0 0)).run P w = .ok ad.isNone w:=run_nil_in 9999 hu
theorem run_nil_eq {t e:TypeId} {bo:BinOp} {neg:Bool} {ad:Option Addr} {n cap:Nat} (hb:(bo = .eql∧neg=false)∨(bo = .neq∧neg=true)) (hu:P.underlying t=some (.slice e)) :
  (binOp bo t (.slice ad n cap) (.slice none 0 0)).run P w = .ok (.bool (ad.isNone != neg)) w:=by
 rcases hb with ⟨rfl,rfl⟩ | ⟨rfl,rfl⟩<;>simp [binOp,run_nil_eql hu]
theorem lenV_val {E:Nat→Option Ent} (h:HeapRel base M r E w) {x:S1} {n:Nat} (hx:lenV E x=some n):∃ ad cap,x.den r = .slice ad n cap∧(0 < n→ad≠none):=by
 unfold lenV at hx
 split at hx
 ·rename_i i
  split at hx
  ·rename_i n' hE
   cases hx
   obtain ⟨a,cap,h1,_,_,h4⟩:=h.ent i _ hE
   exact ⟨a,cap,h1,h4⟩
  ·split at hx
   ·rename_i hrow
    cases hx
    obtain ⟨ad,cap,h1,_,h3⟩:=row_val h hrow
    exact ⟨ad,cap,h1,fun h0=>by obtain ⟨b,o',rfl,_⟩:=h3 h0; simp⟩
   ·cases hx
 ·cases hx
theorem vcNil_sound {o:Oper} {neg:Bool} {d:Option Nat} {args:List XO} {K:St→Prop} {Next:Act→World→Prop} {Q:Exit→Act→World→Prop} (hx1:xop1 P o.op=some (.isnil neg,args)) (hdst:d=o.dst)
  (hd:∀ s,d=some s→s < N) (h:vcNil d S neg K (rds S.env args)) (hr:Rel base M N n0 r0 r S a w)
  (hN:∀ r' S' a' w',K S'→Rel base M N n0 r0 r' S' a' w'→Next a' w'):o.wp P a w Next Q:=by
 obtain ⟨bo,t,x,e,ty,ho,hb,hu,hxs⟩:=xop1_isnil hx1
 unfold vcNil at h
 split at h
 ·rename_i p hrd
  obtain ⟨hp,hK⟩:=h
  have hv:=rds_sound hr hrd hp
  rw [hxs] at hv
  simp only [List.map_cons,List.map_nil,List.cons.injEq,and_true] at hv
  rw [xo_val] at hv
  have hrun:(execOp a.eval o).run P w = .ok (.value (.bool (!neg))) w:=by
   simp only [execOp,ho,hv]
   refine run_valW ?_
   have:a.eval (.const (.slice none 0 0)) = .slice none 0 0:=rfl
   rw [this]
   have hg:(eqGuard bo t x (.const (.slice none 0 0)) (.slice none 0 0) (.slice none 0 0)).run P w = .ok () w:=by
    rcases hb with ⟨rfl,_⟩ | ⟨rfl,_⟩<;>rfl
   have e1:S1.den r (.c (.v (.slice none 0 0))) = .slice none 0 0:=rfl
   rw [e1]
   simp only [Sem.run_bind,hg,Result.andThen_ok,run_nil_eq hb hu]
   cases neg<;>rfl
  unfold Oper.wp
  rw [hrun]
  simp only [Oper.upon]
  refine hN r _ _ w hK ?_
  rw [hdst]
  exact hr.put (d:=o.dst) (v:=.o (.c (.v (.bool (!neg))))) (by rw [← hdst]; exact hd) trivial
 ·rename_i p y _ hrd
  split at h
  ·rename_i n hrow
   obtain ⟨hp,hK⟩:=h
   have hv:=rds_sound hr hrd hp
   rw [hxs] at hv
   simp only [List.map_cons,List.map_nil,List.cons.injEq,and_true] at hv
   rw [xo_val] at hv
   obtain ⟨ad,cap,g1,g3⟩:=lenV_val hr.heap hrow
   have hrun:(execOp a.eval o).run P w = .ok (.value (.bool (ad.isNone != neg))) w:=by
    simp only [execOp,ho,hv,g1]
    refine run_valW ?_
    have:a.eval (.const (.slice none 0 0)) = .slice none 0 0:=rfl
    rw [this]
    have hg:(eqGuard bo t x (.const (.slice none 0 0)) (.slice ad n cap) (.slice none 0 0)).run P w = .ok () w:=by
     rcases hb with ⟨rfl,_⟩ | ⟨rfl,_⟩<;>rfl
    simp only [Sem.run_bind,hg,Result.andThen_ok,run_nil_eq hb hu]
   unfold Oper.wp
   rw [hrun]
   simp only [Oper.upon]
   refine hN r _ _ w (hK ad.isNone (fun hn=>?_)) ?_
   ·cases ad with
    | some ad=>cases hn
    | none=>
     rcases Nat.eq_zero_or_pos n with h0 | h0
     ·exact h0
     ·exact absurd rfl (g3 h0)
   ·rw [hdst]
    exact hr.put (d:=o.dst) (v:=.o (.c (.v (.bool (ad.isNone != neg))))) (by rw [← hdst]; exact hd) trivial
  ·exact h.elim
 ·exact h.elim
theorem vcOp_sound {Γ:Nat→Con} {ops:Array Oper} {o:Oper} {xp:XOper} {K:St→Prop} {Next:Act→World→Prop} {Q:Exit→Act→World→Prop} (hΓ:∀ f,COk P f (Γ f)) (hx:xop P ops o=some xp)
  (hd:∀ s,xp.dst=some s→s < N) (h:vcOp Γ xp S K) (hr:Rel base M N n0 r0 r S a w)
  (hN:∀ r' S' a' w',K S'→Rel base M N n0 r0 r' S' a' w'→Next a' w') :
  if Region.wanted o (yielded ops a.tmps)=true then o.wp P a w Next Q else Next (a.put o.dst undef) w:=by
 unfold vcOp at h
 split at h
 ·rename_i neg hop
  obtain ⟨hx1,hdst⟩:=xop_parts hx
  rw [hop] at hx1
  split at h
  ·rename_i hgn
   have hw1:Region.wanted o (yielded ops a.tmps)=true:=guard_sound (gd:=none) hx hr (by rw [hgn]; rfl)
   rw [if_pos hw1]
   exact vcNil_sound hx1 hdst hd h hr hN
  ·rename_i g hgd
   split at h
   ·rename_i c hc
    rw [← hgd] at hc
    have hw:=guard_sound hx hr hc
    cases c with
    | false=>
     rw [hw,if_neg (by simp [gdB])]
     refine hN r _ _ w (h.2 rfl) ?_
     rw [hdst]
     exact hr.put (d:=o.dst) (v:=.g false (.c (.v (.bool true)))) (by rw [← hdst]; exact hd) trivial
    | true=>
     rw [hw,if_pos (show gdB (some true)=true from rfl)]
     exact vcNil_sound hx1 hdst hd (h.1 rfl) hr hN
   ·exact h.elim
 ·exact vcOpG_sound hΓ hx hd h hr hN
end
end Go.Sx
namespace Go.Sx
open Go.RowKit
def readsX (x:XOper) (S:St):List Nat :=
 match x.op with
 | .mv=>[]
 | _=>match rds S.env x.args with
  | some (_,ys)=>reach (lk S.ents) (ids1L ys)
  | none=>[]
theorem readsX_mv {x:XOper} {S:St} (h:x.op = .mv):readsX x S=[]:=by unfold readsX; rw [h]
theorem readsX_ne {x:XOper} {S:St} (h:x.op≠.mv):readsX x S=(match rds S.env x.args with
  | some (_,ys)=>reach (lk S.ents) (ids1L ys)
  | none=>[]):=by
 unfold readsX
 split
 ·rename_i hh; exact absurd hh h
 ·rfl
theorem recEff_mv {Γ:Nat→Con} {c:Nat} {x:XOper} {S:St} {z:Prop × Rec} (h:recEff Γ c x S=some z):x.op≠.mv:=by
 intro hm
 unfold recEff at h
 split at h
 ·cases h
 ·split at h
  ·split at h
   ·rename_i heff
    rw [hm] at heff
    simp only [effE] at heff
    cases heff
   ·cases h
  ·cases h
def recOf (Γ:Nat→Con) (c:Nat) (x:XOper) (S:St):Option (Prop × Rec) :=
 match evQ Γ x S with
 | some (p,v)=>some (p,⟨x.dst,v,[],c,0,usesX x,readsX x S⟩)
 | none=>match offG S.env x.guard with
  | true=>some (True,⟨x.dst,.g false (.c (.v (.bool true))),[],c,0,usesX x,readsX x S⟩)
  | false=>recEff Γ c x S
structure Foot where
 d:Option Nat
 uses:List Nat
 rd:List Nat
 wr:List Nat
def keys:List (Nat × Ent)→List Nat
 | []=>[]
 | (i,_) :: l=>i :: keys l
def Rec.foot (t:Rec):Foot:=⟨t.d,t.uses,t.rd,keys t.us⟩
def inO:Option Nat→List Nat→Bool
 | some i,l=>memN i l
 | none,_=>false
def eqO:Option Nat→Option Nat→Bool
 | some i,some j=>i == j
 | _,_=>false
def meets:List Nat→List Nat→Bool
 | [],_=>false
 | i :: l,k=>memN i k || meets l k
def clash (x y:Foot):Bool :=
 inO x.d y.uses || inO y.d x.uses || eqO x.d y.d || meets x.wr y.rd || meets y.wr x.rd || meets x.wr y.wr
def indepAt (y:Foot) (pre:List Nat):Nat→List Foot→Bool
 | _,[]=>true
 | k,x :: l=>(!clash x y || memN k pre) && indepAt y pre (k+1) l
def indep:List Foot→List Foot→List (List Nat)→Bool
 | _,[],_=>true
 | done,y :: l,pre :: ps=>indepAt y pre 0 done && indep (done++[y]) l ps
 | _,_ :: _,[]=>false
def allN:Nat→List Nat→Bool
 | 0,_=>true
 | k+1,l=>memN k l && allN k l
def dropN:Nat→List (List Nat)→List (List Nat)
 | 0,l=>l
 | _+1,[]=>[]
 | k+1,_ :: l=>dropN k l
def holdB (k:Nat):List (List Nat)→Bool
 | []=>true
 | l :: ls=>memN k l && holdB k ls
def cutN (k:Nat):List Nat→List Nat
 | []=>[]
 | i :: l=>if k≤i then (i - k) :: cutN k l else cutN k l
def cutP (k:Nat):List (List Nat)→List (List Nat)
 | []=>[]
 | l :: ls=>cutN k l :: cutP k ls
def nthP:Nat→List (List Nat)→List Nat
 | _,[]=>[]
 | 0,l :: _=>l
 | k+1,_ :: ls=>nthP k ls
def barB (k:Nat) (preds:List (List Nat)):Bool:=allN k (nthP k preds) && holdB k (dropN (k+1) preds)
def lenF:List Foot→Nat
 | []=>0
 | _ :: l=>lenF l+1
def nRes:List XOper→Nat
 | []=>0
 | _ :: l=>2+nRes l
def vcDgo (Γ:Nat→Con):List (List Nat)→List XOper→Nat→Nat→St→List Foot→(St→Prop)→Prop
 | preds,[],c,m,S,acc,K=>c≤m∧indep [] acc preds=true∧K S
 | preds,x :: l,c,m,S,acc,K=>match recOf Γ c x S with
  | some (p,t)=>p∧vcDgo Γ preds l (c+t.al) m (pushR t S) (acc++[t.foot]) K
  | none=>c≤m∧S.next=m∧indep [] acc preds=true∧barB (lenF acc) preds=true ∧
    vcOp Γ x S fun S'=>vcDgo Γ (cutP (lenF acc+1) (dropN (lenF acc+1) preds)) l S'.next (S'.next+nRes l) ⟨S'.env,S'.ents,S'.next+nRes l⟩ [] K
def vcD (Γ:Nat→Con) (preds:List (List Nat)) (l:List XOper) (S:St) (K:St→Prop):Prop :=
 vcDgo Γ preds l S.next (S.next+nRes l) ⟨S.env,S.ents,S.next+nRes l⟩ [] K
def vcRun (Γ:Nat→Con):List XOper→Nat→St→List Foot→(Nat→St→List Foot→Prop)→Prop
 | [],c,S,acc,k=>k c S acc
 | x :: l,c,S,acc,k=>match recOf Γ c x S with
  | some (p,t)=>p∧vcRun Γ l (c+t.al) (pushR t S) (acc++[t.foot]) k
  | none=>False
def lenX:List XOper→Nat
 | []=>0
 | _ :: l=>lenX l+1
def allR (lo:Nat):Nat→List Nat→Bool
 | 0,_=>true
 | k+1,l=>memN (lo+k) l && allR lo k l
def barR (lo n:Nat):List (List Nat)→Bool
 | []=>true
 | l :: ls=>allR lo n l && barR lo n ls
def keysX:List (Nat × XOper)→List Nat
 | []=>[]
 | (i,_) :: l=>i :: keysX l
def rdyB:List Nat→List Nat→Bool
 | [],_=>true
 | k :: l,pre=>!memN k pre && rdyB l pre
def delN (j:Nat):List (Nat × XOper)→List (Nat × XOper)
 | []=>[]
 | (i,x) :: l=>if i=j then l else (i,x) :: delN j l
def numX:Nat→List XOper→List (Nat × XOper)
 | _,[]=>[]
 | k,x :: l=>(k,x) :: numX (k+1) l
def vcAllL (f:Nat→XOper→Prop):List (Nat × XOper)→Prop
 | []=>True
 | (j,x) :: l=>f j x∧vcAllL f l
def vcAll (Γ:Nat→Con) (preds:List (List Nat)):Nat→List (Nat × XOper)→St→(St→Prop)→Prop
 | _,[],S,K=>K S
 | 0,_ :: _,_,_=>False
 | n+1,q :: l,S,K=>vcAllL (fun j x=>match rdyB (keysX (q :: l)) (nthP j preds) with
  | true=>vcOp Γ x S fun S'=>vcAll Γ preds n (delN j (q :: l)) S' K
  | false=>True) (q :: l)
def vcG (Γ:Nat→Con) (preds:List (List Nat)) (A B C:List XOper) (S:St) (K:St→Prop):Prop :=
 vcRun Γ A S.next ⟨S.env,S.ents,S.next+nRes A⟩ [] fun c S1 acc=>c≤S.next+nRes A∧indep [] acc preds=true∧barR 0 (lenX A) (dropN (lenX A) preds)=true ∧
  barR (lenX A) (lenX B) (dropN (lenX A+lenX B) preds)=true ∧
  vcAll Γ preds (lenX B) (numX (lenX A) B) S1 fun S2=>vcDgo Γ (cutP (lenX A+lenX B) (dropN (lenX A+lenX B) preds)) C S2.next (S2.next+nRes C) ⟨S2.env,S2.ents,S2.next+nRes C⟩ [] K
def stL:List Rec→(Nat→Bool)→Nat→St→St
 | [],_,_,S=>S
 | t :: ts,L,k,S=>stL ts L (k+1) (if L k=true then pushR t S else S)
inductive Run (Γ:Nat→Con):List XOper→Nat→St→List Rec→Nat→St→Prop where
 | nil {c:Nat} {S:St}:Run Γ [] c S [] c S
 | cons {x:XOper} {l:List XOper} {c c':Nat} {S S':St} {p:Prop} {t:Rec} {ts:List Rec}:recOf Γ c x S=some (p,t)→p→Run Γ l (c+t.al) (pushR t S) ts c' S'→Run Γ (x :: l) c S (t :: ts) c' S'
theorem vcRun_run {Γ:Nat→Con}:∀ {l:List XOper} {c:Nat} {S:St} {acc:List Foot} {k:Nat→St→List Foot→Prop},vcRun Γ l c S acc k→∃ ts c' S',Run Γ l c S ts c' S'∧k c' S' (acc++ts.map Rec.foot)
 | [],c,S,acc,k,h=>⟨[],c,S,.nil,by simpa [vcRun] using h⟩
 | x :: l,c,S,acc,k,h=>by
  simp only [vcRun] at h
  split at h
  ·rename_i p t ht
   obtain ⟨ts,c',S',hr,hk⟩:=vcRun_run h.2
   exact ⟨t :: ts,c',S',.cons ht h.1 hr,by simpa using hk⟩
  ·exact h.elim
def RunK (Γ:Nat→Con) (preds:List (List Nat)) (l:List XOper) (c m:Nat) (S:St) (acc:List Foot) (K:St→Prop):Prop :=
 (∃ ts c' S',Run Γ l c S ts c' S'∧c'≤m∧indep [] (acc++ts.map Rec.foot) preds=true∧K S') ∨
 (∃ l1 x l2,l=l1++x :: l2∧∃ ts c' S',Run Γ l1 c S ts c' S'∧c'≤m∧S'.next=m∧indep [] (acc++ts.map Rec.foot) preds=true∧barB (lenF acc+l1.length) preds=true ∧
  vcOp Γ x S' fun S2=>vcDgo Γ (cutP (lenF acc+l1.length+1) (dropN (lenF acc+l1.length+1) preds)) l2 S2.next (S2.next+nRes l2) ⟨S2.env,S2.ents,S2.next+nRes l2⟩ [] K)
theorem lenF_app:∀ (l:List Foot) (x:Foot),lenF (l++[x])=lenF l+1
 | [],_=>rfl
 | _ :: l,x=>by simp only [List.cons_append,lenF,lenF_app l x]
theorem run_of_vcDgo {Γ:Nat→Con} {preds:List (List Nat)} {K:St→Prop}:∀ {l:List XOper} {c m:Nat} {S:St} {acc:List Foot},vcDgo Γ preds l c m S acc K→RunK Γ preds l c m S acc K
 | [],c,m,S,acc,h=>.inl ⟨[],c,S,.nil,h.1,by simpa using h.2.1,h.2.2⟩
 | x :: l,c,m,S,acc,h=>by
  simp only [vcDgo] at h
  split at h
  ·rename_i p t ht
   rcases run_of_vcDgo h.2 with ⟨ts,c',S',hr,hc,hi,hk⟩ | ⟨l1,y,l2,rfl,ts,c',S',hr,hc,hn,hi,hb,hk⟩
   ·exact .inl ⟨t :: ts,c',S',.cons ht h.1 hr,hc,by simpa using hi,hk⟩
   ·refine .inr ⟨x :: l1,y,l2,rfl,t :: ts,c',S',.cons ht h.1 hr,hc,hn,by simpa using hi,?_,?_⟩
    ·rw [lenF_app] at hb
     rw [show lenF acc+(x :: l1).length=lenF acc+1+l1.length by simp; omega]; exact hb
    ·rw [lenF_app] at hk
     rw [show lenF acc+(x :: l1).length+1=lenF acc+1+l1.length+1 by simp; omega]; exact hk
  ·exact .inr ⟨[],x,l,rfl,[],c,S,.nil,h.1,h.2.1,by simpa using h.2.2.1,h.2.2.2.1,h.2.2.2.2⟩
theorem Run.final {Γ:Nat→Con} {l:List XOper} {c c':Nat} {S S':St} {ts:List Rec} (h:Run Γ l c S ts c' S'):∀ (L:Nat→Bool) (k:Nat),(∀ i,k≤i→i < k+ts.length→L i=true)→stL ts L k S=S':=by
 induction h with
 | nil=>intro L k _; rfl
 | cons ht hp hr ih=>
  intro L k hL
  simp only [stL]
  rw [if_pos (hL k (Nat.le_refl _) (by simp))]
  exact ih L (k+1) (fun i h1 h2=>hL i (by omega) (by simp; omega))
theorem Run.len {Γ:Nat→Con} {l:List XOper} {c c':Nat} {S S':St} {ts:List Rec} (h:Run Γ l c S ts c' S'):ts.length=l.length:=by
 induction h with
 | nil=>rfl
 | cons _ _ _ ih=>simp [ih]
theorem Run.le {Γ:Nat→Con} {l:List XOper} {c c':Nat} {S S':St} {ts:List Rec} (h:Run Γ l c S ts c' S'):c≤c':=by
 induction h with
 | nil=>exact Nat.le_refl _
 | cons _ _ _ ih=>omega
theorem recOf_c {Γ:Nat→Con} {c:Nat} {x:XOper} {S:St} {p:Prop} {t:Rec} (h:recOf Γ c x S=some (p,t)):t.c=c:=by
 unfold recOf at h
 split at h
 ·cases h; rfl
 ·split at h
  ·cases h; rfl
  ·unfold recEff at h
   split at h
   ·cases h
   ·split at h
    ·split at h
     ·cases h; rfl
     ·cases h
    ·cases h
theorem stL_pre:∀ (ts:List Rec) (b m:Nat) (S:St),b≤m→stL ts (fun i=>decide (i < b)) m S=S
 | [],_,_,_,_=>rfl
 | t :: ts,b,m,S,h=>by
  simp only [stL]
  rw [if_neg (by simp; omega)]
  exact stL_pre ts b (m+1) S (by omega)
structure InSc (m:Nat→Prop) (S:St):Prop where
 env:∀ s v,lk S.env s=some v→SV.sc m v
 ent:∀ i e,lk S.ents i=some e→m i∧e.sc m
theorem InSc.mono {m m':Nat→Prop} {S:St} (h:InSc m S) (hm:∀ i,m i→m' i):InSc m' S :=
 ⟨fun s v hl=>SV.sc_mono hm (h.env s v hl),fun i e hl=>⟨hm i (h.ent i e hl).1,Ent.sc_mono hm (h.ent i e hl).2⟩⟩
theorem InSc.push {m:Nat→Prop} {S:St} {t:Rec} (h:InSc m S) (hv:t.v.sc m) (hu:∀ i e,lk t.us i=some e→m i∧e.sc m):InSc m (pushR t S):=by
 refine ⟨fun s v hl=>?_,fun i e hl=>?_⟩
 ·unfold pushR at hl
  simp only at hl
  split at hl
  ·simp only [lk] at hl
   split at hl
   ·cases hl; exact hv
   ·exact h.env s v hl
  ·exact h.env s v hl
 ·unfold pushR at hl
  simp only at hl
  rw [lk_append] at hl
  unfold upd at hl
  split at hl
  ·rename_i e' he'; cases hl; exact hu i _ he'
  ·exact h.ent i e hl
section
variable {P:Program} {S:St}
theorem reach_sub (E:Nat→Option Ent) (l:List Nat):∀ i∈l,i∈reach E l:=fun i hi=>List.mem_append_left _ hi
theorem recOf_sc {Γ:Nat→Con} {x:XOper} {c:Nat} {p:Prop} {t:Rec} {m:Nat→Prop} (hΓ:∀ f,COk P f (Γ f)) (h:recOf Γ c x S=some (p,t)) (hp:p) (hm:InSc m S) (hu:InSc (upto S.next) S)
  (hlow:x.op≠.mv→∀ p ys,rds S.env x.args=some (p,ys)→(∀ y∈ys,S1.sc (upto c) y)∧∀ i e,resE (reach (lk S.ents) (ids1L ys)) (lk S.ents) i=some e→i < c∧e.sc (upto c))
  (hnew:∀ i,c≤i→i < c+t.al→m i):t.v.sc m∧∀ i e,lk t.us i=some e→m i∧e.sc m:=by
 unfold recOf at h
 split at h
 ·rename_i p' v he
  cases h
  refine ⟨?_,fun i e hl=>by cases hl⟩
  have hfin:∀ {gd:Option Bool} {p q:Prop} {x:S1} {v:SV},fin gd p x=some (q,v)→x.sc m→v.sc m:=by
   intro gd p q x v h hx
   cases gd<;>(simp only [fin,Option.some.injEq,Prod.mk.injEq] at h; obtain ⟨_,rfl⟩:=h; exact hx)
  have hlow0:∀ i e,lk S.ents i=some e→i < S.next∧e.sc (upto S.next):=fun i e hi=>hu.ent i e hi
  have hlow1:∀ {xs:List XO} {p:Prop} {ys:List S1},rds S.env xs=some (p,ys)→∀ y∈ys,S1.sc (upto S.next) y:=fun h=>rds_scG hu.env h
  have hcr:∀ {gd:Option Bool} {p q:Prop} {v:SV} {f:Nat} {ys:List S1} {l:List Nat} {cr:Option CR},(∀ y∈ys,S1.sc m y)→CROk P f ys (resE l (lk S.ents)) S.next cr→evCR gd p cr=some (q,v)→v.sc m:=by
   intro gd p q v f ys l cr hy hc h
   unfold evCR at h
   split at h
   ·exact hfin h (hc.1 m hy (fun i e hi=>hm.ent i e (resE_sub i e hi)))
   ·split at h
    ·cases h; exact hc.1 m hy (fun i e hi=>hm.ent i e (resE_sub i e hi))
    ·cases h
   ·cases h
  rename_i h'
  clear h'
  unfold evQ at he
  split at he
  ·rename_i xs ht
   cases he
   unfold evTup at ht
   split at ht
   ·cases ht
   ·split at ht
    ·split at ht
     ·unfold tupOf at ht
      split at ht
      ·split at ht
       ·rename_i hl; cases ht; exact hm.env _ _ hl
       ·cases ht
      ·cases ht
     ·cases ht
    ·cases ht
  ·unfold evQ0 at he
   split at he
   ·cases he
   ·split at he
    ·split at he
     ·unfold evPick at he
      split at he
      ·exact hfin he trivial
      ·cases he
     ·cases he
    ·unfold evExt at he
     split at he
     ·split at he
      ·rename_i hl
       split at he
       ·rename_i x hx; exact hfin he (hm.env _ _ hl x (nth_mem hx))
       ·cases he
      ·cases he
     ·cases he
    ·split at he
     ·cases he
     split at he
     ·rename_i hrd
      exact hcr (rds_scG hm.env hrd) (hΓ _ _ _ _ (hlow1 hrd) (fun i e h=>hlow0 i e (resE_sub i e h))) he
     ·cases he
    ·split at he
     ·rename_i hrd
      exact hcr (fun y hy=>rds_scG hm.env hrd y (List.mem_cons_of_mem _ hy)) (hΓ _ _ _ _ (fun y hy=>hlow1 hrd y (List.mem_cons_of_mem _ hy)) (fun i e h=>hlow0 i e (resE_sub i e h))) he
     ·rename_i hrd
      exact hcr (fun y hy=>by
       rcases List.mem_append.1 hy with g | g
       ·exact rds_scG hm.env hrd y (List.mem_cons_of_mem _ g)
       ·exact cpS_sc (rds_scG hm.env hrd _ List.mem_cons_self) y g) (hΓ _ _ _ _ (fun y hy=>by
       rcases List.mem_append.1 hy with g | g
       ·exact hlow1 hrd y (List.mem_cons_of_mem _ g)
       ·exact cpS_sc (hlow1 hrd _ List.mem_cons_self) y g) (fun i e h=>hlow0 i e (resE_sub i e h))) he
     ·cases he
    ·cases he
    ·cases he
    ·cases he
    ·cases he
    ·cases he
    ·cases he
    ·cases he
    ·cases he
    ·split at he
     ·rename_i hrd
      split at he
      ·rename_i hq
       exact hfin he (opQ_sc hm.ent (rds_scG hm.env hrd) hq)
      ·cases he
     ·cases he
 ·rename_i he
  split at h
  ·cases h
   exact ⟨trivial,fun i e hl=>by cases hl⟩
  have hmv:=recEff_mv h
  unfold recEff at h
  split at h
  ·cases h
  ·split at h
   ·rename_i p1 ys hrd
    split at h
    ·rename_i q v us al heff
     cases h
     obtain ⟨h1,h2⟩:=effE_sc (m:=m) hΓ (rds_scG hm.env hrd) hm.ent hnew (hlow hmv _ _ hrd) heff hp.2
     exact ⟨h1,fun i e hl=>(h2 i e hl).2⟩
    ·cases h
   ·cases h
theorem Run.at {Γ:Nat→Con} {l:List XOper} {c c':Nat} {S S':St} {ts:List Rec} (hΓ:∀ f,COk P f (Γ f)) (h:Run Γ l c S ts c' S'):∀ (k j:Nat) (t:Rec) (x:XOper),InSc (upto c) S→c'≤S.next→ts[j]?=some t→l[j]?=some x →
  ∃ p,c≤t.c∧t.c+t.al≤c'∧recOf Γ t.c x (stL ts (fun i=>decide (i < k+j)) k S)=some (p,t)∧p∧InSc (upto t.c) (stL ts (fun i=>decide (i < k+j)) k S):=by
 induction h with
 | nil=>intro k j t x _ _ h; simp at h
 | @cons x0 l c c' S S' p0 t0 ts ht hp hr ih=>
  intro k j t x hs hcn h1 h2
  have hle:=hr.le
  cases j with
  | zero=>
   simp only [List.getElem?_cons_zero,Option.some.injEq] at h1 h2
   subst h1; subst h2
   have e:stL (t0 :: ts) (fun i=>decide (i < k+0)) k S=S:=stL_pre (t0 :: ts) (k+0) k S (by omega)
   have hc:=recOf_c ht
   rw [e,hc]
   exact ⟨p0,Nat.le_refl _,hle,ht,hp,hs⟩
  | succ j=>
   simp only [List.getElem?_cons_succ] at h1 h2
   have hsc:=recOf_sc (m:=upto (c+t0.al)) hΓ ht hp (hs.mono (upto_mono (by omega))) (hs.mono (upto_mono (by omega))) (fun _ p ys hrd=>⟨rds_scG hs.env hrd,fun i e hi=>hs.ent i e (resE_sub i e hi)⟩) (fun i _ hi=>hi)
   have hpush:InSc (upto (c+t0.al)) (pushR t0 S):=(hs.mono (upto_mono (by omega))).push hsc.1 hsc.2
   obtain ⟨p,hc,hc2,h3,h4,h5⟩:=ih (k+1) j t x hpush (by unfold pushR; exact hcn) h1 h2
   have e:(fun i=>decide (i < k+1+j))=(fun i=>decide (i < k+(j+1))):=by funext i; congr 1; simp; omega
   rw [e] at h3 h5
   refine ⟨p,by omega,hc2,?_,h4,?_⟩
   ·simp only [stL]
    rw [if_pos (by simp)]
    exact h3
   ·simp only [stL]
    rw [if_pos (by simp)]
    exact h5
theorem Run.apart {Γ:Nat→Con} {l:List XOper} {c c':Nat} {S S':St} {ts:List Rec} (h:Run Γ l c S ts c' S'):∀ (i j:Nat) (t t':Rec),i < j→ts[i]?=some t→ts[j]?=some t'→t.c+t.al≤t'.c:=by
 have first:∀ {l:List XOper} {c c':Nat} {S S':St} {ts:List Rec},Run Γ l c S ts c' S'→∀ (j:Nat) (t':Rec),ts[j]?=some t'→c≤t'.c:=by
  intro l c c' S S' ts h
  induction h with
  | nil=>intro j t' h; simp at h
  | @cons x0 l c c' S S' p0 t0 ts ht hp hr ih=>
   intro j t' hj
   cases j with
   | zero=>simp only [List.getElem?_cons_zero,Option.some.injEq] at hj; subst hj; rw [recOf_c ht]; exact Nat.le_refl _
   | succ j=>have:=ih j t' (by simpa using hj); omega
 induction h with
 | nil=>intro i j t t' _ h; simp at h
 | @cons x0 l c c' S S' p0 t0 ts ht hp hr ih=>
  intro i j t t' hij h1 h2
  cases i with
  | zero=>
   simp only [List.getElem?_cons_zero,Option.some.injEq] at h1
   subst h1
   cases j with
   | zero=>omega
   | succ j=>rw [recOf_c ht]; exact first hr j t' (by simpa using h2)
  | succ i=>
   cases j with
   | zero=>omega
   | succ j=>exact ih i j t t' (by omega) (by simpa using h1) (by simpa using h2)
theorem recOf_uses {Γ:Nat→Con} {c:Nat} {x:XOper} {S:St} {p:Prop} {t:Rec} (h:recOf Γ c x S=some (p,t)):t.uses=usesX x∧(x.op≠.mv→∀ q ys,rds S.env x.args=some (q,ys)→t.rd=reach (lk S.ents) (ids1L ys)):=by
 unfold recOf at h
 split at h
 ·cases h
  exact ⟨rfl,fun hmv q ys hrd=>by rw [readsX_ne hmv,hrd]⟩
 ·split at h
  ·cases h
   exact ⟨rfl,fun hmv q ys hrd=>by rw [readsX_ne hmv,hrd]⟩
  unfold recEff at h
  split at h
  ·cases h
  ·split at h
   ·rename_i hrd
    split at h
    ·cases h
     exact ⟨rfl,fun _ q ys hrd'=>by rw [hrd] at hrd'; cases hrd'; rfl⟩
    ·cases h
   ·cases h
theorem InSc.congr {m:Nat→Prop} {S S2:St} (h:InSc m S) (he:∀ s,lk S2.env s=lk S.env s) (hh:∀ s,lk S2.ents s=lk S.ents s):InSc m S2 :=
 ⟨fun s v hl=>h.env s v (by rw [← he]; exact hl),fun i e hl=>h.ent i e (by rw [← hh]; exact hl)⟩
theorem rec_sound {base:World} {M:Scp} {N n0:Nat} {r0 r:Rho} {a:Act} {w:World} {Γ:Nat→Con} {ops:Array Oper} {o:Oper} {xp:XOper} {c:Nat} {p:Prop} {t:Rec} {Next:Act→World→Prop} {Q:Exit→Act→World→Prop} (hΓ:∀ f,COk P f (Γ f)) (hx:xop P ops o=some xp)
  (hd:∀ s,xp.dst=some s→s < N) (h:recOf Γ c xp S=some (p,t)) (hp:p) (hr:Rel base M N n0 r0 r S a w) (hn0:n0≤c) (hcm:c+t.al≤S.next) (hav:InSc (nw c t.al) S)
  (hlow:xp.op≠.mv→∀ p ys,rds S.env xp.args=some (p,ys)→(∀ y∈ys,S1.sc (upto c) y)∧∀ i e,resE (reach (lk S.ents) (ids1L ys)) (lk S.ents) i=some e→i < c∧e.sc (upto c))
  (hN:∀ r' a' w',Rel base M N n0 r0 r' (pushR t S) a' w'→Next a' w') :
  if Region.wanted o (yielded ops a.tmps)=true then o.wp P a w Next Q else Next (a.put o.dst undef) w:=by
 unfold recOf at h
 split at h
 ·rename_i p' v he
  cases h
  obtain ⟨gd,hg,hq⟩:=evQ_sound hΓ hx he hp hr
  rw [hg]
  have hdst:=(xop_parts hx).2
  rw [hdst] at hd
  refine hq.go (K:=fun S'=>S'=S.put o.dst v) hr hd rfl (fun r' S' a' w' hS hr'=>hN r' a' w' ?_)
  rw [hS,← hdst] at hr'
  have e:S.put xp.dst v=pushR ⟨xp.dst,v,[],c,0,usesX xp,readsX xp S⟩ S:=by unfold St.put pushR; cases xp.dst<;>rfl
  rw [← e]; exact hr'
 ·split at h
  ·rename_i hoff
   cases h
   have hw:=guard_sound hx hr (offG_spec hoff)
   rw [hw,if_neg (by simp [gdB])]
   have hdst:=(xop_parts hx).2
   refine hN r _ w ?_
   rw [hdst] at hd
   have:=hr.put (d:=o.dst) (v:=.g false (.c (.v (.bool true)))) hd trivial
   have e:S.put xp.dst (.g false (.c (.v (.bool true))))=pushR ⟨xp.dst,.g false (.c (.v (.bool true))),[],c,0,usesX xp,readsX xp S⟩ S:=by unfold St.put pushR; cases xp.dst<;>rfl
   rw [← e,hdst]
   exact this
  obtain ⟨hg,hw⟩:=rec_eff (Q:=Q) (m:=S.next) hΓ hx hd h hp hr hn0 hcm (Nat.le_refl _) hav.env hav.ent (hlow (recEff_mv h)) hN
  rw [if_pos hg]
  exact hw
end
end Go.Sx
namespace Go.Sx
open Go.RowKit
theorem memN_iff {i:Nat}:∀ {l:List Nat},memN i l=true ↔ i∈l
 | []=>by simp [memN]
 | j :: l=>by
  simp only [memN,List.mem_cons]
  split
  ·rename_i h; simp [h]
  ·rename_i h; rw [memN_iff]; simp [h]
theorem stL_next:∀ (ts:List Rec) (L:Nat→Bool) (k:Nat) (S:St),(stL ts L k S).next=S.next
 | [],_,_,_=>rfl
 | t :: ts,L,k,S=>by
  simp only [stL]
  rw [stL_next]
  split<;>rfl
theorem stL_env:∀ (ts:List Rec) (L L':Nat→Bool) (k:Nat) (S S2:St) (s:Nat),(∀ (i:Nat) (t:Rec),ts[i]?=some t→t.d=some s→L (k+i)=L' (k+i))→lk S.env s=lk S2.env s →
  lk (stL ts L k S).env s=lk (stL ts L' k S2).env s
 | [],_,_,_,_,_,_,_,h=>h
 | t :: ts,L,L',k,S,S2,s,hw,h=>by
  simp only [stL]
  refine stL_env ts L L' (k+1) _ _ s (fun i t' h1 h2=>by have:=hw (i+1) t' (by simpa using h1) h2; rw [Nat.add_assoc,Nat.add_comm 1 i]; exact this) ?_
  by_cases hd:t.d=some s
  ·have:=hw 0 t rfl hd
   simp only [Nat.add_zero] at this
   rw [this]
   split
   ·simp only [pushR,hd,lk,if_true]
   ·exact h
  ·have hp:∀ S:St,lk (pushR t S).env s=lk S.env s:=by
    intro S
    simp only [pushR]
    split
    ·rename_i s' hs'
     simp only [lk]
     rw [if_neg (by rintro rfl; exact hd hs')]
    ·rfl
   split<;>split<;>simp only [hp,h]
theorem keys_lk:∀ {l:List (Nat × Ent)} {i:Nat},i ∉ keys l→lk l i=none
 | [],_,_=>rfl
 | (k,e) :: l,i,h=>by
  simp only [keys,List.mem_cons,not_or] at h
  simp only [lk]
  rw [if_neg (fun hh=>h.1 hh.symm)]
  exact keys_lk h.2
theorem keys_of:∀ {l:List (Nat × Ent)} {i:Nat},i∈keys l→∃ e,lk l i=some e
 | (k,e) :: l,i,h=>by
  simp only [keys,List.mem_cons] at h
  simp only [lk]
  by_cases hk:k=i
  ·exact ⟨e,by rw [if_pos hk]⟩
  ·rw [if_neg hk]
   rcases h with h | h
   ·exact absurd h.symm hk
   ·exact keys_of h
theorem pushR_ents_in {t:Rec} {S:St} {s:Nat} {e:Ent} (h:lk t.us s=some e):lk (pushR t S).ents s=some e:=by
 show lk (t.us++S.ents) s=_
 rw [lk_append,upd_some h]
theorem pushR_ents_out {t:Rec} {S:St} {s:Nat} (h:s ∉ keys t.us):lk (pushR t S).ents s=lk S.ents s:=by
 show lk (t.us++S.ents) s=_
 rw [lk_append,upd_none (keys_lk h)]
theorem stL_ents:∀ (ts:List Rec) (L L':Nat→Bool) (k:Nat) (S S2:St) (s:Nat),(∀ (i:Nat) (t:Rec),ts[i]?=some t→s∈keys t.us→L (k+i)=L' (k+i))→lk S.ents s=lk S2.ents s →
  lk (stL ts L k S).ents s=lk (stL ts L' k S2).ents s
 | [],_,_,_,_,_,_,_,h=>h
 | t :: ts,L,L',k,S,S2,s,hw,h=>by
  simp only [stL]
  refine stL_ents ts L L' (k+1) _ _ s (fun i t' h1 h2=>by have:=hw (i+1) t' (by simpa using h1) h2; rw [Nat.add_assoc,Nat.add_comm 1 i]; exact this) ?_
  by_cases hd:s∈keys t.us
  ·have:=hw 0 t rfl hd
   simp only [Nat.add_zero] at this
   rw [this]
   obtain ⟨e,he⟩:=keys_of hd
   split
   ·rw [pushR_ents_in he,pushR_ents_in he]
   ·exact h
  ·split<;>split<;>simp only [pushR_ents_out hd,h]
theorem stL_env_at:∀ (ts:List Rec) (L:Nat→Bool) (k:Nat) (S:St) (s j:Nat) (t:Rec),ts[j]?=some t→t.d=some s→L (k+j)=true →
  (∀ (i:Nat) (t':Rec),j < i→ts[i]?=some t'→t'.d=some s→L (k+i)=false)→lk (stL ts L k S).env s=some t.v
 | [],_,_,_,_,_,_,h,_,_,_=>by simp at h
 | t0 :: ts,L,k,S,s,0,t,h,hd,hL,hw=>by
  simp only [List.getElem?_cons_zero,Option.some.injEq] at h
  subst h
  simp only [stL]
  rw [if_pos (by simpa using hL)]
  rw [stL_env ts L (fun _=>false) (k+1) _ (pushR t0 S) s (fun i t' h1 h2=>by have:=hw (i+1) t' (by omega) (by simpa using h1) h2; rw [Nat.add_assoc,Nat.add_comm 1 i]; exact this) rfl]
  have:∀ (ts:List Rec) (k:Nat) (S:St),stL ts (fun _=>false) k S=S:=by
   intro ts
   induction ts with
   | nil=>intro k S; rfl
   | cons t ts ih=>intro k S; simp only [stL]; rw [if_neg (by simp)]; exact ih _ _
  rw [this]
  simp only [pushR,hd,lk,if_true]
 | t0 :: ts,L,k,S,s,j+1,t,h,hd,hL,hw=>by
  simp only [stL]
  refine stL_env_at ts L (k+1) _ s j t (by simpa using h) hd (by rw [Nat.add_assoc,Nat.add_comm 1 j]; exact hL) (fun i t' h0 h1 h2=>?_)
  have:=hw (i+1) t' (by omega) (by simpa using h1) h2
  rw [Nat.add_assoc,Nat.add_comm 1 i]; exact this
theorem stL_ents_at:∀ (ts:List Rec) (L:Nat→Bool) (k:Nat) (S:St) (s j:Nat) (t:Rec) (e:Ent),ts[j]?=some t→lk t.us s=some e→L (k+j)=true →
  (∀ (i:Nat) (t':Rec),j < i→ts[i]?=some t'→s∈keys t'.us→L (k+i)=false)→lk (stL ts L k S).ents s=some e
 | [],_,_,_,_,_,_,_,h,_,_,_=>by simp at h
 | t0 :: ts,L,k,S,s,0,t,e,h,hd,hL,hw=>by
  simp only [List.getElem?_cons_zero,Option.some.injEq] at h
  subst h
  simp only [stL]
  rw [if_pos (by simpa using hL)]
  rw [stL_ents ts L (fun _=>false) (k+1) _ (pushR t0 S) s (fun i t' h1 h2=>by have:=hw (i+1) t' (by omega) (by simpa using h1) h2; rw [Nat.add_assoc,Nat.add_comm 1 i]; exact this) rfl]
  have:∀ (ts:List Rec) (k:Nat) (S:St),stL ts (fun _=>false) k S=S:=by
   intro ts
   induction ts with
   | nil=>intro k S; rfl
   | cons t ts ih=>intro k S; simp only [stL]; rw [if_neg (by simp)]; exact ih _ _
  rw [this]
  exact pushR_ents_in hd
 | t0 :: ts,L,k,S,s,j+1,t,e,h,hd,hL,hw=>by
  simp only [stL]
  refine stL_ents_at ts L (k+1) _ s j t e (by simpa using h) hd (by rw [Nat.add_assoc,Nat.add_comm 1 j]; exact hL) (fun i t' h0 h1 h2=>?_)
  have:=hw (i+1) t' (by omega) (by simpa using h1) h2
  rw [Nat.add_assoc,Nat.add_comm 1 i]; exact this
section
variable {S S2:St}
theorem rd_congr {x:XO} (h:∀ s∈x.slots,lk S.env s=lk S2.env s):rd S.env x=rd S2.env x:=by
 cases x with
 | t i=>simp only [rd,h i (by simp [XO.slots])]
 | k v=>rfl
theorem rds_congr:∀ {xs:List XO},(∀ s∈slotsL xs,lk S.env s=lk S2.env s)→rds S.env xs=rds S2.env xs
 | [],_=>rfl
 | x :: xs,h=>by
  simp only [rds]
  rw [rd_congr (fun s hs=>h s (by simp [slotsL,hs])),rds_congr (fun s hs=>h s (by simp [slotsL,hs]))]
theorem guardOf_congr {g:Option (Nat × Bool)} (h:∀ s w,g=some (s,w)→lk S.env s=lk S2.env s):guardOf S.env g=guardOf S2.env g:=by
 cases g with
 | none=>rfl
 | some p=>obtain ⟨s,w⟩:=p; simp only [guardOf,h s w rfl]
theorem boxOf_congr {E E':Nat→Option Ent} {i:Nat} (h:E i=E' i):boxOf E i=boxOf E' i:=by simp only [boxOf,h]
theorem rowOf_congr {E E':Nat→Option Ent} {i:Nat} (h:E i=E' i):rowOf E i=rowOf E' i:=by simp only [rowOf,h]
theorem rowV_congr {E E':Nat→Option Ent} {x:S1} (h:∀ i∈x.ids,E i=E' i):rowV E x=rowV E' x:=by
 unfold rowV
 split
 ·rename_i i
  rw [rowOf_congr (h i (by simp [S1.ids,SC.ids]))]
 ·rfl
 ·rfl
theorem qX_congr {E E':Nat→Option Ent} {k:QX} {ys:List S1} (h:∀ i∈ids1L ys,E i=E' i):qX E k ys=qX E' k ys:=by
 cases k<;>simp only [qX]
 case str=>
  unfold qStr
  split
  ·rw [rowV_congr (fun i hi=>h i (by simp [ids1L,hi]))]
  ·rfl
 case sdata=>
  unfold qSdata
  split
  ·rw [rowOf_congr (h _ (by simp [ids1L,S1.ids,SC.ids]))]
  ·rfl
 case toU=>
  unfold qToU
  split
  ·rw [h _ (by simp [ids1L,S1.ids,SC.ids])]
  ·rfl
 case fromU u n=>
  unfold qFromU
  split
  ·rw [h _ (by simp [ids1L,S1.ids,SC.ids])]
  ·rfl
theorem opQ_congr {E E':Nat→Option Ent} {op:XOp} {ys:List S1} (h:∀ i∈ids1L ys,E i=E' i):opQ E op ys=opQ E' op ys:=by
 cases op<;>simp only [opQ]
 case x k=>exact qX_congr h
 case load1=>
  unfold qLoad1
  split
  ·rw [boxOf_congr (h _ (by simp [ids1L,S1.ids,SC.ids]))]
  ·rw [rowOf_congr (h _ (by simp [ids1L,S1.ids,SC.ids]))]
  ·rfl
 case loadN m=>
  unfold qLoadN
  split
  ·rw [boxOf_congr (h _ (by simp [ids1L,S1.ids,SC.ids]))]
  ·rw [rowOf_congr (h _ (by simp [ids1L,S1.ids,SC.ids]))]
  ·rfl
 case ixS sz=>
  unfold qIxS
  split
  ·rw [rowOf_congr (h _ (by simp [ids1L,S1.ids,SC.ids]))]
  ·rfl
 case lenS=>
  unfold qLenS
  split
  ·rw [rowV_congr (fun i hi=>h i (by simp [ids1L,hi]))]
  ·rfl
theorem resE_congr {E E':Nat→Option Ent} {l:List Nat} (h:∀ i∈l,E i=E' i):resE l E=resE l E':=by
 funext i
 unfold resE
 split
 ·rename_i hm; exact h i (memN_iff.1 hm)
 ·rfl
theorem ids1L_tail {y:S1} {ys:List S1}:∀ i∈ids1L ys,i∈ids1L (y :: ys):=fun i hi=>by simp [ids1L,hi]
def Ent.inner (k:Nat):Option Ent→List Nat
 | some (.box cs _)=>idsL cs
 | some (.als j _ _)=>[j]
 | some (.itr j _ _)=>[j]
 | _=>[]
theorem reachB_cons (E:Nat→Option Ent) (k:Nat) (l:List Nat):reachB E (k :: l)=Ent.inner k (E k)++reachB E l:=by
 simp only [reachB]
 congr 1
theorem reachB_mem {E:Nat→Option Ent}:∀ {l:List Nat} {i:Nat},i∈reachB E l ↔ ∃ k∈l,i∈Ent.inner k (E k)
 | [],i=>by simp [reachB]
 | k :: l,i=>by
  simp only [reachB_cons,List.mem_append,reachB_mem,List.mem_cons]
  constructor
  ·rintro (h | ⟨k',h1,h2⟩)
   ·exact ⟨k,.inl rfl,h⟩
   ·exact ⟨k',.inr h1,h2⟩
  ·rintro ⟨k',rfl | h1,hi⟩
   ·exact .inl hi
   ·exact .inr ⟨k',h1,hi⟩
theorem reach_congr {E E':Nat→Option Ent}:∀ {l:List Nat},(∀ i∈l,E i=E' i)→reach E l=reach E' l:=by
 have:∀ {l:List Nat},(∀ i∈l,E i=E' i)→reachB E l=reachB E' l:=by
  intro l
  induction l with
  | nil=>intro _; rfl
  | cons k l ih=>intro h; simp only [reachB]; rw [h k (by simp),ih (fun i hi=>h i (by simp [hi]))]
 intro l h
 unfold reach
 rw [this h]
theorem reach_mono {E:Nat→Option Ent} {l l':List Nat} (h:∀ i∈l,i∈l'):∀ i∈reach E l,i∈reach E l':=by
 intro i hi
 unfold reach at hi ⊢
 rw [List.mem_append] at hi ⊢
 rcases hi with hi | hi
 ·exact .inl (h i hi)
 ·obtain ⟨k,hk,r⟩:=reachB_mem.1 hi
  exact .inr (reachB_mem.2 ⟨k,h k hk,r⟩)
theorem resR_congr {E E':Nat→Option Ent} {l:List Nat} (h:∀ i∈reach E l,E i=E' i):resE (reach E l) E=resE (reach E' l) E':=by
 rw [reach_congr (E:=E) (E':=E') (fun i hi=>h i (reach_sub E l i hi))] at *
 exact resE_congr h
theorem tupOf_congr {e1 e2:List (Nat × SV)} {x:XO} (h:∀ s∈x.slots,lk e1 s=lk e2 s):tupOf e1 x=tupOf e2 x:=by
 unfold tupOf
 split
 ·rename_i s
  rw [h s (by simp [XO.slots])]
 ·rfl
theorem evQ0_congr {Γ:Nat→Con} {x:XOper} (hn:S.next=S2.next) (hu:∀ s∈usesX x,lk S.env s=lk S2.env s) (hr:∀ i∈readsX x S,lk S.ents i=lk S2.ents i):evQ0 Γ x S=evQ0 Γ x S2:=by
 have hg:guardOf S.env x.guard=guardOf S2.env x.guard:=guardOf_congr (fun s w h=>hu s (by simp [usesX,h]))
 have ha:rds S.env x.args=rds S2.env x.args:=rds_congr (fun s hs=>hu s (by simp [usesX,hs]))
 by_cases hmv:x.op = .mv
 ·unfold evQ0
  rw [← hg,hmv,← ha]
  rfl
 rw [readsX_ne hmv] at hr
 unfold evQ0
 rw [← hg]
 split
 ·rfl
 ·rename_i gd _
  obtain ⟨d,op,args,g⟩:=x
  simp only at ha hr hu ⊢
  split
  ·rename_i hgg
   split
   ·rename_i c x y
    rw [rd_congr (x:=c) (fun s hs=>hu s (by simp [usesX,slotsL,hs])),rd_congr (x:=x) (fun s hs=>hu s (by simp [usesX,slotsL,hs])),rd_congr (x:=y) (fun s hs=>hu s (by simp [usesX,slotsL,hs]))]
   ·rfl
  ·rename_i i
   unfold evExt
   split
   ·rename_i s
    rw [hu s (by simp [usesX,slotsL,XO.slots])]
   ·rfl
  ·rename_i f
   rw [← ha]
   split
   ·rfl
   split
   ·rename_i p ys hys
    rw [hys] at hr
    rw [resR_congr hr,hn]
   ·rfl
  ·rw [← ha]
   split
   ·rename_i p f fs cs ys hys
    rw [hys] at hr
    rw [resR_congr (fun i hi=>hr i (reach_mono ids1L_tail i hi)),hn]
   ·rename_i p f cs ys hys
    rw [hys] at hr
    rw [resR_congr hr,hn]
   ·rfl
  ·rfl
  ·rfl
  ·rfl
  ·rfl
  ·rfl
  ·rfl
  ·rfl
  ·rfl
  ·rw [← ha]
   split
   ·rename_i p ys hys
    rw [hys] at hr
    rw [opQ_congr (fun i hi=>hr i (reach_sub _ _ i hi))]
   ·rfl
theorem evQ_congr {Γ:Nat→Con} {x:XOper} (hn:S.next=S2.next) (hu:∀ s∈usesX x,lk S.env s=lk S2.env s) (hr:∀ i∈readsX x S,lk S.ents i=lk S2.ents i):evQ Γ x S=evQ Γ x S2:=by
 have e:evTup x S=evTup x S2:=by
  unfold evTup
  obtain ⟨d,op,args,g⟩:=x
  simp only at hu ⊢
  split
  ·rfl
  ·split
   ·split
    ·rename_i x
     exact tupOf_congr (fun s hs=>hu s (by simp [usesX,slotsL,hs]))
    ·rfl
   ·rfl
 unfold evQ
 rw [e,evQ0_congr hn hu hr]
theorem eStore_congr {E E':Nat→Option Ent} {n:Nat} {ys:List S1} (h:∀ i∈ids1L ys,E i=E' i):eStore n E ys=eStore n E' ys:=by
 unfold eStore
 split
 ·rw [h _ (by simp [ids1L,S1.ids,SC.ids])]
 ·rw [h _ (by simp [ids1L,S1.ids,SC.ids])]
 ·rfl
theorem eSlc_congr {E E':Nat→Option Ent} {c sz:Nat} {a b d:Bool} {ys:List S1} (h:∀ i∈ids1L ys,E i=E' i):eSlc c sz a b d E ys=eSlc c sz a b d E' ys:=by
 unfold eSlc
 split
 ·rename_i x ys
  split
  ·rw [rowV_congr (fun i hi=>h i (by simp [ids1L,hi]))]
   unfold eSlc3
   split
   ·rfl
   ·split
    ·rw [h _ (by simp [ids1L,S1.ids,SC.ids])]
    ·rfl
  ·unfold eSlcO
   split
   ·rw [h _ (by simp [ids1L,S1.ids,SC.ids])]
   ·rfl
  ·rfl
 ·rfl
theorem eApp_congr {E E':Nat→Option Ent} {c sz by_:Nat} {ty:TypeId} {ys:List S1} (h0:∀ i∈reach E (ids1L ys),E i=E' i):eApp c ty sz by_ E ys=eApp c ty sz by_ E' ys:=by
 have h:∀ i∈ids1L ys,E i=E' i:=fun i hi=>h0 i (reach_sub E _ i hi)
 unfold eApp
 split
 ·rename_i i x
  have hj:∀ j m,E' i=some (.als j m false)→E j=E' j:=fun j m hji=>h0 j (by
   unfold reach
   rw [List.mem_append]
   refine .inr (reachB_mem.2 ⟨i,by simp [ids1L,S1.ids,SC.ids],?_⟩)
   rw [h i (by simp [ids1L,S1.ids,SC.ids]),hji]
   simp [Ent.inner])
  have hl:isLen0 E x=isLen0 E' x:=by
   unfold isLen0
   split
   ·rename_i j; rw [h j (by simp [ids1L,S1.ids,SC.ids])]
   ·rfl
  rw [h i (by simp [ids1L,S1.ids,SC.ids]),rowV_congr (x:=x) (fun i hi=>h i (by simp [ids1L,hi])),hl]
  cases hei:E' i with
  | none=>rfl
  | some e=>
   cases e<;>try rfl
   rename_i j m full
   cases full with
   | true=>rfl
   | false=>
    simp only
    rw [hj j m hei]
 ·rename_i x
  rw [rowV_congr (x:=x) (fun i hi=>h i (by simp [ids1L,hi]))]
 ·rfl
theorem effE_congr {Γ:Nat→Con} {E E':Nat→Option Ent} {c:Nat} {op:XOp} {ys:List S1} (h:∀ i∈reach E (ids1L ys),E i=E' i):effE Γ c op E ys=effE Γ c op E' ys:=by
 have h':∀ i∈ids1L ys,E i=E' i:=fun i hi=>h i (reach_sub E _ i hi)
 cases op<;>simp only [effE]
 case store n=>exact eStore_congr h'
 case call f=>rw [resR_congr h]
 case slc=>exact eSlc_congr h'
 case app=>exact eApp_congr h
 case ustr te=>
  unfold eUstr
  split
  ·rw [h' _ (by simp [ids1L,S1.ids,SC.ids])]
  ·rfl
 case mkb=>
  unfold eMkb
  split
  ·rw [h' _ (by simp [ids1L,S1.ids,SC.ids])]
  ·rfl
theorem readsX_congr {x:XOper} (hu:∀ s∈usesX x,lk S.env s=lk S2.env s) (hr:∀ i∈readsX x S,lk S.ents i=lk S2.ents i):readsX x S2=readsX x S:=by
 by_cases hmv:x.op = .mv
 ·rw [readsX_mv hmv,readsX_mv hmv]
 rw [readsX_ne hmv] at hr
 rw [readsX_ne hmv,readsX_ne hmv]
 have e:=rds_congr (S:=S) (S2:=S2) (xs:=x.args) (fun s hs=>hu s (by simp [usesX,hs]))
 rw [← e]
 split
 ·rename_i p ys hrd
  rw [hrd] at hr
  exact (reach_congr (fun i hi=>hr i (reach_sub _ _ i hi))).symm
 ·rfl
theorem recOf_congr {Γ:Nat→Con} {c:Nat} {x:XOper} {p:Prop} {t:Rec} (h:recOf Γ c x S=some (p,t)) (hn:S.next=S2.next) (hu:∀ s∈t.uses,lk S.env s=lk S2.env s)
  (hr:∀ i∈t.rd,lk S.ents i=lk S2.ents i):recOf Γ c x S2=some (p,t):=by
 unfold recOf at h ⊢
 split at h
 ·rename_i p' v he
  cases h
  rw [← evQ_congr hn hu hr,he]
  simp only [Option.some.injEq,Prod.mk.injEq,true_and,Rec.mk.injEq]
  exact readsX_congr hu hr
 ·rename_i he
  have hgc:guardOf S.env x.guard=guardOf S2.env x.guard:=guardOf_congr (fun s w hq=>hu s (by
   have:t.uses=usesX x:=by
    split at h
    ·cases h; rfl
    ·unfold recEff at h
     split at h
     ·cases h
     ·split at h
      ·split at h
       ·cases h; rfl
       ·cases h
      ·cases h
   rw [this]; simp [usesX,hq]))
  have honc:onG S.env x.guard=onG S2.env x.guard:=by unfold onG; rw [hgc]
  have hoffc:offG S.env x.guard=offG S2.env x.guard:=by unfold offG; rw [hgc]
  split at h
  ·rename_i hoff
   cases h
   have hev:evQ Γ x S2=none:=by rw [← evQ_congr hn hu hr]; exact he
   rw [hev,← hoffc,hoff]
   simp only [Option.some.injEq,Prod.mk.injEq,true_and,Rec.mk.injEq]
   exact readsX_congr hu hr
  rename_i hoff
  have hmv:=recEff_mv h
  unfold recEff at h
  split at h
  ·cases h
  ·rename_i hgd
   split at h
   ·rename_i p1 ys hrd
    split at h
    ·rename_i q v us al heff
     cases h
     simp only at hu hr
     have e:=rds_congr (S:=S) (S2:=S2) (xs:=x.args) (fun s hs=>hu s (by simp [usesX,hs]))
     have hev:evQ Γ x S2=none:=by
      rw [← evQ_congr hn hu (by rw [readsX_ne hmv,hrd]; exact hr)]
      exact he
     rw [hev,← hoffc,hoff]
     simp only
     unfold recEff
     rw [← honc,hgd,← e,hrd]
     simp only
     rw [← effE_congr hr,heff,← reach_congr (fun i hi=>hr i (reach_sub _ _ i hi))]
    ·cases h
   ·cases h
end
end Go.Sx
namespace Go.Sx
open Go.RowKit
theorem indepAt_spec {y:Foot} {pre:List Nat}:∀ {l:List Foot} {k:Nat},indepAt y pre k l=true→∀ (i:Nat) (x:Foot),l[i]?=some x→clash x y=true→memN (k+i) pre=true
 | [],k,_,i,x,hx=>by simp at hx
 | z :: l,k,h,i,x,hx=>by
  simp only [indepAt,Bool.and_eq_true,Bool.not_eq_true',Bool.or_eq_true] at h
  obtain ⟨h3,h4⟩:=h
  cases i with
  | zero=>
   simp only [List.getElem?_cons_zero,Option.some.injEq] at hx
   subst hx
   intro hc
   rcases h3 with h3 | h3
   ·rw [hc] at h3; cases h3
   ·exact h3
  | succ i=>
   have:=indepAt_spec h4 i x (by simpa using hx)
   rw [Nat.add_assoc,Nat.add_comm 1 i] at this
   exact this
theorem indep_spec:∀ {l dn:List Foot} {ps:List (List Nat)},indep dn l ps=true→∀ (j:Nat) (y:Foot),l[j]?=some y →
  ∃ pre,ps[j]?=some pre∧∀ (i:Nat) (x:Foot),(dn++l)[i]?=some x→i < dn.length+j→clash x y=true→memN i pre=true
 | [],dn,ps,h,j,y,hy=>by simp at hy
 | z :: l,dn,[],h,j,y,hy=>by simp [indep] at h
 | z :: l,dn,p :: ps,h,j,y,hy=>by
  simp only [indep,Bool.and_eq_true] at h
  cases j with
  | zero=>
   simp only [List.getElem?_cons_zero,Option.some.injEq] at hy
   subst hy
   refine ⟨p,rfl,fun i x hx hi=>?_⟩
   have:=indepAt_spec h.1 i x (by rw [List.getElem?_append_left (by omega)] at hx; exact hx)
   rw [Nat.zero_add] at this
   exact this
  | succ j=>
   obtain ⟨pre,hpre,hall⟩:=indep_spec h.2 j y (by simpa using hy)
   refine ⟨pre,by simpa using hpre,fun i x hx hi=>hall i x (by simpa using hx) (by simp; omega)⟩
theorem meets_mem {i:Nat} {l k:List Nat} (h1:i∈l) (h2:i∈k):meets l k=true:=by
 induction l with
 | nil=>cases h1
 | cons j l ih=>
  simp only [meets,Bool.or_eq_true]
  cases h1 with
  | head=>exact .inl (memN_iff.2 h2)
  | tail _ hm=>exact .inr (ih hm)
def predOk1 (ops:Array Oper) (preds:List (List Nat)) (j:Nat) (pre:List Nat):Bool :=
 pre.all fun i=>match ops[j]? with
  | some o=>o.after.any fun e=>Region.binds .any e && (e.on == i || memN i (preds.getD e.on []))
  | none=>false
def predsOk (ops:Array Oper) (preds:List (List Nat)):Bool :=
 preds.zipIdx.all fun x=>predOk1 ops preds x.2 x.1
def edgesOk (ops:Array Oper):Bool :=
 ops.toList.zipIdx.all fun x=>x.1.after.all fun e=>!Region.binds .any e || decide (e.on < x.2)
theorem predsOk_spec {ops:Array Oper} {preds:List (List Nat)} (h:predsOk ops preds=true) {j:Nat} {pre:List Nat} (hj:preds[j]?=some pre) {i:Nat} (hi:i∈pre) :
  ∃ o,ops[j]?=some o∧∃ e∈o.after,Region.binds .any e=true∧(e.on=i∨∃ pre',preds[e.on]?=some pre'∧i∈pre'):=by
 unfold predsOk at h
 have h1:=List.all_eq_true.1 h (pre,j) (List.mem_zipIdx_iff_getElem?.2 hj)
 unfold predOk1 at h1
 have h2:=List.all_eq_true.1 h1 i hi
 split at h2
 ·rename_i o ho
  obtain ⟨e,he,hb⟩:=Array.any_eq_true'.1 h2
  simp only [Bool.and_eq_true,Bool.or_eq_true,beq_iff_eq] at hb
  refine ⟨o,ho,e,he,hb.1,?_⟩
  rcases hb.2 with h3 | h3
  ·exact .inl h3
  ·refine .inr ?_
   have h4:=memN_iff.1 h3
   rw [List.getD_eq_getElem?_getD] at h4
   cases hp:preds[e.on]? with
   | none=>rw [hp] at h4; simp at h4
   | some pre'=>rw [hp] at h4; exact ⟨pre',rfl,h4⟩
 ·cases h2
theorem edgesOk_spec {ops:Array Oper} (h:edgesOk ops=true) {j:Nat} {o:Oper} (hj:ops[j]?=some o) {e:Edge} (he:e∈o.after) (hb:Region.binds .any e=true):e.on < j:=by
 unfold edgesOk at h
 have h1:=List.all_eq_true.1 h (o,j) (List.mem_zipIdx_iff_getElem?.2 (by rw [Array.getElem?_toList]; exact hj))
 have h2:=Array.all_eq_true'.1 h1 e he
 simp only [hb,Bool.not_true,Bool.false_or,decide_eq_true_eq] at h2
 exact h2
section
variable {P:Program} {base:World} {M:Scp} {N n0:Nat} {r0 r:Rho} {S:St} {a:Act} {w:World}
theorem Rel.congr {S S':St} (hr:Rel base M N n0 r0 r S a w) (h1:∀ s,lk S'.env s=lk S.env s) (h2:∀ s,lk S'.ents s=lk S.ents s) (h3:S'.next=S.next):Rel base M N n0 r0 r S' a w:=by
 have e2:lk S'.ents=lk S.ents:=funext h2
 refine ⟨hr.defers,hr.tmps,fun s v hl=>hr.slot s v (by rw [← h1]; exact hl),by rw [e2]; exact hr.heap,fun s v hl=>by rw [h3]; exact hr.scE s v (by rw [← h1]; exact hl),fun i e hl=>by rw [h3]; exact hr.scH i e (by rw [← h2]; exact hl),by rw [h3]; exact hr.low,hr.keep⟩
def unl (ops:Array Oper) (listed:Array Bool):Nat:=((List.range ops.size).filter fun i=>!listed.getD i true).length
theorem filter_le {p q:Nat→Bool} (hpq:∀ i,q i=true→p i=true):∀ (l:List Nat),(l.filter q).length≤(l.filter p).length
 | []=>Nat.le_refl _
 | x :: l=>by
  simp only [List.filter_cons]
  have:=filter_le hpq l
  split
  ·rename_i hq; rw [if_pos (hpq x hq)]; simp only [List.length_cons]; omega
  ·split
   ·simp only [List.length_cons]; omega
   ·exact this
theorem filter_lt {p q:Nat→Bool} (hpq:∀ i,q i=true→p i=true) {j:Nat} (hp:p j=true) (hq:q j=false):∀ (l:List Nat),j∈l→(l.filter q).length < (l.filter p).length
 | [],h=>by cases h
 | x :: l,h=>by
  simp only [List.filter_cons]
  cases h with
  | head=>
   rw [if_pos hp,if_neg (by rw [hq]; simp)]
   have:=filter_le hpq l
   simp only [List.length_cons]; omega
  | tail _ hm=>
   have:=filter_lt hpq hp hq l hm
   split
   ·rename_i hqx; rw [if_pos (hpq x hqx)]; simp only [List.length_cons]; omega
   ·split
    ·simp only [List.length_cons]; omega
    ·exact this
theorem unl_set {ops:Array Oper} {listed:Array Bool} {j:Nat} (hj:j < ops.size) (hs:listed.size=ops.size) (h:listed.getD j true=false):unl ops (listed.setIfInBounds j true) < unl ops listed:=by
 unfold unl
 refine filter_lt (j:=j) (fun i hi=>?_) (by simp [h]) ?_ _ (List.mem_range.2 hj)
 ·by_cases hij:j=i
  ·subst hij
   simp [hs,hj] at hi
  ·rw [getD_set_ne true hij] at hi; exact hi
 ·simp [hs,hj]
theorem xopsL_at {ops:Array Oper}:∀ {l:List Oper} {xl:List XOper},xopsL P ops N l=some xl→∀ (j:Nat) (o:Oper),l[j]?=some o→∃ x,xl[j]?=some x∧xop P ops o=some x∧∀ s,x.dst=some s→s < N
 | [],xl,h,j,o,ho=>by simp at ho
 | o0 :: l,xl,h,j,o,ho=>by
  simp only [xopsL] at h
  split at h
  ·rename_i x hx
   split at h
   ·rename_i hd
    split at h
    ·rename_i xs hxs
     cases h
     cases j with
     | zero=>
      simp only [List.getElem?_cons_zero,Option.some.injEq] at ho
      subst ho
      refine ⟨x,rfl,hx,fun s hs=>?_⟩
      rw [hs] at hd
      simpa [dstOk] using hd
     | succ j=>simpa using xopsL_at hxs j o (by simpa using ho)
    ·cases h
   ·cases h
  ·cases h
theorem xopsL_len {ops:Array Oper}:∀ {l:List Oper} {xl:List XOper},xopsL P ops N l=some xl→xl.length=l.length
 | [],xl,h=>by simp only [xopsL,Option.some.injEq] at h; subst h; rfl
 | o0 :: l,xl,h=>by
  simp only [xopsL] at h
  split at h
  ·split at h
   ·split at h
    ·rename_i xs hxs; cases h; simp [xopsL_len hxs]
    ·cases h
   ·cases h
  ·cases h
end
end Go.Sx
namespace Go.Sx
open Go.RowKit
theorem getD_both' {listed:Array Bool} {i:Nat} (h:listed.getD i true=false):listed.getD i false=false:=by
 rcases Nat.lt_or_ge i listed.size with h' | h'
 ·simp [h'] at h ⊢; exact h
 ·simp [Array.getElem?_eq_none h'] at h
theorem getD_in' {listed:Array Bool} {i:Nat} (hi:i < listed.size) (h:listed.getD i false=false):listed.getD i true=false:=by
 simp [hi] at h ⊢; exact h
section
variable {P:Program} {base:World} {M:Scp} {N n0:Nat} {r0 r:Rho} {S:St} {a:Act} {w:World}
theorem inO_mem {i:Nat} {l:List Nat} (h:i∈l):inO (some i) l=true:=memN_iff.2 h
def Sh (lo:Nat) (preds preds0:List (List Nat)):Prop:=∀ j,(preds[j]?=none∧preds0[lo+j]?=none)∨∃ pre pre0,preds[j]?=some pre∧preds0[lo+j]?=some pre0∧∀ i∈pre,lo+i∈pre0
def Cl (preds:List (List Nat)) (listed:Array Bool):Prop:=∀ j,listed.getD j false=true→∀ pre,preds[j]?=some pre→∀ i∈pre,listed.getD i false=true
theorem ready_nil {ops:Array Oper} {listed:Array Bool} (he:edgesOk ops=true) (hs:listed.size=ops.size) (hr:Region.ready .any ops listed=[]):∀ i,i < ops.size→listed.getD i false=true:=by
 intro i
 induction i using Nat.strongRecOn with
 | _ i ih=>
  intro hi
  cases hl:listed.getD i false with
  | true=>rfl
  | false=>
   exfalso
   have hmem:i∈Region.ready .any ops listed:=by
    rw [mem_ready]
    refine ⟨getD_in' (by rw [hs]; exact hi) hl,ops[i],Array.getElem?_eq_getElem hi,fun e hee hb=>?_⟩
    exact ih e.on (edgesOk_spec he (Array.getElem?_eq_getElem hi) hee hb) (by have:=edgesOk_spec he (Array.getElem?_eq_getElem hi) hee hb; omega)
   rw [hr] at hmem
   cases hmem
theorem unl_pos {ops:Array Oper} {listed:Array Bool} (hs:listed.size=ops.size) {i:Nat} (hi:i < ops.size) (h:listed.getD i false=false):0 < unl ops listed:=by
 unfold unl
 have:i∈(List.range ops.size).filter fun i=>!listed.getD i true:=List.mem_filter.2 ⟨List.mem_range.2 hi,by
  have:=getD_in' (by rw [hs]; exact hi) h
  simp [this]⟩
 cases hc:(List.range ops.size).filter fun i=>!listed.getD i true with
 | nil=>rw [hc] at this; cases this
 | cons a b=>simp
theorem wpAny_seg {Γ:Nat→Con} {ops:Array Oper} {lo:Nat} {xl:List XOper} {ts:List Rec} {c':Nat} {S' S0:St} {preds preds0:List (List Nat)} {Q:Exit→Act→World→Prop} (hΓ:∀ f,COk P f (Γ f))
  (hx:∀ j o,j < xl.length→ops[lo+j]?=some o→∃ x,xl[j]?=some x∧xop P ops o=some x∧∀ s,x.dst=some s→s < N) (hhi:lo+xl.length≤ops.size)
  (hrun:Run Γ xl S.next S0 ts c' S') (hS0:S.next≤S0.next) (hc':c'≤S0.next) (hSh:Sh lo preds preds0) (hind:indep [] (ts.map Rec.foot) preds=true) (hp:predsOk ops preds0=true) (he:edgesOk ops=true)
  (hbar:∀ j,lo+xl.length≤j→j < ops.size→∃ pre0,preds0[j]?=some pre0∧((∀ i,lo≤i→i < lo+xl.length→i∈pre0)∨∃ i,lo+xl.length≤i∧i∈pre0))
  (hn0:n0≤S.next) (hsc:InSc (upto S.next) S0)
  (hQ:∀ fuel listed r a w,listed.size=ops.size→unl ops listed≤fuel→Cl preds0 listed→(∀ i,i < lo+xl.length→listed.getD i false=true)→(∀ i,lo+xl.length≤i→listed.getD i false=false) →
   Rel base M N n0 r0 r S' a w→wpAny P .any ops Q fuel listed a w) :
  ∀ (fuel:Nat) (listed:Array Bool) (r:Rho) (a:Act) (w:World),listed.size=ops.size→unl ops listed≤fuel →
   Cl preds0 listed→(∀ i,i < lo→listed.getD i false=true)→(∀ i,lo+xl.length≤i→listed.getD i false=false) →
   Rel base M N n0 r0 r (stL ts (fun i=>listed.getD i false) lo S0) a w →
   (∀ k t,ts[k]?=some t→listed.getD (lo+k) false=false→InSc (nw t.c t.al) (stL ts (fun i=>listed.getD i false) lo S0))→wpAny P .any ops Q fuel listed a w:=by
 have hlen:ts.length=xl.length:=hrun.len
 have hspec:=indep_spec hind
 intro fuel
 induction fuel with
 | zero=>
  intro listed r a w hs hu hcl hbelow habove hrel _
  refine hQ 0 listed r a w hs hu hcl (fun i hi=>?_) habove ?_
  ·cases hl:listed.getD i false with
   | true=>rfl
   | false=>have:=unl_pos hs (by omega) hl; omega
  ·rw [hrun.final _ lo (fun i _ hi=>?_)] at hrel
   ·exact hrel
   ·cases hl:listed.getD i false with
    | true=>rfl
    | false=>have:=unl_pos hs (by omega) hl; omega
 | succ fuel ih=>
  intro listed r a w hs hu hcl hbelow habove hrel havoid
  by_cases hall:∀ i,i < lo+xl.length→listed.getD i false=true
  ·refine hQ (fuel+1) listed r a w hs hu hcl hall habove ?_
   rw [hrun.final _ lo (fun i _ hi=>hall i (by omega))] at hrel
   exact hrel
  have hnall:∃ i,lo≤i∧i < lo+xl.length∧listed.getD i false=false:=by
   refine Classical.byContradiction fun hno=>hall fun i hi=>?_
   by_cases hlo:i < lo
   ·exact hbelow i hlo
   ·cases hl:listed.getD i false with
    | true=>rfl
    | false=>exact absurd ⟨i,by omega,hi,hl⟩ hno
  refine ⟨fun hr=>?_,fun jj hj=>?_⟩
  ·obtain ⟨i,_,h2,h3⟩:=hnall
   have:=ready_nil he hs hr i (by omega)
   rw [h3] at this; cases this
  obtain ⟨hun,o,ho,hedge⟩:=mem_ready.1 hj
  have hjlt:jj < ops.size:=(Array.getElem?_eq_some_iff.1 ho).1
  have hLj':listed.getD jj false=false:=getD_both' hun
  have hpre0:∀ prej,preds0[jj]?=some prej→∀ i∈prej,listed.getD i false=true:=by
   intro prej hprej i hi
   obtain ⟨o',ho',e,hee,hb,h1⟩:=predsOk_spec hp hprej hi
   have:o'=o:=Option.some.inj (ho'.symm.trans ho)
   subst this
   rcases h1 with h1 | ⟨pre',hpre',h1⟩
   ·rw [← h1]; exact hedge e hee hb
   ·exact hcl e.on (hedge e hee hb) pre' hpre' i h1
  have hjlo:lo≤jj:=by
   rcases Nat.lt_or_ge jj lo with h | h
   ·have:=hbelow jj h; rw [hLj'] at this; cases this
   ·exact h
  have hjhi:jj < lo+xl.length:=by
   rcases Nat.lt_or_ge jj (lo+xl.length) with h | h
   ·exact h
   ·obtain ⟨pre0,h1,h2⟩:=hbar jj h hjlt
    rcases h2 with h2 | ⟨i,h3,h4⟩
    ·obtain ⟨i,h3,h4,h5⟩:=hnall
     have:=hpre0 pre0 h1 i (h2 i h3 h4)
     rw [h5] at this; cases this
    ·have:=hpre0 pre0 h1 i h4
     rw [habove i h3] at this; cases this
  obtain ⟨j,rfl⟩:∃ j,jj=lo+j:=⟨jj - lo,by omega⟩
  have hLj:listed.getD (lo+j) false=false:=hLj'
  obtain ⟨x,hxl,hxo,hxd⟩:=hx j o (by omega) ho
  obtain ⟨t,ht⟩:∃ t,ts[j]?=some t:=⟨ts[j]'(by omega),List.getElem?_eq_getElem (by omega)⟩
  have hfj:(ts.map Rec.foot)[j]?=some t.foot:=by simp [ht]
  obtain ⟨prej,hprej,hcj⟩:=hspec j t.foot hfj
  have hpre:∀ i∈prej,listed.getD (lo+i) false=true:=by
   intro i hi
   rcases hSh j with ⟨h1,_⟩ | ⟨pre,pre0,h1,h2,h3⟩
   ·rw [hprej] at h1; cases h1
   ·rw [hprej] at h1; cases h1
    exact hpre0 pre0 h2 _ (h3 i hi)
  have hbefore:∀ (i:Nat) (t':Rec),i < j→ts[i]?=some t'→clash t'.foot t.foot=true→listed.getD (lo+i) false=true:=by
   intro i t' hij ht' hc
   exact hpre i (memN_iff.1 (hcj i t'.foot (by simp [ht']) (by simpa using hij) hc))
  have hafter:∀ (i:Nat) (t':Rec),j < i→ts[i]?=some t'→clash t.foot t'.foot=true→listed.getD (lo+i) false=false:=by
   intro i t' hij ht' hc
   obtain ⟨prei,hprei,hci⟩:=hspec i t'.foot (by simp [ht'])
   cases hl:listed.getD (lo+i) false with
   | false=>rfl
   | true=>
    rcases hSh i with ⟨h1,_⟩ | ⟨pre,pre0,h1,h2,h3⟩
    ·rw [hprei] at h1; cases h1
    ·rw [hprei] at h1; cases h1
     have:=hcl (lo+i) hl pre0 h2 (lo+j) (h3 j (memN_iff.1 (hci j t.foot (by simp [ht]) (by simpa using hij) hc)))
     rw [hLj] at this
     cases this
  obtain ⟨p,hc1,hc2,hrec,hpp,hlexsc⟩:=hrun.at hΓ lo j t x hsc hc' ht hxl
  have hagE:∀ s,(∀ (i:Nat) (t':Rec),ts[i]?=some t'→t'.d=some s→(i < j→clash t'.foot t.foot=true)∧(j < i→clash t.foot t'.foot=true)) →
    lk (stL ts (fun i=>decide (i < lo+j)) lo S0).env s=lk (stL ts (fun i=>listed.getD i false) lo S0).env s:=by
   intro s hw
   refine stL_env ts _ _ lo S0 S0 s (fun i t' h1 h2=>?_) rfl
   rcases Nat.lt_trichotomy i j with h | h | h
   ·rw [hbefore i t' h h1 ((hw i t' h1 h2).1 h)]; simp [h]
   ·subst h; rw [hLj]; simp
   ·rw [hafter i t' h h1 ((hw i t' h1 h2).2 h)]; simp; omega
  have hagH:∀ s,(∀ (i:Nat) (t':Rec),ts[i]?=some t'→s∈keys t'.us→(i < j→clash t'.foot t.foot=true)∧(j < i→clash t.foot t'.foot=true)) →
    lk (stL ts (fun i=>decide (i < lo+j)) lo S0).ents s=lk (stL ts (fun i=>listed.getD i false) lo S0).ents s:=by
   intro s hw
   refine stL_ents ts _ _ lo S0 S0 s (fun i t' h1 h2=>?_) rfl
   rcases Nat.lt_trichotomy i j with h | h | h
   ·rw [hbefore i t' h h1 ((hw i t' h1 h2).1 h)]; simp [h]
   ·subst h; rw [hLj]; simp
   ·rw [hafter i t' h h1 ((hw i t' h1 h2).2 h)]; simp; omega
  have hagU:∀ s∈t.uses,lk (stL ts (fun i=>decide (i < lo+j)) lo S0).env s=lk (stL ts (fun i=>listed.getD i false) lo S0).env s:=fun s hs=>hagE s fun i t' h1 h2=>⟨fun _=>by simp [clash,Rec.foot,h2,inO_mem hs],fun _=>by simp [clash,Rec.foot,h2,inO_mem hs]⟩
  have hagR:∀ s∈t.rd,lk (stL ts (fun i=>decide (i < lo+j)) lo S0).ents s=lk (stL ts (fun i=>listed.getD i false) lo S0).ents s:=fun s hs=>hagH s fun i t' h1 h2=>⟨fun _=>by simp [clash,Rec.foot,meets_mem h2 hs],fun _=>by simp [clash,Rec.foot,meets_mem h2 hs]⟩
  have hrecL:recOf Γ t.c x (stL ts (fun i=>listed.getD i false) lo S0)=some (p,t):=recOf_congr hrec (by rw [stL_next,stL_next]) hagU hagR
  have hlow:x.op≠.mv→∀ p ys,rds (stL ts (fun i=>listed.getD i false) lo S0).env x.args=some (p,ys)→(∀ y∈ys,S1.sc (upto t.c) y) ∧
    ∀ i e,resE (reach (lk (stL ts (fun i=>listed.getD i false) lo S0).ents) (ids1L ys)) (lk (stL ts (fun i=>listed.getD i false) lo S0).ents) i=some e→i < t.c∧e.sc (upto t.c):=by
   intro hmv q ys hrd
   obtain ⟨hus,hrds⟩:=recOf_uses hrec
   have e:=rds_congr (xs:=x.args) (S:=stL ts (fun i=>decide (i < lo+j)) lo S0) (S2:=stL ts (fun i=>listed.getD i false) lo S0) (fun s hs=>hagU s (by rw [hus]; simp [usesX,hs]))
   rw [← e] at hrd
   refine ⟨rds_scG hlexsc.env hrd,fun i e' hi=>?_⟩
   rw [← resR_congr (E:=lk (stL ts (fun i=>decide (i < lo+j)) lo S0).ents) (fun i hi=>hagR i (by rw [hrds hmv q ys hrd]; exact hi))] at hi
   exact hlexsc.ent i e' (resE_sub i e' hi)
  have hav:=havoid j t ht hLj
  have key:=rec_sound (Q:=Q) (Next:=wpAny P .any ops Q fuel (listed.setIfInBounds (lo+j) true)) hΓ hxo hxd hrecL hpp hrel (by omega) (by rw [stL_next]; omega) hav hlow ?hN
  case hN=>
   intro r' a' w' hr'
   have hLset:∀ i,i≠lo+j→(listed.setIfInBounds (lo+j) true).getD i false=listed.getD i false:=fun i hi=>getD_set_ne false (Ne.symm hi)
   have hLat:(listed.setIfInBounds (lo+j) true).getD (lo+j) false=true:=by simp [hs,hjlt]
   have cE:∀ s,lk (stL ts (fun i=>(listed.setIfInBounds (lo+j) true).getD i false) lo S0).env s=lk (pushR t (stL ts (fun i=>listed.getD i false) lo S0)).env s:=by
    intro s
    by_cases hd:t.d=some s
    ·rw [stL_env_at ts _ lo S0 s j t ht hd hLat (fun i t' h0 h1 h2=>by
      rw [hLset (lo+i) (by omega)]
      exact hafter i t' h0 h1 (by simp [clash,Rec.foot,hd,h2,eqO]))]
     simp [pushR,hd,lk]
    ·rw [stL_env ts _ (fun i=>listed.getD i false) lo S0 S0 s (fun i t' h1 h2=>by
      refine hLset (lo+i) fun h=>?_
      obtain rfl:i=j:=by omega
      rw [ht] at h1; cases h1; exact hd h2) rfl]
     simp only [pushR]
     split
     ·rename_i s' hs'
      simp only [lk]
      rw [if_neg (by rintro rfl; exact hd hs')]
     ·rfl
   have cH:∀ s,lk (stL ts (fun i=>(listed.setIfInBounds (lo+j) true).getD i false) lo S0).ents s=lk (pushR t (stL ts (fun i=>listed.getD i false) lo S0)).ents s:=by
    intro s
    by_cases hd:s∈keys t.us
    ·obtain ⟨e,hu⟩:=keys_of hd
     rw [stL_ents_at ts _ lo S0 s j t e ht hu hLat (fun i t' h0 h1 h2=>by
      rw [hLset (lo+i) (by omega)]
      exact hafter i t' h0 h1 (by simp [clash,Rec.foot,meets_mem hd h2])),pushR_ents_in hu]
    ·rw [stL_ents ts _ (fun i=>listed.getD i false) lo S0 S0 s (fun i t' h1 h2=>by
      refine hLset (lo+i) fun h=>?_
      obtain rfl:i=j:=by omega
      rw [ht] at h1; cases h1; exact hd h2) rfl,pushR_ents_out hd]
   refine ih (listed.setIfInBounds (lo+j) true) r' a' w' (by simp [hs]) ?_ ?_ (fun i hi=>getD_set_true (hbelow i hi)) (fun i hi=>by rw [hLset i (by omega)]; exact habove i hi) ?_ ?_
   ·have:=unl_set hjlt hs hun
    omega
   ·intro k hk pre hpk i hi
    by_cases hjk:lo+j=k
    ·subst hjk
     exact getD_set_true (hpre0 pre hpk i hi)
    ·rw [getD_set_ne false hjk] at hk
     exact getD_set_true (hcl k hk pre hpk i hi)
   ·exact hr'.congr cE cH (by rw [stL_next]; exact (stL_next ts _ lo S0).symm)
   ·intro k tk htk hk
    have hkj:k≠j:=by rintro rfl; rw [hLat] at hk; cases hk
    rw [hLset (lo+k) (by omega)] at hk
    have hk':=havoid k tk htk hk
    have hsc':=recOf_sc (m:=nw tk.c tk.al) hΓ hrecL hpp hk' ⟨hrel.scE,hrel.scH⟩ hlow (fun i h1 h2=>by
     unfold nw
     rcases Nat.lt_or_gt_of_ne hkj with h | h
     ·have:=hrun.apart k j tk t h htk ht; omega
     ·have:=hrun.apart j k t tk h ht htk; omega)
    exact (hk'.push hsc'.1 hsc'.2).congr cE cH
  unfold wpOp
  simp only [ho]
  split
  ·rename_i hw; rw [if_pos hw] at key; exact .inl key
  ·rename_i hw; rw [if_neg hw] at key; exact key
theorem allN_spec {l:List Nat}:∀ {k:Nat},allN k l=true→∀ i,i < k→i∈l
 | 0,_,i,h=>by omega
 | k+1,h,i,hi=>by
  simp only [allN,Bool.and_eq_true] at h
  rcases Nat.lt_succ_iff_lt_or_eq.1 hi with q | q
  ·exact allN_spec h.2 i q
  ·subst q; exact memN_iff.1 h.1
theorem holdB_spec {k:Nat}:∀ {ls:List (List Nat)},holdB k ls=true→∀ l∈ls,k∈l
 | [],_,l,h=>by cases h
 | a :: ls,h,l,hl=>by
  simp only [holdB,Bool.and_eq_true] at h
  rcases List.mem_cons.1 hl with rfl | q
  ·exact memN_iff.1 h.1
  ·exact holdB_spec h.2 l q
theorem dropN_eq:∀ (k:Nat) (l:List (List Nat)),dropN k l=l.drop k
 | 0,l=>by simp [dropN]
 | k+1,[]=>by simp [dropN]
 | k+1,_ :: l=>by simp [dropN,dropN_eq k l]
theorem nthP_eq:∀ (k:Nat) (l:List (List Nat)),nthP k l=l.getD k []
 | _,[]=>by simp [nthP]
 | 0,_ :: _=>by simp [nthP]
 | k+1,_ :: l=>by simp [nthP,nthP_eq k l]
theorem cutN_mem {k i:Nat}:∀ {l:List Nat},i∈cutN k l→k+i∈l
 | [],h=>by simp [cutN] at h
 | a :: l,h=>by
  simp only [cutN] at h
  split at h
  ·rcases List.mem_cons.1 h with q | q
   ·rw [List.mem_cons]; left; omega
   ·exact List.mem_cons_of_mem _ (cutN_mem q)
  ·exact List.mem_cons_of_mem _ (cutN_mem h)
theorem cutP_get {k:Nat}:∀ (l:List (List Nat)) (j:Nat),(cutP k l)[j]?=(l[j]?).map (cutN k)
 | [],j=>by simp [cutP]
 | a :: l,0=>by simp [cutP]
 | a :: l,j+1=>by simp [cutP,cutP_get l j]
theorem Sh.step {lo:Nat} {preds preds0:List (List Nat)} (h:Sh lo preds preds0) (k:Nat):Sh (lo+k) (cutP k (dropN k preds)) preds0:=by
 intro j
 rw [cutP_get,dropN_eq,List.getElem?_drop]
 rcases h (k+j) with ⟨h1,h2⟩ | ⟨pre,pre0,h1,h2,h3⟩
 ·exact .inl ⟨by rw [h1]; rfl,by rw [show lo+k+j=lo+(k+j) by omega]; exact h2⟩
 ·refine .inr ⟨cutN k pre,pre0,by rw [h1]; rfl,by rw [show lo+k+j=lo+(k+j) by omega]; exact h2,fun i hi=>?_⟩
  have:=h3 _ (cutN_mem hi)
  rwa [show lo+(k+i)=lo+k+i by omega] at this
theorem Sh.bar {lo k:Nat} {preds preds0:List (List Nat)} (h:Sh lo preds preds0) (hb:barB k preds=true) :
  (∀ pre0,preds0[lo+k]?=some pre0→∀ i,lo≤i→i < lo+k→i∈pre0)∧∀ j pre0,lo+k < j→preds0[j]?=some pre0→lo+k∈pre0:=by
 unfold barB at hb
 rw [Bool.and_eq_true,nthP_eq,dropN_eq] at hb
 refine ⟨fun pre0 h0 i h1 h2=>?_,fun j pre0 h1 h0=>?_⟩
 ·rcases h k with ⟨_,g⟩ | ⟨pre,p0,g1,g2,g3⟩
  ·rw [h0] at g; cases g
  ·rw [h0] at g2; cases g2
   have:=allN_spec hb.1 (i - lo) (by omega)
   rw [List.getD_eq_getElem?_getD,g1,Option.getD_some] at this
   have:=g3 _ this
   rwa [show lo+(i - lo)=i by omega] at this
 ·rcases h (j - lo) with ⟨_,g⟩ | ⟨pre,p0,g1,g2,g3⟩
  ·rw [show lo+(j - lo)=j by omega,h0] at g; cases g
  ·rw [show lo+(j - lo)=j by omega,h0] at g2; cases g2
   refine g3 k (holdB_spec hb.2 pre ?_)
   refine List.mem_of_getElem? (i:=j - lo - (k+1)) ?_
   rw [List.getElem?_drop,show k+1+(j - lo - (k+1))=j - lo by omega]
   exact g1
theorem wpAny_one {Γ:Nat→Con} {ops:Array Oper} {b:Nat} {x:XOper} {o:Oper} {K:St→Prop} {preds0:List (List Nat)} {Q:Exit→Act→World→Prop} (hΓ:∀ f,COk P f (Γ f))
  (ho:ops[b]?=some o) (hxo:xop P ops o=some x) (hxd:∀ s,x.dst=some s→s < N) (hp:predsOk ops preds0=true) (he:edgesOk ops=true)
  (hbar:∀ j,b < j→j < ops.size→∃ pre0,preds0[j]?=some pre0∧b∈pre0)
  (hcl0:∀ pre0,preds0[b]?=some pre0→∀ i∈pre0,i < b)
  (hcon:∀ fuel listed r S' a w,listed.size=ops.size→unl ops listed≤fuel→Cl preds0 listed→(∀ i,i < b+1→listed.getD i false=true)→(∀ i,b+1≤i→listed.getD i false=false) →
   K S'→Rel base M N n0 r0 r S' a w→wpAny P .any ops Q fuel listed a w)
  (fuel:Nat) (listed:Array Bool) (r:Rho) (a:Act) (w:World) (hs:listed.size=ops.size) (hu:unl ops listed≤fuel) (hcl:Cl preds0 listed) (hbelow:∀ i,i < b→listed.getD i false=true)
  (habove:∀ i,b≤i→listed.getD i false=false) (h:vcOp Γ x S K) (hr:Rel base M N n0 r0 r S a w):wpAny P .any ops Q fuel listed a w:=by
 have hblt:b < ops.size:=(Array.getElem?_eq_some_iff.1 ho).1
 cases fuel with
 | zero=>have:=unl_pos hs hblt (habove b (Nat.le_refl _)); omega
 | succ fuel=>
  refine ⟨fun hrd=>?_,fun j hj=>?_⟩
  ·have:=ready_nil he hs hrd b hblt
   rw [habove b (Nat.le_refl _)] at this; cases this
  obtain ⟨hun,o',ho',hedge⟩:=mem_ready.1 hj
  have hjlt:j < ops.size:=(Array.getElem?_eq_some_iff.1 ho').1
  have hLj:listed.getD j false=false:=getD_both' hun
  obtain rfl:j=b:=by
   rcases Nat.lt_trichotomy j b with q | q | q
   ·have:=hbelow j q; rw [hLj] at this; cases this
   ·exact q
   ·exfalso
    obtain ⟨pre0,h1,h2⟩:=hbar j q hjlt
    obtain ⟨o2,ho2,e,hee,hb,h3⟩:=predsOk_spec hp h1 h2
    have:o2=o':=Option.some.inj (ho2.symm.trans ho')
    subst this
    have hb2:listed.getD b false=true:=by
     rcases h3 with h3 | ⟨pre',hpre',h3⟩
     ·rw [← h3]; exact hedge e hee hb
     ·exact hcl e.on (hedge e hee hb) pre' hpre' b h3
    rw [habove b (Nat.le_refl _)] at hb2; cases hb2
  have:o'=o:=Option.some.inj (ho'.symm.trans ho)
  subst this
  have key:=vcOp_sound (Q:=Q) (Next:=wpAny P .any ops Q fuel (listed.setIfInBounds j true)) hΓ hxo hxd h hr ?hN
  case hN=>
   intro r' S' a' w' hk hr'
   have hLset:∀ i,i≠j→(listed.setIfInBounds j true).getD i false=listed.getD i false:=fun i hi=>getD_set_ne false (Ne.symm hi)
   have hLat:(listed.setIfInBounds j true).getD j false=true:=by simp [hs,hjlt]
   refine hcon fuel _ r' S' a' w' (by simp [hs]) ?_ ?_ (fun i hi=>?_) (fun i hi=>by rw [hLset i (by omega)]; exact habove i (by omega)) hk hr'
   ·have:=unl_set hjlt hs hun
    omega
   ·intro k hk2 pre hpk i hi
    by_cases hjk:j=k
    ·subst hjk
     exact getD_set_true (hbelow i (hcl0 pre hpk i hi))
    ·rw [getD_set_ne false hjk] at hk2
     exact getD_set_true (hcl k hk2 pre hpk i hi)
   ·rcases Nat.lt_succ_iff_lt_or_eq.1 hi with q | q
    ·exact getD_set_true (hbelow i q)
    ·subst q; exact hLat
  unfold wpOp
  simp only [ho]
  split
  ·rename_i hw; rw [if_pos hw] at key; exact .inl key
  ·rename_i hw; rw [if_neg hw] at key; exact key
theorem wpAny_done {ops:Array Oper} {listed:Array Bool} {Q:Exit→Act→World→Prop} {fuel:Nat} {a:Act} {w:World} (hs:listed.size=ops.size) (hall:∀ i,i < ops.size→listed.getD i false=true) (hq:Q .normal a w) :
  wpAny P .any ops Q fuel listed a w:=by
 have hno:∀ j,j∈Region.ready .any ops listed→False:=by
  intro j hj
  obtain ⟨hun,o,ho,_⟩:=mem_ready.1 hj
  have:=hall j (Array.getElem?_eq_some_iff.1 ho).1
  rw [getD_both' hun] at this; cases this
 cases fuel with
 | zero=>
  refine ⟨?_,hq⟩
  cases hrd:Region.ready .any ops listed with
  | nil=>rfl
  | cons j l=>exact (hno j (by rw [hrd]; exact List.mem_cons_self)).elim
 | succ fuel=>exact ⟨fun _=>hq,fun j hj=>(hno j hj).elim⟩
theorem stL_none:∀ (ts:List Rec) (L:Nat→Bool) (k:Nat) (S:St),(∀ i,k≤i→L i=false)→stL ts L k S=S
 | [],_,_,_,_=>rfl
 | t :: ts,L,k,S,h=>by
  simp only [stL]
  rw [if_neg (by rw [h k (Nat.le_refl _)]; decide)]
  exact stL_none ts L (k+1) S (fun i hi=>h i (by omega))
theorem preds_lt {ops:Array Oper} {preds:List (List Nat)} (hp:predsOk ops preds=true) (he:edgesOk ops=true):∀ (j:Nat) (pre:List Nat),preds[j]?=some pre→∀ i∈pre,i < j:=by
 intro j
 induction j using Nat.strongRecOn with
 | _ j ih=>
  intro pre hj i hi
  obtain ⟨o,ho,e,hee,hb,h1⟩:=predsOk_spec hp hj hi
  have hlt:=edgesOk_spec he ho hee hb
  rcases h1 with h1 | ⟨pre',h2,h3⟩
  ·omega
  ·have:=ih e.on hlt pre' h2 i h3; omega
theorem wpAny_go {Γ:Nat→Con} {ops:Array Oper} {preds0:List (List Nat)} {Q:Exit→Act→World→Prop} {K:St→Prop} (hΓ:∀ f,COk P f (Γ f)) (hp:predsOk ops preds0=true) (he:edgesOk ops=true) (hlen:preds0.length=ops.size)
  (hQ:∀ r S a w,K S→Rel base M N n0 r0 r S a w→Q .normal a w) :
  ∀ (n:Nat) (l:List XOper) (lo:Nat) (preds:List (List Nat)) (S:St),l.length≤n→vcDgo Γ preds l S.next (S.next+nRes l) ⟨S.env,S.ents,S.next+nRes l⟩ [] K →
   (∀ j o,j < l.length→ops[lo+j]?=some o→∃ x,l[j]?=some x∧xop P ops o=some x∧∀ s,x.dst=some s→s < N)→lo+l.length=ops.size→Sh lo preds preds0 →
   ∀ (fuel:Nat) (listed:Array Bool) (r:Rho) (a:Act) (w:World),listed.size=ops.size→unl ops listed≤fuel→Cl preds0 listed→(∀ i,i < lo→listed.getD i false=true)→(∀ i,lo≤i→listed.getD i false=false) →
    Rel base M N n0 r0 r S a w→wpAny P .any ops Q fuel listed a w:=by
 intro n
 induction n with
 | zero=>
  intro l lo preds S hl h hx hlo hSh fuel listed r a w hs hu hcl hbelow habove hr
  have:l=[]:=List.eq_nil_of_length_eq_zero (by omega)
  subst this
  simp only [vcDgo] at h
  refine wpAny_done hs (fun i hi=>hbelow i (by simp at hlo; omega)) (hQ r _ a w h.2.2 ?_)
  exact hr.congr (fun _=>rfl) (fun _=>rfl) (by simp [nRes])
 | succ n ih=>
  intro l lo preds S hl h hx hlo hSh fuel listed r a w hs hu hcl hbelow habove hr
  have hrel0:Rel base M N n0 r0 r ⟨S.env,S.ents,S.next+nRes l⟩ a w :=
   ⟨hr.defers,hr.tmps,hr.slot,hr.heap,fun s v hv=>SV.sc_mono (upto_mono (Nat.le_add_right _ _)) (hr.scE s v hv),
    fun i e hie=>⟨Nat.lt_of_lt_of_le (hr.scH i e hie).1 (Nat.le_add_right _ _),Ent.sc_mono (upto_mono (Nat.le_add_right _ _)) (hr.scH i e hie).2⟩,Nat.le_trans hr.low (Nat.le_add_right _ _),hr.keep⟩
  have hsc0:InSc (upto S.next) ⟨S.env,S.ents,S.next+nRes l⟩:=⟨hr.scE,hr.scH⟩
  have hpg:∀ j,j < ops.size→∃ pre0,preds0[j]?=some pre0:=fun j hj=>⟨preds0[j]'(by omega),List.getElem?_eq_getElem (by omega)⟩
  rcases run_of_vcDgo h with ⟨ts,c',S',hrun,hc',hind,hK⟩ | ⟨l1,x,l2,rfl,ts,c',S',hrun,hc',hn,hind,hb,hK⟩
  ·refine wpAny_seg hΓ hx (by omega) hrun (Nat.le_add_right _ _) hc' hSh (by simpa using hind) hp he (fun j h1 h2=>by omega) hr.low hsc0 (fun fuel listed r' a' w' hs' hu' _ hall _ hr'=>wpAny_done hs' (fun i hi=>hall i (by omega)) (hQ r' S' a' w' hK hr')) fuel listed r a w hs hu hcl hbelow (fun i hi=>habove i (by omega)) ?_ ?_
   ·rw [stL_none _ _ _ _ (fun i hi=>habove i hi)]; exact hrel0
   ·intro k t ht _
    rw [stL_none _ _ _ _ (fun i hi=>habove i hi)]
    obtain ⟨y,hy⟩:∃ y,l[k]?=some y:=by
     have:k < l.length:=by rw [← hrun.len]; exact (List.getElem?_eq_some_iff.1 ht).1
     exact ⟨l[k],List.getElem?_eq_getElem this⟩
    obtain ⟨_,h1,_⟩:=hrun.at hΓ 0 k t y hsc0 hc' ht hy
    exact hsc0.mono (fun i hi=>by have:i < S.next:=hi; unfold nw; omega)
  ·simp only [List.length_append,List.length_cons] at hlo hl
   simp only [lenF,Nat.zero_add] at hb hK
   have hbar:=hSh.bar hb
   obtain ⟨ob,hob⟩:∃ o,ops[lo+l1.length]?=some o:=⟨ops[lo+l1.length]'(by omega),Array.getElem?_eq_getElem (by omega)⟩
   obtain ⟨x',hx1,hxo,hxd⟩:=hx l1.length ob (by simp) hob
   have hxx:x'=x:=by
    rw [List.getElem?_append_right (Nat.le_refl _),Nat.sub_self] at hx1
    simpa using hx1.symm
   subst hxx
   refine wpAny_seg (base:=base) (M:=M) (N:=N) (r0:=r0) (xl:=l1) hΓ (fun j o hj ho=>?_) (by omega) hrun (Nat.le_add_right _ _) hc' hSh (by simpa using hind) hp he (fun j h1 h2=>?_) hr.low hsc0 (fun fuel listed r' a' w' hs' hu' hcl' hall hab hr'=>?_) fuel listed r a w hs hu hcl hbelow (fun i hi=>habove i (by omega)) ?_ ?_
   ·obtain ⟨y,h1,h2⟩:=hx j o (by simp; omega) ho
    rw [List.getElem?_append_left hj] at h1
    exact ⟨y,h1,h2⟩
   ·obtain ⟨pre0,hp0⟩:=hpg j h2
    refine ⟨pre0,hp0,?_⟩
    rcases Nat.eq_or_lt_of_le h1 with q | q
    ·subst q; exact .inl (hbar.1 pre0 hp0)
    ·exact .inr ⟨lo+l1.length,Nat.le_refl _,hbar.2 j pre0 q hp0⟩
   ·refine wpAny_one (b:=lo+l1.length) hΓ hob hxo hxd hp he (fun j h1 h2=>?_) (preds_lt hp he _) (fun fuel listed r2 S2 a2 w2 hs2 hu2 hcl2 hb2 ha2 hk2 hr2=>?_) fuel listed r' a' w' hs' hu' hcl' hall hab hK hr'
    ·obtain ⟨pre0,hp0⟩:=hpg j h2
     exact ⟨pre0,hp0,hbar.2 j pre0 h1 hp0⟩
    ·refine ih l2 (lo+(l1.length+1)) _ S2 (by omega) hk2 (fun j o hj ho=>?_) (by omega) (hSh.step (l1.length+1)) fuel listed r2 a2 w2 hs2 hu2 hcl2 (fun i hi=>hb2 i (by omega)) (fun i hi=>ha2 i (by omega)) hr2
     obtain ⟨y,h1,h2⟩:=hx (l1.length+1+j) o (by simp; omega) (by rw [show lo+(l1.length+1+j)=lo+(l1.length+1)+j by omega]; exact ho)
     rw [List.getElem?_append_right (by omega),show l1.length+1+j - l1.length=j+1 by omega] at h1
     exact ⟨y,by simpa using h1,h2⟩
   ·rw [stL_none _ _ _ _ (fun i hi=>habove i hi)]; exact hrel0
   ·intro k t ht _
    rw [stL_none _ _ _ _ (fun i hi=>habove i hi)]
    obtain ⟨y,hy⟩:∃ y,l1[k]?=some y:=by
     have:k < l1.length:=by rw [← hrun.len]; exact (List.getElem?_eq_some_iff.1 ht).1
     exact ⟨l1[k],List.getElem?_eq_getElem this⟩
    obtain ⟨_,h1,_⟩:=hrun.at hΓ 0 k t y hsc0 hc' ht hy
    exact hsc0.mono (fun i hi=>by have:i < S.next:=hi; unfold nw; omega)
theorem lenX_eq:∀ l:List XOper,lenX l=l.length
 | []=>rfl
 | _ :: l=>by simp [lenX,lenX_eq l]
theorem allR_spec {lo:Nat} {l:List Nat}:∀ {k:Nat},allR lo k l=true→∀ i,lo≤i→i < lo+k→i∈l
 | 0,_,i,h1,h2=>by omega
 | k+1,h,i,h1,h2=>by
  simp only [allR,Bool.and_eq_true] at h
  rcases (by omega:i < lo+k∨i=lo+k) with q | q
  ·exact allR_spec h.2 i h1 q
  ·subst q; exact memN_iff.1 h.1
theorem barR_spec {lo n:Nat}:∀ {ls:List (List Nat)},barR lo n ls=true→∀ l∈ls,∀ i,lo≤i→i < lo+n→i∈l
 | [],_,l,hl=>by cases hl
 | a :: ls,h,l,hl=>by
  simp only [barR,Bool.and_eq_true] at h
  rcases List.mem_cons.1 hl with rfl | q
  ·exact allR_spec h.1
  ·exact barR_spec h.2 l q
theorem barR_at {lo n m:Nat} {preds:List (List Nat)} (h:barR lo n (dropN m preds)=true) {j:Nat} {pre:List Nat} (hj:m≤j) (hp:preds[j]?=some pre):∀ i,lo≤i→i < lo+n→i∈pre:=by
 refine barR_spec h pre ?_
 rw [dropN_eq]
 refine List.mem_of_getElem? (i:=j - m) ?_
 rw [List.getElem?_drop,show m+(j - m)=j by omega]
 exact hp
theorem rdyB_true {pre:List Nat}:∀ {ks:List Nat},(∀ k∈ks,k ∉ pre)→rdyB ks pre=true
 | [],_=>rfl
 | k :: l,h=>by
  simp only [rdyB,Bool.and_eq_true,Bool.not_eq_true']
  refine ⟨?_,rdyB_true fun i hi=>h i (List.mem_cons_of_mem _ hi)⟩
  cases hm:memN k pre with
  | false=>rfl
  | true=>exact absurd (memN_iff.1 hm) (h k List.mem_cons_self)
theorem vcAllL_at {f:Nat→XOper→Prop}:∀ {l:List (Nat × XOper)},vcAllL f l→∀ j x,(j,x)∈l→f j x
 | [],_,j,x,h=>by cases h
 | (i,y) :: l,h,j,x,hm=>by
  simp only [vcAllL] at h
  rcases List.mem_cons.1 hm with q | q
  ·cases q; exact h.1
  ·exact vcAllL_at h.2 j x q
theorem keysX_mem {j:Nat}:∀ {l:List (Nat × XOper)},j∈keysX l ↔ ∃ x,(j,x)∈l
 | []=>by simp [keysX]
 | (i,y) :: l=>by
  simp only [keysX,List.mem_cons,keysX_mem (l:=l),Prod.mk.injEq]
  constructor
  ·rintro (rfl | ⟨x,hx⟩)
   ·exact ⟨y,.inl ⟨rfl,rfl⟩⟩
   ·exact ⟨x,.inr hx⟩
  ·rintro ⟨x,⟨rfl,_⟩ | hx⟩
   ·exact .inl rfl
   ·exact .inr ⟨x,hx⟩
theorem delN_mem {j:Nat} {z:Nat × XOper}:∀ {l:List (Nat × XOper)},z∈delN j l→z∈l
 | [],h=>by simp [delN] at h
 | (i,y) :: l,h=>by
  simp only [delN] at h
  split at h
  ·exact List.mem_cons_of_mem _ h
  ·rcases List.mem_cons.1 h with q | q
   ·exact List.mem_cons.2 (.inl q)
   ·exact List.mem_cons_of_mem _ (delN_mem q)
theorem delN_keys {j:Nat}:∀ {l:List (Nat × XOper)},(keysX l).Nodup→∀ i,i∈keysX (delN j l) ↔ i∈keysX l∧i≠j
 | [],_,i=>by simp [delN,keysX]
 | (k,y) :: l,hn,i=>by
  simp only [keysX,List.nodup_cons] at hn
  simp only [delN]
  split
  ·rename_i hk
   subst hk
   simp only [keysX,List.mem_cons]
   constructor
   ·intro h; exact ⟨.inr h,fun e=>hn.1 (e ▸ h)⟩
   ·rintro ⟨rfl | h,hne⟩
    ·exact absurd rfl hne
    ·exact h
  ·rename_i hk
   simp only [keysX,List.mem_cons,delN_keys hn.2 i]
   constructor
   ·rintro (rfl | ⟨h1,h2⟩)
    ·exact ⟨.inl rfl,hk⟩
    ·exact ⟨.inr h1,h2⟩
   ·rintro ⟨rfl | h1,h2⟩
    ·exact .inl rfl
    ·exact .inr ⟨h1,h2⟩
theorem delN_nodup {j:Nat}:∀ {l:List (Nat × XOper)},(keysX l).Nodup→(keysX (delN j l)).Nodup
 | [],_=>by simp [delN,keysX]
 | (k,y) :: l,hn=>by
  simp only [keysX,List.nodup_cons] at hn
  simp only [delN]
  split
  ·exact hn.2
  ·simp only [keysX,List.nodup_cons]
   exact ⟨fun h=>hn.1 ((delN_keys hn.2 k).1 h).1,delN_nodup hn.2⟩
theorem numX_mem {j:Nat} {x:XOper}:∀ {l:List XOper} {k:Nat},(j,x)∈numX k l→k≤j∧l[j - k]?=some x
 | [],_,h=>by simp [numX] at h
 | y :: l,k,h=>by
  simp only [numX,List.mem_cons,Prod.mk.injEq] at h
  rcases h with ⟨rfl,rfl⟩ | h
  ·simp
  ·obtain ⟨h1,h2⟩:=numX_mem h
   refine ⟨by omega,?_⟩
   rw [show j - k=(j - (k+1))+1 by omega]
   simpa using h2
theorem numX_keys:∀ {l:List XOper} {k i:Nat},i∈keysX (numX k l) ↔ k≤i∧i < k+l.length
 | [],k,i=>by simp [numX,keysX]
 | y :: l,k,i=>by
  simp only [numX,keysX,List.mem_cons,numX_keys (l:=l),List.length_cons]
  omega
theorem numX_nodup:∀ {l:List XOper} {k:Nat},(keysX (numX k l)).Nodup
 | [],k=>by simp [numX,keysX]
 | y :: l,k=>by
  simp only [numX,keysX,List.nodup_cons]
  exact ⟨fun h=>by have:=(numX_keys.1 h).1; omega,numX_nodup⟩
theorem wpAny_all {Γ:Nat→Con} {ops:Array Oper} {hi:Nat} {K:St→Prop} {preds0:List (List Nat)} {Q:Exit→Act→World→Prop} (hΓ:∀ f,COk P f (Γ f)) (hp:predsOk ops preds0=true) (he:edgesOk ops=true) (hhs:hi≤ops.size)
  (hhi:∀ j,hi≤j→j < ops.size→∃ pre0,preds0[j]?=some pre0) (hlen:preds0.length=ops.size)
  (hcon:∀ fuel listed r S' a w,listed.size=ops.size→unl ops listed≤fuel→Cl preds0 listed→(∀ i,i < hi→listed.getD i false=true)→(∀ i,hi≤i→listed.getD i false=false) →
   K S'→Rel base M N n0 r0 r S' a w→wpAny P .any ops Q fuel listed a w) :
  ∀ (n:Nat) (pend:List (Nat × XOper)) (S:St),vcAll Γ preds0 n pend S K→(keysX pend).Nodup→(∀ j x,(j,x)∈pend→j < hi∧∃ o,ops[j]?=some o∧xop P ops o=some x∧∀ s,x.dst=some s→s < N) →
   (∀ j,hi≤j→∀ pre0,preds0[j]?=some pre0→∀ i∈keysX pend,i∈pre0) →
   ∀ (fuel:Nat) (listed:Array Bool) (r:Rho) (a:Act) (w:World),listed.size=ops.size→unl ops listed≤fuel→Cl preds0 listed→(∀ i,i < hi→(listed.getD i false=false ↔ i∈keysX pend))→(∀ i,hi≤i→listed.getD i false=false) →
    Rel base M N n0 r0 r S a w→wpAny P .any ops Q fuel listed a w:=by
 intro n
 induction n with
 | zero=>
  intro pend S h hnd hgood hw fuel listed r a w hs hu hcl hin hab hr
  cases pend with
  | nil=>
   refine hcon fuel listed r S a w hs hu hcl (fun i hi=>?_) hab (by simpa [vcAll] using h) hr
   cases hl:listed.getD i false with
   | true=>rfl
   | false=>have:=(hin i hi).1 hl; simp [keysX] at this
  | cons q l=>simp only [vcAll] at h
 | succ n ih=>
  intro pend S h hnd hgood hw fuel listed r a w hs hu hcl hin hab hr
  cases pend with
  | nil=>
   refine hcon fuel listed r S a w hs hu hcl (fun i hi=>?_) hab (by simpa [vcAll] using h) hr
   cases hl:listed.getD i false with
   | true=>rfl
   | false=>have:=(hin i hi).1 hl; simp [keysX] at this
  | cons q l=>
   simp only [vcAll] at h
   have hq:q.1∈keysX (q :: l):=by obtain ⟨q1,q2⟩:=q; simp [keysX]
   obtain ⟨xq,hxq⟩:=keysX_mem.1 hq
   have hqhi:=(hgood _ _ hxq).1
   have hqun:=(hin _ hqhi).2 hq
   cases fuel with
   | zero=>have:=unl_pos hs (by omega) hqun; omega
   | succ fuel=>
    refine ⟨fun hrd=>?_,fun j hj=>?_⟩
    ·have:=ready_nil he hs hrd q.1 (by omega)
     rw [hqun] at this; cases this
    obtain ⟨hun,o',ho',hedge⟩:=mem_ready.1 hj
    have hjlt:j < ops.size:=(Array.getElem?_eq_some_iff.1 ho').1
    have hLj:listed.getD j false=false:=getD_both' hun
    have hpre0:∀ prej,preds0[j]?=some prej→∀ i∈prej,listed.getD i false=true:=by
     intro prej hprej i hi
     obtain ⟨o2,ho2,e,hee,hb,h1⟩:=predsOk_spec hp hprej hi
     have:o2=o':=Option.some.inj (ho2.symm.trans ho')
     subst this
     rcases h1 with h1 | ⟨pre',hpre',h1⟩
     ·rw [← h1]; exact hedge e hee hb
     ·exact hcl e.on (hedge e hee hb) pre' hpre' i h1
    have hjhi:j < hi:=by
     rcases Nat.lt_or_ge j hi with q1 | q1
     ·exact q1
     ·obtain ⟨pre0,hpr⟩:=hhi j q1 hjlt
      have:=hpre0 pre0 hpr q.1 (hw j q1 pre0 hpr q.1 hq)
      rw [hqun] at this; cases this
    have hjk:=(hin j hjhi).1 hLj
    obtain ⟨x,hxm⟩:=keysX_mem.1 hjk
    obtain ⟨_,o,ho,hxo,hxd⟩:=hgood j x hxm
    have:o'=o:=Option.some.inj (ho'.symm.trans ho)
    subst this
    have hf:=vcAllL_at h j x hxm
    obtain ⟨pre0,hpr⟩:∃ pre0,preds0[j]?=some pre0:=⟨preds0[j]'(by omega),List.getElem?_eq_getElem (by omega)⟩
    have hrdy:rdyB (keysX (q :: l)) (nthP j preds0)=true:=by
     refine rdyB_true fun k hk hm=>?_
     rw [nthP_eq,List.getD_eq_getElem?_getD,hpr,Option.getD_some] at hm
     have h1:=hpre0 pre0 hpr k hm
     obtain ⟨xk,hxk⟩:=keysX_mem.1 hk
     rw [(hin k (hgood _ _ hxk).1).2 hk] at h1
     cases h1
    rw [hrdy] at hf
    simp only at hf
    have key:=vcOp_sound (Q:=Q) (Next:=wpAny P .any ops Q fuel (listed.setIfInBounds j true)) hΓ hxo hxd hf hr ?hN
    case hN=>
     intro r' S' a' w' hk hr'
     have hLset:∀ i,i≠j→(listed.setIfInBounds j true).getD i false=listed.getD i false:=fun i hi=>getD_set_ne false (Ne.symm hi)
     have hLat:(listed.setIfInBounds j true).getD j false=true:=by simp [hs,hjlt]
     refine ih (delN j (q :: l)) S' hk (delN_nodup hnd) (fun i y hm=>hgood i y (delN_mem hm)) (fun i hi pre hpi k hk2=>hw i hi pre hpi k ((delN_keys hnd k).1 hk2).1) fuel _ r' a' w' (by simp [hs]) ?_ ?_ (fun i hi=>?_) (fun i hi=>by rw [hLset i (by omega)]; exact hab i hi) hr'
     ·have:=unl_set hjlt hs hun
      omega
     ·intro k hk2 pre hpk i hi
      by_cases hjk:j=k
      ·subst hjk
       exact getD_set_true (hpre0 pre hpk i hi)
      ·rw [getD_set_ne false hjk] at hk2
       exact getD_set_true (hcl k hk2 pre hpk i hi)
     ·rw [delN_keys hnd i]
      by_cases hij:i=j
      ·subst hij
       rw [hLat]
       simp
      ·rw [hLset i hij,hin i hi]
       exact ⟨fun h=>⟨h,hij⟩,fun h=>h.1⟩
    unfold wpOp
    simp only [ho]
    split
    ·rename_i hw; rw [if_pos hw] at key; exact .inl key
    ·rename_i hw; rw [if_neg hw] at key; exact key
theorem wpAny_G {Γ:Nat→Con} {ops:Array Oper} {preds0:List (List Nat)} {Q:Exit→Act→World→Prop} {K:St→Prop} {A B C:List XOper} (hΓ:∀ f,COk P f (Γ f)) (hp:predsOk ops preds0=true) (he:edgesOk ops=true) (hlen:preds0.length=ops.size)
  (hQ:∀ r S a w,K S→Rel base M N n0 r0 r S a w→Q .normal a w) (h:vcG Γ preds0 A B C S K)
  (hx:∀ j o,j < (A++B++C).length→ops[j]?=some o→∃ x,(A++B++C)[j]?=some x∧xop P ops o=some x∧∀ s,x.dst=some s→s < N) (hsz:(A++B++C).length=ops.size)
  (hr:Rel base M N n0 r0 r S a w) (fuel:Nat) (listed:Array Bool) (hs:listed.size=ops.size) (hu:unl ops listed≤fuel) (hcl:Cl preds0 listed) (hab:∀ i,listed.getD i false=false):wpAny P .any ops Q fuel listed a w:=by
 unfold vcG at h
 obtain ⟨ts,c',S1,hrun,hc,hind,hbA,hbB,hall⟩:=vcRun_run h
 simp only [List.nil_append] at hind
 rw [lenX_eq] at hbA
 rw [lenX_eq,lenX_eq] at hbB hall
 simp only [List.length_append] at hsz
 have hSh:Sh 0 preds0 preds0:=fun j=>by
  rw [Nat.zero_add]
  cases hj:preds0[j]? with
  | none=>exact .inl ⟨rfl,rfl⟩
  | some p=>exact .inr ⟨p,p,rfl,rfl,fun i hi=>by rw [Nat.zero_add]; exact hi⟩
 have hrel0:Rel base M N n0 r0 r ⟨S.env,S.ents,S.next+nRes A⟩ a w :=
  ⟨hr.defers,hr.tmps,hr.slot,hr.heap,fun s v hv=>SV.sc_mono (upto_mono (Nat.le_add_right _ _)) (hr.scE s v hv),
   fun i e hie=>⟨Nat.lt_of_lt_of_le (hr.scH i e hie).1 (Nat.le_add_right _ _),Ent.sc_mono (upto_mono (Nat.le_add_right _ _)) (hr.scH i e hie).2⟩,Nat.le_trans hr.low (Nat.le_add_right _ _),hr.keep⟩
 have hsc0:InSc (upto S.next) ⟨S.env,S.ents,S.next+nRes A⟩:=⟨hr.scE,hr.scH⟩
 have hpg:∀ j,j < ops.size→∃ pre0,preds0[j]?=some pre0:=fun j hj=>⟨preds0[j]'(by omega),List.getElem?_eq_getElem (by omega)⟩
 refine wpAny_seg (base:=base) (M:=M) (N:=N) (r0:=r0) (lo:=0) (xl:=A) hΓ (fun j o hj ho=>?_) (by omega) hrun (Nat.le_add_right _ _) hc hSh hind hp he (fun j h1 h2=>?_) hr.low hsc0 (fun fuel listed r' a' w' hs' hu' hcl' hall' hab' hr'=>?_) fuel listed r a w hs hu hcl (fun i hi=>by omega) (fun i _=>hab i) ?_ ?_
 ·rw [Nat.zero_add] at ho
  obtain ⟨y,h1,h2⟩:=hx j o (by simp; omega) ho
  rw [List.append_assoc,List.getElem?_append_left hj] at h1
  exact ⟨y,h1,h2⟩
 ·obtain ⟨pre0,hp0⟩:=hpg j h2
  exact ⟨pre0,hp0,.inl fun i g1 g2=>barR_at hbA (by omega) hp0 i g1 (by omega)⟩
 ·rw [Nat.zero_add] at hall' hab'
  refine wpAny_all (base:=base) (M:=M) (N:=N) (n0:=n0) (r0:=r0) (hi:=A.length+B.length) hΓ hp he (by omega) (fun j _ hj=>hpg j hj) hlen (fun fuel listed r2 S2 a2 w2 hs2 hu2 hcl2 hb2 ha2 hk2 hr2=>?_) B.length (numX A.length B) S1 hall numX_nodup (fun j x hm=>?_) (fun j hj pre0 hpj i hi=>?_) fuel listed r' a' w' hs' hu' hcl' (fun i hi=>?_) (fun i hi=>hab' i (by omega)) hr'
  ·refine wpAny_go hΓ hp he hlen hQ C.length C (A.length+B.length) _ S2 (Nat.le_refl _) hk2 (fun j o hj ho=>?_) (by omega) (by have:=hSh.step (A.length+B.length); rwa [Nat.zero_add] at this) fuel listed r2 a2 w2 hs2 hu2 hcl2 hb2 ha2 hr2
   obtain ⟨y,h1,h2⟩:=hx (A.length+B.length+j) o (by simp; omega) ho
   rw [List.getElem?_append_right (by simp)] at h1
   simp only [List.length_append,Nat.add_sub_cancel_left] at h1
   exact ⟨y,h1,h2⟩
  ·obtain ⟨h1,h2⟩:=numX_mem hm
   have hlt:j - A.length < B.length:=(List.getElem?_eq_some_iff.1 h2).1
   refine ⟨by omega,ops[j]'(by omega),Array.getElem?_eq_getElem (by omega),?_⟩
   obtain ⟨y,g1,g2⟩:=hx j (ops[j]'(by omega)) (by simp; omega) (Array.getElem?_eq_getElem (by omega))
   rw [List.getElem?_append_left (by simp; omega),List.getElem?_append_right h1,h2] at g1
   cases g1
   exact g2
  ·have:=numX_keys.1 hi
   exact barR_at hbB hj hpj i this.1 this.2
  ·rw [numX_keys]
   rcases Nat.lt_or_ge i A.length with q | q
   ·rw [hall' i q]; simp; omega
   ·rw [hab' i q]; simp; omega
 ·rw [stL_none _ _ _ _ (fun i _=>hab i)]; exact hrel0
 ·intro k t ht _
  rw [stL_none _ _ _ _ (fun i _=>hab i)]
  obtain ⟨y,hy⟩:∃ y,A[k]?=some y:=by
   have:k < A.length:=by rw [← hrun.len]; exact (List.getElem?_eq_some_iff.1 ht).1
   exact ⟨A[k],List.getElem?_eq_getElem this⟩
  obtain ⟨_,h1,_⟩:=hrun.at hΓ 0 k t y hsc0 hc ht hy
  exact hsc0.mono (fun i hi=>by have:i < S.next:=hi; unfold nw; omega)
end
end Go.Sx
