/- A part of the proof of a statement about this seat: how a function is stepped through, and plain laws. No conditions. -/
import Derived.Test.YtgpbokembopapaaGreatRows
import Derived.Test.YtgpbokembopapaaGreatFLSz4
import Derived.Test.YtgpbokembopapaaGreatFLM4
import Derived.KernelRfl
set_option linter.unusedVariables false
set_option linter.unusedSimpArgs false
set_option maxRecDepth 20000
namespace Go.Proofs.YtgpbokembopapaaGreat
open Go.Sx Go.Way
theorem up_nodup {A:List EE} (h:valE A=true):(A.map keyE).Nodup:=by
 rw [← diffL_nodup]
 exact (valE_up h).imp fun {a b} hab h0=>by omega
section
open Go.Sx
end
theorem flat_le {α β:Type} (f:α→List β) (O:List α) (k:Nat):((O.take k).flatMap f).length≤(O.flatMap f).length:=by
 conv=>rhs; rw [← List.take_append_drop k O]
 rw [List.flatMap_append,List.length_append]; omega
theorem valE_srt {T:List EE} (hd:(T.map keyE).Nodup) (hg:∀ e∈T,goodE e=true) (hl:T.length≤1048576):valE (srtL cmpE T)=true:=by
 have hs:=srtL_sorted ord_E T
 have hd2:=diffL_perm ord_E ((diffL_nodup _).2 hd) (srtL_perm (cf:=cmpE) T)
 have hm:∀ e∈srtL cmpE T,goodE e=true:=fun e he=>hg e ((srtL_perm _).mem_iff.1 he)
 have hln:=srtL_len (cf:=cmpE) T
 generalize srtL cmpE T=L at *
 unfold valE
 rw [Bool.and_eq_true,decide_eq_true_eq,decide_eq_true_eq]
 refine ⟨fun k hk=>?_,by omega⟩
 unfold okE
 rw [Bool.and_eq_true,Bool.or_eq_true,decide_eq_true_eq,decide_eq_true_eq]
 refine ⟨hm _ (getE_mem hk),?_⟩
 rcases Nat.eq_zero_or_pos k with g | g
 ·exact .inl g
 ·right
  have g1:=List.pairwise_iff_getElem.1 hs (k - 1) k (by omega) hk (by omega)
  have g2:=List.pairwise_iff_getElem.1 hd2 (k - 1) k (by omega) hk (by omega)
  unfold leI at g1
  rw [decide_eq_true_eq] at g1
  rw [List.getD_eq_getElem?_getD,List.getD_eq_getElem?_getD,List.getElem?_eq_getElem hk,List.getElem?_eq_getElem (show k - 1 < L.length by omega)]
  simp only [Option.getD_some]
  omega
def cellE (e:EE):Prop:=(-16384≤e.X∧e.X≤16384)∧-16384≤e.Y∧e.Y≤16384
theorem addL_cell {T:List EE} (hT:∀ e∈T,cellE e):∀ {L:List EE},(∀ e∈L,cellE e)→∀ e∈addL T L,cellE e
 | [],_=>hT
 | a :: L,hL=>by
  have ha:=hL a (by simp)
  exact addL_cell (T:=addT T a.X a.Y a.H a.P) (addT_all hT ha (fun e _ _=>ha)) (fun e he=>hL e (by simp [he]))
theorem good_of {e:EE} (h1:cntB e=true) (h2:posE e) (h3:cellE e):goodE e=true:=by
 obtain ⟨p1,p2,p3⟩:=h2
 obtain ⟨c1,c2⟩:=h3
 unfold goodE winB
 rw [h1]
 simp only [Bool.true_and,Bool.and_eq_true,decide_eq_true_eq]
 exact ⟨⟨by omega,c1⟩,c2⟩
end Go.Proofs.YtgpbokembopapaaGreat
