/- A part of the proof of a statement about this seat: how a function is stepped through, and plain laws. No conditions. -/
import Derived.Test.YtgpbokembopapaaGreatRows
import Derived.Test.YtgpbokembopapaaGreatFLSz4
import Derived.Test.YtgpbokembopapaaGreatFLU1
import Derived.KernelRfl
set_option linter.unusedVariables false
set_option linter.unusedSimpArgs false
set_option maxRecDepth 20000
namespace Go.Proofs.YtgpbokembopapaaGreat
open Go.Sx Go.Way
theorem cmpI_cases (x y:Int):(cmpI x y=-1∧x < y)∨(cmpI x y=0∧x=y)∨(cmpI x y=1∧y < x):=by
 unfold cmpI
 rcases Int.lt_trichotomy x y with h | h | h
 ·rw [if_pos h]; exact .inl ⟨rfl,h⟩
 ·rw [if_neg (by omega),if_neg (by omega)]; exact .inr (.inl ⟨rfl,h⟩)
 ·rw [if_neg (by omega),if_pos h]; exact .inr (.inr ⟨rfl,h⟩)
theorem cmpC_cases (ax ay bx by_:Int):(cmpC ax ay bx by_=-1∧(ay < by_∨ay=by_∧ax < bx))∨(cmpC ax ay bx by_=0∧ay=by_∧ax=bx)∨(cmpC ax ay bx by_=1∧(by_ < ay∨ay=by_∧bx < ax)):=by
 have e:cmpC ax ay bx by_=if cmpI ay by_≠0 then cmpI ay by_ else if cmpI ax bx≠0 then cmpI ax bx else 0:=rfl
 rw [e]
 rcases cmpI_cases ay by_ with ⟨h,g⟩ | ⟨h,g⟩ | ⟨h,g⟩<;>rcases cmpI_cases ax bx with ⟨h2,g2⟩ | ⟨h2,g2⟩ | ⟨h2,g2⟩<;>rw [h,h2]<;>simp<;>omega
theorem ord_E:OrdI cmpE where
 anti x y:=by
  unfold cmpE
  have h1:=cmpC_cases x.X x.Y y.X y.Y
  have h2:=cmpC_cases y.X y.Y x.X x.Y
  omega
 trans x y z h1 h2:=by
  unfold cmpE at *
  have a1:=cmpC_cases x.X x.Y y.X y.Y
  have a2:=cmpC_cases y.X y.Y z.X z.Y
  have a3:=cmpC_cases x.X x.Y z.X z.Y
  omega
section
open Go.Shelf
def sortE_ren:Go.Shelf.Ren:=⟨fun | 6=>58 | 15=>104 | 14=>103 | 28=>141 | 29=>142 | 20=>133 | 21=>134 | 22=>135 | 23=>136 | 24=>137 | 25=>138 | 26=>139 | 27=>140 | 46=>154 | 47=>155 | 48=>156 | 49=>157 | 50=>158 | 57=>166 | n=>n,fun | 22=>39 | 24=>119 | 25=>123 | 3=>3 | 39=>173 | 0=>0 | 53=>207 | 55=>165 | 4=>4 | 46=>200 | 45=>199 | 50=>204 | 5=>5 | 9=>9 | 66=>222 | 70=>226 | 76=>231 | 77=>57 | n=>n,fun | n=>n⟩
theorem sortE:Go.Proofs.SlLaysF0.n6 Tryz.prog sortE_ren:={
 mixed:=by kernel_rfl
 f6:=⟨Tryz.f58.name,by decide,Tryz.func58.trans (congrArg some (by kernel_rfl))⟩
 f14:=⟨Tryz.f103.name,by decide,Tryz.func103.trans (congrArg some (by kernel_rfl))⟩
 f15:=Tryz.func104.trans (congrArg some (by kernel_rfl))
 f20:=⟨Tryz.f133.name,by decide,Tryz.func133.trans (congrArg some (by kernel_rfl))⟩
 f21:=⟨Tryz.f134.name,by decide,Tryz.func134.trans (congrArg some (by kernel_rfl))⟩
 f22:=⟨Tryz.f135.name,by decide,Tryz.func135.trans (congrArg some (by kernel_rfl))⟩
 f23:=⟨Tryz.f136.name,by decide,Tryz.func136.trans (congrArg some (by kernel_rfl))⟩
 f24:=⟨Tryz.f137.name,by decide,Tryz.func137.trans (congrArg some (by kernel_rfl))⟩
 f25:=⟨Tryz.f138.name,by decide,Tryz.func138.trans (congrArg some (by kernel_rfl))⟩
 f26:=⟨Tryz.f139.name,by decide,Tryz.func139.trans (congrArg some (by kernel_rfl))⟩
 f27:=⟨Tryz.f140.name,by decide,Tryz.func140.trans (congrArg some (by kernel_rfl))⟩
 f28:=Tryz.func141.trans (congrArg some (by kernel_rfl))
 f29:=Tryz.func142.trans (congrArg some (by kernel_rfl))
 f46:=⟨Tryz.f154.name,by decide,Tryz.func154.trans (congrArg some (by kernel_rfl))⟩
 f47:=Tryz.func155.trans (congrArg some (by kernel_rfl))
 f48:=Tryz.func156.trans (congrArg some (by kernel_rfl))
 f49:=⟨Tryz.f157.name,by decide,Tryz.func157.trans (congrArg some (by kernel_rfl))⟩
 f50:=⟨Tryz.f158.name,by decide,Tryz.func158.trans (congrArg some (by kernel_rfl))⟩
 f57:=⟨Tryz.f166.name,by decide,Tryz.func166.trans (congrArg some (by kernel_rfl))⟩
 t0:=Tryz.underlying0
 a0:=Tryz.isAgg0
 z0:=Tryz.sizeOf0
 v0:=Tryz.zeroValue0
 t3:=Tryz.underlying3
 a3:=Tryz.isAgg3
 z3:=Tryz.sizeOf3
 v3:=Tryz.zeroValue3
 t4:=Tryz.underlying4
 a4:=Tryz.isAgg4
 z4:=Tryz.sizeOf4
 v4:=Tryz.zeroValue4
 t5:=Tryz.underlying5
 a5:=Tryz.isAgg5
 z5:=Tryz.sizeOf5
 v5:=Tryz.zeroValue5
 t9:=Tryz.underlying9
 a9:=Tryz.isAgg9
 z9:=Tryz.sizeOf9
 v9:=Tryz.zeroValue9
 t22:=Tryz.underlying39
 a22:=Tryz.isAgg39
 z22:=Tryz.sizeOf39
 v22:=Tryz.zeroValue39
 t25:=Tryz.underlying123
 a25:=Tryz.isAgg123
 z25:=Tryz.sizeOf123
 v25:=Tryz.zeroValue123
 t39:=Tryz.underlying173
 a39:=Tryz.isAgg173
 z39:=Tryz.sizeOf173
 v39:=Tryz.zeroValue173
 t45:=Tryz.underlying199
 a45:=Tryz.isAgg199
 z45:=Tryz.sizeOf199
 v45:=Tryz.zeroValue199
 t46:=Tryz.underlying200
 a46:=Tryz.isAgg200
 z46:=Tryz.sizeOf200
 v46:=Tryz.zeroValue200
 t50:=Tryz.underlying204
 a50:=Tryz.isAgg204
 z50:=Tryz.sizeOf204
 v50:=Tryz.zeroValue204
 t53:=Tryz.underlying207
 a53:=Tryz.isAgg207
 z53:=Tryz.sizeOf207
 v53:=Tryz.zeroValue207
 t55:=Tryz.underlying165
 a55:=Tryz.isAgg165
 z55:=Tryz.sizeOf165
 v55:=Tryz.zeroValue165
 t66:=Tryz.underlying222
 a66:=Tryz.isAgg222
 z66:=Tryz.sizeOf222
 v66:=Tryz.zeroValue222
 t70:=Tryz.underlying226
 a70:=Tryz.isAgg226
 z70:=Tryz.sizeOf226
 v70:=Tryz.zeroValue226
 t76:=Tryz.underlying231
 a76:=Tryz.isAgg231
 z76:=Tryz.sizeOf231
 v76:=Tryz.zeroValue231
 t77:=Tryz.underlying57
 a77:=Tryz.isAgg57
 z77:=Tryz.sizeOf57
 v77:=Tryz.zeroValue57 }
end
attribute [push_cast] sortCon
def g58t:Con:=sortCon eE cmpE 119 91
theorem c58t:COk Tryz.prog 58 g58t:=cok_sort (gc:=g91) sortE rfl Tryz.isAgg119 Tryz.sizeOf119 ord_E (by decide) (by kernel_rfl) c91 (fun _ _ _ _=>rfl) (by kernel_rfl)
end Go.Proofs.YtgpbokembopapaaGreat
