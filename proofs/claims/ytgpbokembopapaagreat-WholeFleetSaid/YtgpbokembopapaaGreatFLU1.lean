/- A part of the proof of a statement about this seat: how a function is stepped through, and plain laws. No conditions. -/
import Derived.Test.YtgpbokembopapaaGreatRows
import Derived.Test.YtgpbokembopapaaGreatFLSz3
import Derived.Test.YtgpbokembopapaaGreatFLQ1
import Derived.Test.YtgpbokembopapaaGreatFLP1
import Derived.KernelRfl
import Derived.Test.YtgpbokembopapaaGreatFLSz4
set_option linter.unusedVariables false
set_option linter.unusedSimpArgs false
set_option maxRecDepth 20000
namespace Go.Proofs.YtgpbokembopapaaGreat
open Go.Sx Go.Way
def x121:XFn:=⟨5,(.seq (.reg false [K1 2 .mv (iV 0)]) (.seq (.reg false [O1 3 .mv 0,K2 4 (.bin .and) 3 (iV 255),O1 2 .mv 4]) .ret)),[(.s 2)]⟩
theorem x121_ok:xfn Tryz.prog Tryz.f121=some x121.er:=by kernel_rfl
def x21:XFn:=⟨15,(.seq (.reg false [K1 4 .mv (iV 0)]) (.seq (.reg false [O1 6 .mv 0,O1 7 .mv 1,O2 8 (.bin .rem) 6 7,O1 5 .mv 8]) (.seq (.seq (.reg false [O1 9 .mv 5,K2 10 (.bin .lss) 9 (iV 0)]) (.cond (.t 10) (.reg false [O1 11 .mv 5,O1 12 .mv 1,O2 13 (.bin .add) 11 12,O1 5 .mv 13]) .skip)) (.seq (.reg false [O1 14 .mv 5,O1 4 .mv 14]) .ret)))),[(.s 4)]⟩
theorem x21_ok:xfn Tryz.prog Tryz.f21=some x21.er:=by kernel_rfl
def x120L0:XC:=(.seq (.seq (.reg false [O1 21 .mv 9,K2 22 (.bin .neq) 21 (iV 0)]) (.cond (.t 22) .skip (.exit 2))) (.block 3 (.reg true [O1 23 .mv 9,O1 24 .mv 7,O1 25 .mv 9,O2 26 (.bin .rem) 24 25,O1 7 .mv 23,O1 9 .mv 26])))
def x120L1:XC:=(.seq (.reg false [K2 15 (.bin .lss) 14 (iV 2)]) (.seq (.cond (.t 15) .skip (.exit 0)) (.seq (.block 1 (.seq (.reg false [O2 16 (.ix1 2 1) 13 14,O1 9 .mv 16]) (.seq (.reg false [O1 17 .mv 9,O1 18 .mv 9,O1 19 (.un .neg) 18,O2 20 .maxI 17 19,O1 9 .mv 20]) (.block 2 (.loop x120L0))))) (.reg false [K2 27 (.bin .add) 14 (iV 1),O1 14 .mv 27]))))
def x120:XFn:=⟨38,(.seq (.reg false [⟨(some 6),(.alloc 104 [(iV 0),(iV 0),(iV 0)]),[],none⟩]) (.seq (.reg false [O1 10 .mv 2,O1 7 .mv 10]) (.seq (.seq (.reg false [O1 11 .mv 0,O1 12 .mv 1,⟨(some 13),(.build [(iV 0),(iV 0)] [(0,1),(1,1)]),[(.t 11),(.t 12)],none⟩,K1 14 .mv (iV 0)]) (.block 0 (.loop x120L1))) (.seq (.regD [O1 28 .mv 0,O1 29 .mv 7,O2 30 (.bin .quo) 28 29,O1 31 .mv 1,O1 32 .mv 7,O2 33 (.bin .quo) 31 32,O1 34 .mv 2,O1 35 .mv 7,O2 36 (.bin .quo) 34 35,⟨(some 37),(.build [(iV 0),(iV 0),(iV 0)] [(0,1),(1,1),(2,1)]),[(.t 30),(.t 33),(.t 36)],none⟩,⟨none,(.store 3),[(.t 6),(.t 37)],none⟩] [[],[],[0,1],[],[],[3,4],[],[],[6,7],[2,0,1,5,3,4,8,6,7],[9,2,0,1,5,3,4,8,6,7]]) .ret)))),[(.bn 6 3)]⟩
theorem x120_ok:xfn Tryz.prog Tryz.f120=some x120.er:=by kernel_rfl
def x82L0:XC:=(.seq (.reg false [O2 23 (.bin .lss) 22 21]) (.seq (.cond (.t 23) .skip (.exit 0)) (.seq (.block 1 (.reg false [O1 24 (.fld 1) 4,O1 25 .load1 24,O1 26 (.un .neg) 25,O1 27 (.fld 0) 4,O1 28 .load1 27,O1 29 (.fld 0) 4,⟨none,(.store 1),[(.t 29),(.t 26)],none⟩,O1 30 (.fld 1) 4,⟨none,(.store 1),[(.t 30),(.t 28)],none⟩])) (.reg false [K2 31 (.bin .add) 22 (iV 1),O1 22 .mv 31]))))
def x82:XFn:=⟨33,(.seq (.reg false [⟨(some 2),(.alloc 104 [(iV 0),(iV 0),(iV 0)]),[],none⟩]) (.seq (.reg false [O1 5 .mv 0,O1 6 (.call 121) 5,O1 0 .mv 6]) (.seq (.reg false [O1 7 .mv 0,K2 8 (.bin .rem) 7 (iV 64),O1 3 .mv 8]) (.seq (.reg false [O1 9 .mv 3,O1 10 .mv 3,O2 11 (.bin .mul) 9 10,⟨(some 12),(.bin .sub),[(.k (iV 4096)),(.t 11)],none⟩,O1 13 .mv 3,⟨(some 14),(.bin .mul),[(.k (iV 128)),(.t 13)],none⟩,O1 15 .mv 3,O1 16 .mv 3,O2 17 (.bin .mul) 15 16,⟨(some 18),(.bin .add),[(.k (iV 4096)),(.t 17)],none⟩,⟨(some 19),(.call 120),[(.t 12),(.t 14),(.t 18)],none⟩,⟨(some 4),(.alloc 104 [(iV 0),(iV 0),(iV 0)]),[],none⟩,⟨none,(.store 3),[(.t 4),(.t 19)],none⟩]) (.seq (.seq (.reg false [O1 20 .mv 0,K2 21 (.bin .quo) 20 (iV 64),K1 22 .mv (iV 0)]) (.block 0 (.loop x82L0))) (.seq (.reg false [O1 32 (.loadN 3) 4,⟨none,(.store 3),[(.t 2),(.t 32)],none⟩]) .ret)))))),[(.bn 2 3)]⟩
theorem x82_ok:xfn Tryz.prog Tryz.f82=some x82.er:=by kernel_rfl
def x119:XFn:=⟨58,(.seq (.reg false [O1 1 (.box 104) 0,K1 2 .mv (.bool false)]) (.seq (.seq (.reg false [O1 3 (.fld 2) 1,O1 4 .load1 3,K2 5 (.bin .lss) 4 (iV 1),O1 6 .mv 5,G1 7 (.fld 2) 1 6 false,G1 8 .load1 7 6 false,GK 9 (.bin .gtr) 8 (iV 67108864) 6 false,⟨(some 10),.pick,[(.t 6),(.k (.bool true)),(.t 9)],none⟩,O1 11 .mv 10,G1 12 (.fld 0) 1 11 false,G1 13 .load1 12 11 false,G1 14 (.fld 2) 1 11 false,G1 15 .load1 14 11 false,G1 16 (.un .neg) 15 11 false,G2 17 (.bin .lss) 13 16 11 false,⟨(some 18),.pick,[(.t 11),(.k (.bool true)),(.t 17)],none⟩,O1 19 .mv 18,G1 20 (.fld 0) 1 19 false,G1 21 .load1 20 19 false,G1 22 (.fld 2) 1 19 false,G1 23 .load1 22 19 false,G2 24 (.bin .gtr) 21 23 19 false,⟨(some 25),.pick,[(.t 19),(.k (.bool true)),(.t 24)],none⟩,O1 26 .mv 25,G1 27 (.fld 1) 1 26 false,G1 28 .load1 27 26 false,G1 29 (.fld 2) 1 26 false,G1 30 .load1 29 26 false,G1 31 (.un .neg) 30 26 false,G2 32 (.bin .lss) 28 31 26 false,⟨(some 33),.pick,[(.t 26),(.k (.bool true)),(.t 32)],none⟩,O1 34 .mv 33,G1 35 (.fld 1) 1 34 false,G1 36 .load1 35 34 false,G1 37 (.fld 2) 1 34 false,G1 38 .load1 37 34 false,G2 39 (.bin .gtr) 36 38 34 false,⟨(some 40),.pick,[(.t 34),(.k (.bool true)),(.t 39)],none⟩]) (.cond (.t 40) (.seq (.reg false [K1 2 .mv (.bool false)]) .ret) .skip)) (.seq (.reg false [O1 41 (.fld 0) 1,O1 42 .load1 41,O1 43 (.fld 0) 1,O1 44 .load1 43,O2 45 (.bin .mul) 42 44,O1 46 (.fld 1) 1,O1 47 .load1 46,O1 48 (.fld 1) 1,O1 49 .load1 48,O2 50 (.bin .mul) 47 49,O2 51 (.bin .add) 45 50,O1 52 (.fld 2) 1,O1 53 .load1 52,O1 54 (.fld 2) 1,O1 55 .load1 54,O2 56 (.bin .mul) 53 55,O2 57 (.bin .eql) 51 56,O1 2 .mv 57]) .ret))),[(.s 2)]⟩
theorem x119_ok:xfn Tryz.prog Tryz.f119=some x119.er:=by kernel_rfl
def x81:XFn:=⟨49,(.seq (.reg false [O1 2 (.box 104) 0,O1 3 (.box 104) 1,⟨(some 4),(.alloc 104 [(iV 0),(iV 0),(iV 0)]),[],none⟩,K1 5 .mv (iV 0)]) (.seq (.seq (.reg false [O1 7 (.loadN 3) 2,O1 8 (.call 119) 7,O1 9 (.un .not) 8,O1 10 .mv 9,G1 11 (.loadN 3) 3 10 false,G1 12 (.call 119) 11 10 false,G1 13 (.un .not) 12 10 false,⟨(some 14),.pick,[(.t 10),(.k (.bool true)),(.t 13)],none⟩]) (.cond (.t 14) (.seq (.reg false [⟨(some 15),(.build [(iV 0),(iV 0),(iV 0)] []),[],none⟩,⟨none,(.store 3),[(.t 4),(.t 15)],none⟩,K1 5 .mv (iV 1)]) .ret) .skip)) (.seq (.reg false [O1 16 (.fld 0) 2,O1 17 .load1 16,O1 18 (.fld 0) 3,O1 19 .load1 18,O2 20 (.bin .mul) 17 19,O1 21 (.fld 1) 2,O1 22 .load1 21,O1 23 (.fld 1) 3,O1 24 .load1 23,O2 25 (.bin .mul) 22 24,O2 26 (.bin .sub) 20 25,O1 27 (.fld 0) 2,O1 28 .load1 27,O1 29 (.fld 1) 3,O1 30 .load1 29,O2 31 (.bin .mul) 28 30,O1 32 (.fld 1) 2,O1 33 .load1 32,O1 34 (.fld 0) 3,O1 35 .load1 34,O2 36 (.bin .mul) 33 35,O2 37 (.bin .add) 31 36,O1 38 (.fld 2) 2,O1 39 .load1 38,O1 40 (.fld 2) 3,O1 41 .load1 40,O2 42 (.bin .mul) 39 41,⟨(some 43),(.call 120),[(.t 26),(.t 37),(.t 42)],none⟩,⟨(some 6),(.alloc 104 [(iV 0),(iV 0),(iV 0)]),[],none⟩,⟨none,(.store 3),[(.t 6),(.t 43)],none⟩]) (.seq (.seq (.reg false [O1 44 (.fld 2) 6,O1 45 .load1 44,K2 46 (.bin .gtr) 45 (iV 67108864)]) (.cond (.t 46) (.seq (.reg false [⟨(some 47),(.build [(iV 0),(iV 0),(iV 0)] []),[],none⟩,⟨none,(.store 3),[(.t 4),(.t 47)],none⟩,K1 5 .mv (iV 2)]) .ret) .skip)) (.seq (.reg false [O1 48 (.loadN 3) 6,⟨none,(.store 3),[(.t 4),(.t 48)],none⟩,K1 5 .mv (iV 0)]) .ret))))),[(.bn 4 3),(.s 5)]⟩
theorem x81_ok:xfn Tryz.prog Tryz.f81=some x81.er:=by kernel_rfl
def x46:XFn:=⟨16,(.seq (.reg false [⟨(some 4),(.alloc 104 [(iV 0),(iV 0),(iV 0)]),[],none⟩]) (.seq (.reg false [O1 8 .mv 0,O1 9 (.call 82) 8,O1 10 .mv 1,O1 11 (.call 82) 10,O2 12 (.call 81) 9 11,O1 7 .mv 12,O1 13 (.ext 0) 7,O1 14 (.ext 1) 7,⟨(some 5),(.alloc 104 [(iV 0),(iV 0),(iV 0)]),[],none⟩,⟨none,(.store 3),[(.t 5),(.t 13)],none⟩,O1 6 .mv 14]) (.seq (.reg false [O1 15 (.loadN 3) 5,⟨none,(.store 3),[(.t 4),(.t 15)],none⟩]) .ret))),[(.bn 4 3)]⟩
theorem x46_ok:xfn Tryz.prog Tryz.f46=some x46.er:=by kernel_rfl
def bmX (a b c d e f:Int):Int × Int × Int:=low (a * d - b * e) (a * e+b * d) (c * f)
def bmE (a b c d e f:Int):Int:=if vecB a b c=false∨vecB d e f=false then 1 else if 67108864 < (bmX a b c d e f).2.2 then 2 else 0
def bmT (a b c d e f:Int):Int × Int × Int:=if bmE a b c d e f=0 then bmX a b c d e f else (0,0,0)
def beamV (h m:Int):Int × Int × Int:=bmT (dirV h).1 (dirV h).2.1 (dirV h).2.2 (dirV m).1 (dirV m).2.1 (dirV m).2.2
def g121:Con:=fun args_ E_ nn_=>match args_ with
 | [.c (.v (.int .i64 h))]=>some (.q (True) (.o (.c (.v (.int .i64 (h % 256))))))
 | _=>none
theorem c121:COk Tryz.prog 121 g121:=by
 refine cok_q Tryz.func121 x121_ok (by kernel_rfl) (cok_tab cok_nil) ?_
 intro args_ E_ nn_ cr_ hg_
 unfold g121 at hg_
 split at hg_
 ·rename_i h
  cases hg_
  refine ⟨_,_,rfl,0,[],[.c (.v (.int .i64 h))],[],.o (.c (.v (.int .i64 (h % 256)))),rfl,rfl,and3 (by simp only [push_cast,Nat.reduceLT,Nat.reduceAdd]) ⟨rfl,trivial,rfl,?_⟩⟩
  intro hpre hlen
  refine ⟨trivial,?_⟩
  simp (maxSteps:=9999999) only [x121,push_cast,simprocAttr]
  exact and_255 h
 ·cases hg_
def g21:Con:=fun args_ E_ nn_=>match args_ with
 | [.c (.v (.int .i64 a)),.c (.v (.int .i64 b))]=>some (.q (0 < b∧-9223372036854775808≤a∧a≤9223372036854775807∧b≤9223372036854775807) (.o (.c (.v (.int .i64 (a % b))))))
 | _=>none
theorem c21:COk Tryz.prog 21 g21:=by
 refine cok_q Tryz.func21 x21_ok (by kernel_rfl) (cok_tab cok_nil) ?_
 intro args_ E_ nn_ cr_ hg_
 unfold g21 at hg_
 split at hg_
 ·rename_i a b
  cases hg_
  refine ⟨_,_,rfl,0,[],[.c (.v (.int .i64 a)),.c (.v (.int .i64 b))],[],.o (.c (.v (.int .i64 (a % b)))),rfl,rfl,and3 (by simp only [push_cast,Nat.reduceLT,Nat.reduceAdd]) ⟨rfl,trivial,rfl,?_⟩⟩
  intro hpre hlen
  refine ⟨trivial,?_⟩
  simp (maxSteps:=9999999) only [x21,push_cast,simprocAttr]
  obtain ⟨h1,h2,h3,h4⟩:=hpre
  have k1:=Int.emod_def a b
  have k2:=Int.tmod_def a b
  have k3:=Int.emod_lt_of_pos a h1
  have k4:=Int.emod_nonneg a (show b≠0 by omega)
  refine ⟨by omega,fun h=>?_,fun h=>?_⟩
  ·have e:=floor_neg h1 h
   have e2:a.tmod b+b=a % b:=by rw [k1,k2,← e,Int.mul_sub,Int.mul_one]; omega
   rw [e2]
   exact wrapI (by omega) (by omega)
  ·rw [k1,k2,floor_pos h1 h]
 ·cases hg_
def g120:Con:=fun args_ E_ nn_=>match args_ with
 | [.c (.v (.int .i64 x)),.c (.v (.int .i64 y)),.c (.v (.int .i64 d))]=>some (.q (0 < d∧d≤4611686018427387904∧-4611686018427387904≤x∧x≤4611686018427387904∧-4611686018427387904≤y∧y≤4611686018427387904) (.o (.a [.v (.int .i64 ((low x y d).1)),.v (.int .i64 ((low x y d).2.1)),.v (.int .i64 ((low x y d).2.2))])))
 | _=>none
theorem c120:COk Tryz.prog 120 g120:=by
 refine cok_q Tryz.func120 x120_ok (by kernel_rfl) (cok_tab cok_nil) ?_
 intro args_ E_ nn_ cr_ hg_
 unfold g120 at hg_
 split at hg_
 ·rename_i x y d
  cases hg_
  refine ⟨_,_,rfl,0,[],[.c (.v (.int .i64 x)),.c (.v (.int .i64 y)),.c (.v (.int .i64 d))],[],.o (.a [.v (.int .i64 ((low x y d).1)),.v (.int .i64 ((low x y d).2.1)),.v (.int .i64 ((low x y d).2.2))]),rfl,rfl,and3 (by simp only [push_cast,Nat.reduceLT,Nat.reduceAdd]) ⟨rfl,trivial,rfl,?_⟩⟩
  intro hpre hlen
  refine ⟨trivial,?_⟩
  simp (maxSteps:=9999999) only [x120,push_cast,simprocAttr]
  obtain ⟨hd,hd',hx,hx',hy,hy'⟩:=hpre
  refine vcLoop_upd (α:={p:Int × Int // (p.1=0∧p.2=d)∨(p.1=1∧p.2=(Int.gcd d x:Int))∨(p.1=2∧p.2=gcd3 x y d)}) [0,1,2,6,13] 0 (fun s=>[(7,.o (.c (.v (.int .i64 (s.1.2))))),(14,.o (.c (.v (.int .i64 (s.1.1)))))]) (fun s=>[]) (fun s=>(2 - s.1.1).toNat) ⟨(0,d),.inl ⟨rfl,rfl⟩⟩ ?_ ?_
  ·simp only [push_cast,simprocAttr]
  ·rintro ⟨⟨i,g⟩,⟨hi,he⟩ | ⟨hi,he⟩ | ⟨hi,he⟩⟩
   ·simp only at hi he
    subst hi
    simp only [x120L1,push_cast,simprocAttr]
    have hg:0 < g:=by omega
    have hm0:0≤max x (-x):=by omega
    rw [wrapI (n:=-x) (by omega) (by omega)]
    refine vcLoop_upd (α:={p:Int × Int // 0≤p.1∧0≤p.2∧p.1≤9223372036854775807∧p.2≤9223372036854775807∧Int.gcd p.1 p.2=Int.gcd g x}) [0,1,2,6,13,14] 0 (fun s=>[(7,.o (.c (.v (.int .i64 (s.1.1))))),(9,.o (.c (.v (.int .i64 (s.1.2)))))]) (fun s=>[]) (fun s=>s.1.2.toNat) ⟨(g,max x (-x)),Int.le_of_lt hg,hm0,by simp only; omega,by simp only; omega,gcd_abs g x⟩ ?_ ?_
    ·simp only [push_cast,simprocAttr]
    ·rintro ⟨⟨g2,n2⟩,hg2,hn2,hg2',hn2',he2⟩
     simp only [x120L0,push_cast,simprocAttr]
     simp only at hg2 hn2 hg2' hn2' he2
     refine ⟨fun h=>?_,fun h=>?_⟩
     ·have hp:0 < n2:=by omega
      obtain ⟨hm1,hm2⟩:=emod_range (a:=g2) (b:=n2) hp
      have hs:=Go.Way.gcd_step g2 n2 hn2 hg2
      rw [tmod_pos hg2] at hs ⊢
      have hm3:g2 % n2≤9223372036854775807:=by omega
      have hm4:(g2 % n2).toNat < n2.toNat:=by omega
      refine ⟨h,⟨(n2,g2 % n2),hn2,hm1,hn2',hm3,?_⟩,⟨rfl,rfl⟩,hm4⟩
      simp only
      rw [hs]; exact he2
     ·subst h
      simp only [Int.gcd_zero_right] at he2
      have e2:g2=(Int.gcd g x:Int):=by rw [← he2,Int.natAbs_of_nonneg hg2]
      refine ⟨⟨(0+1,g2),.inr (.inl ⟨rfl,by simp only; rw [e2,he]⟩)⟩,⟨rfl,by rw [wrapI (by omega) (by omega)]; rfl⟩,by simp⟩
   ·simp only at hi he
    subst hi
    simp only [x120L1,push_cast,simprocAttr]
    have hg:0 < g:=by
     have:Int.gcd d x≠0:=fun h0=>by have:=(Int.gcd_eq_zero_iff.1 h0).1; omega
     omega
    have hgd:g≤d:=by rw [he]; exact Int.le_of_dvd hd (Int.gcd_dvd_left ..)
    have hm0:0≤max y (-y):=by omega
    rw [wrapI (n:=-y) (by omega) (by omega)]
    refine vcLoop_upd (α:={p:Int × Int // 0≤p.1∧0≤p.2∧p.1≤9223372036854775807∧p.2≤9223372036854775807∧Int.gcd p.1 p.2=Int.gcd g y}) [0,1,2,6,13,14] 0 (fun s=>[(7,.o (.c (.v (.int .i64 (s.1.1))))),(9,.o (.c (.v (.int .i64 (s.1.2)))))]) (fun s=>[]) (fun s=>s.1.2.toNat) ⟨(g,max y (-y)),Int.le_of_lt hg,hm0,by simp only; omega,by simp only; omega,gcd_abs g y⟩ ?_ ?_
    ·simp only [push_cast,simprocAttr]
    ·rintro ⟨⟨g2,n2⟩,hg2,hn2,hg2',hn2',he2⟩
     simp only [x120L0,push_cast,simprocAttr]
     simp only at hg2 hn2 hg2' hn2' he2
     refine ⟨fun h=>?_,fun h=>?_⟩
     ·have hp:0 < n2:=by omega
      obtain ⟨hm1,hm2⟩:=emod_range (a:=g2) (b:=n2) hp
      have hs:=Go.Way.gcd_step g2 n2 hn2 hg2
      rw [tmod_pos hg2] at hs ⊢
      have hm3:g2 % n2≤9223372036854775807:=by omega
      have hm4:(g2 % n2).toNat < n2.toNat:=by omega
      refine ⟨h,⟨(n2,g2 % n2),hn2,hm1,hn2',hm3,?_⟩,⟨rfl,rfl⟩,hm4⟩
      simp only
      rw [hs]; exact he2
     ·subst h
      simp only [Int.gcd_zero_right] at he2
      have e2:g2=(Int.gcd g y:Int):=by rw [← he2,Int.natAbs_of_nonneg hg2]
      refine ⟨⟨(1+1,g2),.inr (.inr ⟨rfl,by simp only; rw [e2,he,gcd3_eq]⟩)⟩,⟨rfl,by rw [wrapI (by omega) (by omega)]; rfl⟩,by simp⟩
   ·simp only at hi he
    subst hi
    simp only [x120L1,push_cast,simprocAttr]
    rw [he]
    obtain ⟨e1,e2,e3⟩:=tdiv_gcd3 (x:=x) (y:=y) (d:=d)
    have hg:=gcd3_pos (x:=x) (y:=y) hd
    have b1:=div_abs hg hx hx'
    have b2:=div_abs hg hy hy'
    have b3:=div_abs hg (show -4611686018427387904≤d by omega) hd'
    rw [e1,e2,e3,wrapI b1.1 b1.2,wrapI b2.1 b2.2,wrapI b3.1 b3.2]
    have:¬ gcd3 x y d=0:=by omega
    simp only [this,not_false_eq_true,true_and,low,and_true,and_self]
    try rfl
 ·cases hg_
def g82:Con:=fun args_ E_ nn_=>match args_ with
 | [.c (.v (.int .i64 h))]=>some (.q (True) (.o (.a [.v (.int .i64 ((dirV h).1)),.v (.int .i64 ((dirV h).2.1)),.v (.int .i64 ((dirV h).2.2))])))
 | _=>none
theorem c82:COk Tryz.prog 82 g82:=by
 refine cok_q Tryz.func82 x82_ok (by kernel_rfl) (cok_tab (cok_cons c121 (cok_cons c120 cok_nil))) ?_
 intro args_ E_ nn_ cr_ hg_
 unfold g82 at hg_
 split at hg_
 ·rename_i h
  cases hg_
  refine ⟨_,_,rfl,0,[],[.c (.v (.int .i64 h))],[],.o (.a [.v (.int .i64 ((dirV h).1)),.v (.int .i64 ((dirV h).2.1)),.v (.int .i64 ((dirV h).2.2))]),rfl,rfl,and3 (by simp only [push_cast,Nat.reduceLT,Nat.reduceAdd]) ⟨rfl,trivial,rfl,?_⟩⟩
  intro hpre hlen
  refine ⟨trivial,?_⟩
  simp (maxSteps:=9999999) only [x82,push_cast,simprocAttr,g121,g120]
  have hs:=sq64 h
  rw [show (h % 256).tmod 64=h % 256 % 64 from Int.tmod_eq_emod_of_nonneg (by omega)]
  rw [show (h % 256).tdiv 64=h % 256 / 64 from Int.tdiv_eq_ediv_of_nonneg (by omega),wrapI (n:=h % 256 / 64) (by omega) (by omega)]
  rw [wrapI (n:=h % 256 % 64 * (h % 256 % 64)) (by omega) (by omega),wrapI (n:=4096 - _) (by omega) (by omega),wrapI (n:=4096+_) (by omega) (by omega),wrapI (n:=128 * _) (by omega) (by omega)]
  have hq:0≤h % 256 / 64∧h % 256 / 64 < 4:=by omega
  refine ⟨by omega,?_⟩
  have hb:=rot_bd 8192 (dir0 h) (dir0_bd h)
  refine vcLoop_upd (α:={n:Nat // n≤(h % 256 / 64).toNat}) [2,4,21] 0 (fun s=>[(22,.o (.c (.v (.int .i64 (s.1:Nat)))))]) (fun s=>[(1,.box [.v (.int .i64 (rot s.1 (dir0 h)).1),.v (.int .i64 (rot s.1 (dir0 h)).2.1),.v (.int .i64 (rot s.1 (dir0 h)).2.2)] 104)]) (fun s=>(h % 256 / 64).toNat - s.1) ⟨0,Nat.zero_le _⟩ ?_ ?_
  ·simp only [push_cast,simprocAttr,g121,g120,dir0,rot]
  ·rintro ⟨n,hn⟩
   simp only [x82L0,push_cast,simprocAttr,g121,g120]
   have hb:=hb n
   refine ⟨fun h1=>?_,fun h1=>?_⟩
   ·exact ⟨⟨n+1,by omega⟩,⟨by rw [wrapI (by omega) (by omega)]; rfl,wrapI (by omega) (by omega),rfl,rfl⟩,by simp only; omega⟩
   ·have hh:n=(h % 256 / 64).toNat:=by omega
    rw [dirV_rot,← hh]
    exact ⟨rfl,rfl,rfl⟩
 ·cases hg_
def g119:Con:=fun args_ E_ nn_=>match args_ with
 | [.a [.v (.int .i64 v_X),.v (.int .i64 v_Y),.v (.int .i64 v_D)]]=>some (.q (True) (.o (.c (.v (.bool (vecB v_X v_Y v_D))))))
 | _=>none
theorem c119:COk Tryz.prog 119 g119:=by
 refine cok_q Tryz.func119 x119_ok (by kernel_rfl) (cok_tab cok_nil) ?_
 intro args_ E_ nn_ cr_ hg_
 unfold g119 at hg_
 split at hg_
 ·rename_i v_X v_Y v_D
  cases hg_
  refine ⟨_,_,rfl,0,[],[.a [.v (.int .i64 v_X),.v (.int .i64 v_Y),.v (.int .i64 v_D)]],[],.o (.c (.v (.bool (vecB v_X v_Y v_D)))),rfl,rfl,and3 (by simp only [push_cast,Nat.reduceLT,Nat.reduceAdd]) ⟨rfl,trivial,rfl,?_⟩⟩
  intro hpre hlen
  refine ⟨trivial,?_⟩
  simp (maxSteps:=9999999) only [x119,push_cast,simprocAttr]
  unfold vecB
  refine ⟨fun h=>?_,fun h1 h2 h3 h4 h5 h6=>?_⟩
  ·symm; rw [decide_eq_false_iff_not]; rintro ⟨a1,a2,a3,a4,a5,a6,a7⟩
   rw [wrapI (n:=-v_D) (by omega) (by omega)] at h
   omega
  ·rw [wrapI (n:=-v_D) (by omega) (by omega)] at h3 h5
   have b1:=mulB (a:=v_X) (b:=v_X) (A:=67108864) (B:=67108864) (by omega) (by omega) (by omega) (by omega)
   have b2:=mulB (a:=v_Y) (b:=v_Y) (A:=67108864) (B:=67108864) (by omega) (by omega) (by omega) (by omega)
   have b3:=mulB (a:=v_D) (b:=v_D) (A:=67108864) (B:=67108864) (by omega) (by omega) (by omega) (by omega)
   rw [wrapI (n:=v_X * v_X) (by omega) (by omega),wrapI (n:=v_Y * v_Y) (by omega) (by omega),wrapI (n:=v_D * v_D) (by omega) (by omega),wrapI (n:=v_X * v_X+v_Y * v_Y) (by omega) (by omega)]
   rw [Bool.eq_iff_iff]; simp only [beq_iff_eq,decide_eq_true_eq]
   omega
 ·cases hg_
def g81:Con:=fun args_ E_ nn_=>match args_ with
 | [.a [.v (.int .i64 a_X),.v (.int .i64 a_Y),.v (.int .i64 a_D)],.a [.v (.int .i64 b_X),.v (.int .i64 b_Y),.v (.int .i64 b_D)]]=>some (.q (True) (.t [.a [.v (.int .i64 (bmT a_X a_Y a_D b_X b_Y b_D).1),.v (.int .i64 (bmT a_X a_Y a_D b_X b_Y b_D).2.1),.v (.int .i64 (bmT a_X a_Y a_D b_X b_Y b_D).2.2)],.c (.v (.int .i64 (bmE a_X a_Y a_D b_X b_Y b_D)))]))
 | _=>none
theorem c81:COk Tryz.prog 81 g81:=by
 refine cok_q Tryz.func81 x81_ok (by kernel_rfl) (cok_tab (cok_cons c119 (cok_cons c120 cok_nil))) ?_
 intro args_ E_ nn_ cr_ hg_
 unfold g81 at hg_
 split at hg_
 ·rename_i a_X a_Y a_D b_X b_Y b_D
  cases hg_
  refine ⟨_,_,rfl,0,[],[.a [.v (.int .i64 a_X),.v (.int .i64 a_Y),.v (.int .i64 a_D)],.a [.v (.int .i64 b_X),.v (.int .i64 b_Y),.v (.int .i64 b_D)]],[],.t [.a [.v (.int .i64 (bmT a_X a_Y a_D b_X b_Y b_D).1),.v (.int .i64 (bmT a_X a_Y a_D b_X b_Y b_D).2.1),.v (.int .i64 (bmT a_X a_Y a_D b_X b_Y b_D).2.2)],.c (.v (.int .i64 (bmE a_X a_Y a_D b_X b_Y b_D)))],rfl,rfl,and3 (by simp only [push_cast,Nat.reduceLT,Nat.reduceAdd]) ⟨rfl,trivial,rfl,?_⟩⟩
  intro hpre hlen
  refine ⟨trivial,?_⟩
  simp (maxSteps:=9999999) only [x81,push_cast,simprocAttr,g119,g120]
  refine ⟨fun h=>by simp [bmT,bmE,h],fun h1 h2=>?_⟩
  have a:=vec_bd h1; have b:=vec_bd h2
  have m1:=mulB (a:=a_X) (b:=b_X) (A:=67108864) (B:=67108864) (by omega) (by omega) (by omega) (by omega)
  have m2:=mulB (a:=a_Y) (b:=b_Y) (A:=67108864) (B:=67108864) (by omega) (by omega) (by omega) (by omega)
  have m3:=mulB (a:=a_X) (b:=b_Y) (A:=67108864) (B:=67108864) (by omega) (by omega) (by omega) (by omega)
  have m4:=mulB (a:=a_Y) (b:=b_X) (A:=67108864) (B:=67108864) (by omega) (by omega) (by omega) (by omega)
  have m5:=mulB (a:=a_D) (b:=b_D) (A:=67108864) (B:=67108864) (by omega) (by omega) (by omega) (by omega)
  have m6:=Int.mul_pos (show 0 < a_D by omega) (show 0 < b_D by omega)
  simp (disch:=omega) only [wrapI]
  refine ⟨by omega,fun h=>?_,fun h=>?_⟩
  ·have e:bmE a_X a_Y a_D b_X b_Y b_D=2:=by simp [bmE,bmX,h1,h2,h]
   simp [bmT,e]
  ·have e:bmE a_X a_Y a_D b_X b_Y b_D=0:=by simp [bmE,bmX,h1,h2,h]
   simp [bmT,e,bmX]
 ·cases hg_
def g46:Con:=fun args_ E_ nn_=>match args_ with
 | [.c (.v (.int .i64 h)),.c (.v (.int .i64 mark))]=>some (.q (True) (.o (.a [.v (.int .i64 (beamV h mark).1),.v (.int .i64 (beamV h mark).2.1),.v (.int .i64 (beamV h mark).2.2)])))
 | _=>none
theorem c46:COk Tryz.prog 46 g46:=by
 refine cok_q Tryz.func46 x46_ok (by kernel_rfl) (cok_tab (cok_cons c82 (cok_cons c81 cok_nil))) ?_
 intro args_ E_ nn_ cr_ hg_
 unfold g46 at hg_
 split at hg_
 ·rename_i h mark
  cases hg_
  refine ⟨_,_,rfl,0,[],[.c (.v (.int .i64 h)),.c (.v (.int .i64 mark))],[],.o (.a [.v (.int .i64 (beamV h mark).1),.v (.int .i64 (beamV h mark).2.1),.v (.int .i64 (beamV h mark).2.2)]),rfl,rfl,and3 (by simp only [push_cast,Nat.reduceLT,Nat.reduceAdd]) ⟨rfl,trivial,rfl,?_⟩⟩
  intro hpre hlen
  refine ⟨trivial,?_⟩
  simp (maxSteps:=9999999) only [x46,push_cast,simprocAttr,g82,g81]
  exact ⟨rfl,rfl,rfl⟩
 ·cases hg_
end Go.Proofs.YtgpbokembopapaaGreat
namespace Go.Proofs.YtgpbokembopapaaGreat
open Go.Sx Go.Way
structure EE where
 X:Int
 Y:Int
 H:Int
 P:Int
def eE:Enc EE where
 sz:=4
 ks:=[.i .i64,.i .i64,.i .i64,.i .i64]
 wf:=fun x=>((-9223372036854775808)≤x.X∧x.X≤9223372036854775807)∧((-9223372036854775808)≤x.Y∧x.Y≤9223372036854775807)∧((-9223372036854775808)≤x.H∧x.H≤9223372036854775807)∧((-9223372036854775808)≤x.P∧x.P≤9223372036854775807)
 enc:=fun x=>[.v (.int .i64 x.X),.v (.int .i64 x.Y),.v (.int .i64 x.H),.v (.int .i64 x.P)]
 dec:=fun f=>⟨intC (f 0),intC (f 1),intC (f 2),intC (f 3)⟩
 dflt:=⟨0,0,0,0⟩
 flat:=by
  intro x c hc
  simp only [List.mem_cons,List.not_mem_nil,or_false] at hc
  rcases hc with rfl | rfl | rfl | rfl<;>exact ⟨_,rfl,rfl⟩
 len:=fun x=>rfl
 onto:=by
  intro cs h
  obtain ⟨n0,cs0,rfl,a0,b0,h0⟩:=kind_i h
  obtain ⟨n1,cs1,rfl,a1,b1,h1⟩:=kind_i h0
  obtain ⟨n2,cs2,rfl,a2,b2,h2⟩:=kind_i h1
  obtain ⟨n3,cs3,rfl,a3,b3,h3⟩:=kind_i h2
  obtain rfl:=kind_n h3
  exact ⟨⟨n0,n1,n2,n3⟩,rfl,⟨a0,b0⟩,⟨a1,b1⟩,⟨a2,b2⟩,⟨a3,b3⟩⟩
 de:=by
  intro x f h
  have h0:=h 0 (by decide)
  simp only [nth] at h0
  have h1:=h 1 (by decide)
  simp only [nth] at h1
  have h2:=h 2 (by decide)
  simp only [nth] at h2
  have h3:=h 3 (by decide)
  simp only [nth] at h3
  simp only [h0,h1,h2,h3,intC,boolC]
theorem eE_sz:eE.sz=4:=rfl
theorem eE_0 (L:List EE) (e:Nat):rowF eE L e 0 = .v (.int .i64 (L.getD e eE.dflt).X):=rfl
theorem eE_1 (L:List EE) (e:Nat):rowF eE L e 1 = .v (.int .i64 (L.getD e eE.dflt).Y):=rfl
theorem eE_2 (L:List EE) (e:Nat):rowF eE L e 2 = .v (.int .i64 (L.getD e eE.dflt).H):=rfl
theorem eE_3 (L:List EE) (e:Nat):rowF eE L e 3 = .v (.int .i64 (L.getD e eE.dflt).P):=rfl
theorem eE_eta (x:EE):EE.mk x.X x.Y x.H x.P=x:=rfl
theorem eE_isRow (L:List EE):isRow eE L.length 4 (rowF eE L) ↔ True:=isRow_rowF L
attribute [push_cast] eE_eta eE_isRow eE_sz eE_0 eE_1 eE_2 eE_3
def cmpI (x y:Int):Int:=if x < y then -1 else if y < x then 1 else 0
def firstNZ:List Int→Int
 | []=>0
 | x :: l=>if x≠0 then x else firstNZ l
theorem firstNZ_at:∀ {l:List Int} {k:Nat},(∀ i,i < k→l.getD i eI.dflt=0)→k < l.length→l.getD k eI.dflt≠0→firstNZ l=l.getD k eI.dflt
 | x :: l,0,_,_,h=>by simp only [firstNZ,List.getD_cons_zero] at *; rw [if_pos h]
 | x :: l,k+1,h1,h2,h=>by
  have h0:=h1 0 (by omega)
  simp only [List.getD_cons_zero] at h0
  simp only [firstNZ,h0,List.getD_cons_succ] at *
  rw [if_neg (by simp)]
  exact firstNZ_at (fun i hi=>by have:=h1 (i+1) (by omega); simpa using this) (by simpa using h2) h
theorem firstNZ_none:∀ {l:List Int},(∀ i,i < l.length→l.getD i eI.dflt=0)→firstNZ l=0
 | [],_=>rfl
 | x :: l,h=>by
  have h0:=h 0 (by simp)
  simp only [List.getD_cons_zero] at h0
  simp only [firstNZ,h0]
  rw [if_neg (by simp)]
  exact firstNZ_none fun i hi=>by have:=h (i+1) (by simpa using hi); simpa using this
def cmpC (ax ay bx by_:Int):Int:=firstNZ [cmpI ay by_,cmpI ax bx]
def winB (n m:Int):Bool:=decide (-m≤n∧n≤m)
def cntB (e:EE):Bool:=winB e.H 1099511627776 && winB e.P 1099511627776
def goodE (e:EE):Bool:=cntB e && decide (e.H≠0∨e.P≠0) && winB e.X 16384 && winB e.Y 16384
def cmpE (a b:EE):Int:=cmpC a.X a.Y b.X b.Y
def okE (L:List EE) (k:Nat):Bool:=goodE (L.getD k eE.dflt) && (decide (k=0) || decide (cmpE (L.getD (k - 1) eE.dflt) (L.getD k eE.dflt) < 0))
def valE (L:List EE):Bool:=decide (∀ k,k < L.length→okE L k=true) && decide (L.length≤1048576)
theorem valE_no {L:List EE} {k:Nat} (hk:k < L.length) (h:okE L k=false):valE L=false:=by
 unfold valE
 rw [decide_eq_false (fun hc=>by rw [hc k hk] at h; cases h),Bool.false_and]
theorem valE_yes {L:List EE} (h:∀ k,k < L.length→okE L k=true):valE L=decide (L.length≤1048576):=by
 unfold valE
 rw [decide_eq_true h,Bool.true_and]
def zeroE (e:EE):Bool:=decide (e.H=0∧e.P=0)
def wideE (e:EE):Bool:=!cntB e
def badB (c:CC):Bool:=decide (c.X < 0∨256≤c.X∨c.Y < -1∨1024 < c.Y)
def scnB (S:List CC):Bool:=decide (S.length≤32) && !S.any badB
def ixOf {α:Type} (p:α→Bool) (L:List α):Int:=match L.findIdx? p with | some i=>i | none=>-1
theorem ixOf_some {α:Type} {p:α→Bool} {L:List α} {d:α} {k:Nat} (hk:k < L.length) (h1:∀ i,i < k→p (L.getD i d)=false) (h2:p (L.getD k d)=true):ixOf p L=k:=by
 have hg:∀ i (h:i < L.length),L.getD i d=L[i]:=fun i h=>by rw [List.getD_eq_getElem?_getD,List.getElem?_eq_getElem h]; rfl
 have:L.findIdx? p=some k:=by
  rw [List.findIdx?_eq_some_iff_getElem]
  refine ⟨hk,by rw [← hg k hk]; exact h2,fun j hj=>?_⟩
  have:=h1 j hj
  rw [hg j (by omega)] at this
  simp [this]
 unfold ixOf; rw [this]
theorem ixOf_none {α:Type} {p:α→Bool} {L:List α} {d:α} (h1:∀ i,i < L.length→p (L.getD i d)=false):ixOf p L=-1:=by
 have hg:∀ i (h:i < L.length),L.getD i d=L[i]:=fun i h=>by rw [List.getD_eq_getElem?_getD,List.getElem?_eq_getElem h]; rfl
 have:L.findIdx? p=none:=by
  rw [List.findIdx?_eq_none_iff]
  intro x hx
  obtain ⟨i,hi,rfl⟩:=List.getElem_of_mem hx
  have:=h1 i hi
  rw [hg i hi] at this
  exact this
 unfold ixOf; rw [this]
theorem ixOf_any {α:Type} (p:α→Bool) (L:List α):decide (0≤ixOf p L)=L.any p:=by
 unfold ixOf
 cases h:L.findIdx? p with
 | none=>
  rw [List.findIdx?_eq_none_iff] at h
  have:L.any p=false:=by rw [List.any_eq_false]; intro x hx; simp [h x hx]
  rw [this]; rfl
 | some i=>
  rw [List.findIdx?_eq_some_iff_getElem] at h
  obtain ⟨hi,h1,_⟩:=h
  have:L.any p=true:=List.any_eq_true.2 ⟨L[i],List.getElem_mem hi,h1⟩
  rw [this]
  simp
def x112:XFn:=⟨6,(.seq (.reg false [K1 2 .mv (.bool false)]) (.seq (.reg false [O1 3 .mv 0,O1 4 .mv 0,O2 5 (.bin .neq) 3 4,O1 2 .mv 5]) .ret)),[(.s 2)]⟩
theorem x112_ok:xfn Tryz.prog Tryz.f112=some x112.er:=by kernel_rfl
def x73:XFn:=⟨20,(.seq (.reg false [K1 4 .mv (iV 0)]) (.seq (.reg false [O1 7 .mv 0,O1 8 (.call 112) 7,O1 5 .mv 8]) (.seq (.reg false [O1 9 .mv 1,O1 10 (.call 112) 9,O1 6 .mv 10]) (.seq (.seq (.reg false [O1 11 .mv 5]) (.cond (.t 11) (.seq (.seq (.reg false [O1 12 .mv 6]) (.cond (.t 12) (.seq (.reg false [K1 4 .mv (iV 0)]) .ret) .skip)) (.seq (.reg false [K1 4 .mv (iV (-1))]) .ret)) .skip)) (.seq (.seq (.reg false [O1 13 .mv 6]) (.cond (.t 13) (.seq (.reg false [K1 4 .mv (iV 1)]) .ret) .skip)) (.seq (.seq (.reg false [O1 14 .mv 0,O1 15 .mv 1,O2 16 (.bin .lss) 14 15]) (.cond (.t 16) (.seq (.reg false [K1 4 .mv (iV (-1))]) .ret) .skip)) (.seq (.seq (.reg false [O1 17 .mv 0,O1 18 .mv 1,O2 19 (.bin .gtr) 17 18]) (.cond (.t 19) (.seq (.reg false [K1 4 .mv (iV 1)]) .ret) .skip)) (.seq (.reg false [K1 4 .mv (iV 0)]) .ret)))))))),[(.s 4)]⟩
theorem x73_ok:xfn Tryz.prog Tryz.f73=some x73.er:=by kernel_rfl
def x72L0:XC:=(.seq (.reg false [O2 9 (.bin .lss) 8 7]) (.seq (.cond (.t 9) .skip (.exit 0)) (.seq (.block 1 (.seq (.reg false [O2 10 (.ixS 1) 6 8,O1 11 .load1 10,O1 5 .mv 11]) (.seq (.reg false [O1 12 .mv 5,O1 13 .mv 3,O2 14 (.bin .neq) 12 13]) (.cond (.t 14) (.seq (.reg false [O1 15 .mv 5,O1 2 .mv 15]) .ret) .skip)))) (.reg false [K2 16 (.bin .add) 8 (iV 1),O1 8 .mv 16]))))
def x72:XFn:=⟨18,(.seq (.reg false [K1 2 .mv (iV 0)]) (.seq (.reg false [K1 3 .mv (iV 0)]) (.seq (.seq (.reg false [O1 6 .mv 0,O1 7 .lenS 6,K1 8 .mv (iV 0)]) (.block 0 (.loop x72L0))) (.seq (.reg false [O1 17 .mv 3,O1 2 .mv 17]) .ret)))),[(.s 2)]⟩
theorem x72_ok:xfn Tryz.prog Tryz.f72=some x72.er:=by kernel_rfl
def x92:XFn:=⟨17,(.seq (.reg false [O1 2 (.box 109) 0,O1 3 (.box 109) 1,K1 4 .mv (iV 0)]) (.seq (.regD [O1 5 (.fld 1) 2,O1 6 .load1 5,O1 7 (.fld 1) 3,O1 8 .load1 7,O2 9 (.call 73) 6 8,O1 10 (.fld 0) 2,O1 11 .load1 10,O1 12 (.fld 0) 3,O1 13 .load1 12,O2 14 (.call 73) 11 13,⟨(some 15),(.slit 3 2 1 [(iV 0),(iV 0)] [(0,1),(1,1)]),[(.t 9),(.t 14)],none⟩,O1 16 (.call 72) 15,O1 4 .mv 16] [[],[0],[],[2],[1,0,3,2],[],[5],[],[7],[6,5,8,7,4,1,0,3,2],[4,1,0,3,2,9,6,5,8,7],[10,4,1,0,3,2,9,6,5,8,7],[11,10,4,1,0,3,2,9,6,5,8,7]]) .ret)),[(.s 4)]⟩
theorem x92_ok:xfn Tryz.prog Tryz.f92=some x92.er:=by kernel_rfl
def x44:XFn:=⟨14,(.seq (.reg false [K1 4 .mv (.bool false)]) (.seq (.reg false [O1 5 .mv 0,O1 6 .mv 1,O1 7 (.un .neg) 6,O2 8 (.bin .geq) 5 7,O1 9 .mv 8,G1 10 .mv 0 9 true,G1 11 .mv 1 9 true,G2 12 (.bin .leq) 10 11 9 true,⟨(some 13),.pick,[(.t 9),(.t 12),(.k (.bool false))],none⟩,O1 4 .mv 13]) .ret)),[(.s 4)]⟩
theorem x44_ok:xfn Tryz.prog Tryz.f44=some x44.er:=by kernel_rfl
def x95:XFn:=⟨11,(.seq (.reg false [O1 1 (.box 119) 0,K1 2 .mv (.bool false)]) (.seq (.reg false [O1 3 (.fld 2) 1,O1 4 .load1 3,K2 5 (.call 44) 4 (iV 1099511627776),O1 6 .mv 5,G1 7 (.fld 3) 1 6 true,G1 8 .load1 7 6 true,GK 9 (.call 44) 8 (iV 1099511627776) 6 true,⟨(some 10),.pick,[(.t 6),(.t 9),(.k (.bool false))],none⟩,O1 2 .mv 10]) .ret)),[(.s 2)]⟩
theorem x95_ok:xfn Tryz.prog Tryz.f95=some x95.er:=by kernel_rfl
def x96:XFn:=⟨27,(.seq (.reg false [O1 1 (.box 119) 0,K1 2 .mv (.bool false)]) (.seq (.reg false [O1 3 (.loadN 4) 1,O1 4 (.call 95) 3,O1 5 .mv 4,G1 6 (.fld 2) 1 5 true,G1 7 .load1 6 5 true,GK 8 (.bin .neq) 7 (iV 0) 5 true,G1 9 .mv 8 5 true,G1 10 (.fld 3) 1 9 false,G1 11 .load1 10 9 false,GK 12 (.bin .neq) 11 (iV 0) 9 false,⟨(some 13),.pick,[(.t 9),(.k (.bool true)),(.t 12)],(some (5,true))⟩,⟨(some 14),.pick,[(.t 5),(.t 13),(.k (.bool false))],none⟩,O1 15 .mv 14,G1 16 (.fld 0) 1 15 true,G1 17 (.fld 0) 16 15 true,G1 18 .load1 17 15 true,GK 19 (.call 44) 18 (iV 16384) 15 true,⟨(some 20),.pick,[(.t 15),(.t 19),(.k (.bool false))],none⟩,O1 21 .mv 20,G1 22 (.fld 0) 1 21 true,G1 23 (.fld 1) 22 21 true,G1 24 .load1 23 21 true,GK 25 (.call 44) 24 (iV 16384) 21 true,⟨(some 26),.pick,[(.t 21),(.t 25),(.k (.bool false))],none⟩,O1 2 .mv 26]) .ret)),[(.s 2)]⟩
theorem x96_ok:xfn Tryz.prog Tryz.f96=some x96.er:=by kernel_rfl
def x90:XFn:=⟨11,(.seq (.reg false [O1 1 (.box 119) 0,K1 2 .mv (.bool false)]) (.seq (.reg false [O1 3 (.fld 2) 1,O1 4 .load1 3,K2 5 (.bin .eql) 4 (iV 0),O1 6 .mv 5,G1 7 (.fld 3) 1 6 true,G1 8 .load1 7 6 true,GK 9 (.bin .eql) 8 (iV 0) 6 true,⟨(some 10),.pick,[(.t 6),(.t 9),(.k (.bool false))],none⟩,O1 2 .mv 10]) .ret)),[(.s 2)]⟩
theorem x90_ok:xfn Tryz.prog Tryz.f90=some x90.er:=by kernel_rfl
def x91:XFn:=⟨10,(.seq (.reg false [O1 2 (.box 119) 0,O1 3 (.box 119) 1,K1 4 .mv (iV 0)]) (.seq (.reg false [O1 5 (.fld 0) 2,O1 6 (.loadN 2) 5,O1 7 (.fld 0) 3,O1 8 (.loadN 2) 7,O2 9 (.call 92) 6 8,O1 4 .mv 9]) .ret)),[(.s 4)]⟩
theorem x91_ok:xfn Tryz.prog Tryz.f91=some x91.er:=by kernel_rfl
def x94:XFn:=⟨6,(.seq (.reg false [O1 1 (.box 119) 0,K1 2 .mv (.bool false)]) (.seq (.reg false [O1 3 (.loadN 4) 1,O1 4 (.call 95) 3,O1 5 (.un .not) 4,O1 2 .mv 5]) .ret)),[(.s 2)]⟩
theorem x94_ok:xfn Tryz.prog Tryz.f94=some x94.er:=by kernel_rfl
def x130L0:XC:=(.seq (.reg false [O2 9 (.bin .lss) 8 7]) (.seq (.cond (.t 9) .skip (.exit 0)) (.seq (.block 1 (.seq (.reg false [O1 10 .mv 8,O1 5 .mv 10]) (.seq (.reg false [O1 11 .mv 1,O1 12 .mv 0,O1 13 .mv 5,O2 14 (.ixS 4) 12 13,O1 15 (.loadN 4) 14,O2 16 .callv 11 15]) (.cond (.t 16) (.seq (.reg false [O1 17 .mv 5,O1 4 .mv 17]) .ret) .skip)))) (.reg false [K2 18 (.bin .add) 8 (iV 1),O1 8 .mv 18]))))
def x130:XFn:=⟨19,(.seq (.reg false [K1 4 .mv (iV 0)]) (.seq (.seq (.reg false [O1 6 .mv 0,O1 7 .lenS 6,K1 8 .mv (iV 0)]) (.block 0 (.loop x130L0))) (.seq (.reg false [K1 4 .mv (iV (-1))]) .ret))),[(.s 4)]⟩
theorem x130_ok:xfn Tryz.prog Tryz.f130=some x130.er:=by kernel_rfl
def x93:XFn:=⟨9,(.seq (.reg false [K1 4 .mv (.bool false)]) (.seq (.reg false [O1 5 .mv 0,O1 6 .mv 1,O2 7 (.call 130) 5 6,K2 8 (.bin .geq) 7 (iV 0),O1 4 .mv 8]) .ret)),[(.s 4)]⟩
theorem x93_ok:xfn Tryz.prog Tryz.f93=some x93.er:=by kernel_rfl
def x79:XFn:=⟨21,(.seq (.reg false [O1 1 (.box 89) 0,K1 2 .mv (.bool false)]) (.seq (.reg false [O1 3 (.fld 0) 1,O1 4 .load1 3,K2 5 (.bin .lss) 4 (iV 0),O1 6 .mv 5,G1 7 (.fld 0) 1 6 false,G1 8 .load1 7 6 false,GK 9 (.bin .geq) 8 (iV 256) 6 false,⟨(some 10),.pick,[(.t 6),(.k (.bool true)),(.t 9)],none⟩,O1 11 .mv 10,G1 12 (.fld 1) 1 11 false,G1 13 .load1 12 11 false,GK 14 (.bin .lss) 13 (iV (-1)) 11 false,⟨(some 15),.pick,[(.t 11),(.k (.bool true)),(.t 14)],none⟩,O1 16 .mv 15,G1 17 (.fld 1) 1 16 false,G1 18 .load1 17 16 false,GK 19 (.bin .gtr) 18 (iV 1024) 16 false,⟨(some 20),.pick,[(.t 16),(.k (.bool true)),(.t 19)],none⟩,O1 2 .mv 20]) .ret)),[(.s 2)]⟩
theorem x79_ok:xfn Tryz.prog Tryz.f79=some x79.er:=by kernel_rfl
def x113:XFn:=⟨21,(.seq (.reg false [O1 1 (.box 89) 0,K1 2 .mv (.bool false)]) (.seq (.reg false [O1 3 (.fld 0) 1,O1 4 .load1 3,K2 5 (.bin .lss) 4 (iV 0),O1 6 .mv 5,G1 7 (.fld 0) 1 6 false,G1 8 .load1 7 6 false,GK 9 (.bin .geq) 8 (iV 256) 6 false,⟨(some 10),.pick,[(.t 6),(.k (.bool true)),(.t 9)],none⟩,O1 11 .mv 10,G1 12 (.fld 1) 1 11 false,G1 13 .load1 12 11 false,GK 14 (.bin .lss) 13 (iV (-1)) 11 false,⟨(some 15),.pick,[(.t 11),(.k (.bool true)),(.t 14)],none⟩,O1 16 .mv 15,G1 17 (.fld 1) 1 16 false,G1 18 .load1 17 16 false,GK 19 (.bin .gtr) 18 (iV 1024) 16 false,⟨(some 20),.pick,[(.t 16),(.k (.bool true)),(.t 19)],none⟩,O1 2 .mv 20]) .ret)),[(.s 2)]⟩
theorem x113_ok:xfn Tryz.prog Tryz.f113=some x113.er:=by kernel_rfl
def x118L0:XC:=(.seq (.reg false [O2 9 (.bin .lss) 8 7]) (.seq (.cond (.t 9) .skip (.exit 0)) (.seq (.block 1 (.seq (.reg false [O1 10 .mv 8,O1 5 .mv 10]) (.seq (.reg false [O1 11 .mv 1,O1 12 .mv 0,O1 13 .mv 5,O2 14 (.ixS 2) 12 13,O1 15 (.loadN 2) 14,O2 16 .callv 11 15]) (.cond (.t 16) (.seq (.reg false [O1 17 .mv 5,O1 4 .mv 17]) .ret) .skip)))) (.reg false [K2 18 (.bin .add) 8 (iV 1),O1 8 .mv 18]))))
def x118:XFn:=⟨19,(.seq (.reg false [K1 4 .mv (iV 0)]) (.seq (.seq (.reg false [O1 6 .mv 0,O1 7 .lenS 6,K1 8 .mv (iV 0)]) (.block 0 (.loop x118L0))) (.seq (.reg false [K1 4 .mv (iV (-1))]) .ret))),[(.s 4)]⟩
theorem x118_ok:xfn Tryz.prog Tryz.f118=some x118.er:=by kernel_rfl
def x80:XFn:=⟨9,(.seq (.reg false [K1 4 .mv (.bool false)]) (.seq (.reg false [O1 5 .mv 0,O1 6 .mv 1,O2 7 (.call 118) 5 6,K2 8 (.bin .geq) 7 (iV 0),O1 4 .mv 8]) .ret)),[(.s 4)]⟩
theorem x80_ok:xfn Tryz.prog Tryz.f80=some x80.er:=by kernel_rfl
def x45:XFn:=⟨13,(.seq (.reg false [K1 2 .mv (.bool false)]) (.seq (.reg false [⟨(some 3),.mv,[(.k (.func (.func 79) #[] #[]))],none⟩]) (.seq (.reg false [O1 4 .mv 0,O1 5 .lenS 4,K2 6 (.bin .leq) 5 (iV 32),O1 7 .mv 6,G1 8 .mv 0 7 true,G1 9 .mv 3 7 true,G2 10 (.call 80) 8 9 7 true,G1 11 (.un .not) 10 7 true,⟨(some 12),.pick,[(.t 7),(.t 11),(.k (.bool false))],none⟩,O1 2 .mv 12]) .ret))),[(.s 2)]⟩
theorem x45_ok:xfn Tryz.prog Tryz.f45=some x45.er:=by kernel_rfl
def x74:XFn:=⟨11,(.seq (.reg false [K1 2 .mv (.bool false)]) (.seq (.reg false [O1 3 .mv 0,O1 4 .lenS 3,K2 5 (.bin .leq) 4 (iV 32),O1 6 .mv 5,G1 7 .mv 0 6 true,⟨(some 8),(.call 80),[(.t 7),(.k (.func (.func 113) #[] #[]))],(some (6,true))⟩,G1 9 (.un .not) 8 6 true,⟨(some 10),.pick,[(.t 6),(.t 9),(.k (.bool false))],none⟩,O1 2 .mv 10]) .ret)),[(.s 2)]⟩
theorem x74_ok:xfn Tryz.prog Tryz.f74=some x74.er:=by kernel_rfl
def g112:Con:=fun args_ E_ nn_=>match args_ with
 | [.c (.v (.int .i64 x))]=>some (.q (True) (.o (.c (.v (.bool (false))))))
 | _=>none
theorem c112:COk Tryz.prog 112 g112:=by
 refine cok_q Tryz.func112 x112_ok (by kernel_rfl) (cok_tab cok_nil) ?_
 intro args_ E_ nn_ cr_ hg_
 unfold g112 at hg_
 split at hg_
 ·rename_i x
  cases hg_
  refine ⟨_,_,rfl,0,[],[.c (.v (.int .i64 x))],[],.o (.c (.v (.bool (false)))),rfl,rfl,and3 (by simp only [push_cast,Nat.reduceLT,Nat.reduceAdd]) ⟨rfl,trivial,rfl,?_⟩⟩
  intro hpre hlen
  refine ⟨trivial,?_⟩
  simp (maxSteps:=9999999) only [x112,push_cast,simprocAttr]
 ·cases hg_
def g73:Con:=fun args_ E_ nn_=>match args_ with
 | [.c (.v (.int .i64 x)),.c (.v (.int .i64 y))]=>some (.q (True) (.o (.c (.v (.int .i64 (cmpI x y))))))
 | _=>none
theorem c73:COk Tryz.prog 73 g73:=by
 refine cok_q Tryz.func73 x73_ok (by kernel_rfl) (cok_tab (cok_cons c112 cok_nil)) ?_
 intro args_ E_ nn_ cr_ hg_
 unfold g73 at hg_
 split at hg_
 ·rename_i x y
  cases hg_
  refine ⟨_,_,rfl,0,[],[.c (.v (.int .i64 x)),.c (.v (.int .i64 y))],[],.o (.c (.v (.int .i64 (cmpI x y)))),rfl,rfl,and3 (by simp only [push_cast,Nat.reduceLT,Nat.reduceAdd]) ⟨rfl,trivial,rfl,?_⟩⟩
  intro hpre hlen
  refine ⟨trivial,?_⟩
  simp (maxSteps:=9999999) only [x73,push_cast,simprocAttr,g112]
  unfold cmpI
  refine ⟨fun h=>by rw [if_pos h],fun h1=>⟨fun h2=>by rw [if_neg (by omega),if_pos h2],fun h2=>by rw [if_neg (by omega),if_neg (by omega)]⟩⟩
 ·cases hg_
def g72:Con:=fun args_ E_ nn_=>match args_ with
 | [.c (.n vals)]=>(match rowOf E_ vals with
  | some (vals_n,vals_s,vals_f)=>some (.q (isRow eI vals_n vals_s vals_f∧True) (.o (.c (.v (.int .i64 (firstNZ (decL eI vals_n vals_f)))))))
  | none=>none)
 | _=>none
theorem c72:COk Tryz.prog 72 g72:=by
 refine cok_q Tryz.func72 x72_ok (by kernel_rfl) (cok_tab cok_nil) ?_
 intro args_ E_ nn_ cr_ hg_
 unfold g72 at hg_
 split at hg_
 ·rename_i vals
  split at hg_
  ·rename_i vals_n vals_s vals_f h_vals
   cases hg_
   refine ⟨_,_,rfl,1,[vals],[.c (.n 0)],[(0,.ro (decL eI vals_n vals_f).length eI.sz (rowF eI (decL eI vals_n vals_f)))],.o (.c (.v (.int .i64 (firstNZ (decL eI vals_n vals_f))))),rfl,rfl,and3 (by simp only [push_cast,Nat.reduceLT,Nat.reduceAdd]) ⟨rfl,⟨inE0_row h_vals,trivial⟩,rfl,?_⟩⟩
   intro hpre hlen
   obtain ⟨i_vals,hpre⟩:=hpre
   refine ⟨⟨inE_row h_vals i_vals,trivial⟩,?_⟩
   have z_vals:=lens_row (E:=eI) hlen h_vals
   clear i_vals
   generalize decL eI vals_n vals_f=valsL at *
   clear h_vals
   simp (maxSteps:=9999999) only [x72,push_cast,simprocAttr]
   refine vcLoop_upd (α:={k:Nat // k≤valsL.length∧∀ i,i < k→valsL.getD i eI.dflt=0}) [3,6,7] 0 (fun s=>[(8,.o (.c (.v (.int .i64 (s.1:Nat)))))]) (fun s=>[]) (fun s=>valsL.length - s.1) ⟨0,by omega,fun i hi=>by omega⟩ ?_ ?_
   ·simp only [push_cast,simprocAttr]
   rintro ⟨k,hk,hall⟩
   simp only [x72L0,push_cast,simprocAttr]
   refine ⟨fun hlt=>⟨hlt,hlt,fun h=>(firstNZ_at hall hlt h).symm,fun h=>⟨⟨k+1,by omega,fun i hi=>by
    by_cases e:i=k
    ·subst e; exact h
    ·exact hall i (by omega)⟩,wrapI (by omega) (by omega),by simp only; omega⟩⟩,fun hn=>(firstNZ_none fun i hi=>hall i (by omega)).symm⟩
  ·cases hg_
 ·cases hg_
def g44:Con:=fun args_ E_ nn_=>match args_ with
 | [.c (.v (.int .i64 n)),.c (.v (.int .i64 most))]=>some (.q (0≤most∧most≤9223372036854775807) (.o (.c (.v (.bool (winB n most))))))
 | _=>none
theorem c44:COk Tryz.prog 44 g44:=by
 refine cok_q Tryz.func44 x44_ok (by kernel_rfl) (cok_tab cok_nil) ?_
 intro args_ E_ nn_ cr_ hg_
 unfold g44 at hg_
 split at hg_
 ·rename_i n most
  cases hg_
  refine ⟨_,_,rfl,0,[],[.c (.v (.int .i64 n)),.c (.v (.int .i64 most))],[],.o (.c (.v (.bool (winB n most)))),rfl,rfl,and3 (by simp only [push_cast,Nat.reduceLT,Nat.reduceAdd]) ⟨rfl,trivial,rfl,?_⟩⟩
  intro hpre hlen
  refine ⟨trivial,?_⟩
  simp (maxSteps:=9999999) only [x44,push_cast,simprocAttr]
  rw [wrapI (n:=-most) (by omega) (by omega)]
  unfold winB
  rw [Bool.eq_iff_iff]
  simp
 ·cases hg_
def g92:Con:=fun args_ E_ nn_=>match args_ with
 | [.a [.v (.int .i64 a_X),.v (.int .i64 a_Y)],.a [.v (.int .i64 b_X),.v (.int .i64 b_Y)]]=>some (.q (True) (.o (.c (.v (.int .i64 (cmpC a_X a_Y b_X b_Y))))))
 | _=>none
theorem c92:COk Tryz.prog 92 g92:=by
 refine cok_q Tryz.func92 x92_ok (by kernel_rfl) (cok_tab (cok_cons c73 (cok_cons c72 cok_nil))) ?_
 intro args_ E_ nn_ cr_ hg_
 unfold g92 at hg_
 split at hg_
 ·rename_i a_X a_Y b_X b_Y
  cases hg_
  refine ⟨_,_,rfl,0,[],[.a [.v (.int .i64 a_X),.v (.int .i64 a_Y)],.a [.v (.int .i64 b_X),.v (.int .i64 b_Y)]],[],.o (.c (.v (.int .i64 (cmpC a_X a_Y b_X b_Y)))),rfl,rfl,and3 (by simp only [push_cast,Nat.reduceLT,Nat.reduceAdd]) ⟨rfl,trivial,rfl,?_⟩⟩
  intro hpre hlen
  refine ⟨trivial,?_⟩
  have hl1:isRow eI 2 1 (litF [SC.v (Value.int IntKind.i64 (cmpI a_Y b_Y)),SC.v (Value.int IntKind.i64 (cmpI a_X b_X))] 1) ↔ True:=iff_true_intro (lits_row eI [(cmpI a_Y b_Y),(cmpI a_X b_X)]).1
  have hl2:decL eI 2 (litF [SC.v (Value.int IntKind.i64 (cmpI a_Y b_Y)),SC.v (Value.int IntKind.i64 (cmpI a_X b_X))] 1)=[(cmpI a_Y b_Y),(cmpI a_X b_X)]:=(lits_row eI [(cmpI a_Y b_Y),(cmpI a_X b_X)]).2
  simp (maxSteps:=9999999) only [x92,push_cast,simprocAttr,g73,g72,hl1,hl2]
  exact ⟨by rfl,rfl⟩
 ·cases hg_
def g95:Con:=fun args_ E_ nn_=>match args_ with
 | [.a [.v (.int .i64 e_Cell_X),.v (.int .i64 e_Cell_Y),.v (.int .i64 e_Hits),.v (.int .i64 e_Passes)]]=>some (.q (True) (.o (.c (.v (.bool (cntB (⟨e_Cell_X,e_Cell_Y,e_Hits,e_Passes⟩:EE)))))))
 | _=>none
theorem c95:COk Tryz.prog 95 g95:=by
 refine cok_q Tryz.func95 x95_ok (by kernel_rfl) (cok_tab (cok_cons c44 cok_nil)) ?_
 intro args_ E_ nn_ cr_ hg_
 unfold g95 at hg_
 split at hg_
 ·rename_i e_Cell_X e_Cell_Y e_Hits e_Passes
  cases hg_
  refine ⟨_,_,rfl,0,[],[.a [.v (.int .i64 e_Cell_X),.v (.int .i64 e_Cell_Y),.v (.int .i64 e_Hits),.v (.int .i64 e_Passes)]],[],.o (.c (.v (.bool (cntB (⟨e_Cell_X,e_Cell_Y,e_Hits,e_Passes⟩:EE))))),rfl,rfl,and3 (by simp only [push_cast,Nat.reduceLT,Nat.reduceAdd]) ⟨rfl,trivial,rfl,?_⟩⟩
  intro hpre hlen
  refine ⟨trivial,?_⟩
  simp (maxSteps:=9999999) only [x95,push_cast,simprocAttr,g44]
  rfl
 ·cases hg_
def g96:Con:=fun args_ E_ nn_=>match args_ with
 | [.a [.v (.int .i64 e_Cell_X),.v (.int .i64 e_Cell_Y),.v (.int .i64 e_Hits),.v (.int .i64 e_Passes)]]=>some (.q (True) (.o (.c (.v (.bool (goodE (⟨e_Cell_X,e_Cell_Y,e_Hits,e_Passes⟩:EE)))))))
 | _=>none
theorem c96:COk Tryz.prog 96 g96:=by
 refine cok_q Tryz.func96 x96_ok (by kernel_rfl) (cok_tab (cok_cons c95 (cok_cons c44 cok_nil))) ?_
 intro args_ E_ nn_ cr_ hg_
 unfold g96 at hg_
 split at hg_
 ·rename_i e_Cell_X e_Cell_Y e_Hits e_Passes
  cases hg_
  refine ⟨_,_,rfl,0,[],[.a [.v (.int .i64 e_Cell_X),.v (.int .i64 e_Cell_Y),.v (.int .i64 e_Hits),.v (.int .i64 e_Passes)]],[],.o (.c (.v (.bool (goodE (⟨e_Cell_X,e_Cell_Y,e_Hits,e_Passes⟩:EE))))),rfl,rfl,and3 (by simp only [push_cast,Nat.reduceLT,Nat.reduceAdd]) ⟨rfl,trivial,rfl,?_⟩⟩
  intro hpre hlen
  refine ⟨trivial,?_⟩
  simp (maxSteps:=9999999) only [x96,push_cast,simprocAttr,g95,g44]
  refine ⟨fun h1=>⟨h1,fun h2=>⟨h1,h2⟩⟩,?_⟩
  unfold goodE
  congr 3
  rw [Bool.eq_iff_iff]
  simp
 ·cases hg_
def g90:Con:=fun args_ E_ nn_=>match args_ with
 | [.a [.v (.int .i64 e_Cell_X),.v (.int .i64 e_Cell_Y),.v (.int .i64 e_Hits),.v (.int .i64 e_Passes)]]=>some (.q (True) (.o (.c (.v (.bool (zeroE (⟨e_Cell_X,e_Cell_Y,e_Hits,e_Passes⟩:EE)))))))
 | _=>none
theorem c90:COk Tryz.prog 90 g90:=by
 refine cok_q Tryz.func90 x90_ok (by kernel_rfl) (cok_tab cok_nil) ?_
 intro args_ E_ nn_ cr_ hg_
 unfold g90 at hg_
 split at hg_
 ·rename_i e_Cell_X e_Cell_Y e_Hits e_Passes
  cases hg_
  refine ⟨_,_,rfl,0,[],[.a [.v (.int .i64 e_Cell_X),.v (.int .i64 e_Cell_Y),.v (.int .i64 e_Hits),.v (.int .i64 e_Passes)]],[],.o (.c (.v (.bool (zeroE (⟨e_Cell_X,e_Cell_Y,e_Hits,e_Passes⟩:EE))))),rfl,rfl,and3 (by simp only [push_cast,Nat.reduceLT,Nat.reduceAdd]) ⟨rfl,trivial,rfl,?_⟩⟩
  intro hpre hlen
  refine ⟨trivial,?_⟩
  simp (maxSteps:=9999999) only [x90,push_cast,simprocAttr]
  unfold zeroE
  rw [Bool.eq_iff_iff]
  simp
 ·cases hg_
def g91:Con:=fun args_ E_ nn_=>match args_ with
 | [.a [.v (.int .i64 a_Cell_X),.v (.int .i64 a_Cell_Y),.v (.int .i64 a_Hits),.v (.int .i64 a_Passes)],.a [.v (.int .i64 b_Cell_X),.v (.int .i64 b_Cell_Y),.v (.int .i64 b_Hits),.v (.int .i64 b_Passes)]]=>some (.q (True) (.o (.c (.v (.int .i64 (cmpE (⟨a_Cell_X,a_Cell_Y,a_Hits,a_Passes⟩:EE) (⟨b_Cell_X,b_Cell_Y,b_Hits,b_Passes⟩:EE)))))))
 | _=>none
theorem c91:COk Tryz.prog 91 g91:=by
 refine cok_q Tryz.func91 x91_ok (by kernel_rfl) (cok_tab (cok_cons c92 cok_nil)) ?_
 intro args_ E_ nn_ cr_ hg_
 unfold g91 at hg_
 split at hg_
 ·rename_i a_Cell_X a_Cell_Y a_Hits a_Passes b_Cell_X b_Cell_Y b_Hits b_Passes
  cases hg_
  refine ⟨_,_,rfl,0,[],[.a [.v (.int .i64 a_Cell_X),.v (.int .i64 a_Cell_Y),.v (.int .i64 a_Hits),.v (.int .i64 a_Passes)],.a [.v (.int .i64 b_Cell_X),.v (.int .i64 b_Cell_Y),.v (.int .i64 b_Hits),.v (.int .i64 b_Passes)]],[],.o (.c (.v (.int .i64 (cmpE (⟨a_Cell_X,a_Cell_Y,a_Hits,a_Passes⟩:EE) (⟨b_Cell_X,b_Cell_Y,b_Hits,b_Passes⟩:EE))))),rfl,rfl,and3 (by simp only [push_cast,Nat.reduceLT,Nat.reduceAdd]) ⟨rfl,trivial,rfl,?_⟩⟩
  intro hpre hlen
  refine ⟨trivial,?_⟩
  simp (maxSteps:=9999999) only [x91,push_cast,simprocAttr,g92]
  rfl
 ·cases hg_
def g94:Con:=fun args_ E_ nn_=>match args_ with
 | [.a [.v (.int .i64 e_Cell_X),.v (.int .i64 e_Cell_Y),.v (.int .i64 e_Hits),.v (.int .i64 e_Passes)]]=>some (.q (True) (.o (.c (.v (.bool (wideE (⟨e_Cell_X,e_Cell_Y,e_Hits,e_Passes⟩:EE)))))))
 | _=>none
theorem c94:COk Tryz.prog 94 g94:=by
 refine cok_q Tryz.func94 x94_ok (by kernel_rfl) (cok_tab (cok_cons c95 cok_nil)) ?_
 intro args_ E_ nn_ cr_ hg_
 unfold g94 at hg_
 split at hg_
 ·rename_i e_Cell_X e_Cell_Y e_Hits e_Passes
  cases hg_
  refine ⟨_,_,rfl,0,[],[.a [.v (.int .i64 e_Cell_X),.v (.int .i64 e_Cell_Y),.v (.int .i64 e_Hits),.v (.int .i64 e_Passes)]],[],.o (.c (.v (.bool (wideE (⟨e_Cell_X,e_Cell_Y,e_Hits,e_Passes⟩:EE))))),rfl,rfl,and3 (by simp only [push_cast,Nat.reduceLT,Nat.reduceAdd]) ⟨rfl,trivial,rfl,?_⟩⟩
  intro hpre hlen
  refine ⟨trivial,?_⟩
  simp (maxSteps:=9999999) only [x94,push_cast,simprocAttr,g95]
  rfl
 ·cases hg_
def g130z:Con:=fun args_ E_ nn_=>match args_ with
 | [.c (.n s),.c (.v (.func (.func 90) f_a f_b))]=>(match rowOf E_ s with
  | some (s_n,s_s,s_f)=>some (.q (isRow eE s_n s_s s_f∧f_a=#[]∧f_b=#[]) (.o (.c (.v (.int .i64 (ixOf zeroE (decL eE s_n s_f)))))))
  | none=>none)
 | _=>none
theorem c130z:COk Tryz.prog 130 g130z:=by
 refine cok_q Tryz.func130 x130_ok (by kernel_rfl) (cok_tab (cok_cons c90 cok_nil)) ?_
 intro args_ E_ nn_ cr_ hg_
 unfold g130z at hg_
 split at hg_
 ·rename_i s f_a f_b
  split at hg_
  ·rename_i s_n s_s s_f h_s
   cases hg_
   refine ⟨_,_,rfl,1,[s],[.c (.n 0),.c (.v (.func (.func 90) f_a f_b))],[(0,.ro (decL eE s_n s_f).length eE.sz (rowF eE (decL eE s_n s_f)))],.o (.c (.v (.int .i64 (ixOf zeroE (decL eE s_n s_f))))),rfl,rfl,and3 (by simp only [push_cast,Nat.reduceLT,Nat.reduceAdd]) ⟨rfl,⟨inE0_row h_s,trivial⟩,rfl,?_⟩⟩
   intro hpre hlen
   obtain ⟨i_s,hpre⟩:=hpre
   refine ⟨⟨inE_row h_s i_s,trivial⟩,?_⟩
   have z_s:=lens_row (E:=eE) hlen h_s
   clear i_s
   generalize decL eE s_n s_f=sL at *
   clear h_s
   obtain ⟨rfl,rfl⟩:=hpre
   simp (maxSteps:=9999999) only [x130,push_cast,simprocAttr,g90]
   refine vcLoop_upd (α:={k:Nat // k≤sL.length∧∀ i,i < k→zeroE (sL.getD i eE.dflt)=false}) [0,1,7] 0 (fun s=>[(8,.o (.c (.v (.int .i64 (s.1:Nat)))))]) (fun s=>[]) (fun s=>sL.length - s.1) ⟨0,by omega,fun i hi=>by omega⟩ ?_ ?_
   ·simp only [push_cast,simprocAttr,g90]
   rintro ⟨k,hk,hall⟩
   simp only [x130L0,push_cast,simprocAttr,g90]
   refine ⟨fun hlt=>⟨hlt,hlt,fun hw=>(ixOf_some (p:=zeroE) (d:=eE.dflt) hlt hall hw).symm,fun hw=>?_⟩,fun hn=>?_⟩
   ·exact ⟨⟨k+1,by omega,fun i hi=>by
     by_cases h:i=k
     ·subst h; exact hw
     ·exact hall i (by omega)⟩,wrapI (by omega) (by omega),by simp only; omega⟩
   ·exact (ixOf_none (p:=zeroE) (d:=eE.dflt) (fun i hi=>hall i (by omega))).symm
  ·cases hg_
 ·cases hg_
def g130w:Con:=fun args_ E_ nn_=>match args_ with
 | [.c (.n s),.c (.v (.func (.func 94) f_a f_b))]=>(match rowOf E_ s with
  | some (s_n,s_s,s_f)=>some (.q (isRow eE s_n s_s s_f∧f_a=#[]∧f_b=#[]) (.o (.c (.v (.int .i64 (ixOf wideE (decL eE s_n s_f)))))))
  | none=>none)
 | _=>none
theorem c130w:COk Tryz.prog 130 g130w:=by
 refine cok_q Tryz.func130 x130_ok (by kernel_rfl) (cok_tab (cok_cons c94 cok_nil)) ?_
 intro args_ E_ nn_ cr_ hg_
 unfold g130w at hg_
 split at hg_
 ·rename_i s f_a f_b
  split at hg_
  ·rename_i s_n s_s s_f h_s
   cases hg_
   refine ⟨_,_,rfl,1,[s],[.c (.n 0),.c (.v (.func (.func 94) f_a f_b))],[(0,.ro (decL eE s_n s_f).length eE.sz (rowF eE (decL eE s_n s_f)))],.o (.c (.v (.int .i64 (ixOf wideE (decL eE s_n s_f))))),rfl,rfl,and3 (by simp only [push_cast,Nat.reduceLT,Nat.reduceAdd]) ⟨rfl,⟨inE0_row h_s,trivial⟩,rfl,?_⟩⟩
   intro hpre hlen
   obtain ⟨i_s,hpre⟩:=hpre
   refine ⟨⟨inE_row h_s i_s,trivial⟩,?_⟩
   have z_s:=lens_row (E:=eE) hlen h_s
   clear i_s
   generalize decL eE s_n s_f=sL at *
   clear h_s
   obtain ⟨rfl,rfl⟩:=hpre
   simp (maxSteps:=9999999) only [x130,push_cast,simprocAttr,g94]
   refine vcLoop_upd (α:={k:Nat // k≤sL.length∧∀ i,i < k→wideE (sL.getD i eE.dflt)=false}) [0,1,7] 0 (fun s=>[(8,.o (.c (.v (.int .i64 (s.1:Nat)))))]) (fun s=>[]) (fun s=>sL.length - s.1) ⟨0,by omega,fun i hi=>by omega⟩ ?_ ?_
   ·simp only [push_cast,simprocAttr,g94]
   rintro ⟨k,hk,hall⟩
   simp only [x130L0,push_cast,simprocAttr,g94]
   refine ⟨fun hlt=>⟨hlt,hlt,fun hw=>(ixOf_some (p:=wideE) (d:=eE.dflt) hlt hall hw).symm,fun hw=>?_⟩,fun hn=>?_⟩
   ·exact ⟨⟨k+1,by omega,fun i hi=>by
     by_cases h:i=k
     ·subst h; exact hw
     ·exact hall i (by omega)⟩,wrapI (by omega) (by omega),by simp only; omega⟩
   ·exact (ixOf_none (p:=wideE) (d:=eE.dflt) (fun i hi=>hall i (by omega))).symm
  ·cases hg_
 ·cases hg_
def g93:Con:=fun args_ E_ nn_=>match args_ with
 | [.c (.n s),.c (.v (.func (.func 94) f_a f_b))]=>(match rowOf E_ s with
  | some (s_n,s_s,s_f)=>some (.q (isRow eE s_n s_s s_f∧f_a=#[]∧f_b=#[]) (.o (.c (.v (.bool (((decL eE s_n s_f)).any wideE))))))
  | none=>none)
 | _=>none
theorem c93:COk Tryz.prog 93 g93:=by
 refine cok_q Tryz.func93 x93_ok (by kernel_rfl) (cok_tab (cok_cons c130w cok_nil)) ?_
 intro args_ E_ nn_ cr_ hg_
 unfold g93 at hg_
 split at hg_
 ·rename_i s f_a f_b
  split at hg_
  ·rename_i s_n s_s s_f h_s
   cases hg_
   refine ⟨_,_,rfl,1,[s],[.c (.n 0),.c (.v (.func (.func 94) f_a f_b))],[(0,.ro (decL eE s_n s_f).length eE.sz (rowF eE (decL eE s_n s_f)))],.o (.c (.v (.bool (((decL eE s_n s_f)).any wideE)))),rfl,rfl,and3 (by simp only [push_cast,Nat.reduceLT,Nat.reduceAdd]) ⟨rfl,⟨inE0_row h_s,trivial⟩,rfl,?_⟩⟩
   intro hpre hlen
   obtain ⟨i_s,hpre⟩:=hpre
   refine ⟨⟨inE_row h_s i_s,trivial⟩,?_⟩
   have z_s:=lens_row (E:=eE) hlen h_s
   clear i_s
   generalize decL eE s_n s_f=sL at *
   clear h_s
   obtain ⟨rfl,rfl⟩:=hpre
   simp (maxSteps:=9999999) only [x93,push_cast,simprocAttr,g130w]
   exact ixOf_any wideE sL
  ·cases hg_
 ·cases hg_
def g79:Con:=fun args_ E_ nn_=>match args_ with
 | [.a [.v (.int .i64 b_Mark),.v (.int .i64 b_Reading)]]=>some (.q (True) (.o (.c (.v (.bool (badB ⟨b_Mark,b_Reading⟩))))))
 | _=>none
theorem c79:COk Tryz.prog 79 g79:=by
 refine cok_q Tryz.func79 x79_ok (by kernel_rfl) (cok_tab cok_nil) ?_
 intro args_ E_ nn_ cr_ hg_
 unfold g79 at hg_
 split at hg_
 ·rename_i b_Mark b_Reading
  cases hg_
  refine ⟨_,_,rfl,0,[],[.a [.v (.int .i64 b_Mark),.v (.int .i64 b_Reading)]],[],.o (.c (.v (.bool (badB ⟨b_Mark,b_Reading⟩)))),rfl,rfl,and3 (by simp only [push_cast,Nat.reduceLT,Nat.reduceAdd]) ⟨rfl,trivial,rfl,?_⟩⟩
  intro hpre hlen
  refine ⟨trivial,?_⟩
  simp (maxSteps:=9999999) only [x79,push_cast,simprocAttr]
  unfold badB
  rw [Bool.eq_iff_iff]
  simp [or_assoc]
 ·cases hg_
def g118s:Con:=fun args_ E_ nn_=>match args_ with
 | [.c (.n s),.c (.v (.func (.func 79) f_a f_b))]=>(match rowOf E_ s with
  | some (s_n,s_s,s_f)=>some (.q (isRow eC s_n s_s s_f∧f_a=#[]∧f_b=#[]) (.o (.c (.v (.int .i64 (ixOf badB (decL eC s_n s_f)))))))
  | none=>none)
 | _=>none
theorem c118s:COk Tryz.prog 118 g118s:=by
 refine cok_q Tryz.func118 x118_ok (by kernel_rfl) (cok_tab (cok_cons c79 cok_nil)) ?_
 intro args_ E_ nn_ cr_ hg_
 unfold g118s at hg_
 split at hg_
 ·rename_i s f_a f_b
  split at hg_
  ·rename_i s_n s_s s_f h_s
   cases hg_
   refine ⟨_,_,rfl,1,[s],[.c (.n 0),.c (.v (.func (.func 79) f_a f_b))],[(0,.ro (decL eC s_n s_f).length eC.sz (rowF eC (decL eC s_n s_f)))],.o (.c (.v (.int .i64 (ixOf badB (decL eC s_n s_f))))),rfl,rfl,and3 (by simp only [push_cast,Nat.reduceLT,Nat.reduceAdd]) ⟨rfl,⟨inE0_row h_s,trivial⟩,rfl,?_⟩⟩
   intro hpre hlen
   obtain ⟨i_s,hpre⟩:=hpre
   refine ⟨⟨inE_row h_s i_s,trivial⟩,?_⟩
   have z_s:=lens_row (E:=eC) hlen h_s
   clear i_s
   generalize decL eC s_n s_f=sL at *
   clear h_s
   obtain ⟨rfl,rfl⟩:=hpre
   simp (maxSteps:=9999999) only [x118,push_cast,simprocAttr,g79]
   refine vcLoop_upd (α:={k:Nat // k≤sL.length∧∀ i,i < k→badB (sL.getD i eC.dflt)=false}) [0,1,7] 0 (fun s=>[(8,.o (.c (.v (.int .i64 (s.1:Nat)))))]) (fun s=>[]) (fun s=>sL.length - s.1) ⟨0,by omega,fun i hi=>by omega⟩ ?_ ?_
   ·simp only [push_cast,simprocAttr,g79]
   rintro ⟨k,hk,hall⟩
   simp only [x118L0,push_cast,simprocAttr,g79]
   refine ⟨fun hlt=>⟨hlt,hlt,fun hw=>(ixOf_some (p:=badB) (d:=eC.dflt) hlt hall hw).symm,fun hw=>?_⟩,fun hn=>?_⟩
   ·exact ⟨⟨k+1,by omega,fun i hi=>by
     by_cases h:i=k
     ·subst h; exact hw
     ·exact hall i (by omega)⟩,wrapI (by omega) (by omega),by simp only; omega⟩
   ·exact (ixOf_none (p:=badB) (d:=eC.dflt) (fun i hi=>hall i (by omega))).symm
  ·cases hg_
 ·cases hg_
def g80s:Con:=fun args_ E_ nn_=>match args_ with
 | [.c (.n s),.c (.v (.func (.func 79) f_a f_b))]=>(match rowOf E_ s with
  | some (s_n,s_s,s_f)=>some (.q (isRow eC s_n s_s s_f∧f_a=#[]∧f_b=#[]) (.o (.c (.v (.bool (((decL eC s_n s_f)).any badB))))))
  | none=>none)
 | _=>none
theorem c80s:COk Tryz.prog 80 g80s:=by
 refine cok_q Tryz.func80 x80_ok (by kernel_rfl) (cok_tab (cok_cons c118s cok_nil)) ?_
 intro args_ E_ nn_ cr_ hg_
 unfold g80s at hg_
 split at hg_
 ·rename_i s f_a f_b
  split at hg_
  ·rename_i s_n s_s s_f h_s
   cases hg_
   refine ⟨_,_,rfl,1,[s],[.c (.n 0),.c (.v (.func (.func 79) f_a f_b))],[(0,.ro (decL eC s_n s_f).length eC.sz (rowF eC (decL eC s_n s_f)))],.o (.c (.v (.bool (((decL eC s_n s_f)).any badB)))),rfl,rfl,and3 (by simp only [push_cast,Nat.reduceLT,Nat.reduceAdd]) ⟨rfl,⟨inE0_row h_s,trivial⟩,rfl,?_⟩⟩
   intro hpre hlen
   obtain ⟨i_s,hpre⟩:=hpre
   refine ⟨⟨inE_row h_s i_s,trivial⟩,?_⟩
   have z_s:=lens_row (E:=eC) hlen h_s
   clear i_s
   generalize decL eC s_n s_f=sL at *
   clear h_s
   obtain ⟨rfl,rfl⟩:=hpre
   simp (maxSteps:=9999999) only [x80,push_cast,simprocAttr,g118s]
   exact ixOf_any badB sL
  ·cases hg_
 ·cases hg_
def g113:Con:=fun args_ E_ nn_=>match args_ with
 | [.a [.v (.int .i64 b_Mark),.v (.int .i64 b_Reading)]]=>some (.q (True) (.o (.c (.v (.bool (badB ⟨b_Mark,b_Reading⟩))))))
 | _=>none
theorem c113:COk Tryz.prog 113 g113:=by
 refine cok_q Tryz.func113 x113_ok (by kernel_rfl) (cok_tab cok_nil) ?_
 intro args_ E_ nn_ cr_ hg_
 unfold g113 at hg_
 split at hg_
 ·rename_i b_Mark b_Reading
  cases hg_
  refine ⟨_,_,rfl,0,[],[.a [.v (.int .i64 b_Mark),.v (.int .i64 b_Reading)]],[],.o (.c (.v (.bool (badB ⟨b_Mark,b_Reading⟩)))),rfl,rfl,and3 (by simp only [push_cast,Nat.reduceLT,Nat.reduceAdd]) ⟨rfl,trivial,rfl,?_⟩⟩
  intro hpre hlen
  refine ⟨trivial,?_⟩
  simp (maxSteps:=9999999) only [x113,push_cast,simprocAttr]
  unfold badB
  rw [Bool.eq_iff_iff]
  simp [or_assoc]
 ·cases hg_
def g118v:Con:=fun args_ E_ nn_=>match args_ with
 | [.c (.n s),.c (.v (.func (.func 113) f_a f_b))]=>(match rowOf E_ s with
  | some (s_n,s_s,s_f)=>some (.q (isRow eC s_n s_s s_f∧f_a=#[]∧f_b=#[]) (.o (.c (.v (.int .i64 (ixOf badB (decL eC s_n s_f)))))))
  | none=>none)
 | _=>none
theorem c118v:COk Tryz.prog 118 g118v:=by
 refine cok_q Tryz.func118 x118_ok (by kernel_rfl) (cok_tab (cok_cons c113 cok_nil)) ?_
 intro args_ E_ nn_ cr_ hg_
 unfold g118v at hg_
 split at hg_
 ·rename_i s f_a f_b
  split at hg_
  ·rename_i s_n s_s s_f h_s
   cases hg_
   refine ⟨_,_,rfl,1,[s],[.c (.n 0),.c (.v (.func (.func 113) f_a f_b))],[(0,.ro (decL eC s_n s_f).length eC.sz (rowF eC (decL eC s_n s_f)))],.o (.c (.v (.int .i64 (ixOf badB (decL eC s_n s_f))))),rfl,rfl,and3 (by simp only [push_cast,Nat.reduceLT,Nat.reduceAdd]) ⟨rfl,⟨inE0_row h_s,trivial⟩,rfl,?_⟩⟩
   intro hpre hlen
   obtain ⟨i_s,hpre⟩:=hpre
   refine ⟨⟨inE_row h_s i_s,trivial⟩,?_⟩
   have z_s:=lens_row (E:=eC) hlen h_s
   clear i_s
   generalize decL eC s_n s_f=sL at *
   clear h_s
   obtain ⟨rfl,rfl⟩:=hpre
   simp (maxSteps:=9999999) only [x118,push_cast,simprocAttr,g113]
   refine vcLoop_upd (α:={k:Nat // k≤sL.length∧∀ i,i < k→badB (sL.getD i eC.dflt)=false}) [0,1,7] 0 (fun s=>[(8,.o (.c (.v (.int .i64 (s.1:Nat)))))]) (fun s=>[]) (fun s=>sL.length - s.1) ⟨0,by omega,fun i hi=>by omega⟩ ?_ ?_
   ·simp only [push_cast,simprocAttr,g113]
   rintro ⟨k,hk,hall⟩
   simp only [x118L0,push_cast,simprocAttr,g113]
   refine ⟨fun hlt=>⟨hlt,hlt,fun hw=>(ixOf_some (p:=badB) (d:=eC.dflt) hlt hall hw).symm,fun hw=>?_⟩,fun hn=>?_⟩
   ·exact ⟨⟨k+1,by omega,fun i hi=>by
     by_cases h:i=k
     ·subst h; exact hw
     ·exact hall i (by omega)⟩,wrapI (by omega) (by omega),by simp only; omega⟩
   ·exact (ixOf_none (p:=badB) (d:=eC.dflt) (fun i hi=>hall i (by omega))).symm
  ·cases hg_
 ·cases hg_
def g80v:Con:=fun args_ E_ nn_=>match args_ with
 | [.c (.n s),.c (.v (.func (.func 113) f_a f_b))]=>(match rowOf E_ s with
  | some (s_n,s_s,s_f)=>some (.q (isRow eC s_n s_s s_f∧f_a=#[]∧f_b=#[]) (.o (.c (.v (.bool (((decL eC s_n s_f)).any badB))))))
  | none=>none)
 | _=>none
theorem c80v:COk Tryz.prog 80 g80v:=by
 refine cok_q Tryz.func80 x80_ok (by kernel_rfl) (cok_tab (cok_cons c118v cok_nil)) ?_
 intro args_ E_ nn_ cr_ hg_
 unfold g80v at hg_
 split at hg_
 ·rename_i s f_a f_b
  split at hg_
  ·rename_i s_n s_s s_f h_s
   cases hg_
   refine ⟨_,_,rfl,1,[s],[.c (.n 0),.c (.v (.func (.func 113) f_a f_b))],[(0,.ro (decL eC s_n s_f).length eC.sz (rowF eC (decL eC s_n s_f)))],.o (.c (.v (.bool (((decL eC s_n s_f)).any badB)))),rfl,rfl,and3 (by simp only [push_cast,Nat.reduceLT,Nat.reduceAdd]) ⟨rfl,⟨inE0_row h_s,trivial⟩,rfl,?_⟩⟩
   intro hpre hlen
   obtain ⟨i_s,hpre⟩:=hpre
   refine ⟨⟨inE_row h_s i_s,trivial⟩,?_⟩
   have z_s:=lens_row (E:=eC) hlen h_s
   clear i_s
   generalize decL eC s_n s_f=sL at *
   clear h_s
   obtain ⟨rfl,rfl⟩:=hpre
   simp (maxSteps:=9999999) only [x80,push_cast,simprocAttr,g118v]
   exact ixOf_any badB sL
  ·cases hg_
 ·cases hg_
def g45:Con:=fun args_ E_ nn_=>match args_ with
 | [.c (.n s)]=>(match rowOf E_ s with
  | some (s_n,s_s,s_f)=>some (.q (isRow eC s_n s_s s_f∧True) (.o (.c (.v (.bool (scnB (decL eC s_n s_f)))))))
  | none=>none)
 | _=>none
theorem c45:COk Tryz.prog 45 g45:=by
 refine cok_q Tryz.func45 x45_ok (by kernel_rfl) (cok_tab (cok_cons c80s cok_nil)) ?_
 intro args_ E_ nn_ cr_ hg_
 unfold g45 at hg_
 split at hg_
 ·rename_i s
  split at hg_
  ·rename_i s_n s_s s_f h_s
   cases hg_
   refine ⟨_,_,rfl,1,[s],[.c (.n 0)],[(0,.ro (decL eC s_n s_f).length eC.sz (rowF eC (decL eC s_n s_f)))],.o (.c (.v (.bool (scnB (decL eC s_n s_f))))),rfl,rfl,and3 (by simp only [push_cast,Nat.reduceLT,Nat.reduceAdd]) ⟨rfl,⟨inE0_row h_s,trivial⟩,rfl,?_⟩⟩
   intro hpre hlen
   obtain ⟨i_s,hpre⟩:=hpre
   refine ⟨⟨inE_row h_s i_s,trivial⟩,?_⟩
   have z_s:=lens_row (E:=eC) hlen h_s
   clear i_s
   generalize decL eC s_n s_f=sL at *
   clear h_s
   simp (maxSteps:=9999999) only [x45,push_cast,simprocAttr,g80s]
   unfold scnB
   congr 1
   exact decide_eq_decide.2 (by omega)
  ·cases hg_
 ·cases hg_
def g74:Con:=fun args_ E_ nn_=>match args_ with
 | [.c (.n s)]=>(match rowOf E_ s with
  | some (s_n,s_s,s_f)=>some (.q (isRow eC s_n s_s s_f∧True) (.o (.c (.v (.bool (scnB (decL eC s_n s_f)))))))
  | none=>none)
 | _=>none
theorem c74:COk Tryz.prog 74 g74:=by
 refine cok_q Tryz.func74 x74_ok (by kernel_rfl) (cok_tab (cok_cons c80v cok_nil)) ?_
 intro args_ E_ nn_ cr_ hg_
 unfold g74 at hg_
 split at hg_
 ·rename_i s
  split at hg_
  ·rename_i s_n s_s s_f h_s
   cases hg_
   refine ⟨_,_,rfl,1,[s],[.c (.n 0)],[(0,.ro (decL eC s_n s_f).length eC.sz (rowF eC (decL eC s_n s_f)))],.o (.c (.v (.bool (scnB (decL eC s_n s_f))))),rfl,rfl,and3 (by simp only [push_cast,Nat.reduceLT,Nat.reduceAdd]) ⟨rfl,⟨inE0_row h_s,trivial⟩,rfl,?_⟩⟩
   intro hpre hlen
   obtain ⟨i_s,hpre⟩:=hpre
   refine ⟨⟨inE_row h_s i_s,trivial⟩,?_⟩
   have z_s:=lens_row (E:=eC) hlen h_s
   clear i_s
   generalize decL eC s_n s_f=sL at *
   clear h_s
   simp (maxSteps:=9999999) only [x74,push_cast,simprocAttr,g80v]
   unfold scnB
   congr 1
   exact decide_eq_decide.2 (by omega)
  ·cases hg_
 ·cases hg_
end Go.Proofs.YtgpbokembopapaaGreat
namespace Go.Proofs.YtgpbokembopapaaGreat
open Go.Sx Go.Way
def eTal:MEnc EE where
 k:=true
 enc:=fun e=>⟨e.X,e.Y,.agg #[.int .i64 e.X,.int .i64 e.Y,.int .i64 e.H,.int .i64 e.P],none⟩
 dec:=fun d=>⟨d.x,d.y,match d.val with | .agg cs=>intV (cs.getD 2 (.bool false)) | _=>0,match d.val with | .agg cs=>intV (cs.getD 3 (.bool false)) | _=>0⟩
 de:=fun e=>rfl
theorem eTal_k:eTal.k=true:=rfl
theorem eTal_row (e:EE):(eTal.enc e).row=none:=rfl
theorem eTal_val (e:EE):(eTal.enc e).val = .agg #[.int .i64 e.X,.int .i64 e.Y,.int .i64 e.H,.int .i64 e.P]:=rfl
theorem eTal_x (e:EE):(eTal.enc e).x=e.X:=rfl
theorem eTal_y (e:EE):(eTal.enc e).y=e.Y:=rfl
attribute [push_cast] eTal_k eTal_row eTal_val eTal_x eTal_y
def addT:List EE→Int→Int→Int→Int→List EE
 | [],x,y,h,p=>[⟨x,y,h,p⟩]
 | e :: L,x,y,h,p=>if e.X=x∧e.Y=y then ⟨x,y,e.H+h,e.P+p⟩ :: L else e :: addT L x y h p
def findT:List EE→Int→Int→Option EE
 | [],_,_=>none
 | e :: L,x,y=>if e.X=x∧e.Y=y then some e else findT L x y
theorem sameT (e:EE) (x y:Int):sameDM true (eTal.enc e) x y=decide (e.X=x∧e.Y=y):=by
 unfold sameDM; rw [Bool.eq_iff_iff]; simp [eTal]
theorem findDM_T (x y:Int):∀ L:List EE,findDM true (mapF eTal L) x y=(findT L x y).map eTal.enc
 | []=>rfl
 | e :: L=>by
  have hs:=sameT e x y
  show (if sameDM true (eTal.enc e) x y=true then some (eTal.enc e) else findDM true (mapF eTal L) x y)=_
  unfold findT
  by_cases g:e.X=x∧e.Y=y
  ·rw [decide_eq_true g] at hs; rw [if_pos hs,if_pos g]; rfl
  ·rw [decide_eq_false g] at hs; rw [if_neg (by rw [hs]; simp),if_neg g]; exact findDM_T x y L
theorem updDM_T (x y h p:Int):∀ L:List EE,updDM true (mapF eTal L) x y (.agg #[.int .i64 x,.int .i64 y,.int .i64 (match findT L x y with | some e=>e.H+h | none=>h),.int .i64 (match findT L x y with | some e=>e.P+p | none=>p)]) none=mapF eTal (addT L x y h p)
 | []=>rfl
 | e :: L=>by
  have hs:=sameT e x y
  show (if sameDM true (eTal.enc e) x y=true then _ else _)=_
  unfold addT findT
  by_cases g:e.X=x∧e.Y=y
  ·rw [decide_eq_true g] at hs; rw [if_pos hs]; simp only [if_pos g]; rfl
  ·rw [decide_eq_false g] at hs; rw [if_neg (by rw [hs]; simp)]; simp only [if_neg g]
   show eTal.enc e :: updDM true (mapF eTal L) x y _ none=eTal.enc e :: mapF eTal (addT L x y h p)
   rw [updDM_T x y h p L]
theorem findT_mem {x y:Int} {e:EE}:∀ {L:List EE},findT L x y=some e→e∈L∧e.X=x∧e.Y=y
 | a :: L,h=>by
  unfold findT at h
  split at h
  ·rename_i g; cases h; exact ⟨by simp,g⟩
  ·obtain ⟨h1,h2⟩:=findT_mem h; exact ⟨by simp [h1],h2⟩
def okT (L:List EE) (b:Int):Prop:=∀ e∈L,(-b≤e.H∧e.H≤b)∧-b≤e.P∧e.P≤b
theorem okT_add {L:List EE} {b c x y h p:Int} (hL:okT L b) (h1:-c≤h∧h≤c) (h2:-c≤p∧p≤c) (hb:0≤b) (hc:0≤c):okT (addT L x y h p) (b+c):=by
 induction L with
 | nil=>intro e he; simp only [addT,List.mem_singleton] at he; subst he; simp only; omega
 | cons a L ih=>
  intro e he
  unfold addT at he
  have ha:=hL a (by simp)
  split at he
  ·rcases List.mem_cons.1 he with rfl | g
   ·simp only; omega
   ·have:=hL e (by simp [g]); omega
  ·rcases List.mem_cons.1 he with rfl | g
   ·omega
   ·exact ih (fun e he=>hL e (by simp [he])) e g
theorem getD_ext {α:Type} {L K:List α} {d:α} (hl:L.length=K.length) (h:∀ i,i < L.length→L.getD i d=K.getD i d):L=K:=by
 apply List.ext_getElem hl
 intro i h1 h2
 have:=h i h1
 rwa [List.getD_eq_getElem?_getD,List.getD_eq_getElem?_getD,List.getElem?_eq_getElem h1,List.getElem?_eq_getElem h2] at this
theorem EE.ext4 {a b:EE} (h1:a.X=b.X) (h2:a.Y=b.Y) (h3:a.H=b.H) (h4:a.P=b.P):a=b:=by cases a; cases b; simp_all
instance:DecidableEq EE:=fun a b=>if h:a.X=b.X∧a.Y=b.Y∧a.H=b.H∧a.P=b.P then isTrue (EE.ext4 h.1 h.2.1 h.2.2.1 h.2.2.2) else isFalse fun e=>h (by rw [e]; exact ⟨rfl,rfl,rfl,rfl⟩)
theorem valE_get {L:List EE} (h:valE L=true):L.length≤1048576∧∀ k,k < L.length→okE L k=true:=by
 unfold valE at h
 simp only [Bool.and_eq_true,decide_eq_true_eq] at h
 exact ⟨h.2,h.1⟩
def x52L0:XC:=(.seq (.reg false [O2 8 (.bin .lss) 7 6]) (.seq (.cond (.t 8) .skip (.exit 0)) (.seq (.block 1 (.seq (.reg false [O1 9 .mv 7,O2 10 (.ixS 4) 5 7,O1 11 (.loadN 4) 10,⟨(some 4),(.alloc 119 [(iV 0),(iV 0),(iV 0),(iV 0)]),[],none⟩,O1 3 .mv 9,⟨none,(.store 4),[(.t 4),(.t 11)],none⟩]) (.seq (.reg true [O1 12 (.loadN 4) 4,O1 13 (.call 96) 12,O1 14 (.un .not) 13,O1 15 .mv 14,G1 16 .mv 3 15 false,GK 17 (.bin .gtr) 16 (iV 0) 15 false,G1 18 .mv 17 15 false,G1 19 .mv 0 18 true,G1 20 .mv 3 18 true,GK 21 (.bin .sub) 20 (iV 1) 18 true,G2 22 (.ixS 4) 19 21 18 true,G1 23 (.fld 0) 22 18 true,G1 24 (.loadN 2) 23 18 true,G1 25 (.fld 0) 4 18 true,G1 26 (.loadN 2) 25 18 true,G2 27 (.call 92) 24 26 18 true,GK 28 (.bin .geq) 27 (iV 0) 18 true,⟨(some 29),.pick,[(.t 18),(.t 28),(.k (.bool false))],(some (15,false))⟩,⟨(some 30),.pick,[(.t 15),(.k (.bool true)),(.t 29)],none⟩]) (.cond (.t 30) (.seq (.reg false [K1 2 .mv (.bool false)]) .ret) .skip)))) (.reg false [K2 31 (.bin .add) 7 (iV 1),O1 7 .mv 31]))))
def x52:XFn:=⟨35,(.seq (.reg false [K1 2 .mv (.bool false)]) (.seq (.seq (.reg false [O1 5 .mv 0,O1 6 .lenS 5,K1 7 .mv (iV 0)]) (.block 0 (.loop x52L0))) (.seq (.reg false [O1 32 .mv 0,O1 33 .lenS 32,K2 34 (.bin .leq) 33 (iV 1048576),O1 2 .mv 34]) .ret))),[(.s 2)]⟩
theorem x52_ok:xfn Tryz.prog Tryz.f52=some x52.er:=by kernel_rfl
def x23L0:XC:=(.seq (.seq (.reg false [O1 11 .mv 5,O1 12 .mv 0,O1 13 .lenS 12,O2 14 (.bin .lss) 11 13]) (.cond (.t 14) .skip (.exit 0))) (.seq (.block 1 (.seq (.reg true [O1 17 .mv 0,O1 18 .mv 5,O2 19 (.ixS 4) 17 18,O1 20 (.loadN 4) 19,O1 21 .mv 1,O1 22 .mv 5,O2 23 (.ixS 4) 21 22,O1 24 (.loadN 4) 23,⟨(some 25),(.eqA true [(.i .i64),(.i .i64),(.i .i64),(.i .i64)]),[(.t 20),(.t 24)],none⟩]) (.cond (.t 25) (.seq (.reg false [K1 4 .mv (.bool false)]) .ret) .skip))) (.reg false [O1 15 .mv 5,K2 16 (.bin .add) 15 (iV 1),O1 5 .mv 16])))
def x23:XFn:=⟨26,(.seq (.reg false [K1 4 .mv (.bool false)]) (.seq (.seq (.reg false [O1 6 .mv 0,O1 7 .lenS 6,O1 8 .mv 1,O1 9 .lenS 8,O2 10 (.bin .neq) 7 9]) (.cond (.t 10) (.seq (.reg false [K1 4 .mv (.bool false)]) .ret) .skip)) (.seq (.seq (.reg false [K1 5 .mv (iV 0)]) (.block 0 (.loop x23L0))) (.seq (.reg false [K1 4 .mv (.bool true)]) .ret)))),[(.s 4)]⟩
theorem x23_ok:xfn Tryz.prog Tryz.f23=some x23.er:=by kernel_rfl
def x86L0:XC:=(.seq (.reg false [O2 9 (.bin .lss) 8 7]) (.seq (.cond (.t 9) .skip (.exit 0)) (.seq (.block 1 (.seq (.reg false [O1 10 .mv 8,O1 5 .mv 10]) (.seq (.reg true [O1 11 (.loadN 2) 3,O1 12 .mv 0,O1 13 .mv 5,O2 14 (.ixS 2) 12 13,O1 15 (.loadN 2) 14,⟨(some 16),(.eqA false [(.i .i64),(.i .i64)]),[(.t 11),(.t 15)],none⟩]) (.cond (.t 16) (.seq (.reg false [O1 17 .mv 5,O1 4 .mv 17]) .ret) .skip)))) (.reg false [K2 18 (.bin .add) 8 (iV 1),O1 8 .mv 18]))))
def x86:XFn:=⟨19,(.seq (.reg false [O1 3 (.box 109) 1,K1 4 .mv (iV 0)]) (.seq (.seq (.reg false [O1 6 .mv 0,O1 7 .lenS 6,K1 8 .mv (iV 0)]) (.block 0 (.loop x86L0))) (.seq (.reg false [K1 4 .mv (iV (-1))]) .ret))),[(.s 4)]⟩
theorem x86_ok:xfn Tryz.prog Tryz.f86=some x86.er:=by kernel_rfl
def x48:XFn:=⟨9,(.seq (.reg false [O1 3 (.box 109) 1,K1 4 .mv (.bool false)]) (.seq (.reg false [O1 5 .mv 0,O1 6 (.loadN 2) 3,O2 7 (.call 86) 5 6,K2 8 (.bin .geq) 7 (iV 0),O1 4 .mv 8]) .ret)),[(.s 4)]⟩
theorem x48_ok:xfn Tryz.prog Tryz.f48=some x48.er:=by kernel_rfl
def x49:XFn:=⟨24,(.seq (.reg false [O1 5 (.box 109) 1]) (.seq (.reg false [O1 9 .mv 0,O1 10 (.loadN 2) 5,O2 11 (.call 1050177) 9 10,⟨(some 8),(.alloc 119 [(iV 0),(iV 0),(iV 0),(iV 0)]),[],none⟩,⟨none,(.store 4),[(.t 8),(.t 11)],none⟩]) (.reg false [O1 12 .mv 0,O1 13 (.loadN 2) 5,O1 14 (.loadN 2) 5,O1 15 (.fld 2) 8,O1 16 .load1 15,O1 17 .mv 2,O2 18 (.bin .add) 16 17,O1 19 (.fld 3) 8,O1 20 .load1 19,O1 21 .mv 3,O2 22 (.bin .add) 20 21,⟨(some 23),(.build [(iV 0),(iV 0),(iV 0),(iV 0)] [(0,2),(2,1),(3,1)]),[(.t 14),(.t 18),(.t 22)],none⟩,⟨none,(.call 1050178),[(.t 12),(.t 13),(.t 23)],none⟩]))),[]⟩
theorem x49_ok:xfn Tryz.prog Tryz.f49=some x49.er:=by kernel_rfl
def g52:Con:=fun args_ E_ nn_=>match args_ with
 | [.c (.n l)]=>(match rowOf E_ l with
  | some (l_n,l_s,l_f)=>some (.q (isRow eE l_n l_s l_f∧True) (.o (.c (.v (.bool (valE (decL eE l_n l_f)))))))
  | none=>none)
 | _=>none
theorem c52:COk Tryz.prog 52 g52:=by
 refine cok_q Tryz.func52 x52_ok (by kernel_rfl) (cok_tab (cok_cons c96 (cok_cons c92 cok_nil))) ?_
 intro args_ E_ nn_ cr_ hg_
 unfold g52 at hg_
 split at hg_
 ·rename_i l
  split at hg_
  ·rename_i l_n l_s l_f h_l
   cases hg_
   refine ⟨_,_,rfl,1,[l],[.c (.n 0)],[(0,.ro (decL eE l_n l_f).length eE.sz (rowF eE (decL eE l_n l_f)))],.o (.c (.v (.bool (valE (decL eE l_n l_f))))),rfl,rfl,and3 (by simp only [push_cast,Nat.reduceLT,Nat.reduceAdd]) ⟨rfl,⟨inE0_row h_l,trivial⟩,rfl,?_⟩⟩
   intro hpre hlen
   obtain ⟨i_l,hpre⟩:=hpre
   refine ⟨⟨inE_row h_l i_l,trivial⟩,?_⟩
   have z_l:=lens_row (E:=eE) hlen h_l
   clear i_l
   generalize decL eE l_n l_f=lL at *
   clear h_l
   simp (maxSteps:=9999999) only [x52,push_cast,simprocAttr,g96,g92]
   refine vcLoop_upd (α:={k:Nat // k≤lL.length∧∀ i,i < k→okE lL i=true}) [0,5,6] 0 (fun s=>[(7,.o (.c (.v (.int .i64 (s.1:Nat)))))]) (fun s=>[]) (fun s=>lL.length - s.1) ⟨0,by omega,fun i hi=>by omega⟩ ?_ ?_
   ·simp only [push_cast,simprocAttr,g96,g92]
   rintro ⟨k,hk,hall⟩
   simp only [x52L0,push_cast,simprocAttr,g96,g92]
   refine ⟨fun hlt=>?_,fun hn=>(valE_yes fun i hi=>hall i (by omega)).symm ▸ by rw [decide_eq_decide]; omega⟩
   have hk1:0 < (k:Int)→IntKind.i64.wrap ((k:Int) - 1)=((k - 1:Nat):Int):=fun h=>by rw [wrapI (by omega) (by omega)]; omega
   refine ⟨hlt,hlt,fun h1 h2=>⟨⟨h1,h2⟩,by rw [hk1 h2]; omega,by rw [hk1 h2]; omega⟩,fun h1 h2=>⟨⟨h1,h2⟩,by rw [hk1 h2]; omega⟩,fun h1=>⟨h1,fun h2=>⟨h1,h2⟩⟩,fun h=>?_,fun h1 h2=>⟨⟨k+1,by omega,fun i hi=>?_⟩,wrapI (by omega) (by omega),by simp only; omega⟩⟩
   ·refine (valE_no hlt ?_).symm
    unfold okE
    rcases h with h | ⟨h3,h4⟩
    ·rw [h,Bool.false_and]
    ·rw [hk1 h3,Int.toNat_natCast] at h4
     have:(decide (k=0) || decide (cmpE (lL.getD (k - 1) eE.dflt) (lL.getD k eE.dflt) < 0))=false:=by
      rw [Bool.or_eq_false_iff,decide_eq_false_iff_not,decide_eq_false_iff_not]
      exact ⟨by omega,by unfold cmpE; omega⟩
     rw [this,Bool.and_false]
   ·by_cases e:i=k
    ·subst e
     unfold okE
     rw [h1,Bool.true_and,Bool.or_eq_true,decide_eq_true_eq,decide_eq_true_eq]
     rcases Nat.eq_zero_or_pos i with g | g
     ·exact .inl g
     ·right
      rw [hk1 (by omega),Int.toNat_natCast,decide_eq_true (show (0:Int) < (i:Int) by omega),Bool.true_and,decide_eq_false_iff_not] at h2
      unfold cmpE; omega
    ·exact hall i (by omega)
  ·cases hg_
 ·cases hg_
def g23:Con:=fun args_ E_ nn_=>match args_ with
 | [.c (.n a),.c (.n b)]=>(match rowOf E_ a with
  | some (a_n,a_s,a_f)=>(match rowOf E_ b with
  | some (b_n,b_s,b_f)=>some (.q (isRow eE a_n a_s a_f∧isRow eE b_n b_s b_f∧True) (.o (.c (.v (.bool (decide ((decL eE a_n a_f)=(decL eE b_n b_f))))))))
  | none=>none)
  | none=>none)
 | _=>none
theorem c23:COk Tryz.prog 23 g23:=by
 refine cok_q Tryz.func23 x23_ok (by kernel_rfl) (cok_tab cok_nil) ?_
 intro args_ E_ nn_ cr_ hg_
 unfold g23 at hg_
 split at hg_
 ·rename_i a b
  split at hg_
  ·rename_i a_n a_s a_f h_a
   split at hg_
   ·rename_i b_n b_s b_f h_b
    cases hg_
    refine ⟨_,_,rfl,2,[a,b],[.c (.n 0),.c (.n 1)],[(0,.ro (decL eE a_n a_f).length eE.sz (rowF eE (decL eE a_n a_f))),(1,.ro (decL eE b_n b_f).length eE.sz (rowF eE (decL eE b_n b_f)))],.o (.c (.v (.bool (decide ((decL eE a_n a_f)=(decL eE b_n b_f)))))),rfl,rfl,and3 (by simp only [push_cast,Nat.reduceLT,Nat.reduceAdd]) ⟨rfl,⟨inE0_row h_a,inE0_row h_b,trivial⟩,rfl,?_⟩⟩
    intro hpre hlen
    obtain ⟨i_a,hpre⟩:=hpre
    obtain ⟨i_b,hpre⟩:=hpre
    refine ⟨⟨inE_row h_a i_a,inE_row h_b i_b,trivial⟩,?_⟩
    have z_a:=lens_row (E:=eE) hlen h_a
    have z_b:=lens_row (E:=eE) hlen h_b
    clear i_a
    generalize decL eE a_n a_f=aL at *
    clear i_b
    generalize decL eE b_n b_f=bL at *
    clear h_a
    clear h_b
    simp (maxSteps:=9999999) only [x23,push_cast,simprocAttr]
    refine ⟨fun h=>(decide_eq_false fun e=>h (by rw [e])).symm,fun hl=>?_⟩
    refine vcLoop_upd (α:={k:Nat // k≤aL.length∧∀ i,i < k→aL.getD i eE.dflt=bL.getD i eE.dflt}) [0,1] 0 (fun s=>[(5,.o (.c (.v (.int .i64 (s.1:Nat)))))]) (fun s=>[]) (fun s=>aL.length - s.1) ⟨0,by omega,fun i hi=>by omega⟩ ?_ ?_
    ·simp only [push_cast,simprocAttr]
    rintro ⟨k,hk,hall⟩
    simp only [x23L0,push_cast,simprocAttr]
    refine ⟨fun hlt=>⟨hlt,hlt,by omega,by omega,fun hb=>(decide_eq_false fun e=>?_).symm,fun h1 h2 h3 h4=>⟨⟨k+1,by omega,fun i hi=>?_⟩,wrapI (by omega) (by omega),by simp only; omega⟩⟩,fun hn=>(decide_eq_true (getD_ext (by omega) fun i hi=>hall i (by omega))).symm⟩
    ·rw [e] at hb; simp at hb
    ·by_cases e:i=k
     ·subst e; exact EE.ext4 h1 h2 h3 h4
     ·exact hall i (by omega)
   ·cases hg_
  ·cases hg_
 ·cases hg_
theorem mt100:mapT Tryz.prog 100=some (true,(.agg #[.int .i64 0,.int .i64 0,.int .i64 0,.int .i64 0])):=by kernel_rfl
def g1050177:Con:=lookCon false true (.agg #[.int .i64 0,.int .i64 0,.int .i64 0,.int .i64 0])
theorem c1050177:COk Tryz.prog 1050177 g1050177:=cok_look (t:=100) mt100
def g1050178:Con:=updCon true
theorem c1050178:COk Tryz.prog 1050178 g1050178:=cok_upd (t:=100) mt100
def g1050179:Con:=mkmCon true
theorem c1050179:COk Tryz.prog 1050179 g1050179:=cok_mkm (t:=100) mt100
def g49:Con:=fun args_ E_ nn_=>match args_ with
 | [.c (.n t),.a [.v (.int .i64 c_X),.v (.int .i64 c_Y)],.c (.v (.int .i64 hits)),.c (.v (.int .i64 passes))]=>(match E_ t with
  | some (.dm t_k t_l)=>some (.e (isM eTal t_k t_l∧okT (decM eTal t_l) 4611686018427387903∧(-4611686018427387904≤hits∧hits≤4611686018427387904)∧-4611686018427387904≤passes∧passes≤4611686018427387904) (.t []) [(t,.dm true (mapF eTal (addT (decM eTal t_l) c_X c_Y hits passes)))] (nn_+0))
  | _=>none)
 | _=>none
theorem c49:COk Tryz.prog 49 g49:=by
 refine cok_d Tryz.func49 x49_ok (by kernel_rfl) (cok_tab (cok_cons c1050177 (cok_cons c1050178 cok_nil))) ?_
 intro args_ E_ nn_ cr_ hg_
 unfold g49 at hg_
 split at hg_
 ·rename_i t c_X c_Y hits passes
  split at hg_
  ·rename_i t_k t_l h_t
   cases hg_
   refine ⟨_,_,_,_,rfl,1,[t],[.c (.n 0),.a [.v (.int .i64 c_X),.v (.int .i64 c_Y)],.c (.v (.int .i64 hits)),.c (.v (.int .i64 passes))],[(0,.dm eTal.k (mapF eTal (decM eTal t_l)))],.t [],[(0,.dm true (mapF eTal (addT (decM eTal t_l) c_X c_Y hits passes)))],1,rfl,rfl,by simp only [renE,Ent.ren,rowF_renf]<;>rfl,rfl,by decide,and4 (by simp only [push_cast,Nat.reduceLT,Nat.reduceAdd]) ⟨rfl,⟨⟨_,h_t⟩,trivial⟩,by simp only [keysNodup,outN,keys]<;>decide,rfl,.inr ⟨.inl rfl,trivial⟩,?_⟩⟩
   intro hpre hlen
   obtain ⟨i_t,hpre⟩:=hpre
   have hap:apartE (sg 1 nn_ [t]) [(0,.dm eTal.k (mapF eTal (decM eTal t_l)))] [(0,.dm eTal.k (mapF eTal (decM eTal t_l)))]:=by
    refine ⟨fun _ k2 e2 hm hne=>?_,?_⟩
    ·simp only [List.mem_cons,List.not_mem_nil,or_false,Prod.mk.injEq] at hm
     obtain ⟨rfl,_⟩:=hm
     exact absurd rfl hne
    trivial
   refine ⟨⟨⟨_,h_t,isM_le i_t⟩,trivial⟩,hap,?_⟩
   clear i_t
   generalize decM eTal t_l=tL at *
   clear h_t
   have hd:=findDM_T c_X c_Y tL
   cases hf:findT tL c_X c_Y with
   | none=>
    rw [hf] at hd
    simp only [Option.map_none] at hd
    simp (maxSteps:=9999999) only [x49,push_cast,simprocAttr,g1050177,g1050178,hd]
    left
    rw [wrapI (by omega) (by omega),wrapI (by omega) (by omega),Int.zero_add,Int.zero_add,← updDM_T,hf]
   | some e=>
    rw [hf] at hd
    simp only [Option.map_some] at hd
    simp (maxSteps:=9999999) only [x49,push_cast,simprocAttr,g1050177,g1050178,hd]
    have:=hpre.1 e (findT_mem hf).1
    left
    rw [wrapI (by omega) (by omega),wrapI (by omega) (by omega),← updDM_T,hf]
  ·cases hg_
 ·cases hg_
end Go.Proofs.YtgpbokembopapaaGreat
