/- A part of the proof of a statement about this seat: how a function is stepped through, and plain laws. No conditions. -/
set_option linter.unusedVariables false
namespace Go.Way
def gcd3 (x y d:Int):Int:=(Int.gcd (Int.gcd x y) d:Int)
def low (x y d:Int):Int × Int × Int:=(x / gcd3 x y d,y / gcd3 x y d,d / gcd3 x y d)
def rot:Nat→Int × Int × Int→Int × Int × Int
 | 0,v=>v
 | n+1,v=>(-(rot n v).2.1,(rot n v).1,(rot n v).2.2)
def dirV (h:Int):Int × Int × Int:=rot (h % 256 / 64).toNat (low (4096 - (h % 256 % 64) * (h % 256 % 64)) (128 * (h % 256 % 64)) (4096+(h % 256 % 64) * (h % 256 % 64)))
theorem dvd_gcd3 (x y d:Int):gcd3 x y d ∣ x∧gcd3 x y d ∣ y∧gcd3 x y d ∣ d:=by
 unfold gcd3
 refine ⟨Int.dvd_trans (Int.gcd_dvd_left ..) (Int.gcd_dvd_left ..),Int.dvd_trans (Int.gcd_dvd_left ..) (Int.gcd_dvd_right ..),Int.gcd_dvd_right ..⟩
theorem gcd3_pos {x y d:Int} (h:0 < d):0 < gcd3 x y d:=by
 unfold gcd3
 have:Int.gcd (Int.gcd x y) d≠0:=by
  intro h0
  have:=(Int.gcd_eq_zero_iff.1 h0).2
  omega
 omega
theorem tdiv_gcd3 {x y d:Int}:x.tdiv (gcd3 x y d)=x / gcd3 x y d∧y.tdiv (gcd3 x y d)=y / gcd3 x y d∧d.tdiv (gcd3 x y d)=d / gcd3 x y d:=by
 obtain ⟨h1,h2,h3⟩:=dvd_gcd3 x y d
 exact ⟨Int.tdiv_eq_ediv_of_dvd h1,Int.tdiv_eq_ediv_of_dvd h2,Int.tdiv_eq_ediv_of_dvd h3⟩
theorem dirV_mod (h:Int):dirV (h % 256)=dirV h:=by unfold dirV; rw [Int.emod_emod_of_dvd _ (by omega)]
theorem gcd_step (a b:Int) (hb:0≤b) (ha:0≤a):Int.gcd b (a.tmod b)=Int.gcd a b:=by
 obtain ⟨m,rfl⟩:=Int.eq_ofNat_of_zero_le ha
 obtain ⟨n,rfl⟩:=Int.eq_ofNat_of_zero_le hb
 rw [Int.tmod_eq_emod_of_nonneg ha]
 rw [show ((m:Int) % (n:Int))=((m % n:Nat):Int) from rfl]
 simp only [Int.gcd,Int.natAbs_natCast]
 rw [Nat.gcd_comm n,← Nat.gcd_rec n m,Nat.gcd_comm]
theorem gcd3_eq (x y d:Int):gcd3 x y d=(Int.gcd (Int.gcd d x) y:Int):=by
 unfold gcd3
 simp only [Int.gcd,Int.natAbs_natCast]
 rw [Nat.gcd_comm (Nat.gcd x.natAbs y.natAbs),Nat.gcd_assoc]
theorem gcd_abs (g x:Int):Int.gcd g (max x (-x))=Int.gcd g x:=by
 rcases Int.le_total 0 x with h | h
 ·rw [show max x (-x)=x by omega]
 ·rw [show max x (-x)=-x by omega,Int.gcd_neg]
theorem div_abs {x g:Int} (hg:0 < g) (h1:-4611686018427387904≤x) (h2:x≤4611686018427387904):-9223372036854775808≤x / g∧x / g≤9223372036854775807:=by
 rcases Int.le_total 0 x with h0 | h0
 ·have:=Int.ediv_nonneg h0 (Int.le_of_lt hg)
  have:=Int.ediv_le_self g h0
  omega
 ·have:x≤x / g:=by
   apply Int.le_ediv_of_mul_le hg
   have h3:0≤(-x) * (g - 1):=Int.mul_nonneg (by omega) (by omega)
   have e:(-x) * (g - 1)=-(x * g)+x:=by rw [Int.mul_sub,Int.neg_mul]; omega
   omega
  have:x / g≤0:=by
   have:=Int.ediv_le_ediv hg h0
   simpa using this
  omega
theorem div_bd {x g M:Int} (hg:0 < g) (h1:-M≤x) (h2:x≤M):-M≤x / g∧x / g≤M:=by
 rcases Int.le_total 0 x with h0 | h0
 ·have:=Int.ediv_nonneg h0 (Int.le_of_lt hg)
  have:=Int.ediv_le_self g h0
  omega
 ·have:x≤x / g:=by
   apply Int.le_ediv_of_mul_le hg
   have h3:0≤(-x) * (g - 1):=Int.mul_nonneg (by omega) (by omega)
   have e:(-x) * (g - 1)=-(x * g)+x:=by rw [Int.mul_sub,Int.neg_mul]; omega
   omega
  have:x / g≤0:=by
   have:=Int.ediv_le_ediv hg h0
   simpa using this
  omega
theorem rot_bd (M:Int) (v:Int × Int × Int) (h:-M≤v.1∧v.1≤M∧-M≤v.2.1∧v.2.1≤M):∀ n,-M≤(rot n v).1∧(rot n v).1≤M∧-M≤(rot n v).2.1∧(rot n v).2.1≤M
 | 0=>h
 | n+1=>by
  have:=rot_bd M v h n
  simp only [rot]
  omega
def dir0 (h:Int):Int × Int × Int:=low (4096 - (h % 256 % 64) * (h % 256 % 64)) (128 * (h % 256 % 64)) (4096+(h % 256 % 64) * (h % 256 % 64))
theorem dirV_rot (h:Int):dirV h=rot (h % 256 / 64).toNat (dir0 h):=rfl
theorem sq64 (h:Int):0≤(h % 256 % 64) * (h % 256 % 64)∧(h % 256 % 64) * (h % 256 % 64)≤4096:=by
 have h0:0≤h % 256 % 64∧h % 256 % 64≤64:=by omega
 exact ⟨Int.mul_nonneg h0.1 h0.1,by have:=Int.mul_le_mul h0.2 h0.2 h0.1 (by omega:(0:Int)≤64); omega⟩
theorem dir0_bd (h:Int):-8192≤(dir0 h).1∧(dir0 h).1≤8192∧-8192≤(dir0 h).2.1∧(dir0 h).2.1≤8192:=by
 have hs:=sq64 h
 have hg:0 < gcd3 (4096 - (h % 256 % 64) * (h % 256 % 64)) (128 * (h % 256 % 64)) (4096+(h % 256 % 64) * (h % 256 % 64)):=gcd3_pos (by omega)
 have h1:=div_bd (M:=8192) hg (x:=4096 - (h % 256 % 64) * (h % 256 % 64)) (by omega) (by omega)
 have h2:=div_bd (M:=8192) hg (x:=128 * (h % 256 % 64)) (by omega) (by omega)
 unfold dir0 low
 simp only
 exact ⟨h1.1,h1.2,h2.1,h2.2⟩
section
variable {X Y H T F eT eL eX eY:Int}
end
end Go.Way
