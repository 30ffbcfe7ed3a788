/- A part of the proof of a statement about this seat: how a function is stepped through, and plain laws. No conditions. -/
set_option linter.unusedVariables false
namespace Go.Way
def gcd3 (x y d : Int) : Int := (Int.gcd (Int.gcd x y) d : Int)
def low (x y d : Int) : Int × Int × Int := (x / gcd3 x y d, y / gcd3 x y d, d / gcd3 x y d)
def rot : Nat → Int × Int × Int → Int × Int × Int
  | 0, v => v
  | n + 1, v => (-(rot n v).2.1, (rot n v).1, (rot n v).2.2)
def dirV (h : Int) : Int × Int × Int := rot (h % 256 / 64).toNat (low (4096 - (h % 256 % 64) * (h % 256 % 64)) (128 * (h % 256 % 64)) (4096 + (h % 256 % 64) * (h % 256 % 64)))
theorem dvd_gcd3 (x y d : Int) : gcd3 x y d ∣ x ∧ gcd3 x y d ∣ y ∧ gcd3 x y d ∣ d := by
  unfold gcd3
  refine ⟨Int.dvd_trans (Int.gcd_dvd_left ..) (Int.gcd_dvd_left ..), Int.dvd_trans (Int.gcd_dvd_left ..) (Int.gcd_dvd_right ..), Int.gcd_dvd_right ..⟩
theorem gcd3_pos {x y d : Int} (h : 0 < d) : 0 < gcd3 x y d := by
  unfold gcd3
  have : Int.gcd (Int.gcd x y) d ≠ 0 := by
    intro h0
    have := (Int.gcd_eq_zero_iff.1 h0).2
    omega
  omega
theorem tdiv_gcd3 {x y d : Int} : x.tdiv (gcd3 x y d) = x / gcd3 x y d ∧ y.tdiv (gcd3 x y d) = y / gcd3 x y d ∧ d.tdiv (gcd3 x y d) = d / gcd3 x y d := by
  obtain ⟨h1, h2, h3⟩ := dvd_gcd3 x y d
  exact ⟨Int.tdiv_eq_ediv_of_dvd h1, Int.tdiv_eq_ediv_of_dvd h2, Int.tdiv_eq_ediv_of_dvd h3⟩
theorem dirV_mod (h : Int) : dirV (h % 256) = dirV h := by unfold dirV; rw [Int.emod_emod_of_dvd _ (by omega)]
theorem dirV_all : ∀ k : Fin 256, 1 ≤ (dirV k.val).2.2 ∧ (dirV k.val).2.2 ≤ 8192 ∧ (dirV k.val).1 ≤ (dirV k.val).2.2 ∧ -(dirV k.val).2.2 ≤ (dirV k.val).1 ∧ (dirV k.val).2.1 ≤ (dirV k.val).2.2 ∧ -(dirV k.val).2.2 ≤ (dirV k.val).2.1 := by decide +kernel
theorem dirV_bd (h : Int) : 1 ≤ (dirV h).2.2 ∧ (dirV h).2.2 ≤ 8192 ∧ (dirV h).1 ≤ (dirV h).2.2 ∧ -(dirV h).2.2 ≤ (dirV h).1 ∧ (dirV h).2.1 ≤ (dirV h).2.2 ∧ -(dirV h).2.2 ≤ (dirV h).2.1 := by
  rw [← dirV_mod]
  have h0 : 0 ≤ h % 256 := Int.emod_nonneg _ (by omega)
  have h1 : h % 256 < 256 := Int.emod_lt_of_pos _ (by omega)
  have := dirV_all ⟨(h % 256).toNat, by omega⟩
  rw [show (((⟨(h % 256).toNat, by omega⟩ : Fin 256).val : Nat) : Int) = h % 256 from Int.toNat_of_nonneg h0] at this
  exact this
theorem gcd_step (a b : Int) (hb : 0 ≤ b) (ha : 0 ≤ a) : Int.gcd b (a.tmod b) = Int.gcd a b := by
  obtain ⟨m, rfl⟩ := Int.eq_ofNat_of_zero_le ha
  obtain ⟨n, rfl⟩ := Int.eq_ofNat_of_zero_le hb
  rw [Int.tmod_eq_emod_of_nonneg ha]
  rw [show ((m : Int) % (n : Int)) = ((m % n : Nat) : Int) from rfl]
  simp only [Int.gcd, Int.natAbs_natCast]
  rw [Nat.gcd_comm n, ← Nat.gcd_rec n m, Nat.gcd_comm]
theorem gcd3_eq (x y d : Int) : gcd3 x y d = (Int.gcd (Int.gcd d x) y : Int) := by
  unfold gcd3
  simp only [Int.gcd, Int.natAbs_natCast]
  rw [Nat.gcd_comm (Nat.gcd x.natAbs y.natAbs), Nat.gcd_assoc]
theorem gcd_abs (g x : Int) : Int.gcd g (max x (-x)) = Int.gcd g x := by
  rcases Int.le_total 0 x with h | h
  · rw [show max x (-x) = x by omega]
  · rw [show max x (-x) = -x by omega, Int.gcd_neg]
theorem div_abs {x g : Int} (hg : 0 < g) (h1 : -4611686018427387904 ≤ x) (h2 : x ≤ 4611686018427387904) : -9223372036854775808 ≤ x / g ∧ x / g ≤ 9223372036854775807 := by
  rcases Int.le_total 0 x with h0 | h0
  · have := Int.ediv_nonneg h0 (Int.le_of_lt hg)
    have := Int.ediv_le_self g h0
    omega
  · have : x ≤ x / g := by
      apply Int.le_ediv_of_mul_le hg
      have h3 : 0 ≤ (-x) * (g - 1) := Int.mul_nonneg (by omega) (by omega)
      have e : (-x) * (g - 1) = -(x * g) + x := by rw [Int.mul_sub, Int.neg_mul]; omega
      omega
    have : x / g ≤ 0 := by
      have := Int.ediv_le_ediv hg h0
      simpa using this
    omega
theorem div_bd {x g M : Int} (hg : 0 < g) (h1 : -M ≤ x) (h2 : x ≤ M) : -M ≤ x / g ∧ x / g ≤ M := by
  rcases Int.le_total 0 x with h0 | h0
  · have := Int.ediv_nonneg h0 (Int.le_of_lt hg)
    have := Int.ediv_le_self g h0
    omega
  · have : x ≤ x / g := by
      apply Int.le_ediv_of_mul_le hg
      have h3 : 0 ≤ (-x) * (g - 1) := Int.mul_nonneg (by omega) (by omega)
      have e : (-x) * (g - 1) = -(x * g) + x := by rw [Int.mul_sub, Int.neg_mul]; omega
      omega
    have : x / g ≤ 0 := by
      have := Int.ediv_le_ediv hg h0
      simpa using this
    omega
theorem rot_bd (M : Int) (v : Int × Int × Int) (h : -M ≤ v.1 ∧ v.1 ≤ M ∧ -M ≤ v.2.1 ∧ v.2.1 ≤ M) : ∀ n, -M ≤ (rot n v).1 ∧ (rot n v).1 ≤ M ∧ -M ≤ (rot n v).2.1 ∧ (rot n v).2.1 ≤ M
  | 0 => h
  | n + 1 => by
    have := rot_bd M v h n
    simp only [rot]
    omega
def dir0 (h : Int) : Int × Int × Int := low (4096 - (h % 256 % 64) * (h % 256 % 64)) (128 * (h % 256 % 64)) (4096 + (h % 256 % 64) * (h % 256 % 64))
theorem dirV_rot (h : Int) : dirV h = rot (h % 256 / 64).toNat (dir0 h) := rfl
theorem sq64 (h : Int) : 0 ≤ (h % 256 % 64) * (h % 256 % 64) ∧ (h % 256 % 64) * (h % 256 % 64) ≤ 4096 := by
  have h0 : 0 ≤ h % 256 % 64 ∧ h % 256 % 64 ≤ 64 := by omega
  exact ⟨Int.mul_nonneg h0.1 h0.1, by have := Int.mul_le_mul h0.2 h0.2 h0.1 (by omega : (0:Int) ≤ 64); omega⟩
theorem dir0_bd (h : Int) : -8192 ≤ (dir0 h).1 ∧ (dir0 h).1 ≤ 8192 ∧ -8192 ≤ (dir0 h).2.1 ∧ (dir0 h).2.1 ≤ 8192 := by
  have hs := sq64 h
  have hg : 0 < gcd3 (4096 - (h % 256 % 64) * (h % 256 % 64)) (128 * (h % 256 % 64)) (4096 + (h % 256 % 64) * (h % 256 % 64)) := gcd3_pos (by omega)
  have h1 := div_bd (M := 8192) hg (x := 4096 - (h % 256 % 64) * (h % 256 % 64)) (by omega) (by omega)
  have h2 := div_bd (M := 8192) hg (x := 128 * (h % 256 % 64)) (by omega) (by omega)
  unfold dir0 low
  simp only
  exact ⟨h1.1, h1.2, h2.1, h2.2⟩
theorem dir_mul_bd (h n : Int) (h0 : 0 ≤ n) (h1 : n ≤ 1000000) : (-8192000000 ≤ n * (dirV h).1 ∧ n * (dirV h).1 ≤ 8192000000) ∧ (-8192000000 ≤ n * (dirV h).2.1 ∧ n * (dirV h).2.1 ≤ 8192000000) := by
  obtain ⟨d1, d2, a1, a2, b1, b2⟩ := dirV_bd h
  have key : ∀ x : Int, x ≤ 8192 → -8192 ≤ x → -8192000000 ≤ n * x ∧ n * x ≤ 8192000000 := by
    intro x hx hx'
    have e1 := Int.mul_le_mul_of_nonneg_left hx h0
    have e2 := Int.mul_le_mul_of_nonneg_left hx' h0
    omega
  exact ⟨key _ (by omega) (by omega), key _ (by omega) (by omega)⟩
theorem dir_div_bd (h n : Int) (h0 : 0 ≤ n) : (-n ≤ n * (dirV h).1 / (dirV h).2.2 ∧ n * (dirV h).1 / (dirV h).2.2 ≤ n) ∧ (-n ≤ n * (dirV h).2.1 / (dirV h).2.2 ∧ n * (dirV h).2.1 / (dirV h).2.2 ≤ n) := by
  obtain ⟨d1, d2, a1, a2, b1, b2⟩ := dirV_bd h
  have key : ∀ x : Int, x ≤ (dirV h).2.2 → -(dirV h).2.2 ≤ x → -n ≤ n * x / (dirV h).2.2 ∧ n * x / (dirV h).2.2 ≤ n := by
    intro x hx hx'
    have hd : 0 < (dirV h).2.2 := by omega
    refine ⟨Int.le_ediv_of_mul_le hd ?_, ?_⟩
    · have := Int.mul_le_mul_of_nonneg_left hx' h0
      rw [Int.mul_neg] at this
      rw [Int.neg_mul]
      exact this
    · have := Int.ediv_le_ediv hd (Int.mul_le_mul_of_nonneg_left hx h0)
      rwa [Int.mul_ediv_cancel _ (by omega)] at this
  exact ⟨key _ a1 a2, key _ b1 b2⟩
def nextS (X Y H T F eT eL eX eY : Int) : Int × Int × Int × Int :=
  if ¬ ((-1048576 ≤ X ∧ X ≤ 1048576 ∧ -1048576 ≤ Y ∧ Y ≤ 1048576 ∧ 0 ≤ H ∧ H ≤ 255) ∧ (-32 ≤ T ∧ T ≤ 32 ∧ 0 ≤ F ∧ F ≤ 32)) then (0, 0, 0, 1)
  else if ¬ ((-64 ≤ eT ∧ eT ≤ 64) ∧ (-64 ≤ eL ∧ eL ≤ 64) ∧ (-64 ≤ eX ∧ eX ≤ 64) ∧ (-64 ≤ eY ∧ eY ≤ 64)) then (0, 0, 0, 2)
  else if F = 0 then (X, Y, (H + T + eT) % 256, 0)
  else if -1048576 ≤ X + (max 0 (F + eL) * (dirV ((H + T + eT) % 256)).1 / (dirV ((H + T + eT) % 256)).2.2 + eX) ∧ X + (max 0 (F + eL) * (dirV ((H + T + eT) % 256)).1 / (dirV ((H + T + eT) % 256)).2.2 + eX) ≤ 1048576 ∧ -1048576 ≤ Y + (max 0 (F + eL) * (dirV ((H + T + eT) % 256)).2.1 / (dirV ((H + T + eT) % 256)).2.2 + eY) ∧ Y + (max 0 (F + eL) * (dirV ((H + T + eT) % 256)).2.1 / (dirV ((H + T + eT) % 256)).2.2 + eY) ≤ 1048576 then
    (X + (max 0 (F + eL) * (dirV ((H + T + eT) % 256)).1 / (dirV ((H + T + eT) % 256)).2.2 + eX), Y + (max 0 (F + eL) * (dirV ((H + T + eT) % 256)).2.1 / (dirV ((H + T + eT) % 256)).2.2 + eY), (H + T + eT) % 256, 0)
  else (0, 0, 0, 2)
section
variable {X Y H T F eT eL eX eY : Int}
theorem nextS_arg (h : ¬ (-1048576 ≤ X ∧ X ≤ 1048576 ∧ -1048576 ≤ Y ∧ Y ≤ 1048576 ∧ 0 ≤ H ∧ H ≤ 255) ∨ ¬ (-32 ≤ T ∧ T ≤ 32 ∧ 0 ≤ F ∧ F ≤ 32)) : nextS X Y H T F eT eL eX eY = (0, 0, 0, 1) := by
  unfold nextS; exact if_pos (by omega)
theorem nextS_range (h : (-1048576 ≤ X ∧ X ≤ 1048576 ∧ -1048576 ≤ Y ∧ Y ≤ 1048576 ∧ 0 ≤ H ∧ H ≤ 255) ∧ (-32 ≤ T ∧ T ≤ 32 ∧ 0 ≤ F ∧ F ≤ 32)) (h2 : ¬ ((-64 ≤ eT ∧ eT ≤ 64) ∧ (-64 ≤ eL ∧ eL ≤ 64) ∧ (-64 ≤ eX ∧ eX ≤ 64) ∧ (-64 ≤ eY ∧ eY ≤ 64))) : nextS X Y H T F eT eL eX eY = (0, 0, 0, 2) := by
  unfold nextS; rw [if_neg (by omega)]; exact if_pos h2
theorem nextS_stay (h : (-1048576 ≤ X ∧ X ≤ 1048576 ∧ -1048576 ≤ Y ∧ Y ≤ 1048576 ∧ 0 ≤ H ∧ H ≤ 255) ∧ (-32 ≤ T ∧ T ≤ 32 ∧ 0 ≤ F ∧ F ≤ 32)) (h2 : (-64 ≤ eT ∧ eT ≤ 64) ∧ (-64 ≤ eL ∧ eL ≤ 64) ∧ (-64 ≤ eX ∧ eX ≤ 64) ∧ (-64 ≤ eY ∧ eY ≤ 64)) (h3 : F = 0) : nextS X Y H T F eT eL eX eY = (X, Y, (H + T + eT) % 256, 0) := by
  unfold nextS; rw [if_neg (by omega), if_neg (by omega)]; exact if_pos h3
theorem nextS_go (h : (-1048576 ≤ X ∧ X ≤ 1048576 ∧ -1048576 ≤ Y ∧ Y ≤ 1048576 ∧ 0 ≤ H ∧ H ≤ 255) ∧ (-32 ≤ T ∧ T ≤ 32 ∧ 0 ≤ F ∧ F ≤ 32)) (h2 : (-64 ≤ eT ∧ eT ≤ 64) ∧ (-64 ≤ eL ∧ eL ≤ 64) ∧ (-64 ≤ eX ∧ eX ≤ 64) ∧ (-64 ≤ eY ∧ eY ≤ 64)) (h3 : ¬ F = 0) {dx dy : Int} (hx : max 0 (F + eL) * (dirV ((H + T + eT) % 256)).1 / (dirV ((H + T + eT) % 256)).2.2 = dx) (hy : max 0 (F + eL) * (dirV ((H + T + eT) % 256)).2.1 / (dirV ((H + T + eT) % 256)).2.2 = dy) : nextS X Y H T F eT eL eX eY = if -1048576 ≤ X + (dx + eX) ∧ X + (dx + eX) ≤ 1048576 ∧ -1048576 ≤ Y + (dy + eY) ∧ Y + (dy + eY) ≤ 1048576 then (X + (dx + eX), Y + (dy + eY), (H + T + eT) % 256, 0) else (0, 0, 0, 2) := by
  unfold nextS; rw [if_neg (by omega), if_neg (by omega), if_neg h3, hx, hy]
end
end Go.Way
namespace Go.Way
def vBd (bT bL bS bR : Int) : Prop := 0 ≤ bT ∧ bT ≤ 8 ∧ 0 ≤ bL ∧ bL ≤ 16 ∧ 0 ≤ bS ∧ bS ≤ 8 ∧ 1 ≤ bR ∧ bR ≤ 32
instance (bT bL bS bR : Int) : Decidable (vBd bT bL bS bR) := inferInstanceAs (Decidable (_ ∧ _))
def vCm (T F : Int) : Prop := -32 ≤ T ∧ T ≤ 32 ∧ 0 ≤ F ∧ F ≤ 32
instance (T F : Int) : Decidable (vCm T F) := inferInstanceAs (Decidable (_ ∧ _))
def vPs (X Y H : Int) : Prop := -1048576 ≤ X ∧ X ≤ 1048576 ∧ -1048576 ≤ Y ∧ Y ≤ 1048576 ∧ 0 ≤ H ∧ H ≤ 255
instance (X Y H : Int) : Decidable (vPs X Y H) := inferInstanceAs (Decidable (_ ∧ _))
def mvx (h n : Int) : Int := max 0 n * (dirV h).1 / (dirV h).2.2
def mvy (h n : Int) : Int := max 0 n * (dirV h).2.1 / (dirV h).2.2
theorem mv_bd (h n : Int) (hn : n ≤ 1000000) : (-1000000 ≤ mvx h n ∧ mvx h n ≤ 1000000) ∧ (-1000000 ≤ mvy h n ∧ mvy h n ≤ 1000000) := by
  obtain ⟨h1, h2⟩ := dir_div_bd h (max 0 n) (by omega)
  unfold mvx mvy
  omega
theorem mono_aux (x d a b c : Int) (hd : 0 < d) (h1 : a ≤ b) (h2 : b ≤ c) : min (a * x / d) (c * x / d) ≤ b * x / d ∧ b * x / d ≤ max (a * x / d) (c * x / d) := by
  rcases Int.le_total 0 x with hx | hx
  · have e1 := Int.ediv_le_ediv hd (Int.mul_le_mul_of_nonneg_right h1 hx)
    have e2 := Int.ediv_le_ediv hd (Int.mul_le_mul_of_nonneg_right h2 hx)
    omega
  · have e1 := Int.ediv_le_ediv hd (Int.mul_le_mul_of_nonpos_right h1 hx)
    have e2 := Int.ediv_le_ediv hd (Int.mul_le_mul_of_nonpos_right h2 hx)
    omega
theorem mvx_mono (h : Int) {a b c : Int} (h1 : a ≤ b) (h2 : b ≤ c) : min (mvx h a) (mvx h c) ≤ mvx h b ∧ mvx h b ≤ max (mvx h a) (mvx h c) :=
  mono_aux _ _ _ _ _ (by have := (dirV_bd h).1; omega) (by omega) (by omega)
theorem mvy_mono (h : Int) {a b c : Int} (h1 : a ≤ b) (h2 : b ≤ c) : min (mvy h a) (mvy h c) ≤ mvy h b ∧ mvy h b ≤ max (mvy h a) (mvy h c) :=
  mono_aux _ _ _ _ _ (by have := (dirV_bd h).1; omega) (by omega) (by omega)
def reachS (T F bT bL bS bR h : Int) : Int × Int × Int × Int × Int :=
  if ¬ (vCm T F ∧ vBd bT bL bS bR) then (0, 0, 0, 0, 1)
  else if ¬ (0 ≤ h ∧ h ≤ 255) then (0, 0, 0, 0, 2)
  else if F = 0 then (0, 0, 0, 0, 0)
  else (min (mvx h (F - bL)) (mvx h (F + bL)) - bS, min (mvy h (F - bL)) (mvy h (F + bL)) - bS, max (mvx h (F - bL)) (mvx h (F + bL)) + bS, max (mvy h (F - bL)) (mvy h (F + bL)) + bS, 0)
section
variable {T F bT bL bS bR h : Int}
theorem reachS_zero (hp : (-32 ≤ T ∧ T ≤ 32 ∧ 0 ≤ F ∧ F ≤ 32) ∧ (0 ≤ bT ∧ bT ≤ 8 ∧ 0 ≤ bL ∧ bL ≤ 16 ∧ 0 ≤ bS ∧ bS ≤ 8 ∧ 1 ≤ bR ∧ bR ≤ 32)) (h2 : 0 ≤ h ∧ h ≤ 255) (h3 : F = 0) : reachS T F bT bL bS bR h = (0, 0, 0, 0, 0) := by
  unfold reachS; rw [if_neg (by unfold vCm vBd; omega), if_neg (by omega)]; exact if_pos h3
theorem reachS_go (hp : (-32 ≤ T ∧ T ≤ 32 ∧ 0 ≤ F ∧ F ≤ 32) ∧ (0 ≤ bT ∧ bT ≤ 8 ∧ 0 ≤ bL ∧ bL ≤ 16 ∧ 0 ≤ bS ∧ bS ≤ 8 ∧ 1 ≤ bR ∧ bR ≤ 32)) (h2 : 0 ≤ h ∧ h ≤ 255) (h3 : ¬ F = 0) : reachS T F bT bL bS bR h = (min (mvx h (F - bL)) (mvx h (F + bL)) - bS, min (mvy h (F - bL)) (mvy h (F + bL)) - bS, max (mvx h (F - bL)) (mvx h (F + bL)) + bS, max (mvy h (F - bL)) (mvy h (F + bL)) + bS, 0) := by
  unfold reachS; rw [if_neg (by unfold vCm vBd; omega), if_neg (by omega)]; exact if_neg h3
end
theorem mvx_def (h n : Int) : max 0 n * (dirV h).1 / (dirV h).2.2 = mvx h n := rfl
theorem mvy_def (h n : Int) : max 0 n * (dirV h).2.1 / (dirV h).2.2 = mvy h n := rfl
def clp (n k : Int) : Int := max (-k) (min n k)
end Go.Way
namespace Go.Way
def clipS (bT bL bS bR eT eL eX eY : Int) : Int × Int × Int × Int × Int :=
  if vBd bT bL bS bR then (clp eT bT, clp eL bL, clp eX bS, clp eY bS, 0) else (0, 0, 0, 0, 1)
theorem clipS_arg {bT bL bS bR eT eL eX eY : Int} (h : ¬ (0 ≤ bT ∧ bT ≤ 8 ∧ 0 ≤ bL ∧ bL ≤ 16 ∧ 0 ≤ bS ∧ bS ≤ 8 ∧ 1 ≤ bR ∧ bR ≤ 32)) : clipS bT bL bS bR eT eL eX eY = (0, 0, 0, 0, 1) := if_neg h
theorem clipS_go {bT bL bS bR eT eL eX eY : Int} (h : 0 ≤ bT ∧ bT ≤ 8 ∧ 0 ≤ bL ∧ bL ≤ 16 ∧ 0 ≤ bS ∧ bS ≤ 8 ∧ 1 ≤ bR ∧ bR ≤ 32) : clipS bT bL bS bR eT eL eX eY = (clp eT bT, clp eL bL, clp eX bS, clp eY bS, 0) := if_pos h
def dlt (a b : Int) : Int := if 128 ≤ (b - a) % 256 then (b - a) % 256 - 256 else (b - a) % 256
def anyE (f : Int → Prop) (L : Int) : Prop := ∃ e, -L ≤ e ∧ e ≤ L ∧ f e
def fitE (dx dy tH F bS e : Int) : Prop := (-bS ≤ dx - mvx tH (F + e) ∧ dx - mvx tH (F + e) ≤ bS) ∧ (-bS ≤ dy - mvy tH (F + e) ∧ dy - mvy tH (F + e) ≤ bS)
def WithinP (bT bL bS bR fX fY fH T F tX tY tH : Int) (bump : Bool) : Prop :=
  vBd bT bL bS bR ∧ vPs fX fY fH ∧ vCm T F ∧ vPs tX tY tH ∧ (∃ t, -bT ≤ t ∧ t ≤ bT ∧ (fH + T + t) % 256 = tH) ∧
    (if bump = true ∨ F = 0 then tX - fX = 0 ∧ tY - fY = 0 else anyE (fitE (tX - fX) (tY - fY) tH F bS) bL)
open Classical in
noncomputable def withinS (bT bL bS bR fX fY fH T F tX tY tH : Int) (bump : Bool) : Bool := decide (WithinP bT bL bS bR fX fY fH T F tX tY tH bump)
theorem withinS_true {bT bL bS bR fX fY fH T F tX tY tH : Int} {bump : Bool} (h : WithinP bT bL bS bR fX fY fH T F tX tY tH bump) : withinS bT bL bS bR fX fY fH T F tX tY tH bump = true := by
  unfold withinS; exact @decide_eq_true _ (Classical.propDecidable _) h
theorem withinS_false {bT bL bS bR fX fY fH T F tX tY tH : Int} {bump : Bool} (h : ¬ WithinP bT bL bS bR fX fY fH T F tX tY tH bump) : withinS bT bL bS bR fX fY fH T F tX tY tH bump = false := by
  unfold withinS; exact @decide_eq_false _ (Classical.propDecidable _) h
theorem dlt_iff {a tH bT : Int} (h0 : 0 ≤ bT) (h1 : bT ≤ 8) (h2 : 0 ≤ tH) (h3 : tH ≤ 255) : (-bT ≤ dlt (a % 256) tH ∧ dlt (a % 256) tH ≤ bT) ↔ ∃ t, -bT ≤ t ∧ t ≤ bT ∧ (a + t) % 256 = tH := by
  unfold dlt
  constructor
  · intro h
    split at h
    · exact ⟨(tH - a % 256) % 256 - 256, by omega, by omega, by omega⟩
    · exact ⟨(tH - a % 256) % 256, by omega, by omega, by omega⟩
  · rintro ⟨t, ht1, ht2, ht3⟩
    split <;> omega
end Go.Way
namespace Go.Way
theorem withinS_eq {bT bL bS bR fX fY fH T F tX tY tH : Int} {bump b : Bool} (h : b = true ↔ WithinP bT bL bS bR fX fY fH T F tX tY tH bump) : b = withinS bT bL bS bR fX fY fH T F tX tY tH bump := by
  by_cases hp : WithinP bT bL bS bR fX fY fH T F tX tY tH bump
  · rw [withinS_true hp]; exact h.2 hp
  · rw [withinS_false hp]; cases b
    · rfl
    · exact absurd (h.1 rfl) hp
end Go.Way
namespace Go.Way
theorem follows {bT bL bS bR X Y H T F cT cL cX cY : Int} (hb : 0 ≤ bT ∧ bT ≤ 8 ∧ 0 ≤ bL ∧ bL ≤ 16 ∧ 0 ≤ bS ∧ bS ≤ 8 ∧ 1 ≤ bR ∧ bR ≤ 32)
    (k1 : -bT ≤ cT ∧ cT ≤ bT) (k2 : -bL ≤ cL ∧ cL ≤ bL) (k3 : -bS ≤ cX ∧ cX ≤ bS) (k4 : -bS ≤ cY ∧ cY ≤ bS) :
    (∃ e, nextS X Y H T F cT cL cX cY = (0, 0, 0, e) ∧ e ≠ 0) ∨
    ∃ x y h r0 r1 r2 r3, nextS X Y H T F cT cL cX cY = (x, y, h, 0) ∧ reachS T F bT bL bS bR h = (r0, r1, r2, r3, 0) ∧
      withinS bT bL bS bR X Y H T F x y h false = true ∧ withinS bT bL bS bR X Y H T F X Y h true = true ∧ r0 ≤ x - X ∧ x - X ≤ r2 ∧ r1 ≤ y - Y ∧ y - Y ≤ r3 ∧ -10000000 ≤ x - X ∧ x - X ≤ 10000000 ∧ -10000000 ≤ y - Y ∧ y - Y ≤ 10000000 := by
  by_cases h1 : (-1048576 ≤ X ∧ X ≤ 1048576 ∧ -1048576 ≤ Y ∧ Y ≤ 1048576 ∧ 0 ≤ H ∧ H ≤ 255) ∧ (-32 ≤ T ∧ T ≤ 32 ∧ 0 ≤ F ∧ F ≤ 32)
  · have hT : ∃ t, -bT ≤ t ∧ t ≤ bT ∧ (H + T + t) % 256 = (H + T + cT) % 256 := ⟨cT, k1.1, k1.2, rfl⟩
    have hh : 0 ≤ (H + T + cT) % 256 ∧ (H + T + cT) % 256 ≤ 255 := by omega
    by_cases h3 : F = 0
    · refine .inr ⟨X, Y, (H + T + cT) % 256, 0, 0, 0, 0, nextS_stay h1 (by omega) h3, reachS_zero ⟨h1.2, hb⟩ hh h3, withinS_true ⟨hb, h1.1, h1.2, ⟨by omega, by omega, by omega, by omega, hh.1, hh.2⟩, hT, ?_⟩, withinS_true ⟨hb, h1.1, h1.2, ⟨by omega, by omega, by omega, by omega, hh.1, hh.2⟩, hT, ?_⟩, by omega, by omega, by omega, by omega, by omega, by omega, by omega, by omega⟩
      · rw [if_pos (.inr h3)]; omega
      · rw [if_pos (.inl rfl)]; omega
    · have e := nextS_go (eT := cT) (eL := cL) (eX := cX) (eY := cY) h1 (by omega) h3 (mvx_def _ _) (mvy_def _ _)
      have m1 := mvx_mono ((H + T + cT) % 256) (show F - bL ≤ F + cL by omega) (show F + cL ≤ F + bL by omega)
      have m2 := mvy_mono ((H + T + cT) % 256) (show F - bL ≤ F + cL by omega) (show F + cL ≤ F + bL by omega)
      by_cases h4 : -1048576 ≤ X + (mvx ((H + T + cT) % 256) (F + cL) + cX) ∧ X + (mvx ((H + T + cT) % 256) (F + cL) + cX) ≤ 1048576 ∧ -1048576 ≤ Y + (mvy ((H + T + cT) % 256) (F + cL) + cY) ∧ Y + (mvy ((H + T + cT) % 256) (F + cL) + cY) ≤ 1048576
      · rw [if_pos h4] at e
        refine .inr ⟨_, _, _, _, _, _, _, e, reachS_go ⟨h1.2, hb⟩ hh h3, withinS_true ⟨hb, h1.1, h1.2, ⟨h4.1, h4.2.1, h4.2.2.1, h4.2.2.2, hh.1, hh.2⟩, hT, ?_⟩, withinS_true ⟨hb, h1.1, h1.2, ⟨by omega, by omega, by omega, by omega, hh.1, hh.2⟩, hT, ?_⟩, by omega, by omega, by omega, by omega, by omega, by omega, by omega, by omega⟩
        · rw [if_neg (fun h5 => h5.elim (fun h6 => absurd h6 (by decide)) h3)]
          refine ⟨cL, k2.1, k2.2, ?_⟩
          unfold fitE
          omega
        · rw [if_pos (.inl rfl)]; omega
      · rw [if_neg h4] at e
        exact .inl ⟨2, e, by decide⟩
  · exact .inl ⟨1, nextS_arg (by omega), by decide⟩
end Go.Way
