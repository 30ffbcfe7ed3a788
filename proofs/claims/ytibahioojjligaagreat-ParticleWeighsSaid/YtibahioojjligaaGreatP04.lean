/- A part of the proof of a statement about this seat: how a function is stepped through, and plain laws. No conditions. -/
set_option linter.unusedVariables false
namespace Go.Way

/-- The greatest common factor of three numbers. -/
def gcd3 (x y d : Int) : Int := (Int.gcd (Int.gcd x y) d : Int)
/-- In lowest terms. -/
def low (x y d : Int) : Int × Int × Int := (x / gcd3 x y d, y / gcd3 x y d, d / gcd3 x y d)
def rot : Nat → Int × Int × Int → Int × Int × Int
  | 0, v => v
  | n + 1, v => (-(rot n v).2.1, (rot n v).1, (rot n v).2.2)
/-- The direction of a mark. -/
def dirV (h : Int) : Int × Int × Int := rot (h % 256 / 64).toNat (low (4096 - (h % 256 % 64) * (h % 256 % 64)) (128 * (h % 256 % 64)) (4096 + (h % 256 % 64) * (h % 256 % 64)))

theorem dvd_gcd3 (x y d : Int) : gcd3 x y d ∣ x ∧ gcd3 x y d ∣ y ∧ gcd3 x y d ∣ d := by
  unfold gcd3
  refine ⟨Int.dvd_trans (Int.gcd_dvd_left ..) (Int.gcd_dvd_left ..), Int.dvd_trans (Int.gcd_dvd_left ..) (Int.gcd_dvd_right ..), Int.gcd_dvd_right ..⟩

theorem gcd3_pos {x y d : Int} (h : 0 < d) : 0 < gcd3 x y d := by
  unfold gcd3
  have : Int.gcd (Int.gcd x y) d ≠ 0 := by
    intro h0
    have := (Int.gcd_eq_zero_iff.1 h0).2
    omega
  omega

theorem tdiv_gcd3 {x y d : Int} : x.tdiv (gcd3 x y d) = x / gcd3 x y d ∧ y.tdiv (gcd3 x y d) = y / gcd3 x y d ∧ d.tdiv (gcd3 x y d) = d / gcd3 x y d := by
  obtain ⟨h1, h2, h3⟩ := dvd_gcd3 x y d
  exact ⟨Int.tdiv_eq_ediv_of_dvd h1, Int.tdiv_eq_ediv_of_dvd h2, Int.tdiv_eq_ediv_of_dvd h3⟩

theorem dirV_mod (h : Int) : dirV (h % 256) = dirV h := by unfold dirV; rw [Int.emod_emod_of_dvd _ (by omega)]

/-- All directions, looked at one by one. -/
theorem dirV_all : ∀ k : Fin 256, 1 ≤ (dirV k.val).2.2 ∧ (dirV k.val).2.2 ≤ 8192 ∧ (dirV k.val).1 ≤ (dirV k.val).2.2 ∧ -(dirV k.val).2.2 ≤ (dirV k.val).1 ∧ (dirV k.val).2.1 ≤ (dirV k.val).2.2 ∧ -(dirV k.val).2.2 ≤ (dirV k.val).2.1 := by decide +kernel

theorem dirV_bd (h : Int) : 1 ≤ (dirV h).2.2 ∧ (dirV h).2.2 ≤ 8192 ∧ (dirV h).1 ≤ (dirV h).2.2 ∧ -(dirV h).2.2 ≤ (dirV h).1 ∧ (dirV h).2.1 ≤ (dirV h).2.2 ∧ -(dirV h).2.2 ≤ (dirV h).2.1 := by
  rw [← dirV_mod]
  have h0 : 0 ≤ h % 256 := Int.emod_nonneg _ (by omega)
  have h1 : h % 256 < 256 := Int.emod_lt_of_pos _ (by omega)
  have := dirV_all ⟨(h % 256).toNat, by omega⟩
  rw [show (((⟨(h % 256).toNat, by omega⟩ : Fin 256).val : Nat) : Int) = h % 256 from Int.toNat_of_nonneg h0] at this
  exact this

theorem gcd_step (a b : Int) (hb : 0 ≤ b) (ha : 0 ≤ a) : Int.gcd b (a.tmod b) = Int.gcd a b := by
  obtain ⟨m, rfl⟩ := Int.eq_ofNat_of_zero_le ha
  obtain ⟨n, rfl⟩ := Int.eq_ofNat_of_zero_le hb
  rw [Int.tmod_eq_emod_of_nonneg ha]
  rw [show ((m : Int) % (n : Int)) = ((m % n : Nat) : Int) from rfl]
  simp only [Int.gcd, Int.natAbs_natCast]
  rw [Nat.gcd_comm n, ← Nat.gcd_rec n m, Nat.gcd_comm]

theorem gcd3_eq (x y d : Int) : gcd3 x y d = (Int.gcd (Int.gcd d x) y : Int) := by
  unfold gcd3
  simp only [Int.gcd, Int.natAbs_natCast]
  rw [Nat.gcd_comm (Nat.gcd x.natAbs y.natAbs), Nat.gcd_assoc]

theorem gcd3_le {x y d : Int} (h : 0 < d) : gcd3 x y d ≤ d := Int.le_of_dvd h (dvd_gcd3 x y d).2.2

theorem gcd_abs (g x : Int) : Int.gcd g (max x (-x)) = Int.gcd g x := by
  rcases Int.le_total 0 x with h | h
  · rw [show max x (-x) = x by omega]
  · rw [show max x (-x) = -x by omega, Int.gcd_neg]

theorem div_abs {x g : Int} (hg : 0 < g) (h1 : -4611686018427387904 ≤ x) (h2 : x ≤ 4611686018427387904) : -9223372036854775808 ≤ x / g ∧ x / g ≤ 9223372036854775807 := by
  rcases Int.le_total 0 x with h0 | h0
  · have := Int.ediv_nonneg h0 (Int.le_of_lt hg)
    have := Int.ediv_le_self g h0
    omega
  · have : x ≤ x / g := by
      apply Int.le_ediv_of_mul_le hg
      have h3 : 0 ≤ (-x) * (g - 1) := Int.mul_nonneg (by omega) (by omega)
      have e : (-x) * (g - 1) = -(x * g) + x := by rw [Int.mul_sub, Int.neg_mul]; omega
      omega
    have : x / g ≤ 0 := by
      have := Int.ediv_le_ediv hg h0
      simpa using this
    omega

theorem div_bd {x g M : Int} (hg : 0 < g) (h1 : -M ≤ x) (h2 : x ≤ M) : -M ≤ x / g ∧ x / g ≤ M := by
  rcases Int.le_total 0 x with h0 | h0
  · have := Int.ediv_nonneg h0 (Int.le_of_lt hg)
    have := Int.ediv_le_self g h0
    omega
  · have : x ≤ x / g := by
      apply Int.le_ediv_of_mul_le hg
      have h3 : 0 ≤ (-x) * (g - 1) := Int.mul_nonneg (by omega) (by omega)
      have e : (-x) * (g - 1) = -(x * g) + x := by rw [Int.mul_sub, Int.neg_mul]; omega
      omega
    have : x / g ≤ 0 := by
      have := Int.ediv_le_ediv hg h0
      simpa using this
    omega

theorem rot_bd (M : Int) (v : Int × Int × Int) (h : -M ≤ v.1 ∧ v.1 ≤ M ∧ -M ≤ v.2.1 ∧ v.2.1 ≤ M) : ∀ n, -M ≤ (rot n v).1 ∧ (rot n v).1 ≤ M ∧ -M ≤ (rot n v).2.1 ∧ (rot n v).2.1 ≤ M
  | 0 => h
  | n + 1 => by
    have := rot_bd M v h n
    simp only [rot]
    omega
theorem rot_d (v : Int × Int × Int) : ∀ n, (rot n v).2.2 = v.2.2
  | 0 => rfl
  | n + 1 => rot_d v n

/-- The vector of a quarter, not turned. -/
def dir0 (h : Int) : Int × Int × Int := low (4096 - (h % 256 % 64) * (h % 256 % 64)) (128 * (h % 256 % 64)) (4096 + (h % 256 % 64) * (h % 256 % 64))
theorem dirV_rot (h : Int) : dirV h = rot (h % 256 / 64).toNat (dir0 h) := rfl
theorem sq64 (h : Int) : 0 ≤ (h % 256 % 64) * (h % 256 % 64) ∧ (h % 256 % 64) * (h % 256 % 64) ≤ 4096 := by
  have h0 : 0 ≤ h % 256 % 64 ∧ h % 256 % 64 ≤ 64 := by omega
  exact ⟨Int.mul_nonneg h0.1 h0.1, by have := Int.mul_le_mul h0.2 h0.2 h0.1 (by omega : (0:Int) ≤ 64); omega⟩
theorem dir0_bd (h : Int) : -8192 ≤ (dir0 h).1 ∧ (dir0 h).1 ≤ 8192 ∧ -8192 ≤ (dir0 h).2.1 ∧ (dir0 h).2.1 ≤ 8192 := by
  have hs := sq64 h
  have hg : 0 < gcd3 (4096 - (h % 256 % 64) * (h % 256 % 64)) (128 * (h % 256 % 64)) (4096 + (h % 256 % 64) * (h % 256 % 64)) := gcd3_pos (by omega)
  have h1 := div_bd (M := 8192) hg (x := 4096 - (h % 256 % 64) * (h % 256 % 64)) (by omega) (by omega)
  have h2 := div_bd (M := 8192) hg (x := 128 * (h % 256 % 64)) (by omega) (by omega)
  unfold dir0 low
  simp only
  exact ⟨h1.1, h1.2, h2.1, h2.2⟩

theorem dir_mul_bd (h n : Int) (h0 : 0 ≤ n) (h1 : n ≤ 1000000) : (-8192000000 ≤ n * (dirV h).1 ∧ n * (dirV h).1 ≤ 8192000000) ∧ (-8192000000 ≤ n * (dirV h).2.1 ∧ n * (dirV h).2.1 ≤ 8192000000) := by
  obtain ⟨d1, d2, a1, a2, b1, b2⟩ := dirV_bd h
  have key : ∀ x : Int, x ≤ 8192 → -8192 ≤ x → -8192000000 ≤ n * x ∧ n * x ≤ 8192000000 := by
    intro x hx hx'
    have e1 := Int.mul_le_mul_of_nonneg_left hx h0
    have e2 := Int.mul_le_mul_of_nonneg_left hx' h0
    omega
  exact ⟨key _ (by omega) (by omega), key _ (by omega) (by omega)⟩

theorem dir_div_bd (h n : Int) (h0 : 0 ≤ n) : (-n ≤ n * (dirV h).1 / (dirV h).2.2 ∧ n * (dirV h).1 / (dirV h).2.2 ≤ n) ∧ (-n ≤ n * (dirV h).2.1 / (dirV h).2.2 ∧ n * (dirV h).2.1 / (dirV h).2.2 ≤ n) := by
  obtain ⟨d1, d2, a1, a2, b1, b2⟩ := dirV_bd h
  have key : ∀ x : Int, x ≤ (dirV h).2.2 → -(dirV h).2.2 ≤ x → -n ≤ n * x / (dirV h).2.2 ∧ n * x / (dirV h).2.2 ≤ n := by
    intro x hx hx'
    have hd : 0 < (dirV h).2.2 := by omega
    refine ⟨Int.le_ediv_of_mul_le hd ?_, ?_⟩
    · have := Int.mul_le_mul_of_nonneg_left hx' h0
      rw [Int.mul_neg] at this
      rw [Int.neg_mul]
      exact this
    · have := Int.ediv_le_ediv hd (Int.mul_le_mul_of_nonneg_left hx h0)
      rwa [Int.mul_ediv_cancel _ (by omega)] at this
  exact ⟨key _ a1 a2, key _ b1 b2⟩

/-- The pose after a motion without walls, and its error. -/
def nextS (X Y H T F eT eL eX eY : Int) : Int × Int × Int × Int :=
  if ¬ ((-1048576 ≤ X ∧ X ≤ 1048576 ∧ -1048576 ≤ Y ∧ Y ≤ 1048576 ∧ 0 ≤ H ∧ H ≤ 255) ∧ (-32 ≤ T ∧ T ≤ 32 ∧ 0 ≤ F ∧ F ≤ 32)) then (0, 0, 0, 1)
  else if ¬ ((-64 ≤ eT ∧ eT ≤ 64) ∧ (-64 ≤ eL ∧ eL ≤ 64) ∧ (-64 ≤ eX ∧ eX ≤ 64) ∧ (-64 ≤ eY ∧ eY ≤ 64)) then (0, 0, 0, 2)
  else if F = 0 then (X, Y, (H + T + eT) % 256, 0)
  else if -1048576 ≤ X + (max 0 (F + eL) * (dirV ((H + T + eT) % 256)).1 / (dirV ((H + T + eT) % 256)).2.2 + eX) ∧ X + (max 0 (F + eL) * (dirV ((H + T + eT) % 256)).1 / (dirV ((H + T + eT) % 256)).2.2 + eX) ≤ 1048576 ∧ -1048576 ≤ Y + (max 0 (F + eL) * (dirV ((H + T + eT) % 256)).2.1 / (dirV ((H + T + eT) % 256)).2.2 + eY) ∧ Y + (max 0 (F + eL) * (dirV ((H + T + eT) % 256)).2.1 / (dirV ((H + T + eT) % 256)).2.2 + eY) ≤ 1048576 then
    (X + (max 0 (F + eL) * (dirV ((H + T + eT) % 256)).1 / (dirV ((H + T + eT) % 256)).2.2 + eX), Y + (max 0 (F + eL) * (dirV ((H + T + eT) % 256)).2.1 / (dirV ((H + T + eT) % 256)).2.2 + eY), (H + T + eT) % 256, 0)
  else (0, 0, 0, 2)

section
variable {X Y H T F eT eL eX eY : Int}
theorem nextS_arg (h : ¬ (-1048576 ≤ X ∧ X ≤ 1048576 ∧ -1048576 ≤ Y ∧ Y ≤ 1048576 ∧ 0 ≤ H ∧ H ≤ 255) ∨ ¬ (-32 ≤ T ∧ T ≤ 32 ∧ 0 ≤ F ∧ F ≤ 32)) : nextS X Y H T F eT eL eX eY = (0, 0, 0, 1) := by
  unfold nextS; exact if_pos (by omega)
theorem nextS_range (h : (-1048576 ≤ X ∧ X ≤ 1048576 ∧ -1048576 ≤ Y ∧ Y ≤ 1048576 ∧ 0 ≤ H ∧ H ≤ 255) ∧ (-32 ≤ T ∧ T ≤ 32 ∧ 0 ≤ F ∧ F ≤ 32)) (h2 : ¬ ((-64 ≤ eT ∧ eT ≤ 64) ∧ (-64 ≤ eL ∧ eL ≤ 64) ∧ (-64 ≤ eX ∧ eX ≤ 64) ∧ (-64 ≤ eY ∧ eY ≤ 64))) : nextS X Y H T F eT eL eX eY = (0, 0, 0, 2) := by
  unfold nextS; rw [if_neg (by omega)]; exact if_pos h2
theorem nextS_stay (h : (-1048576 ≤ X ∧ X ≤ 1048576 ∧ -1048576 ≤ Y ∧ Y ≤ 1048576 ∧ 0 ≤ H ∧ H ≤ 255) ∧ (-32 ≤ T ∧ T ≤ 32 ∧ 0 ≤ F ∧ F ≤ 32)) (h2 : (-64 ≤ eT ∧ eT ≤ 64) ∧ (-64 ≤ eL ∧ eL ≤ 64) ∧ (-64 ≤ eX ∧ eX ≤ 64) ∧ (-64 ≤ eY ∧ eY ≤ 64)) (h3 : F = 0) : nextS X Y H T F eT eL eX eY = (X, Y, (H + T + eT) % 256, 0) := by
  unfold nextS; rw [if_neg (by omega), if_neg (by omega)]; exact if_pos h3
theorem nextS_go (h : (-1048576 ≤ X ∧ X ≤ 1048576 ∧ -1048576 ≤ Y ∧ Y ≤ 1048576 ∧ 0 ≤ H ∧ H ≤ 255) ∧ (-32 ≤ T ∧ T ≤ 32 ∧ 0 ≤ F ∧ F ≤ 32)) (h2 : (-64 ≤ eT ∧ eT ≤ 64) ∧ (-64 ≤ eL ∧ eL ≤ 64) ∧ (-64 ≤ eX ∧ eX ≤ 64) ∧ (-64 ≤ eY ∧ eY ≤ 64)) (h3 : ¬ F = 0) {dx dy : Int} (hx : max 0 (F + eL) * (dirV ((H + T + eT) % 256)).1 / (dirV ((H + T + eT) % 256)).2.2 = dx) (hy : max 0 (F + eL) * (dirV ((H + T + eT) % 256)).2.1 / (dirV ((H + T + eT) % 256)).2.2 = dy) : nextS X Y H T F eT eL eX eY = if -1048576 ≤ X + (dx + eX) ∧ X + (dx + eX) ≤ 1048576 ∧ -1048576 ≤ Y + (dy + eY) ∧ Y + (dy + eY) ≤ 1048576 then (X + (dx + eX), Y + (dy + eY), (H + T + eT) % 256, 0) else (0, 0, 0, 2) := by
  unfold nextS; rw [if_neg (by omega), if_neg (by omega), if_neg h3, hx, hy]
end

end Go.Way
