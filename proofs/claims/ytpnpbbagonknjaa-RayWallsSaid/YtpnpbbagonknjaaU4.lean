/- A part of the proof of a statement about this seat: how a function is stepped through, and plain laws. No conditions. -/
import Derived.Test.YtpnpbbagonknjaaRows
import Derived.Test.YtpnpbbagonknjaaSz3
import Derived.Test.YtpnpbbagonknjaaU3
import Derived.KernelRfl
set_option linter.unusedVariables false
set_option linter.unusedSimpArgs false
set_option maxRecDepth 20000
namespace Go.Proofs.Ytpnpbbagonknjaa
open Go.Sx Go.Way
/-! ### Laws of the first wall -/
theorem lt_ge (a b : Int) : a < b ∨ b ≤ a := by omega
theorem sq_le {a c : Int} (hc : 0 ≤ c) (h : a * a ≤ c * c) : -c ≤ a ∧ a ≤ c := by
  have key : ∀ b : Int, b * b ≤ c * c → b ≤ c := fun b hb => by
    rcases lt_ge c b with h1 | h1
    · have := Int.mul_le_mul (show c + 1 ≤ b by omega) (show c + 1 ≤ b by omega) (by omega) (by omega)
      have e : (c + 1) * (c + 1) = c * c + 2 * c + 1 := by grind
      omega
    · exact h1
  have := key (-a) (by rw [Int.neg_mul_neg]; exact h)
  exact ⟨by omega, key a h⟩
theorem low_vec {x y d : Int} (h1 : 1 ≤ d) (h2 : d ≤ 67108864) (h : x * x + y * y = d * d) : vecB (low x y d).1 (low x y d).2.1 (low x y d).2.2 = true := by
  have hg := gcd3_pos (x := x) (y := y) (d := d) (by omega)
  obtain ⟨k1, k2, k3⟩ := dvd_gcd3 x y d
  have e1 := Int.ediv_mul_cancel k1
  have e2 := Int.ediv_mul_cancel k2
  have e3 := Int.ediv_mul_cancel k3
  have p1 := Int.ediv_pos_of_pos_of_dvd (show 0 < d by omega) (Int.le_of_lt hg) k3
  have p2 : d / gcd3 x y d ≤ d := Int.ediv_le_self _ (by omega)
  unfold low vecB
  simp only
  clear k1 k2 k3
  generalize x / gcd3 x y d = a at *
  generalize y / gcd3 x y d = b at *
  generalize d / gcd3 x y d = c at *
  generalize gcd3 x y d = g at *
  have e : (a * a + b * b) * (g * g) = c * c * (g * g) := by rw [← e1, ← e2, ← e3] at h; grind
  have f := Int.eq_of_mul_eq_mul_right (by have := Int.mul_pos hg hg; omega) e
  have n1 : 0 ≤ a * a := by rcases Int.le_total 0 a with q | q; exact Int.mul_nonneg q q; exact Int.mul_nonneg_of_nonpos_of_nonpos q q
  have n2 : 0 ≤ b * b := by rcases Int.le_total 0 b with q | q; exact Int.mul_nonneg q q; exact Int.mul_nonneg_of_nonpos_of_nonpos q q
  have s1 := sq_le (a := a) (c := c) (by omega) (by omega)
  have s2 := sq_le (a := b) (c := c) (by omega) (by omega)
  rw [decide_eq_true_eq]
  omega
theorem dirV_ok : ∀ k : Fin 256, vecB (dirV k.val).1 (dirV k.val).2.1 (dirV k.val).2.2 = true ∧ (dirV k.val).2.2 ≤ 8191 := by decide +kernel
theorem dirV_vec (h : Int) : vecB (dirV h).1 (dirV h).2.1 (dirV h).2.2 = true ∧ (dirV h).2.2 ≤ 8191 := by
  rw [← dirV_mod]
  have h0 : 0 ≤ h % 256 := Int.emod_nonneg _ (by omega)
  have h1 : h % 256 < 256 := Int.emod_lt_of_pos _ (by omega)
  have := dirV_ok ⟨(h % 256).toNat, by omega⟩
  rw [show (((⟨(h % 256).toNat, by omega⟩ : Fin 256).val : Nat) : Int) = h % 256 from Int.toNat_of_nonneg h0] at this
  exact this
/-- A beam's direction is always a valid vector. -/
theorem beam_vec (h m : Int) : vecB (beamV h m).1 (beamV h m).2.1 (beamV h m).2.2 = true := by
  obtain ⟨a1, a2⟩ := dirV_vec h
  obtain ⟨b1, b2⟩ := dirV_vec m
  have v1 := vec_bd a1
  have v2 := vec_bd b1
  unfold beamV
  generalize dirV h = p at *
  generalize dirV m = q at *
  have hx : vecB (bmX p.1 p.2.1 p.2.2 q.1 q.2.1 q.2.2).1 (bmX p.1 p.2.1 p.2.2 q.1 q.2.1 q.2.2).2.1 (bmX p.1 p.2.1 p.2.2 q.1 q.2.1 q.2.2).2.2 = true := by
    unfold bmX
    have m1 := Int.mul_pos (show 0 < p.2.2 by omega) (show 0 < q.2.2 by omega)
    have m2 := Int.mul_le_mul a2 b2 (by omega) (by omega)
    refine low_vec (by omega) (by omega) ?_
    have z1 := v1.2.2.2.2.2.2.2.2
    have z2 := v2.2.2.2.2.2.2.2.2
    generalize p.1 = a at *; generalize p.2.1 = b at *; generalize p.2.2 = c at *
    generalize q.1 = d at *; generalize q.2.1 = e at *; generalize q.2.2 = f at *
    have r1 : (a * d - b * e) * (a * d - b * e) + (a * e + b * d) * (a * e + b * d) = (a * a + b * b) * (d * d + e * e) := by grind
    rw [r1, z1, z2]; grind
  have he : bmE p.1 p.2.1 p.2.2 q.1 q.2.1 q.2.2 = 0 := by
    have := (vec_bd hx).2.1
    unfold bmE
    rw [if_neg (by rw [a1, b1]; decide), if_neg (by omega)]
  unfold bmT
  rw [if_pos he]
  exact hx
section
variable {W H : Int} {L : List Int} {px py vx vy vd most s : Int} {b c : CC}
theorem first_best (h : firstO W H L px py vx vy vd most = some c) : okF W H L px py vx vy vd most = true ∧ Best (ltK px py vx vy vd) (refL W H L px py vx vy vd most) c := by
  unfold firstO at h
  split at h
  · rename_i hk
    rcases pick_best (ltK_tr px py vx vy vd) (ltK_neg px py vx vy vd) (ltK_irr px py vx vy vd) (refL W H L px py vx vy vd most) (gridL_sorted _ _ _ _ _) with ⟨a1, a2⟩ | ⟨d, a1, a2⟩
    · rw [a1] at h; cases h
    · rw [a1] at h; cases h; exact ⟨hk, a2⟩
  · cases h
theorem first_min (h : firstO W H L px py vx vy vd most = some c) (hb : b ∈ refL W H L px py vx vy vd most) : flE (entC px py vx vy vd c) (entC px py vx vy vd b) := by
  have := (first_best h).2.2.1 b hb
  unfold ltK at this
  rw [decide_eq_false_iff_not] at this
  unfold flE
  omega
theorem first_is (hk : okF W H L px py vx vy vd most = true) (hb : b ∈ refL W H L px py vx vy vd most) : ∃ c, firstO W H L px py vx vy vd most = some c := by
  unfold firstO
  rw [if_pos hk]
  rcases pick_best (ltK_tr px py vx vy vd) (ltK_neg px py vx vy vd) (ltK_irr px py vx vy vd) (refL W H L px py vx vy vd most) (gridL_sorted _ _ _ _ _) with ⟨a1, a2⟩ | ⟨d, a1, a2⟩
  · rw [a2] at hb; cases hb
  · exact ⟨d, a1⟩
theorem first_in (h : firstO W H L px py vx vy vd most = some c) : c ∈ refL W H L px py vx vy vd most := (first_best h).2.1
theorem ref_at (h : c ∈ refL W H L px py vx vy vd most) : 0 ≤ (entC px py vx vy vd c).1 ∧ 1 ≤ (entC px py vx vy vd c).2 ∧ (entC px py vx vy vd c).1 ≤ most * (entC px py vx vy vd c).2 := by
  have m := refL_mem.1 h
  have k := m.1.2
  unfold hitB at k
  rw [Bool.and_eq_true, decide_eq_true_eq] at k
  have b := ent_bd (c := c) k.1
  exact ⟨b.1.1, b.2.1, k.2⟩
/-- What is met up to a distance is met up to each that is not less than its own. -/
theorem ref_to (h : c ∈ refL W H L px py vx vy vd most) (hs : (entC px py vx vy vd c).1 ≤ s * (entC px py vx vy vd c).2) : c ∈ refL W H L px py vx vy vd s := by
  have m := refL_mem.1 h
  have k := m.1.2
  unfold hitB at k
  rw [Bool.and_eq_true, decide_eq_true_eq] at k
  refine refL_mem.2 ⟨⟨m.1.1, ?_⟩, m.2⟩
  unfold hitB
  rw [k.1, decide_eq_true hs]; rfl
theorem ref_up (h : c ∈ refL W H L px py vx vy vd most) (hs : most ≤ s) : c ∈ refL W H L px py vx vy vd s := by
  have a := ref_at h
  have := Int.mul_le_mul_of_nonneg_right hs (show 0 ≤ (entC px py vx vy vd c).2 by omega)
  exact ref_to h (by omega)
theorem fl_le {A B : Int × Int} (ha : 1 ≤ A.2) (hb : 1 ≤ B.2) (h : flE A B) : (B.1 ≤ s * B.2 → A.1 ≤ s * A.2) ∧ (s * A.2 ≤ A.1 → s * B.2 ≤ B.1) := by
  unfold flE at h
  constructor
  · intro k
    refine Int.le_of_mul_le_mul_right (a := B.2) ?_ (by omega)
    have e := Int.mul_le_mul_of_nonneg_right k (show 0 ≤ A.2 by omega)
    have r : s * B.2 * A.2 = s * A.2 * B.2 := by ac_rfl
    omega
  · intro k
    refine Int.le_of_mul_le_mul_right (a := A.2) ?_ (by omega)
    have e := Int.mul_le_mul_of_nonneg_right k (show 0 ≤ B.2 by omega)
    have r : s * B.2 * A.2 = s * A.2 * B.2 := by ac_rfl
    omega
/-- With the same setting, up to another distance. -/
theorem okF_to (h : okF W H L px py vx vy vd most = true) (h0 : 0 ≤ s) (h1 : s ≤ 2048) : okF W H L px py vx vy vd s = true := by
  unfold okF at h ⊢
  simp only [Bool.and_eq_true] at h
  rw [h.1.1, h.1.2]
  unfold okR
  simp; omega
theorem hits_clear (h : firstO W H L px py vx vy vd most = some c) (h0 : 0 ≤ s) (h1 : s * (entC px py vx vy vd c).2 ≤ (entC px py vx vy vd c).1) : clearB W H L px py vx vy vd s = true := by
  have hb := first_best h
  have g := okF_at hb.1
  have a := ref_at (first_in h)
  have hsm : s ≤ most := by
    refine Int.le_of_mul_le_mul_right (a := (entC px py vx vy vd c).2) ?_ (by omega)
    omega
  unfold clearB
  rw [okF_to hb.1 h0 (by omega), Bool.true_and]
  cases ho : firstO W H L px py vx vy vd s with
  | none => rfl
  | some d =>
    have f := first_min h (ref_up (first_in ho) hsm)
    have a2 := ref_at (first_in ho)
    exact decide_eq_true ((fl_le a.2.1 a2.2.1 f).2 h1)
theorem hits_not (h : firstO W H L px py vx vy vd most = some c) (h0 : 0 ≤ s) (h2 : s ≤ 2048) (h1 : (entC px py vx vy vd c).1 < s * (entC px py vx vy vd c).2) : clearB W H L px py vx vy vd s = false := by
  have hb := first_best h
  have a := ref_at (first_in h)
  have hm : c ∈ refL W H L px py vx vy vd s := ref_to (first_in h) (by omega)
  have hk := okF_to hb.1 h0 h2
  obtain ⟨d, hd⟩ := first_is hk hm
  unfold clearB
  rw [hk, hd, Bool.true_and]
  have a2 := ref_at (first_in hd)
  have f := first_min hd hm
  refine decide_eq_false ?_
  intro k
  have := (fl_le a2.2.1 a.2.1 f).2 k
  omega
theorem first_none (h : firstO W H L px py vx vy vd most = none) (hk : okF W H L px py vx vy vd most = true) (hb : b ∈ refL W H L px py vx vy vd most) : False := by
  obtain ⟨c, e⟩ := first_is hk hb
  rw [h] at e; cases e
end
theorem hits_law {W H : Int} {L : List Int} {px py h m : Int} {c : CC} {K : Int × Int} (hc : firstO W H L px py (beamV h m).1 (beamV h m).2.1 (beamV h m).2.2 1500 = some c)
    (hK : K = entC px py (beamV h m).1 (beamV h m).2.1 (beamV h m).2.2 c) :
    (0 ≤ K.1 ∧ 1 ≤ K.2 ∧ K.2 ≤ 67108864 ∧ K.1 ≤ 137438953472) ∧ (0 ≤ K.1 / K.2 ∧ K.1 / K.2 ≤ 1500) ∧ clearB W H L px py (beamV h m).1 (beamV h m).2.1 (beamV h m).2.2 (K.1 / K.2) = true ∧ clearB W H L px py (beamV h m).1 (beamV h m).2.1 (beamV h m).2.2 (K.1 / K.2 + 1) = false ∧ atB W H L c.X c.Y = 2 := by
  have a : 0 ≤ K.1 ∧ 1 ≤ K.2 ∧ K.1 ≤ 1500 * K.2 := by rw [hK]; exact ref_at (first_in hc)
  have hb : (0 ≤ K.1 ∧ 1 ≤ K.2 ∧ K.2 ≤ 67108864) ∧ K.1 ≤ 2048 * K.2 ∧ (K.2 = 1 ∨ K.1 < 2048 * K.2) := by rw [hK]; exact hit_bd (first_hit hc).1 (first_hit hc).2.1
  have q0 : 0 ≤ K.1 / K.2 := Int.ediv_nonneg a.1 (by omega)
  have q1 : K.1 / K.2 ≤ 1500 := Int.ediv_le_of_le_mul (by omega) a.2.2
  have q2 : K.1 / K.2 * K.2 ≤ K.1 := Int.ediv_mul_le _ (by omega)
  have q3 : K.1 < (K.1 / K.2 + 1) * K.2 := Int.lt_ediv_add_one_mul_self _ (by omega)
  refine ⟨⟨a.1, a.2.1, hb.1.2.2, by omega⟩, ⟨q0, q1⟩, hits_clear hc q0 (by rw [← hK]; exact q2), hits_not hc (by omega) (by omega) (by rw [← hK]; exact q3), ?_⟩
  have := (first_hit hc).2.2
  unfold wallB at this
  exact of_decide_eq_true this
theorem nohit_law {W H : Int} {L : List Int} {px py h m : Int} (hc : firstO W H L px py (beamV h m).1 (beamV h m).2.1 (beamV h m).2.2 1500 = none) : (!inB W H L px py || clearB W H L px py (beamV h m).1 (beamV h m).2.1 (beamV h m).2.2 1500) = true := by
  cases hi : inB W H L px py
  · rfl
  · unfold clearB
    rw [okF_true hi (beam_vec h m) (by omega) (by omega), hc]; rfl
section
variable {W H : Int} {L : List Int} {x y h m r rng er : Int}
theorem good_ok (k : goodB W H L x y h = true) : inB W H L x y = true ∧ 0 ≤ h ∧ h ≤ 255 := by
  unfold goodB at k
  rw [Bool.and_eq_true, decide_eq_true_eq] at k
  exact ⟨k.1, k.2⟩
theorem look_ok (k : goodB W H L x y h = true) {s : Int} (h0 : 0 ≤ s) (h1 : s ≤ 2048) : okF W H L x y (beamV h m).1 (beamV h m).2.1 (beamV h m).2.2 s = true := okF_true (good_ok k).1 (beam_vec h m) h0 h1
/-- What is measured is plausible. -/
theorem meas_plaus (k : measE W H L x y h m rng = 0) : plausB W H L x y h m (measV W H L x y h m rng er) rng = true := by
  have hg : goodB W H L x y h = true := by
    unfold measE at k; split at k
    · cases k
    · rename_i q; simpa using q
  have hq : (1 ≤ rng ∧ rng ≤ 32) ∧ 0 ≤ m ∧ m ≤ 255 := by
    unfold measE at k; rw [if_neg (by rw [hg]; decide)] at k
    split at k
    · assumption
    · cases k
  unfold measV
  rw [if_pos k]
  obtain ⟨g1, g2⟩ := good_ok hg
  have far : ∀ {d : CC}, lookO W H L x y h m (1024 - rng) = some d → ∃ c, lookO W H L x y h m 1024 = some c ∧ (lookK x y h m c).1 ≤ (1024 - rng) * (lookK x y h m c).2 ∧ 1 ≤ (lookK x y h m c).2 := by
    intro d hd
    have hm := ref_up (s := 1024) (first_in hd) (by omega)
    obtain ⟨c, hc⟩ := first_is (look_ok hg (by omega) (by omega)) hm
    have a := ref_at (first_in hd)
    have b := ref_at (first_in hc)
    exact ⟨c, hc, (fl_le b.2.1 a.2.1 (first_min hc hm)).1 a.2.2, b.2.1⟩
  cases ho : lookO W H L x y h m 1024 with
  | none =>
    rw [show measZ (lookK x y h m) (min (max er (1 - rng)) rng) none = -1 from rfl, plaus_t g1 g2 (by omega) hq.1, if_pos rfl]
    cases hd : lookO W H L x y h m (1024 - rng) with
    | none => rfl
    | some d => obtain ⟨c, hc, _⟩ := far hd; rw [ho] at hc; cases hc
  | some c =>
    have a := ref_at (first_in ho)
    have e1 : 1 - rng ≤ min (max er (1 - rng)) rng ∧ min (max er (1 - rng)) rng ≤ rng := by omega
    generalize min (max er (1 - rng)) rng = e at *
    change plausB W H L x y h m (if 1024 < max ((lookK x y h m c).1 / (lookK x y h m c).2 + e) 0 then -1 else max ((lookK x y h m c).1 / (lookK x y h m c).2 + e) 0) rng = true
    have q0 : 0 ≤ (lookK x y h m c).1 / (lookK x y h m c).2 := Int.ediv_nonneg a.1 (by have := a.2.1; unfold lookK; omega)
    have q2 : (lookK x y h m c).1 / (lookK x y h m c).2 * (lookK x y h m c).2 ≤ (lookK x y h m c).1 := Int.ediv_mul_le _ (by have := a.2.1; unfold lookK; omega)
    have q3 : (lookK x y h m c).1 < ((lookK x y h m c).1 / (lookK x y h m c).2 + 1) * (lookK x y h m c).2 := Int.lt_ediv_add_one_mul_self _ (by have := a.2.1; unfold lookK; omega)
    have a' : 0 ≤ (lookK x y h m c).1 ∧ 1 ≤ (lookK x y h m c).2 ∧ (lookK x y h m c).1 ≤ 1024 * (lookK x y h m c).2 := a
    generalize hK : (lookK x y h m c).1 / (lookK x y h m c).2 = q at *
    split
    · rename_i hv
      rw [plaus_t g1 g2 (by omega) hq.1, if_pos rfl]
      cases hd : lookO W H L x y h m (1024 - rng) with
      | none => rfl
      | some d =>
        obtain ⟨c2, hc2, k1, k2⟩ := far hd
        rw [ho] at hc2; cases hc2
        exfalso
        have : q ≤ 1024 - rng := by
          refine Int.le_of_mul_le_mul_right (a := (lookK x y h m c).2) ?_ (by omega)
          omega
        omega
    · rename_i hv
      rw [plaus_t g1 g2 (by omega) hq.1, if_neg (by omega)]
      have hr : q + 1 ≤ max (q + e) 0 + rng := by omega
      have hl : max (q + e) 0 - rng ≤ q := by omega
      have hv0 : 0 ≤ max (q + e) 0 ∧ max (q + e) 0 ≤ 1024 := by omega
      generalize max (q + e) 0 = v at *
      have hm : c ∈ refL W H L x y (beamV h m).1 (beamV h m).2.1 (beamV h m).2.2 (v + rng) := ref_to (first_in ho) (by
        have := Int.mul_le_mul_of_nonneg_right hr (show 0 ≤ (lookK x y h m c).2 by omega)
        change (lookK x y h m c).1 ≤ (v + rng) * (lookK x y h m c).2
        omega)
      obtain ⟨d, hd⟩ := first_is (look_ok hg (by omega) (by omega)) hm
      have b := ref_at (first_in hd)
      have f := first_min hd hm
      have hd2 := ref_to (s := 1024) (first_in hd) ((fl_le b.2.1 a.2.1 f).1 a.2.2)
      have f2 := first_min ho hd2
      rw [show lookO W H L x y h m (v + rng) = some d from hd]
      refine decide_eq_true ((fl_le (A := lookK x y h m c) a'.2.1 b.2.1 f2).2 ?_)
      have := Int.mul_le_mul_of_nonneg_right hl (show 0 ≤ (lookK x y h m c).2 by omega)
      omega
/-- An echo lies between. -/
theorem between_law (hg : goodB W H L x y h = true) (hb : (0 ≤ m ∧ m ≤ 255) ∧ 0 ≤ r ∧ r ≤ 1024) (hr : 1 ≤ rng ∧ rng ≤ 32) :
    plausB W H L x y h m r rng = (clearB W H L x y (beamV h m).1 (beamV h m).2.1 (beamV h m).2.2 (max 0 (r - rng)) && (firstO W H L x y (beamV h m).1 (beamV h m).2.1 (beamV h m).2.2 (r + rng)).isSome) := by
  obtain ⟨g1, g2⟩ := good_ok hg
  rw [plaus_t g1 g2 (by omega) hr, if_neg (by omega)]
  unfold lookO lookK
  cases ho : firstO W H L x y (beamV h m).1 (beamV h m).2.1 (beamV h m).2.2 (r + rng) with
  | none => rw [Option.isSome_none, Bool.and_false]; rfl
  | some c =>
    rw [Option.isSome_some, Bool.and_true]
    have a := ref_at (first_in ho)
    rcases lt_ge (r - rng) 0 with hz | hz
    · rw [Int.max_eq_left (by omega), hits_clear ho (by omega) (by omega)]
      refine decide_eq_true ?_
      have := Int.mul_le_mul_of_nonneg_right (show r - rng ≤ 0 by omega) (show 0 ≤ (entC x y (beamV h m).1 (beamV h m).2.1 (beamV h m).2.2 c).2 by omega)
      omega
    · rw [Int.max_eq_right hz]
      show decide ((r - rng) * (entC x y (beamV h m).1 (beamV h m).2.1 (beamV h m).2.2 c).2 ≤ (entC x y (beamV h m).1 (beamV h m).2.1 (beamV h m).2.2 c).1) = _
      rcases lt_ge (entC x y (beamV h m).1 (beamV h m).2.1 (beamV h m).2.2 c).1 ((r - rng) * (entC x y (beamV h m).1 (beamV h m).2.1 (beamV h m).2.2 c).2) with hl | hl
      · rw [hits_not ho hz (by omega) hl]; exact decide_eq_false (by omega)
      · rw [hits_clear ho hz hl]; exact decide_eq_true hl
theorem sweep_plaus {M R : List Int} (k : swpE W H L x y h rng M = 0) : allB W H L x y h rng (swpL W H L x y h rng M R) = true := by
  have hm : ¬ 32 < M.length := by intro q; unfold swpE at k; rw [if_pos q] at k; cases k
  have h0 : swE1 W H L x y h rng M M.length = 0 := by unfold swpE at k; rwa [if_neg hm] at k
  have hall : ∀ n, n < M.length → measE W H L x y h (M.getD n eI.dflt) rng = 0 := by
    intro n hn
    have e1 : swE1 W H L x y h rng M (n + 1) = 0 := by
      rcases Classical.em (swE1 W H L x y h rng M (n + 1) = 0) with g | g
      · exact g
      · have := swE1_stop g M.length (by omega); omega
    have e0 : swE1 W H L x y h rng M n = 0 := by
      rcases Classical.em (swE1 W H L x y h rng M n = 0) with g | g
      · exact g
      · have := swE1_stop g M.length (by omega); omega
    rw [← e1]; exact (if_pos e0).symm
  rw [(swp_good R hm h0).2]
  unfold allB
  rw [swV_len, decide_eq_true (show M.length ≤ 32 by omega), Bool.and_true, List.all_eq_true]
  intro c hc
  unfold swV at hc
  rw [List.mem_map] at hc
  obtain ⟨i, hi, rfl⟩ := hc
  rw [List.mem_range] at hi
  exact meas_plaus (hall i hi)
theorem all_law {S : List CC} : (scanB S && S.all fun c => plausB W H L x y h c.X c.Y 5) = allB W H L x y h 5 S := by
  unfold scanB allB
  cases hp : (S.all fun c => plausB W H L x y h c.X c.Y 5)
  · rw [Bool.and_false, Bool.false_and]
  · have : (S.all fun c => beamB c.X c.Y) = true := by
      rw [List.all_eq_true] at hp ⊢
      exact fun c hc => plaus_beam (hp c hc)
    rw [this, Bool.and_true, Bool.and_true, Bool.true_and]
end
theorem take_succ_all {S : List CC} {f : CC → Bool} {k : Nat} (hk : k < S.length) : (S.take (k + 1)).all f = ((S.take k).all f && f (S.getD k eC.dflt)) := by
  have e : S.getD k eC.dflt = S[k] := by rw [List.getD_eq_getElem?_getD, List.getElem?_eq_getElem hk, Option.getD_some]
  rw [List.take_add_one, List.getElem?_eq_getElem hk, Option.toList_some, List.all_append, e]
  simp
def x3 : XFn := ⟨79, (.seq (.reg false [O1 3 (.box 24) 0, O1 4 (.box 26) 1, O1 5 (.box 28) 2, K1 6 .mv (.bool false)]) (.seq (.seq (.reg false [⟨(some 14), (.call 13), [], none⟩, O1 15 (.un .not) 14, O1 16 .mv 15, G1 17 (.loadN 3) 3 16 false, G1 18 (.call 14) 17 16 false, G1 19 (.un .not) 18 16 false, ⟨(some 20), .pick, [(.t 16), (.k (.bool true)), (.t 19)], none⟩]) (.cond (.t 20) (.seq (.reg false [⟨(some 21), (.call 13), [], none⟩, O1 6 .mv 21]) .ret) .skip)) (.seq (.reg false [O1 22 (.fld 2) 4, O1 23 .load1 22, O1 24 (.fld 0) 5, O1 25 .load1 24, O2 26 (.call 15) 23 25, ⟨(some 7), (.alloc 32 [(iV 0), (iV 0), (iV 0)]), [], none⟩, ⟨none, (.store 3), [(.t 7), (.t 26)], none⟩]) (.seq (.regD [O1 28 (.loadN 3) 3, O1 29 (.loadN 3) 4, O1 30 (.call 17) 29, O1 31 (.loadN 3) 7, O1 32 (.fld 1) 5, O1 33 .load1 32, ⟨(some 34), (.call 16), [(.t 28), (.t 30), (.t 31), (.t 33)], none⟩, O1 27 .mv 34, O1 35 (.ext 0) 27, O1 36 (.ext 1) 27, O1 37 (.ext 2) 27, ⟨(some 8), (.alloc 35 [(iV 0), (iV 0)]), [], none⟩, ⟨(some 9), (.alloc 37 [(iV 0), (iV 0)]), [], none⟩, ⟨none, (.store 2), [(.t 8), (.t 35)], none⟩, ⟨none, (.store 2), [(.t 9), (.t 36)], none⟩, O1 10 .mv 37] [[], [], [1], [], [], [4], [0, 2, 1, 3, 5, 4], [6, 0, 2, 1, 3, 5, 4], [7, 6, 0, 2, 1, 3, 5, 4], [7, 6, 0, 2, 1, 3, 5, 4], [7, 6, 0, 2, 1, 3, 5, 4], [], [], [11, 8, 7, 6, 0, 2, 1, 3, 5, 4, 12], [12, 9, 7, 6, 0, 2, 1, 3, 5, 4, 13, 11, 8], [10, 7, 6, 0, 2, 1, 3, 5, 4, 14, 12, 9, 13, 11, 8]]) (.seq (.regD [O1 39 (.loadN 3) 3, O1 40 (.loadN 3) 4, O1 41 (.call 17) 40, O1 42 (.loadN 3) 7, O1 43 (.fld 1) 5, O1 44 .load1 43, ⟨(some 45), (.call 18), [(.t 39), (.t 41), (.t 42), (.t 44)], none⟩, O1 38 .mv 45, O1 46 (.ext 0) 38, O1 47 (.ext 1) 38, O1 48 (.ext 2) 38, ⟨(some 11), (.alloc 35 [(iV 0), (iV 0)]), [], none⟩, ⟨(some 12), (.alloc 37 [(iV 0), (iV 0)]), [], none⟩, ⟨none, (.store 2), [(.t 11), (.t 46)], none⟩, ⟨none, (.store 2), [(.t 12), (.t 47)], none⟩, O1 13 .mv 48] [[], [], [1], [], [], [4], [0, 2, 1, 3, 5, 4], [6, 0, 2, 1, 3, 5, 4], [7, 6, 0, 2, 1, 3, 5, 4], [7, 6, 0, 2, 1, 3, 5, 4], [7, 6, 0, 2, 1, 3, 5, 4], [], [], [11, 8, 7, 6, 0, 2, 1, 3, 5, 4, 12], [12, 9, 7, 6, 0, 2, 1, 3, 5, 4, 13, 11, 8], [10, 7, 6, 0, 2, 1, 3, 5, 4, 14, 12, 9, 13, 11, 8]]) (.seq (.reg true [O1 49 (.loadN 2) 8, O1 50 (.loadN 2) 11, ⟨(some 51), (.eqA false [(.i .i64), (.i .i64)]), [(.t 49), (.t 50)], none⟩, O1 52 .mv 51, G1 53 (.loadN 2) 9 52 true, G1 54 (.loadN 2) 12 52 true, ⟨(some 55), (.eqA false [(.i .i64), (.i .i64)]), [(.t 53), (.t 54)], (some (52, true))⟩, ⟨(some 56), .pick, [(.t 52), (.t 55), (.k (.bool false))], none⟩, O1 57 .mv 56, G1 58 .mv 10 57 true, G1 59 .mv 13 57 true, G2 60 (.binb .eql) 58 59 57 true, ⟨(some 61), .pick, [(.t 57), (.t 60), (.k (.bool false))], none⟩, O1 62 .mv 61, G1 63 (.loadN 3) 3 62 true, G1 64 (.loadN 3) 4 62 true, G1 65 (.call 17) 64 62 true, G1 66 (.loadN 3) 7 62 true, G1 67 (.fld 1) 5 62 true, G1 68 .load1 67 62 true, ⟨(some 69), (.call 19), [(.t 63), (.t 65), (.t 66), (.t 68)], (some (62, true))⟩, G1 70 (.loadN 3) 3 62 true, G1 71 (.loadN 3) 4 62 true, G1 72 (.call 17) 71 62 true, G1 73 (.loadN 3) 7 62 true, G1 74 (.fld 1) 5 62 true, G1 75 .load1 74 62 true, ⟨(some 76), (.call 20), [(.t 70), (.t 72), (.t 73), (.t 75)], (some (62, true))⟩, G2 77 (.binb .eql) 69 76 62 true, ⟨(some 78), .pick, [(.t 62), (.t 77), (.k (.bool false))], none⟩, O1 6 .mv 78]) .ret)))))), [(.s 6)]⟩
theorem x3_ok : xfn Try.prog Try.f3 = some x3.er := by kernel_rfl
def x4 : XFn := ⟨50, (.seq (.reg false [O1 3 (.box 24) 0, O1 4 (.box 40) 1, O1 5 (.box 32) 2, K1 6 .mv (.bool false)]) (.seq (.seq (.reg false [⟨(some 13), (.call 13), [], none⟩, O1 14 (.un .not) 13, O1 15 .mv 14, G1 16 (.loadN 3) 3 15 false, G1 17 (.call 14) 16 15 false, G1 18 (.un .not) 17 15 false, ⟨(some 19), .pick, [(.t 15), (.k (.bool true)), (.t 18)], none⟩]) (.cond (.t 19) (.seq (.reg false [⟨(some 20), (.call 13), [], none⟩, O1 6 .mv 20]) .ret) .skip)) (.seq (.reg false [O1 22 (.loadN 3) 3, O1 23 (.loadN 2) 4, O1 24 (.loadN 3) 5, ⟨(some 25), (.call 16), [(.t 22), (.t 23), (.t 24), (.k (iV 2048))], none⟩, O1 21 .mv 25, O1 26 (.ext 0) 21, O1 27 (.ext 1) 21, O1 28 (.ext 2) 21, ⟨(some 7), (.alloc 35 [(iV 0), (iV 0)]), [], none⟩, ⟨(some 8), (.alloc 37 [(iV 0), (iV 0)]), [], none⟩, ⟨none, (.store 2), [(.t 7), (.t 26)], none⟩, ⟨none, (.store 2), [(.t 8), (.t 27)], none⟩, O1 9 .mv 28]) (.seq (.reg false [O1 30 (.loadN 3) 3, O1 31 (.loadN 2) 4, O1 32 (.loadN 3) 5, ⟨(some 33), (.call 18), [(.t 30), (.t 31), (.t 32), (.k (iV 2048))], none⟩, O1 29 .mv 33, O1 34 (.ext 0) 29, O1 35 (.ext 1) 29, O1 36 (.ext 2) 29, ⟨(some 10), (.alloc 35 [(iV 0), (iV 0)]), [], none⟩, ⟨(some 11), (.alloc 37 [(iV 0), (iV 0)]), [], none⟩, ⟨none, (.store 2), [(.t 10), (.t 34)], none⟩, ⟨none, (.store 2), [(.t 11), (.t 35)], none⟩, O1 12 .mv 36]) (.seq (.reg false [O1 37 (.loadN 2) 7, O1 38 (.loadN 2) 10, ⟨(some 39), (.eqA false [(.i .i64), (.i .i64)]), [(.t 37), (.t 38)], none⟩, O1 40 .mv 39, G1 41 (.loadN 2) 8 40 true, G1 42 (.loadN 2) 11 40 true, ⟨(some 43), (.eqA false [(.i .i64), (.i .i64)]), [(.t 41), (.t 42)], (some (40, true))⟩, ⟨(some 44), .pick, [(.t 40), (.t 43), (.k (.bool false))], none⟩, O1 45 .mv 44, G1 46 .mv 9 45 true, G1 47 .mv 12 45 true, G2 48 (.binb .eql) 46 47 45 true, ⟨(some 49), .pick, [(.t 45), (.t 48), (.k (.bool false))], none⟩, O1 6 .mv 49]) .ret))))), [(.s 6)]⟩
theorem x4_ok : xfn Try.prog Try.f4 = some x4.er := by kernel_rfl
def x5 : XFn := ⟨91, (.seq (.reg false [O1 3 (.box 24) 0, O1 4 (.box 26) 1, K1 6 .mv (.bool false)]) (.seq (.seq (.reg false [⟨(some 12), (.call 13), [], none⟩, O1 13 (.un .not) 12, O1 14 .mv 13, G1 15 (.loadN 3) 3 14 false, G1 16 (.call 14) 15 14 false, G1 17 (.un .not) 16 14 false, ⟨(some 18), .pick, [(.t 14), (.k (.bool true)), (.t 17)], none⟩]) (.cond (.t 18) (.seq (.reg false [⟨(some 19), (.call 13), [], none⟩, O1 6 .mv 19]) .ret) .skip)) (.seq (.reg false [O1 20 (.fld 2) 4, O1 21 .load1 20, O1 22 .mv 2, O1 23 (.conv .i64) 22, O2 24 (.call 15) 21 23, ⟨(some 7), (.alloc 32 [(iV 0), (iV 0), (iV 0)]), [], none⟩, ⟨none, (.store 3), [(.t 7), (.t 24)], none⟩]) (.seq (.regD [O1 26 (.loadN 3) 3, O1 27 (.loadN 3) 4, O1 28 (.call 17) 27, O1 29 (.loadN 3) 7, ⟨(some 30), (.call 16), [(.t 26), (.t 28), (.t 29), (.k (iV 1500))], none⟩, O1 25 .mv 30, O1 31 (.ext 0) 25, O1 32 (.ext 1) 25, O1 33 (.ext 2) 25, ⟨(some 8), (.alloc 35 [(iV 0), (iV 0)]), [], none⟩, ⟨(some 9), (.alloc 37 [(iV 0), (iV 0)]), [], none⟩, ⟨none, (.store 2), [(.t 8), (.t 31)], none⟩, ⟨none, (.store 2), [(.t 9), (.t 32)], none⟩, O1 10 .mv 33] [[], [], [1], [], [0, 2, 1, 3], [4, 0, 2, 1, 3], [5, 4, 0, 2, 1, 3], [5, 4, 0, 2, 1, 3], [5, 4, 0, 2, 1, 3], [], [], [9, 6, 5, 4, 0, 2, 1, 3, 10], [10, 7, 5, 4, 0, 2, 1, 3, 11, 9, 6], [8, 5, 4, 0, 2, 1, 3, 12, 10, 7, 11, 9, 6]]) (.seq (.seq (.reg false [O1 34 .mv 10, O1 35 (.un .not) 34]) (.cond (.t 35) (.seq (.reg true [O1 36 (.loadN 3) 3, O1 37 (.loadN 3) 4, O1 38 (.call 17) 37, O2 39 (.call 21) 36 38, O1 40 (.un .not) 39, O1 41 .mv 40, G1 42 (.loadN 3) 3 41 false, G1 43 (.loadN 3) 4 41 false, G1 44 (.call 17) 43 41 false, G1 45 (.loadN 3) 7 41 false, ⟨(some 46), (.call 19), [(.t 42), (.t 44), (.t 45), (.k (iV 1500))], (some (41, false))⟩, ⟨(some 47), .pick, [(.t 41), (.k (.bool true)), (.t 46)], none⟩, O1 6 .mv 47]) .ret) .skip)) (.seq (.seq (.reg false [O1 48 (.fld 1) 8, O1 49 .load1 48, K2 50 (.bin .lss) 49 (iV 1), O1 51 .mv 50, G1 52 (.fld 0) 8 51 false, G1 53 .load1 52 51 false, GK 54 (.bin .lss) 53 (iV 0) 51 false, ⟨(some 55), .pick, [(.t 51), (.k (.bool true)), (.t 54)], none⟩, O1 56 .mv 55, G1 57 (.fld 0) 8 56 false, G1 58 .load1 57 56 false, G1 59 (.fld 1) 8 56 false, G1 60 .load1 59 56 false, G2 61 (.bin .quo) 58 60 56 false, GK 62 (.bin .gtr) 61 (iV 1500) 56 false, ⟨(some 63), .pick, [(.t 56), (.k (.bool true)), (.t 62)], none⟩]) (.cond (.t 63) (.seq (.reg false [K1 6 .mv (.bool false)]) .ret) .skip)) (.seq (.reg false [O1 64 (.fld 0) 8, O1 65 .load1 64, O1 66 (.fld 1) 8, O1 67 .load1 66, O2 68 (.bin .quo) 65 67, O1 11 .mv 68]) (.seq (.reg true [O1 69 (.loadN 3) 3, O1 70 (.loadN 3) 4, O1 71 (.call 17) 70, O1 72 (.loadN 3) 7, O1 73 .mv 11, ⟨(some 74), (.call 19), [(.t 69), (.t 71), (.t 72), (.t 73)], none⟩, O1 75 .mv 74, G1 76 (.loadN 3) 3 75 true, G1 77 (.loadN 3) 4 75 true, G1 78 (.call 17) 77 75 true, G1 79 (.loadN 3) 7 75 true, G1 80 .mv 11 75 true, GK 81 (.bin .add) 80 (iV 1) 75 true, ⟨(some 82), (.call 19), [(.t 76), (.t 78), (.t 79), (.t 81)], (some (75, true))⟩, G1 83 (.un .not) 82 75 true, ⟨(some 84), .pick, [(.t 75), (.t 83), (.k (.bool false))], none⟩, O1 85 .mv 84, G1 86 (.loadN 3) 3 85 true, G1 87 (.loadN 2) 9 85 true, G2 88 (.call 22) 86 87 85 true, GK 89 (.bin .eql) 88 (.int .u8 2) 85 true, ⟨(some 90), .pick, [(.t 85), (.t 89), (.k (.bool false))], none⟩, O1 6 .mv 90]) .ret)))))))), [(.s 6)]⟩
theorem x5_ok : xfn Try.prog Try.f5 = some x5.er := by kernel_rfl
def x7 : XFn := ⟨66, (.seq (.reg false [O1 3 (.box 24) 0, O1 4 (.box 26) 1, O1 5 (.box 50) 2, K1 6 .mv (.bool false)]) (.seq (.seq (.reg false [⟨(some 11), (.call 13), [], none⟩, O1 12 (.un .not) 11, O1 13 .mv 12, G1 14 (.loadN 3) 3 13 false, G1 15 (.call 14) 14 13 false, G1 16 (.un .not) 15 13 false, ⟨(some 17), .pick, [(.t 13), (.k (.bool true)), (.t 16)], none⟩]) (.cond (.t 17) (.seq (.reg false [⟨(some 18), (.call 13), [], none⟩, O1 6 .mv 18]) .ret) .skip)) (.seq (.reg false [O1 20 (.loadN 3) 3, O1 21 (.loadN 3) 4, O1 22 (.fld 0) 5, O1 23 .load1 22, O1 24 (.fld 1) 5, O1 25 .load1 24, O1 26 (.fld 2) 5, O1 27 .load1 26, ⟨(some 28), (.call 25), [(.t 20), (.t 21), (.t 23), (.t 25), (.t 27)], none⟩, O1 19 .mv 28, O1 29 (.ext 0) 19, O1 30 (.ext 1) 19, O1 7 .mv 29, O1 8 .mv 30]) (.seq (.reg false [O1 32 (.loadN 3) 3, O1 33 (.loadN 3) 4, O1 34 (.fld 0) 5, O1 35 .load1 34, O1 36 (.fld 1) 5, O1 37 .load1 36, O1 38 (.fld 2) 5, O1 39 .load1 38, ⟨(some 40), (.call 26), [(.t 32), (.t 33), (.t 35), (.t 37), (.t 39)], none⟩, O1 31 .mv 40, O1 41 (.ext 0) 31, O1 42 (.ext 1) 31, O1 9 .mv 41, O1 10 .mv 42]) (.seq (.reg false [O1 43 .mv 7, O1 44 .mv 9, O2 45 (.bin .eql) 43 44, O1 46 .mv 45, G1 47 .mv 8 46 true, G1 48 .mv 10 46 true, G2 49 (.bin .eql) 47 48 46 true, ⟨(some 50), .pick, [(.t 46), (.t 49), (.k (.bool false))], none⟩, O1 51 .mv 50, G1 52 .mv 8 51 true, GK 53 (.bin .neq) 52 (iV 0) 51 true, G1 54 .mv 53 51 true, G1 55 (.loadN 3) 3 54 false, G1 56 (.loadN 3) 4 54 false, G1 57 (.fld 0) 5 54 false, G1 58 .load1 57 54 false, G1 59 .mv 7 54 false, ⟨(some 60), (.build [(iV 0), (iV 0)] [(0, 1), (1, 1)]), [(.t 58), (.t 59)], (some (54, false))⟩, G1 61 (.fld 1) 5 54 false, G1 62 .load1 61 54 false, ⟨(some 63), (.call 23), [(.t 55), (.t 56), (.t 60), (.t 62)], (some (54, false))⟩, ⟨(some 64), .pick, [(.t 54), (.k (.bool true)), (.t 63)], (some (51, true))⟩, ⟨(some 65), .pick, [(.t 51), (.t 64), (.k (.bool false))], none⟩, O1 6 .mv 65]) .ret))))), [(.s 6)]⟩
theorem x7_ok : xfn Try.prog Try.f7 = some x7.er := by kernel_rfl
/-- wayfinder/wayfinderlaw10.RayVectors -/
def g4 : Con := fun args_ E_ nn_ => match args_ with
  | [.a [.v (.int .i64 p_W), .v (.int .i64 p_H), .n p_Cells], .a [.v (.int .i64 at_X), .v (.int .i64 at_Y)], .a [.v (.int .i64 v_X), .v (.int .i64 v_Y), .v (.int .i64 v_D)]] => (match rowOf E_ p_Cells with
    | some (p_Cells_n, p_Cells_s, p_Cells_f) => some (.q (isRow eU8 p_Cells_n p_Cells_s p_Cells_f ∧ True) (.o (.c (.v (.bool (true))))))
    | none => none)
  | _ => none
theorem c4 : COk Try.prog 4 g4 := by
  refine cok_q Try.func4 x4_ok (by kernel_rfl) (cok_tab (cok_cons c13 (cok_cons c14 (cok_cons c16 (cok_cons c18 cok_nil))))) ?_
  intro args_ E_ nn_ cr_ hg_
  unfold g4 at hg_
  split at hg_
  · rename_i p_W p_H p_Cells at_X at_Y v_X v_Y v_D
    split at hg_
    · rename_i p_Cells_n p_Cells_s p_Cells_f h_p_Cells
      cases hg_
      refine ⟨_, _, rfl, 1, [p_Cells], [.a [.v (.int .i64 p_W), .v (.int .i64 p_H), .n 0], .a [.v (.int .i64 at_X), .v (.int .i64 at_Y)], .a [.v (.int .i64 v_X), .v (.int .i64 v_Y), .v (.int .i64 v_D)]], [(0, .ro (decL eU8 p_Cells_n p_Cells_f).length eU8.sz (rowF eU8 (decL eU8 p_Cells_n p_Cells_f)))], .o (.c (.v (.bool (true)))), rfl, rfl, by simp only [push_cast, Nat.reduceLT, Nat.reduceAdd], by simp only [push_cast, Nat.reduceLT, Nat.reduceAdd], by simp only [push_cast, Nat.reduceLT, Nat.reduceAdd], rfl, ⟨inE0_row h_p_Cells, trivial⟩, rfl, ?_⟩
      intro hpre hlen
      obtain ⟨i_p_Cells, hpre⟩ := hpre
      refine ⟨⟨inE_row h_p_Cells i_p_Cells, trivial⟩, ?_⟩
      have z_p_Cells := lens_row (E := eU8) hlen h_p_Cells
      clear i_p_Cells
      generalize decL eU8 p_Cells_n p_Cells_f = p_CellsL at *
      clear h_p_Cells
      simp (config := {maxSteps := 10000000}) only [x4, push_cast, Nat.reduceAdd, Nat.reduceSub, Nat.reduceLeDiff, Nat.reduceEqDiff, Nat.reduceBEq, Nat.reduceMul, Nat.reduceLT, reduceIte, reduceCtorEq, Int.reduceLE, Int.reduceLT, Int.reduceEq, Int.reduceMul, Int.reduceAdd, Int.reduceSub, Int.reduceNeg, Int.reduceToNat, Int.reduceNe, g13, g14, g16, g18]
    · cases hg_
  · cases hg_
/-- wayfinder/wayfinderlaw10.RayMatchesReference -/
def g3 : Con := fun args_ E_ nn_ => match args_ with
  | [.a [.v (.int .i64 p_W), .v (.int .i64 p_H), .n p_Cells], .a [.v (.int .i64 at_X), .v (.int .i64 at_Y), .v (.int .i64 at_H)], .a [.v (.int .i64 b_Mark), .v (.int .i64 b_Reading)]] => (match rowOf E_ p_Cells with
    | some (p_Cells_n, p_Cells_s, p_Cells_f) => some (.q (isRow eU8 p_Cells_n p_Cells_s p_Cells_f ∧ (-9223372036854775808 ≤ at_H ∧ at_H ≤ 9223372036854775807) ∧ (-9223372036854775808 ≤ b_Mark ∧ b_Mark ≤ 9223372036854775807)) (.o (.c (.v (.bool (true))))))
    | none => none)
  | _ => none
theorem c3 : COk Try.prog 3 g3 := by
  refine cok_q Try.func3 x3_ok (by kernel_rfl) (cok_tab (cok_cons c13 (cok_cons c14 (cok_cons c17 (cok_cons c15 (cok_cons c16 (cok_cons c18 (cok_cons c19 (cok_cons c20 cok_nil))))))))) ?_
  intro args_ E_ nn_ cr_ hg_
  unfold g3 at hg_
  split at hg_
  · rename_i p_W p_H p_Cells at_X at_Y at_H b_Mark b_Reading
    split at hg_
    · rename_i p_Cells_n p_Cells_s p_Cells_f h_p_Cells
      cases hg_
      refine ⟨_, _, rfl, 1, [p_Cells], [.a [.v (.int .i64 p_W), .v (.int .i64 p_H), .n 0], .a [.v (.int .i64 at_X), .v (.int .i64 at_Y), .v (.int .i64 at_H)], .a [.v (.int .i64 b_Mark), .v (.int .i64 b_Reading)]], [(0, .ro (decL eU8 p_Cells_n p_Cells_f).length eU8.sz (rowF eU8 (decL eU8 p_Cells_n p_Cells_f)))], .o (.c (.v (.bool (true)))), rfl, rfl, by simp only [push_cast, Nat.reduceLT, Nat.reduceAdd], by simp only [push_cast, Nat.reduceLT, Nat.reduceAdd], by simp only [push_cast, Nat.reduceLT, Nat.reduceAdd], rfl, ⟨inE0_row h_p_Cells, trivial⟩, rfl, ?_⟩
      intro hpre hlen
      obtain ⟨i_p_Cells, hpre⟩ := hpre
      refine ⟨⟨inE_row h_p_Cells i_p_Cells, trivial⟩, ?_⟩
      have z_p_Cells := lens_row (E := eU8) hlen h_p_Cells
      clear i_p_Cells
      generalize decL eU8 p_Cells_n p_Cells_f = p_CellsL at *
      clear h_p_Cells
      simp (config := {maxSteps := 10000000}) only [x3, push_cast, Nat.reduceAdd, Nat.reduceSub, Nat.reduceLeDiff, Nat.reduceEqDiff, Nat.reduceBEq, Nat.reduceMul, Nat.reduceLT, reduceIte, reduceCtorEq, Int.reduceLE, Int.reduceLT, Int.reduceEq, Int.reduceMul, Int.reduceAdd, Int.reduceSub, Int.reduceNeg, Int.reduceToNat, Int.reduceNe, g13, g14, g17, g15, g16, g18, g19, g20]
      exact fun _ => ⟨hpre, by rfl, by rfl⟩
    · cases hg_
  · cases hg_
/-- wayfinder/wayfinderlaw10.RayHits -/
def g5 : Con := fun args_ E_ nn_ => match args_ with
  | [.a [.v (.int .i64 p_W), .v (.int .i64 p_H), .n p_Cells], .a [.v (.int .i64 at_X), .v (.int .i64 at_Y), .v (.int .i64 at_H)], .c (.v (.int .u8 mark))] => (match rowOf E_ p_Cells with
    | some (p_Cells_n, p_Cells_s, p_Cells_f) => some (.q (isRow eU8 p_Cells_n p_Cells_s p_Cells_f ∧ (-9223372036854775808 ≤ at_H ∧ at_H ≤ 9223372036854775807) ∧ 0 ≤ mark ∧ mark ≤ 255) (.o (.c (.v (.bool (true))))))
    | none => none)
  | _ => none
theorem c5 : COk Try.prog 5 g5 := by
  refine cok_q Try.func5 x5_ok (by kernel_rfl) (cok_tab (cok_cons c13 (cok_cons c14 (cok_cons c17 (cok_cons c15 (cok_cons c16 (cok_cons c19 (cok_cons c21 (cok_cons c22 cok_nil))))))))) ?_
  intro args_ E_ nn_ cr_ hg_
  unfold g5 at hg_
  split at hg_
  · rename_i p_W p_H p_Cells at_X at_Y at_H mark
    split at hg_
    · rename_i p_Cells_n p_Cells_s p_Cells_f h_p_Cells
      cases hg_
      refine ⟨_, _, rfl, 1, [p_Cells], [.a [.v (.int .i64 p_W), .v (.int .i64 p_H), .n 0], .a [.v (.int .i64 at_X), .v (.int .i64 at_Y), .v (.int .i64 at_H)], .c (.v (.int .u8 mark))], [(0, .ro (decL eU8 p_Cells_n p_Cells_f).length eU8.sz (rowF eU8 (decL eU8 p_Cells_n p_Cells_f)))], .o (.c (.v (.bool (true)))), rfl, rfl, by simp only [push_cast, Nat.reduceLT, Nat.reduceAdd], by simp only [push_cast, Nat.reduceLT, Nat.reduceAdd], by simp only [push_cast, Nat.reduceLT, Nat.reduceAdd], rfl, ⟨inE0_row h_p_Cells, trivial⟩, rfl, ?_⟩
      intro hpre hlen
      obtain ⟨i_p_Cells, hpre⟩ := hpre
      refine ⟨⟨inE_row h_p_Cells i_p_Cells, trivial⟩, ?_⟩
      have z_p_Cells := lens_row (E := eU8) hlen h_p_Cells
      clear i_p_Cells
      generalize decL eU8 p_Cells_n p_Cells_f = p_CellsL at *
      clear h_p_Cells
      simp (config := {maxSteps := 10000000}) only [x5, push_cast, Nat.reduceAdd, Nat.reduceSub, Nat.reduceLeDiff, Nat.reduceEqDiff, Nat.reduceBEq, Nat.reduceMul, Nat.reduceLT, reduceIte, reduceCtorEq, Int.reduceLE, Int.reduceLT, Int.reduceEq, Int.reduceMul, Int.reduceAdd, Int.reduceSub, Int.reduceNeg, Int.reduceToNat, Int.reduceNe, g13, g14, g17, g15, g16, g19, g21, g22]
      rw [show IntKind.i64.wrap mark = mark from wrapI (by omega) (by omega)]
      refine fun hl => ⟨by omega, by rfl, ?_⟩
      cases ho : firstO p_W p_H p_CellsL at_X at_Y (beamV at_H mark).1 (beamV at_H mark).2.1 (beamV at_H mark).2.2 1500 with
      | none => have z := nohit_law ho; simp at z; exact ⟨fun _ => z, fun h => by simp at h⟩
      | some c =>
        have hp := (okF_at (first_best ho).1).1
        obtain ⟨z1, z2, z3, z4, z5⟩ := hits_law ho (rfl : bestF (entC at_X at_Y (beamV at_H mark).1 (beamV at_H mark).2.1 (beamV at_H mark).2.2) (some c) = _)
        generalize bestF (entC at_X at_Y (beamV at_H mark).1 (beamV at_H mark).2.1 (beamV at_H mark).2.2) (some c) = F at *
        rw [Int.tdiv_eq_ediv_of_nonneg z1.1, wrapI (n := F.1 / F.2) (by omega) (by omega), wrapI (n := F.1 / F.2 + 1) (by omega) (by omega)]
        simp only [z3, z4, hp, bestC, z5]
        exact ⟨fun h => by simp at h, fun _ => ⟨fun _ _ => by omega, by omega, fun _ _ _ => by simp; omega⟩⟩
    · cases hg_
  · cases hg_
/-- wayfinder/wayfinderlaw10.RayMeasures -/
def g7 : Con := fun args_ E_ nn_ => match args_ with
  | [.a [.v (.int .i64 p_W), .v (.int .i64 p_H), .n p_Cells], .a [.v (.int .i64 at_X), .v (.int .i64 at_Y), .v (.int .i64 at_H)], .a [.v (.int .i64 s_Turn), .v (.int .i64 s_Length), .v (.int .i64 s_X), .v (.int .i64 s_Y)]] => (match rowOf E_ p_Cells with
    | some (p_Cells_n, p_Cells_s, p_Cells_f) => some (.q (isRow eU8 p_Cells_n p_Cells_s p_Cells_f ∧ True) (.o (.c (.v (.bool (true))))))
    | none => none)
  | _ => none
theorem c7 : COk Try.prog 7 g7 := by
  refine cok_q Try.func7 x7_ok (by kernel_rfl) (cok_tab (cok_cons c13 (cok_cons c14 (cok_cons c25 (cok_cons c26 (cok_cons c23 cok_nil)))))) ?_
  intro args_ E_ nn_ cr_ hg_
  unfold g7 at hg_
  split at hg_
  · rename_i p_W p_H p_Cells at_X at_Y at_H s_Turn s_Length s_X s_Y
    split at hg_
    · rename_i p_Cells_n p_Cells_s p_Cells_f h_p_Cells
      cases hg_
      refine ⟨_, _, rfl, 1, [p_Cells], [.a [.v (.int .i64 p_W), .v (.int .i64 p_H), .n 0], .a [.v (.int .i64 at_X), .v (.int .i64 at_Y), .v (.int .i64 at_H)], .a [.v (.int .i64 s_Turn), .v (.int .i64 s_Length), .v (.int .i64 s_X), .v (.int .i64 s_Y)]], [(0, .ro (decL eU8 p_Cells_n p_Cells_f).length eU8.sz (rowF eU8 (decL eU8 p_Cells_n p_Cells_f)))], .o (.c (.v (.bool (true)))), rfl, rfl, by simp only [push_cast, Nat.reduceLT, Nat.reduceAdd], by simp only [push_cast, Nat.reduceLT, Nat.reduceAdd], by simp only [push_cast, Nat.reduceLT, Nat.reduceAdd], rfl, ⟨inE0_row h_p_Cells, trivial⟩, rfl, ?_⟩
      intro hpre hlen
      obtain ⟨i_p_Cells, hpre⟩ := hpre
      refine ⟨⟨inE_row h_p_Cells i_p_Cells, trivial⟩, ?_⟩
      have z_p_Cells := lens_row (E := eU8) hlen h_p_Cells
      clear i_p_Cells
      generalize decL eU8 p_Cells_n p_Cells_f = p_CellsL at *
      clear h_p_Cells
      simp (config := {maxSteps := 10000000}) only [x7, push_cast, Nat.reduceAdd, Nat.reduceSub, Nat.reduceLeDiff, Nat.reduceEqDiff, Nat.reduceBEq, Nat.reduceMul, Nat.reduceLT, reduceIte, reduceCtorEq, Int.reduceLE, Int.reduceLT, Int.reduceEq, Int.reduceMul, Int.reduceAdd, Int.reduceSub, Int.reduceNeg, Int.reduceToNat, Int.reduceNe, g13, g14, g25, g26, g23]
      intro _
      by_cases h : measE p_W p_H p_CellsL at_X at_Y at_H s_Turn s_Length = 0
      · exact .inr (meas_plaus h)
      · exact .inl h
    · cases hg_
  · cases hg_
end Go.Proofs.Ytpnpbbagonknjaa
set_option linter.unusedVariables false
set_option linter.unusedSimpArgs false
set_option maxRecDepth 20000
namespace Go.Proofs.Ytpnpbbagonknjaa
open Go.Sx Go.Way
def x6L0 : XC := (.seq (.seq (.reg false [O1 16 .mv 7, K2 17 (.bin .leq) 16 (iV 33)]) (.cond (.t 17) .skip (.exit 0))) (.seq (.block 1 (.seq (.reg true [O1 20 (.loadN 3) 3, O1 21 (.loadN 3) 4, O1 22 (.loadN 2) 5, O1 23 .mv 7, ⟨(some 24), (.call 23), [(.t 20), (.t 21), (.t 22), (.t 23)], none⟩, O1 25 (.loadN 3) 3, O1 26 (.loadN 3) 4, O1 27 (.loadN 2) 5, O1 28 .mv 7, ⟨(some 29), (.call 24), [(.t 25), (.t 26), (.t 27), (.t 28)], none⟩, O2 30 (.binb .neq) 24 29, O1 31 .mv 30, G1 32 (.loadN 3) 3 31 false, G1 33 (.loadN 3) 4 31 false, G1 34 (.loadN 2) 5 31 false, G1 35 .mv 7 31 false, GK 36 (.bin .add) 35 (iV 1) 31 false, ⟨(some 37), (.call 23), [(.t 32), (.t 33), (.t 34), (.t 36)], (some (31, false))⟩, G1 38 (.loadN 3) 3 31 false, G1 39 (.loadN 3) 4 31 false, G1 40 (.loadN 2) 5 31 false, G1 41 .mv 7 31 false, GK 42 (.bin .add) 41 (iV 1) 31 false, ⟨(some 43), (.call 24), [(.t 38), (.t 39), (.t 40), (.t 42)], (some (31, false))⟩, G2 44 (.binb .neq) 37 43 31 false, ⟨(some 45), .pick, [(.t 31), (.k (.bool true)), (.t 44)], none⟩]) (.cond (.t 45) (.seq (.reg false [K1 6 .mv (.bool false)]) .ret) .skip))) (.reg false [O1 18 .mv 7, K2 19 (.bin .add) 18 (iV 11), O1 7 .mv 19])))
def x6 : XFn := ⟨46, (.seq (.reg false [O1 3 (.box 24) 0, O1 4 (.box 26) 1, O1 5 (.box 28) 2, K1 6 .mv (.bool false)]) (.seq (.seq (.reg false [⟨(some 8), (.call 13), [], none⟩, O1 9 (.un .not) 8, O1 10 .mv 9, G1 11 (.loadN 3) 3 10 false, G1 12 (.call 14) 11 10 false, G1 13 (.un .not) 12 10 false, ⟨(some 14), .pick, [(.t 10), (.k (.bool true)), (.t 13)], none⟩]) (.cond (.t 14) (.seq (.reg false [⟨(some 15), (.call 13), [], none⟩, O1 6 .mv 15]) .ret) .skip)) (.seq (.seq (.reg false [K1 7 .mv (iV 0)]) (.block 0 (.loop x6L0))) (.seq (.reg false [K1 6 .mv (.bool true)]) .ret)))), [(.s 6)]⟩
theorem x6_ok : xfn Try.prog Try.f6 = some x6.er := by kernel_rfl
def x8L0 : XC := (.seq (.seq (.reg false [O1 42 .mv 8, K2 43 (.bin .leq) 42 (iV 32)]) (.cond (.t 43) .skip (.exit 0))) (.seq (.block 1 (.seq (.reg true [O1 46 (.loadN 3) 3, O1 47 (.loadN 3) 4, O1 48 (.call 17) 47, O1 49 (.loadN 3) 7, O1 50 (.fld 1) 5, O1 51 .load1 50, O1 52 .mv 8, O2 53 (.bin .sub) 51 52, ⟨(some 54), .maxI, [(.k (iV 0)), (.t 53)], none⟩, ⟨(some 55), (.call 19), [(.t 46), (.t 48), (.t 49), (.t 54)], none⟩, O1 9 .mv 55]) (.seq (.regD [O1 57 (.loadN 3) 3, O1 58 (.loadN 3) 4, O1 59 (.call 17) 58, O1 60 (.loadN 3) 7, O1 61 (.fld 1) 5, O1 62 .load1 61, O1 63 .mv 8, O2 64 (.bin .add) 62 63, ⟨(some 65), (.call 16), [(.t 57), (.t 59), (.t 60), (.t 64)], none⟩, O1 56 .mv 65, O1 66 (.ext 0) 56, O1 67 (.ext 1) 56, O1 68 (.ext 2) 56, ⟨(some 10), (.alloc 35 [(iV 0), (iV 0)]), [], none⟩, ⟨(some 11), (.alloc 37 [(iV 0), (iV 0)]), [], none⟩, ⟨none, (.store 2), [(.t 10), (.t 66)], none⟩, ⟨none, (.store 2), [(.t 11), (.t 67)], none⟩, O1 12 .mv 68] [[], [], [1], [], [], [4], [], [5, 4, 6], [0, 2, 1, 3, 7, 5, 4, 6], [8, 0, 2, 1, 3, 7, 5, 4, 6], [9, 8, 0, 2, 1, 3, 7, 5, 4, 6], [9, 8, 0, 2, 1, 3, 7, 5, 4, 6], [9, 8, 0, 2, 1, 3, 7, 5, 4, 6], [], [], [13, 10, 9, 8, 0, 2, 1, 3, 7, 5, 4, 6, 14], [14, 11, 9, 8, 0, 2, 1, 3, 7, 5, 4, 6, 15, 13, 10], [12, 9, 8, 0, 2, 1, 3, 7, 5, 4, 6, 16, 14, 11, 15, 13, 10]]) (.seq (.reg false [O1 69 (.loadN 3) 3, O1 70 (.loadN 3) 4, O1 71 (.loadN 2) 5, O1 72 .mv 8, ⟨(some 73), (.call 23), [(.t 69), (.t 70), (.t 71), (.t 72)], none⟩, O1 74 .mv 9, O1 75 .mv 74, G1 76 .mv 12 75 true, ⟨(some 77), .pick, [(.t 75), (.t 76), (.k (.bool false))], none⟩, O2 78 (.binb .neq) 73 77]) (.cond (.t 78) (.seq (.reg false [K1 6 .mv (.bool false)]) .ret) .skip))))) (.reg false [O1 44 .mv 8, K2 45 (.bin .add) 44 (iV 5), O1 8 .mv 45])))
def x8 : XFn := ⟨79, (.seq (.reg false [O1 3 (.box 24) 0, O1 4 (.box 26) 1, O1 5 (.box 28) 2, K1 6 .mv (.bool false)]) (.seq (.seq (.reg false [⟨(some 13), (.call 13), [], none⟩, O1 14 (.un .not) 13, O1 15 .mv 14, G1 16 (.loadN 3) 3 15 false, G1 17 (.call 14) 16 15 false, G1 18 (.un .not) 17 15 false, ⟨(some 19), .pick, [(.t 15), (.k (.bool true)), (.t 18)], none⟩, O1 20 .mv 19, G1 21 (.loadN 3) 3 20 false, G1 22 (.loadN 3) 4 20 false, G2 23 (.call 27) 21 22 20 false, G1 24 (.un .not) 23 20 false, ⟨(some 25), .pick, [(.t 20), (.k (.bool true)), (.t 24)], none⟩, O1 26 .mv 25, G1 27 (.loadN 2) 5 26 false, G1 28 (.call 28) 27 26 false, G1 29 (.un .not) 28 26 false, ⟨(some 30), .pick, [(.t 26), (.k (.bool true)), (.t 29)], none⟩, O1 31 .mv 30, G1 32 (.fld 1) 5 31 false, G1 33 .load1 32 31 false, GK 34 (.bin .lss) 33 (iV 0) 31 false, ⟨(some 35), .pick, [(.t 31), (.k (.bool true)), (.t 34)], none⟩]) (.cond (.t 35) (.seq (.reg false [⟨(some 36), (.call 13), [], none⟩, O1 6 .mv 36]) .ret) .skip)) (.seq (.reg false [O1 37 (.fld 2) 4, O1 38 .load1 37, O1 39 (.fld 0) 5, O1 40 .load1 39, O2 41 (.call 15) 38 40, ⟨(some 7), (.alloc 32 [(iV 0), (iV 0), (iV 0)]), [], none⟩, ⟨none, (.store 3), [(.t 7), (.t 41)], none⟩]) (.seq (.seq (.reg false [K1 8 .mv (iV 1)]) (.block 0 (.loop x8L0))) (.seq (.reg false [K1 6 .mv (.bool true)]) .ret))))), [(.s 6)]⟩
theorem x8_ok : xfn Try.prog Try.f8 = some x8.er := by kernel_rfl
def x9 : XFn := ⟨81, (.seq (.reg false [O1 3 (.box 24) 0, O1 4 (.box 26) 1, O1 5 (.box 61) 2, K1 6 .mv (.bool false)]) (.seq (.seq (.reg false [⟨(some 12), (.call 13), [], none⟩, O1 13 (.un .not) 12, O1 14 .mv 13, G1 15 (.loadN 3) 3 14 false, G1 16 (.call 14) 15 14 false, G1 17 (.un .not) 16 14 false, ⟨(some 18), .pick, [(.t 14), (.k (.bool true)), (.t 17)], none⟩, O1 19 .mv 18, G1 20 (.fld 6) 5 19 false, G1 21 .load1 20 19 false, G1 22 .lenS 21 19 false, GK 23 (.bin .gtr) 22 (iV 40) 19 false, ⟨(some 24), .pick, [(.t 19), (.k (.bool true)), (.t 23)], none⟩, O1 25 .mv 24, G1 26 (.fld 7) 5 25 false, G1 27 .load1 26 25 false, G1 28 .lenS 27 25 false, GK 29 (.bin .gtr) 28 (iV 40) 25 false, ⟨(some 30), .pick, [(.t 25), (.k (.bool true)), (.t 29)], none⟩]) (.cond (.t 30) (.seq (.reg false [⟨(some 31), (.call 13), [], none⟩, O1 6 .mv 31]) .ret) .skip)) (.seq (.reg false [O1 32 (.fld 2) 5, O1 33 (.fld 1) 32, O1 34 .load1 33, O1 7 .mv 34]) (.seq (.reg false [O1 36 (.loadN 3) 3, O1 37 (.loadN 3) 4, O1 38 (.fld 6) 5, O1 39 .load1 38, O1 40 .mv 7, O1 41 (.fld 7) 5, O1 42 .load1 41, ⟨(some 43), (.call 29), [(.t 36), (.t 37), (.t 39), (.t 40), (.t 42)], none⟩, O1 35 .mv 43, O1 44 (.ext 0) 35, O1 45 (.ext 1) 35, O1 8 .mv 44, O1 9 .mv 45]) (.seq (.reg false [O1 47 (.loadN 3) 3, O1 48 (.loadN 3) 4, O1 49 (.fld 6) 5, O1 50 .load1 49, O1 51 .mv 7, O1 52 (.fld 7) 5, O1 53 .load1 52, ⟨(some 54), (.call 30), [(.t 47), (.t 48), (.t 50), (.t 51), (.t 53)], none⟩, O1 46 .mv 54, O1 55 (.ext 0) 46, O1 56 (.ext 1) 46, O1 10 .mv 55, O1 11 .mv 56]) (.seq (.reg false [O1 57 .mv 8, O1 58 .mv 10, O2 59 (.call 31) 57 58, O1 60 .mv 59, G1 61 .mv 9 60 true, G1 62 .mv 11 60 true, G2 63 (.bin .eql) 61 62 60 true, ⟨(some 64), .pick, [(.t 60), (.t 63), (.k (.bool false))], none⟩, O1 65 .mv 64, G1 66 .mv 9 65 true, GK 67 (.bin .neq) 66 (iV 0) 65 true, G1 68 .mv 67 65 true, G1 69 (.loadN 3) 3 68 false, G1 70 (.loadN 3) 4 68 false, G1 71 .mv 8 68 false, G1 72 .mv 7 68 false, ⟨(some 73), (.call 32), [(.t 69), (.t 70), (.t 71), (.t 72)], (some (68, false))⟩, ⟨(some 74), .pick, [(.t 68), (.k (.bool true)), (.t 73)], (some (65, true))⟩, G1 75 .mv 74 65 true, G1 76 .mv 8 75 false, G1 77 .lenS 76 75 false, GK 78 (.bin .eql) 77 (iV 0) 75 false, ⟨(some 79), .pick, [(.t 75), (.k (.bool true)), (.t 78)], (some (65, true))⟩, ⟨(some 80), .pick, [(.t 65), (.t 79), (.k (.bool false))], none⟩, O1 6 .mv 80]) .ret)))))), [(.s 6)]⟩
theorem x9_ok : xfn Try.prog Try.f9 = some x9.er := by kernel_rfl
def x10L0 : XC := (.seq (.seq (.reg false [O1 24 .mv 8, O1 25 .mv 2, O1 26 .lenS 25, O2 27 (.bin .lss) 24 26]) (.cond (.t 27) .skip (.exit 0))) (.seq (.block 1 (.reg true [O1 30 .mv 7, O1 31 .mv 30, G1 32 (.loadN 3) 3 31 true, G1 33 (.loadN 3) 4 31 true, G1 34 .mv 2 31 true, G1 35 .mv 8 31 true, G2 36 (.ixS 2) 34 35 31 true, G1 37 (.loadN 2) 36 31 true, ⟨(some 38), (.call 23), [(.t 32), (.t 33), (.t 37), (.k (iV 5))], (some (31, true))⟩, ⟨(some 39), .pick, [(.t 31), (.t 38), (.k (.bool false))], none⟩, O1 7 .mv 39])) (.reg false [O1 28 .mv 8, K2 29 (.bin .add) 28 (iV 1), O1 8 .mv 29])))
def x10 : XFn := ⟨57, (.seq (.reg false [O1 3 (.box 24) 0, O1 4 (.box 26) 1, K1 6 .mv (.bool false)]) (.seq (.seq (.reg false [⟨(some 9), (.call 13), [], none⟩, O1 10 (.un .not) 9, O1 11 .mv 10, G1 12 (.loadN 3) 3 11 false, G1 13 (.call 14) 12 11 false, G1 14 (.un .not) 13 11 false, ⟨(some 15), .pick, [(.t 11), (.k (.bool true)), (.t 14)], none⟩, O1 16 .mv 15, G1 17 .mv 2 16 false, G1 18 .lenS 17 16 false, GK 19 (.bin .gtr) 18 (iV 40) 16 false, ⟨(some 20), .pick, [(.t 16), (.k (.bool true)), (.t 19)], none⟩]) (.cond (.t 20) (.seq (.reg false [⟨(some 21), (.call 13), [], none⟩, O1 6 .mv 21]) .ret) .skip)) (.seq (.reg false [O1 22 .mv 2, O1 23 (.call 33) 22, O1 7 .mv 23]) (.seq (.seq (.reg false [K1 8 .mv (iV 0)]) (.block 0 (.loop x10L0))) (.seq (.reg true [O1 40 (.loadN 3) 3, O1 41 (.loadN 3) 4, O1 42 .mv 2, ⟨(some 43), (.call 32), [(.t 40), (.t 41), (.t 42), (.k (iV 5))], none⟩, O1 44 .mv 7, O2 45 (.binb .eql) 43 44, O1 46 .mv 45, G1 47 (.loadN 3) 3 46 true, G1 48 (.loadN 3) 4 46 true, G1 49 .mv 2 46 true, ⟨(some 50), (.call 32), [(.t 47), (.t 48), (.t 49), (.k (iV 5))], (some (46, true))⟩, G1 51 (.loadN 3) 3 46 true, G1 52 (.loadN 3) 4 46 true, G1 53 .mv 2 46 true, ⟨(some 54), (.call 34), [(.t 51), (.t 52), (.t 53), (.k (iV 5))], (some (46, true))⟩, G2 55 (.binb .eql) 50 54 46 true, ⟨(some 56), .pick, [(.t 46), (.t 55), (.k (.bool false))], none⟩, O1 6 .mv 56]) .ret))))), [(.s 6)]⟩
theorem x10_ok : xfn Try.prog Try.f10 = some x10.er := by kernel_rfl
/-- wayfinder/wayfinderlaw10.RayPlausible -/
def g6 : Con := fun args_ E_ nn_ => match args_ with
  | [.a [.v (.int .i64 p_W), .v (.int .i64 p_H), .n p_Cells], .a [.v (.int .i64 at_X), .v (.int .i64 at_Y), .v (.int .i64 at_H)], .a [.v (.int .i64 b_Mark), .v (.int .i64 b_Reading)]] => (match rowOf E_ p_Cells with
    | some (p_Cells_n, p_Cells_s, p_Cells_f) => some (.q (isRow eU8 p_Cells_n p_Cells_s p_Cells_f ∧ True) (.o (.c (.v (.bool (true))))))
    | none => none)
  | _ => none
theorem c6 : COk Try.prog 6 g6 := by
  refine cok_q Try.func6 x6_ok (by kernel_rfl) (cok_tab (cok_cons c13 (cok_cons c14 (cok_cons c23 (cok_cons c24 cok_nil))))) ?_
  intro args_ E_ nn_ cr_ hg_
  unfold g6 at hg_
  split at hg_
  · rename_i p_W p_H p_Cells at_X at_Y at_H b_Mark b_Reading
    split at hg_
    · rename_i p_Cells_n p_Cells_s p_Cells_f h_p_Cells
      cases hg_
      refine ⟨_, _, rfl, 1, [p_Cells], [.a [.v (.int .i64 p_W), .v (.int .i64 p_H), .n 0], .a [.v (.int .i64 at_X), .v (.int .i64 at_Y), .v (.int .i64 at_H)], .a [.v (.int .i64 b_Mark), .v (.int .i64 b_Reading)]], [(0, .ro (decL eU8 p_Cells_n p_Cells_f).length eU8.sz (rowF eU8 (decL eU8 p_Cells_n p_Cells_f)))], .o (.c (.v (.bool (true)))), rfl, rfl, by simp only [push_cast, Nat.reduceLT, Nat.reduceAdd], by simp only [push_cast, Nat.reduceLT, Nat.reduceAdd], by simp only [push_cast, Nat.reduceLT, Nat.reduceAdd], rfl, ⟨inE0_row h_p_Cells, trivial⟩, rfl, ?_⟩
      intro hpre hlen
      obtain ⟨i_p_Cells, hpre⟩ := hpre
      refine ⟨⟨inE_row h_p_Cells i_p_Cells, trivial⟩, ?_⟩
      have z_p_Cells := lens_row (E := eU8) hlen h_p_Cells
      clear i_p_Cells
      generalize decL eU8 p_Cells_n p_Cells_f = p_CellsL at *
      clear h_p_Cells
      simp (config := {maxSteps := 10000000}) only [x6, push_cast, Nat.reduceAdd, Nat.reduceSub, Nat.reduceLeDiff, Nat.reduceEqDiff, Nat.reduceBEq, Nat.reduceMul, Nat.reduceLT, reduceIte, reduceCtorEq, Int.reduceLE, Int.reduceLT, Int.reduceEq, Int.reduceMul, Int.reduceAdd, Int.reduceSub, Int.reduceNeg, Int.reduceToNat, Int.reduceNe, g13, g14, g23, g24]
      intro hl
      refine vcLoop_upd (α := {k : Nat // k ≤ 4}) [3, 4, 5] 0 (fun s => [(7, .o (.c (.v (.int .i64 (11 * (s.1 : Nat))))))]) (fun s => []) (fun s => 4 - s.1) ⟨0, by omega⟩ ?_ ?_
      · simp only [push_cast, Nat.reduceAdd, Nat.reduceSub, Nat.reduceLeDiff, Nat.reduceEqDiff, Nat.reduceBEq, Nat.reduceMul, Nat.reduceLT, reduceIte, reduceCtorEq, Int.reduceLE, Int.reduceLT, Int.reduceEq, Int.reduceMul, Int.reduceAdd, Int.reduceSub, Int.reduceNeg, Int.reduceToNat, Int.reduceNe, g13, g14, g23, g24]
      · rintro ⟨k, hk⟩
        simp only [x6L0, push_cast, Nat.reduceAdd, Nat.reduceSub, Nat.reduceLeDiff, Nat.reduceEqDiff, Nat.reduceBEq, Nat.reduceMul, Nat.reduceLT, reduceIte, reduceCtorEq, Int.reduceLE, Int.reduceLT, Int.reduceEq, Int.reduceMul, Int.reduceAdd, Int.reduceSub, Int.reduceNeg, Int.reduceToNat, Int.reduceNe, g13, g14, g23, g24]
        exact fun h => ⟨⟨k + 1, by omega⟩, by rw [wrapI (by omega) (by omega)]; simp only; omega, by simp only; omega⟩
    · cases hg_
  · cases hg_
/-- wayfinder/wayfinderlaw10.RayBetween -/
def g8 : Con := fun args_ E_ nn_ => match args_ with
  | [.a [.v (.int .i64 p_W), .v (.int .i64 p_H), .n p_Cells], .a [.v (.int .i64 at_X), .v (.int .i64 at_Y), .v (.int .i64 at_H)], .a [.v (.int .i64 b_Mark), .v (.int .i64 b_Reading)]] => (match rowOf E_ p_Cells with
    | some (p_Cells_n, p_Cells_s, p_Cells_f) => some (.q (isRow eU8 p_Cells_n p_Cells_s p_Cells_f ∧ (-9223372036854775808 ≤ at_H ∧ at_H ≤ 9223372036854775807) ∧ (-9223372036854775808 ≤ b_Mark ∧ b_Mark ≤ 9223372036854775807)) (.o (.c (.v (.bool (true))))))
    | none => none)
  | _ => none
theorem c8 : COk Try.prog 8 g8 := by
  refine cok_q Try.func8 x8_ok (by kernel_rfl) (cok_tab (cok_cons c13 (cok_cons c14 (cok_cons c17 (cok_cons c27 (cok_cons c28 (cok_cons c15 (cok_cons c19 (cok_cons c16 (cok_cons c23 cok_nil)))))))))) ?_
  intro args_ E_ nn_ cr_ hg_
  unfold g8 at hg_
  split at hg_
  · rename_i p_W p_H p_Cells at_X at_Y at_H b_Mark b_Reading
    split at hg_
    · rename_i p_Cells_n p_Cells_s p_Cells_f h_p_Cells
      cases hg_
      refine ⟨_, _, rfl, 1, [p_Cells], [.a [.v (.int .i64 p_W), .v (.int .i64 p_H), .n 0], .a [.v (.int .i64 at_X), .v (.int .i64 at_Y), .v (.int .i64 at_H)], .a [.v (.int .i64 b_Mark), .v (.int .i64 b_Reading)]], [(0, .ro (decL eU8 p_Cells_n p_Cells_f).length eU8.sz (rowF eU8 (decL eU8 p_Cells_n p_Cells_f)))], .o (.c (.v (.bool (true)))), rfl, rfl, by simp only [push_cast, Nat.reduceLT, Nat.reduceAdd], by simp only [push_cast, Nat.reduceLT, Nat.reduceAdd], by simp only [push_cast, Nat.reduceLT, Nat.reduceAdd], rfl, ⟨inE0_row h_p_Cells, trivial⟩, rfl, ?_⟩
      intro hpre hlen
      obtain ⟨i_p_Cells, hpre⟩ := hpre
      refine ⟨⟨inE_row h_p_Cells i_p_Cells, trivial⟩, ?_⟩
      have z_p_Cells := lens_row (E := eU8) hlen h_p_Cells
      clear i_p_Cells
      generalize decL eU8 p_Cells_n p_Cells_f = p_CellsL at *
      clear h_p_Cells
      simp (config := {maxSteps := 10000000}) only [x8, push_cast, Nat.reduceAdd, Nat.reduceSub, Nat.reduceLeDiff, Nat.reduceEqDiff, Nat.reduceBEq, Nat.reduceMul, Nat.reduceLT, reduceIte, reduceCtorEq, Int.reduceLE, Int.reduceLT, Int.reduceEq, Int.reduceMul, Int.reduceAdd, Int.reduceSub, Int.reduceNeg, Int.reduceToNat, Int.reduceNe, g13, g14, g17, g27, g28, g15, g19, g16, g23]
      intro hl h1 h2 h3 h4 h5 h6 h7 h8
      refine ⟨by omega, ?_⟩
      have hg : goodB p_W p_H p_CellsL at_X at_Y at_H = true := by unfold goodB; rw [h1, decide_eq_true ⟨h2, h3⟩]; rfl
      refine vcLoop_upd (α := {k : Nat // k ≤ 7}) [3, 4, 5, 7] 0 (fun s => [(8, .o (.c (.v (.int .i64 (1 + 5 * (s.1 : Nat))))))]) (fun s => []) (fun s => 7 - s.1) ⟨0, by omega⟩ ?_ ?_
      · simp only [push_cast, Nat.reduceAdd, Nat.reduceSub, Nat.reduceLeDiff, Nat.reduceEqDiff, Nat.reduceBEq, Nat.reduceMul, Nat.reduceLT, reduceIte, reduceCtorEq, Int.reduceLE, Int.reduceLT, Int.reduceEq, Int.reduceMul, Int.reduceAdd, Int.reduceSub, Int.reduceNeg, Int.reduceToNat, Int.reduceNe, g13, g14, g17, g27, g28, g15, g19, g16, g23]
      · rintro ⟨k, hk⟩
        simp only [x8L0, push_cast, Nat.reduceAdd, Nat.reduceSub, Nat.reduceLeDiff, Nat.reduceEqDiff, Nat.reduceBEq, Nat.reduceMul, Nat.reduceLT, reduceIte, reduceCtorEq, Int.reduceLE, Int.reduceLT, Int.reduceEq, Int.reduceMul, Int.reduceAdd, Int.reduceSub, Int.reduceNeg, Int.reduceToNat, Int.reduceNe, g13, g14, g17, g27, g28, g15, g19, g16, g23]
        refine fun h => ⟨by rfl, ?_⟩
        rw [wrapI (n := b_Reading - (1 + 5 * (k : Int))) (by omega) (by omega), wrapI (n := b_Reading + (1 + 5 * (k : Int))) (by omega) (by omega), between_law hg (by omega) (by omega)]
        exact ⟨fun hn => hn rfl, fun _ => ⟨⟨k + 1, by omega⟩, by rw [wrapI (by omega) (by omega)]; simp only; omega, by simp only; omega⟩⟩
    · cases hg_
  · cases hg_
/-- wayfinder/wayfinderlaw10.RaySweeps -/
def g9 : Con := fun args_ E_ nn_ => match args_ with
  | [.a [.v (.int .i64 p_W), .v (.int .i64 p_H), .n p_Cells], .a [.v (.int .i64 at_X), .v (.int .i64 at_Y), .v (.int .i64 at_H)], .a [.v (.int .i64 a_Command_Turn), .v (.int .i64 a_Command_Forward), .v (.int .i64 a_Slip_Turn), .v (.int .i64 a_Slip_Length), .v (.int .i64 a_Slip_X), .v (.int .i64 a_Slip_Y), .n a_Marks, .n a_Errs]] => (match rowOf E_ p_Cells with
    | some (p_Cells_n, p_Cells_s, p_Cells_f) => (match rowOf E_ a_Marks with
    | some (a_Marks_n, a_Marks_s, a_Marks_f) => (match rowOf E_ a_Errs with
    | some (a_Errs_n, a_Errs_s, a_Errs_f) => some (.q (isRow eU8 p_Cells_n p_Cells_s p_Cells_f ∧ isRow eI a_Marks_n a_Marks_s a_Marks_f ∧ isRow eI a_Errs_n a_Errs_s a_Errs_f ∧ True) (.o (.c (.v (.bool (true))))))
    | none => none)
    | none => none)
    | none => none)
  | _ => none
theorem c9 : COk Try.prog 9 g9 := by
  refine cok_q Try.func9 x9_ok (by kernel_rfl) (cok_tab (cok_cons c13 (cok_cons c14 (cok_cons c29 (cok_cons c30 (cok_cons c31 (cok_cons c32 cok_nil))))))) ?_
  intro args_ E_ nn_ cr_ hg_
  unfold g9 at hg_
  split at hg_
  · rename_i p_W p_H p_Cells at_X at_Y at_H a_Command_Turn a_Command_Forward a_Slip_Turn a_Slip_Length a_Slip_X a_Slip_Y a_Marks a_Errs
    split at hg_
    · rename_i p_Cells_n p_Cells_s p_Cells_f h_p_Cells
      split at hg_
      · rename_i a_Marks_n a_Marks_s a_Marks_f h_a_Marks
        split at hg_
        · rename_i a_Errs_n a_Errs_s a_Errs_f h_a_Errs
          cases hg_
          refine ⟨_, _, rfl, 3, [p_Cells, a_Marks, a_Errs], [.a [.v (.int .i64 p_W), .v (.int .i64 p_H), .n 0], .a [.v (.int .i64 at_X), .v (.int .i64 at_Y), .v (.int .i64 at_H)], .a [.v (.int .i64 a_Command_Turn), .v (.int .i64 a_Command_Forward), .v (.int .i64 a_Slip_Turn), .v (.int .i64 a_Slip_Length), .v (.int .i64 a_Slip_X), .v (.int .i64 a_Slip_Y), .n 1, .n 2]], [(0, .ro (decL eU8 p_Cells_n p_Cells_f).length eU8.sz (rowF eU8 (decL eU8 p_Cells_n p_Cells_f))), (1, .ro (decL eI a_Marks_n a_Marks_f).length eI.sz (rowF eI (decL eI a_Marks_n a_Marks_f))), (2, .ro (decL eI a_Errs_n a_Errs_f).length eI.sz (rowF eI (decL eI a_Errs_n a_Errs_f)))], .o (.c (.v (.bool (true)))), rfl, rfl, by simp only [push_cast, Nat.reduceLT, Nat.reduceAdd], by simp only [push_cast, Nat.reduceLT, Nat.reduceAdd], by simp only [push_cast, Nat.reduceLT, Nat.reduceAdd], rfl, ⟨inE0_row h_p_Cells, inE0_row h_a_Marks, inE0_row h_a_Errs, trivial⟩, rfl, ?_⟩
          intro hpre hlen
          obtain ⟨i_p_Cells, hpre⟩ := hpre
          obtain ⟨i_a_Marks, hpre⟩ := hpre
          obtain ⟨i_a_Errs, hpre⟩ := hpre
          refine ⟨⟨inE_row h_p_Cells i_p_Cells, inE_row h_a_Marks i_a_Marks, inE_row h_a_Errs i_a_Errs, trivial⟩, ?_⟩
          have z_p_Cells := lens_row (E := eU8) hlen h_p_Cells
          have z_a_Marks := lens_row (E := eI) hlen h_a_Marks
          have z_a_Errs := lens_row (E := eI) hlen h_a_Errs
          clear i_p_Cells
          generalize decL eU8 p_Cells_n p_Cells_f = p_CellsL at *
          clear i_a_Marks
          generalize decL eI a_Marks_n a_Marks_f = a_MarksL at *
          clear i_a_Errs
          generalize decL eI a_Errs_n a_Errs_f = a_ErrsL at *
          clear h_p_Cells
          clear h_a_Marks
          clear h_a_Errs
          simp (config := {maxSteps := 10000000}) only [x9, push_cast, Nat.reduceAdd, Nat.reduceSub, Nat.reduceLeDiff, Nat.reduceEqDiff, Nat.reduceBEq, Nat.reduceMul, Nat.reduceLT, reduceIte, reduceCtorEq, Int.reduceLE, Int.reduceLT, Int.reduceEq, Int.reduceMul, Int.reduceAdd, Int.reduceSub, Int.reduceNeg, Int.reduceToNat, Int.reduceNe, g13, g14, g29, g30, g31, g32]
          intro _ _ _
          by_cases h : swpE p_W p_H p_CellsL at_X at_Y at_H a_Slip_Length a_MarksL = 0
          · exact .inl (.inr (sweep_plaus h))
          · exact .inl (.inl h)
        · cases hg_
      · cases hg_
    · cases hg_
  · cases hg_
/-- wayfinder/wayfinderlaw10.RayAll -/
def g10 : Con := fun args_ E_ nn_ => match args_ with
  | [.a [.v (.int .i64 p_W), .v (.int .i64 p_H), .n p_Cells], .a [.v (.int .i64 at_X), .v (.int .i64 at_Y), .v (.int .i64 at_H)], .c (.n s)] => (match rowOf E_ p_Cells with
    | some (p_Cells_n, p_Cells_s, p_Cells_f) => (match rowOf E_ s with
    | some (s_n, s_s, s_f) => some (.q (isRow eU8 p_Cells_n p_Cells_s p_Cells_f ∧ isRow eC s_n s_s s_f ∧ True) (.o (.c (.v (.bool (true))))))
    | none => none)
    | none => none)
  | _ => none
theorem c10 : COk Try.prog 10 g10 := by
  refine cok_q Try.func10 x10_ok (by kernel_rfl) (cok_tab (cok_cons c13 (cok_cons c14 (cok_cons c33 (cok_cons c23 (cok_cons c32 (cok_cons c34 cok_nil))))))) ?_
  intro args_ E_ nn_ cr_ hg_
  unfold g10 at hg_
  split at hg_
  · rename_i p_W p_H p_Cells at_X at_Y at_H s
    split at hg_
    · rename_i p_Cells_n p_Cells_s p_Cells_f h_p_Cells
      split at hg_
      · rename_i s_n s_s s_f h_s
        cases hg_
        refine ⟨_, _, rfl, 2, [p_Cells, s], [.a [.v (.int .i64 p_W), .v (.int .i64 p_H), .n 0], .a [.v (.int .i64 at_X), .v (.int .i64 at_Y), .v (.int .i64 at_H)], .c (.n 1)], [(0, .ro (decL eU8 p_Cells_n p_Cells_f).length eU8.sz (rowF eU8 (decL eU8 p_Cells_n p_Cells_f))), (1, .ro (decL eC s_n s_f).length eC.sz (rowF eC (decL eC s_n s_f)))], .o (.c (.v (.bool (true)))), rfl, rfl, by simp only [push_cast, Nat.reduceLT, Nat.reduceAdd], by simp only [push_cast, Nat.reduceLT, Nat.reduceAdd], by simp only [push_cast, Nat.reduceLT, Nat.reduceAdd], rfl, ⟨inE0_row h_p_Cells, inE0_row h_s, trivial⟩, rfl, ?_⟩
        intro hpre hlen
        obtain ⟨i_p_Cells, hpre⟩ := hpre
        obtain ⟨i_s, hpre⟩ := hpre
        refine ⟨⟨inE_row h_p_Cells i_p_Cells, inE_row h_s i_s, trivial⟩, ?_⟩
        have z_p_Cells := lens_row (E := eU8) hlen h_p_Cells
        have z_s := lens_row (E := eC) hlen h_s
        clear i_p_Cells
        generalize decL eU8 p_Cells_n p_Cells_f = p_CellsL at *
        clear i_s
        generalize decL eC s_n s_f = sL at *
        clear h_p_Cells
        clear h_s
        simp (config := {maxSteps := 10000000}) only [x10, push_cast, Nat.reduceAdd, Nat.reduceSub, Nat.reduceLeDiff, Nat.reduceEqDiff, Nat.reduceBEq, Nat.reduceMul, Nat.reduceLT, reduceIte, reduceCtorEq, Int.reduceLE, Int.reduceLT, Int.reduceEq, Int.reduceMul, Int.reduceAdd, Int.reduceSub, Int.reduceNeg, Int.reduceToNat, Int.reduceNe, g13, g14, g33, g23, g32, g34]
        intro hl hs
        refine vcLoop_upd (α := {k : Nat // k ≤ sL.length}) [2, 3, 4] 0 (fun s => [(7, .o (.c (.v (.bool (scanB sL && (sL.take s.1).all fun c => plausB p_W p_H p_CellsL at_X at_Y at_H c.X c.Y 5))))), (8, .o (.c (.v (.int .i64 (s.1 : Nat)))))]) (fun s => []) (fun s => sL.length - s.1) ⟨0, by omega⟩ ?_ ?_
        · simp only [push_cast, Nat.reduceAdd, Nat.reduceSub, Nat.reduceLeDiff, Nat.reduceEqDiff, Nat.reduceBEq, Nat.reduceMul, Nat.reduceLT, reduceIte, reduceCtorEq, Int.reduceLE, Int.reduceLT, Int.reduceEq, Int.reduceMul, Int.reduceAdd, Int.reduceSub, Int.reduceNeg, Int.reduceToNat, Int.reduceNe, g13, g14, g33, g23, g32, g34, List.take_zero, List.all_nil]
        · rintro ⟨k, hk⟩
          simp only [x10L0, push_cast, Nat.reduceAdd, Nat.reduceSub, Nat.reduceLeDiff, Nat.reduceEqDiff, Nat.reduceBEq, Nat.reduceMul, Nat.reduceLT, reduceIte, reduceCtorEq, Int.reduceLE, Int.reduceLT, Int.reduceEq, Int.reduceMul, Int.reduceAdd, Int.reduceSub, Int.reduceNeg, Int.reduceToNat, Int.reduceNe, g13, g14, g33, g23, g32, g34]
          refine ⟨fun hlt => ⟨fun a b => ⟨⟨a, b⟩, hlt⟩, fun a b => ⟨⟨a, b⟩, hlt⟩, ⟨k + 1, by omega⟩, ⟨?_, wrapI (by omega) (by omega)⟩, by simp only; omega⟩, fun hge => ?_⟩
          · rw [take_succ_all hlt, Bool.and_assoc]
          · rw [List.take_of_length_le (by omega), all_law]
      · cases hg_
    · cases hg_
  · cases hg_
end Go.Proofs.Ytpnpbbagonknjaa
