/- A part of the proof of a statement about this seat: how a function is stepped through, and plain laws. No conditions. -/
import Derived.Test.YtjnelnofbpjdmaaRows
import Derived.Test.YtjnelnofbpjdmaaSz3
import Derived.Test.YtjnelnofbpjdmaaU2
import Derived.KernelRfl
set_option linter.unusedVariables false
set_option linter.unusedSimpArgs false
set_option maxRecDepth 20000
namespace Go.Proofs.Ytjnelnofbpjdmaa
open Go.Sx Go.Way
/-! ### What a reading refutes -/
def beforeB (px py vx vy vd hi x0 y0 x1 y1 : Int) : Bool :=
  decide (0 ≤ hi ∧ hi ≤ 65536) && thrB px py vx vy vd x0 y0 x1 y1 && decide ((thrL px py vx vy x0 y0 x1 y1).1 * vd < hi * (thrL px py vx vy x0 y0 x1 y1).2)
/-- A wall is met from a point, within (or before) a distance. -/
def nearC (op : Bool) (px py vx vy vd far : Int) (c : CC) : Bool :=
  if op = true then beforeB px py vx vy vd far (c.X * 64) (c.Y * 64) (c.X * 64 + 64) (c.Y * 64 + 64) else meetsB px py vx vy vd 0 far (c.X * 64) (c.Y * 64) (c.X * 64 + 64) (c.Y * 64 + 64)
def hidC (W H : Int) (L : List Int) (x0 y0 x1 y1 vx vy vd far : Int) (op : Bool) (c : CC) : Bool :=
  decide (atB W H L c.X c.Y = 2) && nearC op x0 y0 vx vy vd far c && nearC op x1 y0 vx vy vd far c && nearC op x0 y1 vx vy vd far c && nearC op x1 y1 vx vy vd far c
noncomputable def hidB (W H : Int) (L : List Int) (x0 y0 x1 y1 vx vy vd far : Int) (op : Bool) : Bool := @decide (0 ≤ far ∧ ∃ c, hidC W H L x0 y0 x1 y1 vx vy vd far op c = true) (Classical.propDecidable _)
section
variable {W H : Int} {L : List Int} {x0 y0 x1 y1 px py vx vy vd far : Int} {op : Bool} {c : CC}
theorem hid_iff : hidB W H L x0 y0 x1 y1 vx vy vd far op = true ↔ 0 ≤ far ∧ ∃ c, hidC W H L x0 y0 x1 y1 vx vy vd far op c = true := by
  unfold hidB
  exact ⟨fun h => @of_decide_eq_true _ (Classical.propDecidable _) h, fun h => @decide_eq_true _ (Classical.propDecidable _) h⟩
theorem hid_no (h : ¬ (0 ≤ far ∧ ∃ c, hidC W H L x0 y0 x1 y1 vx vy vd far op c = true)) : hidB W H L x0 y0 x1 y1 vx vy vd far op = false := by
  rw [Bool.eq_false_iff]; exact fun q => h (hid_iff.1 q)
/-- What is met before a distance is met within it. -/
theorem near_meets (h : nearC op px py vx vy vd far c = true) : meetsB px py vx vy vd 0 far (c.X * 64) (c.Y * 64) (c.X * 64 + 64) (c.Y * 64 + 64) = true := by
  unfold nearC at h
  split at h
  · unfold beforeB at h
    simp only [Bool.and_eq_true, decide_eq_true_eq] at h
    obtain ⟨⟨h1, h2⟩, h3⟩ := h
    have e := (thr_ent h2).1.1
    have h2' := h2
    simp only [thrB, Bool.and_eq_true] at h2'
    obtain ⟨⟨⟨⟨a1, a2⟩, a3⟩, _⟩, _⟩ := h2'
    rw [meets_iff]
    have b := vec_bd a2
    refine ⟨⟨by omega, h1.1, h1.2⟩, a1, a2, a3, _, _, e.1, e.2.1, e.2.2.1, e.2.2.2, ?_, by omega⟩
    rw [Int.zero_mul]
    exact Int.mul_nonneg e.2.1 (by omega)
  · exact h
/-- A square that is met within a distance is near. -/
theorem meets_rng {a0 b0 a1 b1 : Int} (h : meetsB px py vx vy vd 0 far a0 b0 a1 b1 = true) : (a0 - px ≤ far ∧ -far ≤ a1 - px) ∧ b0 - py ≤ far ∧ -far ≤ b1 - py := by
  rw [meets_iff] at h
  obtain ⟨_, _, hv, _, n, m, hm, hn, hx, hy, _, hh⟩ := h
  have b := vec_bd hv
  have key : ∀ {d p a a' : Int}, -vd ≤ d → d ≤ vd → inC n m p d a a' → a - p ≤ far ∧ -far ≤ a' - p := by
    intro d p a a' h1 h2 hc
    unfold inC at hc
    have m1 := Int.mul_le_mul_of_nonneg_left h2 hn
    have m2 := Int.mul_le_mul_of_nonneg_left h1 hn
    rw [Int.mul_neg] at m2
    constructor
    · refine Int.le_of_mul_le_mul_right (a := m) ?_ hm
      rw [Int.sub_mul]; omega
    · refine Int.le_of_mul_le_mul_right (a := m) ?_ hm
      rw [Int.sub_mul, Int.neg_mul]; omega
  exact ⟨key (by omega) (by omega) hx, key (by omega) (by omega) hy⟩
/-- A square that is met from a point is one of the cells that its ray meets. -/
theorem meets_traced (hp : pPtB px py = true) (hv : vecB vx vy vd = true) (hf : 0 ≤ far ∧ far ≤ 2048) (h : meetsB px py vx vy vd 0 far (c.X * 64) (c.Y * 64) (c.X * 64 + 64) (c.Y * 64 + 64) = true) : c ∈ trL px py vx vy vd 0 far := by
  have e : trE px py vx vy vd 0 far = 0 := by
    unfold trE
    rw [if_neg (by rw [hp, hv]; simp), if_neg (by unfold okR; simp; omega)]
  have r := meets_rng h
  have hp' := hp
  unfold pPtB at hp'
  rw [decide_eq_true_eq] at hp'
  unfold trL
  rw [if_pos e, swL_mem]
  unfold swP
  rw [meets_iff] at h
  obtain ⟨h1, h2, h3, h4, n, m, hm, hn, hx, hy, hl, hh⟩ := h
  rw [Bool.and_eq_true, meets_iff]
  constructor
  · simp only [minusB, sRectB, nearB, Bool.and_eq_true, decide_eq_true_eq]; omega
  · refine ⟨h1, by rfl, h3, by simp only [sRectB, nearB, Bool.and_eq_true, decide_eq_true_eq]; omega, n, m, hm, hn, inC_shift.2 hx, inC_shift.2 hy, hl, hh⟩
/-- And it lies in the square of cells around the point's own. -/
theorem meets_grid (h : meetsB px py vx vy vd 0 far (c.X * 64) (c.Y * 64) (c.X * 64 + 64) (c.Y * 64 + 64) = true) (hf : 0 ≤ far) :
    (px / 64 - (far / 64 + 2) ≤ c.X ∧ c.X ≤ px / 64 + (far / 64 + 2)) ∧ py / 64 - (far / 64 + 2) ≤ c.Y ∧ c.Y ≤ py / 64 + (far / 64 + 2) := by
  have r := meets_rng h
  omega
theorem hidC_first (h : hidC W H L x0 y0 x1 y1 vx vy vd far op c = true) : meetsB x0 y0 vx vy vd 0 far (c.X * 64) (c.Y * 64) (c.X * 64 + 64) (c.Y * 64 + 64) = true := by
  unfold hidC at h
  simp only [Bool.and_eq_true] at h
  exact near_meets h.1.1.1.2
/-- Nothing is met before the distance 0. -/
theorem hid_zero (h : far ≤ 0) : hidB W H L x0 y0 x1 y1 vx vy vd far true = false := by
  refine hid_no ?_
  rintro ⟨h0, c, hc⟩
  unfold hidC at hc
  simp only [Bool.and_eq_true] at hc
  have k := hc.1.1.1.2
  unfold nearC at k
  rw [if_pos rfl] at k
  unfold beforeB at k
  simp only [Bool.and_eq_true, decide_eq_true_eq] at k
  have b := thr_nn k.1.2
  have := Int.mul_nonneg b.1.1 (show 0 ≤ vd by omega)
  have : far = 0 := by omega
  subst this
  rw [Int.zero_mul] at k
  omega
end
def emptyB (W H : Int) (L : List Int) (x0 y0 x1 y1 vx vy vd lo hi : Int) : Bool := (seL x0 y0 x1 y1 vx vy vd lo hi).all fun c => decide (atB W H L c.X c.Y = 1)
def admB (x0 y0 x1 y1 : Int) : Bool := decide (((-1048576 ≤ x0 ∧ x0 ≤ 1048576) ∧ (-1048576 ≤ y0 ∧ y0 ≤ 1048576) ∧ (-1048576 ≤ x1 ∧ x1 ≤ 1048576) ∧ -1048576 ≤ y1 ∧ y1 ≤ 1048576) ∧ (0 ≤ x1 - x0 ∧ x1 - x0 ≤ 1024) ∧ 0 ≤ y1 - y0 ∧ y1 - y0 ≤ 1024)
noncomputable def refI (W H : Int) (L : List Int) (x0 y0 x1 y1 h m z rng : Int) : Bool :=
  if z = -1 then hidB W H L x0 y0 x1 y1 (beamV h m).1 (beamV h m).2.1 (beamV h m).2.2 (1024 - rng) false
  else hidB W H L x0 y0 x1 y1 (beamV h m).1 (beamV h m).2.1 (beamV h m).2.2 (z - rng) true || emptyB W H L x0 y0 x1 y1 (beamV h m).1 (beamV h m).2.1 (beamV h m).2.2 (max 0 (z - rng)) (z + rng)
/-- A reading refutes a rectangle. -/
noncomputable def refuB (W H : Int) (L : List Int) (x0 y0 x1 y1 h m z rng : Int) : Bool :=
  planB W H L && decide ((0 ≤ m ∧ m ≤ 255) ∧ -1 ≤ z ∧ z ≤ 1024) && admB x0 y0 x1 y1 && decide (0 ≤ h ∧ h ≤ 255) && decide (1 ≤ rng ∧ rng ≤ 32) && refI W H L x0 y0 x1 y1 h m z rng
/-- The sweep of an admissible rectangle has no error. -/
theorem adm_swept {x0 y0 x1 y1 h m lo hi : Int} (ha : admB x0 y0 x1 y1 = true) (h1 : 0 ≤ lo) (h2 : lo ≤ hi) (h3 : hi ≤ 2048) : seE x0 y0 x1 y1 (beamV h m).1 (beamV h m).2.1 (beamV h m).2.2 lo hi = 0 := by
  unfold admB at ha
  rw [decide_eq_true_eq] at ha
  rw [seE0]
  refine ⟨?_, beam_vec h m, ⟨h1, h2, h3⟩, by omega, by omega⟩
  simp only [pRectB, pPtB, Bool.and_eq_true, decide_eq_true_eq]
  omega
/-! ### Smaller rectangles, and plans that know more -/
section
variable {px py vx vy vd far : Int} {op : Bool} {c : CC}
theorem near_iff : nearC op px py vx vy vd far c = true ↔ (0 ≤ far ∧ far ≤ 65536) ∧ sPtB px py = true ∧ vecB vx vy vd = true ∧ sqR c = true ∧
    ∃ n m : Int, 0 < m ∧ 0 ≤ n ∧ inC n m px vx (c.X * 64) (c.X * 64 + 64) ∧ inC n m py vy (c.Y * 64) (c.Y * 64 + 64) ∧ (if op = true then n * vd < far * m else n * vd ≤ far * m) := by
  cases op
  · unfold nearC
    rw [if_neg (by decide), meets_iff]
    unfold MeP sqR
    constructor
    · rintro ⟨h1, h2, h3, h4, n, m, hm, hn, hx, hy, _, hh⟩
      exact ⟨h1.2, h2, h3, h4, n, m, hm, hn, hx, hy, by rw [if_neg (by decide)]; exact hh⟩
    · rintro ⟨h1, h2, h3, h4, n, m, hm, hn, hx, hy, hh⟩
      rw [if_neg (by decide)] at hh
      have b := vec_bd h3
      exact ⟨⟨by omega, h1⟩, h2, h3, h4, n, m, hm, hn, hx, hy, by rw [Int.zero_mul]; exact Int.mul_nonneg hn (by omega), hh⟩
  · unfold nearC
    rw [if_pos rfl]
    unfold beforeB sqR
    simp only [Bool.and_eq_true, decide_eq_true_eq]
    constructor
    · rintro ⟨⟨h1, h2⟩, h3⟩
      have e := (thr_ent h2).1.1
      have h2' := h2
      simp only [thrB, Bool.and_eq_true] at h2'
      obtain ⟨⟨⟨⟨a1, a2⟩, a3⟩, _⟩, _⟩ := h2'
      exact ⟨h1, a1, a2, a3, _, _, e.1, e.2.1, e.2.2.1, e.2.2.2, by rw [if_pos trivial]; exact h3⟩
    · rintro ⟨h1, h2, h3, h4, n, m, hm, hn, hx, hy, hh⟩
      rw [if_pos trivial] at hh
      have ht := thr_of h2 h3 h4 (t := (n, m)) ⟨hm, hn, hx, hy⟩
      refine ⟨⟨h1, ht⟩, ?_⟩
      have e := (thr_ent ht).1.2 (n, m) ⟨hm, hn, hx, hy⟩
      have hp := thrL_pos px py vx vy (c.X * 64) (c.Y * 64) (c.X * 64 + 64) (c.Y * 64 + 64)
      have b := vec_bd h3
      generalize thrL px py vx vy (c.X * 64) (c.Y * 64) (c.X * 64 + 64) (c.Y * 64 + 64) = z at *
      unfold flE at e
      refine Int.lt_of_mul_lt_mul_right (a := m) ?_ (Int.le_of_lt hm)
      have f1 := Int.mul_le_mul_of_nonneg_right e (show 0 ≤ vd by omega)
      have f2 := Int.mul_lt_mul_of_pos_right hh hp
      have r1 : z.1 * m * vd = z.1 * vd * m := by ac_rfl
      have r2 : n * z.2 * vd = n * vd * z.2 := by ac_rfl
      have r3 : far * m * z.2 = far * z.2 * m := by ac_rfl
      simp only at f1
      omega
/-- Between two numbers with weights. -/
theorem inC_mid {n1 m1 n2 m2 a b x d s t l1 l2 : Int} (h1 : 0 ≤ l1) (h2 : 0 ≤ l2) (hm1 : 0 < m1) (hm2 : 0 < m2) (hx : l1 * a + l2 * b = (l1 + l2) * x) (k1 : inC n1 m1 a d s t) (k2 : inC n2 m2 b d s t) :
    inC (l1 * n1 * m2 + l2 * n2 * m1) ((l1 + l2) * m1 * m2) x d s t := by
  unfold inC at *
  have p1 : 0 ≤ l1 * m2 := Int.mul_nonneg h1 (Int.le_of_lt hm2)
  have p2 : 0 ≤ l2 * m1 := Int.mul_nonneg h2 (Int.le_of_lt hm1)
  have a1 := Int.mul_le_mul_of_nonneg_left k1.1 p1
  have a2 := Int.mul_le_mul_of_nonneg_left k2.1 p2
  have b1 := Int.mul_le_mul_of_nonneg_left k1.2 p1
  have b2 := Int.mul_le_mul_of_nonneg_left k2.2 p2
  have e1 : l1 * m2 * (s * m1) + l2 * m1 * (s * m2) = s * ((l1 + l2) * m1 * m2) := by grind
  have e2 : l1 * m2 * (t * m1) + l2 * m1 * (t * m2) = t * ((l1 + l2) * m1 * m2) := by grind
  have e3 : l1 * m2 * (a * m1 + n1 * d) + l2 * m1 * (b * m2 + n2 * d) = x * ((l1 + l2) * m1 * m2) + (l1 * n1 * m2 + l2 * n2 * m1) * d := by
    have : (l1 * a + l2 * b) * (m1 * m2) = (l1 + l2) * x * (m1 * m2) := by rw [hx]
    grind
  omega
theorem mid_lt {n1 m1 n2 m2 l1 l2 far vd : Int} (h1 : 0 ≤ l1) (h2 : 0 ≤ l2) (h : 0 < l1 + l2) (hm1 : 0 < m1) (hm2 : 0 < m2) (k1 : if op = true then n1 * vd < far * m1 else n1 * vd ≤ far * m1) (k2 : if op = true then n2 * vd < far * m2 else n2 * vd ≤ far * m2) :
    if op = true then (l1 * n1 * m2 + l2 * n2 * m1) * vd < far * ((l1 + l2) * m1 * m2) else (l1 * n1 * m2 + l2 * n2 * m1) * vd ≤ far * ((l1 + l2) * m1 * m2) := by
  have p1 : 0 ≤ l1 * m2 := Int.mul_nonneg h1 (Int.le_of_lt hm2)
  have p2 : 0 ≤ l2 * m1 := Int.mul_nonneg h2 (Int.le_of_lt hm1)
  have e1 : l1 * m2 * (n1 * vd) + l2 * m1 * (n2 * vd) = (l1 * n1 * m2 + l2 * n2 * m1) * vd := by grind
  have e2 : l1 * m2 * (far * m1) + l2 * m1 * (far * m2) = far * ((l1 + l2) * m1 * m2) := by grind
  cases op
  · rw [if_neg (by decide)] at *
    have a1 := Int.mul_le_mul_of_nonneg_left k1 p1
    have a2 := Int.mul_le_mul_of_nonneg_left k2 p2
    omega
  · rw [if_pos rfl] at *
    have a1 := Int.mul_le_mul_of_nonneg_left (Int.le_of_lt k1) p1
    have a2 := Int.mul_le_mul_of_nonneg_left (Int.le_of_lt k2) p2
    rcases (by omega : 0 < l1 ∨ 0 < l2) with q | q
    · have := Int.mul_lt_mul_of_pos_left k1 (Int.mul_pos q hm2)
      omega
    · have := Int.mul_lt_mul_of_pos_left k2 (Int.mul_pos q hm1)
      omega
theorem near_midx {a b x : Int} (h1 : nearC op a py vx vy vd far c = true) (h2 : nearC op b py vx vy vd far c = true) (ha : a ≤ x) (hb : x ≤ b) : nearC op x py vx vy vd far c = true := by
  rcases Int.lt_or_eq_of_le (Int.le_trans ha hb) with hab | hab
  · rw [near_iff] at h1 h2 ⊢
    obtain ⟨f, s1, v, q, n1, m1, hm1, hn1, x1, y1, k1⟩ := h1
    obtain ⟨_, s2, _, _, n2, m2, hm2, hn2, x2, y2, k2⟩ := h2
    have g1 := sPt_bd s1
    have g2 := sPt_bd s2
    have l1 : 0 ≤ b - x := by omega
    have l2 : 0 ≤ x - a := by omega
    refine ⟨f, by simp only [sPtB, nearB, Bool.and_eq_true, decide_eq_true_eq]; omega, v, q, (b - x) * n1 * m2 + (x - a) * n2 * m1, (b - x + (x - a)) * m1 * m2, ?_, ?_, inC_mid l1 l2 hm1 hm2 (by grind) x1 x2, inC_mid l1 l2 hm1 hm2 (by grind) y1 y2, mid_lt l1 l2 (by omega) hm1 hm2 k1 k2⟩
    · exact Int.mul_pos (Int.mul_pos (by omega) hm1) hm2
    · have := Int.mul_nonneg (Int.mul_nonneg l1 hn1) (Int.le_of_lt hm2)
      have := Int.mul_nonneg (Int.mul_nonneg l2 hn2) (Int.le_of_lt hm1)
      omega
  · rw [show x = a by omega]; exact h1
theorem near_midy {a b y : Int} (h1 : nearC op px a vx vy vd far c = true) (h2 : nearC op px b vx vy vd far c = true) (ha : a ≤ y) (hb : y ≤ b) : nearC op px y vx vy vd far c = true := by
  rcases Int.lt_or_eq_of_le (Int.le_trans ha hb) with hab | hab
  · rw [near_iff] at h1 h2 ⊢
    obtain ⟨f, s1, v, q, n1, m1, hm1, hn1, x1, y1, k1⟩ := h1
    obtain ⟨_, s2, _, _, n2, m2, hm2, hn2, x2, y2, k2⟩ := h2
    have g1 := sPt_bd s1
    have g2 := sPt_bd s2
    have l1 : 0 ≤ b - y := by omega
    have l2 : 0 ≤ y - a := by omega
    refine ⟨f, by simp only [sPtB, nearB, Bool.and_eq_true, decide_eq_true_eq]; omega, v, q, (b - y) * n1 * m2 + (y - a) * n2 * m1, (b - y + (y - a)) * m1 * m2, ?_, ?_, inC_mid l1 l2 hm1 hm2 (by grind) x1 x2, inC_mid l1 l2 hm1 hm2 (by grind) y1 y2, mid_lt l1 l2 (by omega) hm1 hm2 k1 k2⟩
    · exact Int.mul_pos (Int.mul_pos (by omega) hm1) hm2
    · have := Int.mul_nonneg (Int.mul_nonneg l1 hn1) (Int.le_of_lt hm2)
      have := Int.mul_nonneg (Int.mul_nonneg l2 hn2) (Int.le_of_lt hm1)
      omega
  · rw [show y = a by omega]; exact h1
end
/-- One plan says nothing that the other does not say. -/
def knows (W H : Int) (L M : List Int) : Prop := planB W H L = true ∧ planB W H M = true ∧ ∀ i, i < L.length → (L.getD i eU8.dflt = 0 ∨ L.getD i eU8.dflt = M.getD i eU8.dflt)
theorem knows_at {W H : Int} {L M : List Int} (h : knows W H L M) (x y : Int) : atB W H L x y = 0 ∨ atB W H L x y = atB W H M x y := by
  obtain ⟨h1, h2, h3⟩ := h
  cases hi : insB W H x y
  · right; rw [at_out h1 hi, at_out h2 hi]
  · have b := idx_bd h1 hi
    rw [at_in h1 hi, at_in h2 hi]
    exact h3 _ (by omega)
/-- What is refuted for a rectangle is refuted for each smaller one, and by a plan that knows more. -/
theorem refu_mono {W H : Int} {L M : List Int} {x0 y0 x1 y1 a0 b0 a1 b1 h m z rng : Int} (hk : knows W H L M) (hx : x0 ≤ a0 ∧ a0 ≤ a1 ∧ a1 ≤ x1) (hy : y0 ≤ b0 ∧ b0 ≤ b1 ∧ b1 ≤ y1)
    (hr : refuB W H L x0 y0 x1 y1 h m z rng = true) : refuB W H M a0 b0 a1 b1 h m z rng = true := by
  unfold refuB at hr ⊢
  simp only [Bool.and_eq_true, decide_eq_true_eq] at hr ⊢
  obtain ⟨⟨⟨⟨⟨r1, r2⟩, r3⟩, r4⟩, r5⟩, r6⟩ := hr
  have ha : admB a0 b0 a1 b1 = true := by
    unfold admB at r3 ⊢
    rw [decide_eq_true_eq] at r3 ⊢
    omega
  refine ⟨⟨⟨⟨⟨hk.2.1, r2⟩, ha⟩, r4⟩, r5⟩, ?_⟩
  have hid : ∀ far op, hidB W H L x0 y0 x1 y1 (beamV h m).1 (beamV h m).2.1 (beamV h m).2.2 far op = true → hidB W H M a0 b0 a1 b1 (beamV h m).1 (beamV h m).2.1 (beamV h m).2.2 far op = true := by
    intro far op q
    rw [hid_iff] at q ⊢
    obtain ⟨f, c, hc⟩ := q
    refine ⟨f, c, ?_⟩
    unfold hidC at hc ⊢
    simp only [Bool.and_eq_true, decide_eq_true_eq] at hc ⊢
    obtain ⟨⟨⟨⟨c0, c1⟩, c2⟩, c3⟩, c4⟩ := hc
    have w : atB W H M c.X c.Y = 2 := by rcases knows_at hk c.X c.Y with q | q <;> omega
    have e : ∀ x y, (x0 ≤ x ∧ x ≤ x1) → (y0 ≤ y ∧ y ≤ y1) → nearC op x y (beamV h m).1 (beamV h m).2.1 (beamV h m).2.2 far c = true := fun x y ex ey =>
      near_midy (near_midx c1 c2 ex.1 ex.2) (near_midx c3 c4 ex.1 ex.2) ey.1 ey.2
    exact ⟨⟨⟨⟨w, e _ _ (by omega) (by omega)⟩, e _ _ (by omega) (by omega)⟩, e _ _ (by omega) (by omega)⟩, e _ _ (by omega) (by omega)⟩
  unfold refI at r6 ⊢
  split
  · rename_i hz
    rw [if_pos hz] at r6
    exact hid _ _ r6
  · rename_i hz
    rw [if_neg hz] at r6
    rw [Bool.or_eq_true] at r6 ⊢
    rcases r6 with q | q
    · exact .inl (hid _ _ q)
    · right
      have s1 := adm_swept (h := h) (m := m) (lo := max 0 (z - rng)) (hi := z + rng) r3 (by omega) (by omega) (by omega)
      have s2 := adm_swept (h := h) (m := m) (lo := max 0 (z - rng)) (hi := z + rng) ha (by omega) (by omega) (by omega)
      unfold emptyB at q ⊢
      rw [List.all_eq_true] at q ⊢
      intro c hc
      have := q c (se_mono s2 s1 (by omega) (by omega) (by omega) c hc)
      rw [decide_eq_true_eq] at this ⊢
      rcases knows_at hk c.X c.Y with w | w <;> omega
/-! ### A plausible reading refutes no rectangle with the place -/
theorem ray_first {W H : Int} {L : List Int} {px py vx vy vd most : Int} {c : CC} (hok : okF W H L px py vx vy vd most = true) (hc : c ∈ rayL W H L px py vx vy vd most) :
    ∃ d, firstO W H L px py vx vy vd most = some d ∧ flE (entC px py vx vy vd d) (entC px py vx vy vd c) := by
  have hs : (rayL W H L px py vx vy vd most).Pairwise ltC := by
    unfold rayL
    rw [(okF_at hok).2.2.2.2.2.2.2]
    exact (swL_sorted _ _ _ _ _ _ _ _ _).filter _
  rcases pick_best (ltK_tr px py vx vy vd) (ltK_neg px py vx vy vd) (ltK_irr px py vx vy vd) _ hs with ⟨a1, a2⟩ | ⟨d, a1, a2⟩
  · rw [a2] at hc; cases hc
  · refine ⟨d, by rw [← first_eq hok]; exact a1, ?_⟩
    have := a2.2.1 c hc
    unfold ltK at this
    rw [decide_eq_false_iff_not] at this
    unfold flE
    omega
theorem meets_up {px py vx vy vd far far' a0 b0 a1 b1 : Int} (h : meetsB px py vx vy vd 0 far a0 b0 a1 b1 = true) (h1 : far ≤ far') (h2 : far' ≤ 65536) : meetsB px py vx vy vd 0 far' a0 b0 a1 b1 = true := by
  rw [meets_iff] at h ⊢
  obtain ⟨g1, g2, g3, g4, n, m, hm, hn, hx, hy, hl, hh⟩ := h
  have := Int.mul_le_mul_of_nonneg_right h1 (Int.le_of_lt hm)
  exact ⟨by omega, g2, g3, g4, n, m, hm, hn, hx, hy, hl, by omega⟩
theorem hid_ray {W H : Int} {L : List Int} {px py vx vy vd far most : Int} {op : Bool} {c : CC} (hok : okF W H L px py vx vy vd most = true) (hf : far ≤ most) (h : hidC W H L px py px py vx vy vd far op c = true) : c ∈ rayL W H L px py vx vy vd most := by
  have g := okF_at hok
  have a := planB_at g.1
  have hm := meets_up (hidC_first h) hf (by omega)
  have hp : pPtB px py = true := by unfold pPtB; rw [decide_eq_true_eq]; omega
  have ht := meets_traced hp g.2.2.1 g.2.2.2.1 hm
  unfold rayL
  rw [List.mem_filter]
  refine ⟨ht, ?_⟩
  unfold hidC at h
  simp only [Bool.and_eq_true] at h
  unfold wallB
  exact h.1.1.1.1
theorem refu_sound {W H : Int} {L : List Int} {x y h m z rng : Int} (hp : plausB W H L x y h m z rng = true) : refuB W H L x y x y h m z rng = false := by
  have hp' := hp
  unfold plausB at hp'
  simp only [Bool.and_eq_true, decide_eq_true_eq] at hp'
  obtain ⟨⟨⟨p1, p2⟩, p3⟩, p4⟩ := hp'
  obtain ⟨g1, g2⟩ := good_ok p1
  unfold beamB at p2
  rw [decide_eq_true_eq] at p2
  rw [Bool.eq_false_iff]
  intro hr
  unfold refuB at hr
  simp only [Bool.and_eq_true, decide_eq_true_eq] at hr
  obtain ⟨⟨⟨⟨⟨r1, r2⟩, r3⟩, r4⟩, r5⟩, r6⟩ := hr
  unfold refI at r6
  split at r6
  · rename_i hz
    rw [if_pos hz] at p4
    obtain ⟨f, c, hc⟩ := hid_iff.1 r6
    have hok := look_ok (m := m) p1 (s := 1024 - rng) (by omega) (by omega)
    obtain ⟨d, hd, _⟩ := ray_first hok (hid_ray hok (Int.le_refl _) hc)
    unfold lookO at p4
    rw [hd] at p4
    cases p4
  · rename_i hz
    rw [if_neg hz] at p4
    have hok := look_ok (m := m) p1 (s := z + rng) (by omega) (by omega)
    cases ho : lookO W H L x y h m (z + rng) with
    | none => rw [ho] at p4; cases p4
    | some d =>
      rw [ho] at p4
      have p5 : (z - rng) * (entC x y (beamV h m).1 (beamV h m).2.1 (beamV h m).2.2 d).2 ≤ (entC x y (beamV h m).1 (beamV h m).2.1 (beamV h m).2.2 d).1 := of_decide_eq_true p4
      have hdr := first_in ho
      have a := ref_at hdr
      rw [Bool.or_eq_true] at r6
      rcases r6 with q | q
      · obtain ⟨f, c, hc⟩ := hid_iff.1 q
        obtain ⟨d2, hd2, hfl⟩ := ray_first hok (hid_ray hok (by omega) hc)
        have hd3 : firstO W H L x y (beamV h m).1 (beamV h m).2.1 (beamV h m).2.2 (z + rng) = some d := ho
        rw [hd3] at hd2
        cases hd2
        have hn := hc
        unfold hidC at hn
        simp only [Bool.and_eq_true] at hn
        have hb := hn.1.1.1.2
        unfold nearC at hb
        rw [if_pos rfl] at hb
        unfold beforeB at hb
        simp only [Bool.and_eq_true, decide_eq_true_eq] at hb
        have hcb := ent_bd (c := c) hb.1.2
        have k := (fl_le (s := z - rng) a.2.1 hcb.2.1 hfl).2 p5
        unfold entC entF at k
        rw [(low_le (thrL_pos _ _ _ _ _ _ _ _)).2] at k
        omega
      · have s1 := adm_swept (h := h) (m := m) (lo := max 0 (z - rng)) (hi := z + rng) r3 (by omega) (by omega) (by omega)
        have mem := refL_mem.1 hdr
        have hh := mem.1.2
        unfold hitB at hh
        rw [Bool.and_eq_true, decide_eq_true_eq] at hh
        have e := (thr_ent hh.1).1.1
        have h2' := hh.1
        simp only [thrB, Bool.and_eq_true] at h2'
        obtain ⟨⟨⟨⟨a1, a2⟩, a3⟩, _⟩, _⟩ := h2'
        have b := vec_bd a2
        have hin : d ∈ seL x y x y (beamV h m).1 (beamV h m).2.1 (beamV h m).2.2 (max 0 (z - rng)) (z + rng) := by
          unfold seL
          rw [if_pos s1, swL_mem]
          unfold swP
          rw [Bool.and_eq_true, meets_iff]
          have hpl := planB_at r1
          have hinb := g1
          unfold inB at hinb
          rw [Bool.and_eq_true, decide_eq_true_eq] at hinb
          have k1 := hh.2
          unfold entC entF at k1 p5
          rw [(low_le (thrL_pos _ _ _ _ _ _ _ _)).1] at k1
          rw [(low_le (thrL_pos _ _ _ _ _ _ _ _)).2] at p5
          refine ⟨by simp only [minusB, sRectB, nearB, Bool.and_eq_true, decide_eq_true_eq]; omega, ⟨by omega, by omega, by omega⟩, by rfl, a2, by simp only [sRectB, nearB, Bool.and_eq_true, decide_eq_true_eq]; omega, _, _, e.1, e.2.1, inC_shift.2 e.2.2.1, inC_shift.2 e.2.2.2, ?_, k1⟩
          rcases Int.le_total 0 (z - rng) with w | w
          · rw [Int.max_eq_right w]; exact p5
          · rw [Int.max_eq_left w, Int.zero_mul]; exact Int.mul_nonneg e.2.1 (by omega)
        unfold emptyB at q
        rw [List.all_eq_true] at q
        have w1 := q d hin
        have w2 := mem.1.1
        unfold wallB at w2
        rw [decide_eq_true_eq] at w1 w2
        omega
/-! ### What is hidden: the two searches -/
/-- The first corners that see a wall. -/
def corB (op : Bool) (x0 y0 x1 y1 vx vy vd far : Int) (c : CC) : Nat → Bool
  | 0 => true
  | 1 => nearC op x0 y0 vx vy vd far c
  | 2 => nearC op x0 y0 vx vy vd far c && nearC op x1 y0 vx vy vd far c
  | 3 => nearC op x0 y0 vx vy vd far c && nearC op x1 y0 vx vy vd far c && nearC op x0 y1 vx vy vd far c
  | _ => nearC op x0 y0 vx vy vd far c && nearC op x1 y0 vx vy vd far c && nearC op x0 y1 vx vy vd far c && nearC op x1 y1 vx vy vd far c
theorem near_t {px py vx vy vd far : Int} {c : CC} : nearC true px py vx vy vd far c = beforeB px py vx vy vd far (c.X * 64) (c.Y * 64) (c.X * 64 + 64) (c.Y * 64 + 64) := rfl
theorem near_f {px py vx vy vd far : Int} {c : CC} : nearC false px py vx vy vd far c = meetsB px py vx vy vd 0 far (c.X * 64) (c.Y * 64) (c.X * 64 + 64) (c.Y * 64 + 64) := rfl
section
variable {W H : Int} {L : List Int} {x0 y0 x1 y1 vx vy vd far : Int} {op : Bool} {c : CC}
theorem hidC_cor : hidC W H L x0 y0 x1 y1 vx vy vd far op c = (decide (atB W H L c.X c.Y = 2) && corB op x0 y0 x1 y1 vx vy vd far c 4) := by
  unfold hidC corB
  cases decide (atB W H L c.X c.Y = 2) <;> simp [Bool.and_assoc]
theorem hid_yes (h0 : 0 ≤ far) (h1 : atB W H L c.X c.Y = 2) (h2 : corB op x0 y0 x1 y1 vx vy vd far c 4 = true) : hidB W H L x0 y0 x1 y1 vx vy vd far op = true :=
  hid_iff.2 ⟨h0, c, by rw [hidC_cor, h2, decide_eq_true h1]; rfl⟩
theorem mem_at {T : List CC} (h : c ∈ T) : ∃ k, k < T.length ∧ T.getD k eC.dflt = c := by
  obtain ⟨k, hk, he⟩ := List.mem_iff_getElem.1 h
  exact ⟨k, hk, by rw [← he]; simp [List.getD, hk]⟩
/-- The program's search: the cells of the first corner's ray. -/
theorem hid_none (ha : admB x0 y0 x1 y1 = true) (hv : vecB vx vy vd = true) (hf : far ≤ 2048)
    (hn : ∀ k, k < (trL x0 y0 vx vy vd 0 far).length → hidC W H L x0 y0 x1 y1 vx vy vd far op ((trL x0 y0 vx vy vd 0 far).getD k eC.dflt) = false) : hidB W H L x0 y0 x1 y1 vx vy vd far op = false := by
  refine hid_no ?_
  rintro ⟨h0, c, hc⟩
  have hp : pPtB x0 y0 = true := by
    unfold admB at ha
    rw [decide_eq_true_eq] at ha
    simp only [pPtB, decide_eq_true_eq, Bool.and_eq_true]
    omega
  obtain ⟨k, hk, he⟩ := mem_at (meets_traced hp hv ⟨h0, hf⟩ (hidC_first hc))
  have := hn k hk
  rw [he, hc] at this
  cases this
/-- The reference's search: the cells around the first corner's own. -/
theorem hid_none2 (hn : ∀ j i : Int, (0 ≤ j ∧ j ≤ 2 * (far / 64 + 2)) → (0 ≤ i ∧ i ≤ 2 * (far / 64 + 2)) → hidC W H L x0 y0 x1 y1 vx vy vd far op ⟨x0 / 64 - (far / 64 + 2) + i, y0 / 64 - (far / 64 + 2) + j⟩ = false) : hidB W H L x0 y0 x1 y1 vx vy vd far op = false := by
  refine hid_no ?_
  rintro ⟨h0, c, hc⟩
  have g := meets_grid (hidC_first hc) h0
  have := hn (c.Y - (y0 / 64 - (far / 64 + 2))) (c.X - (x0 / 64 - (far / 64 + 2))) (by omega) (by omega)
  have e : (⟨x0 / 64 - (far / 64 + 2) + (c.X - (x0 / 64 - (far / 64 + 2))), y0 / 64 - (far / 64 + 2) + (c.Y - (y0 / 64 - (far / 64 + 2)))⟩ : CC) = c := by
    cases c; simp only [CC.mk.injEq]; omega
  rw [e, hc] at this
  cases this
end
/-! ### The marks that are left -/
/-- How many of `n` marks from `fr` on are refuted at the front. -/
def ldN (f : Int → Bool) (fr : Int) : Nat → Nat
  | 0 => 0
  | n + 1 => if f (fr % 256) = true then ldN f (fr + 1) n + 1 else 0
/-- And at the back. -/
def tlN (f : Int → Bool) (fr : Int) : Nat → Nat
  | 0 => 0
  | n + 1 => if f ((fr + n) % 256) = true then tlN f fr n + 1 else 0
section
variable {f : Int → Bool}
theorem ldN_le (n : Nat) : ∀ fr : Int, ldN f fr n ≤ n := by
  induction n with
  | zero => intro fr; exact Nat.le_refl _
  | succ n ih =>
    intro fr
    unfold ldN
    split
    · have := ih (fr + 1); omega
    · omega
theorem ldN_uniq (n : Nat) : ∀ (fr : Int) (k : Nat), k ≤ n → (∀ i : Nat, i < k → f ((fr + i) % 256) = true) → (k < n → f ((fr + k) % 256) = false) → ldN f fr n = k := by
  induction n with
  | zero => intro fr k hk _ _; unfold ldN; omega
  | succ n ih =>
    intro fr k hk ha hb
    unfold ldN
    cases k with
    | zero =>
      have := hb (by omega)
      rw [show fr + ((0 : Nat) : Int) = fr by simp] at this
      rw [if_neg (by rw [this]; simp)]
    | succ k =>
      have h0 := ha 0 (by omega)
      rw [show fr + ((0 : Nat) : Int) = fr by simp] at h0
      rw [if_pos h0, ih (fr + 1) k (by omega) (fun i hi => ?_) (fun hk2 => ?_)]
      · rw [show fr + 1 + (i : Int) = fr + ((i + 1 : Nat) : Int) by omega]; exact ha (i + 1) (by omega)
      · rw [show fr + 1 + (k : Int) = fr + ((k + 1 : Nat) : Int) by omega]; exact hb (by omega)
theorem tlN_uniq (n : Nat) : ∀ (fr : Int) (k : Nat), k ≤ n → (∀ i : Nat, n - k ≤ i → i < n → f ((fr + i) % 256) = true) → (k < n → f ((fr + (n - k - 1 : Nat)) % 256) = false) → tlN f fr n = k := by
  induction n with
  | zero => intro fr k hk _ _; unfold tlN; omega
  | succ n ih =>
    intro fr k hk ha hb
    unfold tlN
    cases k with
    | zero =>
      have := hb (by omega)
      rw [show n + 1 - 0 - 1 = n by omega] at this
      rw [if_neg (by rw [this]; simp)]
    | succ k =>
      rw [if_pos (ha n (by omega) (by omega)), ih fr k (by omega) (fun i h1 h2 => ha i (by omega) (by omega)) (fun hk2 => ?_)]
      have := hb (by omega)
      rwa [show n + 1 - (k + 1) - 1 = n - k - 1 by omega] at this
theorem ldN_at (n : Nat) : ∀ fr : Int, (∀ i : Nat, i < ldN f fr n → f ((fr + i) % 256) = true) ∧ (ldN f fr n < n → f ((fr + (ldN f fr n : Nat)) % 256) = false) := by
  induction n with
  | zero => intro fr; exact ⟨fun i h => absurd h (by simp [ldN]), fun h => absurd h (by simp [ldN])⟩
  | succ n ih =>
    intro fr
    unfold ldN
    split
    · next h0 =>
      refine ⟨fun i hi => ?_, fun hk => ?_⟩
      · cases i with
        | zero => rw [show fr + ((0 : Nat) : Int) = fr by simp]; exact h0
        | succ i => have := (ih (fr + 1)).1 i (by omega); rwa [show fr + 1 + (i : Int) = fr + ((i + 1 : Nat) : Int) by omega] at this
      · have := (ih (fr + 1)).2 (by omega)
        rwa [show fr + 1 + ((ldN f (fr + 1) n : Nat) : Int) = fr + ((ldN f (fr + 1) n + 1 : Nat) : Int) by omega] at this
    · next h0 =>
      refine ⟨fun i hi => by omega, fun _ => ?_⟩
      rw [show fr + ((0 : Nat) : Int) = fr by simp]
      exact Bool.eq_false_iff.2 h0
theorem tlN_at (n : Nat) (fr : Int) : tlN f fr n ≤ n ∧ (∀ i : Nat, n - tlN f fr n ≤ i → i < n → f ((fr + i) % 256) = true) ∧ (tlN f fr n < n → f ((fr + (n - tlN f fr n - 1 : Nat)) % 256) = false) := by
  induction n with
  | zero => exact ⟨by simp [tlN], fun i _ h => by omega, fun h => absurd h (by simp [tlN])⟩
  | succ n ih =>
    obtain ⟨g1, g2, g3⟩ := ih
    unfold tlN
    split
    · next h0 =>
      refine ⟨by omega, fun i h1 h2 => ?_, fun hk => ?_⟩
      · rcases Nat.lt_succ_iff_lt_or_eq.1 h2 with q | q
        · exact g2 i (by omega) q
        · subst q; exact h0
      · have := g3 (by omega)
        rwa [show n + 1 - (tlN f fr n + 1) - 1 = n - tlN f fr n - 1 by omega]
    · next h0 =>
      refine ⟨by omega, fun i h1 h2 => by omega, fun _ => ?_⟩
      rw [show n + 1 - 0 - 1 = n by omega]
      exact Bool.eq_false_iff.2 h0
end
/-! ### What a trimmed arc keeps -/
section
variable {f : Int → Bool}
/-- A mark that is not refuted stays. -/
theorem trm_keep {fr h : Int} {n : Nat} (hn : n ≤ 256) (hh : 0 ≤ h ∧ h ≤ 255) (hi : (h - fr) % 256 < n) (hf : f h = false) :
    ldN f fr n < n ∧ (h - (fr + (ldN f fr n : Nat))) % 256 < (n - ldN f fr n - tlN f (fr + (ldN f fr n : Nat)) (n - ldN f fr n) : Nat) := by
  obtain ⟨a1, _⟩ := ldN_at (f := f) n fr
  have a0 := ldN_le (f := f) n fr
  generalize ldN f fr n = K at *
  obtain ⟨b0, b1, _⟩ := tlN_at (f := f) (n - K) (fr + (K : Nat))
  generalize tlN f (fr + (K : Nat)) (n - K) = T at *
  obtain ⟨i, hi2⟩ := Int.eq_ofNat_of_zero_le (Int.emod_nonneg (h - fr) (show (256 : Int) ≠ 0 by decide))
  have e : (fr + (i : Int)) % 256 = h := by omega
  have c1 : K ≤ i := by
    by_cases q : i < K
    · have := a1 i q
      rw [e, hf] at this; cases this
    · omega
  have c2 : i - K < n - K - T := by
    by_cases q : n - K - T ≤ i - K
    · have := b1 (i - K) q (by omega)
      rw [show fr + (K : Int) + ((i - K : Nat) : Int) = fr + (i : Int) by omega, e, hf] at this; cases this
    · omega
  have e2 : (h - (fr + (K : Int))) % 256 = ((i - K : Nat) : Int) := by omega
  refine ⟨by omega, ?_⟩
  rw [e2]; exact_mod_cast c2
/-- Some mark stays if not all are refuted at the front. -/
theorem trm_pos {fr : Int} {n : Nat} (h : ldN f fr n < n) : ldN f fr n + tlN f (fr + (ldN f fr n : Nat)) (n - ldN f fr n) < n := by
  obtain ⟨_, a2⟩ := ldN_at (f := f) n fr
  have z := a2 h
  generalize ldN f fr n = K at *
  obtain ⟨b0, b1, _⟩ := tlN_at (f := f) (n - K) (fr + (K : Nat))
  generalize tlN f (fr + (K : Nat)) (n - K) = T at *
  by_cases q : K + T < n
  · exact q
  · have := b1 0 (by omega) (by omega)
    rw [show fr + (K : Int) + ((0 : Nat) : Int) = fr + (K : Int) by omega, z] at this; cases this
theorem ldN_none {fr : Int} {n : Nat} (h : ∀ x, f x = false) : ldN f fr n = 0 := by
  cases n with
  | zero => rfl
  | succ n => unfold ldN; rw [if_neg (by rw [h]; simp)]
theorem tlN_none {fr : Int} {n : Nat} (h : ∀ x, f x = false) : tlN f fr n = 0 := by
  cases n with
  | zero => rfl
  | succ n => unfold tlN; rw [if_neg (by rw [h]; simp)]
/-- What stays was there. -/
theorem trm_sub {fr h : Int} {n K m : Nat} (hK : K + m ≤ n) (hn : n ≤ 256) (hi : (h - (fr + (K : Int))) % 256 < m) : (h - fr) % 256 < n := by
  omega
end
noncomputable def badI (W H : Int) (L : List Int) (x0 y0 x1 y1 h : Int) (S : List CC) (rng : Int) : Bool := S.any fun c => refI W H L x0 y0 x1 y1 h c.X c.Y rng
noncomputable def badB (W H : Int) (L : List Int) (x0 y0 x1 y1 h : Int) (S : List CC) (rng : Int) : Bool := admB x0 y0 x1 y1 && badI W H L x0 y0 x1 y1 h S rng
theorem refu_any {W H : Int} {L : List Int} {x0 y0 x1 y1 h rng : Int} {S : List CC} (h1 : planB W H L = true) (h2 : scanB S = true) (h3 : 0 ≤ h ∧ h ≤ 255) (h4 : 1 ≤ rng ∧ rng ≤ 32) :
    (S.any fun c => refuB W H L x0 y0 x1 y1 h c.X c.Y rng) = badB W H L x0 y0 x1 y1 h S rng := by
  unfold badB badI
  have hs : ∀ c ∈ S, beamB c.X c.Y = true := by
    unfold scanB at h2
    rw [Bool.and_eq_true, List.all_eq_true] at h2
    exact h2.2
  rw [Bool.eq_iff_iff]
  simp only [List.any_eq_true, Bool.and_eq_true]
  constructor
  · rintro ⟨c, hc, hr⟩
    unfold refuB at hr
    simp only [Bool.and_eq_true] at hr
    exact ⟨hr.1.1.1.2, c, hc, hr.2⟩
  · rintro ⟨ha, c, hc, hr⟩
    refine ⟨c, hc, ?_⟩
    have b := hs c hc
    unfold beamB at b
    unfold refuB
    rw [h1, b, ha, hr, decide_eq_true h3, decide_eq_true h4]; rfl
/-! ### The cells that a ray of an admissible rectangle meets -/
theorem trL_eq {px py vx vy vd far : Int} (hp : pPtB px py = true) (hv : vecB vx vy vd = true) (hf : 0 ≤ far ∧ far ≤ 2048) : trE px py vx vy vd 0 far = 0 ∧ trL px py vx vy vd 0 far = swL px py px py vx vy vd 0 far := by
  have e : trE px py vx vy vd 0 far = 0 := by
    unfold trE
    rw [if_neg (by rw [hp, hv]; simp), if_neg (by unfold okR; simp; omega)]
  exact ⟨e, by unfold trL; rw [if_pos e]⟩
theorem trL_bd {px py vx vy vd far : Int} {c : CC} (hp : pPtB px py = true) (hv : vecB vx vy vd = true) (hf : 0 ≤ far ∧ far ≤ 2048) (hc : c ∈ trL px py vx vy vd 0 far) : (-32768 ≤ c.X ∧ c.X ≤ 32768) ∧ -32768 ≤ c.Y ∧ c.Y ≤ 32768 := by
  rw [(trL_eq hp hv hf).2, swL_mem] at hc
  have a := vec_bd hv
  have r := sw_rng hc
  have fx := frac_bd (lo := 0) (hi := far) (n := vx) (d := vd) (by omega) (by omega) (by omega) (by omega) (by omega)
  have fy := frac_bd (lo := 0) (hi := far) (n := vy) (d := vd) (by omega) (by omega) (by omega) (by omega) (by omega)
  unfold pPtB at hp
  rw [decide_eq_true_eq] at hp
  omega
theorem trL_len {px py vx vy vd far : Int} (hp : pPtB px py = true) (hv : vecB vx vy vd = true) (hf : 0 ≤ far ∧ far ≤ 2048) : (trL px py vx vy vd 0 far).length ≤ 1000000 := by
  rw [(trL_eq hp hv hf).2]
  have a := vec_bd hv
  have fx := frac_bd (lo := 0) (hi := far) (n := vx) (d := vd) (by omega) (by omega) (by omega) (by omega) (by omega)
  have fy := frac_bd (lo := 0) (hi := far) (n := vy) (d := vd) (by omega) (by omega) (by omega) (by omega) (by omega)
  unfold swL gridL
  refine Nat.le_trans (gridUp_len _ _ _ _ _) ?_
  have e1 : (rHi py vy vd 0 far - rLo py vy vd 0 far + 1).toNat ≤ 1000 := by unfold rHi rLo; omega
  have e2 : (rHi px vx vd 0 far - rLo px vx vd 0 far + 1).toNat ≤ 1000 := by unfold rHi rLo; omega
  exact Nat.mul_le_mul e1 e2
theorem adm_pt {x0 y0 x1 y1 : Int} (ha : admB x0 y0 x1 y1 = true) : pPtB x0 y0 = true := by
  unfold admB at ha
  rw [decide_eq_true_eq] at ha
  simp only [pPtB, decide_eq_true_eq]
  omega
theorem seL_len {x0 y0 x1 y1 vx vy vd lo hi : Int} (ha : admB x0 y0 x1 y1 = true) (hv : vecB vx vy vd = true) (hl : 0 ≤ lo ∧ lo ≤ hi ∧ hi ≤ 2048) : (seL x0 y0 x1 y1 vx vy vd lo hi).length ≤ 1000000 := by
  unfold seL
  split
  · have a := vec_bd hv
    unfold admB at ha
    rw [decide_eq_true_eq] at ha
    have fx := frac_bd (lo := lo) (hi := hi) (n := vx) (d := vd) (by omega) (by omega) (by omega) (by omega) (by omega)
    have fy := frac_bd (lo := lo) (hi := hi) (n := vy) (d := vd) (by omega) (by omega) (by omega) (by omega) (by omega)
    unfold swL gridL
    refine Nat.le_trans (gridUp_len _ _ _ _ _) ?_
    have e1 : (rHi y1 vy vd lo hi - rLo y0 vy vd lo hi + 1).toNat ≤ 1000 := by unfold rHi rLo; omega
    have e2 : (rHi x1 vx vd lo hi - rLo x0 vx vd lo hi + 1).toNat ≤ 1000 := by unfold rHi rLo; omega
    exact Nat.mul_le_mul e1 e2
  · simp
def x92 : XFn := ⟨39, (.seq (.reg false [O1 4 (.box 112) 0, O1 5 (.box 75) 1, O1 7 (.box 26) 3, K1 8 .mv (.bool false)]) (.seq (.seq (.reg false [O1 11 .mv 2, K2 12 (.bin .lss) 11 (iV 0), O1 13 .mv 12, G1 14 .mv 2 13 false, GK 15 (.bin .gtr) 14 (iV 65536) 13 false, ⟨(some 16), .pick, [(.t 13), (.k (.bool true)), (.t 15)], none⟩]) (.cond (.t 16) (.seq (.reg false [K1 8 .mv (.bool false)]) .ret) .skip)) (.seq (.reg false [O1 18 (.loadN 2) 4, O1 19 (.loadN 3) 5, O1 20 (.loadN 4) 7, ⟨(some 21), (.call 110), [(.t 18), (.t 19), (.t 20)], none⟩, O1 17 .mv 21, O1 22 (.ext 0) 17, O1 23 (.ext 1) 17, ⟨(some 9), (.alloc 143 [(iV 0), (iV 0), (iV 0), (iV 0)]), [], none⟩, ⟨none, (.store 4), [(.t 9), (.t 22)], none⟩, O1 10 .mv 23]) (.seq (.reg false [O1 24 .mv 10, O1 25 .mv 24, G1 26 (.fld 0) 9 25 true, G1 27 (.fld 0) 26 25 true, G1 28 .load1 27 25 true, G1 29 (.fld 2) 5 25 true, G1 30 .load1 29 25 true, G2 31 (.bin .mul) 28 30 25 true, G1 32 .mv 2 25 true, G1 33 (.fld 0) 9 25 true, G1 34 (.fld 1) 33 25 true, G1 35 .load1 34 25 true, G2 36 (.bin .mul) 32 35 25 true, G2 37 (.bin .lss) 31 36 25 true, ⟨(some 38), .pick, [(.t 25), (.t 37), (.k (.bool false))], none⟩, O1 8 .mv 38]) .ret)))), [(.s 8)]⟩
theorem x92_ok : xfn Try.prog Try.f92 = some x92.er := by kernel_rfl
def x67 : XFn := ⟨34, (.seq (.reg false [O1 4 (.box 112) 0, O1 5 (.box 75) 1, O1 7 (.box 26) 3, K1 8 .mv (.bool false)]) (.seq (.seq (.reg false [O1 11 .mv 2, K2 12 (.bin .lss) 11 (iV 0), O1 13 .mv 12, G1 14 .mv 2 13 false, GK 15 (.bin .gtr) 14 (iV 65536) 13 false, ⟨(some 16), .pick, [(.t 13), (.k (.bool true)), (.t 15)], none⟩]) (.cond (.t 16) (.seq (.reg false [K1 8 .mv (.bool false)]) .ret) .skip)) (.seq (.reg false [O1 18 (.loadN 2) 4, O1 19 (.loadN 3) 5, O1 20 (.loadN 4) 7, ⟨(some 21), (.call 97), [(.t 18), (.t 19), (.t 20)], none⟩, O1 17 .mv 21, O1 22 (.ext 0) 17, O1 23 (.ext 1) 17, ⟨(some 9), (.alloc 95 [(iV 0), (iV 0)]), [], none⟩, ⟨none, (.store 2), [(.t 9), (.t 22)], none⟩, O1 10 .mv 23]) (.seq (.reg false [O1 24 .mv 10, O1 25 .mv 24, G1 26 (.fld 0) 9 25 true, G1 27 .load1 26 25 true, G1 28 .mv 2 25 true, G1 29 (.fld 1) 9 25 true, G1 30 .load1 29 25 true, G2 31 (.bin .mul) 28 30 25 true, G2 32 (.bin .lss) 27 31 25 true, ⟨(some 33), .pick, [(.t 25), (.t 32), (.k (.bool false))], none⟩, O1 8 .mv 33]) .ret)))), [(.s 8)]⟩
theorem x67_ok : xfn Try.prog Try.f67 = some x67.er := by kernel_rfl
def x32 : XFn := ⟨15, (.seq (.reg false [K1 6 .mv (.bool false)]) (.seq (.reg false [O1 7 .mv 0, O1 8 .mv 1, O2 9 (.bin .geq) 7 8, O1 10 .mv 9, G1 11 .mv 0 10 true, G1 12 .mv 2 10 true, G2 13 (.bin .leq) 11 12 10 true, ⟨(some 14), .pick, [(.t 10), (.t 13), (.k (.bool false))], none⟩, O1 6 .mv 14]) .ret)), [(.s 6)]⟩
theorem x32_ok : xfn Try.prog Try.f32 = some x32.er := by kernel_rfl
def x31L0 : XC := (.seq (.reg false [K2 15 (.bin .lss) 14 (iV 4)]) (.seq (.cond (.t 15) .skip (.exit 0)) (.seq (.block 1 (.seq (.reg false [O2 16 (.ix1 4 1) 13 14, O1 4 .mv 16]) (.seq (.reg false [O1 17 .mv 4, ⟨(some 18), (.call 32), [(.t 17), (.k (iV (-1048576))), (.k (iV 1048576))], none⟩, O1 19 (.un .not) 18]) (.cond (.t 19) (.seq (.reg false [K1 2 .mv (.bool false)]) .ret) .skip)))) (.reg false [K2 20 (.bin .add) 14 (iV 1), O1 14 .mv 20]))))
def x31 : XFn := ⟨35, (.seq (.reg false [O1 1 (.box 26) 0, K1 2 .mv (.bool false)]) (.seq (.seq (.reg false [O1 5 (.fld 0) 1, O1 6 .load1 5, O1 7 (.fld 1) 1, O1 8 .load1 7, O1 9 (.fld 2) 1, O1 10 .load1 9, O1 11 (.fld 3) 1, O1 12 .load1 11, ⟨(some 13), (.build [(iV 0), (iV 0), (iV 0), (iV 0)] [(0, 1), (1, 1), (2, 1), (3, 1)]), [(.t 6), (.t 8), (.t 10), (.t 12)], none⟩, K1 14 .mv (iV 0)]) (.block 0 (.loop x31L0))) (.seq (.reg false [O1 21 (.fld 2) 1, O1 22 .load1 21, O1 23 (.fld 0) 1, O1 24 .load1 23, O2 25 (.bin .sub) 22 24, ⟨(some 26), (.call 32), [(.t 25), (.k (iV 0)), (.k (iV 1024))], none⟩, O1 27 .mv 26, G1 28 (.fld 3) 1 27 true, G1 29 .load1 28 27 true, G1 30 (.fld 1) 1 27 true, G1 31 .load1 30 27 true, G2 32 (.bin .sub) 29 31 27 true, ⟨(some 33), (.call 32), [(.t 32), (.k (iV 0)), (.k (iV 1024))], (some (27, true))⟩, ⟨(some 34), .pick, [(.t 27), (.t 33), (.k (.bool false))], none⟩, O1 2 .mv 34]) .ret))), [(.s 2)]⟩
theorem x31_ok : xfn Try.prog Try.f31 = some x31.er := by kernel_rfl
def x30 : XFn := ⟨11, (.seq (.reg false [O1 1 (.box 28) 0, K1 2 .mv (.bool false)]) (.seq (.reg false [O1 3 (.fld 0) 1, O1 4 .load1 3, ⟨(some 5), (.call 32), [(.t 4), (.k (iV 0)), (.k (iV 255))], none⟩, O1 6 .mv 5, G1 7 (.fld 1) 1 6 true, G1 8 .load1 7 6 true, ⟨(some 9), (.call 32), [(.t 8), (.k (iV (-1))), (.k (iV 1024))], (some (6, true))⟩, ⟨(some 10), .pick, [(.t 6), (.t 9), (.k (.bool false))], none⟩, O1 2 .mv 10]) .ret)), [(.s 2)]⟩
theorem x30_ok : xfn Try.prog Try.f30 = some x30.er := by kernel_rfl
def x36 : XFn := ⟨49, (.seq (.reg false [O1 1 (.box 26) 0, K1 2 .mv (.bool false)]) (.seq (.seq (.reg false [O1 3 (.fld 0) 1, O1 4 .load1 3, O1 5 (.fld 2) 1, O1 6 .load1 5, O2 7 (.bin .gtr) 4 6, O1 8 .mv 7, G1 9 (.fld 1) 1 8 false, G1 10 .load1 9 8 false, G1 11 (.fld 3) 1 8 false, G1 12 .load1 11 8 false, G2 13 (.bin .gtr) 10 12 8 false, ⟨(some 14), .pick, [(.t 8), (.k (.bool true)), (.t 13)], none⟩, O1 15 .mv 14, G1 16 (.fld 0) 1 15 false, G1 17 .load1 16 15 false, GK 18 (.bin .lss) 17 (iV (-1048576)) 15 false, ⟨(some 19), .pick, [(.t 15), (.k (.bool true)), (.t 18)], none⟩, O1 20 .mv 19, G1 21 (.fld 1) 1 20 false, G1 22 .load1 21 20 false, GK 23 (.bin .lss) 22 (iV (-1048576)) 20 false, ⟨(some 24), .pick, [(.t 20), (.k (.bool true)), (.t 23)], none⟩, O1 25 .mv 24, G1 26 (.fld 2) 1 25 false, G1 27 .load1 26 25 false, GK 28 (.bin .gtr) 27 (iV 1048576) 25 false, ⟨(some 29), .pick, [(.t 25), (.k (.bool true)), (.t 28)], none⟩, O1 30 .mv 29, G1 31 (.fld 3) 1 30 false, G1 32 .load1 31 30 false, GK 33 (.bin .gtr) 32 (iV 1048576) 30 false, ⟨(some 34), .pick, [(.t 30), (.k (.bool true)), (.t 33)], none⟩]) (.cond (.t 34) (.seq (.reg false [K1 2 .mv (.bool false)]) .ret) .skip)) (.seq (.reg false [O1 35 (.fld 2) 1, O1 36 .load1 35, O1 37 (.fld 0) 1, O1 38 .load1 37, O2 39 (.bin .sub) 36 38, K2 40 (.bin .leq) 39 (iV 1024), O1 41 .mv 40, G1 42 (.fld 3) 1 41 true, G1 43 .load1 42 41 true, G1 44 (.fld 1) 1 41 true, G1 45 .load1 44 41 true, G2 46 (.bin .sub) 43 45 41 true, GK 47 (.bin .leq) 46 (iV 1024) 41 true, ⟨(some 48), .pick, [(.t 41), (.t 47), (.k (.bool false))], none⟩, O1 2 .mv 48]) .ret))), [(.s 2)]⟩
theorem x36_ok : xfn Try.prog Try.f36 = some x36.er := by kernel_rfl
def x63L0 : XC := (.seq (.reg false [O2 26 (.bin .lss) 25 24]) (.seq (.cond (.t 26) .skip (.exit 0)) (.seq (.block 1 (.seq (.reg false [O2 27 (.ixS 2) 23 25, O1 28 (.loadN 2) 27, ⟨(some 14), (.alloc 83 [(iV 0), (iV 0)]), [], none⟩, ⟨none, (.store 2), [(.t 14), (.t 28)], none⟩]) (.seq (.reg false [O1 29 (.loadN 3) 5, O1 30 (.loadN 2) 14, O2 31 (.call 91) 29 30, K2 32 (.bin .neq) 31 (.int .u8 1)]) (.cond (.t 32) (.seq (.reg false [K1 10 .mv (.bool false)]) .ret) .skip)))) (.reg false [K2 33 (.bin .add) 25 (iV 1), O1 25 .mv 33]))))
def x63 : XFn := ⟨34, (.seq (.reg false [O1 5 (.box 24) 0, O1 6 (.box 26) 1, O1 7 (.box 75) 2, K1 10 .mv (.bool false)]) (.seq (.reg false [O1 16 (.loadN 4) 6, O1 17 (.loadN 3) 7, O1 18 .mv 3, O1 19 .mv 4, ⟨(some 20), (.call 94), [(.t 16), (.t 17), (.t 18), (.t 19)], none⟩, O1 15 .mv 20, O1 21 (.ext 0) 15, O1 22 (.ext 1) 15, O1 11 .mv 21, O1 12 .mv 22]) (.seq (.seq (.reg false [O1 23 .mv 11, O1 24 .lenS 23, K1 25 .mv (iV 0)]) (.block 0 (.loop x63L0))) (.seq (.reg false [K1 10 .mv (.bool true)]) .ret)))), [(.s 10)]⟩
theorem x63_ok : xfn Try.prog Try.f63 = some x63.er := by kernel_rfl
/-- wayfinder/segment.Before -/
def g92 : Con := fun args_ E_ nn_ => match args_ with
  | [.a [.v (.int .i64 p_X), .v (.int .i64 p_Y)], .a [.v (.int .i64 v_X), .v (.int .i64 v_Y), .v (.int .i64 v_D)], .c (.v (.int .i64 hi)), .a [.v (.int .i64 r_X0), .v (.int .i64 r_Y0), .v (.int .i64 r_X1), .v (.int .i64 r_Y1)]] => some (.q (True) (.o (.c (.v (.bool (beforeB p_X p_Y v_X v_Y v_D hi r_X0 r_Y0 r_X1 r_Y1))))))
  | _ => none
theorem c92 : COk Try.prog 92 g92 := by
  refine cok_q Try.func92 x92_ok (by kernel_rfl) (cok_tab (cok_cons c110 cok_nil)) ?_
  intro args_ E_ nn_ cr_ hg_
  unfold g92 at hg_
  split at hg_
  · rename_i p_X p_Y v_X v_Y v_D hi r_X0 r_Y0 r_X1 r_Y1
    cases hg_
    refine ⟨_, _, rfl, 0, [], [.a [.v (.int .i64 p_X), .v (.int .i64 p_Y)], .a [.v (.int .i64 v_X), .v (.int .i64 v_Y), .v (.int .i64 v_D)], .c (.v (.int .i64 hi)), .a [.v (.int .i64 r_X0), .v (.int .i64 r_Y0), .v (.int .i64 r_X1), .v (.int .i64 r_Y1)]], [], .o (.c (.v (.bool (beforeB p_X p_Y v_X v_Y v_D hi r_X0 r_Y0 r_X1 r_Y1)))), rfl, rfl, by simp only [push_cast, Nat.reduceLT, Nat.reduceAdd], by simp only [push_cast, Nat.reduceLT, Nat.reduceAdd], by simp only [push_cast, Nat.reduceLT, Nat.reduceAdd], rfl, trivial, rfl, ?_⟩
    intro hpre hlen
    refine ⟨trivial, ?_⟩
    simp (config := {maxSteps := 10000000}) only [x92, push_cast, Nat.reduceAdd, Nat.reduceSub, Nat.reduceLeDiff, Nat.reduceEqDiff, Nat.reduceBEq, Nat.reduceMul, Nat.reduceLT, reduceIte, reduceCtorEq, Int.reduceLE, Int.reduceLT, Int.reduceEq, Int.reduceMul, Int.reduceAdd, Int.reduceSub, Int.reduceNeg, Int.reduceToNat, Int.reduceNe, g110]
    unfold beforeB
    refine ⟨fun h => ?_, fun h1 h2 => ?_⟩
    · rw [decide_eq_false (by omega)]; rfl
    cases h3 : thrB p_X p_Y v_X v_Y v_D r_X0 r_Y0 r_X1 r_Y1
    · simp
    have a2 : vecB v_X v_Y v_D = true := by simp only [thrB, Bool.and_eq_true] at h3; exact h3.1.1.1.2
    have a2 := vec_bd a2
    have b := thr_bd h3
    unfold bdF at b
    generalize thrL p_X p_Y v_X v_Y r_X0 r_Y0 r_X1 r_Y1 = L at *
    simp only [mI_t]
    have e3 := mulB (a := L.1) (b := v_D) (A := 8388608) (B := 67108864) (by omega) (by omega) (by omega) (by omega)
    have e4 := mulB (a := hi) (b := L.2) (A := 65536) (B := 67108864) (by omega) (by omega) (by omega) (by omega)
    simp (disch := omega) only [wrapI]
    rw [decide_eq_true (p := 0 ≤ hi ∧ hi ≤ 65536) (by omega)]
    simp
  · cases hg_
/-- wayfinder/wayfinderref05.Before -/
def g67 : Con := fun args_ E_ nn_ => match args_ with
  | [.a [.v (.int .i64 p_X), .v (.int .i64 p_Y)], .a [.v (.int .i64 v_X), .v (.int .i64 v_Y), .v (.int .i64 v_D)], .c (.v (.int .i64 hi)), .a [.v (.int .i64 r_X0), .v (.int .i64 r_Y0), .v (.int .i64 r_X1), .v (.int .i64 r_Y1)]] => some (.q (True) (.o (.c (.v (.bool (beforeB p_X p_Y v_X v_Y v_D hi r_X0 r_Y0 r_X1 r_Y1))))))
  | _ => none
theorem c67 : COk Try.prog 67 g67 := by
  refine cok_q Try.func67 x67_ok (by kernel_rfl) (cok_tab (cok_cons c97 cok_nil)) ?_
  intro args_ E_ nn_ cr_ hg_
  unfold g67 at hg_
  split at hg_
  · rename_i p_X p_Y v_X v_Y v_D hi r_X0 r_Y0 r_X1 r_Y1
    cases hg_
    refine ⟨_, _, rfl, 0, [], [.a [.v (.int .i64 p_X), .v (.int .i64 p_Y)], .a [.v (.int .i64 v_X), .v (.int .i64 v_Y), .v (.int .i64 v_D)], .c (.v (.int .i64 hi)), .a [.v (.int .i64 r_X0), .v (.int .i64 r_Y0), .v (.int .i64 r_X1), .v (.int .i64 r_Y1)]], [], .o (.c (.v (.bool (beforeB p_X p_Y v_X v_Y v_D hi r_X0 r_Y0 r_X1 r_Y1)))), rfl, rfl, by simp only [push_cast, Nat.reduceLT, Nat.reduceAdd], by simp only [push_cast, Nat.reduceLT, Nat.reduceAdd], by simp only [push_cast, Nat.reduceLT, Nat.reduceAdd], rfl, trivial, rfl, ?_⟩
    intro hpre hlen
    refine ⟨trivial, ?_⟩
    simp (config := {maxSteps := 10000000}) only [x67, push_cast, Nat.reduceAdd, Nat.reduceSub, Nat.reduceLeDiff, Nat.reduceEqDiff, Nat.reduceBEq, Nat.reduceMul, Nat.reduceLT, reduceIte, reduceCtorEq, Int.reduceLE, Int.reduceLT, Int.reduceEq, Int.reduceMul, Int.reduceAdd, Int.reduceSub, Int.reduceNeg, Int.reduceToNat, Int.reduceNe, g97]
    unfold beforeB
    refine ⟨fun h => ?_, fun h1 h2 => ?_⟩
    · rw [decide_eq_false (by omega)]; rfl
    rw [ok_thr]
    cases h3 : thrB p_X p_Y v_X v_Y v_D r_X0 r_Y0 r_X1 r_Y1
    · simp
    rw [ent_low h3]
    unfold entF
    have a2 : vecB v_X v_Y v_D = true := by simp only [thrB, Bool.and_eq_true] at h3; exact h3.1.1.1.2
    have a2 := vec_bd a2
    have b := thr_bd h3
    unfold bdF at b
    generalize thrL p_X p_Y v_X v_Y r_X0 r_Y0 r_X1 r_Y1 = L at *
    have b' : 0 < L.2 ∧ L.2 ≤ 67108864 := by omega
    have c1 := low_bd (n := L.1 * v_D) (d := L.2) (by omega) (by omega)
    have e4 := mulB (a := hi) (b := (lowF (L.1 * v_D) L.2).2) (A := 65536) (B := 67108864) (by omega) (by omega) (by omega) (by omega)
    have k := (low_le (n := L.1 * v_D) (d := L.2) (k := hi) (by omega)).2
    simp (disch := omega) only [wrapI, mI_t]
    rw [decide_eq_true (p := 0 ≤ hi ∧ hi ≤ 65536) (by omega)]
    simp
    omega
  · cases hg_
/-- wayfinder/contract.within -/
def g32 : Con := fun args_ E_ nn_ => match args_ with
  | [.c (.v (.int .i64 n)), .c (.v (.int .i64 lo)), .c (.v (.int .i64 hi))] => some (.q (True) (.o (.c (.v (.bool (decide (lo ≤ n ∧ n ≤ hi)))))))
  | _ => none
theorem c32 : COk Try.prog 32 g32 := by
  refine cok_q Try.func32 x32_ok (by kernel_rfl) (cok_tab cok_nil) ?_
  intro args_ E_ nn_ cr_ hg_
  unfold g32 at hg_
  split at hg_
  · rename_i n lo hi
    cases hg_
    refine ⟨_, _, rfl, 0, [], [.c (.v (.int .i64 n)), .c (.v (.int .i64 lo)), .c (.v (.int .i64 hi))], [], .o (.c (.v (.bool (decide (lo ≤ n ∧ n ≤ hi))))), rfl, rfl, by simp only [push_cast, Nat.reduceLT, Nat.reduceAdd], by simp only [push_cast, Nat.reduceLT, Nat.reduceAdd], by simp only [push_cast, Nat.reduceLT, Nat.reduceAdd], rfl, trivial, rfl, ?_⟩
    intro hpre hlen
    refine ⟨trivial, ?_⟩
    simp (config := {maxSteps := 10000000}) only [x32, push_cast, Nat.reduceAdd, Nat.reduceSub, Nat.reduceLeDiff, Nat.reduceEqDiff, Nat.reduceBEq, Nat.reduceMul, Nat.reduceLT, reduceIte, reduceCtorEq, Int.reduceLE, Int.reduceLT, Int.reduceEq, Int.reduceMul, Int.reduceAdd, Int.reduceSub, Int.reduceNeg, Int.reduceToNat, Int.reduceNe]
    exact (Bool.decide_and _ _).symm
  · cases hg_
/-- wayfinder/contract.validBeam -/
def g30 : Con := fun args_ E_ nn_ => match args_ with
  | [.a [.v (.int .i64 b_Mark), .v (.int .i64 b_Reading)]] => some (.q (True) (.o (.c (.v (.bool (decide ((0 ≤ b_Mark ∧ b_Mark ≤ 255) ∧ -1 ≤ b_Reading ∧ b_Reading ≤ 1024)))))))
  | _ => none
theorem c30 : COk Try.prog 30 g30 := by
  refine cok_q Try.func30 x30_ok (by kernel_rfl) (cok_tab (cok_cons c32 cok_nil)) ?_
  intro args_ E_ nn_ cr_ hg_
  unfold g30 at hg_
  split at hg_
  · rename_i b_Mark b_Reading
    cases hg_
    refine ⟨_, _, rfl, 0, [], [.a [.v (.int .i64 b_Mark), .v (.int .i64 b_Reading)]], [], .o (.c (.v (.bool (decide ((0 ≤ b_Mark ∧ b_Mark ≤ 255) ∧ -1 ≤ b_Reading ∧ b_Reading ≤ 1024))))), rfl, rfl, by simp only [push_cast, Nat.reduceLT, Nat.reduceAdd], by simp only [push_cast, Nat.reduceLT, Nat.reduceAdd], by simp only [push_cast, Nat.reduceLT, Nat.reduceAdd], rfl, trivial, rfl, ?_⟩
    intro hpre hlen
    refine ⟨trivial, ?_⟩
    simp (config := {maxSteps := 10000000}) only [x30, push_cast, Nat.reduceAdd, Nat.reduceSub, Nat.reduceLeDiff, Nat.reduceEqDiff, Nat.reduceBEq, Nat.reduceMul, Nat.reduceLT, reduceIte, reduceCtorEq, Int.reduceLE, Int.reduceLT, Int.reduceEq, Int.reduceMul, Int.reduceAdd, Int.reduceSub, Int.reduceNeg, Int.reduceToNat, Int.reduceNe, g32]
    exact (Bool.decide_and _ _).symm
  · cases hg_
/-- wayfinder/wayfinderref24.Admissible -/
def g36 : Con := fun args_ E_ nn_ => match args_ with
  | [.a [.v (.int .i64 r_X0), .v (.int .i64 r_Y0), .v (.int .i64 r_X1), .v (.int .i64 r_Y1)]] => some (.q (True) (.o (.c (.v (.bool (admB r_X0 r_Y0 r_X1 r_Y1))))))
  | _ => none
theorem c36 : COk Try.prog 36 g36 := by
  refine cok_q Try.func36 x36_ok (by kernel_rfl) (cok_tab cok_nil) ?_
  intro args_ E_ nn_ cr_ hg_
  unfold g36 at hg_
  split at hg_
  · rename_i r_X0 r_Y0 r_X1 r_Y1
    cases hg_
    refine ⟨_, _, rfl, 0, [], [.a [.v (.int .i64 r_X0), .v (.int .i64 r_Y0), .v (.int .i64 r_X1), .v (.int .i64 r_Y1)]], [], .o (.c (.v (.bool (admB r_X0 r_Y0 r_X1 r_Y1)))), rfl, rfl, by simp only [push_cast, Nat.reduceLT, Nat.reduceAdd], by simp only [push_cast, Nat.reduceLT, Nat.reduceAdd], by simp only [push_cast, Nat.reduceLT, Nat.reduceAdd], rfl, trivial, rfl, ?_⟩
    intro hpre hlen
    refine ⟨trivial, ?_⟩
    simp (config := {maxSteps := 10000000}) only [x36, push_cast, Nat.reduceAdd, Nat.reduceSub, Nat.reduceLeDiff, Nat.reduceEqDiff, Nat.reduceBEq, Nat.reduceMul, Nat.reduceLT, reduceIte, reduceCtorEq, Int.reduceLE, Int.reduceLT, Int.reduceEq, Int.reduceMul, Int.reduceAdd, Int.reduceSub, Int.reduceNeg, Int.reduceToNat, Int.reduceNe]
    unfold admB
    refine ⟨fun h => ?_, fun h1 h2 h3 h4 h5 h6 => ?_⟩
    · rw [decide_eq_false (by omega)]
    · rw [wrapI (by omega) (by omega), wrapI (by omega) (by omega), ← Bool.decide_and]
      exact decide_eq_decide.2 (by omega)
  · cases hg_
/-- wayfinder/contract.empty -/
def g63 : Con := fun args_ E_ nn_ => match args_ with
  | [.a [.v (.int .i64 p_W), .v (.int .i64 p_H), .n p_Cells], .a [.v (.int .i64 r_X0), .v (.int .i64 r_Y0), .v (.int .i64 r_X1), .v (.int .i64 r_Y1)], .a [.v (.int .i64 v_X), .v (.int .i64 v_Y), .v (.int .i64 v_D)], .c (.v (.int .i64 lo)), .c (.v (.int .i64 hi))] => (match rowOf E_ p_Cells with
    | some (p_Cells_n, p_Cells_s, p_Cells_f) => some (.q (isRow eU8 p_Cells_n p_Cells_s p_Cells_f ∧ admB r_X0 r_Y0 r_X1 r_Y1 = true ∧ vecB v_X v_Y v_D = true ∧ 0 ≤ lo ∧ lo ≤ hi ∧ hi ≤ 2048) (.o (.c (.v (.bool (emptyB p_W p_H (decL eU8 p_Cells_n p_Cells_f) r_X0 r_Y0 r_X1 r_Y1 v_X v_Y v_D lo hi))))))
    | none => none)
  | _ => none
theorem c63 : COk Try.prog 63 g63 := by
  refine cok_q Try.func63 x63_ok (by kernel_rfl) (cok_tab (cok_cons c94 (cok_cons c91 cok_nil))) ?_
  intro args_ E_ nn_ cr_ hg_
  unfold g63 at hg_
  split at hg_
  · rename_i p_W p_H p_Cells r_X0 r_Y0 r_X1 r_Y1 v_X v_Y v_D lo hi
    split at hg_
    · rename_i p_Cells_n p_Cells_s p_Cells_f h_p_Cells
      cases hg_
      refine ⟨_, _, rfl, 1, [p_Cells], [.a [.v (.int .i64 p_W), .v (.int .i64 p_H), .n 0], .a [.v (.int .i64 r_X0), .v (.int .i64 r_Y0), .v (.int .i64 r_X1), .v (.int .i64 r_Y1)], .a [.v (.int .i64 v_X), .v (.int .i64 v_Y), .v (.int .i64 v_D)], .c (.v (.int .i64 lo)), .c (.v (.int .i64 hi))], [(0, .ro (decL eU8 p_Cells_n p_Cells_f).length eU8.sz (rowF eU8 (decL eU8 p_Cells_n p_Cells_f)))], .o (.c (.v (.bool (emptyB p_W p_H (decL eU8 p_Cells_n p_Cells_f) r_X0 r_Y0 r_X1 r_Y1 v_X v_Y v_D lo hi)))), rfl, rfl, by simp only [push_cast, Nat.reduceLT, Nat.reduceAdd], by simp only [push_cast, Nat.reduceLT, Nat.reduceAdd], by simp only [push_cast, Nat.reduceLT, Nat.reduceAdd], rfl, ⟨inE0_row h_p_Cells, trivial⟩, rfl, ?_⟩
      intro hpre hlen
      obtain ⟨i_p_Cells, hpre⟩ := hpre
      refine ⟨⟨inE_row h_p_Cells i_p_Cells, trivial⟩, ?_⟩
      have z_p_Cells := lens_row (E := eU8) hlen h_p_Cells
      clear i_p_Cells
      generalize decL eU8 p_Cells_n p_Cells_f = p_CellsL at *
      clear h_p_Cells
      simp (config := {maxSteps := 10000000}) only [x63, push_cast, Nat.reduceAdd, Nat.reduceSub, Nat.reduceLeDiff, Nat.reduceEqDiff, Nat.reduceBEq, Nat.reduceMul, Nat.reduceLT, reduceIte, reduceCtorEq, Int.reduceLE, Int.reduceLT, Int.reduceEq, Int.reduceMul, Int.reduceAdd, Int.reduceSub, Int.reduceNeg, Int.reduceToNat, Int.reduceNe, g94, g91]
      obtain ⟨ha, hv, hl⟩ := hpre
      have hlen := seL_len ha hv hl
      unfold emptyB
      generalize seL r_X0 r_Y0 r_X1 r_Y1 v_X v_Y v_D lo hi = T at *
      refine vcLoop_upd (α := {k : Nat // k ≤ T.length ∧ ∀ j, j < k → atB p_W p_H p_CellsL (T.getD j eC.dflt).X (T.getD j eC.dflt).Y = 1}) [5, 23, 24] 0 (fun s => [(25, .o (.c (.v (.int .i64 (s.1 : Nat)))))]) (fun s => []) (fun s => T.length - s.1) ⟨0, by omega, fun j hj => by omega⟩ ?_ ?_
      · simp only [push_cast, Nat.reduceAdd, Nat.reduceSub, Nat.reduceLeDiff, Nat.reduceEqDiff, Nat.reduceBEq, Nat.reduceMul, Nat.reduceLT, reduceIte, reduceCtorEq, Int.reduceLE, Int.reduceLT, Int.reduceEq, Int.reduceMul, Int.reduceAdd, Int.reduceSub, Int.reduceNeg, Int.reduceToNat, Int.reduceNe, g94, g91]
      rintro ⟨k, hk, hz⟩
      by_cases hlt : k < T.length
      · by_cases hw : atB p_W p_H p_CellsL (T.getD k eC.dflt).X (T.getD k eC.dflt).Y = 1
        · simp only [x63L0, hlt, hw, push_cast, Nat.reduceAdd, Nat.reduceSub, Nat.reduceLeDiff, Nat.reduceEqDiff, Nat.reduceBEq, Nat.reduceMul, Nat.reduceLT, reduceIte, reduceCtorEq, Int.reduceLE, Int.reduceLT, Int.reduceEq, Int.reduceMul, Int.reduceAdd, Int.reduceSub, Int.reduceNeg, Int.reduceToNat, Int.reduceNe, g94, g91]
          exact ⟨⟨k + 1, by omega, fun j hj => by rcases Nat.lt_succ_iff_lt_or_eq.1 hj with q | q; exact hz j q; subst q; exact hw⟩, wrapI (by omega) (by omega), by simp only; omega⟩
        · simp only [x63L0, hlt, hw, push_cast, Nat.reduceAdd, Nat.reduceSub, Nat.reduceLeDiff, Nat.reduceEqDiff, Nat.reduceBEq, Nat.reduceMul, Nat.reduceLT, reduceIte, reduceCtorEq, Int.reduceLE, Int.reduceLT, Int.reduceEq, Int.reduceMul, Int.reduceAdd, Int.reduceSub, Int.reduceNeg, Int.reduceToNat, Int.reduceNe, g94, g91]
          have z : T.all (fun c => decide (atB p_W p_H p_CellsL c.X c.Y = 1)) = false := by
            rw [List.all_eq_false]
            exact ⟨_, getD_in hlt, by rw [decide_eq_true_eq]; exact hw⟩
          rw [z]
      · simp only [x63L0, hlt, push_cast, Nat.reduceAdd, Nat.reduceSub, Nat.reduceLeDiff, Nat.reduceEqDiff, Nat.reduceBEq, Nat.reduceMul, Nat.reduceLT, reduceIte, reduceCtorEq, Int.reduceLE, Int.reduceLT, Int.reduceEq, Int.reduceMul, Int.reduceAdd, Int.reduceSub, Int.reduceNeg, Int.reduceToNat, Int.reduceNe, g94, g91]
        have z : T.all (fun c => decide (atB p_W p_H p_CellsL c.X c.Y = 1)) = true := by
          rw [List.all_eq_true]
          intro c hc
          obtain ⟨j, hj, e⟩ := mem_at hc
          rw [decide_eq_true_eq, ← e]
          exact hz j (by omega)
        rw [z]
    · cases hg_
  · cases hg_
end Go.Proofs.Ytjnelnofbpjdmaa
set_option linter.unusedVariables false
set_option linter.unusedSimpArgs false
set_option maxRecDepth 20000
namespace Go.Proofs.Ytjnelnofbpjdmaa
open Go.Sx Go.Way
def x62L0 : XC := (.seq (.reg false [K2 78 (.bin .lss) 77 (iV 4)]) (.seq (.cond (.t 78) .skip (.exit 2)) (.seq (.block 3 (.seq (.reg false [O2 79 (.ixN 4 2) 76 77, ⟨(some 19), (.alloc 112 [(iV 0), (iV 0)]), [], none⟩, ⟨none, (.store 2), [(.t 19), (.t 79)], none⟩]) (.seq (.reg false [O1 80 .mv 4]) (.cond (.t 80) (.reg false [O1 81 .mv 17, O1 82 .mv 81, G1 83 (.loadN 2) 19 82 true, G1 84 (.loadN 3) 7 82 true, G1 85 .mv 3 82 true, G1 86 (.loadN 4) 16 82 true, ⟨(some 87), (.call 92), [(.t 83), (.t 84), (.t 85), (.t 86)], (some (82, true))⟩, ⟨(some 88), .pick, [(.t 82), (.t 87), (.k (.bool false))], none⟩, O1 17 .mv 88]) (.reg false [O1 89 .mv 17, O1 90 .mv 89, G1 91 (.loadN 2) 19 90 true, G1 92 (.loadN 3) 7 90 true, G1 93 .mv 3 90 true, G1 94 (.loadN 4) 16 90 true, ⟨(some 95), (.call 93), [(.t 91), (.t 92), (.k (iV 0)), (.t 93), (.t 94)], (some (90, true))⟩, ⟨(some 96), .pick, [(.t 90), (.t 95), (.k (.bool false))], none⟩, O1 17 .mv 96]))))) (.reg false [K2 97 (.bin .add) 77 (iV 1), O1 77 .mv 97]))))
def x62L1 : XC := (.seq (.reg false [O2 54 (.bin .lss) 53 52]) (.seq (.cond (.t 54) .skip (.exit 0)) (.seq (.block 1 (.seq (.reg false [O2 55 (.ixS 2) 51 53, O1 56 (.loadN 2) 55, ⟨(some 15), (.alloc 83 [(iV 0), (iV 0)]), [], none⟩, ⟨none, (.store 2), [(.t 15), (.t 56)], none⟩]) (.seq (.seq (.reg false [O1 57 (.loadN 3) 5, O1 58 (.loadN 2) 15, O2 59 (.call 91) 57 58, K2 60 (.bin .neq) 59 (.int .u8 2)]) (.cond (.t 60) (.exit 1) .skip)) (.seq (.reg false [O1 61 (.fld 0) 15, O1 62 .load1 61, K2 63 (.bin .mul) 62 (iV 64), O1 64 (.fld 1) 15, O1 65 .load1 64, K2 66 (.bin .mul) 65 (iV 64), O1 67 (.fld 0) 15, O1 68 .load1 67, K2 69 (.bin .add) 68 (iV 1), K2 70 (.bin .mul) 69 (iV 64), O1 71 (.fld 1) 15, O1 72 .load1 71, K2 73 (.bin .add) 72 (iV 1), K2 74 (.bin .mul) 73 (iV 64), ⟨(some 75), (.build [(iV 0), (iV 0), (iV 0), (iV 0)] [(0, 1), (1, 1), (2, 1), (3, 1)]), [(.t 63), (.t 66), (.t 70), (.t 74)], none⟩, ⟨(some 16), (.alloc 26 [(iV 0), (iV 0), (iV 0), (iV 0)]), [], none⟩, ⟨none, (.store 4), [(.t 16), (.t 75)], none⟩]) (.seq (.reg false [K1 17 .mv (.bool true)]) (.seq (.seq (.reg false [O1 76 (.loadN 8) 11, K1 77 .mv (iV 0)]) (.block 2 (.loop x62L0))) (.seq (.reg false [O1 98 .mv 17]) (.cond (.t 98) (.seq (.reg false [K1 10 .mv (.bool true)]) .ret) .skip)))))))) (.reg false [K2 99 (.bin .add) 53 (iV 1), O1 53 .mv 99]))))
def x62 : XFn := ⟨100, (.seq (.reg false [O1 5 (.box 24) 0, O1 6 (.box 26) 1, O1 7 (.box 75) 2, K1 10 .mv (.bool false)]) (.seq (.seq (.reg false [O1 20 .mv 3, K2 21 (.bin .lss) 20 (iV 0)]) (.cond (.t 21) (.seq (.reg false [K1 10 .mv (.bool false)]) .ret) .skip)) (.seq (.reg false [O1 22 (.fld 0) 6, O1 23 .load1 22, O1 24 (.fld 1) 6, O1 25 .load1 24, ⟨(some 26), (.build [(iV 0), (iV 0)] [(0, 1), (1, 1)]), [(.t 23), (.t 25)], none⟩, O1 27 (.fld 2) 6, O1 28 .load1 27, O1 29 (.fld 1) 6, O1 30 .load1 29, ⟨(some 31), (.build [(iV 0), (iV 0)] [(0, 1), (1, 1)]), [(.t 28), (.t 30)], none⟩, O1 32 (.fld 0) 6, O1 33 .load1 32, O1 34 (.fld 3) 6, O1 35 .load1 34, ⟨(some 36), (.build [(iV 0), (iV 0)] [(0, 1), (1, 1)]), [(.t 33), (.t 35)], none⟩, O1 37 (.fld 2) 6, O1 38 .load1 37, O1 39 (.fld 3) 6, O1 40 .load1 39, ⟨(some 41), (.build [(iV 0), (iV 0)] [(0, 1), (1, 1)]), [(.t 38), (.t 40)], none⟩, ⟨(some 42), (.build [(iV 0), (iV 0), (iV 0), (iV 0), (iV 0), (iV 0), (iV 0), (iV 0)] [(0, 2), (2, 2), (4, 2), (6, 2)]), [(.t 26), (.t 31), (.t 36), (.t 41)], none⟩, ⟨(some 11), (.alloc 134 [(iV 0), (iV 0), (iV 0), (iV 0), (iV 0), (iV 0), (iV 0), (iV 0)]), [], none⟩, ⟨none, (.store 8), [(.t 11), (.t 42)], none⟩]) (.seq (.reg false [K2 44 (.ixA 4 2) 11 (iV 0), O1 45 (.loadN 2) 44, O1 46 (.loadN 3) 7, O1 47 .mv 3, ⟨(some 48), (.call 90), [(.t 45), (.t 46), (.k (iV 0)), (.t 47)], none⟩, O1 43 .mv 48, O1 49 (.ext 0) 43, O1 50 (.ext 1) 43, O1 12 .mv 49, O1 13 .mv 50]) (.seq (.seq (.reg false [O1 51 .mv 12, O1 52 .lenS 51, K1 53 .mv (iV 0)]) (.block 0 (.loop x62L1))) (.seq (.reg false [K1 10 .mv (.bool false)]) .ret)))))), [(.s 10)]⟩
theorem x62_ok : xfn Try.prog Try.f62 = some x62.er := by kernel_rfl
/-- wayfinder/contract.hidden -/
noncomputable def g62 : Con := fun args_ E_ nn_ => match args_ with
  | [.a [.v (.int .i64 p_W), .v (.int .i64 p_H), .n p_Cells], .a [.v (.int .i64 r_X0), .v (.int .i64 r_Y0), .v (.int .i64 r_X1), .v (.int .i64 r_Y1)], .a [.v (.int .i64 v_X), .v (.int .i64 v_Y), .v (.int .i64 v_D)], .c (.v (.int .i64 far)), .c (.v (.bool op))] => (match rowOf E_ p_Cells with
    | some (p_Cells_n, p_Cells_s, p_Cells_f) => some (.q (isRow eU8 p_Cells_n p_Cells_s p_Cells_f ∧ admB r_X0 r_Y0 r_X1 r_Y1 = true ∧ vecB v_X v_Y v_D = true ∧ far ≤ 2048) (.o (.c (.v (.bool (hidB p_W p_H (decL eU8 p_Cells_n p_Cells_f) r_X0 r_Y0 r_X1 r_Y1 v_X v_Y v_D far op))))))
    | none => none)
  | _ => none
set_option maxHeartbeats 2000000 in
theorem c62 : COk Try.prog 62 g62 := by
  refine cok_q Try.func62 x62_ok (by kernel_rfl) (cok_tab (cok_cons c90 (cok_cons c91 (cok_cons c92 (cok_cons c93 cok_nil))))) ?_
  intro args_ E_ nn_ cr_ hg_
  unfold g62 at hg_
  split at hg_
  · rename_i p_W p_H p_Cells r_X0 r_Y0 r_X1 r_Y1 v_X v_Y v_D far op
    split at hg_
    · rename_i p_Cells_n p_Cells_s p_Cells_f h_p_Cells
      cases hg_
      refine ⟨_, _, rfl, 1, [p_Cells], [.a [.v (.int .i64 p_W), .v (.int .i64 p_H), .n 0], .a [.v (.int .i64 r_X0), .v (.int .i64 r_Y0), .v (.int .i64 r_X1), .v (.int .i64 r_Y1)], .a [.v (.int .i64 v_X), .v (.int .i64 v_Y), .v (.int .i64 v_D)], .c (.v (.int .i64 far)), .c (.v (.bool op))], [(0, .ro (decL eU8 p_Cells_n p_Cells_f).length eU8.sz (rowF eU8 (decL eU8 p_Cells_n p_Cells_f)))], .o (.c (.v (.bool (hidB p_W p_H (decL eU8 p_Cells_n p_Cells_f) r_X0 r_Y0 r_X1 r_Y1 v_X v_Y v_D far op)))), rfl, rfl, by simp only [push_cast, Nat.reduceLT, Nat.reduceAdd], by simp only [push_cast, Nat.reduceLT, Nat.reduceAdd], by simp only [push_cast, Nat.reduceLT, Nat.reduceAdd], rfl, ⟨inE0_row h_p_Cells, trivial⟩, rfl, ?_⟩
      intro hpre hlen
      obtain ⟨i_p_Cells, hpre⟩ := hpre
      refine ⟨⟨inE_row h_p_Cells i_p_Cells, trivial⟩, ?_⟩
      have z_p_Cells := lens_row (E := eU8) hlen h_p_Cells
      clear i_p_Cells
      generalize decL eU8 p_Cells_n p_Cells_f = p_CellsL at *
      clear h_p_Cells
      simp (config := {maxSteps := 10000000}) only [x62, push_cast, Nat.reduceAdd, Nat.reduceSub, Nat.reduceLeDiff, Nat.reduceEqDiff, Nat.reduceBEq, Nat.reduceMul, Nat.reduceLT, reduceIte, reduceCtorEq, Int.reduceLE, Int.reduceLT, Int.reduceEq, Int.reduceMul, Int.reduceAdd, Int.reduceSub, Int.reduceNeg, Int.reduceToNat, Int.reduceNe, g90, g91, g92, g93]
      obtain ⟨ha, hv, hf⟩ := hpre
      refine ⟨fun h => ?_, fun h => ?_⟩
      · rw [hid_no (by rintro ⟨h0, _⟩; omega)]
      have hn := hid_none (W := p_W) (H := p_H) (L := p_CellsL) (op := op) ha hv hf
      have hb : ∀ c ∈ trL r_X0 r_Y0 v_X v_Y v_D 0 far, _ := fun c hc => trL_bd (adm_pt ha) hv ⟨by omega, hf⟩ hc
      have hl := trL_len (adm_pt ha) hv (far := far) ⟨by omega, hf⟩
      generalize trL r_X0 r_Y0 v_X v_Y v_D 0 far = T at *
      refine vcLoop_upd (α := {k : Nat // k ≤ T.length ∧ ∀ j, j < k → hidC p_W p_H p_CellsL r_X0 r_Y0 r_X1 r_Y1 v_X v_Y v_D far op (T.getD j eC.dflt) = false}) [3, 4, 5, 7, 11, 51, 52] 0 (fun s => [(53, .o (.c (.v (.int .i64 (s.1 : Nat)))))]) (fun s => []) (fun s => T.length - s.1) ⟨0, by omega, fun j hj => by omega⟩ ?_ ?_
      · simp only [push_cast, Nat.reduceAdd, Nat.reduceSub, Nat.reduceLeDiff, Nat.reduceEqDiff, Nat.reduceBEq, Nat.reduceMul, Nat.reduceLT, reduceIte, reduceCtorEq, Int.reduceLE, Int.reduceLT, Int.reduceEq, Int.reduceMul, Int.reduceAdd, Int.reduceSub, Int.reduceNeg, Int.reduceToNat, Int.reduceNe, g90, g91, g92, g93]
      rintro ⟨k, hk, hz⟩
      by_cases hlt : k < T.length
      · have b := hb _ (getD_in hlt)
        by_cases hw : atB p_W p_H p_CellsL (T.getD k eC.dflt).X (T.getD k eC.dflt).Y = 2
        · simp only [x62L1, hlt, hw, push_cast, Nat.reduceAdd, Nat.reduceSub, Nat.reduceLeDiff, Nat.reduceEqDiff, Nat.reduceBEq, Nat.reduceMul, Nat.reduceLT, reduceIte, reduceCtorEq, Int.reduceLE, Int.reduceLT, Int.reduceEq, Int.reduceMul, Int.reduceAdd, Int.reduceSub, Int.reduceNeg, Int.reduceToNat, Int.reduceNe, g90, g91, g92, g93]
          simp (disch := omega) only [wrapI]
          simp only [show ((T.getD k eC.dflt).X + 1) * 64 = (T.getD k eC.dflt).X * 64 + 64 by omega, show ((T.getD k eC.dflt).Y + 1) * 64 = (T.getD k eC.dflt).Y * 64 + 64 by omega]
          refine vcLoop_upd (α := {i : Nat // i ≤ 4}) [3, 4, 5, 7, 11, 16, 51, 52, 53, 76] 0 (fun s => [(17, .o (.c (.v (.bool (corB op r_X0 r_Y0 r_X1 r_Y1 v_X v_Y v_D far (T.getD k eC.dflt) s.1))))), (77, .o (.c (.v (.int .i64 (s.1 : Nat)))))]) (fun s => []) (fun s => 4 - s.1) ⟨0, by omega⟩ ?_ ?_
          · simp only [push_cast, Nat.reduceAdd, Nat.reduceSub, Nat.reduceLeDiff, Nat.reduceEqDiff, Nat.reduceBEq, Nat.reduceMul, Nat.reduceLT, reduceIte, reduceCtorEq, Int.reduceLE, Int.reduceLT, Int.reduceEq, Int.reduceMul, Int.reduceAdd, Int.reduceSub, Int.reduceNeg, Int.reduceToNat, Int.reduceNe, g90, g91, g92, g93]
            rfl
          · rintro ⟨i, hi⟩
            rcases (by omega : i = 0 ∨ i = 1 ∨ i = 2 ∨ i = 3 ∨ i = 4) with rfl | rfl | rfl | rfl | rfl
            · simp only [x62L0, push_cast, Nat.reduceAdd, Nat.reduceSub, Nat.reduceLeDiff, Nat.reduceEqDiff, Nat.reduceBEq, Nat.reduceMul, Nat.reduceLT, reduceIte, reduceCtorEq, Int.reduceLE, Int.reduceLT, Int.reduceEq, Int.reduceMul, Int.reduceAdd, Int.reduceSub, Int.reduceNeg, Int.reduceToNat, Int.reduceNe, g90, g91, g92, g93]
              exact ⟨fun e => by subst e; exact ⟨⟨1, by omega⟩, ⟨rfl, rfl⟩, by simp only; omega⟩, fun e => by subst e; exact ⟨⟨1, by omega⟩, ⟨rfl, rfl⟩, by simp only; omega⟩⟩
            · simp only [x62L0, push_cast, Nat.reduceAdd, Nat.reduceSub, Nat.reduceLeDiff, Nat.reduceEqDiff, Nat.reduceBEq, Nat.reduceMul, Nat.reduceLT, reduceIte, reduceCtorEq, Int.reduceLE, Int.reduceLT, Int.reduceEq, Int.reduceMul, Int.reduceAdd, Int.reduceSub, Int.reduceNeg, Int.reduceToNat, Int.reduceNe, g90, g91, g92, g93]
              exact ⟨fun e => by subst e; exact ⟨⟨2, by omega⟩, ⟨rfl, rfl⟩, by simp only; omega⟩, fun e => by subst e; exact ⟨⟨2, by omega⟩, ⟨rfl, rfl⟩, by simp only; omega⟩⟩
            · simp only [x62L0, push_cast, Nat.reduceAdd, Nat.reduceSub, Nat.reduceLeDiff, Nat.reduceEqDiff, Nat.reduceBEq, Nat.reduceMul, Nat.reduceLT, reduceIte, reduceCtorEq, Int.reduceLE, Int.reduceLT, Int.reduceEq, Int.reduceMul, Int.reduceAdd, Int.reduceSub, Int.reduceNeg, Int.reduceToNat, Int.reduceNe, g90, g91, g92, g93]
              exact ⟨fun e => by subst e; exact ⟨⟨3, by omega⟩, ⟨rfl, rfl⟩, by simp only; omega⟩, fun e => by subst e; exact ⟨⟨3, by omega⟩, ⟨rfl, rfl⟩, by simp only; omega⟩⟩
            · simp only [x62L0, push_cast, Nat.reduceAdd, Nat.reduceSub, Nat.reduceLeDiff, Nat.reduceEqDiff, Nat.reduceBEq, Nat.reduceMul, Nat.reduceLT, reduceIte, reduceCtorEq, Int.reduceLE, Int.reduceLT, Int.reduceEq, Int.reduceMul, Int.reduceAdd, Int.reduceSub, Int.reduceNeg, Int.reduceToNat, Int.reduceNe, g90, g91, g92, g93]
              exact ⟨fun e => by subst e; exact ⟨⟨4, by omega⟩, ⟨rfl, rfl⟩, by simp only; omega⟩, fun e => by subst e; exact ⟨⟨4, by omega⟩, ⟨rfl, rfl⟩, by simp only; omega⟩⟩
            · simp only [x62L0, push_cast, Nat.reduceAdd, Nat.reduceSub, Nat.reduceLeDiff, Nat.reduceEqDiff, Nat.reduceBEq, Nat.reduceMul, Nat.reduceLT, reduceIte, reduceCtorEq, Int.reduceLE, Int.reduceLT, Int.reduceEq, Int.reduceMul, Int.reduceAdd, Int.reduceSub, Int.reduceNeg, Int.reduceToNat, Int.reduceNe, g90, g91, g92, g93]
              refine ⟨fun e => (hid_yes (by omega) hw e).symm, fun e => ⟨⟨k + 1, by omega, fun j hj => ?_⟩, wrapI (by omega) (by omega), by simp only; omega⟩⟩
              rcases Nat.lt_succ_iff_lt_or_eq.1 hj with q | q
              · exact hz j q
              · subst q; rw [hidC_cor, e, Bool.and_false]
        · simp only [x62L1, hlt, hw, push_cast, Nat.reduceAdd, Nat.reduceSub, Nat.reduceLeDiff, Nat.reduceEqDiff, Nat.reduceBEq, Nat.reduceMul, Nat.reduceLT, reduceIte, reduceCtorEq, Int.reduceLE, Int.reduceLT, Int.reduceEq, Int.reduceMul, Int.reduceAdd, Int.reduceSub, Int.reduceNeg, Int.reduceToNat, Int.reduceNe, g90, g91, g92, g93]
          refine ⟨⟨k + 1, by omega, fun j hj => ?_⟩, wrapI (by omega) (by omega), by simp only; omega⟩
          rcases Nat.lt_succ_iff_lt_or_eq.1 hj with q | q
          · exact hz j q
          · subst q; unfold hidC; rw [decide_eq_false hw]; rfl
      · simp only [x62L1, hlt, push_cast, Nat.reduceAdd, Nat.reduceSub, Nat.reduceLeDiff, Nat.reduceEqDiff, Nat.reduceBEq, Nat.reduceMul, Nat.reduceLT, reduceIte, reduceCtorEq, Int.reduceLE, Int.reduceLT, Int.reduceEq, Int.reduceMul, Int.reduceAdd, Int.reduceSub, Int.reduceNeg, Int.reduceToNat, Int.reduceNe, g90, g91, g92, g93]
        rw [hn (fun j hj => hz j (by omega))]
    · cases hg_
  · cases hg_
end Go.Proofs.Ytjnelnofbpjdmaa
