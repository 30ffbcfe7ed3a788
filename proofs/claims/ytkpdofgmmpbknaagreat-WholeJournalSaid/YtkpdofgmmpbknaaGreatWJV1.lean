/- A part of the proof of a statement about this seat: how a function is stepped through, and plain laws. No conditions. -/
import Derived.Test.YtkpdofgmmpbknaaGreatRows
import Derived.Test.YtkpdofgmmpbknaaGreatWJSz4
import Derived.Test.YtkpdofgmmpbknaaGreatWJU2
import Derived.KernelRfl
set_option linter.unusedVariables false
set_option linter.unusedSimpArgs false
set_option maxRecDepth 20000
namespace Go.Proofs.YtkpdofgmmpbknaaGreat
open Go.Sx Go.Way
def crs (px py qx qy cx cy : Int) : Int := (qx - px) * (cy - py) - (qy - py) * (cx - px)
def sg1 (n : Int) : Int := max (-1) (min n 1)
theorem sg1_le (a : Int) : (sg1 a ≤ 0 ↔ a ≤ 0) ∧ (0 ≤ sg1 a ↔ 0 ≤ a) := by unfold sg1; omega
def meetsR (px py qx qy x0 y0 x1 y1 : Int) : Bool :=
  decide ((x0 ≤ max px qx ∧ min px qx ≤ x1) ∧ y0 ≤ max py qy ∧ min py qy ≤ y1) &&
  decide ((crs px py qx qy x0 y0 ≤ 0 ∨ crs px py qx qy x1 y0 ≤ 0 ∨ crs px py qx qy x0 y1 ≤ 0 ∨ crs px py qx qy x1 y1 ≤ 0) ∧ (0 ≤ crs px py qx qy x0 y0 ∨ 0 ≤ crs px py qx qy x1 y0 ∨ 0 ≤ crs px py qx qy x0 y1 ∨ 0 ≤ crs px py qx qy x1 y1))
theorem mul_sg (a b : Int) : (0 ≤ a → 0 ≤ b → 0 ≤ a * b) ∧ (0 ≤ a → b ≤ 0 → a * b ≤ 0) ∧ (a ≤ 0 → 0 ≤ b → a * b ≤ 0) ∧ (a ≤ 0 → b ≤ 0 → 0 ≤ a * b) :=
  ⟨Int.mul_nonneg, fun h k => Int.mul_nonpos_of_nonneg_of_nonpos h k, fun h k => Int.mul_nonpos_of_nonpos_of_nonneg h k, Int.mul_nonneg_of_nonpos_of_nonpos⟩
def sqD (ax ay bx by_ : Int) : Int := (ax - bx) * (ax - bx) + (ay - by_) * (ay - by_)
def segN (cx cy px py qx qy k : Int) : Bool :=
  if (cx - px) * (qx - px) + (cy - py) * (qy - py) ≤ 0 then decide (sqD cx cy px py ≤ k * k)
  else if sqD qx qy px py ≤ (cx - px) * (qx - px) + (cy - py) * (qy - py) then decide (sqD cx cy qx qy ≤ k * k)
  else decide (crs px py qx qy cx cy * crs px py qx qy cx cy ≤ k * k * sqD qx qy px py)
theorem sq_nn (a : Int) : 0 ≤ a * a := by rcases Int.le_total 0 a with q | q; exact Int.mul_nonneg q q; exact Int.mul_nonneg_of_nonpos_of_nonpos q q
theorem sq_le2 {a c : Int} (hc : 0 ≤ c) (h : a * a ≤ c * c) : -c ≤ a ∧ a ≤ c := by
  have key : ∀ b : Int, b * b ≤ c * c → b ≤ c := fun b hb => by
    rcases Int.le_total b c with h1 | h1
    · exact h1
    · rcases Int.le_total b c with h2 | h2
      · exact h2
      · by_cases h3 : b = c
        · omega
        · have := Int.mul_le_mul (show c + 1 ≤ b by omega) (show c + 1 ≤ b by omega) (by omega) (by omega)
          have e : (c + 1) * (c + 1) = c * c + 2 * c + 1 := by grind
          omega
  have := key (-a) (by rw [Int.neg_mul_neg]; exact h)
  exact ⟨by omega, key a h⟩
theorem far_no {n v k l : Int} (hk : 0 ≤ k) (hl : 0 < l) (h1 : n * n ≤ k * k * l) (h2 : v * v ≤ l) (h : (k + 1) * l ≤ n * v ∨ (k + 1) * l ≤ -(n * v)) : False := by
  have e : (n * v) * (n * v) = n * n * (v * v) := by grind
  have b1 : n * n * (v * v) ≤ k * k * l * l := by
    have := Int.mul_le_mul_of_nonneg_right h1 (sq_nn v)
    have := Int.mul_le_mul_of_nonneg_left h2 (show 0 ≤ k * k * l from Int.mul_nonneg (sq_nn k) (by omega))
    omega
  have r : k * k * l * l = (k * l) * (k * l) := by grind
  rw [r, ← e] at b1
  have := sq_le2 (Int.mul_nonneg hk (by omega)) b1
  have e2 : (k + 1) * l = k * l + l := by grind
  omega
theorem foot_bd {ux wx d n uy k l : Int} (hk : 0 ≤ k) (hl : 0 < l) (hd : 0 < d ∧ d < l) (h1 : n * n ≤ k * k * l) (h2 : uy * uy ≤ l) (e : wx * l = d * ux - n * uy) : min 0 ux - k ≤ wx ∧ wx ≤ max 0 ux + k := by
  have m1 := mul_sg d ux
  have m2 := mul_sg (l - d) ux
  have r2 : (l - d) * ux = l * ux - d * ux := by grind
  constructor
  · rcases Int.le_total (min 0 ux - k) wx with h | h
    · exact h
    · by_cases h3 : wx = min 0 ux - k
      · omega
      · exfalso
        have b := Int.mul_le_mul_of_nonneg_right (show wx ≤ min 0 ux - (k + 1) by omega) (show 0 ≤ l by omega)
        have r : (min 0 ux - (k + 1)) * l = min 0 ux * l - (k + 1) * l := by grind
        refine far_no hk hl h1 h2 (.inl ?_)
        rcases Int.le_total 0 ux with q | q
        · rw [Int.min_eq_left q] at b r; have := m1.1 (by omega) q; have : (0 : Int) * l = 0 := by omega
          omega
        · rw [Int.min_eq_right q] at b r; have := m2.2.1 (by omega) q; have : ux * l = l * ux := Int.mul_comm _ _
          omega
  · rcases Int.le_total wx (max 0 ux + k) with h | h
    · exact h
    · by_cases h3 : wx = max 0 ux + k
      · omega
      · exfalso
        have b := Int.mul_le_mul_of_nonneg_right (show max 0 ux + (k + 1) ≤ wx by omega) (show 0 ≤ l by omega)
        have r : (max 0 ux + (k + 1)) * l = max 0 ux * l + (k + 1) * l := by grind
        refine far_no hk hl h1 h2 (.inr ?_)
        rcases Int.le_total 0 ux with q | q
        · rw [Int.max_eq_right q] at b r; have := m2.1 (by omega) q; have : ux * l = l * ux := Int.mul_comm _ _
          omega
        · rw [Int.max_eq_left q] at b r; have := m1.2.1 (by omega) q; have : (0 : Int) * l = 0 := by omega
          omega
theorem segN_bd {cx cy px py qx qy k : Int} (hk : 0 ≤ k) (h : segN cx cy px py qx qy k = true) : (min px qx - k ≤ cx ∧ cx ≤ max px qx + k) ∧ min py qy - k ≤ cy ∧ cy ≤ max py qy + k := by
  unfold segN at h
  split at h
  · rw [decide_eq_true_eq] at h
    unfold sqD at h
    have n1 := sq_nn (cx - px)
    have n2 := sq_nn (cy - py)
    have a := sq_le2 (a := cx - px) hk (by omega)
    have b := sq_le2 (a := cy - py) hk (by omega)
    omega
  · split at h
    · rw [decide_eq_true_eq] at h
      unfold sqD at h
      have n1 := sq_nn (cx - qx)
      have n2 := sq_nn (cy - qy)
      have a := sq_le2 (a := cx - qx) hk (by omega)
      have b := sq_le2 (a := cy - qy) hk (by omega)
      omega
    · rename_i h1 h2
      rw [decide_eq_true_eq] at h
      unfold sqD crs at *
      have e1 : (cx - px) * ((qx - px) * (qx - px) + (qy - py) * (qy - py)) = ((cx - px) * (qx - px) + (cy - py) * (qy - py)) * (qx - px) - ((qx - px) * (cy - py) - (qy - py) * (cx - px)) * (qy - py) := by grind
      have e2 : (cy - py) * ((qx - px) * (qx - px) + (qy - py) * (qy - py)) = ((cx - px) * (qx - px) + (cy - py) * (qy - py)) * (qy - py) - ((qx - px) * (cy - py) - (qy - py) * (cx - px)) * (-(qx - px)) := by grind
      have n1 := sq_nn (qx - px)
      have n2 := sq_nn (qy - py)
      have a := foot_bd hk (show 0 < (qx - px) * (qx - px) + (qy - py) * (qy - py) by omega) ⟨by omega, by omega⟩ h (by omega) e1
      have b := foot_bd hk (show 0 < (qx - px) * (qx - px) + (qy - py) * (qy - py) by omega) ⟨by omega, by omega⟩ h (by rw [Int.neg_mul_neg]; omega) e2
      omega
def gapO (n lo hi : Int) : Int := max (max (lo - n) 0) (n - hi)
def gapV (px py x0 y0 x1 y1 : Int) : Int := gapO px x0 x1 * gapO px x0 x1 + gapO py y0 y1 * gapO py y0 y1
theorem gap_bd {px py x0 y0 x1 y1 k : Int} (hk : 0 ≤ k) (h : gapV px py x0 y0 x1 y1 ≤ k * k) : (x0 - k ≤ px ∧ px ≤ x1 + k) ∧ y0 - k ≤ py ∧ py ≤ y1 + k := by
  unfold gapV at h
  have n1 := sq_nn (gapO px x0 x1)
  have n2 := sq_nn (gapO py y0 y1)
  have a := sq_le2 hk (show gapO px x0 x1 * gapO px x0 x1 ≤ k * k by omega)
  have b := sq_le2 hk (show gapO py y0 y1 * gapO py y0 y1 ≤ k * k by omega)
  unfold gapO at a b
  omega
theorem gap_in {px py x0 y0 x1 y1 : Int} (h : (x0 ≤ px ∧ px ≤ x1) ∧ y0 ≤ py ∧ py ≤ y1) : gapV px py x0 y0 x1 y1 = 0 := by
  unfold gapV gapO
  rw [show max (max (x0 - px) 0) (px - x1) = 0 by omega, show max (max (y0 - py) 0) (py - y1) = 0 by omega]
  rfl
def comesB (px py qx qy x0 y0 x1 y1 k : Int) : Bool :=
  meetsR px py qx qy x0 y0 x1 y1 || decide (gapV px py x0 y0 x1 y1 ≤ k * k) || decide (gapV qx qy x0 y0 x1 y1 ≤ k * k) || segN x0 y0 px py qx qy k || segN x1 y0 px py qx qy k || segN x0 y1 px py qx qy k || segN x1 y1 px py qx qy k
def touchB (px py qx qy x0 y0 x1 y1 k : Int) : Bool :=
  sPtB px py && sPtB qx qy && sRectB x0 y0 x1 y1 && decide (0 ≤ k ∧ k ≤ 1024) && decide ((-1024 ≤ qx - px ∧ qx - px ≤ 1024) ∧ -1024 ≤ qy - py ∧ qy - py ≤ 1024) && comesB px py qx qy x0 y0 x1 y1 k
theorem comes_bd {px py qx qy x0 y0 x1 y1 k : Int} (hx : x0 ≤ x1) (hy : y0 ≤ y1) (hk : 0 ≤ k) (h : comesB px py qx qy x0 y0 x1 y1 k = true) :
    (x0 - k ≤ max px qx ∧ min px qx ≤ x1 + k) ∧ y0 - k ≤ max py qy ∧ min py qy ≤ y1 + k := by
  unfold comesB at h
  simp only [Bool.or_eq_true, decide_eq_true_eq] at h
  rcases h with (((((h | h) | h) | h) | h) | h) | h
  · unfold meetsR at h
    rw [Bool.and_eq_true, decide_eq_true_eq] at h
    omega
  · have := gap_bd hk h; omega
  · have := gap_bd hk h; omega
  · have := segN_bd hk h; omega
  · have := segN_bd hk h; omega
  · have := segN_bd hk h; omega
  · have := segN_bd hk h; omega
def cX (x0 x1 : Int) : Nat → Int
  | 0 => x0
  | 1 => x1
  | 2 => x0
  | _ => x1
def cY (y0 y1 : Int) : Nat → Int
  | 0 => y0
  | 1 => y0
  | 2 => y1
  | _ => y1
def loS (f : Nat → Int) : Nat → Int
  | 0 => 1
  | n + 1 => min (loS f n) (f n)
def hiS (f : Nat → Int) : Nat → Int
  | 0 => -1
  | n + 1 => max (hiS f n) (f n)
def bP (x : Int) : Prop := -2097152 ≤ x ∧ x ≤ 2097152
theorem crs_bd {px py qx qy cx cy : Int} (h1 : bP px) (h2 : bP py) (h3 : bP qx) (h4 : bP qy) (h5 : bP cx) (h6 : bP cy) :
    (-17592186044416 ≤ (qx - px) * (cy - py) ∧ (qx - px) * (cy - py) ≤ 17592186044416) ∧ -17592186044416 ≤ (qy - py) * (cx - px) ∧ (qy - py) * (cx - px) ≤ 17592186044416 := by
  unfold bP at *
  have m1 := mulB (a := qx - px) (b := cy - py) (A := 4194304) (B := 4194304) (by omega) (by omega) (by omega) (by omega)
  have m2 := mulB (a := qy - py) (b := cx - px) (A := 4194304) (B := 4194304) (by omega) (by omega) (by omega) (by omega)
  omega
theorem sq_bd {a A : Int} (h : -A ≤ a ∧ a ≤ A) : 0 ≤ a * a ∧ a * a ≤ A * A := by
  have m := mulB (a := a) (b := a) (A := A) (B := A) h.1 h.2 h.1 h.2
  exact ⟨sq_nn a, m.2⟩
theorem bP_of {x y : Int} (h : sPtB x y = true) : bP x ∧ bP y := by
  simp only [sPtB, nearB, Bool.and_eq_true, decide_eq_true_eq] at h; exact h
theorem bR_of {x0 y0 x1 y1 : Int} (h : sRectB x0 y0 x1 y1 = true) : bP x0 ∧ bP y0 ∧ bP x1 ∧ bP y1 ∧ x0 ≤ x1 ∧ y0 ≤ y1 := by
  simp only [sRectB, nearB, Bool.and_eq_true, decide_eq_true_eq] at h
  unfold bP; omega
def x94 : XFn := ⟨14, (.seq (.reg false [K1 6 .mv (iV 0)]) (.seq (.reg false [O1 7 .mv 1, O1 8 .mv 0, O2 9 (.bin .sub) 7 8, O1 10 .mv 0, O1 11 .mv 2, O2 12 (.bin .sub) 10 11, ⟨(some 13), .maxI, [(.t 9), (.k (iV 0)), (.t 12)], none⟩, O1 6 .mv 13]) .ret)), [(.s 6)]⟩
theorem x94_ok : xfn Tryz.prog Tryz.f94 = some x94.er := by kernel_rfl
def x73 : XFn := ⟨36, (.seq (.reg false [O1 2 (.box 89) 0, O1 3 (.box 132) 1, K1 4 .mv (iV 0)]) (.seq (.seq (.reg false [O1 7 (.loadN 2) 2, O1 8 (.call 92) 7, O1 9 (.un .not) 8, O1 10 .mv 9, G1 11 (.loadN 4) 3 10 false, G1 12 (.call 93) 11 10 false, G1 13 (.un .not) 12 10 false, ⟨(some 14), .pick, [(.t 10), (.k (.bool true)), (.t 13)], none⟩]) (.cond (.t 14) (.seq (.reg false [K1 4 .mv (iV 0)]) .ret) .skip)) (.seq (.reg true [O1 15 (.fld 0) 2, O1 16 .load1 15, O1 17 (.fld 0) 3, O1 18 .load1 17, O1 19 (.fld 2) 3, O1 20 .load1 19, ⟨(some 21), (.call 94), [(.t 16), (.t 18), (.t 20)], none⟩, O1 22 (.fld 1) 2, O1 23 .load1 22, O1 24 (.fld 1) 3, O1 25 .load1 24, O1 26 (.fld 3) 3, O1 27 .load1 26, ⟨(some 28), (.call 94), [(.t 23), (.t 25), (.t 27)], none⟩, O1 5 .mv 21, O1 6 .mv 28]) (.seq (.reg false [O1 29 .mv 5, O1 30 .mv 5, O2 31 (.bin .mul) 29 30, O1 32 .mv 6, O1 33 .mv 6, O2 34 (.bin .mul) 32 33, O2 35 (.bin .add) 31 34, O1 4 .mv 35]) .ret)))), [(.s 4)]⟩
theorem x73_ok : xfn Tryz.prog Tryz.f73 = some x73.er := by kernel_rfl
def x116 : XFn := ⟨30, (.seq (.reg false [O1 3 (.box 89) 0, O1 4 (.box 89) 1, O1 5 (.box 89) 2, K1 6 .mv (iV 0)]) (.seq (.reg false [O1 7 (.fld 0) 4, O1 8 .load1 7, O1 9 (.fld 0) 3, O1 10 .load1 9, O2 11 (.bin .sub) 8 10, O1 12 (.fld 1) 5, O1 13 .load1 12, O1 14 (.fld 1) 3, O1 15 .load1 14, O2 16 (.bin .sub) 13 15, O2 17 (.bin .mul) 11 16, O1 18 (.fld 1) 4, O1 19 .load1 18, O1 20 (.fld 1) 3, O1 21 .load1 20, O2 22 (.bin .sub) 19 21, O1 23 (.fld 0) 5, O1 24 .load1 23, O1 25 (.fld 0) 3, O1 26 .load1 25, O2 27 (.bin .sub) 24 26, O2 28 (.bin .mul) 22 27, O2 29 (.bin .sub) 17 28, O1 6 .mv 29]) .ret)), [(.s 6)]⟩
theorem x116_ok : xfn Tryz.prog Tryz.f116 = some x116.er := by kernel_rfl
def x115 : XFn := ⟨9, (.seq (.reg false [K1 2 .mv (iV 0)]) (.seq (.block 0 (.seq (.reg false [O1 4 .mv 0, K2 5 (.bin .gtr) 4 (iV 0), O1 3 .mv 5]) (.cond (.t 3) (.seq (.reg false [K1 2 .mv (iV 1)]) .ret) (.seq (.reg false [O1 7 .mv 0, K2 8 (.bin .lss) 7 (iV 0), O1 6 .mv 8]) (.cond (.t 6) (.seq (.reg false [K1 2 .mv (iV (-1))]) .ret) .skip))))) (.seq (.reg false [K1 2 .mv (iV 0)]) .ret))), [(.s 2)]⟩
theorem x115_ok : xfn Tryz.prog Tryz.f115 = some x115.er := by kernel_rfl
def x117 : XFn := ⟨28, (.seq (.reg false [O1 2 (.box 89) 0, O1 3 (.box 89) 1, K1 4 .mv (iV 0)]) (.seq (.reg false [O1 5 (.fld 0) 2, O1 6 .load1 5, O1 7 (.fld 0) 3, O1 8 .load1 7, O2 9 (.bin .sub) 6 8, O1 10 (.fld 0) 2, O1 11 .load1 10, O1 12 (.fld 0) 3, O1 13 .load1 12, O2 14 (.bin .sub) 11 13, O2 15 (.bin .mul) 9 14, O1 16 (.fld 1) 2, O1 17 .load1 16, O1 18 (.fld 1) 3, O1 19 .load1 18, O2 20 (.bin .sub) 17 19, O1 21 (.fld 1) 2, O1 22 .load1 21, O1 23 (.fld 1) 3, O1 24 .load1 23, O2 25 (.bin .sub) 22 24, O2 26 (.bin .mul) 20 25, O2 27 (.bin .add) 15 26, O1 4 .mv 27]) .ret)), [(.s 4)]⟩
theorem x117_ok : xfn Tryz.prog Tryz.f117 = some x117.er := by kernel_rfl
def x105 : XFn := ⟨24, (.seq (.reg false [O1 1 (.box 132) 0, ⟨(some 2), (.alloc 166 [(iV 0), (iV 0), (iV 0), (iV 0), (iV 0), (iV 0), (iV 0), (iV 0)]), [], none⟩]) (.seq (.reg false [O1 3 (.fld 0) 1, O1 4 .load1 3, O1 5 (.fld 1) 1, O1 6 .load1 5, ⟨(some 7), (.build [(iV 0), (iV 0)] [(0, 1), (1, 1)]), [(.t 4), (.t 6)], none⟩, O1 8 (.fld 2) 1, O1 9 .load1 8, O1 10 (.fld 1) 1, O1 11 .load1 10, ⟨(some 12), (.build [(iV 0), (iV 0)] [(0, 1), (1, 1)]), [(.t 9), (.t 11)], none⟩, O1 13 (.fld 0) 1, O1 14 .load1 13, O1 15 (.fld 3) 1, O1 16 .load1 15, ⟨(some 17), (.build [(iV 0), (iV 0)] [(0, 1), (1, 1)]), [(.t 14), (.t 16)], none⟩, O1 18 (.fld 2) 1, O1 19 .load1 18, O1 20 (.fld 3) 1, O1 21 .load1 20, ⟨(some 22), (.build [(iV 0), (iV 0)] [(0, 1), (1, 1)]), [(.t 19), (.t 21)], none⟩, ⟨(some 23), (.build [(iV 0), (iV 0), (iV 0), (iV 0), (iV 0), (iV 0), (iV 0), (iV 0)] [(0, 2), (2, 2), (4, 2), (6, 2)]), [(.t 7), (.t 12), (.t 17), (.t 22)], none⟩, ⟨none, (.store 8), [(.t 2), (.t 23)], none⟩]) .ret)), [(.bn 2 8)]⟩
theorem x105_ok : xfn Tryz.prog Tryz.f105 = some x105.er := by kernel_rfl
def x104L0 : XC := (.seq (.reg false [K2 53 (.bin .lss) 52 (iV 4)]) (.seq (.cond (.t 53) .skip (.exit 0)) (.seq (.block 1 (.seq (.reg false [O2 54 (.ixN 4 2) 51 52, ⟨(some 10), (.alloc 89 [(iV 0), (iV 0)]), [], none⟩, ⟨none, (.store 2), [(.t 10), (.t 54)], none⟩]) (.seq (.reg false [O1 55 (.loadN 2) 3, O1 56 (.loadN 2) 4, O1 57 (.loadN 2) 10, ⟨(some 58), (.call 116), [(.t 55), (.t 56), (.t 57)], none⟩, O1 59 (.call 115) 58, O1 11 .mv 59]) (.reg false [O1 60 .mv 7, O1 61 .mv 11, O2 62 .minI 60 61, O1 63 .mv 8, O1 64 .mv 11, O2 65 .maxI 63 64, O1 7 .mv 62, O1 8 .mv 65])))) (.reg false [K2 66 (.bin .add) 52 (iV 1), O1 52 .mv 66]))))
def x104 : XFn := ⟨73, (.seq (.reg false [O1 3 (.box 89) 0, O1 4 (.box 89) 1, O1 5 (.box 132) 2, K1 6 .mv (.bool false)]) (.seq (.seq (.reg false [O1 12 (.fld 0) 3, O1 13 .load1 12, O1 14 (.fld 0) 4, O1 15 .load1 14, O2 16 .maxI 13 15, O1 17 (.fld 0) 5, O1 18 .load1 17, O2 19 (.bin .lss) 16 18, O1 20 .mv 19, G1 21 (.fld 0) 3 20 false, G1 22 .load1 21 20 false, G1 23 (.fld 0) 4 20 false, G1 24 .load1 23 20 false, G2 25 .minI 22 24 20 false, G1 26 (.fld 2) 5 20 false, G1 27 .load1 26 20 false, G2 28 (.bin .gtr) 25 27 20 false, ⟨(some 29), .pick, [(.t 20), (.k (.bool true)), (.t 28)], none⟩, O1 30 .mv 29, G1 31 (.fld 1) 3 30 false, G1 32 .load1 31 30 false, G1 33 (.fld 1) 4 30 false, G1 34 .load1 33 30 false, G2 35 .maxI 32 34 30 false, G1 36 (.fld 1) 5 30 false, G1 37 .load1 36 30 false, G2 38 (.bin .lss) 35 37 30 false, ⟨(some 39), .pick, [(.t 30), (.k (.bool true)), (.t 38)], none⟩, O1 40 .mv 39, G1 41 (.fld 1) 3 40 false, G1 42 .load1 41 40 false, G1 43 (.fld 1) 4 40 false, G1 44 .load1 43 40 false, G2 45 .minI 42 44 40 false, G1 46 (.fld 3) 5 40 false, G1 47 .load1 46 40 false, G2 48 (.bin .gtr) 45 47 40 false, ⟨(some 49), .pick, [(.t 40), (.k (.bool true)), (.t 48)], none⟩]) (.cond (.t 49) (.seq (.reg false [K1 6 .mv (.bool false)]) .ret) .skip)) (.seq (.reg false [K1 7 .mv (iV 1), K1 8 .mv (iV (-1))]) (.seq (.seq (.reg false [O1 50 (.loadN 4) 5, O1 51 (.call 105) 50, K1 52 .mv (iV 0)]) (.block 0 (.loop x104L0))) (.seq (.reg false [O1 67 .mv 7, K2 68 (.bin .leq) 67 (iV 0), O1 69 .mv 68, G1 70 .mv 8 69 true, GK 71 (.bin .geq) 70 (iV 0) 69 true, ⟨(some 72), .pick, [(.t 69), (.t 71), (.k (.bool false))], none⟩, O1 6 .mv 72]) .ret))))), [(.s 6)]⟩
theorem x104_ok : xfn Tryz.prog Tryz.f104 = some x104.er := by kernel_rfl
def x106 : XFn := ⟨86, (.seq (.reg false [O1 4 (.box 89) 0, O1 5 (.box 89) 1, O1 6 (.box 89) 2, K1 8 .mv (.bool false)]) (.seq (.reg true [O1 14 (.fld 0) 6, O1 15 .load1 14, O1 16 (.fld 0) 5, O1 17 .load1 16, O2 18 (.bin .sub) 15 17, O1 19 (.fld 1) 6, O1 20 .load1 19, O1 21 (.fld 1) 5, O1 22 .load1 21, O2 23 (.bin .sub) 20 22, O1 9 .mv 18, O1 10 .mv 23]) (.seq (.reg false [O1 24 (.fld 0) 4, O1 25 .load1 24, O1 26 (.fld 0) 5, O1 27 .load1 26, O2 28 (.bin .sub) 25 27, O1 29 .mv 9, O2 30 (.bin .mul) 28 29, O1 31 (.fld 1) 4, O1 32 .load1 31, O1 33 (.fld 1) 5, O1 34 .load1 33, O2 35 (.bin .sub) 32 34, O1 36 .mv 10, O2 37 (.bin .mul) 35 36, O2 38 (.bin .add) 30 37, O1 39 .mv 9, O1 40 .mv 9, O2 41 (.bin .mul) 39 40, O1 42 .mv 10, O1 43 .mv 10, O2 44 (.bin .mul) 42 43, O2 45 (.bin .add) 41 44, O1 11 .mv 38, O1 12 .mv 45]) (.seq (.block 0 (.seq (.reg false [O1 47 .mv 11, K2 48 (.bin .leq) 47 (iV 0), O1 46 .mv 48]) (.cond (.t 46) (.seq (.reg false [O1 49 (.loadN 2) 4, O1 50 (.loadN 2) 5, O2 51 (.call 117) 49 50, O1 52 .mv 3, O1 53 .mv 3, O2 54 (.bin .mul) 52 53, O2 55 (.bin .leq) 51 54, O1 8 .mv 55]) .ret) (.seq (.reg false [O1 57 .mv 11, O1 58 .mv 12, O2 59 (.bin .geq) 57 58, O1 56 .mv 59]) (.cond (.t 56) (.seq (.reg false [O1 60 (.loadN 2) 4, O1 61 (.loadN 2) 6, O2 62 (.call 117) 60 61, O1 63 .mv 3, O1 64 .mv 3, O2 65 (.bin .mul) 63 64, O2 66 (.bin .leq) 62 65, O1 8 .mv 66]) .ret) .skip))))) (.seq (.reg false [O1 67 (.loadN 2) 5, O1 68 (.loadN 2) 6, O1 69 (.loadN 2) 4, ⟨(some 70), (.call 116), [(.t 67), (.t 68), (.t 69)], none⟩, O1 13 .mv 70]) (.seq (.seq (.reg false [O1 71 .mv 13, K2 72 (.bin .lss) 71 (iV (-4194304)), O1 73 .mv 72, G1 74 .mv 13 73 false, GK 75 (.bin .gtr) 74 (iV 4194304) 73 false, ⟨(some 76), .pick, [(.t 73), (.k (.bool true)), (.t 75)], none⟩]) (.cond (.t 76) (.seq (.reg false [K1 8 .mv (.bool false)]) .ret) .skip)) (.seq (.reg false [O1 77 .mv 13, O1 78 .mv 13, O2 79 (.bin .mul) 77 78, O1 80 .mv 3, O1 81 .mv 3, O2 82 (.bin .mul) 80 81, O1 83 .mv 12, O2 84 (.bin .mul) 82 83, O2 85 (.bin .leq) 79 84, O1 8 .mv 85]) .ret))))))), [(.s 8)]⟩
theorem x106_ok : xfn Tryz.prog Tryz.f106 = some x106.er := by kernel_rfl
def x96L0 : XC := (.seq (.reg false [K2 79 (.bin .lss) 78 (iV 4)]) (.seq (.cond (.t 79) .skip (.exit 0)) (.seq (.block 1 (.seq (.reg false [O2 80 (.ixN 4 2) 77 78, ⟨(some 10), (.alloc 89 [(iV 0), (iV 0)]), [], none⟩, ⟨none, (.store 2), [(.t 10), (.t 80)], none⟩]) (.seq (.reg false [O1 81 (.loadN 2) 10, O1 82 (.loadN 2) 4, O1 83 (.loadN 2) 5, O1 84 .mv 3, ⟨(some 85), (.call 106), [(.t 81), (.t 82), (.t 83), (.t 84)], none⟩]) (.cond (.t 85) (.seq (.reg false [K1 8 .mv (.bool true)]) .ret) .skip)))) (.reg false [K2 86 (.bin .add) 78 (iV 1), O1 78 .mv 86]))))
def x96 : XFn := ⟨87, (.seq (.reg false [O1 4 (.box 89) 0, O1 5 (.box 89) 1, O1 6 (.box 132) 2, K1 8 .mv (.bool false)]) (.seq (.seq (.reg false [O1 11 (.loadN 2) 4, O1 12 (.call 92) 11, O1 13 (.un .not) 12, O1 14 .mv 13, G1 15 (.loadN 2) 5 14 false, G1 16 (.call 92) 15 14 false, G1 17 (.un .not) 16 14 false, ⟨(some 18), .pick, [(.t 14), (.k (.bool true)), (.t 17)], none⟩, O1 19 .mv 18, G1 20 (.loadN 4) 6 19 false, G1 21 (.call 93) 20 19 false, G1 22 (.un .not) 21 19 false, ⟨(some 23), .pick, [(.t 19), (.k (.bool true)), (.t 22)], none⟩, O1 24 .mv 23, G1 25 .mv 3 24 false, GK 26 (.bin .lss) 25 (iV 0) 24 false, ⟨(some 27), .pick, [(.t 24), (.k (.bool true)), (.t 26)], none⟩, O1 28 .mv 27, G1 29 .mv 3 28 false, GK 30 (.bin .gtr) 29 (iV 1024) 28 false, ⟨(some 31), .pick, [(.t 28), (.k (.bool true)), (.t 30)], none⟩]) (.cond (.t 31) (.seq (.reg false [K1 8 .mv (.bool false)]) .ret) .skip)) (.seq (.seq (.reg false [O1 32 (.fld 0) 5, O1 33 .load1 32, O1 34 (.fld 0) 4, O1 35 .load1 34, K2 36 (.bin .sub) 35 (iV 1024), O1 37 (.fld 0) 4, O1 38 .load1 37, K2 39 (.bin .add) 38 (iV 1024), ⟨(some 40), (.call 94), [(.t 33), (.t 36), (.t 39)], none⟩, K2 41 (.bin .gtr) 40 (iV 0), O1 42 .mv 41, G1 43 (.fld 1) 5 42 false, G1 44 .load1 43 42 false, G1 45 (.fld 1) 4 42 false, G1 46 .load1 45 42 false, GK 47 (.bin .sub) 46 (iV 1024) 42 false, G1 48 (.fld 1) 4 42 false, G1 49 .load1 48 42 false, GK 50 (.bin .add) 49 (iV 1024) 42 false, ⟨(some 51), (.call 94), [(.t 44), (.t 47), (.t 50)], (some (42, false))⟩, GK 52 (.bin .gtr) 51 (iV 0) 42 false, ⟨(some 53), .pick, [(.t 42), (.k (.bool true)), (.t 52)], none⟩]) (.cond (.t 53) (.seq (.reg false [K1 8 .mv (.bool false)]) .ret) .skip)) (.seq (.seq (.reg false [O1 54 (.loadN 2) 4, O1 55 (.loadN 2) 5, O1 56 (.loadN 4) 6, ⟨(some 57), (.call 104), [(.t 54), (.t 55), (.t 56)], none⟩, O1 58 .mv 57, G1 59 (.loadN 2) 4 58 false, G1 60 (.loadN 4) 6 58 false, G2 61 (.call 73) 59 60 58 false, G1 62 .mv 3 58 false, G1 63 .mv 3 58 false, G2 64 (.bin .mul) 62 63 58 false, G2 65 (.bin .leq) 61 64 58 false, ⟨(some 66), .pick, [(.t 58), (.k (.bool true)), (.t 65)], none⟩, O1 67 .mv 66, G1 68 (.loadN 2) 5 67 false, G1 69 (.loadN 4) 6 67 false, G2 70 (.call 73) 68 69 67 false, G1 71 .mv 3 67 false, G1 72 .mv 3 67 false, G2 73 (.bin .mul) 71 72 67 false, G2 74 (.bin .leq) 70 73 67 false, ⟨(some 75), .pick, [(.t 67), (.k (.bool true)), (.t 74)], none⟩]) (.cond (.t 75) (.seq (.reg false [K1 8 .mv (.bool true)]) .ret) .skip)) (.seq (.seq (.reg false [O1 76 (.loadN 4) 6, O1 77 (.call 105) 76, K1 78 .mv (iV 0)]) (.block 0 (.loop x96L0))) (.seq (.reg false [K1 8 .mv (.bool false)]) .ret)))))), [(.s 8)]⟩
theorem x96_ok : xfn Tryz.prog Tryz.f96 = some x96.er := by kernel_rfl
def g94 : Con := fun args_ E_ nn_ => match args_ with
  | [.c (.v (.int .i64 n)), .c (.v (.int .i64 lo)), .c (.v (.int .i64 hi))] => some (.q ((-8388608 ≤ n ∧ n ≤ 8388608) ∧ (-8388608 ≤ lo ∧ lo ≤ 8388608) ∧ -8388608 ≤ hi ∧ hi ≤ 8388608) (.o (.c (.v (.int .i64 (gapO n lo hi))))))
  | _ => none
theorem c94 : COk Tryz.prog 94 g94 := by
  refine cok_q Tryz.func94 x94_ok (by kernel_rfl) (cok_tab cok_nil) ?_
  intro args_ E_ nn_ cr_ hg_
  unfold g94 at hg_
  split at hg_
  · rename_i n lo hi
    cases hg_
    refine ⟨_, _, rfl, 0, [], [.c (.v (.int .i64 n)), .c (.v (.int .i64 lo)), .c (.v (.int .i64 hi))], [], .o (.c (.v (.int .i64 (gapO n lo hi)))), rfl, rfl, and3 (by simp only [push_cast, Nat.reduceLT, Nat.reduceAdd]) ⟨rfl, trivial, rfl, ?_⟩⟩
    intro hpre hlen
    refine ⟨trivial, ?_⟩
    simp (maxSteps := 9999999) only [x94, push_cast, simprocAttr]
    rw [wrapI (by omega) (by omega), wrapI (by omega) (by omega)]
    unfold gapO
    omega
  · cases hg_
def g116 : Con := fun args_ E_ nn_ => match args_ with
  | [.a [.v (.int .i64 p_X), .v (.int .i64 p_Y)], .a [.v (.int .i64 q_X), .v (.int .i64 q_Y)], .a [.v (.int .i64 r_X), .v (.int .i64 r_Y)]] => some (.q (bP p_X ∧ bP p_Y ∧ bP q_X ∧ bP q_Y ∧ bP r_X ∧ bP r_Y) (.o (.c (.v (.int .i64 (crs p_X p_Y q_X q_Y r_X r_Y))))))
  | _ => none
theorem c116 : COk Tryz.prog 116 g116 := by
  refine cok_q Tryz.func116 x116_ok (by kernel_rfl) (cok_tab cok_nil) ?_
  intro args_ E_ nn_ cr_ hg_
  unfold g116 at hg_
  split at hg_
  · rename_i p_X p_Y q_X q_Y r_X r_Y
    cases hg_
    refine ⟨_, _, rfl, 0, [], [.a [.v (.int .i64 p_X), .v (.int .i64 p_Y)], .a [.v (.int .i64 q_X), .v (.int .i64 q_Y)], .a [.v (.int .i64 r_X), .v (.int .i64 r_Y)]], [], .o (.c (.v (.int .i64 (crs p_X p_Y q_X q_Y r_X r_Y)))), rfl, rfl, and3 (by simp only [push_cast, Nat.reduceLT, Nat.reduceAdd]) ⟨rfl, trivial, rfl, ?_⟩⟩
    intro hpre hlen
    refine ⟨trivial, ?_⟩
    simp (maxSteps := 9999999) only [x116, push_cast, simprocAttr]
    obtain ⟨h1, h2, h3, h4, h5, h6⟩ := hpre
    have b := crs_bd h1 h2 h3 h4 h5 h6
    unfold bP at *
    rw [wrapI (n := q_X - p_X) (by omega) (by omega), wrapI (n := r_Y - p_Y) (by omega) (by omega), wrapI (n := q_Y - p_Y) (by omega) (by omega), wrapI (n := r_X - p_X) (by omega) (by omega), wrapI (n := (q_X - p_X) * (r_Y - p_Y)) (by omega) (by omega), wrapI (n := (q_Y - p_Y) * (r_X - p_X)) (by omega) (by omega), wrapI (by omega) (by omega)]
    rfl
  · cases hg_
def g115 : Con := fun args_ E_ nn_ => match args_ with
  | [.c (.v (.int .i64 n))] => some (.q (True) (.o (.c (.v (.int .i64 (sg1 n))))))
  | _ => none
theorem c115 : COk Tryz.prog 115 g115 := by
  refine cok_q Tryz.func115 x115_ok (by kernel_rfl) (cok_tab cok_nil) ?_
  intro args_ E_ nn_ cr_ hg_
  unfold g115 at hg_
  split at hg_
  · rename_i n
    cases hg_
    refine ⟨_, _, rfl, 0, [], [.c (.v (.int .i64 n))], [], .o (.c (.v (.int .i64 (sg1 n)))), rfl, rfl, and3 (by simp only [push_cast, Nat.reduceLT, Nat.reduceAdd]) ⟨rfl, trivial, rfl, ?_⟩⟩
    intro hpre hlen
    refine ⟨trivial, ?_⟩
    simp (maxSteps := 9999999) only [x115, push_cast, simprocAttr]
    unfold sg1
    omega
  · cases hg_
def g117 : Con := fun args_ E_ nn_ => match args_ with
  | [.a [.v (.int .i64 a_X), .v (.int .i64 a_Y)], .a [.v (.int .i64 b_X), .v (.int .i64 b_Y)]] => some (.q (bP a_X ∧ bP a_Y ∧ bP b_X ∧ bP b_Y) (.o (.c (.v (.int .i64 (sqD a_X a_Y b_X b_Y))))))
  | _ => none
theorem c117 : COk Tryz.prog 117 g117 := by
  refine cok_q Tryz.func117 x117_ok (by kernel_rfl) (cok_tab cok_nil) ?_
  intro args_ E_ nn_ cr_ hg_
  unfold g117 at hg_
  split at hg_
  · rename_i a_X a_Y b_X b_Y
    cases hg_
    refine ⟨_, _, rfl, 0, [], [.a [.v (.int .i64 a_X), .v (.int .i64 a_Y)], .a [.v (.int .i64 b_X), .v (.int .i64 b_Y)]], [], .o (.c (.v (.int .i64 (sqD a_X a_Y b_X b_Y)))), rfl, rfl, and3 (by simp only [push_cast, Nat.reduceLT, Nat.reduceAdd]) ⟨rfl, trivial, rfl, ?_⟩⟩
    intro hpre hlen
    refine ⟨trivial, ?_⟩
    simp (maxSteps := 9999999) only [x117, push_cast, simprocAttr]
    obtain ⟨h1, h2, h3, h4⟩ := hpre
    unfold bP at *
    have m1 := sq_bd (a := a_X - b_X) (A := 4194304) (by omega)
    have m2 := sq_bd (a := a_Y - b_Y) (A := 4194304) (by omega)
    rw [wrapI (n := a_X - b_X) (by omega) (by omega), wrapI (n := a_Y - b_Y) (by omega) (by omega), wrapI (n := (a_X - b_X) * (a_X - b_X)) (by omega) (by omega), wrapI (n := (a_Y - b_Y) * (a_Y - b_Y)) (by omega) (by omega), wrapI (by omega) (by omega)]
    rfl
  · cases hg_
def g105 : Con := fun args_ E_ nn_ => match args_ with
  | [.a [.v (.int .i64 r_X0), .v (.int .i64 r_Y0), .v (.int .i64 r_X1), .v (.int .i64 r_Y1)]] => some (.q (True) (.o (.a [.v (.int .i64 (r_X0)), .v (.int .i64 (r_Y0)), .v (.int .i64 (r_X1)), .v (.int .i64 (r_Y0)), .v (.int .i64 (r_X0)), .v (.int .i64 (r_Y1)), .v (.int .i64 (r_X1)), .v (.int .i64 (r_Y1))])))
  | _ => none
theorem c105 : COk Tryz.prog 105 g105 := by
  refine cok_q Tryz.func105 x105_ok (by kernel_rfl) (cok_tab cok_nil) ?_
  intro args_ E_ nn_ cr_ hg_
  unfold g105 at hg_
  split at hg_
  · rename_i r_X0 r_Y0 r_X1 r_Y1
    cases hg_
    refine ⟨_, _, rfl, 0, [], [.a [.v (.int .i64 r_X0), .v (.int .i64 r_Y0), .v (.int .i64 r_X1), .v (.int .i64 r_Y1)]], [], .o (.a [.v (.int .i64 (r_X0)), .v (.int .i64 (r_Y0)), .v (.int .i64 (r_X1)), .v (.int .i64 (r_Y0)), .v (.int .i64 (r_X0)), .v (.int .i64 (r_Y1)), .v (.int .i64 (r_X1)), .v (.int .i64 (r_Y1))]), rfl, rfl, and3 (by simp only [push_cast, Nat.reduceLT, Nat.reduceAdd]) ⟨rfl, trivial, rfl, ?_⟩⟩
    intro hpre hlen
    refine ⟨trivial, ?_⟩
    simp (maxSteps := 9999999) only [x105, push_cast, simprocAttr]
  · cases hg_
def g73 : Con := fun args_ E_ nn_ => match args_ with
  | [.a [.v (.int .i64 p_X), .v (.int .i64 p_Y)], .a [.v (.int .i64 r_X0), .v (.int .i64 r_Y0), .v (.int .i64 r_X1), .v (.int .i64 r_Y1)]] => some (.q (sPtB p_X p_Y = true ∧ sRectB r_X0 r_Y0 r_X1 r_Y1 = true) (.o (.c (.v (.int .i64 (gapV p_X p_Y r_X0 r_Y0 r_X1 r_Y1))))))
  | _ => none
theorem c73 : COk Tryz.prog 73 g73 := by
  refine cok_q Tryz.func73 x73_ok (by kernel_rfl) (cok_tab (cok_cons c92 (cok_cons c93 (cok_cons c94 cok_nil)))) ?_
  intro args_ E_ nn_ cr_ hg_
  unfold g73 at hg_
  split at hg_
  · rename_i p_X p_Y r_X0 r_Y0 r_X1 r_Y1
    cases hg_
    refine ⟨_, _, rfl, 0, [], [.a [.v (.int .i64 p_X), .v (.int .i64 p_Y)], .a [.v (.int .i64 r_X0), .v (.int .i64 r_Y0), .v (.int .i64 r_X1), .v (.int .i64 r_Y1)]], [], .o (.c (.v (.int .i64 (gapV p_X p_Y r_X0 r_Y0 r_X1 r_Y1)))), rfl, rfl, and3 (by simp only [push_cast, Nat.reduceLT, Nat.reduceAdd]) ⟨rfl, trivial, rfl, ?_⟩⟩
    intro hpre hlen
    refine ⟨trivial, ?_⟩
    simp (maxSteps := 9999999) only [x73, push_cast, simprocAttr, g92, g93, g94]
    refine ⟨fun h => ?_, fun h1 h2 => ?_⟩
    · rw [hpre.1, hpre.2] at h; simp at h
    have a := bP_of h1
    have b := bR_of h2
    unfold bP at a b
    have m1 := sq_bd (a := gapO p_X r_X0 r_X1) (A := 4194304) (by unfold gapO; omega)
    have m2 := sq_bd (a := gapO p_Y r_Y0 r_Y1) (A := 4194304) (by unfold gapO; omega)
    refine ⟨by omega, by omega, ?_⟩
    rw [wrapI (n := gapO p_X r_X0 r_X1 * gapO p_X r_X0 r_X1) (by omega) (by omega), wrapI (n := gapO p_Y r_Y0 r_Y1 * gapO p_Y r_Y0 r_Y1) (by omega) (by omega), wrapI (by omega) (by omega)]
    rfl
  · cases hg_
def g104 : Con := fun args_ E_ nn_ => match args_ with
  | [.a [.v (.int .i64 p_X), .v (.int .i64 p_Y)], .a [.v (.int .i64 q_X), .v (.int .i64 q_Y)], .a [.v (.int .i64 r_X0), .v (.int .i64 r_Y0), .v (.int .i64 r_X1), .v (.int .i64 r_Y1)]] => some (.q (sPtB p_X p_Y = true ∧ sPtB q_X q_Y = true ∧ sRectB r_X0 r_Y0 r_X1 r_Y1 = true) (.o (.c (.v (.bool (meetsR p_X p_Y q_X q_Y r_X0 r_Y0 r_X1 r_Y1))))))
  | _ => none
theorem c104 : COk Tryz.prog 104 g104 := by
  refine cok_q Tryz.func104 x104_ok (by kernel_rfl) (cok_tab (cok_cons c105 (cok_cons c116 (cok_cons c115 cok_nil)))) ?_
  intro args_ E_ nn_ cr_ hg_
  unfold g104 at hg_
  split at hg_
  · rename_i p_X p_Y q_X q_Y r_X0 r_Y0 r_X1 r_Y1
    cases hg_
    refine ⟨_, _, rfl, 0, [], [.a [.v (.int .i64 p_X), .v (.int .i64 p_Y)], .a [.v (.int .i64 q_X), .v (.int .i64 q_Y)], .a [.v (.int .i64 r_X0), .v (.int .i64 r_Y0), .v (.int .i64 r_X1), .v (.int .i64 r_Y1)]], [], .o (.c (.v (.bool (meetsR p_X p_Y q_X q_Y r_X0 r_Y0 r_X1 r_Y1)))), rfl, rfl, and3 (by simp only [push_cast, Nat.reduceLT, Nat.reduceAdd]) ⟨rfl, trivial, rfl, ?_⟩⟩
    intro hpre hlen
    refine ⟨trivial, ?_⟩
    simp (maxSteps := 9999999) only [x104, push_cast, simprocAttr, g105, g116, g115]
    refine ⟨fun h => ?_, fun h1 h2 h3 h4 => ?_⟩
    · unfold meetsR; rw [decide_eq_false (by omega)]; rfl
    obtain ⟨q1, q2, q3⟩ := hpre
    have b1 := bP_of q1
    have b2 := bP_of q2
    have b3 := bR_of q3
    refine vcLoop_upd (α := {i : Nat // i ≤ 4}) [3, 4, 51] 0 (fun s => [(7, .o (.c (.v (.int .i64 (loS (fun j => sg1 (crs p_X p_Y q_X q_Y (cX r_X0 r_X1 j) (cY r_Y0 r_Y1 j))) s.1))))), (8, .o (.c (.v (.int .i64 (hiS (fun j => sg1 (crs p_X p_Y q_X q_Y (cX r_X0 r_X1 j) (cY r_Y0 r_Y1 j))) s.1))))), (52, .o (.c (.v (.int .i64 (s.1 : Nat)))))]) (fun s => []) (fun s => 4 - s.1) ⟨0, by omega⟩ ?_ ?_
    · simp only [push_cast, simprocAttr, g105, g116, g115]
      exact ⟨rfl, rfl⟩
    rintro ⟨i, hi⟩
    rcases (by omega : i = 0 ∨ i = 1 ∨ i = 2 ∨ i = 3 ∨ i = 4) with rfl | rfl | rfl | rfl | rfl
    · simp only [x104L0, push_cast, simprocAttr, g105, g116, g115]
      exact ⟨⟨b1.1, b1.2, b2.1, b2.2, b3.1, b3.2.1⟩, ⟨1, by omega⟩, ⟨rfl, rfl, rfl⟩, by simp only; omega⟩
    · simp only [x104L0, push_cast, simprocAttr, g105, g116, g115]
      exact ⟨⟨b1.1, b1.2, b2.1, b2.2, b3.2.2.1, b3.2.1⟩, ⟨2, by omega⟩, ⟨rfl, rfl, rfl⟩, by simp only; omega⟩
    · simp only [x104L0, push_cast, simprocAttr, g105, g116, g115]
      exact ⟨⟨b1.1, b1.2, b2.1, b2.2, b3.1, b3.2.2.2.1⟩, ⟨3, by omega⟩, ⟨rfl, rfl, rfl⟩, by simp only; omega⟩
    · simp only [x104L0, push_cast, simprocAttr, g105, g116, g115]
      exact ⟨⟨b1.1, b1.2, b2.1, b2.2, b3.2.2.1, b3.2.2.2.1⟩, ⟨4, by omega⟩, ⟨rfl, rfl, rfl⟩, by simp only; omega⟩
    · simp only [x104L0, push_cast, simprocAttr, g105, g116, g115]
      unfold meetsR
      rw [decide_eq_true (p := (r_X0 ≤ max p_X q_X ∧ min p_X q_X ≤ r_X1) ∧ r_Y0 ≤ max p_Y q_Y ∧ min p_Y q_Y ≤ r_Y1) (by omega), Bool.true_and, Bool.eq_iff_iff]
      simp only [Bool.and_eq_true, decide_eq_true_eq, loS, hiS, cX, cY]
      rw [← (sg1_le (crs p_X p_Y q_X q_Y r_X0 r_Y0)).1, ← (sg1_le (crs p_X p_Y q_X q_Y r_X0 r_Y0)).2, ← (sg1_le (crs p_X p_Y q_X q_Y r_X1 r_Y0)).1, ← (sg1_le (crs p_X p_Y q_X q_Y r_X1 r_Y0)).2, ← (sg1_le (crs p_X p_Y q_X q_Y r_X0 r_Y1)).1, ← (sg1_le (crs p_X p_Y q_X q_Y r_X0 r_Y1)).2, ← (sg1_le (crs p_X p_Y q_X q_Y r_X1 r_Y1)).1, ← (sg1_le (crs p_X p_Y q_X q_Y r_X1 r_Y1)).2]
      generalize sg1 (crs p_X p_Y q_X q_Y r_X0 r_Y0) = u1
      generalize sg1 (crs p_X p_Y q_X q_Y r_X1 r_Y0) = u2
      generalize sg1 (crs p_X p_Y q_X q_Y r_X0 r_Y1) = u3
      generalize sg1 (crs p_X p_Y q_X q_Y r_X1 r_Y1) = u4
      refine and_congr ?_ ?_ <;> omega
  · cases hg_
def g106 : Con := fun args_ E_ nn_ => match args_ with
  | [.a [.v (.int .i64 c_X), .v (.int .i64 c_Y)], .a [.v (.int .i64 p_X), .v (.int .i64 p_Y)], .a [.v (.int .i64 q_X), .v (.int .i64 q_Y)], .c (.v (.int .i64 k))] => some (.q (bP c_X ∧ bP c_Y ∧ bP p_X ∧ bP p_Y ∧ bP q_X ∧ bP q_Y ∧ (0 ≤ k ∧ k ≤ 1024) ∧ (-1024 ≤ q_X - p_X ∧ q_X - p_X ≤ 1024) ∧ -1024 ≤ q_Y - p_Y ∧ q_Y - p_Y ≤ 1024) (.o (.c (.v (.bool (segN c_X c_Y p_X p_Y q_X q_Y k))))))
  | _ => none
theorem c106 : COk Tryz.prog 106 g106 := by
  refine cok_q Tryz.func106 x106_ok (by kernel_rfl) (cok_tab (cok_cons c117 (cok_cons c116 cok_nil))) ?_
  intro args_ E_ nn_ cr_ hg_
  unfold g106 at hg_
  split at hg_
  · rename_i c_X c_Y p_X p_Y q_X q_Y k
    cases hg_
    refine ⟨_, _, rfl, 0, [], [.a [.v (.int .i64 c_X), .v (.int .i64 c_Y)], .a [.v (.int .i64 p_X), .v (.int .i64 p_Y)], .a [.v (.int .i64 q_X), .v (.int .i64 q_Y)], .c (.v (.int .i64 k))], [], .o (.c (.v (.bool (segN c_X c_Y p_X p_Y q_X q_Y k)))), rfl, rfl, and3 (by simp only [push_cast, Nat.reduceLT, Nat.reduceAdd]) ⟨rfl, trivial, rfl, ?_⟩⟩
    intro hpre hlen
    refine ⟨trivial, ?_⟩
    simp (maxSteps := 9999999) only [x106, push_cast, simprocAttr, g117, g116]
    obtain ⟨c1, c2, c3, c4, c5, c6, hk, hx, hy⟩ := hpre
    have bc := crs_bd c3 c4 c5 c6 c1 c2
    have f1 := c1; have f2 := c2; have f3 := c3; have f4 := c4; have f5 := c5; have f6 := c6
    unfold bP at f1 f2 f3 f4 f5 f6
    have kk := sq_bd (a := k) (A := 1024) (by omega)
    have m1 := mulB (a := c_X - p_X) (b := q_X - p_X) (A := 4194304) (B := 1024) (by omega) (by omega) (by omega) (by omega)
    have m2 := mulB (a := c_Y - p_Y) (b := q_Y - p_Y) (A := 4194304) (B := 1024) (by omega) (by omega) (by omega) (by omega)
    have m3 := sq_bd (a := q_X - p_X) (A := 1024) (by omega)
    have m4 := sq_bd (a := q_Y - p_Y) (A := 1024) (by omega)
    rw [wrapI (n := c_X - p_X) (by omega) (by omega), wrapI (n := c_Y - p_Y) (by omega) (by omega), wrapI (n := q_X - p_X) (by omega) (by omega), wrapI (n := q_Y - p_Y) (by omega) (by omega), wrapI (n := (c_X - p_X) * (q_X - p_X)) (by omega) (by omega), wrapI (n := (c_Y - p_Y) * (q_Y - p_Y)) (by omega) (by omega), wrapI (n := (q_X - p_X) * (q_X - p_X)) (by omega) (by omega), wrapI (n := (q_Y - p_Y) * (q_Y - p_Y)) (by omega) (by omega), wrapI (n := (c_X - p_X) * (q_X - p_X) + (c_Y - p_Y) * (q_Y - p_Y)) (by omega) (by omega), wrapI (n := (q_X - p_X) * (q_X - p_X) + (q_Y - p_Y) * (q_Y - p_Y)) (by omega) (by omega), wrapI (n := k * k) (by omega) (by omega)]
    have eS : sqD q_X q_Y p_X p_Y = (q_X - p_X) * (q_X - p_X) + (q_Y - p_Y) * (q_Y - p_Y) := rfl
    rw [← eS]
    refine ⟨fun h => ⟨⟨c1, c2, c3, c4⟩, by unfold segN; rw [if_pos h]⟩, fun h => ⟨fun h2 => ⟨⟨c1, c2, c5, c6⟩, by unfold segN; rw [if_neg h, if_pos h2]⟩, fun h2 => ⟨⟨c3, c4, c5, c6, c1, c2⟩, fun h3 => ?_, fun h3 h4 => ?_⟩⟩⟩
    · unfold segN
      rw [if_neg h, if_neg h2]
      symm; rw [decide_eq_false_iff_not]; intro h5
      have mm := mulB (a := k * k) (b := sqD q_X q_Y p_X p_Y) (A := 1048576) (B := 2097152) (by omega) (by omega) (by omega) (by omega)
      have := sq_le2 (a := crs p_X p_Y q_X q_Y c_X c_Y) (c := 4194304) (by omega) (by omega)
      omega
    · have mm := mulB (a := k * k) (b := sqD q_X q_Y p_X p_Y) (A := 1048576) (B := 2097152) (by omega) (by omega) (by omega) (by omega)
      have m5 := sq_bd (a := crs p_X p_Y q_X q_Y c_X c_Y) (A := 4194304) (by omega)
      rw [wrapI (n := crs p_X p_Y q_X q_Y c_X c_Y * crs p_X p_Y q_X q_Y c_X c_Y) (by omega) (by omega), wrapI (n := k * k * sqD q_X q_Y p_X p_Y) (by omega) (by omega)]
      unfold segN
      rw [if_neg h, if_neg h2]
  · cases hg_
def g96 : Con := fun args_ E_ nn_ => match args_ with
  | [.a [.v (.int .i64 p_X), .v (.int .i64 p_Y)], .a [.v (.int .i64 q_X), .v (.int .i64 q_Y)], .a [.v (.int .i64 r_X0), .v (.int .i64 r_Y0), .v (.int .i64 r_X1), .v (.int .i64 r_Y1)], .c (.v (.int .i64 radius))] => some (.q (True) (.o (.c (.v (.bool (touchB p_X p_Y q_X q_Y r_X0 r_Y0 r_X1 r_Y1 radius))))))
  | _ => none
theorem c96 : COk Tryz.prog 96 g96 := by
  refine cok_q Tryz.func96 x96_ok (by kernel_rfl) (cok_tab (cok_cons c92 (cok_cons c93 (cok_cons c94 (cok_cons c104 (cok_cons c73 (cok_cons c105 (cok_cons c106 cok_nil)))))))) ?_
  intro args_ E_ nn_ cr_ hg_
  unfold g96 at hg_
  split at hg_
  · rename_i p_X p_Y q_X q_Y r_X0 r_Y0 r_X1 r_Y1 radius
    cases hg_
    refine ⟨_, _, rfl, 0, [], [.a [.v (.int .i64 p_X), .v (.int .i64 p_Y)], .a [.v (.int .i64 q_X), .v (.int .i64 q_Y)], .a [.v (.int .i64 r_X0), .v (.int .i64 r_Y0), .v (.int .i64 r_X1), .v (.int .i64 r_Y1)], .c (.v (.int .i64 radius))], [], .o (.c (.v (.bool (touchB p_X p_Y q_X q_Y r_X0 r_Y0 r_X1 r_Y1 radius)))), rfl, rfl, and3 (by simp only [push_cast, Nat.reduceLT, Nat.reduceAdd]) ⟨rfl, trivial, rfl, ?_⟩⟩
    intro hpre hlen
    refine ⟨trivial, ?_⟩
    simp (maxSteps := 9999999) only [x96, push_cast, simprocAttr, g92, g93, g94, g104, g73, g105, g106]
    refine ⟨fun h => ?_, fun h1 h2 h3 h4 h5 => ?_⟩
    · symm; rw [Bool.eq_false_iff]; intro k
      simp only [touchB, Bool.and_eq_true, decide_eq_true_eq] at k
      rcases h with (((h | h) | h) | h) | h
      · rw [k.1.1.1.1.1] at h; cases h
      · rw [k.1.1.1.1.2] at h; cases h
      · rw [k.1.1.1.2] at h; cases h
      · omega
      · omega
    have b1 := bP_of h1
    have b2 := bP_of h2
    have b3 := bR_of h3
    have f1 := b1; have f2 := b2; have f3 := b3
    unfold bP at f1 f2 f3
    have m := sq_bd (a := radius) (A := 1024) (by omega)
    rw [wrapI (n := p_X - 1024) (by omega) (by omega), wrapI (n := p_X + 1024) (by omega) (by omega), wrapI (n := p_Y - 1024) (by omega) (by omega), wrapI (n := p_Y + 1024) (by omega) (by omega), wrapI (n := radius * radius) (by omega) (by omega)]
    refine ⟨by omega, fun h => ⟨h, by omega⟩, fun h => ?_, fun g1 g2 => ⟨⟨h1, h2, h3⟩, fun k => ⟨k, h1, h3⟩, fun k k2 => ⟨⟨k, k2⟩, h2, h3⟩, fun k => ?_, fun k1 k2 k3 => ?_⟩⟩
    · symm; rw [Bool.eq_false_iff]; intro k
      simp only [touchB, Bool.and_eq_true, decide_eq_true_eq] at k
      have := k.1.2
      unfold gapO at h
      omega
    · have hd : (-1024 ≤ q_X - p_X ∧ q_X - p_X ≤ 1024) ∧ -1024 ≤ q_Y - p_Y ∧ q_Y - p_Y ≤ 1024 := by unfold gapO at g1 g2; omega
      unfold touchB comesB
      rw [h1, h2, h3, decide_eq_true (show 0 ≤ radius ∧ radius ≤ 1024 by omega), decide_eq_true hd]
      rcases k with (k | k) | k
      · rw [k]; rfl
      · rw [decide_eq_true k]; simp
      · rw [decide_eq_true (p := gapV q_X q_Y r_X0 r_Y0 r_X1 r_Y1 ≤ radius * radius) k]; simp
    have hd : (-1024 ≤ q_X - p_X ∧ q_X - p_X ≤ 1024) ∧ -1024 ≤ q_Y - p_Y ∧ q_Y - p_Y ≤ 1024 := by unfold gapO at g1 g2; omega
    have e : touchB p_X p_Y q_X q_Y r_X0 r_Y0 r_X1 r_Y1 radius = (segN r_X0 r_Y0 p_X p_Y q_X q_Y radius || segN r_X1 r_Y0 p_X p_Y q_X q_Y radius || segN r_X0 r_Y1 p_X p_Y q_X q_Y radius || segN r_X1 r_Y1 p_X p_Y q_X q_Y radius) := by
      unfold touchB comesB
      rw [h1, h2, h3, decide_eq_true (show 0 ≤ radius ∧ radius ≤ 1024 by omega), decide_eq_true hd, k1, decide_eq_false k2, decide_eq_false k3]
      rfl
    rw [e]
    refine vcLoop_upd (α := {i : Nat // i ≤ 4 ∧ ∀ j, j < i → (segN (cX r_X0 r_X1 j) (cY r_Y0 r_Y1 j) p_X p_Y q_X q_Y radius) = false}) [3, 4, 5, 77] 0 (fun s => [(78, .o (.c (.v (.int .i64 (s.1 : Nat)))))]) (fun s => []) (fun s => 4 - s.1) ⟨0, by omega, fun j hj => by omega⟩ ?_ ?_
    · simp only [push_cast, simprocAttr, g92, g93, g94, g104, g73, g105, g106]
    rintro ⟨i, hi, z⟩
    rcases (by omega : i = 0 ∨ i = 1 ∨ i = 2 ∨ i = 3 ∨ i = 4) with rfl | rfl | rfl | rfl | rfl
    · simp only [x96L0, push_cast, simprocAttr, g92, g93, g94, g104, g73, g105, g106]
      exact ⟨⟨b3.1, b3.2.1, b1.1, b1.2, b2.1, b2.2, by omega, hd⟩, fun h => by simp [h], fun h => ⟨⟨1, by omega, fun j hj => by rcases Nat.lt_succ_iff_lt_or_eq.1 hj with q | q; exact z j q; subst q; exact h⟩, rfl, by simp only; omega⟩⟩
    · simp only [x96L0, push_cast, simprocAttr, g92, g93, g94, g104, g73, g105, g106]
      exact ⟨⟨b3.2.2.1, b3.2.1, b1.1, b1.2, b2.1, b2.2, by omega, hd⟩, fun h => by simp [h], fun h => ⟨⟨2, by omega, fun j hj => by rcases Nat.lt_succ_iff_lt_or_eq.1 hj with q | q; exact z j q; subst q; exact h⟩, rfl, by simp only; omega⟩⟩
    · simp only [x96L0, push_cast, simprocAttr, g92, g93, g94, g104, g73, g105, g106]
      exact ⟨⟨b3.1, b3.2.2.2.1, b1.1, b1.2, b2.1, b2.2, by omega, hd⟩, fun h => by simp [h], fun h => ⟨⟨3, by omega, fun j hj => by rcases Nat.lt_succ_iff_lt_or_eq.1 hj with q | q; exact z j q; subst q; exact h⟩, rfl, by simp only; omega⟩⟩
    · simp only [x96L0, push_cast, simprocAttr, g92, g93, g94, g104, g73, g105, g106]
      exact ⟨⟨b3.2.2.1, b3.2.2.2.1, b1.1, b1.2, b2.1, b2.2, by omega, hd⟩, fun h => by simp [h], fun h => ⟨⟨4, by omega, fun j hj => by rcases Nat.lt_succ_iff_lt_or_eq.1 hj with q | q; exact z j q; subst q; exact h⟩, rfl, by simp only; omega⟩⟩
    · simp only [x96L0, push_cast, simprocAttr, g92, g93, g94, g104, g73, g105, g106]
      have q0 := z 0 (by omega)
      have q1 := z 1 (by omega)
      have q2 := z 2 (by omega)
      have q3 := z 3 (by omega)
      simp only [cX, cY] at q0 q1 q2 q3
      rw [q0, q1, q2, q3]; rfl
  · cases hg_
end Go.Proofs.YtkpdofgmmpbknaaGreat
namespace Go.Proofs.YtkpdofgmmpbknaaGreat
open Go.Sx Go.Way
end Go.Proofs.YtkpdofgmmpbknaaGreat
namespace Go.Proofs.YtkpdofgmmpbknaaGreat
open Go.Sx Go.Way
def cntV (W H : Int) (L : List Int) (v : Int) : Int := if planB W H L = true then cnt8 L v else 0
def buildB (W H : Int) (L : List Int) : Bool := planB W H L && L.all fun x => x != 0
theorem cnt8_pos {L : List Int} (hu : u8s L) : 0 < cnt8 L 0 ↔ (0 : Int) ∈ L := by
  have e : cnt8 L 0 = ((L.map fun x => UInt8.ofNat x.toNat).count 0 : Nat) := rfl
  rw [e]
  constructor
  · intro h
    have h2 : (0 : UInt8) ∈ L.map fun x => UInt8.ofNat x.toNat := List.count_pos_iff.1 (by omega)
    rw [List.mem_map] at h2
    obtain ⟨x, hx, hz⟩ := h2
    have b := hu x hx
    have : x.toNat % 256 = 0 := by
      have := congrArg UInt8.toNat hz
      simpa using this
    have hx0 : x = 0 := by omega
    rw [← hx0]; exact hx
  · intro h
    have h2 : (0 : UInt8) ∈ L.map fun x => UInt8.ofNat x.toNat := List.mem_map.2 ⟨0, h, rfl⟩
    have := List.count_pos_iff.2 h2
    omega
theorem build_iff {W H : Int} {L : List Int} (hu : u8s L) : buildB W H L = true ↔ planB W H L = true ∧ ¬ 0 < cntV W H L 0 := by
  unfold buildB cntV
  rw [Bool.and_eq_true, List.all_eq_true]
  constructor
  · rintro ⟨h1, h2⟩
    refine ⟨h1, ?_⟩
    rw [if_pos h1, cnt8_pos hu]
    intro h
    have := h2 0 h
    simp at this
  · rintro ⟨h1, h2⟩
    rw [if_pos h1, cnt8_pos hu] at h2
    refine ⟨h1, fun x hx => ?_⟩
    rw [bne_iff_ne]
    intro e
    subst e
    exact h2 hx
def wayB (fx fy tx ty : Int) : Bool := decide (((-1048576 ≤ fx ∧ fx ≤ 1048576) ∧ -1048576 ≤ fy ∧ fy ≤ 1048576) ∧ ((-1048576 ≤ tx ∧ tx ≤ 1048576) ∧ -1048576 ≤ ty ∧ ty ≤ 1048576) ∧ (-1024 ≤ tx - fx ∧ tx - fx ≤ 1024) ∧ -1024 ≤ ty - fy ∧ ty - fy ≤ 1024)
def hitW (W H : Int) (L : List Int) (fx fy tx ty x y : Int) : Bool := decide (atB W H L x y = 2) && touchB fx fy tx ty (x * 64) (y * 64) (x * 64 + 64) (y * 64 + 64) 20
noncomputable def blkB (W H : Int) (L : List Int) (fx fy tx ty : Int) : Bool := @decide (buildB W H L = false ∨ wayB fx fy tx ty = false ∨ ∃ x y, hitW W H L fx fy tx ty x y = true) (Classical.propDecidable _)
theorem blk_iff {W H : Int} {L : List Int} {fx fy tx ty : Int} : blkB W H L fx fy tx ty = true ↔ (buildB W H L = false ∨ wayB fx fy tx ty = false ∨ ∃ x y, hitW W H L fx fy tx ty x y = true) := by
  unfold blkB
  exact ⟨fun h => @of_decide_eq_true _ (Classical.propDecidable _) h, fun h => @decide_eq_true _ (Classical.propDecidable _) h⟩
theorem blk_no {W H : Int} {L : List Int} {fx fy tx ty : Int} (h1 : buildB W H L = true) (h2 : wayB fx fy tx ty = true) (h3 : ∀ x y, hitW W H L fx fy tx ty x y = false) : blkB W H L fx fy tx ty = false := by
  rw [Bool.eq_false_iff]
  intro h
  rcases blk_iff.1 h with h | h | ⟨x, y, h⟩
  · rw [h1] at h; cases h
  · rw [h2] at h; cases h
  · rw [h3] at h; cases h
theorem touch_rng {fx fy tx ty x y : Int} (h : touchB fx fy tx ty (x * 64) (y * 64) (x * 64 + 64) (y * 64 + 64) 20 = true) :
    (x * 64 - 20 ≤ max fx tx ∧ min fx tx ≤ x * 64 + 84) ∧ y * 64 - 20 ≤ max fy ty ∧ min fy ty ≤ y * 64 + 84 := by
  unfold touchB at h
  rw [Bool.and_eq_true] at h
  have := comes_bd (by omega) (by omega) (by omega) h.2
  omega
theorem hit_rng {W H : Int} {L : List Int} {fx fy tx ty x y : Int} (h : hitW W H L fx fy tx ty x y = true) :
    ((min fx tx - 20) / 64 - 1 ≤ x ∧ x ≤ (max fx tx + 20) / 64) ∧ ((min fy ty - 20) / 64 - 1 ≤ y ∧ y ≤ (max fy ty + 20) / 64) ∧ (min fx tx / 64 - 1 ≤ x ∧ x ≤ max fx tx / 64 + 1) ∧ min fy ty / 64 - 1 ≤ y ∧ y ≤ max fy ty / 64 + 1 := by
  unfold hitW at h
  rw [Bool.and_eq_true] at h
  have := touch_rng h.2
  omega
def g102 : Con := cntCon
theorem c102 : COk Tryz.prog 102 g102 := cok_count fun args w => run_callFunc_extern Tryz.func102 (by kernel_rfl) (by kernel_rfl) (by kernel_rfl) (e := Extern.BytealgCount.count) (by kernel_rfl) args w
def x95L0 : XC := (.block 1 (.seq (.reg false [O1 21 .mv 0, O1 22 .mv 1, O2 23 (.call 103) 21 22, O1 6 .mv 23]) (.seq (.seq (.reg false [O1 24 .mv 6, K2 25 (.bin .eql) 24 (iV (-1))]) (.cond (.t 25) (.seq (.reg false [O1 26 .mv 5, O1 4 .mv 26]) .ret) .skip)) (.seq (.reg false [O1 27 .mv 5, K2 28 (.bin .add) 27 (iV 1), O1 5 .mv 28]) (.reg false [O1 29 .mv 0, O1 30 .mv 6, O1 31 .mv 1, O1 32 .lenS 31, O2 33 (.bin .add) 30 32, O2 34 (.slc 1 true false false) 29 33, O1 0 .mv 34])))))
def x95 : XFn := ⟨35, (.seq (.reg false [K1 4 .mv (iV 0)]) (.seq (.seq (.reg false [O1 7 .mv 1, O1 8 .lenS 7, K2 9 (.bin .eql) 8 (iV 0)]) (.cond (.t 9) (.seq (.reg false [O1 10 .mv 0, O1 11 (.call 101) 10, K2 12 (.bin .add) 11 (iV 1), O1 4 .mv 12]) .ret) .skip)) (.seq (.seq (.reg false [O1 13 .mv 1, O1 14 .lenS 13, K2 15 (.bin .eql) 14 (iV 1)]) (.cond (.t 15) (.seq (.reg false [O1 16 .mv 0, O1 17 .mv 1, K2 18 (.ixS 1) 17 (iV 0), O1 19 .load1 18, O2 20 (.call 102) 16 19, O1 4 .mv 20]) .ret) .skip)) (.seq (.reg false [K1 5 .mv (iV 0)]) (.block 0 (.loop x95L0)))))), [(.s 4)]⟩
theorem x95_ok : xfn Tryz.prog Tryz.f95 = some x95.er := by kernel_rfl
def x77 : XFn := ⟨13, (.seq (.reg false [O1 2 (.box 24) 0, K1 4 .mv (iV 0)]) (.seq (.seq (.reg false [O1 5 (.loadN 3) 2, O1 6 (.call 67) 5, O1 7 (.un .not) 6]) (.cond (.t 7) (.seq (.reg false [K1 4 .mv (iV 0)]) .ret) .skip)) (.seq (.reg false [O1 8 (.fld 2) 2, O1 9 .load1 8, O1 10 .mv 1, ⟨(some 11), (.slit 5 1 1 [(.int .u8 0)] [(0, 1)]), [(.t 10)], none⟩, O2 12 (.call 95) 9 11, O1 4 .mv 12]) .ret))), [(.s 4)]⟩
theorem x77_ok : xfn Tryz.prog Tryz.f77 = some x77.er := by kernel_rfl
def x47 : XFn := ⟨15, (.seq (.reg false [K1 6 .mv (.bool false)]) (.seq (.reg false [O1 7 .mv 0, O1 8 .mv 1, O2 9 (.bin .geq) 7 8, O1 10 .mv 9, G1 11 .mv 0 10 true, G1 12 .mv 2 10 true, G2 13 (.bin .leq) 11 12 10 true, ⟨(some 14), .pick, [(.t 10), (.t 13), (.k (.bool false))], none⟩, O1 6 .mv 14]) .ret)), [(.s 6)]⟩
theorem x47_ok : xfn Tryz.prog Tryz.f47 = some x47.er := by kernel_rfl
def x35 : XFn := ⟨10, (.seq (.reg false [K1 4 .mv (.bool false)]) (.seq (.reg false [O1 5 .mv 0, O1 6 .mv 1, O1 7 (.un .neg) 6, O1 8 .mv 1, ⟨(some 9), (.call 47), [(.t 5), (.t 7), (.t 8)], none⟩, O1 4 .mv 9]) .ret)), [(.s 4)]⟩
theorem x35_ok : xfn Tryz.prog Tryz.f35 = some x35.er := by kernel_rfl
def x62 : XFn := ⟨11, (.seq (.reg false [O1 1 (.box 89) 0, K1 2 .mv (.bool false)]) (.seq (.reg false [O1 3 (.fld 0) 1, O1 4 .load1 3, K2 5 (.call 35) 4 (iV 1048576), O1 6 .mv 5, G1 7 (.fld 1) 1 6 true, G1 8 .load1 7 6 true, GK 9 (.call 35) 8 (iV 1048576) 6 true, ⟨(some 10), .pick, [(.t 6), (.t 9), (.k (.bool false))], none⟩, O1 2 .mv 10]) .ret)), [(.s 2)]⟩
theorem x62_ok : xfn Tryz.prog Tryz.f62 = some x62.er := by kernel_rfl
def x66 : XFn := ⟨16, (.seq (.reg false [K1 4 .mv (iV 0)]) (.seq (.reg false [O1 6 .mv 0, O1 7 .mv 1, O2 8 (.bin .quo) 6 7, O1 5 .mv 8]) (.seq (.seq (.reg false [O1 9 .mv 0, O1 10 .mv 1, O2 11 (.bin .rem) 9 10, K2 12 (.bin .lss) 11 (iV 0)]) (.cond (.t 12) (.reg false [O1 13 .mv 5, K2 14 (.bin .sub) 13 (iV 1), O1 5 .mv 14]) .skip)) (.seq (.reg false [O1 15 .mv 5, O1 4 .mv 15]) .ret)))), [(.s 4)]⟩
theorem x66_ok : xfn Tryz.prog Tryz.f66 = some x66.er := by kernel_rfl
def x79L0 : XC := (.seq (.seq (.reg false [O1 85 .mv 12, O1 86 .mv 8, O2 87 (.bin .leq) 85 86]) (.cond (.t 87) .skip (.exit 2))) (.seq (.block 3 (.seq (.seq (.reg false [O1 90 .mv 12, K2 91 (.bin .geq) 90 (iV 0), O1 92 .mv 91, G1 93 .mv 12 92 true, G1 94 (.fld 0) 3 92 true, G1 95 .load1 94 92 true, G2 96 (.bin .lss) 93 95 92 true, ⟨(some 97), .pick, [(.t 92), (.t 96), (.k (.bool false))], none⟩, O1 98 .mv 97, G1 99 .mv 11 98 true, GK 100 (.bin .geq) 99 (iV 0) 98 true, ⟨(some 101), .pick, [(.t 98), (.t 100), (.k (.bool false))], none⟩, O1 102 .mv 101, G1 103 .mv 11 102 true, G1 104 (.fld 1) 3 102 true, G1 105 .load1 104 102 true, G2 106 (.bin .lss) 103 105 102 true, ⟨(some 107), .pick, [(.t 102), (.t 106), (.k (.bool false))], none⟩, O1 108 .mv 107, G1 109 (.fld 2) 3 108 true, G1 110 .load1 109 108 true, G1 111 .mv 11 108 true, G1 112 (.fld 0) 3 108 true, G1 113 .load1 112 108 true, G2 114 (.bin .mul) 111 113 108 true, G1 115 .mv 12 108 true, G2 116 (.bin .add) 114 115 108 true, G2 117 (.ixS 1) 110 116 108 true, G1 118 .load1 117 108 true, GK 119 (.bin .neq) 118 (.int .u8 2) 108 true, ⟨(some 120), .pick, [(.t 108), (.t 119), (.k (.bool false))], none⟩]) (.cond (.t 120) (.exit 3) .skip)) (.seq (.reg false [O1 121 .mv 12, K2 122 (.bin .mul) 121 (iV 64), O1 123 .mv 11, K2 124 (.bin .mul) 123 (iV 64), O1 125 .mv 12, K2 126 (.bin .add) 125 (iV 1), K2 127 (.bin .mul) 126 (iV 64), O1 128 .mv 11, K2 129 (.bin .add) 128 (iV 1), K2 130 (.bin .mul) 129 (iV 64), ⟨(some 131), (.build [(iV 0), (iV 0), (iV 0), (iV 0)] [(0, 1), (1, 1), (2, 1), (3, 1)]), [(.t 122), (.t 124), (.t 127), (.t 130)], none⟩, ⟨(some 13), (.alloc 132 [(iV 0), (iV 0), (iV 0), (iV 0)]), [], none⟩, ⟨none, (.store 4), [(.t 13), (.t 131)], none⟩]) (.seq (.reg false [O1 132 (.loadN 2) 4, O1 133 (.loadN 2) 5, O1 134 (.loadN 4) 13, ⟨(some 135), (.call 96), [(.t 132), (.t 133), (.t 134), (.k (iV 20))], none⟩]) (.cond (.t 135) (.seq (.reg false [K1 6 .mv (.bool true)]) .ret) .skip))))) (.reg false [O1 88 .mv 12, K2 89 (.bin .add) 88 (iV 1), O1 12 .mv 89])))
def x79L1 : XC := (.seq (.seq (.reg false [O1 79 .mv 11, O1 80 .mv 10, O2 81 (.bin .leq) 79 80]) (.cond (.t 81) .skip (.exit 0))) (.seq (.block 1 (.seq (.reg false [O1 84 .mv 7, O1 12 .mv 84]) (.block 2 (.loop x79L0)))) (.reg false [O1 82 .mv 11, K2 83 (.bin .add) 82 (iV 1), O1 11 .mv 83])))
def x79 : XFn := ⟨136, (.seq (.reg false [O1 3 (.box 24) 0, O1 4 (.box 89) 1, O1 5 (.box 89) 2, K1 6 .mv (.bool false)]) (.seq (.seq (.reg false [O1 14 (.loadN 3) 3, O1 15 (.call 67) 14, O1 16 (.un .not) 15, O1 17 .mv 16, G1 18 (.loadN 3) 3 17 false, GK 19 (.call 77) 18 (.int .u8 0) 17 false, GK 20 (.bin .gtr) 19 (iV 0) 17 false, ⟨(some 21), .pick, [(.t 17), (.k (.bool true)), (.t 20)], none⟩, O1 22 .mv 21, G1 23 (.loadN 2) 4 22 false, G1 24 (.call 62) 23 22 false, G1 25 (.un .not) 24 22 false, ⟨(some 26), .pick, [(.t 22), (.k (.bool true)), (.t 25)], none⟩, O1 27 .mv 26, G1 28 (.loadN 2) 5 27 false, G1 29 (.call 62) 28 27 false, G1 30 (.un .not) 29 27 false, ⟨(some 31), .pick, [(.t 27), (.k (.bool true)), (.t 30)], none⟩]) (.cond (.t 31) (.seq (.reg false [K1 6 .mv (.bool true)]) .ret) .skip)) (.seq (.seq (.reg false [O1 32 (.fld 0) 5, O1 33 .load1 32, O1 34 (.fld 0) 4, O1 35 .load1 34, O2 36 (.bin .sub) 33 35, K2 37 (.call 35) 36 (iV 1024), O1 38 (.un .not) 37, O1 39 .mv 38, G1 40 (.fld 1) 5 39 false, G1 41 .load1 40 39 false, G1 42 (.fld 1) 4 39 false, G1 43 .load1 42 39 false, G2 44 (.bin .sub) 41 43 39 false, GK 45 (.call 35) 44 (iV 1024) 39 false, G1 46 (.un .not) 45 39 false, ⟨(some 47), .pick, [(.t 39), (.k (.bool true)), (.t 46)], none⟩]) (.cond (.t 47) (.seq (.reg false [K1 6 .mv (.bool true)]) .ret) .skip)) (.seq (.reg true [O1 48 (.fld 0) 4, O1 49 .load1 48, O1 50 (.fld 0) 5, O1 51 .load1 50, O2 52 .minI 49 51, K2 53 (.bin .sub) 52 (iV 20), K2 54 (.call 66) 53 (iV 64), K2 55 (.bin .sub) 54 (iV 1), O1 56 (.fld 0) 4, O1 57 .load1 56, O1 58 (.fld 0) 5, O1 59 .load1 58, O2 60 .maxI 57 59, K2 61 (.bin .add) 60 (iV 20), K2 62 (.call 66) 61 (iV 64), O1 7 .mv 55, O1 8 .mv 62]) (.seq (.reg true [O1 63 (.fld 1) 4, O1 64 .load1 63, O1 65 (.fld 1) 5, O1 66 .load1 65, O2 67 .minI 64 66, K2 68 (.bin .sub) 67 (iV 20), K2 69 (.call 66) 68 (iV 64), K2 70 (.bin .sub) 69 (iV 1), O1 71 (.fld 1) 4, O1 72 .load1 71, O1 73 (.fld 1) 5, O1 74 .load1 73, O2 75 .maxI 72 74, K2 76 (.bin .add) 75 (iV 20), K2 77 (.call 66) 76 (iV 64), O1 9 .mv 70, O1 10 .mv 77]) (.seq (.seq (.reg false [O1 78 .mv 9, O1 11 .mv 78]) (.block 0 (.loop x79L1))) (.seq (.reg false [K1 6 .mv (.bool false)]) .ret))))))), [(.s 6)]⟩
theorem x79_ok : xfn Tryz.prog Tryz.f79 = some x79.er := by kernel_rfl
def g95 : Con := fun args_ E_ nn_ => match args_ with
  | [.c (.n s), .c (.n sep)] => (match rowOf E_ s with
    | some (s_n, s_s, s_f) => (match rowOf E_ sep with
    | some (sep_n, sep_s, sep_f) => some (.q (isRow eU8 s_n s_s s_f ∧ isRow eU8 sep_n sep_s sep_f ∧ ((decL eU8 sep_n sep_f)).length = 1) (.o (.c (.v (.int .i64 (cnt8 (decL eU8 s_n s_f) (((decL eU8 sep_n sep_f)).getD 0 eU8.dflt)))))))
    | none => none)
    | none => none)
  | _ => none
theorem c95 : COk Tryz.prog 95 g95 := by
  refine cok_q Tryz.func95 x95_ok (by kernel_rfl) (cok_tab (cok_cons c102 cok_nil)) ?_
  intro args_ E_ nn_ cr_ hg_
  unfold g95 at hg_
  split at hg_
  · rename_i s sep
    split at hg_
    · rename_i s_n s_s s_f h_s
      split at hg_
      · rename_i sep_n sep_s sep_f h_sep
        cases hg_
        refine ⟨_, _, rfl, 2, [s, sep], [.c (.n 0), .c (.n 1)], [(0, .ro (decL eU8 s_n s_f).length eU8.sz (rowF eU8 (decL eU8 s_n s_f))), (1, .ro (decL eU8 sep_n sep_f).length eU8.sz (rowF eU8 (decL eU8 sep_n sep_f)))], .o (.c (.v (.int .i64 (cnt8 (decL eU8 s_n s_f) (((decL eU8 sep_n sep_f)).getD 0 eU8.dflt))))), rfl, rfl, and3 (by simp only [push_cast, Nat.reduceLT, Nat.reduceAdd]) ⟨rfl, ⟨inE0_row h_s, inE0_row h_sep, trivial⟩, rfl, ?_⟩⟩
        intro hpre hlen
        obtain ⟨i_s, hpre⟩ := hpre
        obtain ⟨i_sep, hpre⟩ := hpre
        refine ⟨⟨inE_row h_s i_s, inE_row h_sep i_sep, trivial⟩, ?_⟩
        have z_s := lens_row (E := eU8) hlen h_s
        have z_sep := lens_row (E := eU8) hlen h_sep
        clear i_s
        generalize decL eU8 s_n s_f = sL at *
        clear i_sep
        generalize decL eU8 sep_n sep_f = sepL at *
        clear h_s
        clear h_sep
        simp (maxSteps := 9999999) only [x95, push_cast, simprocAttr, g102]
        exact ⟨by omega, fun _ => ⟨fun _ => ⟨by omega, by omega⟩, fun h => by omega⟩⟩
      · cases hg_
    · cases hg_
  · cases hg_
def g77 : Con := fun args_ E_ nn_ => match args_ with
  | [.a [.v (.int .i64 p_W), .v (.int .i64 p_H), .n p_Cells], .c (.v (.int .u8 value))] => (match rowOf E_ p_Cells with
    | some (p_Cells_n, p_Cells_s, p_Cells_f) => some (.q (isRow eU8 p_Cells_n p_Cells_s p_Cells_f ∧ True) (.o (.c (.v (.int .i64 (cntV p_W p_H (decL eU8 p_Cells_n p_Cells_f) value))))))
    | none => none)
  | _ => none
theorem c77 : COk Tryz.prog 77 g77 := by
  refine cok_q Tryz.func77 x77_ok (by kernel_rfl) (cok_tab (cok_cons c67 (cok_cons c95 cok_nil))) ?_
  intro args_ E_ nn_ cr_ hg_
  unfold g77 at hg_
  split at hg_
  · rename_i p_W p_H p_Cells value
    split at hg_
    · rename_i p_Cells_n p_Cells_s p_Cells_f h_p_Cells
      cases hg_
      refine ⟨_, _, rfl, 1, [p_Cells], [.a [.v (.int .i64 p_W), .v (.int .i64 p_H), .n 0], .c (.v (.int .u8 value))], [(0, .ro (decL eU8 p_Cells_n p_Cells_f).length eU8.sz (rowF eU8 (decL eU8 p_Cells_n p_Cells_f)))], .o (.c (.v (.int .i64 (cntV p_W p_H (decL eU8 p_Cells_n p_Cells_f) value)))), rfl, rfl, and3 (by simp only [push_cast, Nat.reduceLT, Nat.reduceAdd]) ⟨rfl, ⟨inE0_row h_p_Cells, trivial⟩, rfl, ?_⟩⟩
      intro hpre hlen
      obtain ⟨i_p_Cells, hpre⟩ := hpre
      refine ⟨⟨inE_row h_p_Cells i_p_Cells, trivial⟩, ?_⟩
      have z_p_Cells := lens_row (E := eU8) hlen h_p_Cells
      clear i_p_Cells
      generalize decL eU8 p_Cells_n p_Cells_f = p_CellsL at *
      clear h_p_Cells
      have l1 : isRow eU8 1 1 (litF [SC.v (Value.int IntKind.u8 value)] 1) ↔ True := iff_true_intro (lits_row eU8 [value]).1
      have l2 : decL eU8 1 (litF [SC.v (Value.int IntKind.u8 value)] 1) = [value] := (lits_row eU8 [value]).2
      simp (maxSteps := 9999999) only [x77, push_cast, simprocAttr, g67, g95, l1, l2]
      unfold cntV
      exact ⟨fun h => by rw [h]; rfl, fun h => by rw [if_pos h]⟩
    · cases hg_
  · cases hg_
def g47 : Con := fun args_ E_ nn_ => match args_ with
  | [.c (.v (.int .i64 n)), .c (.v (.int .i64 lo)), .c (.v (.int .i64 hi))] => some (.q (True) (.o (.c (.v (.bool (decide (lo ≤ n ∧ n ≤ hi)))))))
  | _ => none
theorem c47 : COk Tryz.prog 47 g47 := by
  refine cok_q Tryz.func47 x47_ok (by kernel_rfl) (cok_tab cok_nil) ?_
  intro args_ E_ nn_ cr_ hg_
  unfold g47 at hg_
  split at hg_
  · rename_i n lo hi
    cases hg_
    refine ⟨_, _, rfl, 0, [], [.c (.v (.int .i64 n)), .c (.v (.int .i64 lo)), .c (.v (.int .i64 hi))], [], .o (.c (.v (.bool (decide (lo ≤ n ∧ n ≤ hi))))), rfl, rfl, and3 (by simp only [push_cast, Nat.reduceLT, Nat.reduceAdd]) ⟨rfl, trivial, rfl, ?_⟩⟩
    intro hpre hlen
    refine ⟨trivial, ?_⟩
    simp (maxSteps := 9999999) only [x47, push_cast, simprocAttr]
    rw [Bool.decide_and]
  · cases hg_
def g35 : Con := fun args_ E_ nn_ => match args_ with
  | [.c (.v (.int .i64 n)), .c (.v (.int .i64 k))] => some (.q (-9223372036854775807 ≤ k ∧ k ≤ 9223372036854775807) (.o (.c (.v (.bool (decide (-k ≤ n ∧ n ≤ k)))))))
  | _ => none
theorem c35 : COk Tryz.prog 35 g35 := by
  refine cok_q Tryz.func35 x35_ok (by kernel_rfl) (cok_tab (cok_cons c47 cok_nil)) ?_
  intro args_ E_ nn_ cr_ hg_
  unfold g35 at hg_
  split at hg_
  · rename_i n k
    cases hg_
    refine ⟨_, _, rfl, 0, [], [.c (.v (.int .i64 n)), .c (.v (.int .i64 k))], [], .o (.c (.v (.bool (decide (-k ≤ n ∧ n ≤ k))))), rfl, rfl, and3 (by simp only [push_cast, Nat.reduceLT, Nat.reduceAdd]) ⟨rfl, trivial, rfl, ?_⟩⟩
    intro hpre hlen
    refine ⟨trivial, ?_⟩
    simp (maxSteps := 9999999) only [x35, push_cast, simprocAttr, g47]
    rw [wrapI (by omega) (by omega)]
  · cases hg_
def g62 : Con := fun args_ E_ nn_ => match args_ with
  | [.a [.v (.int .i64 p_X), .v (.int .i64 p_Y)]] => some (.q (True) (.o (.c (.v (.bool (decide ((-1048576 ≤ p_X ∧ p_X ≤ 1048576) ∧ -1048576 ≤ p_Y ∧ p_Y ≤ 1048576)))))))
  | _ => none
theorem c62 : COk Tryz.prog 62 g62 := by
  refine cok_q Tryz.func62 x62_ok (by kernel_rfl) (cok_tab (cok_cons c35 cok_nil)) ?_
  intro args_ E_ nn_ cr_ hg_
  unfold g62 at hg_
  split at hg_
  · rename_i p_X p_Y
    cases hg_
    refine ⟨_, _, rfl, 0, [], [.a [.v (.int .i64 p_X), .v (.int .i64 p_Y)]], [], .o (.c (.v (.bool (decide ((-1048576 ≤ p_X ∧ p_X ≤ 1048576) ∧ -1048576 ≤ p_Y ∧ p_Y ≤ 1048576))))), rfl, rfl, and3 (by simp only [push_cast, Nat.reduceLT, Nat.reduceAdd]) ⟨rfl, trivial, rfl, ?_⟩⟩
    intro hpre hlen
    refine ⟨trivial, ?_⟩
    simp (maxSteps := 9999999) only [x62, push_cast, simprocAttr, g35]
    rw [Bool.eq_iff_iff]
    simp []
    try omega
  · cases hg_
def g66 : Con := fun args_ E_ nn_ => match args_ with
  | [.c (.v (.int .i64 a)), .c (.v (.int .i64 b))] => some (.q (0 < b ∧ -9223372036854775808 ≤ a ∧ a ≤ 9223372036854775807) (.o (.c (.v (.int .i64 (a / b))))))
  | _ => none
theorem c66 : COk Tryz.prog 66 g66 := by
  refine cok_q Tryz.func66 x66_ok (by kernel_rfl) (cok_tab cok_nil) ?_
  intro args_ E_ nn_ cr_ hg_
  unfold g66 at hg_
  split at hg_
  · rename_i a b
    cases hg_
    refine ⟨_, _, rfl, 0, [], [.c (.v (.int .i64 a)), .c (.v (.int .i64 b))], [], .o (.c (.v (.int .i64 (a / b)))), rfl, rfl, and3 (by simp only [push_cast, Nat.reduceLT, Nat.reduceAdd]) ⟨rfl, trivial, rfl, ?_⟩⟩
    intro hpre hlen
    refine ⟨trivial, ?_⟩
    simp (maxSteps := 9999999) only [x66, push_cast, simprocAttr]
    have h1 := tdiv_range (a := a) (b := b) (by omega) (by omega) (by omega)
    have h2 := ediv_range (a := a) (b := b) (by omega) (by omega) (by omega)
    refine ⟨by omega, by omega, fun h => ?_, fun h => ?_⟩
    · have e := floor_neg (by omega) h
      rw [wrapI h1.1 h1.2, wrapI (by omega) (by omega), e]
    · rw [wrapI h1.1 h1.2, floor_pos (by omega) h]
  · cases hg_
noncomputable def g79 : Con := fun args_ E_ nn_ => match args_ with
  | [.a [.v (.int .i64 p_W), .v (.int .i64 p_H), .n p_Cells], .a [.v (.int .i64 from_X), .v (.int .i64 from_Y)], .a [.v (.int .i64 to_X), .v (.int .i64 to_Y)]] => (match rowOf E_ p_Cells with
    | some (p_Cells_n, p_Cells_s, p_Cells_f) => some (.q (isRow eU8 p_Cells_n p_Cells_s p_Cells_f ∧ u8s (decL eU8 p_Cells_n p_Cells_f)) (.o (.c (.v (.bool (blkB p_W p_H (decL eU8 p_Cells_n p_Cells_f) from_X from_Y to_X to_Y))))))
    | none => none)
  | _ => none
theorem c79 : COk Tryz.prog 79 g79 := by
  refine cok_q Tryz.func79 x79_ok (by kernel_rfl) (cok_tab (cok_cons c67 (cok_cons c77 (cok_cons c62 (cok_cons c35 (cok_cons c66 (cok_cons c96 cok_nil))))))) ?_
  intro args_ E_ nn_ cr_ hg_
  unfold g79 at hg_
  split at hg_
  · rename_i p_W p_H p_Cells from_X from_Y to_X to_Y
    split at hg_
    · rename_i p_Cells_n p_Cells_s p_Cells_f h_p_Cells
      cases hg_
      refine ⟨_, _, rfl, 1, [p_Cells], [.a [.v (.int .i64 p_W), .v (.int .i64 p_H), .n 0], .a [.v (.int .i64 from_X), .v (.int .i64 from_Y)], .a [.v (.int .i64 to_X), .v (.int .i64 to_Y)]], [(0, .ro (decL eU8 p_Cells_n p_Cells_f).length eU8.sz (rowF eU8 (decL eU8 p_Cells_n p_Cells_f)))], .o (.c (.v (.bool (blkB p_W p_H (decL eU8 p_Cells_n p_Cells_f) from_X from_Y to_X to_Y)))), rfl, rfl, and3 (by simp only [push_cast, Nat.reduceLT, Nat.reduceAdd]) ⟨rfl, ⟨inE0_row h_p_Cells, trivial⟩, rfl, ?_⟩⟩
      intro hpre hlen
      obtain ⟨i_p_Cells, hpre⟩ := hpre
      refine ⟨⟨inE_row h_p_Cells i_p_Cells, trivial⟩, ?_⟩
      have z_p_Cells := lens_row (E := eU8) hlen h_p_Cells
      clear i_p_Cells
      generalize decL eU8 p_Cells_n p_Cells_f = p_CellsL at *
      clear h_p_Cells
      simp (maxSteps := 9999999) only [x79, push_cast, simprocAttr, g67, g77, g62, g35, g66, g96]
      refine ⟨fun h => ?_, fun h1 h2 a1 a2 a3 a4 a5 a6 a7 a8 => ?_⟩
      · symm; rw [blk_iff]
        rcases h with ((h | h) | h) | h
        · left; unfold buildB; rw [h]; rfl
        · left; rw [Bool.eq_false_iff]; exact fun q => ((build_iff hpre).1 q).2 h
        · right; left; unfold wayB; rw [decide_eq_false_iff_not]; omega
        · right; left; unfold wayB; rw [decide_eq_false_iff_not]; omega
      rw [wrapI (n := to_X - from_X) (by omega) (by omega), wrapI (n := to_Y - from_Y) (by omega) (by omega)]
      refine ⟨fun h => ?_, fun b1 b2 b3 b4 => ?_⟩
      · symm; rw [blk_iff]; right; left; unfold wayB; rw [decide_eq_false_iff_not]; omega
      have hw : wayB from_X from_Y to_X to_Y = true := by unfold wayB; rw [decide_eq_true_eq]; omega
      have hb : buildB p_W p_H p_CellsL = true := (build_iff hpre).2 ⟨h1, h2⟩
      have hlow : ∀ x y, (x < (min from_X to_X - 20) / 64 - 1 ∨ y < (min from_Y to_Y - 20) / 64 - 1 ∨ (max from_X to_X + 20) / 64 < x ∨ (max from_Y to_Y + 20) / 64 < y) → hitW p_W p_H p_CellsL from_X from_Y to_X to_Y x y = false := by
        intro x y h
        rw [Bool.eq_false_iff]; intro q
        have := hit_rng q
        omega
      rw [wrapI (n := min from_X to_X - 20) (by omega) (by omega), wrapI (n := min from_Y to_Y - 20) (by omega) (by omega), wrapI (n := max from_X to_X + 20) (by omega) (by omega), wrapI (n := max from_Y to_Y + 20) (by omega) (by omega), wrapI (n := (min from_X to_X - 20) / 64 - 1) (by omega) (by omega), wrapI (n := (min from_Y to_Y - 20) / 64 - 1) (by omega) (by omega)]
      refine ⟨by omega, by omega, by omega, by omega, ?_⟩
      have r1 : -20000 ≤ (min from_X to_X - 20) / 64 - 1 ∧ (min from_X to_X - 20) / 64 - 1 ≤ (max from_X to_X + 20) / 64 ∧ (max from_X to_X + 20) / 64 ≤ 20000 := by omega
      have r2 : -20000 ≤ (min from_Y to_Y - 20) / 64 - 1 ∧ (min from_Y to_Y - 20) / 64 - 1 ≤ (max from_Y to_Y + 20) / 64 ∧ (max from_Y to_Y + 20) / 64 ≤ 20000 := by omega
      generalize (min from_X to_X - 20) / 64 - 1 = X0 at *
      generalize (min from_Y to_Y - 20) / 64 - 1 = Y0 at *
      generalize (max from_X to_X + 20) / 64 = X1 at *
      generalize (max from_Y to_Y + 20) / 64 = Y1 at *
      refine vcLoop_upd (α := {k : Nat // Y0 + k ≤ Y1 + 1 ∧ ∀ x y, y < Y0 + k → hitW p_W p_H p_CellsL from_X from_Y to_X to_Y x y = false}) [3, 4, 5, 7, 8, 10] 0 (fun s => [(11, .o (.c (.v (.int .i64 (Y0 + (s.1 : Nat))))))]) (fun s => []) (fun s => (Y1 + 1 - Y0).toNat - s.1) ⟨0, by omega, fun x y h => hlow x y (.inr (.inl (by omega)))⟩ ?_ ?_
      · simp only [push_cast, simprocAttr, g67, g77, g62, g35, g66, g96, Int.add_zero]
      rintro ⟨k, hk, z⟩
      simp only [x79L1, push_cast, simprocAttr, g67, g77, g62, g35, g66, g96]
      refine ⟨fun hlt => ?_, fun hge => ?_⟩
      · refine vcLoop_upd (α := {i : Nat // X0 + i ≤ X1 + 1 ∧ ∀ x, x < X0 + i → hitW p_W p_H p_CellsL from_X from_Y to_X to_Y x (Y0 + k) = false}) [3, 4, 5, 7, 8, 10, 11] 0 (fun s => [(12, .o (.c (.v (.int .i64 (X0 + (s.1 : Nat))))))]) (fun s => []) (fun s => (X1 + 1 - X0).toNat - s.1) ⟨0, by omega, fun x h => hlow x _ (.inl (by omega))⟩ ?_ ?_
        · simp only [push_cast, simprocAttr, g67, g77, g62, g35, g66, g96, Int.add_zero]
        rintro ⟨i, hi, zi⟩
        simp only [x79L0, push_cast, simprocAttr, g67, g77, g62, g35, g66, g96]
        have hst : hitW p_W p_H p_CellsL from_X from_Y to_X to_Y (X0 + (i : Int)) (Y0 + (k : Int)) = false → ∃ y : {i : Nat // X0 + i ≤ X1 + 1 ∧ ∀ x, x < X0 + i → hitW p_W p_H p_CellsL from_X from_Y to_X to_Y x (Y0 + k) = false}, IntKind.i64.wrap (X0 + (i : Int) + 1) = X0 + (y.val : Nat) ∧ (X1 + 1 - X0).toNat - y.val < (X1 + 1 - X0).toNat - i ∨ ¬ X0 + (i : Int) ≤ X1 := fun hz => by
          by_cases hle : X0 + (i : Int) ≤ X1
          · exact ⟨⟨i + 1, by omega, fun x hx => by rcases (by omega : x < X0 + (i : Int) ∨ x = X0 + (i : Int)) with q | q; exact zi x q; rw [q]; exact hz⟩, .inl ⟨by rw [wrapI (by omega) (by omega)]; simp only; omega, by simp only; omega⟩⟩
          · exact ⟨⟨0, by omega, fun x hx => hlow x _ (.inl (by omega))⟩, .inr hle⟩
        refine ⟨fun hle => ?_, fun hgt => ⟨⟨k + 1, by omega, fun x y hy => ?_⟩, by rw [wrapI (by omega) (by omega)]; simp only; omega, by simp only; omega⟩⟩
        · have hs : hitW p_W p_H p_CellsL from_X from_Y to_X to_Y (X0 + (i : Int)) (Y0 + (k : Int)) = false → ∃ y : {i : Nat // X0 + i ≤ X1 + 1 ∧ ∀ x, x < X0 + i → hitW p_W p_H p_CellsL from_X from_Y to_X to_Y x (Y0 + k) = false}, IntKind.i64.wrap (X0 + (i : Int) + 1) = X0 + (y.val : Nat) ∧ (X1 + 1 - X0).toNat - y.val < (X1 + 1 - X0).toNat - i := fun hz => by
            obtain ⟨y, hy⟩ := hst hz
            exact ⟨y, hy.resolve_right fun h => h hle⟩
          have hin : 0 ≤ X0 + (i : Int) → X0 + (i : Int) < p_W → 0 ≤ Y0 + (k : Int) → Y0 + (k : Int) < p_H → insB p_W p_H (X0 + (i : Int)) (Y0 + (k : Int)) = true := fun a b c d => decide_eq_true ⟨⟨a, b⟩, c, d⟩
          have hix : insB p_W p_H (X0 + (i : Int)) (Y0 + (k : Int)) = true → IntKind.i64.wrap (IntKind.i64.wrap ((Y0 + (k : Int)) * p_W) + (X0 + (i : Int))) = (Y0 + (k : Int)) * p_W + (X0 + (i : Int)) ∧ 0 ≤ (Y0 + (k : Int)) * p_W + (X0 + (i : Int)) ∧ (Y0 + (k : Int)) * p_W + (X0 + (i : Int)) < p_CellsL.length := fun h => by
            have b := idx_bd h1 h
            rw [wrapI (n := (Y0 + (k : Int)) * p_W) (by omega) (by omega), wrapI (by omega) (by omega)]
            exact ⟨rfl, by omega, by omega⟩
          refine ⟨fun a b c d => ⟨⟨⟨⟨a, b⟩, c⟩, d⟩, ?_⟩, fun a b c d => ⟨⟨⟨⟨a, b⟩, c⟩, d⟩, ?_⟩, fun a b c d e => ?_, fun hc => ?_⟩
          · have q := hix (hin a b c d); rw [q.1]; exact q.2
          · have q := hix (hin a b c d); rw [q.1]; omega
          · have q := hix (hin a b c d)
            rw [q.1, ← at_in h1 (hin a b c d)] at e
            exact hs (by unfold hitW; rw [decide_eq_false e]; rfl)
          · have hat : atB p_W p_H p_CellsL (X0 + (i : Int)) (Y0 + (k : Int)) = 2 := by
              cases hi2 : insB p_W p_H (X0 + (i : Int)) (Y0 + (k : Int))
              · exact at_out h1 hi2
              · have q := hix hi2
                have hI := hi2
                unfold insB at hI
                rw [decide_eq_true_eq] at hI
                rw [at_in h1 hi2]
                rw [q.1, decide_eq_true hI.1.1, decide_eq_true hI.1.2, decide_eq_true hI.2.1, decide_eq_true hI.2.2] at hc
                simpa using hc
            have ht : hitW p_W p_H p_CellsL from_X from_Y to_X to_Y (X0 + (i : Int)) (Y0 + (k : Int)) = touchB from_X from_Y to_X to_Y ((X0 + (i : Int)) * 64) ((Y0 + (k : Int)) * 64) ((X0 + (i : Int)) * 64 + 64) ((Y0 + (k : Int)) * 64 + 64) 20 := by unfold hitW; rw [decide_eq_true hat]; rfl
            rw [wrapI (n := (X0 + (i : Int)) * 64) (by omega) (by omega), wrapI (n := (Y0 + (k : Int)) * 64) (by omega) (by omega), wrapI (n := Y0 + (k : Int) + 1) (by omega) (by omega), wrapI (n := (Y0 + (k : Int) + 1) * 64) (by omega) (by omega)]
            have ex : IntKind.i64.wrap (IntKind.i64.wrap (X0 + (i : Int) + 1) * 64) = (X0 + (i : Int)) * 64 + 64 := by rw [wrapI (n := X0 + (i : Int) + 1) (by omega) (by omega), wrapI (by omega) (by omega)]; omega
            rw [ex, show (Y0 + (k : Int) + 1) * 64 = (Y0 + (k : Int)) * 64 + 64 by omega, ← ht]
            exact ⟨fun h => by symm; rw [blk_iff]; exact .inr (.inr ⟨_, _, h⟩), hs⟩
        · rcases (by omega : y < Y0 + (k : Int) ∨ y = Y0 + (k : Int)) with q | q
          · exact z x y q
          · rcases (by omega : x < X0 + (i : Int) ∨ X1 < x) with q2 | q2
            · rw [q]; exact zi x q2
            · exact hlow x y (.inr (.inr (.inl q2)))
      exact (blk_no hb hw fun x y => by
        rcases (by omega : y < Y0 + (k : Int) ∨ Y1 < y) with q | q
        · exact z x y q
        · exact hlow x y (.inr (.inr (.inr q)))).symm
    · cases hg_
  · cases hg_
end Go.Proofs.YtkpdofgmmpbknaaGreat
