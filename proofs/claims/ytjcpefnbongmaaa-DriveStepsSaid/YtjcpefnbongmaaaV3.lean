/- A part of the proof of a statement about this seat: how a function is stepped through, and plain laws. No conditions. -/
import Derived.Test.YtjcpefnbongmaaaRows
import Derived.Test.YtjcpefnbongmaaaSz3
import Derived.Test.YtjcpefnbongmaaaV2
import Derived.KernelRfl
set_option linter.unusedVariables false
set_option linter.unusedSimpArgs false
set_option maxRecDepth 20000
namespace Go.Proofs.Ytjcpefnbongmaaa
open Go.Sx Go.Way
/-! ### Ways in both directions, and free cells -/
theorem sqD_sym (a b c d : Int) : sqD a b c d = sqD c d a b := by unfold sqD; grind
theorem sqD_nn (a b c d : Int) : 0 ≤ sqD a b c d := by have := sq_nn (a - c); have := sq_nn (b - d); unfold sqD; omega
theorem sq_zero {a : Int} (h : a * a ≤ 0) : a = 0 := by
  have := sq_le2 (a := a) (c := 0) (by omega) (by omega)
  omega
theorem segN_sym (cx cy px py qx qy k : Int) : segN cx cy px py qx qy k = segN cx cy qx qy px py k := by
  have e1 : (cx - qx) * (px - qx) + (cy - qy) * (py - qy) = sqD qx qy px py - ((cx - px) * (qx - px) + (cy - py) * (qy - py)) := by unfold sqD; grind
  have e3 : crs qx qy px py cx cy = -crs px py qx qy cx cy := by unfold crs; grind
  have nn := sqD_nn qx qy px py
  have hz : sqD qx qy px py ≤ 0 → sqD cx cy px py = sqD cx cy qx qy := by
    intro h
    have n1 := sq_nn (qx - px)
    have n2 := sq_nn (qy - py)
    unfold sqD at h
    have z1 := sq_zero (a := qx - px) (by omega)
    have z2 := sq_zero (a := qy - py) (by omega)
    rw [show qx = px by omega, show qy = py by omega]
  unfold segN
  rw [e1, e3, Int.neg_mul_neg, sqD_sym px py qx qy]
  generalize (cx - px) * (qx - px) + (cy - py) * (qy - py) = D at *
  generalize sqD qx qy px py = S at *
  by_cases h1 : D ≤ 0
  · rw [if_pos h1]
    by_cases h2 : S - D ≤ 0
    · rw [if_pos h2, hz (by omega)]
    · rw [if_neg h2, if_pos (by omega)]
  · rw [if_neg h1]
    by_cases h2 : S ≤ D
    · rw [if_pos h2, if_pos (by omega)]
    · rw [if_neg h2, if_neg (by omega), if_neg (by omega)]
theorem meetsR_sym (px py qx qy x0 y0 x1 y1 : Int) : meetsR px py qx qy x0 y0 x1 y1 = meetsR qx qy px py x0 y0 x1 y1 := by
  have e : ∀ a b, crs qx qy px py a b = -crs px py qx qy a b := by intro a b; unfold crs; grind
  unfold meetsR
  rw [e, e, e, e]
  rw [Bool.eq_iff_iff]
  simp only [Bool.and_eq_true, decide_eq_true_eq]
  omega
theorem comesB_sym (px py qx qy x0 y0 x1 y1 k : Int) : comesB px py qx qy x0 y0 x1 y1 k = comesB qx qy px py x0 y0 x1 y1 k := by
  unfold comesB
  rw [meetsR_sym, segN_sym x0 y0, segN_sym x1 y0, segN_sym x0 y1, segN_sym x1 y1]
  cases meetsR qx qy px py x0 y0 x1 y1 <;> cases decide (gapV px py x0 y0 x1 y1 ≤ k * k) <;> cases decide (gapV qx qy x0 y0 x1 y1 ≤ k * k) <;> rfl
theorem touchB_sym (px py qx qy x0 y0 x1 y1 k : Int) : touchB px py qx qy x0 y0 x1 y1 k = touchB qx qy px py x0 y0 x1 y1 k := by
  unfold touchB
  rw [comesB_sym, Bool.and_comm (sPtB px py)]
  congr 2
  rw [decide_eq_decide]
  omega
theorem blkB_sym (W H : Int) (L : List Int) (fx fy tx ty : Int) : blkB W H L fx fy tx ty = blkB W H L tx ty fx fy := by
  rw [Bool.eq_iff_iff, blk_iff, blk_iff]
  have e : wayB fx fy tx ty = wayB tx ty fx fy := by unfold wayB; rw [decide_eq_decide]; omega
  have e2 : ∀ x y, hitW W H L fx fy tx ty x y = hitW W H L tx ty fx fy x y := by intro x y; unfold hitW; rw [touchB_sym]
  rw [e]
  simp only [e2]
theorem sq_mono {a b : Int} (h : -b ≤ a ∧ a ≤ b ∨ b ≤ a ∧ a ≤ -b) : a * a ≤ b * b := by
  rcases Int.le_total 0 b with hb | hb
  · have ha : -b ≤ a ∧ a ≤ b := by omega
    rcases Int.le_total 0 a with h1 | h1
    · exact Int.mul_le_mul ha.2 ha.2 h1 hb
    · rw [← Int.neg_mul_neg a a]; exact Int.mul_le_mul (by omega) (by omega) (by omega) hb
  · have ha : b ≤ a ∧ a ≤ -b := by omega
    rw [← Int.neg_mul_neg b b]
    rcases Int.le_total 0 a with h1 | h1
    · exact Int.mul_le_mul ha.2 ha.2 h1 (by omega)
    · rw [← Int.neg_mul_neg a a]; exact Int.mul_le_mul (by omega) (by omega) (by omega) (by omega)
theorem gap_le {px py x0 y0 x1 y1 cx cy : Int} (hx : x0 ≤ cx ∧ cx ≤ x1) (hy : y0 ≤ cy ∧ cy ≤ y1) : gapV px py x0 y0 x1 y1 ≤ sqD cx cy px py := by
  have a := sq_mono (a := gapO px x0 x1) (b := cx - px) (by unfold gapO; omega)
  have b := sq_mono (a := gapO py y0 y1) (b := cy - py) (by unfold gapO; omega)
  unfold gapV sqD
  omega
/-- What an end touches, the way touches. -/
theorem comes_end {px py qx qy x0 y0 x1 y1 k : Int} (hx : x0 ≤ x1) (hy : y0 ≤ y1) (h : comesB px py px py x0 y0 x1 y1 k = true) : comesB px py qx qy x0 y0 x1 y1 k = true := by
  have key : gapV px py x0 y0 x1 y1 ≤ k * k := by
    have sg : ∀ a b, (x0 ≤ a ∧ a ≤ x1) → (y0 ≤ b ∧ b ≤ y1) → segN a b px py px py k = true → gapV px py x0 y0 x1 y1 ≤ k * k := by
      intro a b ha hb hs
      unfold segN at hs
      rw [if_pos (by rw [Int.sub_self, Int.sub_self, Int.mul_zero, Int.mul_zero]; omega), decide_eq_true_eq] at hs
      exact Int.le_trans (gap_le ha hb) hs
    unfold comesB at h
    simp only [Bool.or_eq_true, decide_eq_true_eq] at h
    rcases h with (((((h | h) | h) | h) | h) | h) | h
    · unfold meetsR at h
      rw [Bool.and_eq_true, decide_eq_true_eq] at h
      rw [gap_in (by omega)]
      exact sq_nn k
    · exact h
    · exact h
    · exact sg _ _ ⟨by omega, hx⟩ ⟨by omega, hy⟩ h
    · exact sg _ _ ⟨hx, by omega⟩ ⟨by omega, hy⟩ h
    · exact sg _ _ ⟨by omega, hx⟩ ⟨hy, by omega⟩ h
    · exact sg _ _ ⟨hx, by omega⟩ ⟨hy, by omega⟩ h
  unfold comesB
  rw [decide_eq_true key]
  simp
theorem blk_end {W H : Int} {L : List Int} {fx fy tx ty : Int} (h : blkB W H L fx fy fx fy = true) : blkB W H L fx fy tx ty = true := by
  rw [blk_iff] at h ⊢
  cases hw : wayB fx fy tx ty
  · exact .inr (.inl rfl)
  · unfold wayB at hw
    rw [decide_eq_true_eq] at hw
    rcases h with h | h | ⟨x, y, h⟩
    · exact .inl h
    · exfalso
      unfold wayB at h
      rw [decide_eq_false_iff_not] at h
      omega
    · refine .inr (.inr ⟨x, y, ?_⟩)
      unfold hitW at h ⊢
      rw [Bool.and_eq_true] at h ⊢
      refine ⟨h.1, ?_⟩
      have h2 := h.2
      unfold touchB at h2 ⊢
      simp only [Bool.and_eq_true, decide_eq_true_eq] at h2 ⊢
      refine ⟨⟨⟨⟨⟨h2.1.1.1.1.1, ?_⟩, h2.1.1.1.2⟩, h2.1.1.2⟩, by omega⟩, comes_end (by omega) (by omega) h2.2⟩
      simp only [sPtB, nearB, Bool.and_eq_true, decide_eq_true_eq]; omega
theorem blk_end2 {W H : Int} {L : List Int} {fx fy tx ty : Int} (h : blkB W H L tx ty tx ty = true) : blkB W H L fx fy tx ty = true := by
  rw [blkB_sym]; exact blk_end h
/-- A cell that becomes free blocks no way. -/
theorem blk_free {W H : Int} {L : List Int} {fx fy tx ty : Int} {i : Nat} (hi : i < L.length) (h : blkB W H L fx fy tx ty = false) : blkB W H (L.set i 1) fx fy tx ty = false := by
  rw [Bool.eq_false_iff] at h ⊢
  intro h2
  apply h
  rw [blk_iff] at h2 ⊢
  cases hb : buildB W H L
  · exact .inl rfl
  · have hb2 := hb
    unfold buildB at hb2
    rw [Bool.and_eq_true, List.all_eq_true] at hb2
    have hp := planB_set (i := i) (v := 1) hb2.1 (by omega)
    have hb3 : buildB W H (L.set i 1) = true := by
      unfold buildB
      rw [hp, Bool.true_and, List.all_eq_true]
      intro x hx
      rcases List.mem_or_eq_of_mem_set hx with h1 | h1
      · exact hb2.2 x h1
      · subst h1; rfl
    rcases h2 with h2 | h2 | ⟨x, y, h2⟩
    · rw [hb3] at h2; cases h2
    · exact .inr (.inl h2)
    · refine .inr (.inr ⟨x, y, ?_⟩)
      unfold hitW at h2 ⊢
      rw [Bool.and_eq_true, decide_eq_true_eq] at h2 ⊢
      refine ⟨?_, h2.2⟩
      have h3 := h2.1
      cases hin : insB W H x y
      · exact at_out hb2.1 hin
      · rw [at_in hp hin, getD_set hi] at h3
        rw [at_in hb2.1 hin]
        split at h3
        · cases h3
        · exact h3
theorem catF_zero (g f : Nat → Nat → SC) : catF 0 g f = f := by funext i j; simp [catF]
theorem nextS_awake : nextS 100 100 0 32 10 0 0 0 0 = (106, 108, 32, 0) := by decide +kernel
theorem reachS_awake : reachS 0 10 0 5 1 1 0 = (4, -1, 16, 1, 0) := by decide +kernel
section
variable (W H : Int) (L : List Int) (x y h T F eT eL eX eY : Int)
/-- The pose after a motion in a building, whether there was a bump, and the error. -/
noncomputable def stepS : Int × Int × Int × Bool × Int :=
  if planB W H L = false then (0, 0, 0, false, 1)
  else if buildB W H L = false then (0, 0, 0, false, 3)
  else if (nextS x y h T F eT eL eX eY).2.2.2 ≠ 0 then (0, 0, 0, false, (nextS x y h T F eT eL eX eY).2.2.2)
  else if F ≠ 0 ∧ blkB W H L x y (nextS x y h T F eT eL eX eY).1 (nextS x y h T F eT eL eX eY).2.1 = true then (x, y, (nextS x y h T F eT eL eX eY).2.2.1, true, 0)
  else ((nextS x y h T F eT eL eX eY).1, (nextS x y h T F eT eL eX eY).2.1, (nextS x y h T F eT eL eX eY).2.2.1, false, 0)
noncomputable def stX : Int := (stepS W H L x y h T F eT eL eX eY).1
noncomputable def stY : Int := (stepS W H L x y h T F eT eL eX eY).2.1
noncomputable def stH : Int := (stepS W H L x y h T F eT eL eX eY).2.2.1
noncomputable def stB : Bool := (stepS W H L x y h T F eT eL eX eY).2.2.2.1
noncomputable def stE : Int := (stepS W H L x y h T F eT eL eX eY).2.2.2.2
end
theorem step_is {W H : Int} {L : List Int} {x y h T F eT eL eX eY : Int} {r : Int × Int × Int × Bool × Int} (e : stepS W H L x y h T F eT eL eX eY = r) :
    stX W H L x y h T F eT eL eX eY = r.1 ∧ stY W H L x y h T F eT eL eX eY = r.2.1 ∧ stH W H L x y h T F eT eL eX eY = r.2.2.1 ∧ stB W H L x y h T F eT eL eX eY = r.2.2.2.1 ∧ stE W H L x y h T F eT eL eX eY = r.2.2.2.2 := by
  subst e; exact ⟨rfl, rfl, rfl, rfl, rfl⟩
theorem nextS_F {X Y H T F eT eL eX eY : Int} (h : (nextS X Y H T F eT eL eX eY).2.2.2 = 0) : 0 ≤ F := by
  by_cases h1 : ¬ (-1048576 ≤ X ∧ X ≤ 1048576 ∧ -1048576 ≤ Y ∧ Y ≤ 1048576 ∧ 0 ≤ H ∧ H ≤ 255) ∨ ¬ (-32 ≤ T ∧ T ≤ 32 ∧ 0 ≤ F ∧ F ≤ 32)
  · rw [nextS_arg h1] at h; cases h
  · omega
theorem blk_plan {W H : Int} {L : List Int} {fx fy tx ty : Int} (h : blkB W H L fx fy tx ty = false) : planB W H L = true := by
  cases hb : buildB W H L
  · rw [blk_iff.2 (.inl hb)] at h; cases h
  · unfold buildB at hb; rw [Bool.and_eq_true] at hb; exact hb.1
theorem nextS_zero {X Y H T F eT eL eX eY nx ny nh : Int} (hF : F = 0) (h : nextS X Y H T F eT eL eX eY = (nx, ny, nh, 0)) : nx = X ∧ ny = Y := by
  by_cases h1 : (-1048576 ≤ X ∧ X ≤ 1048576 ∧ -1048576 ≤ Y ∧ Y ≤ 1048576 ∧ 0 ≤ H ∧ H ≤ 255) ∧ (-32 ≤ T ∧ T ≤ 32 ∧ 0 ≤ F ∧ F ≤ 32)
  · by_cases h2 : (-64 ≤ eT ∧ eT ≤ 64) ∧ (-64 ≤ eL ∧ eL ≤ 64) ∧ (-64 ≤ eX ∧ eX ≤ 64) ∧ (-64 ≤ eY ∧ eY ≤ 64)
    · rw [nextS_stay h1 h2 hF] at h
      simp only [Prod.mk.injEq] at h
      exact ⟨h.1.symm, h.2.1.symm⟩
    · rw [nextS_range h1 h2] at h; simp at h
  · rw [nextS_arg (by omega)] at h; simp at h
theorem step_cases (W H : Int) (L : List Int) (x y h T F eT eL eX eY : Int) :
    (stE W H L x y h T F eT eL eX eY ≠ 0 ∧ stX W H L x y h T F eT eL eX eY = 0 ∧ stY W H L x y h T F eT eL eX eY = 0 ∧ stH W H L x y h T F eT eL eX eY = 0 ∧ stB W H L x y h T F eT eL eX eY = false) ∨
    ∃ nx ny nh, nextS x y h T F eT eL eX eY = (nx, ny, nh, 0) ∧ stE W H L x y h T F eT eL eX eY = 0 ∧ stH W H L x y h T F eT eL eX eY = nh ∧
      ((stB W H L x y h T F eT eL eX eY = true ∧ stX W H L x y h T F eT eL eX eY = x ∧ stY W H L x y h T F eT eL eX eY = y ∧ F ≠ 0) ∨
       (stB W H L x y h T F eT eL eX eY = false ∧ stX W H L x y h T F eT eL eX eY = nx ∧ stY W H L x y h T F eT eL eX eY = ny ∧ (F = 0 ∨ blkB W H L x y nx ny = false))) := by
  by_cases h1 : planB W H L = false
  · have z := step_is (show stepS W H L x y h T F eT eL eX eY = _ from if_pos h1)
    refine .inl ⟨by rw [z.2.2.2.2]; decide, z.1, z.2.1, z.2.2.1, z.2.2.2.1⟩
  · by_cases h2 : buildB W H L = false
    · have z := step_is (show stepS W H L x y h T F eT eL eX eY = (0, 0, 0, false, 3) by unfold stepS; rw [if_neg h1, if_pos h2])
      refine .inl ⟨by rw [z.2.2.2.2]; decide, z.1, z.2.1, z.2.2.1, z.2.2.2.1⟩
    · by_cases h3 : (nextS x y h T F eT eL eX eY).2.2.2 ≠ 0
      · have z := step_is (show stepS W H L x y h T F eT eL eX eY = (0, 0, 0, false, (nextS x y h T F eT eL eX eY).2.2.2) by unfold stepS; rw [if_neg h1, if_neg h2, if_pos h3])
        refine .inl ⟨by rw [z.2.2.2.2]; exact h3, z.1, z.2.1, z.2.2.1, z.2.2.2.1⟩
      · have h3' : (nextS x y h T F eT eL eX eY).2.2.2 = 0 := by simpa using h3
        refine .inr ⟨(nextS x y h T F eT eL eX eY).1, (nextS x y h T F eT eL eX eY).2.1, (nextS x y h T F eT eL eX eY).2.2.1, by rw [← h3'], ?_⟩
        by_cases h4 : F ≠ 0 ∧ blkB W H L x y (nextS x y h T F eT eL eX eY).1 (nextS x y h T F eT eL eX eY).2.1 = true
        · have z := step_is (show stepS W H L x y h T F eT eL eX eY = (x, y, (nextS x y h T F eT eL eX eY).2.2.1, true, 0) by unfold stepS; rw [if_neg h1, if_neg h2, if_neg h3, if_pos h4])
          exact ⟨z.2.2.2.2, z.2.2.1, .inl ⟨z.2.2.2.1, z.1, z.2.1, h4.1⟩⟩
        · have z := step_is (show stepS W H L x y h T F eT eL eX eY = ((nextS x y h T F eT eL eX eY).1, (nextS x y h T F eT eL eX eY).2.1, (nextS x y h T F eT eL eX eY).2.2.1, false, 0) by unfold stepS; rw [if_neg h1, if_neg h2, if_neg h3, if_neg h4])
          refine ⟨z.2.2.2.2, z.2.2.1, .inr ⟨z.2.2.2.1, z.1, z.2.1, ?_⟩⟩
          by_cases hF : F = 0
          · exact .inl hF
          · right; rw [Bool.eq_false_iff]; exact fun q => h4 ⟨hF, q⟩
/-- What is said of errors that are within the bounds. -/
theorem keep_law {X Y H T F eT eL eX eY nx ny nh : Int} (h : nextS X Y H T F eT eL eX eY = (nx, ny, nh, 0)) (e1 : clp eT 8 = eT) (e2 : clp eL 16 = eL) (e3 : clp eX 8 = eX) (e4 : clp eY 8 = eY) :
    withinS 8 16 8 1 X Y H T F nx ny nh false = true ∧ withinS 8 16 8 1 X Y H T F X Y nh true = true := by
  unfold clp at e1 e2 e3 e4
  rcases follows (bT := 8) (bL := 16) (bS := 8) (bR := 1) (X := X) (Y := Y) (H := H) (T := T) (F := F) (cT := eT) (cL := eL) (cX := eX) (cY := eY) (by omega) (by omega) (by omega) (by omega) (by omega) with ⟨e, he, hz⟩ | ⟨x, y, hh, r0, r1, r2, r3, he, _, w1, w2, _⟩
  · rw [h] at he
    simp only [Prod.mk.injEq] at he
    omega
  · rw [h] at he
    simp only [Prod.mk.injEq] at he
    obtain ⟨rfl, rfl, rfl, _⟩ := he
    exact ⟨w1, w2⟩
def x31 : XFn := ⟨51, (.seq (.reg false [O1 4 (.box 55) 0, O1 5 (.box 23) 1, O1 6 (.box 25) 2, O1 7 (.box 27) 3, ⟨(some 8), (.alloc 23 [(iV 0), (iV 0), (iV 0)]), [], none⟩, K1 9 .mv (.bool false), K1 10 .mv (iV 0)]) (.seq (.seq (.reg false [O1 13 (.loadN 3) 4, O1 14 (.call 54) 13, O1 15 (.un .not) 14]) (.cond (.t 15) (.seq (.reg false [⟨(some 16), (.build [(iV 0), (iV 0), (iV 0)] []), [], none⟩, ⟨none, (.store 3), [(.t 8), (.t 16)], none⟩, K1 9 .mv (.bool false), K1 10 .mv (iV 1)]) .ret) .skip)) (.seq (.seq (.reg false [O1 17 (.loadN 3) 4, K2 18 (.call 55) 17 (.int .u8 0), K2 19 (.bin .gtr) 18 (iV 0)]) (.cond (.t 19) (.seq (.reg false [⟨(some 20), (.build [(iV 0), (iV 0), (iV 0)] []), [], none⟩, ⟨none, (.store 3), [(.t 8), (.t 20)], none⟩, K1 9 .mv (.bool false), K1 10 .mv (iV 3)]) .ret) .skip)) (.seq (.reg false [O1 22 (.loadN 3) 5, O1 23 (.loadN 2) 6, O1 24 (.loadN 4) 7, ⟨(some 25), (.call 13), [(.t 22), (.t 23), (.t 24)], none⟩, O1 21 .mv 25, O1 26 (.ext 0) 21, O1 27 (.ext 1) 21, ⟨(some 11), (.alloc 23 [(iV 0), (iV 0), (iV 0)]), [], none⟩, ⟨none, (.store 3), [(.t 11), (.t 26)], none⟩, O1 12 .mv 27]) (.seq (.seq (.reg false [O1 28 .mv 12, K2 29 (.bin .neq) 28 (iV 0)]) (.cond (.t 29) (.seq (.reg false [⟨(some 30), (.build [(iV 0), (iV 0), (iV 0)] []), [], none⟩, O1 31 .mv 12, ⟨none, (.store 3), [(.t 8), (.t 30)], none⟩, K1 9 .mv (.bool false), O1 10 .mv 31]) .ret) .skip)) (.seq (.seq (.reg true [O1 32 (.fld 1) 6, O1 33 .load1 32, K2 34 (.bin .gtr) 33 (iV 0), O1 35 .mv 34, G1 36 (.loadN 3) 4 35 true, G1 37 (.loadN 3) 5 35 true, G1 38 (.call 38) 37 35 true, G1 39 (.loadN 3) 11 35 true, G1 40 (.call 38) 39 35 true, ⟨(some 41), (.call 28), [(.t 36), (.t 38), (.t 40)], (some (35, true))⟩, ⟨(some 42), .pick, [(.t 35), (.t 41), (.k (.bool false))], none⟩]) (.cond (.t 42) (.seq (.reg false [O1 43 (.fld 0) 5, O1 44 .load1 43, O1 45 (.fld 1) 5, O1 46 .load1 45, O1 47 (.fld 2) 11, O1 48 .load1 47, ⟨(some 49), (.build [(iV 0), (iV 0), (iV 0)] [(0, 1), (1, 1), (2, 1)]), [(.t 44), (.t 46), (.t 48)], none⟩, ⟨none, (.store 3), [(.t 8), (.t 49)], none⟩, K1 9 .mv (.bool true), K1 10 .mv (iV 0)]) .ret) .skip)) (.seq (.reg false [O1 50 (.loadN 3) 11, ⟨none, (.store 3), [(.t 8), (.t 50)], none⟩, K1 9 .mv (.bool false), K1 10 .mv (iV 0)]) .ret))))))), [(.bn 8 3), (.s 9), (.s 10)]⟩
theorem x31_ok : xfn Try.prog Try.f31 = some x31.er := by kernel_rfl
def x32 : XFn := ⟨57, (.seq (.reg false [O1 4 (.box 55) 0, O1 5 (.box 23) 1, O1 6 (.box 25) 2, O1 7 (.box 27) 3, ⟨(some 8), (.alloc 23 [(iV 0), (iV 0), (iV 0)]), [], none⟩, K1 9 .mv (.bool false), K1 10 .mv (iV 0)]) (.seq (.seq (.reg false [O1 13 (.loadN 3) 4, O1 14 (.call 58) 13, O1 15 (.un .not) 14]) (.cond (.t 15) (.seq (.reg false [⟨(some 16), (.build [(iV 0), (iV 0), (iV 0)] []), [], none⟩, ⟨none, (.store 3), [(.t 8), (.t 16)], none⟩, K1 9 .mv (.bool false), K1 10 .mv (iV 1)]) .ret) .skip)) (.seq (.seq (.reg false [O1 17 (.loadN 3) 4, O1 18 (.call 48) 17, O1 19 (.un .not) 18]) (.cond (.t 19) (.seq (.reg false [⟨(some 20), (.build [(iV 0), (iV 0), (iV 0)] []), [], none⟩, ⟨none, (.store 3), [(.t 8), (.t 20)], none⟩, K1 9 .mv (.bool false), K1 10 .mv (iV 3)]) .ret) .skip)) (.seq (.reg false [O1 22 (.loadN 3) 5, O1 23 (.loadN 2) 6, O1 24 (.loadN 4) 7, ⟨(some 25), (.call 14), [(.t 22), (.t 23), (.t 24)], none⟩, O1 21 .mv 25, O1 26 (.ext 0) 21, O1 27 (.ext 1) 21, ⟨(some 11), (.alloc 23 [(iV 0), (iV 0), (iV 0)]), [], none⟩, ⟨none, (.store 3), [(.t 11), (.t 26)], none⟩, O1 12 .mv 27]) (.seq (.seq (.reg false [O1 28 .mv 12, K2 29 (.bin .neq) 28 (iV 0)]) (.cond (.t 29) (.seq (.reg false [⟨(some 30), (.build [(iV 0), (iV 0), (iV 0)] []), [], none⟩, O1 31 .mv 12, ⟨none, (.store 3), [(.t 8), (.t 30)], none⟩, K1 9 .mv (.bool false), O1 10 .mv 31]) .ret) .skip)) (.seq (.seq (.reg false [O1 32 (.fld 1) 6, O1 33 .load1 32, K2 34 (.bin .neq) 33 (iV 0), O1 35 .mv 34, G1 36 (.loadN 3) 4 35 true, G1 37 (.fld 0) 5 35 true, G1 38 .load1 37 35 true, G1 39 (.fld 1) 5 35 true, G1 40 .load1 39 35 true, ⟨(some 41), (.build [(iV 0), (iV 0)] [(0, 1), (1, 1)]), [(.t 38), (.t 40)], (some (35, true))⟩, G1 42 (.fld 0) 11 35 true, G1 43 .load1 42 35 true, G1 44 (.fld 1) 11 35 true, G1 45 .load1 44 35 true, ⟨(some 46), (.build [(iV 0), (iV 0)] [(0, 1), (1, 1)]), [(.t 43), (.t 45)], (some (35, true))⟩, ⟨(some 47), (.call 27), [(.t 36), (.t 41), (.t 46)], (some (35, true))⟩, ⟨(some 48), .pick, [(.t 35), (.t 47), (.k (.bool false))], none⟩]) (.cond (.t 48) (.seq (.reg false [O1 49 (.fld 0) 5, O1 50 .load1 49, O1 51 (.fld 1) 5, O1 52 .load1 51, O1 53 (.fld 2) 11, O1 54 .load1 53, ⟨(some 55), (.build [(iV 0), (iV 0), (iV 0)] [(0, 1), (1, 1), (2, 1)]), [(.t 50), (.t 52), (.t 54)], none⟩, ⟨none, (.store 3), [(.t 8), (.t 55)], none⟩, K1 9 .mv (.bool true), K1 10 .mv (iV 0)]) .ret) .skip)) (.seq (.reg false [O1 56 (.loadN 3) 11, ⟨none, (.store 3), [(.t 8), (.t 56)], none⟩, K1 9 .mv (.bool false), K1 10 .mv (iV 0)]) .ret))))))), [(.bn 8 3), (.s 9), (.s 10)]⟩
theorem x32_ok : xfn Try.prog Try.f32 = some x32.er := by kernel_rfl
def x12 : XFn := ⟨34, (.seq (.reg false [K1 0 .mv (.bool false)]) (.seq (.reg false [⟨(some 6), (.build [(iV 0), (iV 0), (iV 0)] [(0, 1), (1, 1)]), [(.k (iV 100)), (.k (iV 100))], none⟩, ⟨(some 7), (.build [(iV 0), (iV 0)] [(0, 1), (1, 1)]), [(.k (iV 32)), (.k (iV 10))], none⟩, ⟨(some 8), (.build [(iV 0), (iV 0), (iV 0), (iV 0)] []), [], none⟩, ⟨(some 9), (.call 13), [(.t 6), (.t 7), (.t 8)], none⟩, O1 5 .mv 9, O1 10 (.ext 0) 5, O1 11 (.ext 1) 5, ⟨(some 1), (.alloc 23 [(iV 0), (iV 0), (iV 0)]), [], none⟩, ⟨none, (.store 3), [(.t 1), (.t 10)], none⟩, O1 2 .mv 11]) (.seq (.reg false [⟨(some 13), (.build [(iV 0), (iV 0)] [(1, 1)]), [(.k (iV 10))], none⟩, ⟨(some 14), (.build [(iV 0), (iV 0), (iV 0), (iV 0)] [(1, 1), (2, 1), (3, 1)]), [(.k (iV 5)), (.k (iV 1)), (.k (iV 1))], none⟩, ⟨(some 15), (.call 15), [(.t 13), (.t 14), (.k (iV 0))], none⟩, O1 12 .mv 15, O1 16 (.ext 0) 12, O1 17 (.ext 1) 12, ⟨(some 3), (.alloc 38 [(iV 0), (iV 0), (iV 0), (iV 0)]), [], none⟩, ⟨none, (.store 4), [(.t 3), (.t 16)], none⟩, O1 4 .mv 17]) (.seq (.reg false [O1 18 .mv 2, K2 19 (.bin .eql) 18 (iV 0), O1 20 .mv 19, G1 21 (.loadN 3) 1 20 true, ⟨(some 22), (.build [(iV 0), (iV 0), (iV 0)] [(0, 1), (1, 1), (2, 1)]), [(.k (iV 106)), (.k (iV 108)), (.k (iV 32))], (some (20, true))⟩, ⟨(some 23), (.eqA false [(.i .i64), (.i .i64), (.i .i64)]), [(.t 21), (.t 22)], (some (20, true))⟩, ⟨(some 24), .pick, [(.t 20), (.t 23), (.k (.bool false))], none⟩, O1 25 .mv 24, G1 26 .mv 4 25 true, GK 27 (.bin .eql) 26 (iV 0) 25 true, ⟨(some 28), .pick, [(.t 25), (.t 27), (.k (.bool false))], none⟩, O1 29 .mv 28, G1 30 (.loadN 4) 3 29 true, ⟨(some 31), (.build [(iV 0), (iV 0), (iV 0), (iV 0)] [(0, 1), (1, 1), (2, 1), (3, 1)]), [(.k (iV 4)), (.k (iV (-1))), (.k (iV 16)), (.k (iV 1))], (some (29, true))⟩, ⟨(some 32), (.eqA false [(.i .i64), (.i .i64), (.i .i64), (.i .i64)]), [(.t 30), (.t 31)], (some (29, true))⟩, ⟨(some 33), .pick, [(.t 29), (.t 32), (.k (.bool false))], none⟩, O1 0 .mv 33]) .ret)))), [(.s 0)]⟩
theorem x12_ok : xfn Try.prog Try.f12 = some x12.er := by kernel_rfl
def x26 : XFn := ⟨7, (.seq (.reg false [O1 1 (.box 55) 0, K1 2 .mv (.bool false)]) (.seq (.reg false [O1 3 (.fld 2) 1, O1 4 .load1 3, O1 5 .lenS 4, K2 6 (.bin .leq) 5 (iV 4096), O1 2 .mv 6]) .ret)), [(.s 2)]⟩
theorem x26_ok : xfn Try.prog Try.f26 = some x26.er := by kernel_rfl
def x8 : XFn := ⟨49, (.seq (.reg false [O1 3 (.box 55) 0, O1 4 (.box 57) 1, O1 5 (.box 57) 2, K1 6 .mv (.bool false)]) (.seq (.seq (.reg false [⟨(some 9), (.call 12), [], none⟩, O1 10 (.un .not) 9, O1 11 .mv 10, G1 12 (.loadN 3) 3 11 false, G1 13 (.call 26) 12 11 false, G1 14 (.un .not) 13 11 false, ⟨(some 15), .pick, [(.t 11), (.k (.bool true)), (.t 14)], none⟩]) (.cond (.t 15) (.seq (.reg false [⟨(some 16), (.call 12), [], none⟩, O1 6 .mv 16]) .ret) .skip)) (.seq (.regD [O1 17 (.fld 0) 3, O1 18 .load1 17, O1 19 (.fld 1) 3, O1 20 .load1 19, ⟨(some 21), (.slit 5 0 1 [] []), [], none⟩, O1 22 (.fld 2) 3, O1 23 .load1 22, O2 24 (.app 5 1 1) 21 23, ⟨(some 25), (.build [(iV 0), (iV 0), (.slice none 0 0)] [(0, 1), (1, 1), (2, 1)]), [(.t 18), (.t 20), (.t 24)], none⟩, ⟨(some 7), (.alloc 55 [(iV 0), (iV 0), (.slice none 0 0)]), [], none⟩, ⟨none, (.store 3), [(.t 7), (.t 25)], none⟩] [[], [0], [], [2], [], [], [5], [4, 6, 5], [1, 0, 3, 2, 7, 4, 6, 5], [], [9, 8, 1, 0, 3, 2, 7, 4, 6, 5]]) (.seq (.reg false [O1 26 (.loadN 3) 3, O1 27 (.loadN 2) 4, O1 28 (.loadN 2) 5, ⟨(some 29), (.call 27), [(.t 26), (.t 27), (.t 28)], none⟩, O1 8 .mv 29]) (.seq (.reg false [O1 30 (.loadN 3) 7, O1 31 (.loadN 2) 4, O1 32 (.loadN 2) 5, ⟨(some 33), (.call 28), [(.t 30), (.t 31), (.t 32)], none⟩, O1 34 .mv 8, O2 35 (.binb .eql) 33 34, O1 36 .mv 35, G1 37 (.loadN 3) 7 36 true, G1 38 (.loadN 2) 5 36 true, G1 39 (.loadN 2) 4 36 true, ⟨(some 40), (.call 28), [(.t 37), (.t 38), (.t 39)], (some (36, true))⟩, G1 41 .mv 8 36 true, G2 42 (.binb .eql) 40 41 36 true, ⟨(some 43), .pick, [(.t 36), (.t 42), (.k (.bool false))], none⟩, O1 44 .mv 43, G1 45 (.loadN 3) 7 44 true, G1 46 (.loadN 3) 3 44 true, G2 47 (.call 29) 45 46 44 true, ⟨(some 48), .pick, [(.t 44), (.t 47), (.k (.bool false))], none⟩, O1 6 .mv 48]) .ret))))), [(.s 6)]⟩
theorem x8_ok : xfn Try.prog Try.f8 = some x8.er := by kernel_rfl
def x9 : XFn := ⟨73, (.seq (.reg false [O1 3 (.box 55) 0, O1 4 (.box 61) 1, O1 5 (.box 62) 2, K1 6 .mv (.bool false)]) (.seq (.seq (.reg false [⟨(some 11), (.call 12), [], none⟩, O1 12 (.un .not) 11, O1 13 .mv 12, G1 14 (.loadN 3) 3 13 false, G1 15 (.call 26) 14 13 false, G1 16 (.un .not) 15 13 false, ⟨(some 17), .pick, [(.t 13), (.k (.bool true)), (.t 16)], none⟩]) (.cond (.t 17) (.seq (.reg false [⟨(some 18), (.call 12), [], none⟩, O1 6 .mv 18]) .ret) .skip)) (.seq (.regD [K2 19 (.ixA 2 2) 4 (iV 0), O1 20 (.loadN 2) 19, K2 21 (.ixA 2 2) 4 (iV 1), O1 22 (.loadN 2) 21, ⟨(some 7), (.alloc 57 [(iV 0), (iV 0)]), [], none⟩, ⟨(some 8), (.alloc 57 [(iV 0), (iV 0)]), [], none⟩, ⟨none, (.store 2), [(.t 7), (.t 20)], none⟩, ⟨none, (.store 2), [(.t 8), (.t 22)], none⟩] [[], [0], [], [2], [], [], [4, 1, 0, 5], [5, 3, 2, 6, 4, 1, 0]]) (.seq (.reg false [O1 23 (.loadN 3) 3, O1 24 (.loadN 2) 7, O1 25 (.loadN 2) 8, ⟨(some 26), (.call 28), [(.t 23), (.t 24), (.t 25)], none⟩, O1 9 .mv 26]) (.seq (.seq (.reg false [O1 27 .mv 9, O1 28 (.un .not) 27, O1 29 .mv 28, G1 30 (.loadN 3) 3 29 true, G1 31 (.loadN 2) 7 29 true, G1 32 (.loadN 2) 7 29 true, ⟨(some 33), (.call 28), [(.t 30), (.t 31), (.t 32)], (some (29, true))⟩, G1 34 .mv 33 29 true, G1 35 (.loadN 3) 3 34 false, G1 36 (.loadN 2) 8 34 false, G1 37 (.loadN 2) 8 34 false, ⟨(some 38), (.call 28), [(.t 35), (.t 36), (.t 37)], (some (34, false))⟩, ⟨(some 39), .pick, [(.t 34), (.k (.bool true)), (.t 38)], (some (29, true))⟩, ⟨(some 40), .pick, [(.t 29), (.t 39), (.k (.bool false))], none⟩]) (.cond (.t 40) (.seq (.reg false [K1 6 .mv (.bool false)]) .ret) .skip)) (.seq (.seq (.reg false [O1 41 .mv 9, O1 42 .mv 41, G1 43 (.loadN 3) 3 42 false, G1 44 (.loadN 2) 5 42 false, G2 45 (.call 30) 43 44 42 false, G1 46 (.un .not) 45 42 false, ⟨(some 47), .pick, [(.t 42), (.k (.bool true)), (.t 46)], none⟩]) (.cond (.t 47) (.seq (.reg false [K1 6 .mv (.bool true)]) .ret) .skip)) (.seq (.regD [O1 48 (.fld 0) 3, O1 49 .load1 48, O1 50 (.fld 1) 3, O1 51 .load1 50, ⟨(some 52), (.slit 5 0 1 [] []), [], none⟩, O1 53 (.fld 2) 3, O1 54 .load1 53, O2 55 (.app 5 1 1) 52 54, ⟨(some 56), (.build [(iV 0), (iV 0), (.slice none 0 0)] [(0, 1), (1, 1), (2, 1)]), [(.t 49), (.t 51), (.t 55)], none⟩, ⟨(some 10), (.alloc 55 [(iV 0), (iV 0), (.slice none 0 0)]), [], none⟩, ⟨none, (.store 3), [(.t 10), (.t 56)], none⟩] [[], [0], [], [2], [], [], [5], [4, 6, 5], [1, 0, 3, 2, 7, 4, 6, 5], [], [9, 8, 1, 0, 3, 2, 7, 4, 6, 5]]) (.seq (.reg false [O1 57 (.fld 2) 10, O1 58 .load1 57, O1 59 (.fld 1) 5, O1 60 .load1 59, O1 61 (.fld 0) 3, O1 62 .load1 61, O2 63 (.bin .mul) 60 62, O1 64 (.fld 0) 5, O1 65 .load1 64, O2 66 (.bin .add) 63 65, O2 67 (.ixS 1) 58 66, ⟨none, (.store 1), [(.t 67), (.k (.int .u8 1))], none⟩]) (.seq (.reg false [O1 68 (.loadN 3) 10, O1 69 (.loadN 2) 7, O1 70 (.loadN 2) 8, ⟨(some 71), (.call 28), [(.t 68), (.t 69), (.t 70)], none⟩, O1 72 (.un .not) 71, O1 6 .mv 72]) .ret))))))))), [(.s 6)]⟩
theorem x9_ok : xfn Try.prog Try.f9 = some x9.er := by kernel_rfl
def x10 : XFn := ⟨56, (.seq (.reg false [O1 3 (.box 55) 0, O1 4 (.box 23) 1, O1 5 (.box 29) 2, K1 6 .mv (.bool false)]) (.seq (.seq (.reg false [⟨(some 13), (.call 12), [], none⟩, O1 14 (.un .not) 13, O1 15 .mv 14, G1 16 (.loadN 3) 3 15 false, G1 17 (.call 26) 16 15 false, G1 18 (.un .not) 17 15 false, ⟨(some 19), .pick, [(.t 15), (.k (.bool true)), (.t 18)], none⟩]) (.cond (.t 19) (.seq (.reg false [⟨(some 20), (.call 12), [], none⟩, O1 6 .mv 20]) .ret) .skip)) (.seq (.reg false [O1 22 (.loadN 3) 3, O1 23 (.loadN 3) 4, O1 24 (.fld 0) 5, O1 25 (.loadN 2) 24, O1 26 (.fld 2) 5, O1 27 (.loadN 4) 26, ⟨(some 28), (.call 31), [(.t 22), (.t 23), (.t 25), (.t 27)], none⟩, O1 21 .mv 28, O1 29 (.ext 0) 21, O1 30 (.ext 1) 21, O1 31 (.ext 2) 21, ⟨(some 7), (.alloc 23 [(iV 0), (iV 0), (iV 0)]), [], none⟩, ⟨none, (.store 3), [(.t 7), (.t 29)], none⟩, O1 8 .mv 30, O1 9 .mv 31]) (.seq (.reg false [O1 33 (.loadN 3) 3, O1 34 (.loadN 3) 4, O1 35 (.fld 0) 5, O1 36 (.loadN 2) 35, O1 37 (.fld 2) 5, O1 38 (.loadN 4) 37, ⟨(some 39), (.call 32), [(.t 33), (.t 34), (.t 36), (.t 38)], none⟩, O1 32 .mv 39, O1 40 (.ext 0) 32, O1 41 (.ext 1) 32, O1 42 (.ext 2) 32, ⟨(some 10), (.alloc 23 [(iV 0), (iV 0), (iV 0)]), [], none⟩, ⟨none, (.store 3), [(.t 10), (.t 40)], none⟩, O1 11 .mv 41, O1 12 .mv 42]) (.seq (.reg false [O1 43 (.loadN 3) 7, O1 44 (.loadN 3) 10, ⟨(some 45), (.eqA false [(.i .i64), (.i .i64), (.i .i64)]), [(.t 43), (.t 44)], none⟩, O1 46 .mv 45, G1 47 .mv 8 46 true, G1 48 .mv 11 46 true, G2 49 (.binb .eql) 47 48 46 true, ⟨(some 50), .pick, [(.t 46), (.t 49), (.k (.bool false))], none⟩, O1 51 .mv 50, G1 52 .mv 9 51 true, G1 53 .mv 12 51 true, G2 54 (.bin .eql) 52 53 51 true, ⟨(some 55), .pick, [(.t 51), (.t 54), (.k (.bool false))], none⟩, O1 6 .mv 55]) .ret))))), [(.s 6)]⟩
theorem x10_ok : xfn Try.prog Try.f10 = some x10.er := by kernel_rfl
def x11 : XFn := ⟨140, (.seq (.reg false [O1 3 (.box 55) 0, O1 4 (.box 23) 1, O1 5 (.box 29) 2, K1 6 .mv (.bool false)]) (.seq (.seq (.reg false [⟨(some 17), (.call 12), [], none⟩, O1 18 (.un .not) 17, O1 19 .mv 18, G1 20 (.loadN 3) 3 19 false, G1 21 (.call 26) 20 19 false, G1 22 (.un .not) 21 19 false, ⟨(some 23), .pick, [(.t 19), (.k (.bool true)), (.t 22)], none⟩]) (.cond (.t 23) (.seq (.reg false [⟨(some 24), (.call 12), [], none⟩, O1 6 .mv 24]) .ret) .skip)) (.seq (.reg false [O1 26 (.loadN 3) 3, O1 27 (.loadN 3) 4, O1 28 (.fld 0) 5, O1 29 (.loadN 2) 28, O1 30 (.fld 2) 5, O1 31 (.loadN 4) 30, ⟨(some 32), (.call 31), [(.t 26), (.t 27), (.t 29), (.t 31)], none⟩, O1 25 .mv 32, O1 33 (.ext 0) 25, O1 34 (.ext 1) 25, O1 35 (.ext 2) 25, ⟨(some 7), (.alloc 23 [(iV 0), (iV 0), (iV 0)]), [], none⟩, ⟨none, (.store 3), [(.t 7), (.t 33)], none⟩, O1 8 .mv 34, O1 9 .mv 35]) (.seq (.seq (.reg false [O1 36 .mv 9, K2 37 (.bin .neq) 36 (iV 0)]) (.cond (.t 37) (.seq (.reg false [O1 38 .mv 8, O1 39 (.un .not) 38, O1 40 .mv 39, G1 41 (.loadN 3) 7 40 true, ⟨(some 42), (.build [(iV 0), (iV 0), (iV 0)] []), [], (some (40, true))⟩, ⟨(some 43), (.eqA false [(.i .i64), (.i .i64), (.i .i64)]), [(.t 41), (.t 42)], (some (40, true))⟩, ⟨(some 44), .pick, [(.t 40), (.t 43), (.k (.bool false))], none⟩, O1 6 .mv 44]) .ret) .skip)) (.seq (.regD [O1 45 (.fld 0) 4, O1 46 .load1 45, O1 47 (.fld 1) 4, O1 48 .load1 47, ⟨(some 49), (.build [(iV 0), (iV 0)] [(0, 1), (1, 1)]), [(.t 46), (.t 48)], none⟩, O1 50 (.fld 0) 7, O1 51 .load1 50, O1 52 (.fld 1) 7, O1 53 .load1 52, ⟨(some 54), (.build [(iV 0), (iV 0)] [(0, 1), (1, 1)]), [(.t 51), (.t 53)], none⟩, ⟨(some 10), (.alloc 57 [(iV 0), (iV 0)]), [], none⟩, ⟨(some 11), (.alloc 57 [(iV 0), (iV 0)]), [], none⟩, ⟨none, (.store 2), [(.t 10), (.t 49)], none⟩, ⟨none, (.store 2), [(.t 11), (.t 54)], none⟩] [[], [0], [], [2], [1, 0, 3, 2], [], [5], [], [7], [6, 5, 8, 7], [], [], [10, 4, 1, 0, 3, 2, 11], [11, 9, 6, 5, 8, 7, 12, 10, 4, 1, 0, 3, 2]]) (.seq (.seq (.reg false [O1 55 (.loadN 3) 3, O1 56 (.loadN 2) 10, O1 57 (.loadN 2) 10, ⟨(some 58), (.call 28), [(.t 55), (.t 56), (.t 57)], none⟩, O1 59 (.un .not) 58, O1 60 .mv 59, G1 61 (.loadN 3) 3 60 true, G1 62 (.loadN 2) 11 60 true, G1 63 (.loadN 2) 11 60 true, ⟨(some 64), (.call 28), [(.t 61), (.t 62), (.t 63)], (some (60, true))⟩, ⟨(some 65), .pick, [(.t 60), (.t 64), (.k (.bool false))], none⟩]) (.cond (.t 65) (.seq (.reg false [K1 6 .mv (.bool false)]) .ret) .skip)) (.seq (.reg false [O1 67 (.loadN 3) 4, O1 68 (.fld 0) 5, O1 69 (.loadN 2) 68, O1 70 (.fld 2) 5, O1 71 (.loadN 4) 70, ⟨(some 72), (.call 13), [(.t 67), (.t 69), (.t 71)], none⟩, O1 66 .mv 72, O1 73 (.ext 0) 66, O1 74 (.ext 1) 66, ⟨(some 12), (.alloc 23 [(iV 0), (iV 0), (iV 0)]), [], none⟩, ⟨none, (.store 3), [(.t 12), (.t 73)], none⟩, O1 13 .mv 74]) (.seq (.seq (.reg false [O1 75 .mv 13, K2 76 (.bin .neq) 75 (iV 0), O1 77 .mv 76, G1 78 (.fld 2) 12 77 false, G1 79 .load1 78 77 false, G1 80 (.fld 2) 7 77 false, G1 81 .load1 80 77 false, G2 82 (.bin .neq) 79 81 77 false, ⟨(some 83), .pick, [(.t 77), (.k (.bool true)), (.t 82)], none⟩, O1 84 .mv 83, G1 85 .mv 8 84 false, G1 86 .mv 85 84 false, G1 87 (.loadN 2) 11 86 true, G1 88 (.loadN 2) 10 86 true, ⟨(some 89), (.eqA true [(.i .i64), (.i .i64)]), [(.t 87), (.t 88)], (some (86, true))⟩, ⟨(some 90), .pick, [(.t 86), (.t 89), (.k (.bool false))], (some (84, false))⟩, ⟨(some 91), .pick, [(.t 84), (.k (.bool true)), (.t 90)], none⟩, O1 92 .mv 91, G1 93 .mv 8 92 false, G1 94 (.un .not) 93 92 false, G1 95 .mv 94 92 false, G1 96 (.loadN 3) 12 95 true, G1 97 (.loadN 3) 7 95 true, ⟨(some 98), (.eqA true [(.i .i64), (.i .i64), (.i .i64)]), [(.t 96), (.t 97)], (some (95, true))⟩, ⟨(some 99), .pick, [(.t 95), (.t 98), (.k (.bool false))], (some (92, false))⟩, ⟨(some 100), .pick, [(.t 92), (.k (.bool true)), (.t 99)], none⟩, O1 101 .mv 100, G1 102 (.fld 0) 5 101 false, G1 103 (.fld 1) 102 101 false, G1 104 .load1 103 101 false, GK 105 (.bin .eql) 104 (iV 0) 101 false, G1 106 .mv 105 101 false, G1 107 .mv 8 106 true, G1 108 .mv 107 106 true, G1 109 (.loadN 2) 11 108 false, G1 110 (.loadN 2) 10 108 false, ⟨(some 111), (.eqA true [(.i .i64), (.i .i64)]), [(.t 109), (.t 110)], (some (108, false))⟩, ⟨(some 112), .pick, [(.t 108), (.k (.bool true)), (.t 111)], (some (106, true))⟩, ⟨(some 113), .pick, [(.t 106), (.t 112), (.k (.bool false))], (some (101, false))⟩, ⟨(some 114), .pick, [(.t 101), (.k (.bool true)), (.t 113)], none⟩]) (.cond (.t 114) (.seq (.reg false [K1 6 .mv (.bool false)]) .ret) .skip)) (.seq (.reg false [⟨(some 115), (.build [(iV 0), (iV 0), (iV 0), (iV 0)] [(0, 1), (1, 1), (2, 1), (3, 1)]), [(.k (iV 8)), (.k (iV 16)), (.k (iV 8)), (.k (iV 1))], none⟩, ⟨(some 14), (.alloc 36 [(iV 0), (iV 0), (iV 0), (iV 0)]), [], none⟩, ⟨none, (.store 4), [(.t 14), (.t 115)], none⟩]) (.seq (.reg false [O1 117 (.loadN 4) 14, O1 118 (.fld 2) 5, O1 119 (.loadN 4) 118, O2 120 (.call 17) 117 119, O1 116 .mv 120, O1 121 (.ext 0) 116, O1 122 (.ext 1) 116, ⟨(some 15), (.alloc 27 [(iV 0), (iV 0), (iV 0), (iV 0)]), [], none⟩, ⟨none, (.store 4), [(.t 15), (.t 121)], none⟩, O1 16 .mv 122]) (.seq (.reg false [O1 123 .mv 16, K2 124 (.bin .eql) 123 (iV 0), O1 125 .mv 124, G1 126 (.loadN 4) 15 125 true, G1 127 (.fld 2) 5 125 true, G1 128 (.loadN 4) 127 125 true, ⟨(some 129), (.eqA true [(.i .i64), (.i .i64), (.i .i64), (.i .i64)]), [(.t 126), (.t 128)], (some (125, true))⟩, G1 130 .mv 129 125 true, G1 131 (.loadN 4) 14 130 false, G1 132 (.loadN 3) 4 130 false, G1 133 (.fld 0) 5 130 false, G1 134 (.loadN 2) 133 130 false, G1 135 (.loadN 3) 7 130 false, G1 136 .mv 8 130 false, ⟨(some 137), (.call 23), [(.t 131), (.t 132), (.t 134), (.t 135), (.t 136)], (some (130, false))⟩, ⟨(some 138), .pick, [(.t 130), (.k (.bool true)), (.t 137)], (some (125, true))⟩, ⟨(some 139), .pick, [(.t 125), (.t 138), (.k (.bool false))], none⟩, O1 6 .mv 139]) .ret))))))))))), [(.s 6)]⟩
theorem x11_ok : xfn Try.prog Try.f11 = some x11.er := by kernel_rfl
/-- wayfinder/drive.Step -/
noncomputable def g31 : Con := fun args_ E_ nn_ => match args_ with
  | [.a [.v (.int .i64 p_W), .v (.int .i64 p_H), .n p_Cells], .a [.v (.int .i64 at_X), .v (.int .i64 at_Y), .v (.int .i64 at_H)], .a [.v (.int .i64 c_Turn), .v (.int .i64 c_Forward)], .a [.v (.int .i64 e_Turn), .v (.int .i64 e_Length), .v (.int .i64 e_X), .v (.int .i64 e_Y)]] => (match rowOf E_ p_Cells with
    | some (p_Cells_n, p_Cells_s, p_Cells_f) => some (.q (isRow eU8 p_Cells_n p_Cells_s p_Cells_f ∧ u8s (decL eU8 p_Cells_n p_Cells_f)) (.t [.a [.v (.int .i64 (stX p_W p_H (decL eU8 p_Cells_n p_Cells_f) at_X at_Y at_H c_Turn c_Forward e_Turn e_Length e_X e_Y)), .v (.int .i64 (stY p_W p_H (decL eU8 p_Cells_n p_Cells_f) at_X at_Y at_H c_Turn c_Forward e_Turn e_Length e_X e_Y)), .v (.int .i64 (stH p_W p_H (decL eU8 p_Cells_n p_Cells_f) at_X at_Y at_H c_Turn c_Forward e_Turn e_Length e_X e_Y))], .c (.v (.bool (stB p_W p_H (decL eU8 p_Cells_n p_Cells_f) at_X at_Y at_H c_Turn c_Forward e_Turn e_Length e_X e_Y))), .c (.v (.int .i64 (stE p_W p_H (decL eU8 p_Cells_n p_Cells_f) at_X at_Y at_H c_Turn c_Forward e_Turn e_Length e_X e_Y)))]))
    | none => none)
  | _ => none
theorem c31 : COk Try.prog 31 g31 := by
  refine cok_q Try.func31 x31_ok (by kernel_rfl) (cok_tab (cok_cons c54 (cok_cons c55 (cok_cons c13 (cok_cons c28 (cok_cons c38 cok_nil)))))) ?_
  intro args_ E_ nn_ cr_ hg_
  unfold g31 at hg_
  split at hg_
  · rename_i p_W p_H p_Cells at_X at_Y at_H c_Turn c_Forward e_Turn e_Length e_X e_Y
    split at hg_
    · rename_i p_Cells_n p_Cells_s p_Cells_f h_p_Cells
      cases hg_
      refine ⟨_, _, rfl, 1, [p_Cells], [.a [.v (.int .i64 p_W), .v (.int .i64 p_H), .n 0], .a [.v (.int .i64 at_X), .v (.int .i64 at_Y), .v (.int .i64 at_H)], .a [.v (.int .i64 c_Turn), .v (.int .i64 c_Forward)], .a [.v (.int .i64 e_Turn), .v (.int .i64 e_Length), .v (.int .i64 e_X), .v (.int .i64 e_Y)]], [(0, .ro (decL eU8 p_Cells_n p_Cells_f).length eU8.sz (rowF eU8 (decL eU8 p_Cells_n p_Cells_f)))], .t [.a [.v (.int .i64 (stX p_W p_H (decL eU8 p_Cells_n p_Cells_f) at_X at_Y at_H c_Turn c_Forward e_Turn e_Length e_X e_Y)), .v (.int .i64 (stY p_W p_H (decL eU8 p_Cells_n p_Cells_f) at_X at_Y at_H c_Turn c_Forward e_Turn e_Length e_X e_Y)), .v (.int .i64 (stH p_W p_H (decL eU8 p_Cells_n p_Cells_f) at_X at_Y at_H c_Turn c_Forward e_Turn e_Length e_X e_Y))], .c (.v (.bool (stB p_W p_H (decL eU8 p_Cells_n p_Cells_f) at_X at_Y at_H c_Turn c_Forward e_Turn e_Length e_X e_Y))), .c (.v (.int .i64 (stE p_W p_H (decL eU8 p_Cells_n p_Cells_f) at_X at_Y at_H c_Turn c_Forward e_Turn e_Length e_X e_Y)))], rfl, rfl, by simp only [push_cast, Nat.reduceLT, Nat.reduceAdd], by simp only [push_cast, Nat.reduceLT, Nat.reduceAdd], by simp only [push_cast, Nat.reduceLT, Nat.reduceAdd], rfl, ⟨inE0_row h_p_Cells, trivial⟩, rfl, ?_⟩
      intro hpre hlen
      obtain ⟨i_p_Cells, hpre⟩ := hpre
      refine ⟨⟨inE_row h_p_Cells i_p_Cells, trivial⟩, ?_⟩
      have z_p_Cells := lens_row (E := eU8) hlen h_p_Cells
      clear i_p_Cells
      generalize decL eU8 p_Cells_n p_Cells_f = p_CellsL at *
      clear h_p_Cells
      simp (config := {maxSteps := 10000000}) only [x31, push_cast, Nat.reduceAdd, Nat.reduceSub, Nat.reduceLeDiff, Nat.reduceEqDiff, Nat.reduceBEq, Nat.reduceMul, Nat.reduceLT, reduceIte, reduceCtorEq, Int.reduceLE, Int.reduceLT, Int.reduceEq, Int.reduceMul, Int.reduceAdd, Int.reduceSub, Int.reduceNeg, Int.reduceToNat, Int.reduceNe, g54, g55, g13, g28, g38]
      refine ⟨fun h => ?_, fun h => ⟨fun h2 => ?_, fun h2 => ⟨fun h3 => ?_, fun h3 => ?_⟩⟩⟩
      · have z := step_is (show stepS p_W p_H p_CellsL at_X at_Y at_H c_Turn c_Forward e_Turn e_Length e_X e_Y = _ from if_pos h)
        exact ⟨⟨z.1.symm, z.2.1.symm, z.2.2.1.symm⟩, z.2.2.2.1.symm, z.2.2.2.2.symm⟩
      · have z := step_is (show stepS p_W p_H p_CellsL at_X at_Y at_H c_Turn c_Forward e_Turn e_Length e_X e_Y = (0, 0, 0, false, 3) by unfold stepS; rw [if_neg (by rw [h]; decide), if_pos (by rw [Bool.eq_false_iff]; exact fun q => ((build_iff hpre).1 q).2 h2)])
        exact ⟨⟨z.1.symm, z.2.1.symm, z.2.2.1.symm⟩, z.2.2.2.1.symm, z.2.2.2.2.symm⟩
      · have z := step_is (show stepS p_W p_H p_CellsL at_X at_Y at_H c_Turn c_Forward e_Turn e_Length e_X e_Y = (0, 0, 0, false, (nextS at_X at_Y at_H c_Turn c_Forward e_Turn e_Length e_X e_Y).2.2.2) by unfold stepS; rw [if_neg (by rw [h]; decide), if_neg (by rw [(build_iff hpre).2 ⟨h, h2⟩]; decide), if_pos h3])
        exact ⟨⟨z.1.symm, z.2.1.symm, z.2.2.1.symm⟩, z.2.2.2.1.symm, z.2.2.2.2.symm⟩
      have hF : nextS at_X at_Y at_H c_Turn c_Forward e_Turn e_Length e_X e_Y = nextS at_X at_Y at_H c_Turn c_Forward e_Turn e_Length e_X e_Y := rfl
      refine ⟨fun h4 => ⟨h4, hpre⟩, fun h4 h5 => ?_, fun h4 => ?_⟩
      · have z := step_is (show stepS p_W p_H p_CellsL at_X at_Y at_H c_Turn c_Forward e_Turn e_Length e_X e_Y = (at_X, at_Y, (nextS at_X at_Y at_H c_Turn c_Forward e_Turn e_Length e_X e_Y).2.2.1, true, 0) by unfold stepS; rw [if_neg (by rw [h]; decide), if_neg (by rw [(build_iff hpre).2 ⟨h, h2⟩]; decide), if_neg (by simpa using h3), if_pos ⟨by omega, h5⟩])
        exact ⟨⟨z.1.symm, z.2.1.symm, z.2.2.1.symm⟩, z.2.2.2.1.symm, z.2.2.2.2.symm⟩
      · have z := step_is (show stepS p_W p_H p_CellsL at_X at_Y at_H c_Turn c_Forward e_Turn e_Length e_X e_Y = ((nextS at_X at_Y at_H c_Turn c_Forward e_Turn e_Length e_X e_Y).1, (nextS at_X at_Y at_H c_Turn c_Forward e_Turn e_Length e_X e_Y).2.1, (nextS at_X at_Y at_H c_Turn c_Forward e_Turn e_Length e_X e_Y).2.2.1, false, 0) by unfold stepS; rw [if_neg (by rw [h]; decide), if_neg (by rw [(build_iff hpre).2 ⟨h, h2⟩]; decide), if_neg (by simpa using h3), if_neg (fun q => by rcases Int.lt_or_le 0 c_Forward with w | w; rw [decide_eq_true w, q.2] at h4; cases h4; exact absurd (nextS_F h3) (by omega))])
        exact ⟨⟨z.1.symm, z.2.1.symm, z.2.2.1.symm⟩, z.2.2.2.1.symm, z.2.2.2.2.symm⟩
    · cases hg_
  · cases hg_
/-- wayfinder/wayfinderref11.Step -/
noncomputable def g32 : Con := fun args_ E_ nn_ => match args_ with
  | [.a [.v (.int .i64 p_W), .v (.int .i64 p_H), .n p_Cells], .a [.v (.int .i64 at_X), .v (.int .i64 at_Y), .v (.int .i64 at_H)], .a [.v (.int .i64 c_Turn), .v (.int .i64 c_Forward)], .a [.v (.int .i64 e_Turn), .v (.int .i64 e_Length), .v (.int .i64 e_X), .v (.int .i64 e_Y)]] => (match rowOf E_ p_Cells with
    | some (p_Cells_n, p_Cells_s, p_Cells_f) => some (.q (isRow eU8 p_Cells_n p_Cells_s p_Cells_f ∧ u8s (decL eU8 p_Cells_n p_Cells_f)) (.t [.a [.v (.int .i64 (stX p_W p_H (decL eU8 p_Cells_n p_Cells_f) at_X at_Y at_H c_Turn c_Forward e_Turn e_Length e_X e_Y)), .v (.int .i64 (stY p_W p_H (decL eU8 p_Cells_n p_Cells_f) at_X at_Y at_H c_Turn c_Forward e_Turn e_Length e_X e_Y)), .v (.int .i64 (stH p_W p_H (decL eU8 p_Cells_n p_Cells_f) at_X at_Y at_H c_Turn c_Forward e_Turn e_Length e_X e_Y))], .c (.v (.bool (stB p_W p_H (decL eU8 p_Cells_n p_Cells_f) at_X at_Y at_H c_Turn c_Forward e_Turn e_Length e_X e_Y))), .c (.v (.int .i64 (stE p_W p_H (decL eU8 p_Cells_n p_Cells_f) at_X at_Y at_H c_Turn c_Forward e_Turn e_Length e_X e_Y)))]))
    | none => none)
  | _ => none
theorem c32 : COk Try.prog 32 g32 := by
  refine cok_q Try.func32 x32_ok (by kernel_rfl) (cok_tab (cok_cons c58 (cok_cons c48 (cok_cons c14 (cok_cons c27 cok_nil))))) ?_
  intro args_ E_ nn_ cr_ hg_
  unfold g32 at hg_
  split at hg_
  · rename_i p_W p_H p_Cells at_X at_Y at_H c_Turn c_Forward e_Turn e_Length e_X e_Y
    split at hg_
    · rename_i p_Cells_n p_Cells_s p_Cells_f h_p_Cells
      cases hg_
      refine ⟨_, _, rfl, 1, [p_Cells], [.a [.v (.int .i64 p_W), .v (.int .i64 p_H), .n 0], .a [.v (.int .i64 at_X), .v (.int .i64 at_Y), .v (.int .i64 at_H)], .a [.v (.int .i64 c_Turn), .v (.int .i64 c_Forward)], .a [.v (.int .i64 e_Turn), .v (.int .i64 e_Length), .v (.int .i64 e_X), .v (.int .i64 e_Y)]], [(0, .ro (decL eU8 p_Cells_n p_Cells_f).length eU8.sz (rowF eU8 (decL eU8 p_Cells_n p_Cells_f)))], .t [.a [.v (.int .i64 (stX p_W p_H (decL eU8 p_Cells_n p_Cells_f) at_X at_Y at_H c_Turn c_Forward e_Turn e_Length e_X e_Y)), .v (.int .i64 (stY p_W p_H (decL eU8 p_Cells_n p_Cells_f) at_X at_Y at_H c_Turn c_Forward e_Turn e_Length e_X e_Y)), .v (.int .i64 (stH p_W p_H (decL eU8 p_Cells_n p_Cells_f) at_X at_Y at_H c_Turn c_Forward e_Turn e_Length e_X e_Y))], .c (.v (.bool (stB p_W p_H (decL eU8 p_Cells_n p_Cells_f) at_X at_Y at_H c_Turn c_Forward e_Turn e_Length e_X e_Y))), .c (.v (.int .i64 (stE p_W p_H (decL eU8 p_Cells_n p_Cells_f) at_X at_Y at_H c_Turn c_Forward e_Turn e_Length e_X e_Y)))], rfl, rfl, by simp only [push_cast, Nat.reduceLT, Nat.reduceAdd], by simp only [push_cast, Nat.reduceLT, Nat.reduceAdd], by simp only [push_cast, Nat.reduceLT, Nat.reduceAdd], rfl, ⟨inE0_row h_p_Cells, trivial⟩, rfl, ?_⟩
      intro hpre hlen
      obtain ⟨i_p_Cells, hpre⟩ := hpre
      refine ⟨⟨inE_row h_p_Cells i_p_Cells, trivial⟩, ?_⟩
      have z_p_Cells := lens_row (E := eU8) hlen h_p_Cells
      clear i_p_Cells
      generalize decL eU8 p_Cells_n p_Cells_f = p_CellsL at *
      clear h_p_Cells
      simp (config := {maxSteps := 10000000}) only [x32, push_cast, Nat.reduceAdd, Nat.reduceSub, Nat.reduceLeDiff, Nat.reduceEqDiff, Nat.reduceBEq, Nat.reduceMul, Nat.reduceLT, reduceIte, reduceCtorEq, Int.reduceLE, Int.reduceLT, Int.reduceEq, Int.reduceMul, Int.reduceAdd, Int.reduceSub, Int.reduceNeg, Int.reduceToNat, Int.reduceNe, g58, g48, g14, g27]
      refine ⟨fun h => ?_, fun h => ⟨fun h2 => ?_, fun h2 => ⟨fun h3 => ?_, fun h3 => ?_⟩⟩⟩
      · have z := step_is (show stepS p_W p_H p_CellsL at_X at_Y at_H c_Turn c_Forward e_Turn e_Length e_X e_Y = _ from if_pos h)
        exact ⟨⟨z.1.symm, z.2.1.symm, z.2.2.1.symm⟩, z.2.2.2.1.symm, z.2.2.2.2.symm⟩
      · have z := step_is (show stepS p_W p_H p_CellsL at_X at_Y at_H c_Turn c_Forward e_Turn e_Length e_X e_Y = (0, 0, 0, false, 3) by unfold stepS; rw [if_neg (by rw [h]; decide), if_pos h2])
        exact ⟨⟨z.1.symm, z.2.1.symm, z.2.2.1.symm⟩, z.2.2.2.1.symm, z.2.2.2.2.symm⟩
      · have z := step_is (show stepS p_W p_H p_CellsL at_X at_Y at_H c_Turn c_Forward e_Turn e_Length e_X e_Y = (0, 0, 0, false, (nextS at_X at_Y at_H c_Turn c_Forward e_Turn e_Length e_X e_Y).2.2.2) by unfold stepS; rw [if_neg (by rw [h]; decide), if_neg (by rw [h2]; decide), if_pos h3])
        exact ⟨⟨z.1.symm, z.2.1.symm, z.2.2.1.symm⟩, z.2.2.2.1.symm, z.2.2.2.2.symm⟩
      have hF : nextS at_X at_Y at_H c_Turn c_Forward e_Turn e_Length e_X e_Y = nextS at_X at_Y at_H c_Turn c_Forward e_Turn e_Length e_X e_Y := rfl
      refine ⟨fun h4 h5 => ?_, fun h4 => ?_⟩
      · have z := step_is (show stepS p_W p_H p_CellsL at_X at_Y at_H c_Turn c_Forward e_Turn e_Length e_X e_Y = (at_X, at_Y, (nextS at_X at_Y at_H c_Turn c_Forward e_Turn e_Length e_X e_Y).2.2.1, true, 0) by unfold stepS; rw [if_neg (by rw [h]; decide), if_neg (by rw [h2]; decide), if_neg (by simpa using h3), if_pos ⟨by omega, h5⟩])
        exact ⟨⟨z.1.symm, z.2.1.symm, z.2.2.1.symm⟩, z.2.2.2.1.symm, z.2.2.2.2.symm⟩
      · have z := step_is (show stepS p_W p_H p_CellsL at_X at_Y at_H c_Turn c_Forward e_Turn e_Length e_X e_Y = ((nextS at_X at_Y at_H c_Turn c_Forward e_Turn e_Length e_X e_Y).1, (nextS at_X at_Y at_H c_Turn c_Forward e_Turn e_Length e_X e_Y).2.1, (nextS at_X at_Y at_H c_Turn c_Forward e_Turn e_Length e_X e_Y).2.2.1, false, 0) by unfold stepS; rw [if_neg (by rw [h]; decide), if_neg (by rw [h2]; decide), if_neg (by simpa using h3), if_neg (fun q => by rw [bne_iff_ne.2 q.1, q.2] at h4; cases h4)])
        exact ⟨⟨z.1.symm, z.2.1.symm, z.2.2.1.symm⟩, z.2.2.2.1.symm, z.2.2.2.2.symm⟩
    · cases hg_
  · cases hg_
/-- wayfinder/wayfinderlaw11.awake -/
def g12 : Con := fun args_ E_ nn_ => match args_ with
  | [] => some (.q (True) (.o (.c (.v (.bool (true))))))
  | _ => none
theorem c12 : COk Try.prog 12 g12 := by
  refine cok_q Try.func12 x12_ok (by kernel_rfl) (cok_tab (cok_cons c13 (cok_cons c15 cok_nil))) ?_
  intro args_ E_ nn_ cr_ hg_
  unfold g12 at hg_
  split at hg_
  · skip
    cases hg_
    refine ⟨_, _, rfl, 0, [], [], [], .o (.c (.v (.bool (true)))), rfl, rfl, by simp only [push_cast, Nat.reduceLT, Nat.reduceAdd], by simp only [push_cast, Nat.reduceLT, Nat.reduceAdd], by simp only [push_cast, Nat.reduceLT, Nat.reduceAdd], rfl, trivial, rfl, ?_⟩
    intro hpre hlen
    refine ⟨trivial, ?_⟩
    simp (config := {maxSteps := 10000000}) only [x12, push_cast, Nat.reduceAdd, Nat.reduceSub, Nat.reduceLeDiff, Nat.reduceEqDiff, Nat.reduceBEq, Nat.reduceMul, Nat.reduceLT, reduceIte, reduceCtorEq, Int.reduceLE, Int.reduceLT, Int.reduceEq, Int.reduceMul, Int.reduceAdd, Int.reduceSub, Int.reduceNeg, Int.reduceToNat, Int.reduceNe, g13, g15]
    rw [nextS_awake, reachS_awake]
    simp
  · cases hg_
/-- wayfinder/wayfinderlaw11.few -/
def g26 : Con := fun args_ E_ nn_ => match args_ with
  | [.a [.v (.int .i64 p_W), .v (.int .i64 p_H), .n p_Cells]] => (match rowOf E_ p_Cells with
    | some (p_Cells_n, p_Cells_s, p_Cells_f) => some (.q (isRow eU8 p_Cells_n p_Cells_s p_Cells_f ∧ True) (.o (.c (.v (.bool (decide (((decL eU8 p_Cells_n p_Cells_f)).length ≤ 4096)))))))
    | none => none)
  | _ => none
theorem c26 : COk Try.prog 26 g26 := by
  refine cok_q Try.func26 x26_ok (by kernel_rfl) (cok_tab cok_nil) ?_
  intro args_ E_ nn_ cr_ hg_
  unfold g26 at hg_
  split at hg_
  · rename_i p_W p_H p_Cells
    split at hg_
    · rename_i p_Cells_n p_Cells_s p_Cells_f h_p_Cells
      cases hg_
      refine ⟨_, _, rfl, 1, [p_Cells], [.a [.v (.int .i64 p_W), .v (.int .i64 p_H), .n 0]], [(0, .ro (decL eU8 p_Cells_n p_Cells_f).length eU8.sz (rowF eU8 (decL eU8 p_Cells_n p_Cells_f)))], .o (.c (.v (.bool (decide (((decL eU8 p_Cells_n p_Cells_f)).length ≤ 4096))))), rfl, rfl, by simp only [push_cast, Nat.reduceLT, Nat.reduceAdd], by simp only [push_cast, Nat.reduceLT, Nat.reduceAdd], by simp only [push_cast, Nat.reduceLT, Nat.reduceAdd], rfl, ⟨inE0_row h_p_Cells, trivial⟩, rfl, ?_⟩
      intro hpre hlen
      obtain ⟨i_p_Cells, hpre⟩ := hpre
      refine ⟨⟨inE_row h_p_Cells i_p_Cells, trivial⟩, ?_⟩
      have z_p_Cells := lens_row (E := eU8) hlen h_p_Cells
      clear i_p_Cells
      generalize decL eU8 p_Cells_n p_Cells_f = p_CellsL at *
      clear h_p_Cells
      simp (config := {maxSteps := 10000000}) only [x26, push_cast, Nat.reduceAdd, Nat.reduceSub, Nat.reduceLeDiff, Nat.reduceEqDiff, Nat.reduceBEq, Nat.reduceMul, Nat.reduceLT, reduceIte, reduceCtorEq, Int.reduceLE, Int.reduceLT, Int.reduceEq, Int.reduceMul, Int.reduceAdd, Int.reduceSub, Int.reduceNeg, Int.reduceToNat, Int.reduceNe]
      rw [decide_eq_decide]; omega
    · cases hg_
  · cases hg_
/-- wayfinder/wayfinderlaw11.DriveSteps -/
def g10 : Con := fun args_ E_ nn_ => match args_ with
  | [.a [.v (.int .i64 p_W), .v (.int .i64 p_H), .n p_Cells], .a [.v (.int .i64 at_X), .v (.int .i64 at_Y), .v (.int .i64 at_H)], .a [.v (.int .i64 g_C_Turn), .v (.int .i64 g_C_Forward), .v (.int .i64 g_E_Turn), .v (.int .i64 g_E_Length), .v (.int .i64 g_E_X), .v (.int .i64 g_E_Y)]] => (match rowOf E_ p_Cells with
    | some (p_Cells_n, p_Cells_s, p_Cells_f) => some (.q (isRow eU8 p_Cells_n p_Cells_s p_Cells_f ∧ u8s (decL eU8 p_Cells_n p_Cells_f)) (.o (.c (.v (.bool (true))))))
    | none => none)
  | _ => none
theorem c10 : COk Try.prog 10 g10 := by
  refine cok_q Try.func10 x10_ok (by kernel_rfl) (cok_tab (cok_cons c12 (cok_cons c26 (cok_cons c31 (cok_cons c32 cok_nil))))) ?_
  intro args_ E_ nn_ cr_ hg_
  unfold g10 at hg_
  split at hg_
  · rename_i p_W p_H p_Cells at_X at_Y at_H g_C_Turn g_C_Forward g_E_Turn g_E_Length g_E_X g_E_Y
    split at hg_
    · rename_i p_Cells_n p_Cells_s p_Cells_f h_p_Cells
      cases hg_
      refine ⟨_, _, rfl, 1, [p_Cells], [.a [.v (.int .i64 p_W), .v (.int .i64 p_H), .n 0], .a [.v (.int .i64 at_X), .v (.int .i64 at_Y), .v (.int .i64 at_H)], .a [.v (.int .i64 g_C_Turn), .v (.int .i64 g_C_Forward), .v (.int .i64 g_E_Turn), .v (.int .i64 g_E_Length), .v (.int .i64 g_E_X), .v (.int .i64 g_E_Y)]], [(0, .ro (decL eU8 p_Cells_n p_Cells_f).length eU8.sz (rowF eU8 (decL eU8 p_Cells_n p_Cells_f)))], .o (.c (.v (.bool (true)))), rfl, rfl, by simp only [push_cast, Nat.reduceLT, Nat.reduceAdd], by simp only [push_cast, Nat.reduceLT, Nat.reduceAdd], by simp only [push_cast, Nat.reduceLT, Nat.reduceAdd], rfl, ⟨inE0_row h_p_Cells, trivial⟩, rfl, ?_⟩
      intro hpre hlen
      obtain ⟨i_p_Cells, hpre⟩ := hpre
      refine ⟨⟨inE_row h_p_Cells i_p_Cells, trivial⟩, ?_⟩
      have z_p_Cells := lens_row (E := eU8) hlen h_p_Cells
      clear i_p_Cells
      generalize decL eU8 p_Cells_n p_Cells_f = p_CellsL at *
      clear h_p_Cells
      simp (config := {maxSteps := 10000000}) only [x10, push_cast, Nat.reduceAdd, Nat.reduceSub, Nat.reduceLeDiff, Nat.reduceEqDiff, Nat.reduceBEq, Nat.reduceMul, Nat.reduceLT, reduceIte, reduceCtorEq, Int.reduceLE, Int.reduceLT, Int.reduceEq, Int.reduceMul, Int.reduceAdd, Int.reduceSub, Int.reduceNeg, Int.reduceToNat, Int.reduceNe, g12, g26, g31, g32]
      exact fun _ => hpre
    · cases hg_
  · cases hg_
/-- wayfinder/wayfinderlaw11.DriveBlocked -/
def g8 : Con := fun args_ E_ nn_ => match args_ with
  | [.a [.v (.int .i64 p_W), .v (.int .i64 p_H), .n p_Cells], .a [.v (.int .i64 from_X), .v (.int .i64 from_Y)], .a [.v (.int .i64 to_X), .v (.int .i64 to_Y)]] => (match rowOf E_ p_Cells with
    | some (p_Cells_n, p_Cells_s, p_Cells_f) => some (.q (isRow eU8 p_Cells_n p_Cells_s p_Cells_f ∧ u8s (decL eU8 p_Cells_n p_Cells_f)) (.o (.c (.v (.bool (true))))))
    | none => none)
  | _ => none
theorem c8 : COk Try.prog 8 g8 := by
  refine cok_q Try.func8 x8_ok (by kernel_rfl) (cok_tab (cok_cons c12 (cok_cons c26 (cok_cons c28 (cok_cons c27 (cok_cons c29 cok_nil)))))) ?_
  intro args_ E_ nn_ cr_ hg_
  unfold g8 at hg_
  split at hg_
  · rename_i p_W p_H p_Cells from_X from_Y to_X to_Y
    split at hg_
    · rename_i p_Cells_n p_Cells_s p_Cells_f h_p_Cells
      cases hg_
      refine ⟨_, _, rfl, 1, [p_Cells], [.a [.v (.int .i64 p_W), .v (.int .i64 p_H), .n 0], .a [.v (.int .i64 from_X), .v (.int .i64 from_Y)], .a [.v (.int .i64 to_X), .v (.int .i64 to_Y)]], [(0, .ro (decL eU8 p_Cells_n p_Cells_f).length eU8.sz (rowF eU8 (decL eU8 p_Cells_n p_Cells_f)))], .o (.c (.v (.bool (true)))), rfl, rfl, by simp only [push_cast, Nat.reduceLT, Nat.reduceAdd], by simp only [push_cast, Nat.reduceLT, Nat.reduceAdd], by simp only [push_cast, Nat.reduceLT, Nat.reduceAdd], rfl, ⟨inE0_row h_p_Cells, trivial⟩, rfl, ?_⟩
      intro hpre hlen
      obtain ⟨i_p_Cells, hpre⟩ := hpre
      refine ⟨⟨inE_row h_p_Cells i_p_Cells, trivial⟩, ?_⟩
      have z_p_Cells := lens_row (E := eU8) hlen h_p_Cells
      clear i_p_Cells
      generalize decL eU8 p_Cells_n p_Cells_f = p_CellsL at *
      clear h_p_Cells
      simp (config := {maxSteps := 10000000}) only [x8, push_cast, Nat.reduceAdd, Nat.reduceSub, Nat.reduceLeDiff, Nat.reduceEqDiff, Nat.reduceBEq, Nat.reduceMul, Nat.reduceLT, reduceIte, reduceCtorEq, Int.reduceLE, Int.reduceLT, Int.reduceEq, Int.reduceMul, Int.reduceAdd, Int.reduceSub, Int.reduceNeg, Int.reduceToNat, Int.reduceNe, g12, g26, g28, g27, g29, catF_zero]
      have e := blkB_sym p_W p_H p_CellsL to_X to_Y from_X from_Y
      exact fun _ => ⟨by omega, by rfl, hpre, hpre, fun h => ⟨h, hpre⟩, e⟩
    · cases hg_
  · cases hg_
/-- wayfinder/wayfinderlaw11.DriveFrees -/
def g9 : Con := fun args_ E_ nn_ => match args_ with
  | [.a [.v (.int .i64 p_W), .v (.int .i64 p_H), .n p_Cells], .a [.v (.int .i64 l_0_X), .v (.int .i64 l_0_Y), .v (.int .i64 l_1_X), .v (.int .i64 l_1_Y)], .a [.v (.int .i64 c_X), .v (.int .i64 c_Y)]] => (match rowOf E_ p_Cells with
    | some (p_Cells_n, p_Cells_s, p_Cells_f) => some (.q (isRow eU8 p_Cells_n p_Cells_s p_Cells_f ∧ u8s (decL eU8 p_Cells_n p_Cells_f)) (.o (.c (.v (.bool (true))))))
    | none => none)
  | _ => none
theorem c9 : COk Try.prog 9 g9 := by
  refine cok_q Try.func9 x9_ok (by kernel_rfl) (cok_tab (cok_cons c12 (cok_cons c26 (cok_cons c28 (cok_cons c30 cok_nil))))) ?_
  intro args_ E_ nn_ cr_ hg_
  unfold g9 at hg_
  split at hg_
  · rename_i p_W p_H p_Cells l_0_X l_0_Y l_1_X l_1_Y c_X c_Y
    split at hg_
    · rename_i p_Cells_n p_Cells_s p_Cells_f h_p_Cells
      cases hg_
      refine ⟨_, _, rfl, 1, [p_Cells], [.a [.v (.int .i64 p_W), .v (.int .i64 p_H), .n 0], .a [.v (.int .i64 l_0_X), .v (.int .i64 l_0_Y), .v (.int .i64 l_1_X), .v (.int .i64 l_1_Y)], .a [.v (.int .i64 c_X), .v (.int .i64 c_Y)]], [(0, .ro (decL eU8 p_Cells_n p_Cells_f).length eU8.sz (rowF eU8 (decL eU8 p_Cells_n p_Cells_f)))], .o (.c (.v (.bool (true)))), rfl, rfl, by simp only [push_cast, Nat.reduceLT, Nat.reduceAdd], by simp only [push_cast, Nat.reduceLT, Nat.reduceAdd], by simp only [push_cast, Nat.reduceLT, Nat.reduceAdd], rfl, ⟨inE0_row h_p_Cells, trivial⟩, rfl, ?_⟩
      intro hpre hlen
      obtain ⟨i_p_Cells, hpre⟩ := hpre
      refine ⟨⟨inE_row h_p_Cells i_p_Cells, trivial⟩, ?_⟩
      have z_p_Cells := lens_row (E := eU8) hlen h_p_Cells
      clear i_p_Cells
      generalize decL eU8 p_Cells_n p_Cells_f = p_CellsL at *
      clear h_p_Cells
      simp (config := {maxSteps := 10000000}) only [x9, push_cast, Nat.reduceAdd, Nat.reduceSub, Nat.reduceLeDiff, Nat.reduceEqDiff, Nat.reduceBEq, Nat.reduceMul, Nat.reduceLT, reduceIte, reduceCtorEq, Int.reduceLE, Int.reduceLT, Int.reduceEq, Int.reduceMul, Int.reduceAdd, Int.reduceSub, Int.reduceNeg, Int.reduceToNat, Int.reduceNe, g12, g26, g28, g30, catF_zero]
      intro hl
      refine ⟨by rfl, hpre, fun h => ⟨h, hpre⟩, fun h1 h2 => ⟨⟨h1, h2⟩, hpre⟩, fun h => ⟨h, fun h2 => ⟨h, h2⟩⟩, fun h k => ?_, fun hc hf hin => ?_⟩
      · rcases k with k | k
        · rw [blk_end k] at h; cases h
        · rw [blk_end2 k] at h; cases h
      have hp := blk_plan hf
      have b := idx_bd hp hin
      rw [wrapI (n := c_Y * p_W) (by omega) (by omega), wrapI (n := c_Y * p_W + c_X) (by omega) (by omega), upd8 (v := 1) (by omega), decL_lenD _ (List.length_set ..).symm]
      refine ⟨by omega, by rfl, by omega, by omega, ⟨(isRow_len _ (List.length_set ..).symm rfl).2 trivial, ?_⟩, blk_free (by omega) hf⟩
      intro x hx
      rcases List.mem_or_eq_of_mem_set hx with h1 | h1
      · exact hpre x h1
      · subst h1; omega
    · cases hg_
  · cases hg_
/-- wayfinder/wayfinderlaw11.DriveKeeps -/
def g11 : Con := fun args_ E_ nn_ => match args_ with
  | [.a [.v (.int .i64 p_W), .v (.int .i64 p_H), .n p_Cells], .a [.v (.int .i64 at_X), .v (.int .i64 at_Y), .v (.int .i64 at_H)], .a [.v (.int .i64 g_C_Turn), .v (.int .i64 g_C_Forward), .v (.int .i64 g_E_Turn), .v (.int .i64 g_E_Length), .v (.int .i64 g_E_X), .v (.int .i64 g_E_Y)]] => (match rowOf E_ p_Cells with
    | some (p_Cells_n, p_Cells_s, p_Cells_f) => some (.q (isRow eU8 p_Cells_n p_Cells_s p_Cells_f ∧ u8s (decL eU8 p_Cells_n p_Cells_f)) (.o (.c (.v (.bool (true))))))
    | none => none)
  | _ => none
theorem c11 : COk Try.prog 11 g11 := by
  refine cok_q Try.func11 x11_ok (by kernel_rfl) (cok_tab (cok_cons c12 (cok_cons c26 (cok_cons c31 (cok_cons c28 (cok_cons c13 (cok_cons c17 (cok_cons c23 cok_nil)))))))) ?_
  intro args_ E_ nn_ cr_ hg_
  unfold g11 at hg_
  split at hg_
  · rename_i p_W p_H p_Cells at_X at_Y at_H g_C_Turn g_C_Forward g_E_Turn g_E_Length g_E_X g_E_Y
    split at hg_
    · rename_i p_Cells_n p_Cells_s p_Cells_f h_p_Cells
      cases hg_
      refine ⟨_, _, rfl, 1, [p_Cells], [.a [.v (.int .i64 p_W), .v (.int .i64 p_H), .n 0], .a [.v (.int .i64 at_X), .v (.int .i64 at_Y), .v (.int .i64 at_H)], .a [.v (.int .i64 g_C_Turn), .v (.int .i64 g_C_Forward), .v (.int .i64 g_E_Turn), .v (.int .i64 g_E_Length), .v (.int .i64 g_E_X), .v (.int .i64 g_E_Y)]], [(0, .ro (decL eU8 p_Cells_n p_Cells_f).length eU8.sz (rowF eU8 (decL eU8 p_Cells_n p_Cells_f)))], .o (.c (.v (.bool (true)))), rfl, rfl, by simp only [push_cast, Nat.reduceLT, Nat.reduceAdd], by simp only [push_cast, Nat.reduceLT, Nat.reduceAdd], by simp only [push_cast, Nat.reduceLT, Nat.reduceAdd], rfl, ⟨inE0_row h_p_Cells, trivial⟩, rfl, ?_⟩
      intro hpre hlen
      obtain ⟨i_p_Cells, hpre⟩ := hpre
      refine ⟨⟨inE_row h_p_Cells i_p_Cells, trivial⟩, ?_⟩
      have z_p_Cells := lens_row (E := eU8) hlen h_p_Cells
      clear i_p_Cells
      generalize decL eU8 p_Cells_n p_Cells_f = p_CellsL at *
      clear h_p_Cells
      simp (config := {maxSteps := 10000000}) only [x11, push_cast, Nat.reduceAdd, Nat.reduceSub, Nat.reduceLeDiff, Nat.reduceEqDiff, Nat.reduceBEq, Nat.reduceMul, Nat.reduceLT, reduceIte, reduceCtorEq, Int.reduceLE, Int.reduceLT, Int.reduceEq, Int.reduceMul, Int.reduceAdd, Int.reduceSub, Int.reduceNeg, Int.reduceToNat, Int.reduceNe, g12, g26, g31, g28, g13, g17, g23]
      intro hl
      refine ⟨hpre, ?_⟩
      rcases step_cases p_W p_H p_CellsL at_X at_Y at_H g_C_Turn g_C_Forward g_E_Turn g_E_Length g_E_X g_E_Y with ⟨h1, h2, h3, h4, h5⟩ | ⟨nx, ny, nh, hn, h1, h2, ⟨h3, h4, h5, h6⟩ | ⟨h3, h4, h5, h6⟩⟩
      · exact ⟨fun _ => ⟨h5, h2, h3, h4⟩, fun q => absurd q h1⟩
      · simp only [h1, h2, h3, h4, h5, hn]
        simp (config := {maxSteps := 10000000}) only [decide_true, decide_false, push_cast, Nat.reduceAdd, Nat.reduceSub, Nat.reduceLeDiff, Nat.reduceEqDiff, Nat.reduceBEq, Nat.reduceMul, Nat.reduceLT, reduceIte, reduceCtorEq, Int.reduceLE, Int.reduceLT, Int.reduceEq, Int.reduceMul, Int.reduceAdd, Int.reduceSub, Int.reduceNeg, Int.reduceToNat, Int.reduceNe, g12, g26, g31, g28, g13, g17, g23]
        have hc : clipS 8 16 8 1 g_E_Turn g_E_Length g_E_X g_E_Y = (clp g_E_Turn 8, clp g_E_Length 16, clp g_E_X 8, clp g_E_Y 8, 0) := clipS_go (by omega)
        simp only [hc]
        refine ⟨by rfl, hpre, fun h => ⟨h, hpre⟩, fun a b => (by rw [a] at b; cases b), fun _ => ⟨h6, fun _ => ?_⟩⟩
        · skip
          refine ⟨fun _ => ⟨trivial, fun a b c d => ⟨trivial, a, b, c, d⟩⟩, trivial, ?_⟩
          by_cases q : clp g_E_Turn 8 = g_E_Turn ∧ clp g_E_Length 16 = g_E_Length ∧ clp g_E_X 8 = g_E_X ∧ clp g_E_Y 8 = g_E_Y
          · right; exact (keep_law hn q.1 q.2.1 q.2.2.1 q.2.2.2).2
          · left; rw [Bool.eq_false_iff]; intro w; simp only [Bool.and_eq_true, beq_iff_eq] at w; exact q ⟨w.1, w.2.1, w.2.2.1, w.2.2.2⟩
      · simp only [h1, h2, h3, h4, h5, hn]
        simp (config := {maxSteps := 10000000}) only [decide_true, decide_false, push_cast, Nat.reduceAdd, Nat.reduceSub, Nat.reduceLeDiff, Nat.reduceEqDiff, Nat.reduceBEq, Nat.reduceMul, Nat.reduceLT, reduceIte, reduceCtorEq, Int.reduceLE, Int.reduceLT, Int.reduceEq, Int.reduceMul, Int.reduceAdd, Int.reduceSub, Int.reduceNeg, Int.reduceToNat, Int.reduceNe, g12, g26, g31, g28, g13, g17, g23]
        have hc : clipS 8 16 8 1 g_E_Turn g_E_Length g_E_X g_E_Y = (clp g_E_Turn 8, clp g_E_Length 16, clp g_E_X 8, clp g_E_Y 8, 0) := clipS_go (by omega)
        simp only [hc]
        refine ⟨by rfl, hpre, fun h => ⟨h, hpre⟩, fun a b => ?_, fun _ => ⟨fun hF hne => ?_, fun _ => ?_⟩⟩
        · rcases h6 with hF | h6
          · have z := nextS_zero hF hn
            rw [z.1, z.2] at b
            rw [a] at b; cases b
          · rw [blk_end2 b] at h6; cases h6
        · have z := nextS_zero hF hn
          rw [z.1, z.2] at hne
          simp at hne
        · skip
          refine ⟨fun _ => ⟨trivial, fun a b c d => ⟨trivial, a, b, c, d⟩⟩, trivial, ?_⟩
          by_cases q : clp g_E_Turn 8 = g_E_Turn ∧ clp g_E_Length 16 = g_E_Length ∧ clp g_E_X 8 = g_E_X ∧ clp g_E_Y 8 = g_E_Y
          · right; exact (keep_law hn q.1 q.2.1 q.2.2.1 q.2.2.2).1
          · left; rw [Bool.eq_false_iff]; intro w; simp only [Bool.and_eq_true, beq_iff_eq] at w; exact q ⟨w.1, w.2.1, w.2.2.1, w.2.2.2⟩
    · cases hg_
  · cases hg_
end Go.Proofs.Ytjcpefnbongmaaa
