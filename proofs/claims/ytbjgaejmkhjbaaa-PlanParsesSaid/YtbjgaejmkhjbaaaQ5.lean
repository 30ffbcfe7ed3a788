/- A part of the proof of a statement about this seat: how a function is stepped through, and plain laws. No conditions. -/
import Derived.Test.YtbjgaejmkhjbaaaRows
import Derived.Test.YtbjgaejmkhjbaaaSz3
import Derived.Test.YtbjgaejmkhjbaaaQ4
import Derived.KernelRfl
set_option linter.unusedVariables false
set_option linter.unusedSimpArgs false
set_option maxRecDepth 20000
namespace Go.Proofs.Ytbjgaejmkhjbaaa
open Go.Sx
/-! ### More is met from a larger rectangle over a wider range -/
theorem swL_mem {x0 y0 x1 y1 vx vy vd lo hi : Int} {c : CC} : c ∈ swL x0 y0 x1 y1 vx vy vd lo hi ↔ swP x0 y0 x1 y1 vx vy vd lo hi c.X c.Y = true := by
  unfold swL
  rw [gridL_mem]
  constructor
  · exact fun h => h.1
  · intro h
    have := sw_rng h
    unfold rLo rHi
    exact ⟨h, by omega⟩
theorem swL_sorted (x0 y0 x1 y1 vx vy vd lo hi : Int) : (swL x0 y0 x1 y1 vx vy vd lo hi).Pairwise ltC := gridL_sorted _ _ _ _ _
theorem inC_mono {n m v a b a' b' : Int} (hm : 0 < m) (h1 : a' ≤ a) (h2 : b ≤ b') (h : inC n m 0 v a b) : inC n m 0 v a' b' := by
  unfold inC at *
  have e1 := Int.mul_le_mul_of_nonneg_right h1 (Int.le_of_lt hm)
  have e2 := Int.mul_le_mul_of_nonneg_right h2 (Int.le_of_lt hm)
  omega
theorem sw_mono {x0 y0 x1 y1 x0' y0' x1' y1' vx vy vd lo hi lo' hi' x y : Int} (hv : vecB vx vy vd = true) (ho : 0 ≤ lo ∧ lo ≤ hi ∧ hi ≤ 2048) (ho' : 0 ≤ lo' ∧ lo' ≤ lo ∧ hi ≤ hi' ∧ hi' ≤ 65536)
    (hr : pRectB x0' y0' x1' y1' = true) (hs : x1' - x0' ≤ 4096 ∧ y1' - y0' ≤ 4096) (h0 : x0' ≤ x0 ∧ x0 ≤ x1 ∧ x1 ≤ x1') (h1 : y0' ≤ y0 ∧ y0 ≤ y1 ∧ y1 ≤ y1') (h : swP x0 y0 x1 y1 vx vy vd lo hi x y = true) :
    swP x0' y0' x1' y1' vx vy vd lo' hi' x y = true := by
  have a := pRect_bd hr
  have a2 := vec_bd hv
  have rg := sw_rng h
  have fx := frac_bd (lo := lo) (hi := hi) (n := vx) (d := vd) (by omega) (by omega) (by omega) (by omega) (by omega)
  have fy := frac_bd (lo := lo) (hi := hi) (n := vy) (d := vd) (by omega) (by omega) (by omega) (by omega) (by omega)
  unfold swP at h ⊢
  simp only [Bool.and_eq_true] at h ⊢
  obtain ⟨h2, h3⟩ := h
  rw [meets_iff] at h3 ⊢
  unfold MeP at h3 ⊢
  obtain ⟨_, p1, p2, p3, n, m, hm, hn, hx, hy, hl, hh⟩ := h3
  refine ⟨?_, by omega, p1, p2, ?_, n, m, hm, hn, ?_, ?_, ?_, ?_⟩
  · simp only [minusB, sRectB, nearB, Bool.and_eq_true, decide_eq_true_eq] at h2 ⊢
    omega
  · simp only [sRectB, nearB, Bool.and_eq_true, decide_eq_true_eq]
    omega
  · exact inC_mono hm (by omega) (by omega) hx
  · exact inC_mono hm (by omega) (by omega) hy
  · have := Int.mul_le_mul_of_nonneg_right ho'.2.1 (Int.le_of_lt hm); omega
  · have := Int.mul_le_mul_of_nonneg_right ho'.2.2.1 (Int.le_of_lt hm); omega
theorem seE0 {x0 y0 x1 y1 vx vy vd lo hi : Int} : seE x0 y0 x1 y1 vx vy vd lo hi = 0 ↔ pRectB x0 y0 x1 y1 = true ∧ vecB vx vy vd = true ∧ (0 ≤ lo ∧ lo ≤ hi ∧ hi ≤ 2048) ∧ x1 - x0 ≤ 1024 ∧ y1 - y0 ≤ 1024 := by
  unfold seE okR
  cases pRectB x0 y0 x1 y1 <;> cases vecB vx vy vd <;> simp
  by_cases h : 0 ≤ lo ∧ lo ≤ hi ∧ hi ≤ 2048
  · by_cases h2 : 1024 < x1 - x0 ∨ 1024 < y1 - y0
    · simp [h, h2]; omega
    · simp [h, h2]; omega
  · have g : ¬ (lo ≤ hi ∧ 0 ≤ lo ∧ hi ≤ 2048) := by omega
    split
    · omega
    · split <;> omega
theorem seL0 {x0 y0 x1 y1 vx vy vd lo hi : Int} (h : seE x0 y0 x1 y1 vx vy vd lo hi ≠ 0) : seL x0 y0 x1 y1 vx vy vd lo hi = [] := if_neg h
theorem se_sorted (x0 y0 x1 y1 vx vy vd lo hi : Int) : (seL x0 y0 x1 y1 vx vy vd lo hi).Pairwise ltC := by
  unfold seL; split
  · exact swL_sorted _ _ _ _ _ _ _ _ _
  · exact List.Pairwise.nil
theorem se_mono {x0 y0 x1 y1 x0' y0' x1' y1' vx vy vd lo hi lo' hi' : Int} (h : seE x0 y0 x1 y1 vx vy vd lo hi = 0) (h' : seE x0' y0' x1' y1' vx vy vd lo' hi' = 0) (hx : x0' ≤ x0 ∧ x1 ≤ x1') (hy : y0' ≤ y0 ∧ y1 ≤ y1') (hl : lo' ≤ lo ∧ hi ≤ hi') :
    ∀ c ∈ seL x0 y0 x1 y1 vx vy vd lo hi, c ∈ seL x0' y0' x1' y1' vx vy vd lo' hi' := by
  intro c hc
  unfold seL at hc ⊢
  rw [if_pos h] at hc
  rw [if_pos h']
  rw [swL_mem] at hc ⊢
  rw [seE0] at h h'
  have a := pRect_bd h.1
  exact sw_mono h.2.1 h.2.2.1 (by omega) h'.1 (by omega) (by omega) (by omega) hc
def cornL (x0 y0 x1 y1 : Int) : List CC := [⟨x0, y0⟩, ⟨x1, y0⟩, ⟨x0, y1⟩, ⟨x1, y1⟩]
theorem corn_at {x0 y0 x1 y1 : Int} {i : Nat} (hi : i < 4) : (((cornL x0 y0 x1 y1).getD i eC.dflt).X = x0 ∨ ((cornL x0 y0 x1 y1).getD i eC.dflt).X = x1) ∧ (((cornL x0 y0 x1 y1).getD i eC.dflt).Y = y0 ∨ ((cornL x0 y0 x1 y1).getD i eC.dflt).Y = y1) := by
  rcases i with _ | _ | _ | _ | i
  · exact ⟨.inl rfl, .inl rfl⟩
  · exact ⟨.inr rfl, .inl rfl⟩
  · exact ⟨.inl rfl, .inr rfl⟩
  · exact ⟨.inr rfl, .inr rfl⟩
  · omega
theorem getD_mem {a : CC} {l : List CC} (h : a ∈ l) : ∃ j, j < l.length ∧ l.getD j eC.dflt = a := by
  obtain ⟨j, hj, e⟩ := List.getElem_of_mem h
  exact ⟨j, hj, by rw [List.getD_eq_getElem?_getD, List.getElem?_eq_getElem hj, Option.getD_some, e]⟩
theorem getD_in {l : List CC} {i : Nat} (h : i < l.length) : l.getD i eC.dflt ∈ l := by rw [List.getD_eq_getElem?_getD, List.getElem?_eq_getElem h, Option.getD_some]; exact List.getElem_mem h
theorem sort_at {l : List CC} (hl : l.Pairwise ltC) {i j : Nat} (h : i < j) (hj : j < l.length) : ltC (l.getD i eC.dflt) (l.getD j eC.dflt) := by
  have hi : i < l.length := by omega
  rw [List.getD_eq_getElem?_getD, List.getD_eq_getElem?_getD, List.getElem?_eq_getElem hj, List.getElem?_eq_getElem hi, Option.getD_some, Option.getD_some]
  exact List.pairwise_iff_getElem.1 hl i j (by omega) hj h
/-- The first cell that is not before the wanted one is the wanted one. -/
theorem sub_at {aL bL : List CC} (hb : bL.Pairwise ltC) (hsub : ∀ c ∈ aL, c ∈ bL) {i q : Nat} (hi : i < aL.length) (hq : ∀ j, j < q → ltC (bL.getD j eC.dflt) (aL.getD i eC.dflt)) (hn : q < bL.length → ¬ ltC (bL.getD q eC.dflt) (aL.getD i eC.dflt)) :
    q < bL.length ∧ bL.getD q eC.dflt = aL.getD i eC.dflt := by
  obtain ⟨j, hj, e⟩ := getD_mem (hsub _ (getD_in hi))
  rcases Nat.lt_trichotomy j q with h | h | h
  · have := hq j h; rw [e] at this; exact absurd this (ltC_irrefl _)
  · subst h; exact ⟨hj, e⟩
  · refine absurd ?_ (hn (by omega)); rw [← e]; exact sort_at hb h hj
theorem corn_in {x0 y0 x1 y1 vx vy vd lo hi : Int} {i : Nat} (hi4 : i < 4) (h : seE x0 y0 x1 y1 vx vy vd lo hi = 0) :
    trE ((cornL x0 y0 x1 y1).getD i eC.dflt).X ((cornL x0 y0 x1 y1).getD i eC.dflt).Y vx vy vd lo hi = 0 ∧ (trL ((cornL x0 y0 x1 y1).getD i eC.dflt).X ((cornL x0 y0 x1 y1).getD i eC.dflt).Y vx vy vd lo hi).Pairwise ltC ∧
    ∀ c ∈ trL ((cornL x0 y0 x1 y1).getD i eC.dflt).X ((cornL x0 y0 x1 y1).getD i eC.dflt).Y vx vy vd lo hi, c ∈ seL x0 y0 x1 y1 vx vy vd lo hi := by
  have hc := corn_at (x0 := x0) (y0 := y0) (x1 := x1) (y1 := y1) hi4
  generalize (cornL x0 y0 x1 y1).getD i eC.dflt = c at *
  have h0 := seE0.1 h
  have a := pRect_bd h0.1
  have k := tr_se c.X c.Y vx vy vd lo hi
  have hz : seE c.X c.Y c.X c.Y vx vy vd lo hi = 0 := by
    rw [seE0]
    refine ⟨?_, h0.2.1, h0.2.2.1, by omega, by omega⟩
    apply pPt_rect
    unfold pPtB
    rw [decide_eq_true_eq]
    omega
  rw [k.1, k.2]
  refine ⟨hz, se_sorted _ _ _ _ _ _ _ _ _, se_mono hz h ?_ ?_ ?_⟩ <;> omega
theorem wide_in {x0 y0 x1 y1 vx vy vd lo hi m : Int} (hm : 0 ≤ m ∧ m ≤ 255) (h : seE x0 y0 x1 y1 vx vy vd lo hi = 0) : seE x0 y0 x1 y1 vx vy vd (max (lo - m) 0) (min (hi + m) 2048) = 0 := by
  rw [seE0] at h ⊢
  refine ⟨h.1, h.2.1, ?_, h.2.2.2⟩
  omega
def x19L0 : XC := (.seq (.seq (.reg true [O1 13 .mv 5, O1 14 .mv 1, O1 15 .lenS 14, O2 16 (.bin .lss) 13 15, O1 17 .mv 16, G1 18 .mv 1 17 true, G1 19 .mv 5 17 true, G2 20 (.ixS 2) 18 19 17 true, G1 21 (.loadN 2) 20 17 true, G1 22 .mv 0 17 true, G1 23 .mv 6 17 true, G2 24 (.ixS 2) 22 23 17 true, G1 25 (.loadN 2) 24 17 true, G2 26 (.call 61) 21 25 17 true, ⟨(some 27), .pick, [(.t 17), (.t 26), (.k (.bool false))], none⟩]) (.cond (.t 27) .skip (.exit 2))) (.block 3 (.reg false [O1 28 .mv 5, K2 29 (.bin .add) 28 (iV 1), O1 5 .mv 29])))
def x19L1 : XC := (.seq (.seq (.reg false [O1 7 .mv 6, O1 8 .mv 0, O1 9 .lenS 8, O2 10 (.bin .lss) 7 9]) (.cond (.t 10) .skip (.exit 0))) (.seq (.block 1 (.seq (.block 2 (.loop x19L0)) (.seq (.reg true [O1 30 .mv 5, O1 31 .mv 1, O1 32 .lenS 31, O2 33 (.bin .geq) 30 32, O1 34 .mv 33, G1 35 .mv 1 34 false, G1 36 .mv 5 34 false, G2 37 (.ixS 2) 35 36 34 false, G1 38 (.loadN 2) 37 34 false, G1 39 .mv 0 34 false, G1 40 .mv 6 34 false, G2 41 (.ixS 2) 39 40 34 false, G1 42 (.loadN 2) 41 34 false, ⟨(some 43), (.eqA true [(.i .i64), (.i .i64)]), [(.t 38), (.t 42)], (some (34, false))⟩, ⟨(some 44), .pick, [(.t 34), (.k (.bool true)), (.t 43)], none⟩]) (.cond (.t 44) (.seq (.reg false [K1 4 .mv (.bool false)]) .ret) .skip)))) (.reg false [O1 11 .mv 6, K2 12 (.bin .add) 11 (iV 1), O1 6 .mv 12])))
def x19 : XFn := ⟨45, (.seq (.reg false [K1 4 .mv (.bool false)]) (.seq (.reg false [K1 5 .mv (iV 0)]) (.seq (.seq (.reg false [K1 6 .mv (iV 0)]) (.block 0 (.loop x19L1))) (.seq (.reg false [K1 4 .mv (.bool true)]) .ret)))), [(.s 4)]⟩
theorem x19_ok : xfn Try.prog Try.f19 = some x19.er := by kernel_rfl
def x5L0 : XC := (.seq (.seq (.reg false [O1 104 .mv 14, K2 105 (.bin .lss) 104 (iV 4)]) (.cond (.t 105) .skip (.exit 0))) (.seq (.block 1 (.seq (.regD [O1 109 .mv 13, O1 110 .mv 14, O2 111 (.ixS 2) 109 110, O1 112 (.loadN 2) 111, O1 113 (.fld 2) 3, O1 114 (.loadN 3) 113, O1 115 (.fld 5) 3, O1 116 .load1 115, O1 117 (.fld 6) 3, O1 118 .load1 117, ⟨(some 119), (.call 14), [(.t 112), (.t 114), (.t 116), (.t 118)], none⟩, O1 108 .mv 119, O1 120 (.ext 0) 108, O1 121 (.ext 1) 108, O1 15 .mv 120, O1 16 .mv 121] [[], [], [0, 1], [2, 0, 1], [], [4], [], [6], [], [8], [3, 2, 0, 1, 5, 4, 7, 6, 9, 8], [10, 3, 2, 0, 1, 5, 4, 7, 6, 9, 8], [11, 10, 3, 2, 0, 1, 5, 4, 7, 6, 9, 8], [11, 10, 3, 2, 0, 1, 5, 4, 7, 6, 9, 8], [12, 11, 10, 3, 2, 0, 1, 5, 4, 7, 6, 9, 8], [13, 11, 10, 3, 2, 0, 1, 5, 4, 7, 6, 9, 8, 14, 12]]) (.seq (.reg false [O1 122 .mv 16, K2 123 (.bin .neq) 122 (iV 0), O1 124 .mv 123, G1 125 .mv 15 124 false, G1 126 .mv 7 124 false, G2 127 (.call 19) 125 126 124 false, G1 128 (.un .not) 127 124 false, ⟨(some 129), .pick, [(.t 124), (.k (.bool true)), (.t 128)], none⟩]) (.cond (.t 129) (.seq (.reg false [K1 6 .mv (.bool false)]) .ret) .skip)))) (.reg false [O1 106 .mv 14, K2 107 (.bin .add) 106 (iV 1), O1 14 .mv 107])))
def x5 : XFn := ⟨185, (.seq (.reg false [O1 3 (.box 27) 0, O1 4 (.box 36) 1, K1 6 .mv (.bool false)]) (.seq (.seq (.reg false [⟨(some 21), (.call 13), [], none⟩, O1 22 (.un .not) 21]) (.cond (.t 22) (.seq (.reg false [K1 6 .mv (.bool false)]) .ret) .skip)) (.seq (.reg false [O1 24 (.loadN 4) 4, O1 25 (.fld 2) 3, O1 26 (.loadN 3) 25, O1 27 (.fld 5) 3, O1 28 .load1 27, O1 29 (.fld 6) 3, O1 30 .load1 29, ⟨(some 31), (.call 17), [(.t 24), (.t 26), (.t 28), (.t 30)], none⟩, O1 23 .mv 31, O1 32 (.ext 0) 23, O1 33 (.ext 1) 23, O1 7 .mv 32, O1 8 .mv 33]) (.seq (.reg false [O1 35 (.fld 0) 3, O1 36 (.fld 0) 35, O1 37 .load1 36, O1 38 (.fld 0) 3, O1 39 (.fld 1) 38, O1 40 .load1 39, O1 41 (.fld 0) 3, O1 42 (.fld 0) 41, O1 43 .load1 42, O1 44 (.fld 0) 3, O1 45 (.fld 1) 44, O1 46 .load1 45, ⟨(some 47), (.build [(iV 0), (iV 0), (iV 0), (iV 0)] [(0, 1), (1, 1), (2, 1), (3, 1)]), [(.t 37), (.t 40), (.t 43), (.t 46)], none⟩, O1 48 (.fld 2) 3, O1 49 (.loadN 3) 48, O1 50 (.fld 5) 3, O1 51 .load1 50, O1 52 (.fld 6) 3, O1 53 .load1 52, ⟨(some 54), (.call 17), [(.t 47), (.t 49), (.t 51), (.t 53)], none⟩, O1 34 .mv 54, O1 55 (.ext 0) 34, O1 56 (.ext 1) 34, O1 9 .mv 55, O1 10 .mv 56]) (.seq (.reg false [O1 58 (.fld 0) 3, O1 59 (.loadN 2) 58, O1 60 (.fld 2) 3, O1 61 (.loadN 3) 60, O1 62 (.fld 5) 3, O1 63 .load1 62, O1 64 (.fld 6) 3, O1 65 .load1 64, ⟨(some 66), (.call 14), [(.t 59), (.t 61), (.t 63), (.t 65)], none⟩, O1 57 .mv 66, O1 67 (.ext 0) 57, O1 68 (.ext 1) 57, O1 11 .mv 67, O1 12 .mv 68]) (.seq (.seq (.reg false [O1 69 .mv 10, O1 70 .mv 12, O2 71 (.bin .neq) 69 70, O1 72 .mv 71, G1 73 .mv 9 72 false, G1 74 .mv 11 72 false, G2 75 (.call 16) 73 74 72 false, G1 76 (.un .not) 75 72 false, ⟨(some 77), .pick, [(.t 72), (.k (.bool true)), (.t 76)], none⟩]) (.cond (.t 77) (.seq (.reg false [K1 6 .mv (.bool false)]) .ret) .skip)) (.seq (.seq (.reg false [O1 78 .mv 8, K2 79 (.bin .neq) 78 (iV 0)]) (.cond (.t 79) (.seq (.reg false [O1 80 .mv 7, O1 81 .lenS 80, K2 82 (.bin .eql) 81 (iV 0), O1 6 .mv 82]) .ret) .skip)) (.seq (.reg false [O1 83 (.fld 0) 4, O1 84 .load1 83, O1 85 (.fld 1) 4, O1 86 .load1 85, ⟨(some 87), (.build [(iV 0), (iV 0)] [(0, 1), (1, 1)]), [(.t 84), (.t 86)], none⟩, O1 88 (.fld 2) 4, O1 89 .load1 88, O1 90 (.fld 1) 4, O1 91 .load1 90, ⟨(some 92), (.build [(iV 0), (iV 0)] [(0, 1), (1, 1)]), [(.t 89), (.t 91)], none⟩, O1 93 (.fld 0) 4, O1 94 .load1 93, O1 95 (.fld 3) 4, O1 96 .load1 95, ⟨(some 97), (.build [(iV 0), (iV 0)] [(0, 1), (1, 1)]), [(.t 94), (.t 96)], none⟩, O1 98 (.fld 2) 4, O1 99 .load1 98, O1 100 (.fld 3) 4, O1 101 .load1 100, ⟨(some 102), (.build [(iV 0), (iV 0)] [(0, 1), (1, 1)]), [(.t 99), (.t 101)], none⟩, ⟨(some 103), (.slit 23 4 2 [(iV 0), (iV 0), (iV 0), (iV 0), (iV 0), (iV 0), (iV 0), (iV 0)] [(0, 2), (2, 2), (4, 2), (6, 2)]), [(.t 87), (.t 92), (.t 97), (.t 102)], none⟩, O1 13 .mv 103]) (.seq (.seq (.reg false [K1 14 .mv (iV 0)]) (.block 0 (.loop x5L0))) (.seq (.reg false [O1 131 (.loadN 4) 4, O1 132 (.fld 2) 3, O1 133 (.loadN 3) 132, O1 134 (.fld 5) 3, O1 135 .load1 134, O1 136 .mv 2, O1 137 (.conv .i64) 136, O2 138 (.bin .sub) 135 137, K2 139 .maxI 138 (iV 0), O1 140 (.fld 6) 3, O1 141 .load1 140, O1 142 .mv 2, O1 143 (.conv .i64) 142, O2 144 (.bin .add) 141 143, K2 145 .minI 144 (iV 2048), ⟨(some 146), (.call 17), [(.t 131), (.t 133), (.t 139), (.t 145)], none⟩, O1 130 .mv 146, O1 147 (.ext 0) 130, O1 148 (.ext 1) 130, O1 17 .mv 147, O1 18 .mv 148]) (.seq (.seq (.reg false [O1 149 .mv 18, K2 150 (.bin .neq) 149 (iV 0), O1 151 .mv 150, G1 152 .mv 7 151 false, G1 153 .mv 17 151 false, G2 154 (.call 19) 152 153 151 false, G1 155 (.un .not) 154 151 false, ⟨(some 156), .pick, [(.t 151), (.k (.bool true)), (.t 155)], none⟩]) (.cond (.t 156) (.seq (.reg false [K1 6 .mv (.bool false)]) .ret) .skip)) (.seq (.reg false [O1 158 (.fld 0) 4, O1 159 .load1 158, K2 160 (.bin .sub) 159 (iV 1), O1 161 (.fld 1) 4, O1 162 .load1 161, O1 163 (.fld 2) 4, O1 164 .load1 163, O1 165 (.fld 3) 4, O1 166 .load1 165, K2 167 (.bin .add) 166 (iV 1), ⟨(some 168), (.build [(iV 0), (iV 0), (iV 0), (iV 0)] [(0, 1), (1, 1), (2, 1), (3, 1)]), [(.t 160), (.t 162), (.t 164), (.t 167)], none⟩, O1 169 (.fld 2) 3, O1 170 (.loadN 3) 169, O1 171 (.fld 5) 3, O1 172 .load1 171, O1 173 (.fld 6) 3, O1 174 .load1 173, ⟨(some 175), (.call 17), [(.t 168), (.t 170), (.t 172), (.t 174)], none⟩, O1 157 .mv 175, O1 176 (.ext 0) 157, O1 177 (.ext 1) 157, O1 19 .mv 176, O1 20 .mv 177]) (.seq (.reg false [O1 178 .mv 20, K2 179 (.bin .neq) 178 (iV 0), O1 180 .mv 179, G1 181 .mv 7 180 false, G1 182 .mv 19 180 false, G2 183 (.call 19) 181 182 180 false, ⟨(some 184), .pick, [(.t 180), (.k (.bool true)), (.t 183)], none⟩, O1 6 .mv 184]) .ret))))))))))))), [(.s 6)]⟩
theorem x5_ok : xfn Try.prog Try.f5 = some x5.er := by kernel_rfl
/-- wayfinder/wayfinderlaw08.within -/
def g19 : Con := fun args_ E_ nn_ => match args_ with
  | [.c (.n a), .c (.n b)] => (match rowOf E_ a with
    | some (a_n, a_s, a_f) => (match rowOf E_ b with
    | some (b_n, b_s, b_f) => some (.q (isRow eC a_n a_s a_f ∧ isRow eC b_n b_s b_f ∧ ((decL eC a_n a_f)).Pairwise ltC ∧ ((decL eC b_n b_f)).Pairwise ltC ∧ ∀ c ∈ (decL eC a_n a_f), c ∈ (decL eC b_n b_f)) (.o (.c (.v (.bool (true))))))
    | none => none)
    | none => none)
  | _ => none
theorem c19 : COk Try.prog 19 g19 := by
  refine cok_q Try.func19 x19_ok (by kernel_rfl) (cok_tab (cok_cons c61 cok_nil)) ?_
  intro args_ E_ nn_ cr_ hg_
  unfold g19 at hg_
  split at hg_
  · rename_i a b
    split at hg_
    · rename_i a_n a_s a_f h_a
      split at hg_
      · rename_i b_n b_s b_f h_b
        cases hg_
        refine ⟨_, _, rfl, 2, [a, b], [.c (.n 0), .c (.n 1)], [(0, .ro (decL eC a_n a_f).length eC.sz (rowF eC (decL eC a_n a_f))), (1, .ro (decL eC b_n b_f).length eC.sz (rowF eC (decL eC b_n b_f)))], .o (.c (.v (.bool (true)))), rfl, rfl, by simp only [push_cast, Nat.reduceLT, Nat.reduceAdd], by simp only [push_cast, Nat.reduceLT, Nat.reduceAdd], by simp only [push_cast, Nat.reduceLT, Nat.reduceAdd], rfl, ⟨inE0_row h_a, inE0_row h_b, trivial⟩, rfl, ?_⟩
        intro hpre hlen
        obtain ⟨i_a, hpre⟩ := hpre
        obtain ⟨i_b, hpre⟩ := hpre
        refine ⟨⟨inE_row h_a i_a, inE_row h_b i_b, trivial⟩, ?_⟩
        have z_a := lens_row (E := eC) hlen h_a
        have z_b := lens_row (E := eC) hlen h_b
        clear i_a
        generalize decL eC a_n a_f = aL at *
        clear i_b
        generalize decL eC b_n b_f = bL at *
        clear h_a
        clear h_b
        simp (config := {maxSteps := 10000000}) only [x19, push_cast, Nat.reduceAdd, Nat.reduceSub, Nat.reduceLeDiff, Nat.reduceEqDiff, Nat.reduceBEq, Nat.reduceMul, Nat.reduceLT, reduceIte, reduceCtorEq, Int.reduceLE, Int.reduceLT, Int.reduceEq, Int.reduceMul, Int.reduceAdd, Int.reduceSub, Int.reduceNeg, Int.reduceToNat, Int.reduceNe, g61]
        obtain ⟨ha, hb, hsub⟩ := hpre
        refine vcLoop_upd (α := {p : Nat × Nat // p.1 ≤ aL.length ∧ p.2 ≤ bL.length ∧ ∀ j, j < p.2 → p.1 < aL.length → ltC (bL.getD j eC.dflt) (aL.getD p.1 eC.dflt)}) [0, 1] 0 (fun s => [(5, .o (.c (.v (.int .i64 (s.1.2 : Nat))))), (6, .o (.c (.v (.int .i64 (s.1.1 : Nat)))))]) (fun s => []) (fun s => aL.length - s.1.1) ⟨(0, 0), by omega, by omega, fun j hj => by omega⟩ ?_ ?_
        · simp only [push_cast, Nat.reduceAdd, Nat.reduceSub, Nat.reduceLeDiff, Nat.reduceEqDiff, Nat.reduceBEq, Nat.reduceMul, Nat.reduceLT, reduceIte, reduceCtorEq, Int.reduceLE, Int.reduceLT, Int.reduceEq, Int.reduceMul, Int.reduceAdd, Int.reduceSub, Int.reduceNeg, Int.reduceToNat, Int.reduceNe, g61]
        · rintro ⟨⟨i, k⟩, hi, hk, hall⟩
          simp only at hi hk hall
          simp only [x19L1, push_cast, Nat.reduceAdd, Nat.reduceSub, Nat.reduceLeDiff, Nat.reduceEqDiff, Nat.reduceBEq, Nat.reduceMul, Nat.reduceLT, reduceIte, reduceCtorEq, Int.reduceLE, Int.reduceLT, Int.reduceEq, Int.reduceMul, Int.reduceAdd, Int.reduceSub, Int.reduceNeg, Int.reduceToNat, Int.reduceNe, g61]
          intro hin
          refine vcLoop_upd (α := {q : Nat // q ≤ bL.length ∧ ∀ j, j < q → ltC (bL.getD j eC.dflt) (aL.getD i eC.dflt)}) [0, 1, 6] 0 (fun s => [(5, .o (.c (.v (.int .i64 (s.1 : Nat)))))]) (fun s => []) (fun s => bL.length - s.1) ⟨k, hk, fun j hj => hall j hj hin⟩ ?_ ?_
          · simp only [push_cast, Nat.reduceAdd, Nat.reduceSub, Nat.reduceLeDiff, Nat.reduceEqDiff, Nat.reduceBEq, Nat.reduceMul, Nat.reduceLT, reduceIte, reduceCtorEq, Int.reduceLE, Int.reduceLT, Int.reduceEq, Int.reduceMul, Int.reduceAdd, Int.reduceSub, Int.reduceNeg, Int.reduceToNat, Int.reduceNe, g61]
          · rintro ⟨q, hq, hql⟩
            simp only [x19L0, push_cast, Nat.reduceAdd, Nat.reduceSub, Nat.reduceLeDiff, Nat.reduceEqDiff, Nat.reduceBEq, Nat.reduceMul, Nat.reduceLT, reduceIte, reduceCtorEq, Int.reduceLE, Int.reduceLT, Int.reduceEq, Int.reduceMul, Int.reduceAdd, Int.reduceSub, Int.reduceNeg, Int.reduceToNat, Int.reduceNe, g61]
            refine ⟨fun h => ⟨h, hin⟩, fun h => ⟨h, hin⟩, fun h1 h2 => ⟨⟨q + 1, by omega, fun j hj => ?_⟩, wrapI (by omega) (by omega), by simp only; omega⟩, fun hno => ?_⟩
            · by_cases e : j = q
              · subst e; exact h2
              · exact hql j (by omega)
            · have hs := sub_at hb hsub hin hql (fun h1 h2 => by unfold ltC at h2; simp only [Bool.and_eq_false_iff, decide_eq_false_iff_not] at hno; omega)
              rw [hs.2]
              refine ⟨fun h => ⟨h, hs.1⟩, fun h => ⟨h, hs.1⟩, fun h => ⟨h, hin⟩, fun h => ⟨h, hin⟩, fun h => ?_, fun _ _ _ => ⟨⟨(i + 1, q), by omega, hq, fun j hj h => ?_⟩, ⟨rfl, wrapI (by omega) (by omega)⟩, by simp only; omega⟩⟩
              · simp at h; omega
              · exact ltC_trans (hql j hj) (sort_at ha (by omega) h)
      · cases hg_
    · cases hg_
  · cases hg_
/-- wayfinder/wayfinderlaw08.PlanContains -/
def g5 : Con := fun args_ E_ nn_ => match args_ with
  | [.a [.v (.int .i64 y_P_X), .v (.int .i64 y_P_Y), .v (.int .i64 y_V_X), .v (.int .i64 y_V_Y), .v (.int .i64 y_V_D), .v (.int .i64 y_Lo), .v (.int .i64 y_Hi)], .a [.v (.int .i64 r_X0), .v (.int .i64 r_Y0), .v (.int .i64 r_X1), .v (.int .i64 r_Y1)], .c (.v (.int .u8 more))] => some (.q (0 ≤ more ∧ more ≤ 255) (.o (.c (.v (.bool (true))))))
  | _ => none
theorem c5 : COk Try.prog 5 g5 := by
  refine cok_q Try.func5 x5_ok (by kernel_rfl) (cok_tab (cok_cons c13 (cok_cons c17 (cok_cons c14 (cok_cons c16 (cok_cons c19 cok_nil)))))) ?_
  intro args_ E_ nn_ cr_ hg_
  unfold g5 at hg_
  split at hg_
  · rename_i y_P_X y_P_Y y_V_X y_V_Y y_V_D y_Lo y_Hi r_X0 r_Y0 r_X1 r_Y1 more
    cases hg_
    refine ⟨_, _, rfl, 0, [], [.a [.v (.int .i64 y_P_X), .v (.int .i64 y_P_Y), .v (.int .i64 y_V_X), .v (.int .i64 y_V_Y), .v (.int .i64 y_V_D), .v (.int .i64 y_Lo), .v (.int .i64 y_Hi)], .a [.v (.int .i64 r_X0), .v (.int .i64 r_Y0), .v (.int .i64 r_X1), .v (.int .i64 r_Y1)], .c (.v (.int .u8 more))], [], .o (.c (.v (.bool (true)))), rfl, rfl, by simp only [push_cast, Nat.reduceLT, Nat.reduceAdd], by simp only [push_cast, Nat.reduceLT, Nat.reduceAdd], by simp only [push_cast, Nat.reduceLT, Nat.reduceAdd], rfl, trivial, rfl, ?_⟩
    intro hpre hlen
    refine ⟨trivial, ?_⟩
    simp (config := {maxSteps := 10000000}) only [x5, push_cast, Nat.reduceAdd, Nat.reduceSub, Nat.reduceLeDiff, Nat.reduceEqDiff, Nat.reduceBEq, Nat.reduceMul, Nat.reduceLT, reduceIte, reduceCtorEq, Int.reduceLE, Int.reduceLT, Int.reduceEq, Int.reduceMul, Int.reduceAdd, Int.reduceSub, Int.reduceNeg, Int.reduceToNat, Int.reduceNe, g13, g17, g14, g16, g19]
    refine ⟨fun h => ?_, fun h1 h2 => ⟨fun h => by rw [seL0 h]; rfl, fun he => ?_⟩⟩
    · have k := tr_se y_P_X y_P_Y y_V_X y_V_Y y_V_D y_Lo y_Hi
      rw [k.1, k.2] at h; simp at h
    have h0 := seE0.1 he
    have a := pRect_bd h0.1
    refine vcLoop_upd (α := {i : Nat // i ≤ 4}) [2, 3, 4, 7, 13] 0 (fun s => [(14, .o (.c (.v (.int .i64 (s.1 : Nat)))))]) (fun s => [(5, .own 4 2 (rowF eC (cornL r_X0 r_Y0 r_X1 r_Y1)) 23)]) (fun s => 4 - s.1) ⟨0, by omega⟩ ?_ ?_
    · simp only [push_cast, Nat.reduceAdd, Nat.reduceSub, Nat.reduceLeDiff, Nat.reduceEqDiff, Nat.reduceBEq, Nat.reduceMul, Nat.reduceLT, reduceIte, reduceCtorEq, Int.reduceLE, Int.reduceLT, Int.reduceEq, Int.reduceMul, Int.reduceAdd, Int.reduceSub, Int.reduceNeg, Int.reduceToNat, Int.reduceNe, g13, g17, g14, g16, g19]
      intro e j he hj
      rw [rowF_sub]
      exact lits_at eC (cornL r_X0 r_Y0 r_X1 r_Y1) e j he hj
    · rintro ⟨i, hi⟩
      simp only [x5L0, push_cast, Nat.reduceAdd, Nat.reduceSub, Nat.reduceLeDiff, Nat.reduceEqDiff, Nat.reduceBEq, Nat.reduceMul, Nat.reduceLT, reduceIte, reduceCtorEq, Int.reduceLE, Int.reduceLT, Int.reduceEq, Int.reduceMul, Int.reduceAdd, Int.reduceSub, Int.reduceNeg, Int.reduceToNat, Int.reduceNe, g13, g17, g14, g16, g19]
      have ss := se_sorted r_X0 r_Y0 r_X1 r_Y1 y_V_X y_V_Y y_V_D y_Lo y_Hi
      refine ⟨fun hin => ?_, fun hout => ?_⟩
      · have c := corn_in (i := i) (by omega) he
        exact ⟨hin, by omega, by rfl, fun _ => ⟨c.1, c.2.1, ss, c.2.2⟩, fun h => h c.1, fun _ => ⟨⟨i + 1, by omega⟩, wrapI (by omega) (by omega), by simp only; omega⟩⟩
      · simp (disch := omega) only [wrapI]
        have w := wide_in hpre he
        exact ⟨fun _ => ⟨w, ss, se_sorted _ _ _ _ _ _ _ _ _, se_mono he w (by omega) (by omega) (by omega)⟩, fun h => h w, fun _ k => ⟨k, ss, se_sorted _ _ _ _ _ _ _ _ _, se_mono he k (by omega) (by omega) (by omega)⟩⟩
  · cases hg_
end Go.Proofs.Ytbjgaejmkhjbaaa
set_option linter.unusedVariables false
set_option linter.unusedSimpArgs false
set_option maxRecDepth 20000
namespace Go.Proofs.Ytbjgaejmkhjbaaa
open Go.Sx
/-! ### The cells of a rectangle -/
def cX0 (a : Int) : Int := -((-a) / 64) - 1
def cX1 (b : Int) : Int := b / 64
def yesP (_ _ : Int) : Bool := true
def clE (x0 y0 x1 y1 : Int) : Int := if pRectB x0 y0 x1 y1 = false then 1 else if 8192 < (cX1 x1 - cX0 x0 + 1) * (cX1 y1 - cX0 y0 + 1) then 6 else 0
def clL (x0 y0 x1 y1 : Int) : List CC := if clE x0 y0 x1 y1 = 0 then gridL yesP (cX0 x0) (cX1 x1) (cX0 y0) (cX1 y1) else []
def ovP (x0 y0 x1 y1 : Int) (x y : Int) : Bool := decide (x * 64 ≤ x1 ∧ x0 ≤ x * 64 + 64 ∧ y * 64 ≤ y1 ∧ y0 ≤ y * 64 + 64)
def orL (x0 y0 x1 y1 : Int) : List CC := gridL (ovP x0 y0 x1 y1) (x0 / 64 - 1) (x1 / 64 + 1) (y0 / 64 - 1) (y1 / 64 + 1)
theorem or_eq (x0 y0 x1 y1 : Int) : orL x0 y0 x1 y1 = gridL yesP (cX0 x0) (cX1 x1) (cX0 y0) (cX1 y1) := by
  refine grid_ext (gridL_sorted _ _ _ _ _) (gridL_sorted _ _ _ _ _) fun c => ?_
  unfold orL
  rw [gridL_mem, gridL_mem]
  unfold cX0 cX1 ovP yesP
  rw [decide_eq_true_eq]
  simp only [true_and]
  omega
theorem gridRow_yesL (x0 y : Int) (n : Nat) : (gridRow yesP x0 y n).length = n := by
  unfold gridRow yesP; simp [List.filter_eq_self.2 (fun _ _ => rfl)]
theorem gridUp_yesL (x0 : Int) (w : Nat) (y0 : Int) : ∀ h, (gridUp yesP x0 w y0 h).length = h * w
  | 0 => by simp [gridUp_zero]
  | h + 1 => by rw [gridUp_succ, List.length_append, gridUp_yesL x0 w y0 h, gridRow_yesL, Nat.succ_mul]
theorem gridL_yesL (x0 x1 y0 y1 : Int) : (gridL yesP x0 x1 y0 y1).length = (y1 - y0 + 1).toNat * (x1 - x0 + 1).toNat := gridUp_yesL _ _ _ _
theorem gridL_yesZ {x0 x1 y0 y1 : Int} (h1 : 0 ≤ x1 - x0 + 1) (h2 : 0 ≤ y1 - y0 + 1) : ((gridL yesP x0 x1 y0 y1).length : Int) = (x1 - x0 + 1) * (y1 - y0 + 1) := by
  rw [gridL_yesL, Int.natCast_mul, Int.toNat_of_nonneg h1, Int.toNat_of_nonneg h2, Int.mul_comm]
theorem cl_full {x0 y0 x1 y1 : Int} (h : pRectB x0 y0 x1 y1 = true) (hb : 20000 < (x1 / 64 - x0 / 64) * (y1 / 64 - y0 / 64)) : 8192 < (cX1 x1 - cX0 x0 + 1) * (cX1 y1 - cX0 y0 + 1) := by
  have a := pRect_bd h
  have e1 : x1 / 64 - x0 / 64 ≤ cX1 x1 - cX0 x0 + 1 := by unfold cX0 cX1; omega
  have e2 : y1 / 64 - y0 / 64 ≤ cX1 y1 - cX0 y0 + 1 := by unfold cX0 cX1; omega
  have := Int.mul_le_mul e1 e2 (by omega) (by omega)
  omega
theorem clE1 {x0 y0 x1 y1 : Int} (h : pRectB x0 y0 x1 y1 = false) : clE x0 y0 x1 y1 = 1 ∧ clL x0 y0 x1 y1 = [] := by simp [clL, clE, h]
theorem clE6 {x0 y0 x1 y1 : Int} (h : pRectB x0 y0 x1 y1 = true) (h2 : 8192 < (cX1 x1 - cX0 x0 + 1) * (cX1 y1 - cX0 y0 + 1)) : clE x0 y0 x1 y1 = 6 ∧ clL x0 y0 x1 y1 = [] := by simp [clL, clE, h, h2]
theorem clE0 {x0 y0 x1 y1 : Int} (h : pRectB x0 y0 x1 y1 = true) (h2 : ¬ 8192 < (cX1 x1 - cX0 x0 + 1) * (cX1 y1 - cX0 y0 + 1)) : clE x0 y0 x1 y1 = 0 ∧ clL x0 y0 x1 y1 = gridL yesP (cX0 x0) (cX1 x1) (cX0 y0) (cX1 y1) := by simp [clL, clE, h, h2]
theorem cl_one (x y : Int) : (clE x y x y == 0) = decide (0 < ((clL x y x y).length : Int)) := by
  cases h : pRectB x y x y
  · rw [(clE1 h).1, (clE1 h).2]; rfl
  · have a := pRect_bd h
    have k1 : 1 ≤ cX1 x - cX0 x + 1 ∧ cX1 x - cX0 x + 1 ≤ 3 := by unfold cX0 cX1; omega
    have k2 : 1 ≤ cX1 y - cX0 y + 1 ∧ cX1 y - cX0 y + 1 ≤ 3 := by unfold cX0 cX1; omega
    have m := Int.mul_le_mul k1.2 k2.2 (by omega) (by omega)
    have m2 := Int.mul_le_mul k1.1 k2.1 (by omega) (by omega)
    have c := clE0 h (by omega)
    rw [c.1, c.2, gridL_yesZ (by omega) (by omega)]
    symm
    simp
    omega
theorem pPt_cl {x y : Int} : pPtB x y = pRectB x y x y := by unfold pRectB; cases pPtB x y <;> simp
def x71 : XFn := ⟨11, (.seq (.reg false [O1 1 (.box 23) 0, K1 2 .mv (.bool false)]) (.seq (.reg false [O1 3 (.fld 0) 1, O1 4 .load1 3, K2 5 (.call 39) 4 (iV 1048576), O1 6 .mv 5, G1 7 (.fld 1) 1 6 true, G1 8 .load1 7 6 true, GK 9 (.call 39) 8 (iV 1048576) 6 true, ⟨(some 10), .pick, [(.t 6), (.t 9), (.k (.bool false))], none⟩, O1 2 .mv 10]) .ret)), [(.s 2)]⟩
theorem x71_ok : xfn Try.prog Try.f71 = some x71.er := by kernel_rfl
def x20L0 : XC := (.seq (.seq (.reg false [O1 47 .mv 10, O1 48 .mv 5, O2 49 (.bin .leq) 47 48]) (.cond (.t 49) .skip (.exit 2))) (.seq (.block 3 (.reg false [O1 52 .mv 8, O1 53 .mv 10, O1 54 .mv 9, ⟨(some 55), (.build [(iV 0), (iV 0)] [(0, 1), (1, 1)]), [(.t 53), (.t 54)], none⟩, ⟨(some 56), (.slit 47 1 2 [(iV 0), (iV 0)] [(0, 2)]), [(.t 55)], none⟩, O2 57 (.app 47 2 16) 52 56, O1 8 .mv 57])) (.reg false [O1 50 .mv 10, K2 51 (.bin .add) 50 (iV 1), O1 10 .mv 51])))
def x20L1 : XC := (.seq (.seq (.reg false [O1 41 .mv 9, O1 42 .mv 7, O2 43 (.bin .leq) 41 42]) (.cond (.t 43) .skip (.exit 0))) (.seq (.block 1 (.seq (.reg false [O1 46 .mv 4, O1 10 .mv 46]) (.block 2 (.loop x20L0)))) (.reg false [O1 44 .mv 9, K2 45 (.bin .add) 44 (iV 1), O1 9 .mv 45])))
def x20 : XFn := ⟨59, (.seq (.reg false [O1 1 (.box 36) 0, K1 2 .mv (.slice none 0 0), K1 3 .mv (iV 0)]) (.seq (.seq (.reg false [O1 11 (.loadN 4) 1, O1 12 (.call 53) 11, O1 13 (.un .not) 12]) (.cond (.t 13) (.seq (.reg false [K1 2 .mv (.slice none 0 0), K1 3 .mv (iV 1)]) .ret) .skip)) (.seq (.reg false [O1 15 (.fld 0) 1, O1 16 .load1 15, O1 17 (.fld 2) 1, O1 18 .load1 17, O2 19 (.call 62) 16 18, O1 14 .mv 19, O1 20 (.ext 0) 14, O1 21 (.ext 1) 14, O1 4 .mv 20, O1 5 .mv 21]) (.seq (.reg false [O1 23 (.fld 1) 1, O1 24 .load1 23, O1 25 (.fld 3) 1, O1 26 .load1 25, O2 27 (.call 62) 24 26, O1 22 .mv 27, O1 28 (.ext 0) 22, O1 29 (.ext 1) 22, O1 6 .mv 28, O1 7 .mv 29]) (.seq (.seq (.reg false [O1 30 .mv 5, O1 31 .mv 4, O2 32 (.bin .sub) 30 31, K2 33 (.bin .add) 32 (iV 1), O1 34 .mv 7, O1 35 .mv 6, O2 36 (.bin .sub) 34 35, K2 37 (.bin .add) 36 (iV 1), O2 38 (.bin .mul) 33 37, K2 39 (.bin .gtr) 38 (iV 8192)]) (.cond (.t 39) (.seq (.reg false [K1 2 .mv (.slice none 0 0), K1 3 .mv (iV 6)]) .ret) .skip)) (.seq (.reg false [K1 8 .mv (.slice none 0 0)]) (.seq (.seq (.reg false [O1 40 .mv 6, O1 9 .mv 40]) (.block 0 (.loop x20L1))) (.seq (.reg false [O1 58 .mv 8, O1 2 .mv 58, K1 3 .mv (iV 0)]) .ret)))))))), [(.s 2), (.s 3)]⟩
theorem x20_ok : xfn Try.prog Try.f20 = some x20.er := by kernel_rfl
def x22 : XFn := ⟨19, (.seq (.reg false [O1 1 (.box 23) 0, K1 2 .mv (.slice none 0 0)]) (.seq (.reg false [O1 6 (.fld 0) 1, O1 7 .load1 6, O1 8 (.fld 1) 1, O1 9 .load1 8, O1 10 (.fld 0) 1, O1 11 .load1 10, O1 12 (.fld 1) 1, O1 13 .load1 12, ⟨(some 14), (.build [(iV 0), (iV 0), (iV 0), (iV 0)] [(0, 1), (1, 1), (2, 1), (3, 1)]), [(.t 7), (.t 9), (.t 11), (.t 13)], none⟩, O1 15 (.call 20) 14, O1 5 .mv 15, O1 16 (.ext 0) 5, O1 17 (.ext 1) 5, O1 3 .mv 16, O1 4 .mv 17]) (.seq (.reg false [O1 18 .mv 3, O1 2 .mv 18]) .ret))), [(.s 2)]⟩
theorem x22_ok : xfn Try.prog Try.f22 = some x22.er := by kernel_rfl
def x63 : XFn := ⟨31, (.seq (.reg false [O1 2 (.box 36) 0, O1 3 (.box 36) 1, K1 4 .mv (.bool false)]) (.seq (.reg false [O1 5 (.fld 0) 2, O1 6 .load1 5, O1 7 (.fld 2) 3, O1 8 .load1 7, O2 9 (.bin .leq) 6 8, O1 10 .mv 9, G1 11 (.fld 0) 3 10 true, G1 12 .load1 11 10 true, G1 13 (.fld 2) 2 10 true, G1 14 .load1 13 10 true, G2 15 (.bin .leq) 12 14 10 true, ⟨(some 16), .pick, [(.t 10), (.t 15), (.k (.bool false))], none⟩, O1 17 .mv 16, G1 18 (.fld 1) 2 17 true, G1 19 .load1 18 17 true, G1 20 (.fld 3) 3 17 true, G1 21 .load1 20 17 true, G2 22 (.bin .leq) 19 21 17 true, ⟨(some 23), .pick, [(.t 17), (.t 22), (.k (.bool false))], none⟩, O1 24 .mv 23, G1 25 (.fld 1) 3 24 true, G1 26 .load1 25 24 true, G1 27 (.fld 3) 2 24 true, G1 28 .load1 27 24 true, G2 29 (.bin .leq) 26 28 24 true, ⟨(some 30), .pick, [(.t 24), (.t 29), (.k (.bool false))], none⟩, O1 4 .mv 30]) .ret)), [(.s 4)]⟩
theorem x63_ok : xfn Try.prog Try.f63 = some x63.er := by kernel_rfl
def x21L0 : XC := (.seq (.seq (.reg false [O1 38 .mv 7, O1 39 (.fld 2) 5, O1 40 .load1 39, O2 41 (.bin .leq) 38 40]) (.cond (.t 41) .skip (.exit 2))) (.seq (.block 3 (.seq (.reg false [O1 44 .mv 7, O1 45 .mv 6, ⟨(some 46), (.build [(iV 0), (iV 0)] [(0, 1), (1, 1)]), [(.t 44), (.t 45)], none⟩, ⟨(some 8), (.alloc 47 [(iV 0), (iV 0)]), [], none⟩, ⟨none, (.store 2), [(.t 8), (.t 46)], none⟩]) (.seq (.reg true [O1 47 (.loadN 2) 8, O1 48 (.call 59) 47, O1 49 (.loadN 4) 1, O2 50 (.call 63) 48 49]) (.cond (.t 50) (.reg false [O1 51 .mv 4, O1 52 (.loadN 2) 8, ⟨(some 53), (.slit 47 1 2 [(iV 0), (iV 0)] [(0, 2)]), [(.t 52)], none⟩, O2 54 (.app 47 2 16) 51 53, O1 4 .mv 54]) .skip)))) (.reg false [O1 42 .mv 7, K2 43 (.bin .add) 42 (iV 1), O1 7 .mv 43])))
def x21L1 : XC := (.seq (.seq (.reg false [O1 30 .mv 6, O1 31 (.fld 3) 5, O1 32 .load1 31, O2 33 (.bin .leq) 30 32]) (.cond (.t 33) .skip (.exit 0))) (.seq (.block 1 (.seq (.reg false [O1 36 (.fld 0) 5, O1 37 .load1 36, O1 7 .mv 37]) (.block 2 (.loop x21L0)))) (.reg false [O1 34 .mv 6, K2 35 (.bin .add) 34 (iV 1), O1 6 .mv 35])))
def x21 : XFn := ⟨59, (.seq (.reg false [O1 1 (.box 36) 0, K1 2 .mv (.slice none 0 0), K1 3 .mv (iV 0)]) (.seq (.seq (.reg false [O1 9 (.loadN 4) 1, O1 10 (.call 54) 9, O1 11 (.un .not) 10]) (.cond (.t 11) (.seq (.reg false [K1 2 .mv (.slice none 0 0), K1 3 .mv (iV 1)]) .ret) .skip)) (.seq (.reg false [K1 4 .mv (.slice none 0 0)]) (.seq (.reg false [O1 12 (.loadN 4) 1, O1 13 (.call 57) 12, ⟨(some 5), (.alloc 36 [(iV 0), (iV 0), (iV 0), (iV 0)]), [], none⟩, ⟨none, (.store 4), [(.t 5), (.t 13)], none⟩]) (.seq (.seq (.reg false [O1 14 (.fld 2) 5, O1 15 .load1 14, O1 16 (.fld 0) 5, O1 17 .load1 16, O2 18 (.bin .sub) 15 17, K2 19 (.bin .sub) 18 (iV 2), O1 20 (.fld 3) 5, O1 21 .load1 20, O1 22 (.fld 1) 5, O1 23 .load1 22, O2 24 (.bin .sub) 21 23, K2 25 (.bin .sub) 24 (iV 2), O2 26 (.bin .mul) 19 25, K2 27 (.bin .gtr) 26 (iV 20000)]) (.cond (.t 27) (.seq (.reg false [K1 2 .mv (.slice none 0 0), K1 3 .mv (iV 6)]) .ret) .skip)) (.seq (.seq (.reg false [O1 28 (.fld 1) 5, O1 29 .load1 28, O1 6 .mv 29]) (.block 0 (.loop x21L1))) (.seq (.seq (.reg false [O1 55 .mv 4, O1 56 .lenS 55, K2 57 (.bin .gtr) 56 (iV 8192)]) (.cond (.t 57) (.seq (.reg false [K1 2 .mv (.slice none 0 0), K1 3 .mv (iV 6)]) .ret) .skip)) (.seq (.reg false [O1 58 .mv 4, O1 2 .mv 58, K1 3 .mv (iV 0)]) .ret)))))))), [(.s 2), (.s 3)]⟩
theorem x21_ok : xfn Try.prog Try.f21 = some x21.er := by kernel_rfl
def x38 : XFn := ⟨22, (.seq (.reg false [O1 1 (.box 23) 0, K1 2 .mv (.slice none 0 0)]) (.seq (.seq (.reg false [O1 5 (.loadN 2) 1, O1 6 (.call 71) 5, O1 7 (.un .not) 6]) (.cond (.t 7) (.seq (.reg false [K1 2 .mv (.slice none 0 0)]) .ret) .skip)) (.seq (.reg false [O1 9 (.fld 0) 1, O1 10 .load1 9, O1 11 (.fld 1) 1, O1 12 .load1 11, O1 13 (.fld 0) 1, O1 14 .load1 13, O1 15 (.fld 1) 1, O1 16 .load1 15, ⟨(some 17), (.build [(iV 0), (iV 0), (iV 0), (iV 0)] [(0, 1), (1, 1), (2, 1), (3, 1)]), [(.t 10), (.t 12), (.t 14), (.t 16)], none⟩, O1 18 (.call 21) 17, O1 8 .mv 18, O1 19 (.ext 0) 8, O1 20 (.ext 1) 8, O1 3 .mv 19, O1 4 .mv 20]) (.seq (.reg false [O1 21 .mv 3, O1 2 .mv 21]) .ret)))), [(.s 2)]⟩
theorem x38_ok : xfn Try.prog Try.f38 = some x38.er := by kernel_rfl
def x6 : XFn := ⟨60, (.seq (.reg false [O1 1 (.box 36) 0, K1 2 .mv (.bool false)]) (.seq (.seq (.reg false [⟨(some 9), (.call 13), [], none⟩, O1 10 (.un .not) 9]) (.cond (.t 10) (.seq (.reg false [K1 2 .mv (.bool false)]) .ret) .skip)) (.seq (.reg false [O1 12 (.loadN 4) 1, O1 13 (.call 20) 12, O1 11 .mv 13, O1 14 (.ext 0) 11, O1 15 (.ext 1) 11, O1 3 .mv 14, O1 4 .mv 15]) (.seq (.reg false [O1 17 (.loadN 4) 1, O1 18 (.call 21) 17, O1 16 .mv 18, O1 19 (.ext 0) 16, O1 20 (.ext 1) 16, O1 5 .mv 19, O1 6 .mv 20]) (.seq (.reg false [O1 22 (.fld 0) 1, O1 23 .load1 22, O1 24 (.fld 1) 1, O1 25 .load1 24, O1 26 (.fld 0) 1, O1 27 .load1 26, O1 28 (.fld 1) 1, O1 29 .load1 28, ⟨(some 30), (.build [(iV 0), (iV 0), (iV 0), (iV 0)] [(0, 1), (1, 1), (2, 1), (3, 1)]), [(.t 23), (.t 25), (.t 27), (.t 29)], none⟩, O1 31 (.call 20) 30, O1 21 .mv 31, O1 32 (.ext 0) 21, O1 33 (.ext 1) 21, O1 7 .mv 32, O1 8 .mv 33]) (.seq (.reg false [O1 34 .mv 4, O1 35 .mv 6, O2 36 (.bin .eql) 34 35, O1 37 .mv 36, G1 38 .mv 3 37 true, G1 39 .mv 5 37 true, G2 40 (.call 16) 38 39 37 true, ⟨(some 41), .pick, [(.t 37), (.t 40), (.k (.bool false))], none⟩, O1 42 .mv 41, G1 43 .mv 7 42 true, G1 44 (.fld 0) 1 42 true, G1 45 .load1 44 42 true, G1 46 (.fld 1) 1 42 true, G1 47 .load1 46 42 true, ⟨(some 48), (.build [(iV 0), (iV 0)] [(0, 1), (1, 1)]), [(.t 45), (.t 47)], (some (42, true))⟩, G1 49 (.call 22) 48 42 true, G2 50 (.call 16) 43 49 42 true, ⟨(some 51), .pick, [(.t 42), (.t 50), (.k (.bool false))], none⟩, O1 52 .mv 51, G1 53 .mv 8 52 true, GK 54 (.bin .eql) 53 (iV 0) 52 true, G1 55 .mv 7 52 true, G1 56 .lenS 55 52 true, GK 57 (.bin .gtr) 56 (iV 0) 52 true, G2 58 (.binb .eql) 54 57 52 true, ⟨(some 59), .pick, [(.t 52), (.t 58), (.k (.bool false))], none⟩, O1 2 .mv 59]) .ret)))))), [(.s 2)]⟩
theorem x6_ok : xfn Try.prog Try.f6 = some x6.er := by kernel_rfl
/-- wayfinder/plan.Cells -/
def g20 : Con := fun args_ E_ nn_ => match args_ with
  | [.a [.v (.int .i64 r_X0), .v (.int .i64 r_Y0), .v (.int .i64 r_X1), .v (.int .i64 r_Y1)]] => some (.e (True) (.t [.c (.n (nn_ + 0)), .c (.v (.int .i64 (clE r_X0 r_Y0 r_X1 r_Y1)))]) [((nn_ + 0), .own (clL r_X0 r_Y0 r_X1 r_Y1).length 2 (rowF eC (clL r_X0 r_Y0 r_X1 r_Y1)) 47)] (nn_ + 1))
  | _ => none
theorem c20 : COk Try.prog 20 g20 := by
  refine cok_e Try.func20 x20_ok (by kernel_rfl) (cok_tab (cok_cons c53 (cok_cons c62 cok_nil))) ?_
  intro args_ E_ nn_ cr_ hg_
  unfold g20 at hg_
  split at hg_
  · rename_i r_X0 r_Y0 r_X1 r_Y1
    cases hg_
    refine ⟨_, _, _, _, rfl, 0, [], [.a [.v (.int .i64 r_X0), .v (.int .i64 r_Y0), .v (.int .i64 r_X1), .v (.int .i64 r_Y1)]], [], .t [.c (.n 0), .c (.v (.int .i64 (clE r_X0 r_Y0 r_X1 r_Y1)))], [(0, .own (clL r_X0 r_Y0 r_X1 r_Y1).length 2 (rowF eC (clL r_X0 r_Y0 r_X1 r_Y1)) 47)], 1, rfl, rfl, by simp only [renE, Ent.ren, rowF_renf] <;> rfl, rfl, by decide, by simp only [push_cast, Nat.reduceLT, Nat.reduceAdd], by simp only [push_cast, Nat.reduceLT, Nat.reduceAdd], by simp only [push_cast, Nat.reduceLT, Nat.reduceAdd], by simp only [push_cast, Nat.reduceLT, Nat.reduceAdd], rfl, trivial, by simp only [keysNodup, outN, keys] <;> decide, rfl, rfl, ?_⟩
    intro hpre hlen
    refine ⟨trivial, by simp only [apartE] <;> (first | trivial | (simp [Ent.mut]; done)), ?_⟩
    simp (config := {maxSteps := 10000000}) only [x20, push_cast, Nat.reduceAdd, Nat.reduceSub, Nat.reduceLeDiff, Nat.reduceEqDiff, Nat.reduceBEq, Nat.reduceMul, Nat.reduceLT, reduceIte, reduceCtorEq, Int.reduceLE, Int.reduceLT, Int.reduceEq, Int.reduceMul, Int.reduceAdd, Int.reduceSub, Int.reduceNeg, Int.reduceToNat, Int.reduceNe, g53, g62]
    refine ⟨fun h => by rw [(clE1 h).1, (clE1 h).2]; exact ⟨rfl, rfl⟩, fun h => ?_⟩
    have a := pRect_bd h
    have h0 := @clE6 _ _ _ _ h
    have h1 := @clE0 _ _ _ _ h
    have k1 : -20000 ≤ cX0 r_X0 ∧ cX0 r_X0 ≤ 20000 := by unfold cX0; omega
    have k2 : -20000 ≤ cX0 r_Y0 ∧ cX0 r_Y0 ≤ 20000 := by unfold cX0; omega
    have k3 : -20000 ≤ cX1 r_X1 ∧ cX1 r_X1 ≤ 20000 := by unfold cX1; omega
    have k4 : -20000 ≤ cX1 r_Y1 ∧ cX1 r_Y1 ≤ 20000 := by unfold cX1; omega
    change _ ∧ _ ∧ (8192 < IntKind.i64.wrap (IntKind.i64.wrap (IntKind.i64.wrap (cX1 r_X1 - cX0 r_X0) + 1) * IntKind.i64.wrap (IntKind.i64.wrap (cX1 r_Y1 - cX0 r_Y0) + 1)) → _) ∧ _
    refine ⟨by omega, by omega, ?_⟩
    rw [show -(-r_X0 / 64) - 1 = cX0 r_X0 from rfl, show -(-r_Y0 / 64) - 1 = cX0 r_Y0 from rfl, show r_X1 / 64 = cX1 r_X1 from rfl, show r_Y1 / 64 = cX1 r_Y1 from rfl]
    generalize cX0 r_X0 = x0 at *
    generalize cX0 r_Y0 = y0 at *
    generalize cX1 r_X1 = x1 at *
    generalize cX1 r_Y1 = y1 at *
    have m1 := mulB (a := x1 - x0 + 1) (b := y1 - y0 + 1) (A := 50000) (B := 50000) (by omega) (by omega) (by omega) (by omega)
    simp (disch := omega) only [wrapI]
    refine ⟨fun g => by rw [(h0 g).1, (h0 g).2]; exact ⟨rfl, rfl⟩, fun g => ?_⟩
    rw [(h1 g).1, (h1 g).2]
    clear h0 h1 m1 g
    refine vcLoop_upd (α := {j : Nat // j ≤ (y1 - y0 + 1).toNat}) [4, 5, 7] 1 (fun s => [(8, .o (.c (.n 1))), (9, .o (.c (.v (.int .i64 (y0 + (s.1 : Nat))))))]) (fun s => [(1, .own ((gridUp yesP x0 (x1 - x0 + 1).toNat y0 s.1)).length 2 (rowF eC ((gridUp yesP x0 (x1 - x0 + 1).toNat y0 s.1))) 47)]) (fun s => (y1 - y0 + 1).toNat - s.1) ⟨0, by omega⟩ ?_ ?_
    · simp only [push_cast, Nat.reduceAdd, Nat.reduceSub, Nat.reduceLeDiff, Nat.reduceEqDiff, Nat.reduceBEq, Nat.reduceMul, Nat.reduceLT, reduceIte, reduceCtorEq, Int.reduceLE, Int.reduceLT, Int.reduceEq, Int.reduceMul, Int.reduceAdd, Int.reduceSub, Int.reduceNeg, Int.reduceToNat, Int.reduceNe, g53, g62, gridUp_zero]
      omega
    · rintro ⟨j, hj⟩
      simp only [x20L1, push_cast, Nat.reduceAdd, Nat.reduceSub, Nat.reduceLeDiff, Nat.reduceEqDiff, Nat.reduceBEq, Nat.reduceMul, Nat.reduceLT, reduceIte, reduceCtorEq, Int.reduceLE, Int.reduceLT, Int.reduceEq, Int.reduceMul, Int.reduceAdd, Int.reduceSub, Int.reduceNeg, Int.reduceToNat, Int.reduceNe, g53, g62]
      refine ⟨fun hlt => ?_, fun hge => ?_⟩
      · refine vcLoop_upd (α := {i : Nat // i ≤ (x1 - x0 + 1).toNat}) [4, 5, 7, 9] 0 (fun s => [(8, .o (.c (.n 1))), (10, .o (.c (.v (.int .i64 (x0 + (s.1 : Nat))))))]) (fun s => [(1, .own ((gridUp yesP x0 (x1 - x0 + 1).toNat y0 j ++ gridRow yesP x0 (y0 + j) s.1)).length 2 (rowF eC ((gridUp yesP x0 (x1 - x0 + 1).toNat y0 j ++ gridRow yesP x0 (y0 + j) s.1))) 47)]) (fun s => (x1 - x0 + 1).toNat - s.1) ⟨0, by omega⟩ ?_ ?_
        · simp only [push_cast, Nat.reduceAdd, Nat.reduceSub, Nat.reduceLeDiff, Nat.reduceEqDiff, Nat.reduceBEq, Nat.reduceMul, Nat.reduceLT, reduceIte, reduceCtorEq, Int.reduceLE, Int.reduceLT, Int.reduceEq, Int.reduceMul, Int.reduceAdd, Int.reduceSub, Int.reduceNeg, Int.reduceToNat, Int.reduceNe, g53, g62, gridRow_zero]
          omega
        · rintro ⟨i, hi2⟩
          simp only [x20L0, push_cast, Nat.reduceAdd, Nat.reduceSub, Nat.reduceLeDiff, Nat.reduceEqDiff, Nat.reduceBEq, Nat.reduceMul, Nat.reduceLT, reduceIte, reduceCtorEq, Int.reduceLE, Int.reduceLT, Int.reduceEq, Int.reduceMul, Int.reduceAdd, Int.reduceSub, Int.reduceNeg, Int.reduceToNat, Int.reduceNe, g53, g62]
          refine ⟨fun hin => ⟨by
            rw [List.length_append]
            have g1 := gridUp_len yesP x0 (x1 - x0 + 1).toNat y0 j
            have g2 := gridRow_len yesP x0 (y0 + j) i
            have g3 : j * (x1 - x0 + 1).toNat ≤ 100000 * 100000 := Nat.mul_le_mul (by omega) (by omega)
            omega, ⟨i + 1, by omega⟩, ⟨natS _ _ (by omega) (by omega), push_eq (E := eC) (x := ⟨x0 + i, y0 + j⟩) (by simp only; rw [gridRow_yes rfl, List.append_assoc])⟩, by simp only; omega⟩, fun hout => ?_⟩
          · obtain rfl : i = (x1 - x0 + 1).toNat := by omega
            exact ⟨⟨j + 1, by omega⟩, ⟨natS _ _ (by omega) (by omega), same_eq (by simp only; rw [gridUp_succ])⟩, by simp only; omega⟩
      · obtain rfl : j = (y1 - y0 + 1).toNat := by omega
        exact same_eq rfl
  · cases hg_
/-- wayfinder/plan.Around -/
def g22 : Con := fun args_ E_ nn_ => match args_ with
  | [.a [.v (.int .i64 p_X), .v (.int .i64 p_Y)]] => some (.e (True) (.o (.c (.n (nn_ + 0)))) [((nn_ + 0), .own (clL p_X p_Y p_X p_Y).length 2 (rowF eC (clL p_X p_Y p_X p_Y)) 47)] (nn_ + 1))
  | _ => none
theorem c22 : COk Try.prog 22 g22 := by
  refine cok_e Try.func22 x22_ok (by kernel_rfl) (cok_tab (cok_cons c20 cok_nil)) ?_
  intro args_ E_ nn_ cr_ hg_
  unfold g22 at hg_
  split at hg_
  · rename_i p_X p_Y
    cases hg_
    refine ⟨_, _, _, _, rfl, 0, [], [.a [.v (.int .i64 p_X), .v (.int .i64 p_Y)]], [], .o (.c (.n 0)), [(0, .own (clL p_X p_Y p_X p_Y).length 2 (rowF eC (clL p_X p_Y p_X p_Y)) 47)], 1, rfl, rfl, by simp only [renE, Ent.ren, rowF_renf] <;> rfl, rfl, by decide, by simp only [push_cast, Nat.reduceLT, Nat.reduceAdd], by simp only [push_cast, Nat.reduceLT, Nat.reduceAdd], by simp only [push_cast, Nat.reduceLT, Nat.reduceAdd], by simp only [push_cast, Nat.reduceLT, Nat.reduceAdd], rfl, trivial, by simp only [keysNodup, outN, keys] <;> decide, rfl, rfl, ?_⟩
    intro hpre hlen
    refine ⟨trivial, by simp only [apartE] <;> (first | trivial | (simp [Ent.mut]; done)), ?_⟩
    simp (config := {maxSteps := 10000000}) only [x22, push_cast, Nat.reduceAdd, Nat.reduceSub, Nat.reduceLeDiff, Nat.reduceEqDiff, Nat.reduceBEq, Nat.reduceMul, Nat.reduceLT, reduceIte, reduceCtorEq, Int.reduceLE, Int.reduceLT, Int.reduceEq, Int.reduceMul, Int.reduceAdd, Int.reduceSub, Int.reduceNeg, Int.reduceToNat, Int.reduceNe, g20]
  · cases hg_
/-- wayfinder/wayfinderref08.overlap -/
def g63 : Con := fun args_ E_ nn_ => match args_ with
  | [.a [.v (.int .i64 a_X0), .v (.int .i64 a_Y0), .v (.int .i64 a_X1), .v (.int .i64 a_Y1)], .a [.v (.int .i64 b_X0), .v (.int .i64 b_Y0), .v (.int .i64 b_X1), .v (.int .i64 b_Y1)]] => some (.q (True) (.o (.c (.v (.bool (decide (a_X0 ≤ b_X1 ∧ b_X0 ≤ a_X1 ∧ a_Y0 ≤ b_Y1 ∧ b_Y0 ≤ a_Y1)))))))
  | _ => none
theorem c63 : COk Try.prog 63 g63 := by
  refine cok_q Try.func63 x63_ok (by kernel_rfl) (cok_tab cok_nil) ?_
  intro args_ E_ nn_ cr_ hg_
  unfold g63 at hg_
  split at hg_
  · rename_i a_X0 a_Y0 a_X1 a_Y1 b_X0 b_Y0 b_X1 b_Y1
    cases hg_
    refine ⟨_, _, rfl, 0, [], [.a [.v (.int .i64 a_X0), .v (.int .i64 a_Y0), .v (.int .i64 a_X1), .v (.int .i64 a_Y1)], .a [.v (.int .i64 b_X0), .v (.int .i64 b_Y0), .v (.int .i64 b_X1), .v (.int .i64 b_Y1)]], [], .o (.c (.v (.bool (decide (a_X0 ≤ b_X1 ∧ b_X0 ≤ a_X1 ∧ a_Y0 ≤ b_Y1 ∧ b_Y0 ≤ a_Y1))))), rfl, rfl, by simp only [push_cast, Nat.reduceLT, Nat.reduceAdd], by simp only [push_cast, Nat.reduceLT, Nat.reduceAdd], by simp only [push_cast, Nat.reduceLT, Nat.reduceAdd], rfl, trivial, rfl, ?_⟩
    intro hpre hlen
    refine ⟨trivial, ?_⟩
    simp (config := {maxSteps := 10000000}) only [x63, push_cast, Nat.reduceAdd, Nat.reduceSub, Nat.reduceLeDiff, Nat.reduceEqDiff, Nat.reduceBEq, Nat.reduceMul, Nat.reduceLT, reduceIte, reduceCtorEq, Int.reduceLE, Int.reduceLT, Int.reduceEq, Int.reduceMul, Int.reduceAdd, Int.reduceSub, Int.reduceNeg, Int.reduceToNat, Int.reduceNe]
    rw [Bool.eq_iff_iff]
    simp []
    try omega
  · cases hg_
/-- wayfinder/wayfinderref08.Cells -/
def g21 : Con := fun args_ E_ nn_ => match args_ with
  | [.a [.v (.int .i64 r_X0), .v (.int .i64 r_Y0), .v (.int .i64 r_X1), .v (.int .i64 r_Y1)]] => some (.e (True) (.t [.c (.n (nn_ + 0)), .c (.v (.int .i64 (clE r_X0 r_Y0 r_X1 r_Y1)))]) [((nn_ + 0), .own (clL r_X0 r_Y0 r_X1 r_Y1).length 2 (rowF eC (clL r_X0 r_Y0 r_X1 r_Y1)) 47)] (nn_ + 1))
  | _ => none
theorem c21 : COk Try.prog 21 g21 := by
  refine cok_e Try.func21 x21_ok (by kernel_rfl) (cok_tab (cok_cons c54 (cok_cons c57 (cok_cons c59 (cok_cons c63 cok_nil))))) ?_
  intro args_ E_ nn_ cr_ hg_
  unfold g21 at hg_
  split at hg_
  · rename_i r_X0 r_Y0 r_X1 r_Y1
    cases hg_
    refine ⟨_, _, _, _, rfl, 0, [], [.a [.v (.int .i64 r_X0), .v (.int .i64 r_Y0), .v (.int .i64 r_X1), .v (.int .i64 r_Y1)]], [], .t [.c (.n 0), .c (.v (.int .i64 (clE r_X0 r_Y0 r_X1 r_Y1)))], [(0, .own (clL r_X0 r_Y0 r_X1 r_Y1).length 2 (rowF eC (clL r_X0 r_Y0 r_X1 r_Y1)) 47)], 1, rfl, rfl, by simp only [renE, Ent.ren, rowF_renf] <;> rfl, rfl, by decide, by simp only [push_cast, Nat.reduceLT, Nat.reduceAdd], by simp only [push_cast, Nat.reduceLT, Nat.reduceAdd], by simp only [push_cast, Nat.reduceLT, Nat.reduceAdd], by simp only [push_cast, Nat.reduceLT, Nat.reduceAdd], rfl, trivial, by simp only [keysNodup, outN, keys] <;> decide, rfl, rfl, ?_⟩
    intro hpre hlen
    refine ⟨trivial, by simp only [apartE] <;> (first | trivial | (simp [Ent.mut]; done)), ?_⟩
    simp (config := {maxSteps := 10000000}) only [x21, push_cast, Nat.reduceAdd, Nat.reduceSub, Nat.reduceLeDiff, Nat.reduceEqDiff, Nat.reduceBEq, Nat.reduceMul, Nat.reduceLT, reduceIte, reduceCtorEq, Int.reduceLE, Int.reduceLT, Int.reduceEq, Int.reduceMul, Int.reduceAdd, Int.reduceSub, Int.reduceNeg, Int.reduceToNat, Int.reduceNe, g54, g57, g59, g63]
    refine ⟨fun h => by rw [(clE1 h).1, (clE1 h).2]; exact ⟨rfl, rfl⟩, fun h => ?_⟩
    have a := pRect_bd h
    have hf := @cl_full _ _ _ _ h
    refine ⟨by omega, ?_⟩
    have m1 := mulB (a := r_X1 / 64 - r_X0 / 64) (b := r_Y1 / 64 - r_Y0 / 64) (A := 50000) (B := 50000) (by omega) (by omega) (by omega) (by omega)
    rw [show IntKind.i64.wrap (IntKind.i64.wrap (r_X1 / 64 + 1 - (r_X0 / 64 - 1)) - 2) = r_X1 / 64 - r_X0 / 64 by rw [wrapI (n := r_X1 / 64 + 1 - (r_X0 / 64 - 1)) (by omega) (by omega), wrapI (by omega) (by omega)]; omega, show IntKind.i64.wrap (IntKind.i64.wrap (r_Y1 / 64 + 1 - (r_Y0 / 64 - 1)) - 2) = r_Y1 / 64 - r_Y0 / 64 by rw [wrapI (n := r_Y1 / 64 + 1 - (r_Y0 / 64 - 1)) (by omega) (by omega), wrapI (by omega) (by omega)]; omega, wrapI (n := (r_X1 / 64 - r_X0 / 64) * (r_Y1 / 64 - r_Y0 / 64)) (by omega) (by omega)]
    have h0 := @clE6 _ _ _ _ h
    have h1 := @clE0 _ _ _ _ h
    refine ⟨fun g => by rw [(h0 (hf g)).1, (h0 (hf g)).2]; exact ⟨rfl, rfl⟩, fun _ => ?_⟩
    have ho := or_eq r_X0 r_Y0 r_X1 r_Y1
    have hz : ((orL r_X0 r_Y0 r_X1 r_Y1).length : Int) = (cX1 r_X1 - cX0 r_X0 + 1) * (cX1 r_Y1 - cX0 r_Y0 + 1) := by rw [ho]; exact gridL_yesZ (by unfold cX0 cX1; omega) (by unfold cX0 cX1; omega)
    rw [← ho] at h1
    rw [← hz] at h0 h1
    unfold orL at h0 h1
    clear hf hz ho m1
    have b1 : -20000 ≤ r_X0 / 64 - 1 ∧ r_X0 / 64 - 1 ≤ 20000 := by omega
    have b2 : -20000 ≤ r_Y0 / 64 - 1 ∧ r_Y0 / 64 - 1 ≤ 20000 := by omega
    have b3 : -20000 ≤ r_X1 / 64 + 1 ∧ r_X1 / 64 + 1 ≤ 20000 := by omega
    have b4 : -20000 ≤ r_Y1 / 64 + 1 ∧ r_Y1 / 64 + 1 ≤ 20000 := by omega
    generalize r_X0 / 64 - 1 = x0 at *
    generalize r_Y0 / 64 - 1 = y0 at *
    generalize r_X1 / 64 + 1 = x1 at *
    generalize r_Y1 / 64 + 1 = y1 at *
    refine vcLoop_upd (α := {j : Nat // j ≤ (y1 - y0 + 1).toNat}) [1, 5] 1 (fun s => [(4, .o (.c (.n 2))), (6, .o (.c (.v (.int .i64 (y0 + (s.1 : Nat))))))]) (fun s => [(2, .own ((gridUp (ovP r_X0 r_Y0 r_X1 r_Y1) x0 (x1 - x0 + 1).toNat y0 s.1)).length 2 (rowF eC ((gridUp (ovP r_X0 r_Y0 r_X1 r_Y1) x0 (x1 - x0 + 1).toNat y0 s.1))) 47)]) (fun s => (y1 - y0 + 1).toNat - s.1) ⟨0, by omega⟩ ?_ ?_
    · simp only [push_cast, Nat.reduceAdd, Nat.reduceSub, Nat.reduceLeDiff, Nat.reduceEqDiff, Nat.reduceBEq, Nat.reduceMul, Nat.reduceLT, reduceIte, reduceCtorEq, Int.reduceLE, Int.reduceLT, Int.reduceEq, Int.reduceMul, Int.reduceAdd, Int.reduceSub, Int.reduceNeg, Int.reduceToNat, Int.reduceNe, g54, g57, g59, g63, gridUp_zero]
      omega
    · rintro ⟨j, hj⟩
      simp only [x21L1, push_cast, Nat.reduceAdd, Nat.reduceSub, Nat.reduceLeDiff, Nat.reduceEqDiff, Nat.reduceBEq, Nat.reduceMul, Nat.reduceLT, reduceIte, reduceCtorEq, Int.reduceLE, Int.reduceLT, Int.reduceEq, Int.reduceMul, Int.reduceAdd, Int.reduceSub, Int.reduceNeg, Int.reduceToNat, Int.reduceNe, g54, g57, g59, g63]
      refine ⟨fun hlt => ?_, fun hge => ?_⟩
      · refine vcLoop_upd (α := {i : Nat // i ≤ (x1 - x0 + 1).toNat}) [1, 5, 6] 0 (fun s => [(4, .o (.c (.n 2))), (7, .o (.c (.v (.int .i64 (x0 + (s.1 : Nat))))))]) (fun s => [(2, .own ((gridUp (ovP r_X0 r_Y0 r_X1 r_Y1) x0 (x1 - x0 + 1).toNat y0 j ++ gridRow (ovP r_X0 r_Y0 r_X1 r_Y1) x0 (y0 + j) s.1)).length 2 (rowF eC ((gridUp (ovP r_X0 r_Y0 r_X1 r_Y1) x0 (x1 - x0 + 1).toNat y0 j ++ gridRow (ovP r_X0 r_Y0 r_X1 r_Y1) x0 (y0 + j) s.1))) 47)]) (fun s => (x1 - x0 + 1).toNat - s.1) ⟨0, by omega⟩ ?_ ?_
        · simp only [push_cast, Nat.reduceAdd, Nat.reduceSub, Nat.reduceLeDiff, Nat.reduceEqDiff, Nat.reduceBEq, Nat.reduceMul, Nat.reduceLT, reduceIte, reduceCtorEq, Int.reduceLE, Int.reduceLT, Int.reduceEq, Int.reduceMul, Int.reduceAdd, Int.reduceSub, Int.reduceNeg, Int.reduceToNat, Int.reduceNe, g54, g57, g59, g63, gridRow_zero]
          omega
        · rintro ⟨i, hi2⟩
          simp only [x21L0, push_cast, Nat.reduceAdd, Nat.reduceSub, Nat.reduceLeDiff, Nat.reduceEqDiff, Nat.reduceBEq, Nat.reduceMul, Nat.reduceLT, reduceIte, reduceCtorEq, Int.reduceLE, Int.reduceLT, Int.reduceEq, Int.reduceMul, Int.reduceAdd, Int.reduceSub, Int.reduceNeg, Int.reduceToNat, Int.reduceNe, g54, g57, g59, g63]
          refine ⟨fun hin => ⟨by omega, fun p1 p2 p3 p4 => ?_, fun hno => ?_⟩, fun hout => ?_⟩
          · have hp : ovP r_X0 r_Y0 r_X1 r_Y1 (x0 + i) (y0 + j) = true := by unfold ovP; rw [decide_eq_true_eq]; exact ⟨p1, p2, p3, p4⟩
            refine ⟨?_, ⟨i + 1, by omega⟩, ⟨natS _ _ (by omega) (by omega), push_eq (E := eC) (x := ⟨x0 + i, y0 + j⟩) (by simp only; rw [gridRow_yes hp, List.append_assoc])⟩, by simp only; omega⟩
            rw [List.length_append]
            have g1 := gridUp_len (ovP r_X0 r_Y0 r_X1 r_Y1) x0 (x1 - x0 + 1).toNat y0 j
            have g2 := gridRow_len (ovP r_X0 r_Y0 r_X1 r_Y1) x0 (y0 + j) i
            have g3 : j * (x1 - x0 + 1).toNat ≤ 100000 * 100000 := Nat.mul_le_mul (by omega) (by omega)
            omega
          · have hp : ovP r_X0 r_Y0 r_X1 r_Y1 (x0 + i) (y0 + j) = false := by unfold ovP; rw [decide_eq_false_iff_not]; exact hno
            exact ⟨⟨i + 1, by omega⟩, ⟨natS _ _ (by omega) (by omega), same_eq (by simp only; rw [gridRow_no hp])⟩, by simp only; omega⟩
          · obtain rfl : i = (x1 - x0 + 1).toNat := by omega
            exact ⟨⟨j + 1, by omega⟩, ⟨natS _ _ (by omega) (by omega), same_eq (by simp only; rw [gridUp_succ])⟩, by simp only; omega⟩
      · obtain rfl : j = (y1 - y0 + 1).toNat := by omega
        change (8192 < ((gridL (ovP r_X0 r_Y0 r_X1 r_Y1) x0 x1 y0 y1).length : Int) → _) ∧ (¬ 8192 < ((gridL (ovP r_X0 r_Y0 r_X1 r_Y1) x0 x1 y0 y1).length : Int) → _)
        exact ⟨fun g => by rw [(h0 g).1, (h0 g).2]; exact ⟨rfl, rfl⟩, fun g => ⟨(h1 g).1.symm, same_eq (by rw [(h1 g).2]; rfl)⟩⟩
  · cases hg_
/-- wayfinder/wayfinderbase.Point -/
def g71 : Con := fun args_ E_ nn_ => match args_ with
  | [.a [.v (.int .i64 p_X), .v (.int .i64 p_Y)]] => some (.q (True) (.o (.c (.v (.bool (pPtB p_X p_Y))))))
  | _ => none
theorem c71 : COk Try.prog 71 g71 := by
  refine cok_q Try.func71 x71_ok (by kernel_rfl) (cok_tab (cok_cons c39 cok_nil)) ?_
  intro args_ E_ nn_ cr_ hg_
  unfold g71 at hg_
  split at hg_
  · rename_i p_X p_Y
    cases hg_
    refine ⟨_, _, rfl, 0, [], [.a [.v (.int .i64 p_X), .v (.int .i64 p_Y)]], [], .o (.c (.v (.bool (pPtB p_X p_Y)))), rfl, rfl, by simp only [push_cast, Nat.reduceLT, Nat.reduceAdd], by simp only [push_cast, Nat.reduceLT, Nat.reduceAdd], by simp only [push_cast, Nat.reduceLT, Nat.reduceAdd], rfl, trivial, rfl, ?_⟩
    intro hpre hlen
    refine ⟨trivial, ?_⟩
    simp (config := {maxSteps := 10000000}) only [x71, push_cast, Nat.reduceAdd, Nat.reduceSub, Nat.reduceLeDiff, Nat.reduceEqDiff, Nat.reduceBEq, Nat.reduceMul, Nat.reduceLT, reduceIte, reduceCtorEq, Int.reduceLE, Int.reduceLT, Int.reduceEq, Int.reduceMul, Int.reduceAdd, Int.reduceSub, Int.reduceNeg, Int.reduceToNat, Int.reduceNe, g39]
    rw [Bool.eq_iff_iff]
    simp [pPtB]
    try omega
  · cases hg_
/-- wayfinder/wayfinderref08.Around -/
def g38 : Con := fun args_ E_ nn_ => match args_ with
  | [.a [.v (.int .i64 p_X), .v (.int .i64 p_Y)]] => some (.e (True) (.o (.c (.n (nn_ + 0)))) [((nn_ + 0), .own (clL p_X p_Y p_X p_Y).length 2 (rowF eC (clL p_X p_Y p_X p_Y)) 47)] (nn_ + 1))
  | _ => none
theorem c38 : COk Try.prog 38 g38 := by
  refine cok_e Try.func38 x38_ok (by kernel_rfl) (cok_tab (cok_cons c71 (cok_cons c21 cok_nil))) ?_
  intro args_ E_ nn_ cr_ hg_
  unfold g38 at hg_
  split at hg_
  · rename_i p_X p_Y
    cases hg_
    refine ⟨_, _, _, _, rfl, 0, [], [.a [.v (.int .i64 p_X), .v (.int .i64 p_Y)]], [], .o (.c (.n 0)), [(0, .own (clL p_X p_Y p_X p_Y).length 2 (rowF eC (clL p_X p_Y p_X p_Y)) 47)], 1, rfl, rfl, by simp only [renE, Ent.ren, rowF_renf] <;> rfl, rfl, by decide, by simp only [push_cast, Nat.reduceLT, Nat.reduceAdd], by simp only [push_cast, Nat.reduceLT, Nat.reduceAdd], by simp only [push_cast, Nat.reduceLT, Nat.reduceAdd], by simp only [push_cast, Nat.reduceLT, Nat.reduceAdd], rfl, trivial, by simp only [keysNodup, outN, keys] <;> decide, rfl, rfl, ?_⟩
    intro hpre hlen
    refine ⟨trivial, by simp only [apartE] <;> (first | trivial | (simp [Ent.mut]; done)), ?_⟩
    simp (config := {maxSteps := 10000000}) only [x38, push_cast, Nat.reduceAdd, Nat.reduceSub, Nat.reduceLeDiff, Nat.reduceEqDiff, Nat.reduceBEq, Nat.reduceMul, Nat.reduceLT, reduceIte, reduceCtorEq, Int.reduceLE, Int.reduceLT, Int.reduceEq, Int.reduceMul, Int.reduceAdd, Int.reduceSub, Int.reduceNeg, Int.reduceToNat, Int.reduceNe, g71, g21]
    rw [pPt_cl]
    exact fun h => by rw [(clE1 h).2]; rfl
  · cases hg_
/-- wayfinder/wayfinderlaw08.PlanCells -/
def g6 : Con := fun args_ E_ nn_ => match args_ with
  | [.a [.v (.int .i64 r_X0), .v (.int .i64 r_Y0), .v (.int .i64 r_X1), .v (.int .i64 r_Y1)]] => some (.q (True) (.o (.c (.v (.bool (true))))))
  | _ => none
theorem c6 : COk Try.prog 6 g6 := by
  refine cok_q Try.func6 x6_ok (by kernel_rfl) (cok_tab (cok_cons c13 (cok_cons c20 (cok_cons c21 (cok_cons c16 (cok_cons c22 cok_nil)))))) ?_
  intro args_ E_ nn_ cr_ hg_
  unfold g6 at hg_
  split at hg_
  · rename_i r_X0 r_Y0 r_X1 r_Y1
    cases hg_
    refine ⟨_, _, rfl, 0, [], [.a [.v (.int .i64 r_X0), .v (.int .i64 r_Y0), .v (.int .i64 r_X1), .v (.int .i64 r_Y1)]], [], .o (.c (.v (.bool (true)))), rfl, rfl, by simp only [push_cast, Nat.reduceLT, Nat.reduceAdd], by simp only [push_cast, Nat.reduceLT, Nat.reduceAdd], by simp only [push_cast, Nat.reduceLT, Nat.reduceAdd], rfl, trivial, rfl, ?_⟩
    intro hpre hlen
    refine ⟨trivial, ?_⟩
    simp (config := {maxSteps := 10000000}) only [x6, push_cast, Nat.reduceAdd, Nat.reduceSub, Nat.reduceLeDiff, Nat.reduceEqDiff, Nat.reduceBEq, Nat.reduceMul, Nat.reduceLT, reduceIte, reduceCtorEq, Int.reduceLE, Int.reduceLT, Int.reduceEq, Int.reduceMul, Int.reduceAdd, Int.reduceSub, Int.reduceNeg, Int.reduceToNat, Int.reduceNe, g13, g20, g21, g16, g22]
    exact cl_one _ _
  · cases hg_
end Go.Proofs.Ytbjgaejmkhjbaaa
set_option linter.unusedVariables false
set_option linter.unusedSimpArgs false
set_option maxRecDepth 20000
namespace Go.Proofs.Ytbjgaejmkhjbaaa
open Go.Sx
/-! ### Plans with another value of a cell -/
def insB (W H x y : Int) : Bool := decide ((0 ≤ x ∧ x < W) ∧ 0 ≤ y ∧ y < H)
def atB (W H : Int) (L : List Int) (x y : Int) : Int := if planB W H L = false then 0 else if insB W H x y = false then 2 else L.getD (y * W + x).toNat eU8.dflt
def puE (W H : Int) (L : List Int) (x y v : Int) : Int := if planB W H L = false ∨ 2 < v then 1 else if insB W H x y = false then 7 else 0
def puL (W H : Int) (L : List Int) (x y v : Int) : List Int := if puE W H L x y v = 0 then L.set (y * W + x).toNat v else []
theorem idx_bd {W H : Int} {L : List Int} {x y : Int} (h : planB W H L = true) (hi : insB W H x y = true) : (0 ≤ y * W ∧ y * W ≤ 4096) ∧ 0 ≤ y * W + x ∧ y * W + x < L.length ∧ (1 ≤ L.length ∧ L.length ≤ 4096) := by
  have hp := planB_at h
  simp only [insB, decide_eq_true_eq] at hi
  have e : (y + 1) * W ≤ H * W := Int.mul_le_mul_of_nonneg_right (by omega) (by omega)
  have e2 : 0 ≤ y * W := Int.mul_nonneg (by omega) (by omega)
  have e3 : H * W = W * H := Int.mul_comm _ _
  rw [Int.add_mul] at e
  omega
theorem idx_inj {W x y x' y' : Int} (hx : 0 ≤ x ∧ x < W) (hx' : 0 ≤ x' ∧ x' < W) (h : y * W + x = y' * W + x') : x = x' ∧ y = y' := by
  have e : (y * W + x) % W = x := by rw [Int.mul_comm, Int.add_comm, Int.add_mul_emod_self_left]; exact Int.emod_eq_of_lt hx.1 hx.2
  have e' : (y' * W + x') % W = x' := by rw [Int.mul_comm, Int.add_comm, Int.add_mul_emod_self_left]; exact Int.emod_eq_of_lt hx'.1 hx'.2
  have d : (y * W + x) / W = y := by rw [Int.mul_comm, Int.add_comm, Int.add_mul_ediv_left _ _ (by omega), Int.ediv_eq_zero_of_lt hx.1 hx.2]; omega
  have d' : (y' * W + x') / W = y' := by rw [Int.mul_comm, Int.add_comm, Int.add_mul_ediv_left _ _ (by omega), Int.ediv_eq_zero_of_lt hx'.1 hx'.2]; omega
  rw [h] at e d
  exact ⟨e.symm.trans e', d.symm.trans d'⟩
theorem planB_set {W H : Int} {L : List Int} {i : Nat} {v : Int} (h : planB W H L = true) (hv : v ≤ 2) : planB W H (L.set i v) = true := by
  simp only [planB, Bool.and_eq_true, decide_eq_true_eq, List.length_set] at h ⊢
  refine ⟨h.1, fun x hx => ?_⟩
  rcases List.mem_or_eq_of_mem_set hx with h1 | h1
  · exact h.2 x h1
  · omega
theorem strB_inj {a b : List Int} (ha : u8s a) (hb : u8s b) : strB a = strB b ↔ a = b := by
  constructor
  · intro h
    unfold strB at h
    have h1 : a.map (fun n => UInt8.ofNat n.toNat) = b.map (fun n => UInt8.ofNat n.toNat) := by
      have := congrArg ByteArray.data h
      simpa using this
    have hl : a.length = b.length := by simpa using congrArg List.length h1
    refine List.ext_getElem hl fun i hi hj => ?_
    have h2 : (a.map (fun n => UInt8.ofNat n.toNat))[i]'(by simpa using hi) = (b.map (fun n => UInt8.ofNat n.toNat))[i]'(by simpa using hj) := by simp only [h1]
    simp only [List.getElem_map] at h2
    have h3 := congrArg UInt8.toNat h2
    simp only [UInt8.toNat_ofNat'] at h3
    have g1 := ha _ (List.getElem_mem hi)
    have g2 := hb _ (List.getElem_mem hj)
    omega
  · rintro rfl; rfl
theorem getD_set {L : List Int} {i j : Nat} {v : Int} (hi : i < L.length) : (L.set i v).getD j eU8.dflt = if j = i then v else L.getD j eU8.dflt := by
  rw [List.getD_eq_getElem?_getD, List.getD_eq_getElem?_getD, List.getElem?_set]
  by_cases h : i = j
  · subst h; simp [hi]
  · rw [if_neg h, if_neg (fun e => h e.symm)]
theorem cat0 (g f : Nat → Nat → SC) : catF 0 g f = f := by funext e j; simp [catF]
theorem upd8 {L : List Int} {i : Nat} {v : Int} (h : i < L.length) : updF (rowF eU8 L) i 0 [.v (.int .u8 v)] = rowF eU8 (L.set i v) := updF_row (E := eU8) (x := v) h rfl (show 0 + 1 ≤ 1 by omega)
theorem planB_no {W H : Int} {L : List Int} {k : Nat} (hk : k < L.length) (h : 2 < L.getD k eU8.dflt) : planB W H L = false := by
  rw [Bool.eq_false_iff]
  intro h2
  have := (planB_at h2).2.2.2.2 k hk
  omega
theorem planB_yes {W H : Int} {L : List Int} (h1 : 1 ≤ W ∧ W ≤ 64) (h2 : 1 ≤ H ∧ H ≤ 64) (h3 : (L.length : Int) = W * H) (h : ∀ i, i < L.length → L.getD i eU8.dflt ≤ 2) : planB W H L = true := by
  simp only [planB, Bool.and_eq_true, decide_eq_true_eq]
  exact ⟨⟨h1, h2, h3⟩, (getD_all (p := fun x => x ≤ 2) eU8.dflt).1 h⟩
theorem pu0 {W H : Int} {L : List Int} {x y v : Int} (h : puE W H L x y v = 0) : planB W H L = true ∧ v ≤ 2 ∧ insB W H x y = true ∧ puL W H L x y v = L.set (y * W + x).toNat v := by
  have h' := h
  unfold puE at h
  split at h
  · omega
  · rename_i h1
    split at h
    · omega
    · rename_i h2
      simp only [not_or, Bool.not_eq_false] at h1 h2
      exact ⟨h1.1, by omega, h2, by unfold puL; rw [if_pos h']⟩
theorem puL_u8 {W H : Int} {L : List Int} {x y v : Int} (hL : u8s L) (hv : 0 ≤ v ∧ v ≤ 255) : u8s (puL W H L x y v) := by
  unfold puL
  split
  · intro z hz
    rcases List.mem_or_eq_of_mem_set hz with h1 | h1
    · exact hL z h1
    · subst h1; exact hv
  · intro z hz; cases hz
theorem at_out {W H : Int} {L : List Int} {x y : Int} (h : planB W H L = true) (hi : insB W H x y = false) : atB W H L x y = 2 := by simp [atB, h, hi]
theorem at_in {W H : Int} {L : List Int} {x y : Int} (h : planB W H L = true) (hi : insB W H x y = true) : atB W H L x y = L.getD (y * W + x).toNat eU8.dflt := by simp [atB, h, hi]
theorem put_at {W H : Int} {L : List Int} {x y v : Int} (h : puE W H L x y v = 0) (x' y' : Int) :
    atB (mE (puE W H L x y v) W) (mE (puE W H L x y v) H) (puL W H L x y v) x' y' = if x' = x ∧ y' = y then v else atB W H L x' y' := by
  obtain ⟨h1, h2, h3, h4⟩ := pu0 h
  rw [h, h4]
  have k := idx_bd h1 h3
  simp only [mE, if_true]
  cases hi : insB W H x' y'
  · have hn : ¬ (x' = x ∧ y' = y) := by rintro ⟨rfl, rfl⟩; rw [h3] at hi; cases hi
    rw [if_neg hn, at_out (planB_set h1 h2) hi, at_out h1 hi]
  · have k' := idx_bd h1 hi
    rw [at_in (planB_set h1 h2) hi, at_in h1 hi, getD_set (by omega)]
    simp only [insB, decide_eq_true_eq] at h3 hi
    by_cases e : x' = x ∧ y' = y
    · rw [if_pos e, if_pos (by rw [e.1, e.2])]
    · rw [if_neg e, if_neg]
      intro e2
      refine e (idx_inj (W := W) ?_ ?_ ?_) <;> omega
def x65 : XFn := ⟨8, (.seq (.reg false [K1 2 .mv (.slice none 0 0)]) (.seq (.seq (.reg false [O1 3 .mv 0, O1 4 (.isnil false) 3]) (.cond (.t 4) (.seq (.reg false [K1 2 .mv (.slice none 0 0)]) .ret) .skip)) (.seq (.reg false [⟨(some 5), (.slit 5 0 1 [] []), [], none⟩, O1 6 .mv 0, O2 7 (.app 5 1 1) 5 6, O1 2 .mv 7]) .ret))), [(.s 2)]⟩
theorem x65_ok : xfn Try.prog Try.f65 = some x65.er := by kernel_rfl
def x64 : XFn := ⟨27, (.seq (.reg false [O1 2 (.box 46) 0, O1 3 (.box 47) 1, K1 4 .mv (.bool false)]) (.seq (.reg false [O1 5 (.fld 0) 3, O1 6 .load1 5, K2 7 (.bin .geq) 6 (iV 0), O1 8 .mv 7, G1 9 (.fld 0) 3 8 true, G1 10 .load1 9 8 true, G1 11 (.fld 0) 2 8 true, G1 12 .load1 11 8 true, G2 13 (.bin .lss) 10 12 8 true, ⟨(some 14), .pick, [(.t 8), (.t 13), (.k (.bool false))], none⟩, O1 15 .mv 14, G1 16 (.fld 1) 3 15 true, G1 17 .load1 16 15 true, GK 18 (.bin .geq) 17 (iV 0) 15 true, ⟨(some 19), .pick, [(.t 15), (.t 18), (.k (.bool false))], none⟩, O1 20 .mv 19, G1 21 (.fld 1) 3 20 true, G1 22 .load1 21 20 true, G1 23 (.fld 1) 2 20 true, G1 24 .load1 23 20 true, G2 25 (.bin .lss) 22 24 20 true, ⟨(some 26), .pick, [(.t 20), (.t 25), (.k (.bool false))], none⟩, O1 4 .mv 26]) .ret)), [(.s 4)]⟩
theorem x64_ok : xfn Try.prog Try.f64 = some x64.er := by kernel_rfl
def x28 : XFn := ⟨26, (.seq (.reg false [O1 2 (.box 46) 0, O1 3 (.box 47) 1, K1 4 .mv (.int .u8 0)]) (.seq (.block 0 (.seq (.reg false [O1 6 (.loadN 3) 2, O1 7 (.call 45) 6, O1 8 (.un .not) 7, O1 5 .mv 8]) (.cond (.t 5) (.seq (.reg false [K1 4 .mv (.int .u8 0)]) .ret) (.seq (.reg false [O1 10 (.loadN 3) 2, O1 11 (.loadN 2) 3, O2 12 (.call 64) 10 11, O1 13 (.un .not) 12, O1 9 .mv 13]) (.cond (.t 9) (.seq (.reg false [K1 4 .mv (.int .u8 2)]) .ret) .skip))))) (.seq (.reg false [O1 14 (.fld 2) 2, O1 15 .load1 14, O1 16 (.fld 1) 3, O1 17 .load1 16, O1 18 (.fld 0) 2, O1 19 .load1 18, O2 20 (.bin .mul) 17 19, O1 21 (.fld 0) 3, O1 22 .load1 21, O2 23 (.bin .add) 20 22, O2 24 (.ixS 1) 15 23, O1 25 .load1 24, O1 4 .mv 25]) .ret))), [(.s 4)]⟩
theorem x28_ok : xfn Try.prog Try.f28 = some x28.er := by kernel_rfl
def x25 : XFn := ⟨38, (.seq (.reg false [O1 3 (.box 46) 0, O1 4 (.box 47) 1, ⟨(some 6), (.alloc 46 [(iV 0), (iV 0), (.slice none 0 0)]), [], none⟩, K1 7 .mv (iV 0)]) (.seq (.seq (.reg false [O1 8 (.loadN 3) 3, O1 9 (.call 45) 8, O1 10 (.un .not) 9, O1 11 .mv 10, G1 12 .mv 2 11 false, GK 13 (.bin .gtr) 12 (.int .u8 2) 11 false, ⟨(some 14), .pick, [(.t 11), (.k (.bool true)), (.t 13)], none⟩]) (.cond (.t 14) (.seq (.reg false [⟨(some 15), (.build [(iV 0), (iV 0), (.slice none 0 0)] []), [], none⟩, ⟨none, (.store 3), [(.t 6), (.t 15)], none⟩, K1 7 .mv (iV 1)]) .ret) .skip)) (.seq (.seq (.reg false [O1 16 (.loadN 3) 3, O1 17 (.loadN 2) 4, O2 18 (.call 64) 16 17, O1 19 (.un .not) 18]) (.cond (.t 19) (.seq (.reg false [⟨(some 20), (.build [(iV 0), (iV 0), (.slice none 0 0)] []), [], none⟩, ⟨none, (.store 3), [(.t 6), (.t 20)], none⟩, K1 7 .mv (iV 7)]) .ret) .skip)) (.seq (.reg false [O1 21 (.fld 2) 3, O1 22 .load1 21, O1 23 (.call 65) 22, O1 24 (.fld 2) 3, ⟨none, (.store 1), [(.t 24), (.t 23)], none⟩]) (.seq (.reg false [O1 25 (.fld 2) 3, O1 26 .load1 25, O1 27 (.fld 1) 4, O1 28 .load1 27, O1 29 (.fld 0) 3, O1 30 .load1 29, O2 31 (.bin .mul) 28 30, O1 32 (.fld 0) 4, O1 33 .load1 32, O2 34 (.bin .add) 31 33, O1 35 .mv 2, O2 36 (.ixS 1) 26 34, ⟨none, (.store 1), [(.t 36), (.t 35)], none⟩]) (.seq (.reg false [O1 37 (.loadN 3) 3, ⟨none, (.store 3), [(.t 6), (.t 37)], none⟩, K1 7 .mv (iV 0)]) .ret)))))), [(.bn 6 3), (.s 7)]⟩
theorem x25_ok : xfn Try.prog Try.f25 = some x25.er := by kernel_rfl
def x79L0 : XC := (.seq (.seq (.reg false [O1 33 .mv 3, O1 34 (.fld 2) 1, O1 35 .load1 34, O1 36 .lenS 35, O2 37 (.bin .lss) 33 36]) (.cond (.t 37) .skip (.exit 0))) (.seq (.block 1 (.seq (.reg false [O1 40 (.fld 2) 1, O1 41 .load1 40, O1 42 .mv 3, O2 43 (.ixS 1) 41 42, O1 44 .load1 43, K2 45 (.bin .gtr) 44 (.int .u8 2)]) (.cond (.t 45) (.seq (.reg false [K1 2 .mv (.bool false)]) .ret) .skip))) (.reg false [O1 38 .mv 3, K2 39 (.bin .add) 38 (iV 1), O1 3 .mv 39])))
def x79 : XFn := ⟨46, (.seq (.reg false [O1 1 (.box 46) 0, K1 2 .mv (.bool false)]) (.seq (.seq (.reg false [O1 4 (.fld 0) 1, O1 5 .load1 4, K2 6 (.bin .lss) 5 (iV 1), O1 7 .mv 6, G1 8 (.fld 0) 1 7 false, G1 9 .load1 8 7 false, GK 10 (.bin .gtr) 9 (iV 64) 7 false, ⟨(some 11), .pick, [(.t 7), (.k (.bool true)), (.t 10)], none⟩, O1 12 .mv 11, G1 13 (.fld 1) 1 12 false, G1 14 .load1 13 12 false, GK 15 (.bin .lss) 14 (iV 1) 12 false, ⟨(some 16), .pick, [(.t 12), (.k (.bool true)), (.t 15)], none⟩, O1 17 .mv 16, G1 18 (.fld 1) 1 17 false, G1 19 .load1 18 17 false, GK 20 (.bin .gtr) 19 (iV 64) 17 false, ⟨(some 21), .pick, [(.t 17), (.k (.bool true)), (.t 20)], none⟩, O1 22 .mv 21, G1 23 (.fld 2) 1 22 false, G1 24 .load1 23 22 false, G1 25 .lenS 24 22 false, G1 26 (.fld 0) 1 22 false, G1 27 .load1 26 22 false, G1 28 (.fld 1) 1 22 false, G1 29 .load1 28 22 false, G2 30 (.bin .mul) 27 29 22 false, G2 31 (.bin .neq) 25 30 22 false, ⟨(some 32), .pick, [(.t 22), (.k (.bool true)), (.t 31)], none⟩]) (.cond (.t 32) (.seq (.reg false [K1 2 .mv (.bool false)]) .ret) .skip)) (.seq (.seq (.reg false [K1 3 .mv (iV 0)]) (.block 0 (.loop x79L0))) (.seq (.reg false [K1 2 .mv (.bool true)]) .ret)))), [(.s 2)]⟩
theorem x79_ok : xfn Try.prog Try.f79 = some x79.er := by kernel_rfl
def x66 : XFn := ⟨27, (.seq (.reg false [O1 2 (.box 46) 0, O1 3 (.box 47) 1, K1 4 .mv (.bool false)]) (.seq (.reg false [O1 5 (.fld 0) 3, O1 6 .load1 5, K2 7 (.bin .geq) 6 (iV 0), O1 8 .mv 7, G1 9 (.fld 0) 3 8 true, G1 10 .load1 9 8 true, G1 11 (.fld 0) 2 8 true, G1 12 .load1 11 8 true, G2 13 (.bin .lss) 10 12 8 true, ⟨(some 14), .pick, [(.t 8), (.t 13), (.k (.bool false))], none⟩, O1 15 .mv 14, G1 16 (.fld 1) 3 15 true, G1 17 .load1 16 15 true, GK 18 (.bin .geq) 17 (iV 0) 15 true, ⟨(some 19), .pick, [(.t 15), (.t 18), (.k (.bool false))], none⟩, O1 20 .mv 19, G1 21 (.fld 1) 3 20 true, G1 22 .load1 21 20 true, G1 23 (.fld 1) 2 20 true, G1 24 .load1 23 20 true, G2 25 (.bin .lss) 22 24 20 true, ⟨(some 26), .pick, [(.t 20), (.t 25), (.k (.bool false))], none⟩, O1 4 .mv 26]) .ret)), [(.s 4)]⟩
theorem x66_ok : xfn Try.prog Try.f66 = some x66.er := by kernel_rfl
def x67 : XFn := ⟨21, (.seq (.reg false [O1 2 (.box 46) 0, O1 3 (.box 47) 1, K1 4 .mv (.int .u8 0)]) (.seq (.seq (.reg false [O1 5 (.loadN 3) 2, O1 6 (.loadN 2) 3, O2 7 (.call 66) 5 6, O1 8 (.un .not) 7]) (.cond (.t 8) (.seq (.reg false [K1 4 .mv (.int .u8 2)]) .ret) .skip)) (.seq (.reg false [O1 9 (.fld 2) 2, O1 10 .load1 9, O1 11 (.fld 1) 3, O1 12 .load1 11, O1 13 (.fld 0) 2, O1 14 .load1 13, O2 15 (.bin .mul) 12 14, O1 16 (.fld 0) 3, O1 17 .load1 16, O2 18 (.bin .add) 15 17, O2 19 (.ixS 1) 10 18, O1 20 .load1 19, O1 4 .mv 20]) .ret))), [(.s 4)]⟩
theorem x67_ok : xfn Try.prog Try.f67 = some x67.er := by kernel_rfl
def x46 : XFn := ⟨5, (.seq (.reg false [O1 1 (.box 46) 0, K1 2 .mv (.bool false)]) (.seq (.reg false [O1 3 (.loadN 3) 1, O1 4 (.call 79) 3, O1 2 .mv 4]) .ret)), [(.s 2)]⟩
theorem x46_ok : xfn Try.prog Try.f46 = some x46.er := by kernel_rfl
def x29 : XFn := ⟨11, (.seq (.reg false [O1 2 (.box 46) 0, O1 3 (.box 47) 1, K1 4 .mv (.int .u8 0)]) (.seq (.seq (.reg false [O1 5 (.loadN 3) 2, O1 6 (.call 46) 5, O1 7 (.un .not) 6]) (.cond (.t 7) (.seq (.reg false [K1 4 .mv (.int .u8 0)]) .ret) .skip)) (.seq (.reg false [O1 8 (.loadN 3) 2, O1 9 (.loadN 2) 3, O2 10 (.call 67) 8 9, O1 4 .mv 10]) .ret))), [(.s 4)]⟩
theorem x29_ok : xfn Try.prog Try.f29 = some x29.er := by kernel_rfl
def x26 : XFn := ⟨44, (.seq (.reg false [O1 3 (.box 46) 0, O1 4 (.box 47) 1, ⟨(some 6), (.alloc 46 [(iV 0), (iV 0), (.slice none 0 0)]), [], none⟩, K1 7 .mv (iV 0)]) (.seq (.seq (.reg false [O1 9 (.loadN 3) 3, O1 10 (.call 46) 9, O1 11 (.un .not) 10, O1 12 .mv 11, G1 13 .mv 2 12 false, GK 14 (.bin .gtr) 13 (.int .u8 2) 12 false, ⟨(some 15), .pick, [(.t 12), (.k (.bool true)), (.t 14)], none⟩]) (.cond (.t 15) (.seq (.reg false [⟨(some 16), (.build [(iV 0), (iV 0), (.slice none 0 0)] []), [], none⟩, ⟨none, (.store 3), [(.t 6), (.t 16)], none⟩, K1 7 .mv (iV 1)]) .ret) .skip)) (.seq (.seq (.reg false [O1 17 (.loadN 3) 3, O1 18 (.loadN 2) 4, O2 19 (.call 66) 17 18, O1 20 (.un .not) 19]) (.cond (.t 20) (.seq (.reg false [⟨(some 21), (.build [(iV 0), (iV 0), (.slice none 0 0)] []), [], none⟩, ⟨none, (.store 3), [(.t 6), (.t 21)], none⟩, K1 7 .mv (iV 7)]) .ret) .skip)) (.seq (.regD [O1 22 (.fld 0) 3, O1 23 .load1 22, O1 24 (.fld 1) 3, O1 25 .load1 24, ⟨(some 26), (.slit 5 0 1 [] []), [], none⟩, O1 27 (.fld 2) 3, O1 28 .load1 27, O2 29 (.app 5 1 1) 26 28, ⟨(some 30), (.build [(iV 0), (iV 0), (.slice none 0 0)] [(0, 1), (1, 1), (2, 1)]), [(.t 23), (.t 25), (.t 29)], none⟩, ⟨(some 8), (.alloc 46 [(iV 0), (iV 0), (.slice none 0 0)]), [], none⟩, ⟨none, (.store 3), [(.t 8), (.t 30)], none⟩] [[], [0], [], [2], [], [], [5], [4, 6, 5], [1, 0, 3, 2, 7, 4, 6, 5], [], [9, 8, 1, 0, 3, 2, 7, 4, 6, 5]]) (.seq (.reg false [O1 31 (.fld 2) 8, O1 32 .load1 31, O1 33 (.fld 1) 4, O1 34 .load1 33, O1 35 (.fld 0) 3, O1 36 .load1 35, O2 37 (.bin .mul) 34 36, O1 38 (.fld 0) 4, O1 39 .load1 38, O2 40 (.bin .add) 37 39, O1 41 .mv 2, O2 42 (.ixS 1) 32 40, ⟨none, (.store 1), [(.t 42), (.t 41)], none⟩]) (.seq (.reg false [O1 43 (.loadN 3) 8, ⟨none, (.store 3), [(.t 6), (.t 43)], none⟩, K1 7 .mv (iV 0)]) .ret)))))), [(.bn 6 3), (.s 7)]⟩
theorem x26_ok : xfn Try.prog Try.f26 = some x26.er := by kernel_rfl
def x23 : XFn := ⟨7, (.seq (.reg false [O1 1 (.box 46) 0, K1 2 .mv (.bool false)]) (.seq (.reg false [O1 3 (.fld 2) 1, O1 4 .load1 3, O1 5 .lenS 4, K2 6 (.bin .leq) 5 (iV 5000), O1 2 .mv 6]) .ret)), [(.s 2)]⟩
theorem x23_ok : xfn Try.prog Try.f23 = some x23.er := by kernel_rfl
def x24 : XFn := ⟨12, (.seq (.reg false [O1 1 (.box 46) 0, ⟨(some 2), (.alloc 46 [(iV 0), (iV 0), (.slice none 0 0)]), [], none⟩]) (.seq (.regD [O1 3 (.fld 0) 1, O1 4 .load1 3, O1 5 (.fld 1) 1, O1 6 .load1 5, ⟨(some 7), (.slit 5 0 1 [] []), [], none⟩, O1 8 (.fld 2) 1, O1 9 .load1 8, O2 10 (.app 5 1 1) 7 9, ⟨(some 11), (.build [(iV 0), (iV 0), (.slice none 0 0)] [(0, 1), (1, 1), (2, 1)]), [(.t 4), (.t 6), (.t 10)], none⟩, ⟨none, (.store 3), [(.t 2), (.t 11)], none⟩] [[], [0], [], [2], [], [], [5], [4, 6, 5], [1, 0, 3, 2, 7, 4, 6, 5], [8, 1, 0, 3, 2, 7, 4, 6, 5]]) .ret)), [(.bn 2 3)]⟩
theorem x24_ok : xfn Try.prog Try.f24 = some x24.er := by kernel_rfl
def x27 : XFn := ⟨26, (.seq (.reg false [O1 2 (.box 46) 0, O1 3 (.box 46) 1, K1 4 .mv (.bool false)]) (.seq (.reg false [O1 5 (.fld 0) 2, O1 6 .load1 5, O1 7 (.fld 0) 3, O1 8 .load1 7, O2 9 (.bin .eql) 6 8, O1 10 .mv 9, G1 11 (.fld 1) 2 10 true, G1 12 .load1 11 10 true, G1 13 (.fld 1) 3 10 true, G1 14 .load1 13 10 true, G2 15 (.bin .eql) 12 14 10 true, ⟨(some 16), .pick, [(.t 10), (.t 15), (.k (.bool false))], none⟩, O1 17 .mv 16, G1 18 (.fld 2) 2 17 true, G1 19 .load1 18 17 true, G1 20 (.x .str) 19 17 true, G1 21 (.fld 2) 3 17 true, G1 22 .load1 21 17 true, G1 23 (.x .str) 22 17 true, ⟨(some 24), (.x (.sbin .eql)), [(.t 20), (.t 23)], (some (17, true))⟩, ⟨(some 25), .pick, [(.t 17), (.t 24), (.k (.bool false))], none⟩, O1 4 .mv 25]) .ret)), [(.s 4)]⟩
theorem x27_ok : xfn Try.prog Try.f27 = some x27.er := by kernel_rfl
/-- bytes.Clone -/
def g65 : Con := fun args_ E_ nn_ => match args_ with
  | [.c (.n b)] => (match rowOf E_ b with
    | some (b_n, b_s, b_f) => some (.e (isRow eU8 b_n b_s b_f ∧ ((decL eU8 b_n b_f)).length ≤ 100000) (.o (.c (.n (nn_ + 0)))) [((nn_ + 0), .own ((decL eU8 b_n b_f)).length 1 (rowF eU8 ((decL eU8 b_n b_f))) 5)] (nn_ + 1))
    | none => none)
  | _ => none
theorem c65 : COk Try.prog 65 g65 := by
  refine cok_e Try.func65 x65_ok (by kernel_rfl) (cok_tab cok_nil) ?_
  intro args_ E_ nn_ cr_ hg_
  unfold g65 at hg_
  split at hg_
  · rename_i b
    split at hg_
    · rename_i b_n b_s b_f h_b
      cases hg_
      refine ⟨_, _, _, _, rfl, 1, [b], [.c (.n 0)], [(0, .ro (decL eU8 b_n b_f).length eU8.sz (rowF eU8 (decL eU8 b_n b_f)))], .o (.c (.n 1)), [(1, .own ((decL eU8 b_n b_f)).length 1 (rowF eU8 ((decL eU8 b_n b_f))) 5)], 2, rfl, rfl, by simp only [renE, Ent.ren, rowF_renf] <;> rfl, rfl, by decide, by simp only [push_cast, Nat.reduceLT, Nat.reduceAdd], by simp only [push_cast, Nat.reduceLT, Nat.reduceAdd], by simp only [push_cast, Nat.reduceLT, Nat.reduceAdd], by simp only [push_cast, Nat.reduceLT, Nat.reduceAdd], rfl, ⟨inE0_row h_b, trivial⟩, by simp only [keysNodup, outN, keys] <;> decide, rfl, rfl, ?_⟩
      intro hpre hlen
      obtain ⟨i_b, hpre⟩ := hpre
      refine ⟨⟨inE_row h_b i_b, trivial⟩, by simp only [apartE] <;> (first | trivial | (simp [Ent.mut]; done)), ?_⟩
      have z_b := lens_row (E := eU8) hlen h_b
      clear i_b
      generalize decL eU8 b_n b_f = bL at *
      clear h_b
      simp (config := {maxSteps := 10000000}) only [x65, push_cast, Nat.reduceAdd, Nat.reduceSub, Nat.reduceLeDiff, Nat.reduceEqDiff, Nat.reduceBEq, Nat.reduceMul, Nat.reduceLT, reduceIte, reduceCtorEq, Int.reduceLE, Int.reduceLT, Int.reduceEq, Int.reduceMul, Int.reduceAdd, Int.reduceSub, Int.reduceNeg, Int.reduceToNat, Int.reduceNe]
      intro b
      exact fun h => ⟨h, fun _ => ⟨by omega, fun e j he hj => by rw [rowF_sub]; simp [catF]⟩⟩
    · cases hg_
  · cases hg_
/-- wayfinder/plan.inside -/
def g64 : Con := fun args_ E_ nn_ => match args_ with
  | [.a [.v (.int .i64 p_W), .v (.int .i64 p_H), .n p_Cells], .a [.v (.int .i64 c_X), .v (.int .i64 c_Y)]] => (match rowOf E_ p_Cells with
    | some (p_Cells_n, p_Cells_s, p_Cells_f) => some (.q (isRow eU8 p_Cells_n p_Cells_s p_Cells_f ∧ True) (.o (.c (.v (.bool (insB p_W p_H c_X c_Y))))))
    | none => none)
  | _ => none
theorem c64 : COk Try.prog 64 g64 := by
  refine cok_q Try.func64 x64_ok (by kernel_rfl) (cok_tab cok_nil) ?_
  intro args_ E_ nn_ cr_ hg_
  unfold g64 at hg_
  split at hg_
  · rename_i p_W p_H p_Cells c_X c_Y
    split at hg_
    · rename_i p_Cells_n p_Cells_s p_Cells_f h_p_Cells
      cases hg_
      refine ⟨_, _, rfl, 1, [p_Cells], [.a [.v (.int .i64 p_W), .v (.int .i64 p_H), .n 0], .a [.v (.int .i64 c_X), .v (.int .i64 c_Y)]], [(0, .ro (decL eU8 p_Cells_n p_Cells_f).length eU8.sz (rowF eU8 (decL eU8 p_Cells_n p_Cells_f)))], .o (.c (.v (.bool (insB p_W p_H c_X c_Y)))), rfl, rfl, by simp only [push_cast, Nat.reduceLT, Nat.reduceAdd], by simp only [push_cast, Nat.reduceLT, Nat.reduceAdd], by simp only [push_cast, Nat.reduceLT, Nat.reduceAdd], rfl, ⟨inE0_row h_p_Cells, trivial⟩, rfl, ?_⟩
      intro hpre hlen
      obtain ⟨i_p_Cells, hpre⟩ := hpre
      refine ⟨⟨inE_row h_p_Cells i_p_Cells, trivial⟩, ?_⟩
      have z_p_Cells := lens_row (E := eU8) hlen h_p_Cells
      clear i_p_Cells
      generalize decL eU8 p_Cells_n p_Cells_f = p_CellsL at *
      clear h_p_Cells
      simp (config := {maxSteps := 10000000}) only [x64, push_cast, Nat.reduceAdd, Nat.reduceSub, Nat.reduceLeDiff, Nat.reduceEqDiff, Nat.reduceBEq, Nat.reduceMul, Nat.reduceLT, reduceIte, reduceCtorEq, Int.reduceLE, Int.reduceLT, Int.reduceEq, Int.reduceMul, Int.reduceAdd, Int.reduceSub, Int.reduceNeg, Int.reduceToNat, Int.reduceNe]
      rw [Bool.eq_iff_iff]
      simp [insB]
      try omega
    · cases hg_
  · cases hg_
/-- wayfinder/plan.At -/
def g28 : Con := fun args_ E_ nn_ => match args_ with
  | [.a [.v (.int .i64 p_W), .v (.int .i64 p_H), .n p_Cells], .a [.v (.int .i64 c_X), .v (.int .i64 c_Y)]] => (match rowOf E_ p_Cells with
    | some (p_Cells_n, p_Cells_s, p_Cells_f) => some (.q (isRow eU8 p_Cells_n p_Cells_s p_Cells_f ∧ True) (.o (.c (.v (.int .u8 (atB p_W p_H (decL eU8 p_Cells_n p_Cells_f) c_X c_Y))))))
    | none => none)
  | _ => none
theorem c28 : COk Try.prog 28 g28 := by
  refine cok_q Try.func28 x28_ok (by kernel_rfl) (cok_tab (cok_cons c45 (cok_cons c64 cok_nil))) ?_
  intro args_ E_ nn_ cr_ hg_
  unfold g28 at hg_
  split at hg_
  · rename_i p_W p_H p_Cells c_X c_Y
    split at hg_
    · rename_i p_Cells_n p_Cells_s p_Cells_f h_p_Cells
      cases hg_
      refine ⟨_, _, rfl, 1, [p_Cells], [.a [.v (.int .i64 p_W), .v (.int .i64 p_H), .n 0], .a [.v (.int .i64 c_X), .v (.int .i64 c_Y)]], [(0, .ro (decL eU8 p_Cells_n p_Cells_f).length eU8.sz (rowF eU8 (decL eU8 p_Cells_n p_Cells_f)))], .o (.c (.v (.int .u8 (atB p_W p_H (decL eU8 p_Cells_n p_Cells_f) c_X c_Y)))), rfl, rfl, by simp only [push_cast, Nat.reduceLT, Nat.reduceAdd], by simp only [push_cast, Nat.reduceLT, Nat.reduceAdd], by simp only [push_cast, Nat.reduceLT, Nat.reduceAdd], rfl, ⟨inE0_row h_p_Cells, trivial⟩, rfl, ?_⟩
      intro hpre hlen
      obtain ⟨i_p_Cells, hpre⟩ := hpre
      refine ⟨⟨inE_row h_p_Cells i_p_Cells, trivial⟩, ?_⟩
      have z_p_Cells := lens_row (E := eU8) hlen h_p_Cells
      clear i_p_Cells
      generalize decL eU8 p_Cells_n p_Cells_f = p_CellsL at *
      clear h_p_Cells
      simp (config := {maxSteps := 10000000}) only [x28, push_cast, Nat.reduceAdd, Nat.reduceSub, Nat.reduceLeDiff, Nat.reduceEqDiff, Nat.reduceBEq, Nat.reduceMul, Nat.reduceLT, reduceIte, reduceCtorEq, Int.reduceLE, Int.reduceLT, Int.reduceEq, Int.reduceMul, Int.reduceAdd, Int.reduceSub, Int.reduceNeg, Int.reduceToNat, Int.reduceNe, g45, g64]
      refine ⟨fun h => by simp [atB, h], fun h => ⟨fun g => by simp [atB, h, g], fun g => ?_⟩⟩
      have k := idx_bd h g
      have hi := g
      simp only [insB, decide_eq_true_eq] at hi
      rw [wrapI (n := c_Y * p_W) (by omega) (by omega), wrapI (by omega) (by omega)]
      exact ⟨⟨by omega, by omega⟩, by omega, by simp [atB, h, g]⟩
    · cases hg_
  · cases hg_
/-- wayfinder/plan.Put -/
def g25 : Con := fun args_ E_ nn_ => match args_ with
  | [.a [.v (.int .i64 p_W), .v (.int .i64 p_H), .n p_Cells], .a [.v (.int .i64 c_X), .v (.int .i64 c_Y)], .c (.v (.int .u8 value))] => (match rowOf E_ p_Cells with
    | some (p_Cells_n, p_Cells_s, p_Cells_f) => some (.e (isRow eU8 p_Cells_n p_Cells_s p_Cells_f ∧ 0 ≤ value ∧ value ≤ 255) (.t [.a [.v (.int .i64 (mE (puE p_W p_H (decL eU8 p_Cells_n p_Cells_f) c_X c_Y value) p_W)), .v (.int .i64 (mE (puE p_W p_H (decL eU8 p_Cells_n p_Cells_f) c_X c_Y value) p_H)), .n (nn_ + 0)], .c (.v (.int .i64 (puE p_W p_H (decL eU8 p_Cells_n p_Cells_f) c_X c_Y value)))]) [((nn_ + 0), .own (puL p_W p_H (decL eU8 p_Cells_n p_Cells_f) c_X c_Y value).length 1 (rowF eU8 (puL p_W p_H (decL eU8 p_Cells_n p_Cells_f) c_X c_Y value)) 5)] (nn_ + 1))
    | none => none)
  | _ => none
theorem c25 : COk Try.prog 25 g25 := by
  refine cok_e Try.func25 x25_ok (by kernel_rfl) (cok_tab (cok_cons c45 (cok_cons c64 (cok_cons c65 cok_nil)))) ?_
  intro args_ E_ nn_ cr_ hg_
  unfold g25 at hg_
  split at hg_
  · rename_i p_W p_H p_Cells c_X c_Y value
    split at hg_
    · rename_i p_Cells_n p_Cells_s p_Cells_f h_p_Cells
      cases hg_
      refine ⟨_, _, _, _, rfl, 1, [p_Cells], [.a [.v (.int .i64 p_W), .v (.int .i64 p_H), .n 0], .a [.v (.int .i64 c_X), .v (.int .i64 c_Y)], .c (.v (.int .u8 value))], [(0, .ro (decL eU8 p_Cells_n p_Cells_f).length eU8.sz (rowF eU8 (decL eU8 p_Cells_n p_Cells_f)))], .t [.a [.v (.int .i64 (mE (puE p_W p_H (decL eU8 p_Cells_n p_Cells_f) c_X c_Y value) p_W)), .v (.int .i64 (mE (puE p_W p_H (decL eU8 p_Cells_n p_Cells_f) c_X c_Y value) p_H)), .n 1], .c (.v (.int .i64 (puE p_W p_H (decL eU8 p_Cells_n p_Cells_f) c_X c_Y value)))], [(1, .own (puL p_W p_H (decL eU8 p_Cells_n p_Cells_f) c_X c_Y value).length 1 (rowF eU8 (puL p_W p_H (decL eU8 p_Cells_n p_Cells_f) c_X c_Y value)) 5)], 2, rfl, rfl, by simp only [renE, Ent.ren, rowF_renf] <;> rfl, rfl, by decide, by simp only [push_cast, Nat.reduceLT, Nat.reduceAdd], by simp only [push_cast, Nat.reduceLT, Nat.reduceAdd], by simp only [push_cast, Nat.reduceLT, Nat.reduceAdd], by simp only [push_cast, Nat.reduceLT, Nat.reduceAdd], rfl, ⟨inE0_row h_p_Cells, trivial⟩, by simp only [keysNodup, outN, keys] <;> decide, rfl, rfl, ?_⟩
      intro hpre hlen
      obtain ⟨i_p_Cells, hpre⟩ := hpre
      refine ⟨⟨inE_row h_p_Cells i_p_Cells, trivial⟩, by simp only [apartE] <;> (first | trivial | (simp [Ent.mut]; done)), ?_⟩
      have z_p_Cells := lens_row (E := eU8) hlen h_p_Cells
      clear i_p_Cells
      generalize decL eU8 p_Cells_n p_Cells_f = p_CellsL at *
      clear h_p_Cells
      simp (config := {maxSteps := 10000000}) only [x25, push_cast, Nat.reduceAdd, Nat.reduceSub, Nat.reduceLeDiff, Nat.reduceEqDiff, Nat.reduceBEq, Nat.reduceMul, Nat.reduceLT, reduceIte, reduceCtorEq, Int.reduceLE, Int.reduceLT, Int.reduceEq, Int.reduceMul, Int.reduceAdd, Int.reduceSub, Int.reduceNeg, Int.reduceToNat, Int.reduceNe, g45, g64, g65]
      refine ⟨fun h => by simp [puL, puE, mE, h], fun h h2 => ⟨fun g => by simp [puL, puE, mE, h, h2, g], fun g => ?_⟩⟩
      have e0 : puE p_W p_H p_CellsL c_X c_Y value = 0 := by simp [puE, h, h2, g]
      have k := idx_bd h g
      have hi := g
      simp only [insB, decide_eq_true_eq] at hi
      rw [wrapI (n := c_Y * p_W) (by omega) (by omega), wrapI (by omega) (by omega)]
      refine ⟨by omega, ⟨by omega, by omega⟩, by omega, by simp [e0, mE], ?_⟩
      unfold puL
      rw [if_pos e0, upd8 (by omega)]
      exact ⟨by simp, fun e j he hj => (rowF_sub _ _ _ _).symm⟩
    · cases hg_
  · cases hg_
/-- wayfinder/wayfinderbase.Plan -/
def g79 : Con := fun args_ E_ nn_ => match args_ with
  | [.a [.v (.int .i64 p_W), .v (.int .i64 p_H), .n p_Cells]] => (match rowOf E_ p_Cells with
    | some (p_Cells_n, p_Cells_s, p_Cells_f) => some (.q (isRow eU8 p_Cells_n p_Cells_s p_Cells_f ∧ True) (.o (.c (.v (.bool (planB p_W p_H (decL eU8 p_Cells_n p_Cells_f)))))))
    | none => none)
  | _ => none
theorem c79 : COk Try.prog 79 g79 := by
  refine cok_q Try.func79 x79_ok (by kernel_rfl) (cok_tab cok_nil) ?_
  intro args_ E_ nn_ cr_ hg_
  unfold g79 at hg_
  split at hg_
  · rename_i p_W p_H p_Cells
    split at hg_
    · rename_i p_Cells_n p_Cells_s p_Cells_f h_p_Cells
      cases hg_
      refine ⟨_, _, rfl, 1, [p_Cells], [.a [.v (.int .i64 p_W), .v (.int .i64 p_H), .n 0]], [(0, .ro (decL eU8 p_Cells_n p_Cells_f).length eU8.sz (rowF eU8 (decL eU8 p_Cells_n p_Cells_f)))], .o (.c (.v (.bool (planB p_W p_H (decL eU8 p_Cells_n p_Cells_f))))), rfl, rfl, by simp only [push_cast, Nat.reduceLT, Nat.reduceAdd], by simp only [push_cast, Nat.reduceLT, Nat.reduceAdd], by simp only [push_cast, Nat.reduceLT, Nat.reduceAdd], rfl, ⟨inE0_row h_p_Cells, trivial⟩, rfl, ?_⟩
      intro hpre hlen
      obtain ⟨i_p_Cells, hpre⟩ := hpre
      refine ⟨⟨inE_row h_p_Cells i_p_Cells, trivial⟩, ?_⟩
      have z_p_Cells := lens_row (E := eU8) hlen h_p_Cells
      clear i_p_Cells
      generalize decL eU8 p_Cells_n p_Cells_f = p_CellsL at *
      clear h_p_Cells
      simp (config := {maxSteps := 10000000}) only [x79, push_cast, Nat.reduceAdd, Nat.reduceSub, Nat.reduceLeDiff, Nat.reduceEqDiff, Nat.reduceBEq, Nat.reduceMul, Nat.reduceLT, reduceIte, reduceCtorEq, Int.reduceLE, Int.reduceLT, Int.reduceEq, Int.reduceMul, Int.reduceAdd, Int.reduceSub, Int.reduceNeg, Int.reduceToNat, Int.reduceNe]
      refine ⟨fun h => ?_, fun a1 a2 a3 a4 h3 => ?_⟩
      · symm
        unfold planB
        rw [Bool.and_eq_false_iff, decide_eq_false_iff_not]
        refine .inl fun ⟨k1, k2, k3⟩ => ?_
        have := mulWH k1 k2
        rw [wrapI (n := p_W * p_H) (by omega) (by omega)] at h
        omega
      have hm := mulWH (W := p_W) (H := p_H) (by omega) (by omega)
      rw [wrapI (n := p_W * p_H) (by omega) (by omega)] at h3
      refine vcLoop_upd (α := {k : Nat // k ≤ p_CellsL.length ∧ ∀ i, i < k → p_CellsL.getD i eU8.dflt ≤ 2}) [1] 0 (fun s => [(3, .o (.c (.v (.int .i64 (s.1 : Nat)))))]) (fun s => []) (fun s => p_CellsL.length - s.1) ⟨0, by omega, fun i hi => by omega⟩ ?_ ?_
      · simp only [push_cast, Nat.reduceAdd, Nat.reduceSub, Nat.reduceLeDiff, Nat.reduceEqDiff, Nat.reduceBEq, Nat.reduceMul, Nat.reduceLT, reduceIte, reduceCtorEq, Int.reduceLE, Int.reduceLT, Int.reduceEq, Int.reduceMul, Int.reduceAdd, Int.reduceSub, Int.reduceNeg, Int.reduceToNat, Int.reduceNe]
      · rintro ⟨k, hk, hall⟩
        simp only [x79L0, push_cast, Nat.reduceAdd, Nat.reduceSub, Nat.reduceLeDiff, Nat.reduceEqDiff, Nat.reduceBEq, Nat.reduceMul, Nat.reduceLT, reduceIte, reduceCtorEq, Int.reduceLE, Int.reduceLT, Int.reduceEq, Int.reduceMul, Int.reduceAdd, Int.reduceSub, Int.reduceNeg, Int.reduceToNat, Int.reduceNe]
        refine ⟨fun h => ⟨h, h, fun g => (planB_no h g).symm, fun g => ⟨⟨k + 1, by omega, fun i hi => ?_⟩, wrapI (by omega) (by omega), by simp only; omega⟩⟩, fun h => (planB_yes (by omega) (by omega) h3 fun i hi => hall i (by omega)).symm⟩
        by_cases e : i = k
        · subst e; omega
        · exact hall i (by omega)
    · cases hg_
  · cases hg_
/-- wayfinder/wayfinderref08.Valid -/
def g46 : Con := fun args_ E_ nn_ => match args_ with
  | [.a [.v (.int .i64 p_W), .v (.int .i64 p_H), .n p_Cells]] => (match rowOf E_ p_Cells with
    | some (p_Cells_n, p_Cells_s, p_Cells_f) => some (.q (isRow eU8 p_Cells_n p_Cells_s p_Cells_f ∧ True) (.o (.c (.v (.bool (planB p_W p_H (decL eU8 p_Cells_n p_Cells_f)))))))
    | none => none)
  | _ => none
theorem c46 : COk Try.prog 46 g46 := by
  refine cok_q Try.func46 x46_ok (by kernel_rfl) (cok_tab (cok_cons c79 cok_nil)) ?_
  intro args_ E_ nn_ cr_ hg_
  unfold g46 at hg_
  split at hg_
  · rename_i p_W p_H p_Cells
    split at hg_
    · rename_i p_Cells_n p_Cells_s p_Cells_f h_p_Cells
      cases hg_
      refine ⟨_, _, rfl, 1, [p_Cells], [.a [.v (.int .i64 p_W), .v (.int .i64 p_H), .n 0]], [(0, .ro (decL eU8 p_Cells_n p_Cells_f).length eU8.sz (rowF eU8 (decL eU8 p_Cells_n p_Cells_f)))], .o (.c (.v (.bool (planB p_W p_H (decL eU8 p_Cells_n p_Cells_f))))), rfl, rfl, by simp only [push_cast, Nat.reduceLT, Nat.reduceAdd], by simp only [push_cast, Nat.reduceLT, Nat.reduceAdd], by simp only [push_cast, Nat.reduceLT, Nat.reduceAdd], rfl, ⟨inE0_row h_p_Cells, trivial⟩, rfl, ?_⟩
      intro hpre hlen
      obtain ⟨i_p_Cells, hpre⟩ := hpre
      refine ⟨⟨inE_row h_p_Cells i_p_Cells, trivial⟩, ?_⟩
      have z_p_Cells := lens_row (E := eU8) hlen h_p_Cells
      clear i_p_Cells
      generalize decL eU8 p_Cells_n p_Cells_f = p_CellsL at *
      clear h_p_Cells
      simp (config := {maxSteps := 10000000}) only [x46, push_cast, Nat.reduceAdd, Nat.reduceSub, Nat.reduceLeDiff, Nat.reduceEqDiff, Nat.reduceBEq, Nat.reduceMul, Nat.reduceLT, reduceIte, reduceCtorEq, Int.reduceLE, Int.reduceLT, Int.reduceEq, Int.reduceMul, Int.reduceAdd, Int.reduceSub, Int.reduceNeg, Int.reduceToNat, Int.reduceNe, g79]
    · cases hg_
  · cases hg_
/-- wayfinder/wayfinderbase.Inside -/
def g66 : Con := fun args_ E_ nn_ => match args_ with
  | [.a [.v (.int .i64 p_W), .v (.int .i64 p_H), .n p_Cells], .a [.v (.int .i64 c_X), .v (.int .i64 c_Y)]] => (match rowOf E_ p_Cells with
    | some (p_Cells_n, p_Cells_s, p_Cells_f) => some (.q (isRow eU8 p_Cells_n p_Cells_s p_Cells_f ∧ True) (.o (.c (.v (.bool (insB p_W p_H c_X c_Y))))))
    | none => none)
  | _ => none
theorem c66 : COk Try.prog 66 g66 := by
  refine cok_q Try.func66 x66_ok (by kernel_rfl) (cok_tab cok_nil) ?_
  intro args_ E_ nn_ cr_ hg_
  unfold g66 at hg_
  split at hg_
  · rename_i p_W p_H p_Cells c_X c_Y
    split at hg_
    · rename_i p_Cells_n p_Cells_s p_Cells_f h_p_Cells
      cases hg_
      refine ⟨_, _, rfl, 1, [p_Cells], [.a [.v (.int .i64 p_W), .v (.int .i64 p_H), .n 0], .a [.v (.int .i64 c_X), .v (.int .i64 c_Y)]], [(0, .ro (decL eU8 p_Cells_n p_Cells_f).length eU8.sz (rowF eU8 (decL eU8 p_Cells_n p_Cells_f)))], .o (.c (.v (.bool (insB p_W p_H c_X c_Y)))), rfl, rfl, by simp only [push_cast, Nat.reduceLT, Nat.reduceAdd], by simp only [push_cast, Nat.reduceLT, Nat.reduceAdd], by simp only [push_cast, Nat.reduceLT, Nat.reduceAdd], rfl, ⟨inE0_row h_p_Cells, trivial⟩, rfl, ?_⟩
      intro hpre hlen
      obtain ⟨i_p_Cells, hpre⟩ := hpre
      refine ⟨⟨inE_row h_p_Cells i_p_Cells, trivial⟩, ?_⟩
      have z_p_Cells := lens_row (E := eU8) hlen h_p_Cells
      clear i_p_Cells
      generalize decL eU8 p_Cells_n p_Cells_f = p_CellsL at *
      clear h_p_Cells
      simp (config := {maxSteps := 10000000}) only [x66, push_cast, Nat.reduceAdd, Nat.reduceSub, Nat.reduceLeDiff, Nat.reduceEqDiff, Nat.reduceBEq, Nat.reduceMul, Nat.reduceLT, reduceIte, reduceCtorEq, Int.reduceLE, Int.reduceLT, Int.reduceEq, Int.reduceMul, Int.reduceAdd, Int.reduceSub, Int.reduceNeg, Int.reduceToNat, Int.reduceNe]
      rw [Bool.eq_iff_iff]
      simp [insB]
      try omega
    · cases hg_
  · cases hg_
/-- wayfinder/wayfinderbase.At -/
def g67 : Con := fun args_ E_ nn_ => match args_ with
  | [.a [.v (.int .i64 p_W), .v (.int .i64 p_H), .n p_Cells], .a [.v (.int .i64 c_X), .v (.int .i64 c_Y)]] => (match rowOf E_ p_Cells with
    | some (p_Cells_n, p_Cells_s, p_Cells_f) => some (.q (isRow eU8 p_Cells_n p_Cells_s p_Cells_f ∧ planB p_W p_H (decL eU8 p_Cells_n p_Cells_f) = true) (.o (.c (.v (.int .u8 (atB p_W p_H (decL eU8 p_Cells_n p_Cells_f) c_X c_Y))))))
    | none => none)
  | _ => none
theorem c67 : COk Try.prog 67 g67 := by
  refine cok_q Try.func67 x67_ok (by kernel_rfl) (cok_tab (cok_cons c66 cok_nil)) ?_
  intro args_ E_ nn_ cr_ hg_
  unfold g67 at hg_
  split at hg_
  · rename_i p_W p_H p_Cells c_X c_Y
    split at hg_
    · rename_i p_Cells_n p_Cells_s p_Cells_f h_p_Cells
      cases hg_
      refine ⟨_, _, rfl, 1, [p_Cells], [.a [.v (.int .i64 p_W), .v (.int .i64 p_H), .n 0], .a [.v (.int .i64 c_X), .v (.int .i64 c_Y)]], [(0, .ro (decL eU8 p_Cells_n p_Cells_f).length eU8.sz (rowF eU8 (decL eU8 p_Cells_n p_Cells_f)))], .o (.c (.v (.int .u8 (atB p_W p_H (decL eU8 p_Cells_n p_Cells_f) c_X c_Y)))), rfl, rfl, by simp only [push_cast, Nat.reduceLT, Nat.reduceAdd], by simp only [push_cast, Nat.reduceLT, Nat.reduceAdd], by simp only [push_cast, Nat.reduceLT, Nat.reduceAdd], rfl, ⟨inE0_row h_p_Cells, trivial⟩, rfl, ?_⟩
      intro hpre hlen
      obtain ⟨i_p_Cells, hpre⟩ := hpre
      refine ⟨⟨inE_row h_p_Cells i_p_Cells, trivial⟩, ?_⟩
      have z_p_Cells := lens_row (E := eU8) hlen h_p_Cells
      clear i_p_Cells
      generalize decL eU8 p_Cells_n p_Cells_f = p_CellsL at *
      clear h_p_Cells
      simp (config := {maxSteps := 10000000}) only [x67, push_cast, Nat.reduceAdd, Nat.reduceSub, Nat.reduceLeDiff, Nat.reduceEqDiff, Nat.reduceBEq, Nat.reduceMul, Nat.reduceLT, reduceIte, reduceCtorEq, Int.reduceLE, Int.reduceLT, Int.reduceEq, Int.reduceMul, Int.reduceAdd, Int.reduceSub, Int.reduceNeg, Int.reduceToNat, Int.reduceNe, g66]
      refine ⟨fun g => by simp [atB, hpre, g], fun g => ?_⟩
      have h := hpre
      have k := idx_bd h g
      have hi := g
      simp only [insB, decide_eq_true_eq] at hi
      rw [wrapI (n := c_Y * p_W) (by omega) (by omega), wrapI (by omega) (by omega)]
      exact ⟨⟨by omega, by omega⟩, by omega, by simp [atB, h, g]⟩
    · cases hg_
  · cases hg_
/-- wayfinder/wayfinderref08.At -/
def g29 : Con := fun args_ E_ nn_ => match args_ with
  | [.a [.v (.int .i64 p_W), .v (.int .i64 p_H), .n p_Cells], .a [.v (.int .i64 c_X), .v (.int .i64 c_Y)]] => (match rowOf E_ p_Cells with
    | some (p_Cells_n, p_Cells_s, p_Cells_f) => some (.q (isRow eU8 p_Cells_n p_Cells_s p_Cells_f ∧ True) (.o (.c (.v (.int .u8 (atB p_W p_H (decL eU8 p_Cells_n p_Cells_f) c_X c_Y))))))
    | none => none)
  | _ => none
theorem c29 : COk Try.prog 29 g29 := by
  refine cok_q Try.func29 x29_ok (by kernel_rfl) (cok_tab (cok_cons c46 (cok_cons c67 cok_nil))) ?_
  intro args_ E_ nn_ cr_ hg_
  unfold g29 at hg_
  split at hg_
  · rename_i p_W p_H p_Cells c_X c_Y
    split at hg_
    · rename_i p_Cells_n p_Cells_s p_Cells_f h_p_Cells
      cases hg_
      refine ⟨_, _, rfl, 1, [p_Cells], [.a [.v (.int .i64 p_W), .v (.int .i64 p_H), .n 0], .a [.v (.int .i64 c_X), .v (.int .i64 c_Y)]], [(0, .ro (decL eU8 p_Cells_n p_Cells_f).length eU8.sz (rowF eU8 (decL eU8 p_Cells_n p_Cells_f)))], .o (.c (.v (.int .u8 (atB p_W p_H (decL eU8 p_Cells_n p_Cells_f) c_X c_Y)))), rfl, rfl, by simp only [push_cast, Nat.reduceLT, Nat.reduceAdd], by simp only [push_cast, Nat.reduceLT, Nat.reduceAdd], by simp only [push_cast, Nat.reduceLT, Nat.reduceAdd], rfl, ⟨inE0_row h_p_Cells, trivial⟩, rfl, ?_⟩
      intro hpre hlen
      obtain ⟨i_p_Cells, hpre⟩ := hpre
      refine ⟨⟨inE_row h_p_Cells i_p_Cells, trivial⟩, ?_⟩
      have z_p_Cells := lens_row (E := eU8) hlen h_p_Cells
      clear i_p_Cells
      generalize decL eU8 p_Cells_n p_Cells_f = p_CellsL at *
      clear h_p_Cells
      simp (config := {maxSteps := 10000000}) only [x29, push_cast, Nat.reduceAdd, Nat.reduceSub, Nat.reduceLeDiff, Nat.reduceEqDiff, Nat.reduceBEq, Nat.reduceMul, Nat.reduceLT, reduceIte, reduceCtorEq, Int.reduceLE, Int.reduceLT, Int.reduceEq, Int.reduceMul, Int.reduceAdd, Int.reduceSub, Int.reduceNeg, Int.reduceToNat, Int.reduceNe, g46, g67]
      intro h; simp [atB, h]
    · cases hg_
  · cases hg_
/-- wayfinder/wayfinderref08.Put -/
def g26 : Con := fun args_ E_ nn_ => match args_ with
  | [.a [.v (.int .i64 p_W), .v (.int .i64 p_H), .n p_Cells], .a [.v (.int .i64 c_X), .v (.int .i64 c_Y)], .c (.v (.int .u8 value))] => (match rowOf E_ p_Cells with
    | some (p_Cells_n, p_Cells_s, p_Cells_f) => some (.e (isRow eU8 p_Cells_n p_Cells_s p_Cells_f ∧ 0 ≤ value ∧ value ≤ 255) (.t [.a [.v (.int .i64 (mE (puE p_W p_H (decL eU8 p_Cells_n p_Cells_f) c_X c_Y value) p_W)), .v (.int .i64 (mE (puE p_W p_H (decL eU8 p_Cells_n p_Cells_f) c_X c_Y value) p_H)), .n (nn_ + 0)], .c (.v (.int .i64 (puE p_W p_H (decL eU8 p_Cells_n p_Cells_f) c_X c_Y value)))]) [((nn_ + 0), .own (puL p_W p_H (decL eU8 p_Cells_n p_Cells_f) c_X c_Y value).length 1 (rowF eU8 (puL p_W p_H (decL eU8 p_Cells_n p_Cells_f) c_X c_Y value)) 5)] (nn_ + 1))
    | none => none)
  | _ => none
theorem c26 : COk Try.prog 26 g26 := by
  refine cok_e Try.func26 x26_ok (by kernel_rfl) (cok_tab (cok_cons c46 (cok_cons c66 cok_nil))) ?_
  intro args_ E_ nn_ cr_ hg_
  unfold g26 at hg_
  split at hg_
  · rename_i p_W p_H p_Cells c_X c_Y value
    split at hg_
    · rename_i p_Cells_n p_Cells_s p_Cells_f h_p_Cells
      cases hg_
      refine ⟨_, _, _, _, rfl, 1, [p_Cells], [.a [.v (.int .i64 p_W), .v (.int .i64 p_H), .n 0], .a [.v (.int .i64 c_X), .v (.int .i64 c_Y)], .c (.v (.int .u8 value))], [(0, .ro (decL eU8 p_Cells_n p_Cells_f).length eU8.sz (rowF eU8 (decL eU8 p_Cells_n p_Cells_f)))], .t [.a [.v (.int .i64 (mE (puE p_W p_H (decL eU8 p_Cells_n p_Cells_f) c_X c_Y value) p_W)), .v (.int .i64 (mE (puE p_W p_H (decL eU8 p_Cells_n p_Cells_f) c_X c_Y value) p_H)), .n 1], .c (.v (.int .i64 (puE p_W p_H (decL eU8 p_Cells_n p_Cells_f) c_X c_Y value)))], [(1, .own (puL p_W p_H (decL eU8 p_Cells_n p_Cells_f) c_X c_Y value).length 1 (rowF eU8 (puL p_W p_H (decL eU8 p_Cells_n p_Cells_f) c_X c_Y value)) 5)], 2, rfl, rfl, by simp only [renE, Ent.ren, rowF_renf] <;> rfl, rfl, by decide, by simp only [push_cast, Nat.reduceLT, Nat.reduceAdd], by simp only [push_cast, Nat.reduceLT, Nat.reduceAdd], by simp only [push_cast, Nat.reduceLT, Nat.reduceAdd], by simp only [push_cast, Nat.reduceLT, Nat.reduceAdd], rfl, ⟨inE0_row h_p_Cells, trivial⟩, by simp only [keysNodup, outN, keys] <;> decide, rfl, rfl, ?_⟩
      intro hpre hlen
      obtain ⟨i_p_Cells, hpre⟩ := hpre
      refine ⟨⟨inE_row h_p_Cells i_p_Cells, trivial⟩, by simp only [apartE] <;> (first | trivial | (simp [Ent.mut]; done)), ?_⟩
      have z_p_Cells := lens_row (E := eU8) hlen h_p_Cells
      clear i_p_Cells
      generalize decL eU8 p_Cells_n p_Cells_f = p_CellsL at *
      clear h_p_Cells
      simp (config := {maxSteps := 10000000}) only [x26, push_cast, Nat.reduceAdd, Nat.reduceSub, Nat.reduceLeDiff, Nat.reduceEqDiff, Nat.reduceBEq, Nat.reduceMul, Nat.reduceLT, reduceIte, reduceCtorEq, Int.reduceLE, Int.reduceLT, Int.reduceEq, Int.reduceMul, Int.reduceAdd, Int.reduceSub, Int.reduceNeg, Int.reduceToNat, Int.reduceNe, g46, g66]
      refine ⟨fun h => by simp [puL, puE, mE, h], fun h h2 => ⟨fun g => by simp [puL, puE, mE, h, h2, g], fun g => ?_⟩⟩
      have e0 : puE p_W p_H p_CellsL c_X c_Y value = 0 := by simp [puE, h, h2, g]
      have k := idx_bd h g
      have hi := g
      simp only [insB, decide_eq_true_eq] at hi
      rw [wrapI (n := c_Y * p_W) (by omega) (by omega), wrapI (by omega) (by omega)]
      refine ⟨by omega, by rfl, ⟨by omega, by omega⟩, by omega, by simp [e0, mE], ?_⟩
      unfold puL
      rw [if_pos e0, cat0, upd8 (by omega)]
      exact ⟨by simp, fun e j he hj => (rowF_sub _ _ _ _).symm⟩
    · cases hg_
  · cases hg_
/-- wayfinder/wayfinderlaw08.few -/
def g23 : Con := fun args_ E_ nn_ => match args_ with
  | [.a [.v (.int .i64 p_W), .v (.int .i64 p_H), .n p_Cells]] => (match rowOf E_ p_Cells with
    | some (p_Cells_n, p_Cells_s, p_Cells_f) => some (.q (isRow eU8 p_Cells_n p_Cells_s p_Cells_f ∧ True) (.o (.c (.v (.bool (decide (((decL eU8 p_Cells_n p_Cells_f)).length ≤ 5000)))))))
    | none => none)
  | _ => none
theorem c23 : COk Try.prog 23 g23 := by
  refine cok_q Try.func23 x23_ok (by kernel_rfl) (cok_tab cok_nil) ?_
  intro args_ E_ nn_ cr_ hg_
  unfold g23 at hg_
  split at hg_
  · rename_i p_W p_H p_Cells
    split at hg_
    · rename_i p_Cells_n p_Cells_s p_Cells_f h_p_Cells
      cases hg_
      refine ⟨_, _, rfl, 1, [p_Cells], [.a [.v (.int .i64 p_W), .v (.int .i64 p_H), .n 0]], [(0, .ro (decL eU8 p_Cells_n p_Cells_f).length eU8.sz (rowF eU8 (decL eU8 p_Cells_n p_Cells_f)))], .o (.c (.v (.bool (decide (((decL eU8 p_Cells_n p_Cells_f)).length ≤ 5000))))), rfl, rfl, by simp only [push_cast, Nat.reduceLT, Nat.reduceAdd], by simp only [push_cast, Nat.reduceLT, Nat.reduceAdd], by simp only [push_cast, Nat.reduceLT, Nat.reduceAdd], rfl, ⟨inE0_row h_p_Cells, trivial⟩, rfl, ?_⟩
      intro hpre hlen
      obtain ⟨i_p_Cells, hpre⟩ := hpre
      refine ⟨⟨inE_row h_p_Cells i_p_Cells, trivial⟩, ?_⟩
      have z_p_Cells := lens_row (E := eU8) hlen h_p_Cells
      clear i_p_Cells
      generalize decL eU8 p_Cells_n p_Cells_f = p_CellsL at *
      clear h_p_Cells
      simp (config := {maxSteps := 10000000}) only [x23, push_cast, Nat.reduceAdd, Nat.reduceSub, Nat.reduceLeDiff, Nat.reduceEqDiff, Nat.reduceBEq, Nat.reduceMul, Nat.reduceLT, reduceIte, reduceCtorEq, Int.reduceLE, Int.reduceLT, Int.reduceEq, Int.reduceMul, Int.reduceAdd, Int.reduceSub, Int.reduceNeg, Int.reduceToNat, Int.reduceNe]
      rw [decide_eq_decide]; omega
    · cases hg_
  · cases hg_
/-- wayfinder/wayfinderlaw08.clone -/
def g24 : Con := fun args_ E_ nn_ => match args_ with
  | [.a [.v (.int .i64 p_W), .v (.int .i64 p_H), .n p_Cells]] => (match rowOf E_ p_Cells with
    | some (p_Cells_n, p_Cells_s, p_Cells_f) => some (.e (isRow eU8 p_Cells_n p_Cells_s p_Cells_f ∧ ((decL eU8 p_Cells_n p_Cells_f)).length ≤ 100000) (.o (.a [.v (.int .i64 p_W), .v (.int .i64 p_H), .n (nn_ + 0)])) [((nn_ + 0), .own ((decL eU8 p_Cells_n p_Cells_f)).length 1 (rowF eU8 ((decL eU8 p_Cells_n p_Cells_f))) 5)] (nn_ + 1))
    | none => none)
  | _ => none
theorem c24 : COk Try.prog 24 g24 := by
  refine cok_e Try.func24 x24_ok (by kernel_rfl) (cok_tab cok_nil) ?_
  intro args_ E_ nn_ cr_ hg_
  unfold g24 at hg_
  split at hg_
  · rename_i p_W p_H p_Cells
    split at hg_
    · rename_i p_Cells_n p_Cells_s p_Cells_f h_p_Cells
      cases hg_
      refine ⟨_, _, _, _, rfl, 1, [p_Cells], [.a [.v (.int .i64 p_W), .v (.int .i64 p_H), .n 0]], [(0, .ro (decL eU8 p_Cells_n p_Cells_f).length eU8.sz (rowF eU8 (decL eU8 p_Cells_n p_Cells_f)))], .o (.a [.v (.int .i64 p_W), .v (.int .i64 p_H), .n 1]), [(1, .own ((decL eU8 p_Cells_n p_Cells_f)).length 1 (rowF eU8 ((decL eU8 p_Cells_n p_Cells_f))) 5)], 2, rfl, rfl, by simp only [renE, Ent.ren, rowF_renf] <;> rfl, rfl, by decide, by simp only [push_cast, Nat.reduceLT, Nat.reduceAdd], by simp only [push_cast, Nat.reduceLT, Nat.reduceAdd], by simp only [push_cast, Nat.reduceLT, Nat.reduceAdd], by simp only [push_cast, Nat.reduceLT, Nat.reduceAdd], rfl, ⟨inE0_row h_p_Cells, trivial⟩, by simp only [keysNodup, outN, keys] <;> decide, rfl, rfl, ?_⟩
      intro hpre hlen
      obtain ⟨i_p_Cells, hpre⟩ := hpre
      refine ⟨⟨inE_row h_p_Cells i_p_Cells, trivial⟩, by simp only [apartE] <;> (first | trivial | (simp [Ent.mut]; done)), ?_⟩
      have z_p_Cells := lens_row (E := eU8) hlen h_p_Cells
      clear i_p_Cells
      generalize decL eU8 p_Cells_n p_Cells_f = p_CellsL at *
      clear h_p_Cells
      simp (config := {maxSteps := 10000000}) only [x24, push_cast, Nat.reduceAdd, Nat.reduceSub, Nat.reduceLeDiff, Nat.reduceEqDiff, Nat.reduceBEq, Nat.reduceMul, Nat.reduceLT, reduceIte, reduceCtorEq, Int.reduceLE, Int.reduceLT, Int.reduceEq, Int.reduceMul, Int.reduceAdd, Int.reduceSub, Int.reduceNeg, Int.reduceToNat, Int.reduceNe]
      refine ⟨by omega, by rfl, ?_⟩
      rw [cat0]
      exact fun e j he hj => (rowF_sub _ _ _ _).symm
    · cases hg_
  · cases hg_
/-- wayfinder/wayfinderbase.Plans -/
def g27 : Con := fun args_ E_ nn_ => match args_ with
  | [.a [.v (.int .i64 a_W), .v (.int .i64 a_H), .n a_Cells], .a [.v (.int .i64 b_W), .v (.int .i64 b_H), .n b_Cells]] => (match rowOf E_ a_Cells with
    | some (a_Cells_n, a_Cells_s, a_Cells_f) => (match rowOf E_ b_Cells with
    | some (b_Cells_n, b_Cells_s, b_Cells_f) => some (.q (isRow eU8 a_Cells_n a_Cells_s a_Cells_f ∧ isRow eU8 b_Cells_n b_Cells_s b_Cells_f ∧ u8s (decL eU8 a_Cells_n a_Cells_f) ∧ u8s (decL eU8 b_Cells_n b_Cells_f)) (.o (.c (.v (.bool (decide (a_W = b_W ∧ a_H = b_H ∧ (decL eU8 a_Cells_n a_Cells_f) = (decL eU8 b_Cells_n b_Cells_f))))))))
    | none => none)
    | none => none)
  | _ => none
theorem c27 : COk Try.prog 27 g27 := by
  refine cok_q Try.func27 x27_ok (by kernel_rfl) (cok_tab cok_nil) ?_
  intro args_ E_ nn_ cr_ hg_
  unfold g27 at hg_
  split at hg_
  · rename_i a_W a_H a_Cells b_W b_H b_Cells
    split at hg_
    · rename_i a_Cells_n a_Cells_s a_Cells_f h_a_Cells
      split at hg_
      · rename_i b_Cells_n b_Cells_s b_Cells_f h_b_Cells
        cases hg_
        refine ⟨_, _, rfl, 2, [a_Cells, b_Cells], [.a [.v (.int .i64 a_W), .v (.int .i64 a_H), .n 0], .a [.v (.int .i64 b_W), .v (.int .i64 b_H), .n 1]], [(0, .ro (decL eU8 a_Cells_n a_Cells_f).length eU8.sz (rowF eU8 (decL eU8 a_Cells_n a_Cells_f))), (1, .ro (decL eU8 b_Cells_n b_Cells_f).length eU8.sz (rowF eU8 (decL eU8 b_Cells_n b_Cells_f)))], .o (.c (.v (.bool (decide (a_W = b_W ∧ a_H = b_H ∧ (decL eU8 a_Cells_n a_Cells_f) = (decL eU8 b_Cells_n b_Cells_f)))))), rfl, rfl, by simp only [push_cast, Nat.reduceLT, Nat.reduceAdd], by simp only [push_cast, Nat.reduceLT, Nat.reduceAdd], by simp only [push_cast, Nat.reduceLT, Nat.reduceAdd], rfl, ⟨inE0_row h_a_Cells, inE0_row h_b_Cells, trivial⟩, rfl, ?_⟩
        intro hpre hlen
        obtain ⟨i_a_Cells, hpre⟩ := hpre
        obtain ⟨i_b_Cells, hpre⟩ := hpre
        refine ⟨⟨inE_row h_a_Cells i_a_Cells, inE_row h_b_Cells i_b_Cells, trivial⟩, ?_⟩
        have z_a_Cells := lens_row (E := eU8) hlen h_a_Cells
        have z_b_Cells := lens_row (E := eU8) hlen h_b_Cells
        clear i_a_Cells
        generalize decL eU8 a_Cells_n a_Cells_f = a_CellsL at *
        clear i_b_Cells
        generalize decL eU8 b_Cells_n b_Cells_f = b_CellsL at *
        clear h_a_Cells
        clear h_b_Cells
        simp (config := {maxSteps := 10000000}) only [x27, push_cast, Nat.reduceAdd, Nat.reduceSub, Nat.reduceLeDiff, Nat.reduceEqDiff, Nat.reduceBEq, Nat.reduceMul, Nat.reduceLT, reduceIte, reduceCtorEq, Int.reduceLE, Int.reduceLT, Int.reduceEq, Int.reduceMul, Int.reduceAdd, Int.reduceSub, Int.reduceNeg, Int.reduceToNat, Int.reduceNe]
        rw [Bool.eq_iff_iff]
        simp only [Bool.and_eq_true, beq_iff_eq, decide_eq_true_eq, strB_inj hpre.1 hpre.2, and_assoc]
      · cases hg_
    · cases hg_
  · cases hg_
def x7 : XFn := ⟨88, (.seq (.reg false [O1 3 (.box 46) 0, O1 4 (.box 48) 1, K1 6 .mv (.bool false)]) (.seq (.seq (.reg false [⟨(some 15), (.call 13), [], none⟩, O1 16 (.un .not) 15, O1 17 .mv 16, G1 18 (.loadN 3) 3 17 false, G1 19 (.call 23) 18 17 false, G1 20 (.un .not) 19 17 false, ⟨(some 21), .pick, [(.t 17), (.k (.bool true)), (.t 20)], none⟩]) (.cond (.t 21) (.seq (.reg false [⟨(some 22), (.call 13), [], none⟩, O1 6 .mv 22]) .ret) .skip)) (.seq (.reg false [O1 23 (.loadN 3) 3, O1 24 (.call 24) 23, ⟨(some 7), (.alloc 46 [(iV 0), (iV 0), (.slice none 0 0)]), [], none⟩, ⟨none, (.store 3), [(.t 7), (.t 24)], none⟩]) (.seq (.regD [K2 25 (.ixA 2 2) 4 (iV 0), O1 26 (.loadN 2) 25, K2 27 (.ixA 2 2) 4 (iV 1), O1 28 (.loadN 2) 27, ⟨(some 8), (.alloc 47 [(iV 0), (iV 0)]), [], none⟩, ⟨(some 9), (.alloc 47 [(iV 0), (iV 0)]), [], none⟩, ⟨none, (.store 2), [(.t 8), (.t 26)], none⟩, ⟨none, (.store 2), [(.t 9), (.t 28)], none⟩] [[], [0], [], [2], [], [], [4, 1, 0, 5], [5, 3, 2, 6, 4, 1, 0]]) (.seq (.reg false [O1 30 (.loadN 3) 7, O1 31 (.loadN 2) 8, O1 32 .mv 2, ⟨(some 33), (.call 25), [(.t 30), (.t 31), (.t 32)], none⟩, O1 29 .mv 33, O1 34 (.ext 0) 29, O1 35 (.ext 1) 29, ⟨(some 10), (.alloc 46 [(iV 0), (iV 0), (.slice none 0 0)]), [], none⟩, ⟨none, (.store 3), [(.t 10), (.t 34)], none⟩, O1 11 .mv 35]) (.seq (.reg false [O1 37 (.loadN 3) 3, O1 38 (.loadN 2) 8, O1 39 .mv 2, ⟨(some 40), (.call 26), [(.t 37), (.t 38), (.t 39)], none⟩, O1 36 .mv 40, O1 41 (.ext 0) 36, O1 42 (.ext 1) 36, ⟨(some 12), (.alloc 46 [(iV 0), (iV 0), (.slice none 0 0)]), [], none⟩, ⟨none, (.store 3), [(.t 12), (.t 41)], none⟩, O1 13 .mv 42]) (.seq (.seq (.reg true [O1 43 .mv 11, O1 44 .mv 13, O2 45 (.bin .neq) 43 44, O1 46 .mv 45, G1 47 (.loadN 3) 10 46 false, G1 48 (.loadN 3) 12 46 false, G2 49 (.call 27) 47 48 46 false, G1 50 (.un .not) 49 46 false, ⟨(some 51), .pick, [(.t 46), (.k (.bool true)), (.t 50)], none⟩, O1 52 .mv 51, G1 53 (.loadN 3) 7 52 false, G1 54 (.loadN 3) 3 52 false, G2 55 (.call 27) 53 54 52 false, G1 56 (.un .not) 55 52 false, ⟨(some 57), .pick, [(.t 52), (.k (.bool true)), (.t 56)], none⟩, O1 58 .mv 57, G1 59 (.loadN 3) 3 58 false, G1 60 (.loadN 2) 8 58 false, G2 61 (.call 28) 59 60 58 false, G1 62 (.loadN 3) 3 58 false, G1 63 (.loadN 2) 8 58 false, G2 64 (.call 29) 62 63 58 false, G2 65 (.bin .neq) 61 64 58 false, ⟨(some 66), .pick, [(.t 58), (.k (.bool true)), (.t 65)], none⟩]) (.cond (.t 66) (.seq (.reg false [K1 6 .mv (.bool false)]) .ret) .skip)) (.seq (.seq (.reg false [O1 67 .mv 11, K2 68 (.bin .neq) 67 (iV 0)]) (.cond (.t 68) (.seq (.reg false [K1 6 .mv (.bool true)]) .ret) .skip)) (.seq (.reg false [O1 69 (.loadN 3) 3, O1 70 (.loadN 2) 9, O2 71 (.call 28) 69 70, O1 14 .mv 71]) (.seq (.seq (.reg false [O1 72 (.loadN 2) 9, O1 73 (.loadN 2) 8, ⟨(some 74), (.eqA false [(.i .i64), (.i .i64)]), [(.t 72), (.t 73)], none⟩]) (.cond (.t 74) (.reg false [O1 75 .mv 2, O1 14 .mv 75]) .skip)) (.seq (.reg false [O1 76 (.loadN 3) 10, O1 77 (.loadN 2) 9, O2 78 (.call 28) 76 77, O1 79 .mv 14, O2 80 (.bin .eql) 78 79, O1 81 .mv 80, G1 82 (.loadN 3) 10 81 true, G1 83 (.loadN 2) 8 81 true, G2 84 (.call 28) 82 83 81 true, G1 85 .mv 2 81 true, G2 86 (.bin .eql) 84 85 81 true, ⟨(some 87), .pick, [(.t 81), (.t 86), (.k (.bool false))], none⟩, O1 6 .mv 87]) .ret))))))))))), [(.s 6)]⟩
theorem x7_ok : xfn Try.prog Try.f7 = some x7.er := by kernel_rfl
/-- wayfinder/wayfinderlaw08.PlanPuts -/
def g7 : Con := fun args_ E_ nn_ => match args_ with
  | [.a [.v (.int .i64 p_W), .v (.int .i64 p_H), .n p_Cells], .a [.v (.int .i64 l_0_X), .v (.int .i64 l_0_Y), .v (.int .i64 l_1_X), .v (.int .i64 l_1_Y)], .c (.v (.int .u8 value))] => (match rowOf E_ p_Cells with
    | some (p_Cells_n, p_Cells_s, p_Cells_f) => some (.q (isRow eU8 p_Cells_n p_Cells_s p_Cells_f ∧ u8s (decL eU8 p_Cells_n p_Cells_f) ∧ 0 ≤ value ∧ value ≤ 255) (.o (.c (.v (.bool (true))))))
    | none => none)
  | _ => none
theorem c7 : COk Try.prog 7 g7 := by
  refine cok_q Try.func7 x7_ok (by kernel_rfl) (cok_tab (cok_cons c13 (cok_cons c23 (cok_cons c24 (cok_cons c25 (cok_cons c26 (cok_cons c27 (cok_cons c28 (cok_cons c29 cok_nil))))))))) ?_
  intro args_ E_ nn_ cr_ hg_
  unfold g7 at hg_
  split at hg_
  · rename_i p_W p_H p_Cells l_0_X l_0_Y l_1_X l_1_Y value
    split at hg_
    · rename_i p_Cells_n p_Cells_s p_Cells_f h_p_Cells
      cases hg_
      refine ⟨_, _, rfl, 1, [p_Cells], [.a [.v (.int .i64 p_W), .v (.int .i64 p_H), .n 0], .a [.v (.int .i64 l_0_X), .v (.int .i64 l_0_Y), .v (.int .i64 l_1_X), .v (.int .i64 l_1_Y)], .c (.v (.int .u8 value))], [(0, .ro (decL eU8 p_Cells_n p_Cells_f).length eU8.sz (rowF eU8 (decL eU8 p_Cells_n p_Cells_f)))], .o (.c (.v (.bool (true)))), rfl, rfl, by simp only [push_cast, Nat.reduceLT, Nat.reduceAdd], by simp only [push_cast, Nat.reduceLT, Nat.reduceAdd], by simp only [push_cast, Nat.reduceLT, Nat.reduceAdd], rfl, ⟨inE0_row h_p_Cells, trivial⟩, rfl, ?_⟩
      intro hpre hlen
      obtain ⟨i_p_Cells, hpre⟩ := hpre
      refine ⟨⟨inE_row h_p_Cells i_p_Cells, trivial⟩, ?_⟩
      have z_p_Cells := lens_row (E := eU8) hlen h_p_Cells
      clear i_p_Cells
      generalize decL eU8 p_Cells_n p_Cells_f = p_CellsL at *
      clear h_p_Cells
      simp (config := {maxSteps := 10000000}) only [x7, push_cast, Nat.reduceAdd, Nat.reduceSub, Nat.reduceLeDiff, Nat.reduceEqDiff, Nat.reduceBEq, Nat.reduceMul, Nat.reduceLT, reduceIte, reduceCtorEq, Int.reduceLE, Int.reduceLT, Int.reduceEq, Int.reduceMul, Int.reduceAdd, Int.reduceSub, Int.reduceNeg, Int.reduceToNat, Int.reduceNe, g13, g23, g24, g25, g26, g27, g28, g29]
      intro h
      refine ⟨by omega, by rfl, hpre.2, hpre.2, puL_u8 hpre.1 hpre.2, hpre.1, fun g => ?_⟩
      rw [put_at g, put_at g, if_pos (And.intro rfl rfl)]
      refine ⟨fun e1 e2 => ⟨by rw [if_pos (And.intro e1 e2)], rfl⟩, fun e => ⟨?_, rfl⟩⟩
      rw [if_neg]
      rintro ⟨rfl, rfl⟩
      simp at e
    · cases hg_
  · cases hg_
end Go.Proofs.Ytbjgaejmkhjbaaa
