/- A part of the proof of a statement about this seat: how a function is stepped through, and plain laws. No conditions. -/
import Derived.Test.YtbjgaejmkhjbaaaRows
import Derived.Test.YtbjgaejmkhjbaaaSz3
import Derived.Test.YtbjgaejmkhjbaaaQ2
import Derived.KernelRfl
set_option linter.unusedVariables false
set_option linter.unusedSimpArgs false
set_option maxRecDepth 20000
namespace Go.Proofs.Ytbjgaejmkhjbaaa
open Go.Sx
/-! ### The cells that are met lie in both ranges -/
theorem fl_min {a b d : Int} (hd : 0 < d) : min (a / d) (b / d) = min a b / d := by
  rcases Int.le_total a b with h | h
  · rw [Int.min_eq_left h, Int.min_eq_left (Int.ediv_le_ediv hd h)]
  · rw [Int.min_eq_right h, Int.min_eq_right (Int.ediv_le_ediv hd h)]
theorem fl_max {a b d : Int} (hd : 0 < d) : max (a / d) (b / d) = max a b / d := by
  rcases Int.le_total a b with h | h
  · rw [Int.max_eq_right h, Int.max_eq_right (Int.ediv_le_ediv hd h)]
  · rw [Int.max_eq_left h, Int.max_eq_left (Int.ediv_le_ediv hd h)]
theorem spd_bd {n m v d lo hi : Int} (hm : 0 < m) (h1 : lo * m ≤ n * d) (h2 : n * d ≤ hi * m) : min (lo * v) (hi * v) * m ≤ n * v * d ∧ n * v * d ≤ max (lo * v) (hi * v) * m := by
  have e : n * v * d = n * d * v := by grind
  rw [e]
  have k1 : min (lo * v) (hi * v) * m ≤ lo * v * m ∧ min (lo * v) (hi * v) * m ≤ hi * v * m := ⟨Int.mul_le_mul_of_nonneg_right (by omega) (by omega), Int.mul_le_mul_of_nonneg_right (by omega) (by omega)⟩
  have k2 : lo * v * m ≤ max (lo * v) (hi * v) * m ∧ hi * v * m ≤ max (lo * v) (hi * v) * m := ⟨Int.mul_le_mul_of_nonneg_right (by omega) (by omega), Int.mul_le_mul_of_nonneg_right (by omega) (by omega)⟩
  have f1 : lo * v * m = lo * m * v := by grind
  have f2 : hi * v * m = hi * m * v := by grind
  rcases Int.le_total 0 v with h | h
  · have g1 := Int.mul_le_mul_of_nonneg_right h1 h
    have g2 := Int.mul_le_mul_of_nonneg_right h2 h
    omega
  · have g1 := Int.mul_le_mul_of_nonpos_right h1 h
    have g2 := Int.mul_le_mul_of_nonpos_right h2 h
    omega
theorem rng_one {n m v d lo hi a b x : Int} (hm : 0 < m) (hd : 0 < d) (h1 : lo * m ≤ n * d) (h2 : n * d ≤ hi * m) (h : inC n m 0 v (x * 64 - b) (x * 64 + 64 - a)) :
    x * 64 ≤ b + max (lo * v) (hi * v) / d ∧ a + min (lo * v) (hi * v) / d ≤ x * 64 + 64 := by
  obtain ⟨s1, s2⟩ := spd_bd (v := v) hm h1 h2
  unfold inC at h
  rw [Int.zero_mul, Int.zero_add] at h
  have t1 := Int.mul_le_mul_of_nonneg_right h.1 (Int.le_of_lt hd)
  have t2 := Int.mul_le_mul_of_nonneg_right h.2 (Int.le_of_lt hd)
  have u1 : (x * 64 - b) * d * m ≤ max (lo * v) (hi * v) * m := by
    have : (x * 64 - b) * d * m = (x * 64 - b) * m * d := by grind
    omega
  have u2 : min (lo * v) (hi * v) * m ≤ (x * 64 + 64 - a) * d * m := by
    have : (x * 64 + 64 - a) * d * m = (x * 64 + 64 - a) * m * d := by grind
    omega
  have w1 := Int.le_of_mul_le_mul_right u1 hm
  have w2 := Int.le_of_mul_le_mul_right u2 hm
  have z1 : x * 64 - b ≤ max (lo * v) (hi * v) / d := Int.le_ediv_of_mul_le hd w1
  have z2 : min (lo * v) (hi * v) / d ≤ x * 64 + 64 - a := Int.ediv_le_of_le_mul hd w2
  omega
theorem sw_rng {x0 y0 x1 y1 vx vy vd lo hi x y : Int} (h : swP x0 y0 x1 y1 vx vy vd lo hi x y = true) :
    (x * 64 ≤ x1 + max (lo * vx) (hi * vx) / vd ∧ x0 + min (lo * vx) (hi * vx) / vd ≤ x * 64 + 64) ∧ y * 64 ≤ y1 + max (lo * vy) (hi * vy) / vd ∧ y0 + min (lo * vy) (hi * vy) / vd ≤ y * 64 + 64 := by
  unfold swP at h
  simp only [Bool.and_eq_true] at h
  obtain ⟨_, h⟩ := h
  rw [meets_iff] at h
  obtain ⟨_, _, h2, _, n, m, hm, hn, hx, hy, hl, hh⟩ := h
  have a2 := vec_bd h2
  exact ⟨rng_one hm (by omega) hl hh hx, rng_one hm (by omega) hl hh hy⟩
/-- The reference's range of a coordinate. -/
def kLo (a n d lo hi : Int) : Int := (a + min (lo * n / d) (hi * n / d)) / 64 - 1
def kHi (b n d lo hi : Int) : Int := (b + max (lo * n / d) (hi * n / d) + 1) / 64 + 1
def rwL (x0 y0 x1 y1 vx vy vd lo hi : Int) : List CC := gridL (swP x0 y0 x1 y1 vx vy vd lo hi) (kLo x0 vx vd lo hi) (kHi x1 vx vd lo hi) (kLo y0 vy vd lo hi) (kHi y1 vy vd lo hi)
theorem rw_eq {x0 y0 x1 y1 vx vy vd lo hi : Int} (hv : vecB vx vy vd = true) : rwL x0 y0 x1 y1 vx vy vd lo hi = swL x0 y0 x1 y1 vx vy vd lo hi := by
  have a2 := vec_bd hv
  refine grid_ext (gridL_sorted _ _ _ _ _) (gridL_sorted _ _ _ _ _) fun c => ?_
  unfold rwL swL
  rw [gridL_mem, gridL_mem]
  unfold kLo kHi rLo rHi
  rw [fl_min (by omega), fl_max (by omega), fl_min (by omega), fl_max (by omega)]
  constructor
  · rintro ⟨h, _⟩
    have := sw_rng h
    refine ⟨h, ?_⟩
    omega
  · rintro ⟨h, _⟩
    have := sw_rng h
    refine ⟨h, ?_⟩
    omega
def rsL (x0 y0 x1 y1 vx vy vd lo hi : Int) : List CC := if seE x0 y0 x1 y1 vx vy vd lo hi = 0 then rwL x0 y0 x1 y1 vx vy vd lo hi else []
theorem rs_eq (x0 y0 x1 y1 vx vy vd lo hi : Int) : rsL x0 y0 x1 y1 vx vy vd lo hi = seL x0 y0 x1 y1 vx vy vd lo hi := by
  unfold rsL seL
  split
  · rename_i h
    refine rw_eq ?_
    unfold seE at h
    split at h
    · cases h
    · rename_i h2
      cases hv : vecB vx vy vd
      · exact absurd (.inr hv) h2
      · rfl
  · rfl
theorem tr_se (x y vx vy vd lo hi : Int) : trE x y vx vy vd lo hi = seE x y x y vx vy vd lo hi ∧ trL x y vx vy vd lo hi = seL x y x y vx vy vd lo hi := by
  have e : trE x y vx vy vd lo hi = seE x y x y vx vy vd lo hi := by
    unfold trE seE
    have : pRectB x y x y = pPtB x y := by unfold pRectB; simp
    rw [this]
    split
    · rfl
    · split
      · rfl
      · rw [if_neg (by omega)]
  refine ⟨e, ?_⟩
  unfold trL seL
  rw [e]
def x54 : XFn := ⟨35, (.seq (.reg false [O1 1 (.box 36) 0, K1 2 .mv (.bool false)]) (.seq (.reg false [O1 3 (.fld 0) 1, O1 4 .load1 3, K2 5 (.bin .geq) 4 (iV (-1048576)), O1 6 .mv 5, G1 7 (.fld 0) 1 6 true, G1 8 .load1 7 6 true, G1 9 (.fld 2) 1 6 true, G1 10 .load1 9 6 true, G2 11 (.bin .leq) 8 10 6 true, ⟨(some 12), .pick, [(.t 6), (.t 11), (.k (.bool false))], none⟩, O1 13 .mv 12, G1 14 (.fld 2) 1 13 true, G1 15 .load1 14 13 true, GK 16 (.bin .leq) 15 (iV 1048576) 13 true, ⟨(some 17), .pick, [(.t 13), (.t 16), (.k (.bool false))], none⟩, O1 18 .mv 17, G1 19 (.fld 1) 1 18 true, G1 20 .load1 19 18 true, GK 21 (.bin .geq) 20 (iV (-1048576)) 18 true, ⟨(some 22), .pick, [(.t 18), (.t 21), (.k (.bool false))], none⟩, O1 23 .mv 22, G1 24 (.fld 1) 1 23 true, G1 25 .load1 24 23 true, G1 26 (.fld 3) 1 23 true, G1 27 .load1 26 23 true, G2 28 (.bin .leq) 25 27 23 true, ⟨(some 29), .pick, [(.t 23), (.t 28), (.k (.bool false))], none⟩, O1 30 .mv 29, G1 31 (.fld 3) 1 30 true, G1 32 .load1 31 30 true, GK 33 (.bin .leq) 32 (iV 1048576) 30 true, ⟨(some 34), .pick, [(.t 30), (.t 33), (.k (.bool false))], none⟩, O1 2 .mv 34]) .ret)), [(.s 2)]⟩
theorem x54_ok : xfn Try.prog Try.f54 = some x54.er := by kernel_rfl
def x57 : XFn := ⟨20, (.seq (.reg false [O1 1 (.box 36) 0, ⟨(some 2), (.alloc 36 [(iV 0), (iV 0), (iV 0), (iV 0)]), [], none⟩]) (.seq (.regD [O1 3 (.fld 0) 1, O1 4 .load1 3, K2 5 (.call 56) 4 (iV 64), K2 6 (.bin .sub) 5 (iV 1), O1 7 (.fld 1) 1, O1 8 .load1 7, K2 9 (.call 56) 8 (iV 64), K2 10 (.bin .sub) 9 (iV 1), O1 11 (.fld 2) 1, O1 12 .load1 11, K2 13 (.call 56) 12 (iV 64), K2 14 (.bin .add) 13 (iV 1), O1 15 (.fld 3) 1, O1 16 .load1 15, K2 17 (.call 56) 16 (iV 64), K2 18 (.bin .add) 17 (iV 1), ⟨(some 19), (.build [(iV 0), (iV 0), (iV 0), (iV 0)] [(0, 1), (1, 1), (2, 1), (3, 1)]), [(.t 6), (.t 10), (.t 14), (.t 18)], none⟩, ⟨none, (.store 4), [(.t 2), (.t 19)], none⟩] [[], [0], [1, 0], [2, 1, 0], [], [4], [5, 4, 2, 1, 0], [6, 5, 4, 2, 1, 0], [], [8], [9, 8, 6, 5, 4, 2, 1, 0], [10, 9, 8, 6, 5, 4, 2, 1, 0], [], [12], [13, 12, 10, 9, 8, 6, 5, 4, 2, 1, 0], [14, 13, 12, 10, 9, 8, 6, 5, 4, 2, 1, 0], [3, 2, 1, 0, 7, 6, 5, 4, 11, 10, 9, 8, 15, 14, 13, 12], [16, 3, 2, 1, 0, 7, 6, 5, 4, 11, 10, 9, 8, 15, 14, 13, 12]]) .ret)), [(.bn 2 4)]⟩
theorem x57_ok : xfn Try.prog Try.f57 = some x57.er := by kernel_rfl
def x18L0 : XC := (.seq (.seq (.reg false [O1 120 .mv 17, O1 121 (.fld 2) 14, O1 122 .load1 121, O2 123 (.bin .leq) 120 122]) (.cond (.t 123) .skip (.exit 2))) (.seq (.block 3 (.seq (.reg false [O1 126 .mv 17, O1 127 .mv 16, ⟨(some 128), (.build [(iV 0), (iV 0)] [(0, 1), (1, 1)]), [(.t 126), (.t 127)], none⟩, ⟨(some 18), (.alloc 47 [(iV 0), (iV 0)]), [], none⟩, ⟨none, (.store 2), [(.t 18), (.t 128)], none⟩]) (.seq (.regD [O1 130 (.loadN 2) 18, O1 131 (.call 59) 130, O1 132 (.loadN 4) 4, O2 133 (.call 58) 131 132, O1 129 .mv 133, O1 134 (.ext 0) 129, O1 135 (.ext 1) 129, ⟨(some 19), (.alloc 36 [(iV 0), (iV 0), (iV 0), (iV 0)]), [], none⟩, ⟨none, (.store 4), [(.t 19), (.t 134)], none⟩, O1 20 .mv 135] [[], [0], [], [1, 0, 2], [3, 1, 0, 2], [4, 3, 1, 0, 2], [4, 3, 1, 0, 2], [], [7, 5, 4, 3, 1, 0, 2], [6, 4, 3, 1, 0, 2, 8, 7, 5]]) (.seq (.reg false [O1 136 .mv 20, O1 137 .mv 136, ⟨(some 138), (.build [(iV 0), (iV 0)] []), [], (some (137, true))⟩, G1 139 (.loadN 3) 5 137 true, G1 140 .mv 2 137 true, G1 141 .mv 3 137 true, G1 142 (.loadN 4) 19 137 true, ⟨(some 143), (.call 60), [(.t 138), (.t 139), (.t 140), (.t 141), (.t 142)], (some (137, true))⟩, ⟨(some 144), .pick, [(.t 137), (.t 143), (.k (.bool false))], none⟩]) (.cond (.t 144) (.reg false [O1 145 .mv 15, O1 146 (.loadN 2) 18, ⟨(some 147), (.slit 47 1 2 [(iV 0), (iV 0)] [(0, 2)]), [(.t 146)], none⟩, O2 148 (.app 47 2 16) 145 147, O1 15 .mv 148]) .skip))))) (.reg false [O1 124 .mv 17, K2 125 (.bin .add) 124 (iV 1), O1 17 .mv 125])))
def x18L1 : XC := (.seq (.seq (.reg false [O1 112 .mv 16, O1 113 (.fld 3) 14, O1 114 .load1 113, O2 115 (.bin .leq) 112 114]) (.cond (.t 115) .skip (.exit 0))) (.seq (.block 1 (.seq (.reg false [O1 118 (.fld 0) 14, O1 119 .load1 118, O1 17 .mv 119]) (.block 2 (.loop x18L0)))) (.reg false [O1 116 .mv 16, K2 117 (.bin .add) 116 (iV 1), O1 16 .mv 117])))
def x18 : XFn := ⟨150, (.seq (.reg false [O1 4 (.box 36) 0, O1 5 (.box 25) 1, K1 8 .mv (.slice none 0 0), K1 9 .mv (iV 0)]) (.seq (.seq (.reg false [O1 21 (.loadN 4) 4, O1 22 (.call 54) 21, O1 23 (.un .not) 22, O1 24 .mv 23, G1 25 (.loadN 3) 5 24 false, G1 26 (.call 55) 25 24 false, G1 27 (.un .not) 26 24 false, ⟨(some 28), .pick, [(.t 24), (.k (.bool true)), (.t 27)], none⟩]) (.cond (.t 28) (.seq (.reg false [K1 8 .mv (.slice none 0 0), K1 9 .mv (iV 1)]) .ret) .skip)) (.seq (.seq (.reg false [O1 29 .mv 2, K2 30 (.bin .lss) 29 (iV 0), O1 31 .mv 30, G1 32 .mv 2 31 false, G1 33 .mv 3 31 false, G2 34 (.bin .gtr) 32 33 31 false, ⟨(some 35), .pick, [(.t 31), (.k (.bool true)), (.t 34)], none⟩, O1 36 .mv 35, G1 37 .mv 3 36 false, GK 38 (.bin .gtr) 37 (iV 2048) 36 false, ⟨(some 39), .pick, [(.t 36), (.k (.bool true)), (.t 38)], none⟩]) (.cond (.t 39) (.seq (.reg false [K1 8 .mv (.slice none 0 0), K1 9 .mv (iV 2)]) .ret) .skip)) (.seq (.seq (.reg false [O1 40 (.fld 2) 4, O1 41 .load1 40, O1 42 (.fld 0) 4, O1 43 .load1 42, O2 44 (.bin .sub) 41 43, K2 45 (.bin .gtr) 44 (iV 1024), O1 46 .mv 45, G1 47 (.fld 3) 4 46 false, G1 48 .load1 47 46 false, G1 49 (.fld 1) 4 46 false, G1 50 .load1 49 46 false, G2 51 (.bin .sub) 48 50 46 false, GK 52 (.bin .gtr) 51 (iV 1024) 46 false, ⟨(some 53), .pick, [(.t 46), (.k (.bool true)), (.t 52)], none⟩]) (.cond (.t 53) (.seq (.reg false [K1 8 .mv (.slice none 0 0), K1 9 .mv (iV 6)]) .ret) .skip)) (.seq (.reg true [O1 54 .mv 2, O1 55 (.fld 0) 5, O1 56 .load1 55, O2 57 (.bin .mul) 54 56, O1 58 (.fld 2) 5, O1 59 .load1 58, O2 60 (.call 56) 57 59, O1 61 .mv 3, O1 62 (.fld 0) 5, O1 63 .load1 62, O2 64 (.bin .mul) 61 63, O1 65 (.fld 2) 5, O1 66 .load1 65, O2 67 (.call 56) 64 66, O1 10 .mv 60, O1 11 .mv 67]) (.seq (.reg true [O1 68 .mv 2, O1 69 (.fld 1) 5, O1 70 .load1 69, O2 71 (.bin .mul) 68 70, O1 72 (.fld 2) 5, O1 73 .load1 72, O2 74 (.call 56) 71 73, O1 75 .mv 3, O1 76 (.fld 1) 5, O1 77 .load1 76, O2 78 (.bin .mul) 75 77, O1 79 (.fld 2) 5, O1 80 .load1 79, O2 81 (.call 56) 78 80, O1 12 .mv 74, O1 13 .mv 81]) (.seq (.reg false [O1 82 (.fld 0) 4, O1 83 .load1 82, O1 84 .mv 10, O1 85 .mv 11, O2 86 .minI 84 85, O2 87 (.bin .add) 83 86, O1 88 (.fld 1) 4, O1 89 .load1 88, O1 90 .mv 12, O1 91 .mv 13, O2 92 .minI 90 91, O2 93 (.bin .add) 89 92, O1 94 (.fld 2) 4, O1 95 .load1 94, O1 96 .mv 10, O1 97 .mv 11, O2 98 .maxI 96 97, O2 99 (.bin .add) 95 98, K2 100 (.bin .add) 99 (iV 1), O1 101 (.fld 3) 4, O1 102 .load1 101, O1 103 .mv 12, O1 104 .mv 13, O2 105 .maxI 103 104, O2 106 (.bin .add) 102 105, K2 107 (.bin .add) 106 (iV 1), ⟨(some 108), (.build [(iV 0), (iV 0), (iV 0), (iV 0)] [(0, 1), (1, 1), (2, 1), (3, 1)]), [(.t 87), (.t 93), (.t 100), (.t 107)], none⟩, O1 109 (.call 57) 108, ⟨(some 14), (.alloc 36 [(iV 0), (iV 0), (iV 0), (iV 0)]), [], none⟩, ⟨none, (.store 4), [(.t 14), (.t 109)], none⟩]) (.seq (.reg false [K1 15 .mv (.slice none 0 0)]) (.seq (.seq (.reg false [O1 110 (.fld 1) 14, O1 111 .load1 110, O1 16 .mv 111]) (.block 0 (.loop x18L1))) (.seq (.reg false [O1 149 .mv 15, O1 8 .mv 149, K1 9 .mv (iV 0)]) .ret)))))))))), [(.s 8), (.s 9)]⟩
theorem x18_ok : xfn Try.prog Try.f18 = some x18.er := by kernel_rfl
def x15 : XFn := ⟨25, (.seq (.reg false [O1 4 (.box 23) 0, O1 5 (.box 25) 1, K1 8 .mv (.slice none 0 0), K1 9 .mv (iV 0)]) (.seq (.reg false [O1 10 (.fld 0) 4, O1 11 .load1 10, O1 12 (.fld 1) 4, O1 13 .load1 12, O1 14 (.fld 0) 4, O1 15 .load1 14, O1 16 (.fld 1) 4, O1 17 .load1 16, ⟨(some 18), (.build [(iV 0), (iV 0), (iV 0), (iV 0)] [(0, 1), (1, 1), (2, 1), (3, 1)]), [(.t 11), (.t 13), (.t 15), (.t 17)], none⟩, O1 19 (.loadN 3) 5, O1 20 .mv 2, O1 21 .mv 3, ⟨(some 22), (.call 18), [(.t 18), (.t 19), (.t 20), (.t 21)], none⟩, O1 23 (.ext 0) 22, O1 24 (.ext 1) 22, O1 8 .mv 23, O1 9 .mv 24]) .ret)), [(.s 8), (.s 9)]⟩
theorem x15_ok : xfn Try.prog Try.f15 = some x15.er := by kernel_rfl
/-- wayfinder/wayfinderref08.right -/
def g54 : Con := fun args_ E_ nn_ => match args_ with
  | [.a [.v (.int .i64 r_X0), .v (.int .i64 r_Y0), .v (.int .i64 r_X1), .v (.int .i64 r_Y1)]] => some (.q (True) (.o (.c (.v (.bool (pRectB r_X0 r_Y0 r_X1 r_Y1))))))
  | _ => none
theorem c54 : COk Try.prog 54 g54 := by
  refine cok_q Try.func54 x54_ok (by kernel_rfl) (cok_tab cok_nil) ?_
  intro args_ E_ nn_ cr_ hg_
  unfold g54 at hg_
  split at hg_
  · rename_i r_X0 r_Y0 r_X1 r_Y1
    cases hg_
    refine ⟨_, _, rfl, 0, [], [.a [.v (.int .i64 r_X0), .v (.int .i64 r_Y0), .v (.int .i64 r_X1), .v (.int .i64 r_Y1)]], [], .o (.c (.v (.bool (pRectB r_X0 r_Y0 r_X1 r_Y1)))), rfl, rfl, by simp only [push_cast, Nat.reduceLT, Nat.reduceAdd], by simp only [push_cast, Nat.reduceLT, Nat.reduceAdd], by simp only [push_cast, Nat.reduceLT, Nat.reduceAdd], rfl, trivial, rfl, ?_⟩
    intro hpre hlen
    refine ⟨trivial, ?_⟩
    simp (config := {maxSteps := 10000000}) only [x54, push_cast, Nat.reduceAdd, Nat.reduceSub, Nat.reduceLeDiff, Nat.reduceEqDiff, Nat.reduceBEq, Nat.reduceMul, Nat.reduceLT, reduceIte, reduceCtorEq, Int.reduceLE, Int.reduceLT, Int.reduceEq, Int.reduceMul, Int.reduceAdd, Int.reduceSub, Int.reduceNeg, Int.reduceToNat, Int.reduceNe]
    rw [Bool.eq_iff_iff]
    simp [pRectB, pPtB]
    try omega
  · cases hg_
/-- wayfinder/wayfinderref08.around -/
def g57 : Con := fun args_ E_ nn_ => match args_ with
  | [.a [.v (.int .i64 r_X0), .v (.int .i64 r_Y0), .v (.int .i64 r_X1), .v (.int .i64 r_Y1)]] => some (.q ((-1099511627776 ≤ r_X0 ∧ r_X0 ≤ 1099511627776) ∧ (-1099511627776 ≤ r_Y0 ∧ r_Y0 ≤ 1099511627776) ∧ (-1099511627776 ≤ r_X1 ∧ r_X1 ≤ 1099511627776) ∧ (-1099511627776 ≤ r_Y1 ∧ r_Y1 ≤ 1099511627776)) (.o (.a [.v (.int .i64 (r_X0 / 64 - 1)), .v (.int .i64 (r_Y0 / 64 - 1)), .v (.int .i64 (r_X1 / 64 + 1)), .v (.int .i64 (r_Y1 / 64 + 1))])))
  | _ => none
theorem c57 : COk Try.prog 57 g57 := by
  refine cok_q Try.func57 x57_ok (by kernel_rfl) (cok_tab (cok_cons c56 cok_nil)) ?_
  intro args_ E_ nn_ cr_ hg_
  unfold g57 at hg_
  split at hg_
  · rename_i r_X0 r_Y0 r_X1 r_Y1
    cases hg_
    refine ⟨_, _, rfl, 0, [], [.a [.v (.int .i64 r_X0), .v (.int .i64 r_Y0), .v (.int .i64 r_X1), .v (.int .i64 r_Y1)]], [], .o (.a [.v (.int .i64 (r_X0 / 64 - 1)), .v (.int .i64 (r_Y0 / 64 - 1)), .v (.int .i64 (r_X1 / 64 + 1)), .v (.int .i64 (r_Y1 / 64 + 1))]), rfl, rfl, by simp only [push_cast, Nat.reduceLT, Nat.reduceAdd], by simp only [push_cast, Nat.reduceLT, Nat.reduceAdd], by simp only [push_cast, Nat.reduceLT, Nat.reduceAdd], rfl, trivial, rfl, ?_⟩
    intro hpre hlen
    refine ⟨trivial, ?_⟩
    simp (config := {maxSteps := 10000000}) only [x57, push_cast, Nat.reduceAdd, Nat.reduceSub, Nat.reduceLeDiff, Nat.reduceEqDiff, Nat.reduceBEq, Nat.reduceMul, Nat.reduceLT, reduceIte, reduceCtorEq, Int.reduceLE, Int.reduceLT, Int.reduceEq, Int.reduceMul, Int.reduceAdd, Int.reduceSub, Int.reduceNeg, Int.reduceToNat, Int.reduceNe, g56]
    simp (disch := omega) only [wrapI]
    simp
    exact ⟨by omega, by omega, by omega, by omega, by rfl⟩
  · cases hg_
/-- wayfinder/wayfinderref08.Swept -/
def g18 : Con := fun args_ E_ nn_ => match args_ with
  | [.a [.v (.int .i64 r_X0), .v (.int .i64 r_Y0), .v (.int .i64 r_X1), .v (.int .i64 r_Y1)], .a [.v (.int .i64 v_X), .v (.int .i64 v_Y), .v (.int .i64 v_D)], .c (.v (.int .i64 lo)), .c (.v (.int .i64 hi))] => some (.e (True) (.t [.c (.n (nn_ + 0)), .c (.v (.int .i64 (seE r_X0 r_Y0 r_X1 r_Y1 v_X v_Y v_D lo hi)))]) [((nn_ + 0), .own (seL r_X0 r_Y0 r_X1 r_Y1 v_X v_Y v_D lo hi).length 2 (rowF eC (seL r_X0 r_Y0 r_X1 r_Y1 v_X v_Y v_D lo hi)) 47)] (nn_ + 1))
  | _ => none
theorem c18 : COk Try.prog 18 g18 := by
  refine cok_e Try.func18 x18_ok (by kernel_rfl) (cok_tab (cok_cons c54 (cok_cons c55 (cok_cons c56 (cok_cons c57 (cok_cons c59 (cok_cons c58 (cok_cons c60 cok_nil)))))))) ?_
  intro args_ E_ nn_ cr_ hg_
  unfold g18 at hg_
  split at hg_
  · rename_i r_X0 r_Y0 r_X1 r_Y1 v_X v_Y v_D lo hi
    cases hg_
    refine ⟨_, _, _, _, rfl, 0, [], [.a [.v (.int .i64 r_X0), .v (.int .i64 r_Y0), .v (.int .i64 r_X1), .v (.int .i64 r_Y1)], .a [.v (.int .i64 v_X), .v (.int .i64 v_Y), .v (.int .i64 v_D)], .c (.v (.int .i64 lo)), .c (.v (.int .i64 hi))], [], .t [.c (.n 0), .c (.v (.int .i64 (seE r_X0 r_Y0 r_X1 r_Y1 v_X v_Y v_D lo hi)))], [(0, .own (seL r_X0 r_Y0 r_X1 r_Y1 v_X v_Y v_D lo hi).length 2 (rowF eC (seL r_X0 r_Y0 r_X1 r_Y1 v_X v_Y v_D lo hi)) 47)], 1, rfl, rfl, by simp only [renE, Ent.ren, rowF_renf] <;> rfl, rfl, by decide, by simp only [push_cast, Nat.reduceLT, Nat.reduceAdd], by simp only [push_cast, Nat.reduceLT, Nat.reduceAdd], by simp only [push_cast, Nat.reduceLT, Nat.reduceAdd], by simp only [push_cast, Nat.reduceLT, Nat.reduceAdd], rfl, trivial, by simp only [keysNodup, outN, keys] <;> decide, rfl, rfl, ?_⟩
    intro hpre hlen
    refine ⟨trivial, by simp only [apartE] <;> (first | trivial | (simp [Ent.mut]; done)), ?_⟩
    simp (config := {maxSteps := 10000000}) only [x18, push_cast, Nat.reduceAdd, Nat.reduceSub, Nat.reduceLeDiff, Nat.reduceEqDiff, Nat.reduceBEq, Nat.reduceMul, Nat.reduceLT, reduceIte, reduceCtorEq, Int.reduceLE, Int.reduceLT, Int.reduceEq, Int.reduceMul, Int.reduceAdd, Int.reduceSub, Int.reduceNeg, Int.reduceToNat, Int.reduceNe, g54, g55, g56, g57, g59, g58, g60, meets_eq]
    refine ⟨fun h => by simp [seL, seE, h], fun h1 h2 => ?_⟩
    have a := pRect_bd h1
    have a2 := vec_bd h2
    rw [wrapI (n := r_X1 - r_X0) (by omega) (by omega), wrapI (n := r_Y1 - r_Y0) (by omega) (by omega)]
    refine ⟨fun h => by simp [seL, seE, h1, h2, okR_f h], fun g1 g2 g3 => ⟨fun h => by simp [seL, seE, h1, h2, okR_t g1 g2 g3, h], fun g4 g5 => ?_⟩⟩
    have e : seE r_X0 r_Y0 r_X1 r_Y1 v_X v_Y v_D lo hi = 0 := by
      unfold seE
      rw [if_neg (by simp [h1, h2]), if_neg (by simp [okR_t g1 g2 g3]), if_neg (by omega)]
    have hL : seL r_X0 r_Y0 r_X1 r_Y1 v_X v_Y v_D lo hi = rwL r_X0 r_Y0 r_X1 r_Y1 v_X v_Y v_D lo hi := by rw [← rs_eq, rsL, if_pos e]
    rw [hL, e]
    have m1 := mulB (a := lo) (b := v_X) (A := 2048) (B := 67108864) (by omega) (by omega) (by omega) (by omega)
    have m2 := mulB (a := hi) (b := v_X) (A := 2048) (B := 67108864) (by omega) (by omega) (by omega) (by omega)
    have m3 := mulB (a := lo) (b := v_Y) (A := 2048) (B := 67108864) (by omega) (by omega) (by omega) (by omega)
    have m4 := mulB (a := hi) (b := v_Y) (A := 2048) (B := 67108864) (by omega) (by omega) (by omega) (by omega)
    have fx := frac_bd (lo := lo) (hi := hi) (n := v_X) (d := v_D) (by omega) (by omega) (by omega) (by omega) (by omega)
    have fy := frac_bd (lo := lo) (hi := hi) (n := v_Y) (d := v_D) (by omega) (by omega) (by omega) (by omega) (by omega)
    rw [← fl_min (by omega), ← fl_max (by omega)] at fx fy
    simp (disch := omega) only [wrapI]
    refine ⟨by omega, by omega, by omega, by omega, by omega, ?_⟩
    simp only [rwL, kLo, kHi]
    have b1 : -20000 ≤ (r_X0 + min (lo * v_X / v_D) (hi * v_X / v_D)) / 64 - 1 ∧ (r_X0 + min (lo * v_X / v_D) (hi * v_X / v_D)) / 64 - 1 ≤ 20000 := by omega
    have b2 : -20000 ≤ (r_Y0 + min (lo * v_Y / v_D) (hi * v_Y / v_D)) / 64 - 1 ∧ (r_Y0 + min (lo * v_Y / v_D) (hi * v_Y / v_D)) / 64 - 1 ≤ 20000 := by omega
    have b3 : -20000 ≤ (r_X1 + max (lo * v_X / v_D) (hi * v_X / v_D) + 1) / 64 + 1 ∧ (r_X1 + max (lo * v_X / v_D) (hi * v_X / v_D) + 1) / 64 + 1 ≤ 20000 := by omega
    have b4 : -20000 ≤ (r_Y1 + max (lo * v_Y / v_D) (hi * v_Y / v_D) + 1) / 64 + 1 ∧ (r_Y1 + max (lo * v_Y / v_D) (hi * v_Y / v_D) + 1) / 64 + 1 ≤ 20000 := by omega
    generalize (r_X0 + min (lo * v_X / v_D) (hi * v_X / v_D)) / 64 - 1 = x0 at *
    generalize (r_Y0 + min (lo * v_Y / v_D) (hi * v_Y / v_D)) / 64 - 1 = y0 at *
    generalize (r_X1 + max (lo * v_X / v_D) (hi * v_X / v_D) + 1) / 64 + 1 = x1 at *
    generalize (r_Y1 + max (lo * v_Y / v_D) (hi * v_Y / v_D) + 1) / 64 + 1 = y1 at *
    clear fx fy m1 m2 m3 m4 hL
    refine vcLoop_upd (α := {j : Nat // j ≤ (y1 - y0 + 1).toNat}) [2, 3, 4, 5, 14] 1 (fun s => [(15, .o (.c (.n 3))), (16, .o (.c (.v (.int .i64 (y0 + (s.1 : Nat))))))]) (fun s => [(3, .own ((gridUp (swP r_X0 r_Y0 r_X1 r_Y1 v_X v_Y v_D lo hi) x0 (x1 - x0 + 1).toNat y0 s.1)).length 2 (rowF eC ((gridUp (swP r_X0 r_Y0 r_X1 r_Y1 v_X v_Y v_D lo hi) x0 (x1 - x0 + 1).toNat y0 s.1))) 47)]) (fun s => (y1 - y0 + 1).toNat - s.1) ⟨0, by omega⟩ ?_ ?_
    · simp only [push_cast, Nat.reduceAdd, Nat.reduceSub, Nat.reduceLeDiff, Nat.reduceEqDiff, Nat.reduceBEq, Nat.reduceMul, Nat.reduceLT, reduceIte, reduceCtorEq, Int.reduceLE, Int.reduceLT, Int.reduceEq, Int.reduceMul, Int.reduceAdd, Int.reduceSub, Int.reduceNeg, Int.reduceToNat, Int.reduceNe, g54, g55, g56, g57, g59, g58, g60, meets_eq, gridUp_zero]
      omega
    · rintro ⟨j, hj⟩
      simp only [x18L1, push_cast, Nat.reduceAdd, Nat.reduceSub, Nat.reduceLeDiff, Nat.reduceEqDiff, Nat.reduceBEq, Nat.reduceMul, Nat.reduceLT, reduceIte, reduceCtorEq, Int.reduceLE, Int.reduceLT, Int.reduceEq, Int.reduceMul, Int.reduceAdd, Int.reduceSub, Int.reduceNeg, Int.reduceToNat, Int.reduceNe, g54, g55, g56, g57, g59, g58, g60, meets_eq]
      refine ⟨fun hlt => ?_, fun hge => ?_⟩
      · refine vcLoop_upd (α := {i : Nat // i ≤ (x1 - x0 + 1).toNat}) [2, 3, 4, 5, 14, 16] 0 (fun s => [(15, .o (.c (.n 3))), (17, .o (.c (.v (.int .i64 (x0 + (s.1 : Nat))))))]) (fun s => [(3, .own ((gridUp (swP r_X0 r_Y0 r_X1 r_Y1 v_X v_Y v_D lo hi) x0 (x1 - x0 + 1).toNat y0 j ++ gridRow (swP r_X0 r_Y0 r_X1 r_Y1 v_X v_Y v_D lo hi) x0 (y0 + j) s.1)).length 2 (rowF eC ((gridUp (swP r_X0 r_Y0 r_X1 r_Y1 v_X v_Y v_D lo hi) x0 (x1 - x0 + 1).toNat y0 j ++ gridRow (swP r_X0 r_Y0 r_X1 r_Y1 v_X v_Y v_D lo hi) x0 (y0 + j) s.1))) 47)]) (fun s => (x1 - x0 + 1).toNat - s.1) ⟨0, by omega⟩ ?_ ?_
        · simp only [push_cast, Nat.reduceAdd, Nat.reduceSub, Nat.reduceLeDiff, Nat.reduceEqDiff, Nat.reduceBEq, Nat.reduceMul, Nat.reduceLT, reduceIte, reduceCtorEq, Int.reduceLE, Int.reduceLT, Int.reduceEq, Int.reduceMul, Int.reduceAdd, Int.reduceSub, Int.reduceNeg, Int.reduceToNat, Int.reduceNe, g54, g55, g56, g57, g59, g58, g60, meets_eq, gridRow_zero]
          omega
        · rintro ⟨i, hi2⟩
          simp only [x18L0, push_cast, Nat.reduceAdd, Nat.reduceSub, Nat.reduceLeDiff, Nat.reduceEqDiff, Nat.reduceBEq, Nat.reduceMul, Nat.reduceLT, reduceIte, reduceCtorEq, Int.reduceLE, Int.reduceLT, Int.reduceEq, Int.reduceMul, Int.reduceAdd, Int.reduceSub, Int.reduceNeg, Int.reduceToNat, Int.reduceNe, g54, g55, g56, g57, g59, g58, g60, meets_eq]
          refine ⟨fun hin => ⟨by omega, by rfl, fun h1 h2 => ?_, fun h => ?_⟩, fun hout => ?_⟩
          · rw [h1] at h2
            simp only [mI_t] at h2
            have hp : swP r_X0 r_Y0 r_X1 r_Y1 v_X v_Y v_D lo hi (x0 + i) (y0 + j) = true := by unfold swP; rw [h1, h2]; rfl
            refine ⟨?_, ⟨i + 1, by omega⟩, ⟨natS _ _ (by omega) (by omega), push_eq (E := eC) (x := ⟨x0 + i, y0 + j⟩) (by simp only; rw [gridRow_yes hp, List.append_assoc])⟩, by simp only; omega⟩
            rw [List.length_append]
            have g1 := gridUp_len (swP r_X0 r_Y0 r_X1 r_Y1 v_X v_Y v_D lo hi) x0 (x1 - x0 + 1).toNat y0 j
            have g2 := gridRow_len (swP r_X0 r_Y0 r_X1 r_Y1 v_X v_Y v_D lo hi) x0 (y0 + j) i
            have g3 : j * (x1 - x0 + 1).toNat ≤ 100000 * 100000 := Nat.mul_le_mul (by omega) (by omega)
            omega
          · have hp : swP r_X0 r_Y0 r_X1 r_Y1 v_X v_Y v_D lo hi (x0 + i) (y0 + j) = false := by
              unfold swP
              cases hb : minusB ((x0 + i) * 64) ((y0 + j) * 64) ((x0 + i) * 64 + 64) ((y0 + j) * 64 + 64) r_X0 r_Y0 r_X1 r_Y1
              · rfl
              · rw [hb] at h; simpa [mI_t] using h
            exact ⟨⟨i + 1, by omega⟩, ⟨natS _ _ (by omega) (by omega), same_eq (by simp only; rw [gridRow_no hp])⟩, by simp only; omega⟩
          · obtain rfl : i = (x1 - x0 + 1).toNat := by omega
            exact ⟨⟨j + 1, by omega⟩, ⟨natS _ _ (by omega) (by omega), same_eq (by simp only; rw [gridUp_succ])⟩, by simp only; omega⟩
      · obtain rfl : j = (y1 - y0 + 1).toNat := by omega
        exact same_eq rfl
  · cases hg_
/-- wayfinder/wayfinderref08.Traced -/
def g15 : Con := fun args_ E_ nn_ => match args_ with
  | [.a [.v (.int .i64 p_X), .v (.int .i64 p_Y)], .a [.v (.int .i64 v_X), .v (.int .i64 v_Y), .v (.int .i64 v_D)], .c (.v (.int .i64 lo)), .c (.v (.int .i64 hi))] => some (.e (True) (.t [.c (.n (nn_ + 0)), .c (.v (.int .i64 (seE p_X p_Y p_X p_Y v_X v_Y v_D lo hi)))]) [((nn_ + 0), .own (seL p_X p_Y p_X p_Y v_X v_Y v_D lo hi).length 2 (rowF eC (seL p_X p_Y p_X p_Y v_X v_Y v_D lo hi)) 47)] (nn_ + 1))
  | _ => none
theorem c15 : COk Try.prog 15 g15 := by
  refine cok_e Try.func15 x15_ok (by kernel_rfl) (cok_tab (cok_cons c18 cok_nil)) ?_
  intro args_ E_ nn_ cr_ hg_
  unfold g15 at hg_
  split at hg_
  · rename_i p_X p_Y v_X v_Y v_D lo hi
    cases hg_
    refine ⟨_, _, _, _, rfl, 0, [], [.a [.v (.int .i64 p_X), .v (.int .i64 p_Y)], .a [.v (.int .i64 v_X), .v (.int .i64 v_Y), .v (.int .i64 v_D)], .c (.v (.int .i64 lo)), .c (.v (.int .i64 hi))], [], .t [.c (.n 0), .c (.v (.int .i64 (seE p_X p_Y p_X p_Y v_X v_Y v_D lo hi)))], [(0, .own (seL p_X p_Y p_X p_Y v_X v_Y v_D lo hi).length 2 (rowF eC (seL p_X p_Y p_X p_Y v_X v_Y v_D lo hi)) 47)], 1, rfl, rfl, by simp only [renE, Ent.ren, rowF_renf] <;> rfl, rfl, by decide, by simp only [push_cast, Nat.reduceLT, Nat.reduceAdd], by simp only [push_cast, Nat.reduceLT, Nat.reduceAdd], by simp only [push_cast, Nat.reduceLT, Nat.reduceAdd], by simp only [push_cast, Nat.reduceLT, Nat.reduceAdd], rfl, trivial, by simp only [keysNodup, outN, keys] <;> decide, rfl, rfl, ?_⟩
    intro hpre hlen
    refine ⟨trivial, by simp only [apartE] <;> (first | trivial | (simp [Ent.mut]; done)), ?_⟩
    simp (config := {maxSteps := 10000000}) only [x15, push_cast, Nat.reduceAdd, Nat.reduceSub, Nat.reduceLeDiff, Nat.reduceEqDiff, Nat.reduceBEq, Nat.reduceMul, Nat.reduceLT, reduceIte, reduceCtorEq, Int.reduceLE, Int.reduceLT, Int.reduceEq, Int.reduceMul, Int.reduceAdd, Int.reduceSub, Int.reduceNeg, Int.reduceToNat, Int.reduceNe, g18]
  · cases hg_
end Go.Proofs.Ytbjgaejmkhjbaaa
set_option linter.unusedVariables false
set_option linter.unusedSimpArgs false
set_option maxRecDepth 20000
namespace Go.Proofs.Ytbjgaejmkhjbaaa
open Go.Sx
theorem x102_ok2 : ∀ (v : Value) (w : World), (callFunc 102 #[v]).run Try.prog w = .ok (.value v) w := fun v w => by kernel_rfl
theorem c102 : COk Try.prog 102 sameCon := cok_same x102_ok2
def x89 : XFn := ⟨20, (.seq (.reg false [O1 2 .mv 0, O1 3 .nilc 2, O1 4 (.fld 0) 3, O1 5 .load1 4, ⟨(some 6), (.x (.eqP false)), [(.t 5), (.k (.pointer none))], none⟩]) (.cond (.t 6) (.reg false [O1 7 .mv 0, O1 8 .mv 0, O1 9 (.x .toU) 8, O1 10 (.call 102) 9, ⟨(some 11), (.x (.fromU 90 2)), [(.t 10)], none⟩, O1 12 .nilc 7, O1 13 (.fld 0) 12, ⟨none, (.store 1), [(.t 13), (.t 11)], none⟩]) (.seq (.reg false [O1 14 .mv 0, O1 15 .nilc 14, O1 16 (.fld 0) 15, O1 17 .load1 16, O1 18 .mv 0, ⟨(some 19), (.x (.eqP true)), [(.t 17), (.t 18)], none⟩]) (.cond (.t 19) .bad .skip)))), []⟩
theorem x89_ok : xfn Try.prog Try.f89 = some x89.er := by kernel_rfl
def x75 : XFn := ⟨17, (.seq (.reg false [K1 4 .mv .nilIface]) (.seq (.reg false [O1 5 .mv 0, O1 6 (.call 89) 5]) (.seq (.reg false [O1 7 .mv 0, O1 8 .mv 0, O1 9 .nilc 8, O1 10 (.fld 1) 9, O1 11 .load1 10, O1 12 .mv 1, ⟨(some 13), (.slit 5 1 1 [(.int .u8 0)] [(0, 1)]), [(.t 12)], none⟩, O2 14 (.app 5 1 1) 11 13, O1 15 .nilc 7, O1 16 (.fld 1) 15, ⟨none, (.store 1), [(.t 16), (.t 14)], none⟩]) (.seq (.reg false [K1 4 .mv .nilIface]) .ret)))), [(.s 4)]⟩
theorem x75_ok : xfn Try.prog Try.f75 = some x75.er := by kernel_rfl
def x76 : XFn := ⟨14, (.seq (.reg false [⟨(some 2), .mv, [(.k (.string ⟨#[]⟩))], none⟩]) (.seq (.regD [O1 3 .mv 0, O1 4 .nilc 3, O1 5 (.fld 1) 4, O1 6 .load1 5, O1 7 (.x .sdata) 6, O1 8 .mv 0, O1 9 .nilc 8, O1 10 (.fld 1) 9, O1 11 .load1 10, O1 12 .lenS 11, O2 13 (.ustr 5) 7 12, O1 2 .mv 13] [[], [0], [1, 0], [2, 1, 0], [3, 2, 1, 0], [], [5], [6, 5], [7, 6, 5], [8, 7, 6, 5], [4, 3, 2, 1, 0, 9, 8, 7, 6, 5], [10, 4, 3, 2, 1, 0, 9, 8, 7, 6, 5]]) .ret)), [(.s 2)]⟩
theorem x76_ok : xfn Try.prog Try.f76 = some x76.er := by kernel_rfl
def g89 : Con := fun args_ E_ nn_ => match args_ with
  | [.c (.p b 0)] => (match E_ b with
    | some (.box [.v (.pointer none), .v (.slice none 0 0)] b_ty) => some (.e (b_ty = 90) (.t []) [(b, .box [.p b 0, .v (.slice none 0 0)] b_ty)] nn_)
    | some (.box [.p b2 0, .n k] b_ty) => (match E_ k with
      | some (.own k_n k_s k_f k_ty) => some (.e (b2 = b ∧ k ≠ b ∧ isRow eU8 k_n k_s k_f ∧ k_s = 1) (.t []) [(b, .box [.p b 0, .n k] b_ty), (k, .own (decL eU8 k_n k_f).length 1 (rowF eU8 (decL eU8 k_n k_f)) k_ty)] nn_)
      | _ => none)
    | _ => none)
  | _ => none
theorem c89 : COk Try.prog 89 g89 := by
  refine cok_e Try.func89 x89_ok (by kernel_rfl) (cok_tab (cok_cons c102 cok_nil)) ?_
  intro args_ E_ nn_ cr_ hg_
  unfold g89 at hg_
  split at hg_
  · rename_i b
    split at hg_
    · rename_i b_ty h_b
      cases hg_
      refine ⟨_, _, _, _, rfl, 1, [b], [.c (.p 0 0)], [(0, .box [.v (.pointer none), .v (.slice none 0 0)] b_ty)], .t [], [(0, .box [.p 0 0, .v (.slice none 0 0)] b_ty)], 1, rfl, rfl, by simp only [renE, Ent.ren, rowF_renf] <;> rfl, rfl, by decide, by simp only [push_cast, Nat.reduceLT, Nat.reduceAdd], by simp only [push_cast, Nat.reduceLT, Nat.reduceAdd], by simp only [push_cast, Nat.reduceLT, Nat.reduceAdd], by simp only [push_cast, Nat.reduceLT, Nat.reduceAdd], rfl, ⟨⟨_, h_b⟩, trivial⟩, by simp only [keysNodup, outN, keys] <;> decide, rfl, rfl, ?_⟩
      intro hpre hlen
      subst hpre
      refine ⟨⟨⟨_, h_b, rfl, rfl, rfl, trivial⟩, trivial⟩, by simp only [apartE] <;> (first | trivial | (simp [Ent.mut]; done)), ?_⟩
      simp (config := {maxSteps := 10000000}) only [x89, push_cast, Nat.reduceAdd, Nat.reduceSub, Nat.reduceLeDiff, Nat.reduceEqDiff, Nat.reduceBEq, Nat.reduceMul, Nat.reduceLT, reduceIte, reduceCtorEq, Int.reduceLE, Int.reduceLT, Int.reduceEq, Int.reduceMul, Int.reduceAdd, Int.reduceSub, Int.reduceNeg, Int.reduceToNat, Int.reduceNe]
    · rename_i b2 k b_ty h_b
      split at hg_
      · rename_i k_n k_s k_f k_ty h_k
        cases hg_
        refine ⟨_, _, _, _, rfl, 2, [b, k], [.c (.p 0 0)], [(0, .box [.p 0 0, .n 1] b_ty), (1, .own (decL eU8 k_n k_f).length eU8.sz (rowF eU8 (decL eU8 k_n k_f)) k_ty)], .t [], [(0, .box [.p 0 0, .n 1] b_ty), (1, .own (decL eU8 k_n k_f).length 1 (rowF eU8 (decL eU8 k_n k_f)) k_ty)], 2, rfl, rfl, by simp only [renE, Ent.ren, rowF_renf] <;> rfl, rfl, by decide, by simp only [push_cast, Nat.reduceLT, Nat.reduceAdd], by simp only [push_cast, Nat.reduceLT, Nat.reduceAdd], by simp only [push_cast, Nat.reduceLT, Nat.reduceAdd], by simp only [push_cast, Nat.reduceLT, Nat.reduceAdd], rfl, ⟨⟨_, h_b⟩, ⟨_, h_k⟩, trivial⟩, by simp only [keysNodup, outN, keys] <;> decide, rfl, rfl, ?_⟩
        rintro ⟨rfl, hkb, hrow, rfl⟩ hlen
        refine ⟨⟨⟨_, h_b, rfl, rfl, rfl, trivial⟩, inE_own h_k hrow rfl, trivial⟩, apart_two hkb, ?_⟩
        simp (config := {maxSteps := 10000000}) only [x89, push_cast, Nat.reduceAdd, Nat.reduceSub, Nat.reduceLeDiff, Nat.reduceEqDiff, Nat.reduceBEq, Nat.reduceMul, Nat.reduceLT, reduceIte, reduceCtorEq, Int.reduceLE, Int.reduceLT, Int.reduceEq, Int.reduceMul, Int.reduceAdd, Int.reduceSub, Int.reduceNeg, Int.reduceToNat, Int.reduceNe]
      · cases hg_
    · cases hg_
  · cases hg_
def g75 : Con := fun args_ E_ nn_ => match args_ with
  | [.c (.p b 0), .c (.v (.int .u8 c))] => (match E_ b with
    | some (.box [.v (.pointer none), .v (.slice none 0 0)] b_ty) => some (.e (b_ty = 90) (.o (.c (.v .nilIface))) [(b, .box [.p b 0, .n nn_] b_ty), (nn_, .own ([c] : List Int).length 1 (rowF eU8 [c]) 5)] (nn_ + 1))
    | some (.box [.p b2 0, .n k] b_ty) => (match E_ k with
      | some (.own k_n k_s k_f k_ty) => some (.e (b2 = b ∧ k ≠ b ∧ isRow eU8 k_n k_s k_f ∧ k_s = 1 ∧ k_ty = 5 ∧ k_n ≤ 281474976709) (.o (.c (.v .nilIface))) [(b, .box [.p b 0, .n nn_] b_ty), (nn_, .own (decL eU8 k_n k_f ++ [c]).length 1 (rowF eU8 (decL eU8 k_n k_f ++ [c])) 5), (k, .dead)] (nn_ + 1))
      | _ => none)
    | _ => none)
  | _ => none
theorem c75 : COk Try.prog 75 g75 := by
  refine cok_e Try.func75 x75_ok (by kernel_rfl) (cok_tab (cok_cons c89 cok_nil)) ?_
  intro args_ E_ nn_ cr_ hg_
  unfold g75 at hg_
  split at hg_
  · rename_i b c
    split at hg_
    · rename_i b_ty h_b
      cases hg_
      refine ⟨_, _, _, _, rfl, 1, [b], [.c (.p 0 0), .c (.v (.int .u8 c))], [(0, .box [.v (.pointer none), .v (.slice none 0 0)] b_ty)], .o (.c (.v .nilIface)), [(0, .box [.p 0 0, .n 1] b_ty), (1, .own ([c] : List Int).length 1 (rowF eU8 [c]) 5)], 2, rfl, rfl, by simp only [renE, Ent.ren, rowF_renf] <;> rfl, rfl, by decide, by simp only [push_cast, Nat.reduceLT, Nat.reduceAdd], by simp only [push_cast, Nat.reduceLT, Nat.reduceAdd], by simp only [push_cast, Nat.reduceLT, Nat.reduceAdd], by simp only [push_cast, Nat.reduceLT, Nat.reduceAdd], rfl, ⟨⟨_, h_b⟩, trivial⟩, by simp only [keysNodup, outN, keys] <;> decide, rfl, rfl, ?_⟩
      intro hpre hlen
      subst hpre
      refine ⟨⟨⟨_, h_b, rfl, rfl, rfl, trivial⟩, trivial⟩, by simp only [apartE] <;> (first | trivial | (simp [Ent.mut]; done)), ?_⟩
      simp (config := {maxSteps := 10000000}) only [x75, push_cast, Nat.reduceAdd, Nat.reduceSub, Nat.reduceLeDiff, Nat.reduceEqDiff, Nat.reduceBEq, Nat.reduceMul, Nat.reduceLT, reduceIte, reduceCtorEq, Int.reduceLE, Int.reduceLT, Int.reduceEq, Int.reduceMul, Int.reduceAdd, Int.reduceSub, Int.reduceNeg, Int.reduceToNat, Int.reduceNe, g89]
      exact rowEq_lit1 c (fun _ => rfl)
    · rename_i b2 k b_ty h_b
      split at hg_
      · rename_i k_n k_s k_f k_ty h_k
        cases hg_
        refine ⟨_, _, _, _, rfl, 2, [b, k], [.c (.p 0 0), .c (.v (.int .u8 c))], [(0, .box [.p 0 0, .n 1] b_ty), (1, .own (decL eU8 k_n k_f).length eU8.sz (rowF eU8 (decL eU8 k_n k_f)) k_ty)], .o (.c (.v .nilIface)), [(0, .box [.p 0 0, .n 2] b_ty), (2, .own (decL eU8 k_n k_f ++ [c]).length 1 (rowF eU8 (decL eU8 k_n k_f ++ [c])) 5), (1, .dead)], 3, rfl, rfl, by simp only [renE, Ent.ren, rowF_renf] <;> rfl, rfl, by decide, by simp only [push_cast, Nat.reduceLT, Nat.reduceAdd], by simp only [push_cast, Nat.reduceLT, Nat.reduceAdd], by simp only [push_cast, Nat.reduceLT, Nat.reduceAdd], by simp only [push_cast, Nat.reduceLT, Nat.reduceAdd], rfl, ⟨⟨_, h_b⟩, ⟨_, h_k⟩, trivial⟩, by simp only [keysNodup, outN, keys] <;> decide, rfl, rfl, ?_⟩
        rintro ⟨rfl, hkb, hrow, rfl, rfl, hlk⟩ hlen
        have hlk2 : (decL eU8 k_n k_f).length ≤ 281474976709 := by rw [decL_len]; exact hlk
        refine ⟨⟨⟨_, h_b, rfl, rfl, rfl, trivial⟩, inE_own h_k hrow rfl, trivial⟩, apart_two hkb, ?_⟩
        generalize decL eU8 k_n k_f = L at *
        simp (config := {maxSteps := 10000000}) only [x75, push_cast, Nat.reduceAdd, Nat.reduceSub, Nat.reduceLeDiff, Nat.reduceEqDiff, Nat.reduceBEq, Nat.reduceMul, Nat.reduceLT, reduceIte, reduceCtorEq, Int.reduceLE, Int.reduceLT, Int.reduceEq, Int.reduceMul, Int.reduceAdd, Int.reduceSub, Int.reduceNeg, Int.reduceToNat, Int.reduceNe, g89]
        exact ⟨by omega, push_eq (E := eU8) (x := c) rfl⟩
      · cases hg_
    · cases hg_
  · cases hg_
def g76 : Con := fun args_ E_ nn_ => match args_ with
  | [.c (.p b 0)] => (match E_ b with
    | some (.box [.p b2 0, .n k] b_ty) => (match E_ k with
      | some (.own k_n k_s k_f k_ty) => some (.e (b2 = b ∧ k ≠ b ∧ isRow eU8 k_n k_s k_f ∧ k_s = 1 ∧ k_ty = 5 ∧ 0 < k_n ∧ ∀ x ∈ decL eU8 k_n k_f, 0 ≤ x ∧ x ≤ 255) (.o (.c (.v (.string (strB (decL eU8 k_n k_f)))))) [(b, .dead), (k, .dead)] nn_)
      | _ => none)
    | _ => none)
  | _ => none
theorem c76 : COk Try.prog 76 g76 := by
  refine cok_e Try.func76 x76_ok (by kernel_rfl) (cok_tab cok_nil) ?_
  intro args_ E_ nn_ cr_ hg_
  unfold g76 at hg_
  split at hg_
  · rename_i b
    split at hg_
    · rename_i b2 k b_ty h_b
      split at hg_
      · rename_i k_n k_s k_f k_ty h_k
        cases hg_
        refine ⟨_, _, _, _, rfl, 2, [b, k], [.c (.p 0 0)], [(0, .box [.p 0 0, .n 1] b_ty), (1, .own (decL eU8 k_n k_f).length eU8.sz (rowF eU8 (decL eU8 k_n k_f)) k_ty)], .o (.c (.v (.string (strB (decL eU8 k_n k_f))))), [(0, .dead), (1, .dead)], 2, rfl, rfl, by simp only [renE, Ent.ren, rowF_renf] <;> rfl, rfl, by decide, by simp only [push_cast, Nat.reduceLT, Nat.reduceAdd], by simp only [push_cast, Nat.reduceLT, Nat.reduceAdd], by simp only [push_cast, Nat.reduceLT, Nat.reduceAdd], by simp only [push_cast, Nat.reduceLT, Nat.reduceAdd], rfl, ⟨⟨_, h_b⟩, ⟨_, h_k⟩, trivial⟩, by simp only [keysNodup, outN, keys] <;> decide, rfl, rfl, ?_⟩
        rintro ⟨rfl, hkb, hrow, rfl, rfl, h0, hby⟩ hlen
        have hlk : 0 < (decL eU8 k_n k_f).length := by rw [decL_len]; exact h0
        have hlz : (decL eU8 k_n k_f).length ≤ 9223372036854775807 := by rw [decL_len]; exact hlen _ _ h_k
        refine ⟨⟨⟨_, h_b, rfl, rfl, rfl, trivial⟩, inE_own h_k hrow rfl, trivial⟩, apart_two hkb, ?_⟩
        generalize decL eU8 k_n k_f = L at *
        simp (config := {maxSteps := 10000000}) only [x76, push_cast, Nat.reduceAdd, Nat.reduceSub, Nat.reduceLeDiff, Nat.reduceEqDiff, Nat.reduceBEq, Nat.reduceMul, Nat.reduceLT, reduceIte, reduceCtorEq, Int.reduceLE, Int.reduceLT, Int.reduceEq, Int.reduceMul, Int.reduceAdd, Int.reduceSub, Int.reduceNeg, Int.reduceToNat, Int.reduceNe]
        exact ⟨hlk, ⟨by omega, by omega, hby⟩, by rfl⟩
      · cases hg_
    · cases hg_
  · cases hg_
end Go.Proofs.Ytbjgaejmkhjbaaa
