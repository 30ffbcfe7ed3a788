/- A part of the proof of a statement about this seat: how a function is stepped through, and plain laws. No conditions. -/
import Derived.Test.YtnkkhmeojifckaaRows
import Derived.Test.YtnkkhmeojifckaaSz3
import Derived.KernelRfl
set_option linter.unusedVariables false
set_option linter.unusedSimpArgs false
set_option maxRecDepth 20000
namespace Go.Proofs.Ytnkkhmeojifckaa
open Go.Sx
theorem mulB {a b A B : Int} (h1 : -A ≤ a) (h2 : a ≤ A) (h3 : -B ≤ b) (h4 : b ≤ B) : -(A * B) ≤ a * b ∧ a * b ≤ A * B := by
  have hA : 0 ≤ A := by omega
  have hB : 0 ≤ B := by omega
  have e1 : 0 ≤ (A - a) * (B + b) := Int.mul_nonneg (by omega) (by omega)
  have e2 : 0 ≤ (A + a) * (B - b) := Int.mul_nonneg (by omega) (by omega)
  have e3 : 0 ≤ (A - a) * (B - b) := Int.mul_nonneg (by omega) (by omega)
  have e4 : 0 ≤ (A + a) * (B + b) := Int.mul_nonneg (by omega) (by omega)
  rw [Int.sub_mul, Int.mul_add, Int.mul_add] at e1
  rw [Int.add_mul, Int.mul_sub, Int.mul_sub] at e2
  rw [Int.sub_mul, Int.mul_sub, Int.mul_sub] at e3
  rw [Int.add_mul, Int.mul_add, Int.mul_add] at e4
  omega
theorem wrM {a b : Int} (A B : Int) (h1 : -A ≤ a) (h2 : a ≤ A) (h3 : -B ≤ b) (h4 : b ≤ B) (h5 : A * B ≤ 9223372036854775807) : IntKind.i64.wrap (a * b) = a * b := by
  have := mulB h1 h2 h3 h4
  exact wrapI (by omega) (by omega)
def nearB (n : Int) : Bool := decide (-2097152 ≤ n ∧ n ≤ 2097152)
def sPtB (x y : Int) : Bool := nearB x && nearB y
def vecB (x y d : Int) : Bool := decide (1 ≤ d ∧ d ≤ 67108864 ∧ -d ≤ x ∧ x ≤ d ∧ -d ≤ y ∧ y ≤ d ∧ x * x + y * y = d * d)
def sRectB (x0 y0 x1 y1 : Int) : Bool := nearB x0 && nearB y0 && nearB x1 && nearB y1 && decide (x0 ≤ x1) && decide (y0 ≤ y1)
/-- The bounds of the numbers t with a ≤ p + t * d ≤ b. -/
def sLo (p d a b : Int) : Int × Int := if d < 0 then (p - b, -d) else (a - p, d)
def sHi (p d a b : Int) : Int × Int := if d < 0 then (p - a, -d) else (b - p, d)
def fmax (x y : Int × Int) : Int × Int := if x.1 * y.2 < y.1 * x.2 then y else x
def fmin (x y : Int × Int) : Int × Int := if y.1 * x.2 < x.1 * y.2 then y else x
def slabB (lo hi : Int × Int) (p d a b : Int) : Bool := if d = 0 then decide (a ≤ p ∧ p ≤ b) else !decide ((fmin hi (sHi p d a b)).1 * (fmax lo (sLo p d a b)).2 < (fmax lo (sLo p d a b)).1 * (fmin hi (sHi p d a b)).2)
def slabL (lo : Int × Int) (p d a b : Int) : Int × Int := if d = 0 then lo else fmax lo (sLo p d a b)
def slabH (hi : Int × Int) (p d a b : Int) : Int × Int := if d = 0 then hi else fmin hi (sHi p d a b)
def bdF (x : Int × Int) : Prop := -8388608 ≤ x.1 ∧ x.1 ≤ 8388608 ∧ 1 ≤ x.2 ∧ x.2 ≤ 67108864
theorem slab_bd {lo hi : Int × Int} {p d a b : Int} (hl : bdF lo) (hh : bdF hi) (h1 : -2097152 ≤ p ∧ p ≤ 2097152) (h2 : -2097152 ≤ a ∧ a ≤ 2097152) (h3 : -2097152 ≤ b ∧ b ≤ 2097152) (h4 : -67108864 ≤ d ∧ d ≤ 67108864) :
    bdF (slabL lo p d a b) ∧ bdF (slabH hi p d a b) := by
  unfold bdF at *
  have hm : ∀ x y : Int × Int, bdF x → bdF y → bdF (fmax x y) ∧ bdF (fmin x y) := by
    intro x y hx hy; unfold fmax fmin; constructor <;> split <;> assumption
  have h5 : d ≠ 0 → bdF (sLo p d a b) ∧ bdF (sHi p d a b) := by
    intro h0; unfold sLo sHi bdF; constructor <;> split <;> simp only <;> omega
  unfold slabL slabH
  by_cases h0 : d = 0
  · rw [if_pos h0, if_pos h0]; exact ⟨hl, hh⟩
  · rw [if_neg h0, if_neg h0]; exact ⟨(hm _ _ hl (h5 h0).1).1, (hm _ _ hh (h5 h0).2).2⟩
def thrL (px py vx vy x0 y0 x1 y1 : Int) : Int × Int := slabL (slabL (0, 1) px vx x0 x1) py vy y0 y1
def thrH (px py vx vy x0 y0 x1 y1 : Int) : Int × Int := slabH (slabH (8388608, 1) px vx x0 x1) py vy y0 y1
def thrB (px py vx vy vd x0 y0 x1 y1 : Int) : Bool :=
  sPtB px py && vecB vx vy vd && sRectB x0 y0 x1 y1 && slabB (0, 1) (8388608, 1) px vx x0 x1 && slabB (slabL (0, 1) px vx x0 x1) (slabH (8388608, 1) px vx x0 x1) py vy y0 y1
theorem sPt_bd {x y : Int} (h : sPtB x y = true) : (-2097152 ≤ x ∧ x ≤ 2097152) ∧ (-2097152 ≤ y ∧ y ≤ 2097152) := by
  simpa [sPtB, nearB] using h
theorem vec_bd {x y d : Int} (h : vecB x y d = true) : 1 ≤ d ∧ d ≤ 67108864 ∧ (-67108864 ≤ x ∧ x ≤ 67108864) ∧ (-67108864 ≤ y ∧ y ≤ 67108864) ∧ -d ≤ x ∧ x ≤ d ∧ -d ≤ y ∧ y ≤ d ∧ x * x + y * y = d * d := by
  unfold vecB at h; rw [decide_eq_true_eq] at h; obtain ⟨a1, a2, a3, a4, a5, a6, a7⟩ := h
  refine ⟨a1, a2, ⟨by omega, by omega⟩, ⟨by omega, by omega⟩, a3, a4, a5, a6, a7⟩
theorem sRect_bd {x0 y0 x1 y1 : Int} (h : sRectB x0 y0 x1 y1 = true) : (-2097152 ≤ x0 ∧ x0 ≤ 2097152) ∧ (-2097152 ≤ y0 ∧ y0 ≤ 2097152) ∧ (-2097152 ≤ x1 ∧ x1 ≤ 2097152) ∧ (-2097152 ≤ y1 ∧ y1 ≤ 2097152) ∧ x0 ≤ x1 ∧ y0 ≤ y1 := by
  simp only [sRectB, nearB, Bool.and_eq_true, decide_eq_true_eq] at h; omega
def minusB (q0 q1 q2 q3 r0 r1 r2 r3 : Int) : Bool := sRectB q0 q1 q2 q3 && sRectB r0 r1 r2 r3 && sRectB (q0 - r2) (q1 - r3) (q2 - r0) (q3 - r1)
def mI (b : Bool) (n : Int) : Int := if b = true then n else 0
theorem mI_t (n : Int) : mI true n = n := rfl
theorem mI_f (n : Int) : mI false n = 0 := rfl
def meetsB (px py vx vy vd lo hi x0 y0 x1 y1 : Int) : Bool :=
  decide (0 ≤ lo ∧ lo ≤ hi ∧ hi ≤ 65536) && thrB px py vx vy vd x0 y0 x1 y1 && decide (lo * (thrH px py vx vy x0 y0 x1 y1).2 ≤ (thrH px py vx vy x0 y0 x1 y1).1 * vd) && decide ((thrL px py vx vy x0 y0 x1 y1).1 * vd ≤ hi * (thrL px py vx vy x0 y0 x1 y1).2)
theorem bd01 : bdF (0, 1) := by unfold bdF; simp
theorem bd81 : bdF (8388608, 1) := by unfold bdF; simp
theorem thr_bd {px py vx vy vd x0 y0 x1 y1 : Int} (h : thrB px py vx vy vd x0 y0 x1 y1 = true) : bdF (thrL px py vx vy x0 y0 x1 y1) ∧ bdF (thrH px py vx vy x0 y0 x1 y1) := by
  simp only [thrB, Bool.and_eq_true] at h
  obtain ⟨⟨⟨⟨h1, h2⟩, h3⟩, h4⟩, h5⟩ := h
  have a1 := sPt_bd h1; have a2 := vec_bd h2; have a3 := sRect_bd h3
  have b := slab_bd bd01 bd81 a1.1 (a := x0) (b := x1) (d := vx) (by omega) (by omega) (by omega)
  exact slab_bd b.1 b.2 a1.2 (by omega) (by omega) (by omega)
end Go.Proofs.Ytnkkhmeojifckaa
set_option linter.unusedVariables false
set_option linter.unusedSimpArgs false
set_option maxRecDepth 20000
namespace Go.Proofs.Ytnkkhmeojifckaa
open Go.Sx
theorem mulS {a b A B : Int} (h1 : -A ≤ a ∧ a ≤ A) (h2 : -B ≤ b ∧ b ≤ B) : -(A * B) ≤ a * b ∧ a * b ≤ A * B := mulB h1.1 h1.2 h2.1 h2.2
theorem divB {a b A : Int} (hb : 1 ≤ b) (h1 : -A ≤ a) (h2 : a ≤ A) : -A ≤ a / b ∧ a / b ≤ A := by
  have hA : 0 ≤ A := by omega
  constructor
  · refine Int.le_ediv_of_mul_le (by omega) ?_
    have : A * 1 ≤ A * b := Int.mul_le_mul_of_nonneg_left (by omega) hA
    rw [Int.neg_mul]; omega
  · refine Int.ediv_le_of_le_mul (by omega) ?_
    have : A * 1 ≤ A * b := Int.mul_le_mul_of_nonneg_left (by omega) hA
    omega
theorem vec_calc {x y d : Int} (h : 1 ≤ d ∧ d ≤ 67108864 ∧ -d ≤ x ∧ x ≤ d ∧ -d ≤ y ∧ y ≤ d) : (IntKind.i64.wrap (IntKind.i64.wrap (x * x) + IntKind.i64.wrap (y * y)) == IntKind.i64.wrap (d * d)) = decide (x * x + y * y = d * d) := by
  have b1 := mulB (a := x) (b := x) (A := 67108864) (B := 67108864) (by omega) (by omega) (by omega) (by omega)
  have b2 := mulB (a := y) (b := y) (A := 67108864) (B := 67108864) (by omega) (by omega) (by omega) (by omega)
  have b3 := mulB (a := d) (b := d) (A := 67108864) (B := 67108864) (by omega) (by omega) (by omega) (by omega)
  simp (disch := omega) only [wrapI]
  rw [Bool.eq_iff_iff]; simp
def pPtB (x y : Int) : Bool := decide ((-1048576 ≤ x ∧ x ≤ 1048576) ∧ -1048576 ≤ y ∧ y ≤ 1048576)
def pRectB (x0 y0 x1 y1 : Int) : Bool := decide (x0 ≤ x1 ∧ y0 ≤ y1) && pPtB x0 y0 && pPtB x1 y1
theorem pRect_bd {x0 y0 x1 y1 : Int} (h : pRectB x0 y0 x1 y1 = true) : (-1048576 ≤ x0 ∧ x0 ≤ 1048576) ∧ (-1048576 ≤ y0 ∧ y0 ≤ 1048576) ∧ (-1048576 ≤ x1 ∧ x1 ≤ 1048576) ∧ (-1048576 ≤ y1 ∧ y1 ≤ 1048576) ∧ x0 ≤ x1 ∧ y0 ≤ y1 := by
  simp only [pRectB, pPtB, Bool.and_eq_true, decide_eq_true_eq] at h; omega
end Go.Proofs.Ytnkkhmeojifckaa
set_option linter.unusedVariables false
set_option linter.unusedSimpArgs false
set_option maxRecDepth 20000
namespace Go.Proofs.Ytnkkhmeojifckaa
open Go.Sx
/-- The cells that are swept. -/
def swP (x0 y0 x1 y1 vx vy vd lo hi : Int) (x y : Int) : Bool :=
  minusB (x * 64) (y * 64) (x * 64 + 64) (y * 64 + 64) x0 y0 x1 y1 && meetsB 0 0 vx vy vd lo hi (x * 64 - x1) (y * 64 - y1) (x * 64 + 64 - x0) (y * 64 + 64 - y0)
def rLo (a n d lo hi : Int) : Int := -(-(a + min (lo * n) (hi * n) / d) / 64) - 1
def rHi (b n d lo hi : Int) : Int := (b + max (lo * n) (hi * n) / d + 1) / 64
def swL (x0 y0 x1 y1 vx vy vd lo hi : Int) : List CC := gridL (swP x0 y0 x1 y1 vx vy vd lo hi) (rLo x0 vx vd lo hi) (rHi x1 vx vd lo hi) (rLo y0 vy vd lo hi) (rHi y1 vy vd lo hi)
theorem frac_bd {lo hi n d : Int} (hd : 1 ≤ d) (h1 : -d ≤ n) (h2 : n ≤ d) (h3 : 0 ≤ lo ∧ lo ≤ 2048) (h4 : 0 ≤ hi ∧ hi ≤ 2048) :
    (-2048 ≤ min (lo * n) (hi * n) / d ∧ min (lo * n) (hi * n) / d ≤ 2048) ∧ -2048 ≤ max (lo * n) (hi * n) / d ∧ max (lo * n) (hi * n) / d ≤ 2048 := by
  have e1 := mulB (a := lo) (b := n) (A := 2048) (B := d) (by omega) (by omega) h1 h2
  have e2 := mulB (a := hi) (b := n) (A := 2048) (B := d) (by omega) (by omega) h1 h2
  have k : ∀ m, -(2048 * d) ≤ m → m ≤ 2048 * d → -2048 ≤ m / d ∧ m / d ≤ 2048 := fun m g1 g2 =>
    ⟨Int.le_ediv_of_mul_le (by omega) (by rw [Int.neg_mul]; exact g1), Int.ediv_le_of_le_mul (by omega) g2⟩
  exact ⟨k _ (by omega) (by omega), k _ (by omega) (by omega)⟩
theorem natS (y : Int) (j : Nat) (h1 : -1000000000 ≤ y) (h2 : y + j ≤ 1000000000) : IntKind.i64.wrap (y + (j : Int) + 1) = y + ((j + 1 : Nat) : Int) := by rw [wrapI (by omega) (by omega)]; omega
theorem pickB (b : Bool) {x y : Bool} : (bif b then x else y) = if b = true then x else y := by cases b <;> rfl
def okR (lo hi : Int) : Bool := decide (0 ≤ lo ∧ lo ≤ hi ∧ hi ≤ 2048)
end Go.Proofs.Ytnkkhmeojifckaa
set_option linter.unusedVariables false
set_option linter.unusedSimpArgs false
set_option maxRecDepth 20000
namespace Go.Proofs.Ytnkkhmeojifckaa
open Go.Sx
def trE (x y vx vy vd lo hi : Int) : Int := if pPtB x y = false ∨ vecB vx vy vd = false then 1 else if okR lo hi = false then 2 else 0
def trL (x y vx vy vd lo hi : Int) : List CC := if trE x y vx vy vd lo hi = 0 then swL x y x y vx vy vd lo hi else []
def seE (x0 y0 x1 y1 vx vy vd lo hi : Int) : Int := if pRectB x0 y0 x1 y1 = false ∨ vecB vx vy vd = false then 1 else if okR lo hi = false then 2 else if 1024 < x1 - x0 ∨ 1024 < y1 - y0 then 6 else 0
def seL (x0 y0 x1 y1 vx vy vd lo hi : Int) : List CC := if seE x0 y0 x1 y1 vx vy vd lo hi = 0 then swL x0 y0 x1 y1 vx vy vd lo hi else []
theorem okR_f {lo hi : Int} (h : (lo < 0 ∨ hi < lo) ∨ 2048 < hi) : okR lo hi = false := by unfold okR; rw [decide_eq_false_iff_not]; omega
theorem okR_t {lo hi : Int} (h1 : ¬ lo < 0) (h2 : ¬ hi < lo) (h3 : ¬ 2048 < hi) : okR lo hi = true := by unfold okR; rw [decide_eq_true_eq]; omega
theorem pPt_rect {x y : Int} (h : pPtB x y = true) : pRectB x y x y = true := by unfold pRectB; rw [h]; simp
end Go.Proofs.Ytnkkhmeojifckaa
set_option linter.unusedVariables false
set_option linter.unusedSimpArgs false
set_option maxRecDepth 20000
namespace Go.Proofs.Ytnkkhmeojifckaa
open Go.Sx
def x41 : XFn := ⟨14, (.seq (.reg false [K1 4 .mv (.bool false)]) (.seq (.reg false [O1 5 .mv 0, O1 6 .mv 1, O1 7 (.un .neg) 6, O2 8 (.bin .geq) 5 7, O1 9 .mv 8, G1 10 .mv 0 9 true, G1 11 .mv 1 9 true, G2 12 (.bin .leq) 10 11 9 true, ⟨(some 13), .pick, [(.t 9), (.t 12), (.k (.bool false))], none⟩, O1 4 .mv 13]) .ret)), [(.s 4)]⟩
theorem x41_ok : xfn Try.prog Try.f41 = some x41.er := by kernel_rfl
def x21L0 : XC := (.seq (.seq (.reg false [O1 11 .mv 5, O1 12 .mv 0, O1 13 .lenS 12, O2 14 (.bin .lss) 11 13]) (.cond (.t 14) .skip (.exit 0))) (.seq (.block 1 (.seq (.reg true [O1 17 .mv 0, O1 18 .mv 5, O2 19 (.ixS 2) 17 18, O1 20 (.loadN 2) 19, O1 21 .mv 1, O1 22 .mv 5, O2 23 (.ixS 2) 21 22, O1 24 (.loadN 2) 23, ⟨(some 25), (.eqA true [(.i .i64), (.i .i64)]), [(.t 20), (.t 24)], none⟩]) (.cond (.t 25) (.seq (.reg false [K1 4 .mv (.bool false)]) .ret) .skip))) (.reg false [O1 15 .mv 5, K2 16 (.bin .add) 15 (iV 1), O1 5 .mv 16])))
def x21 : XFn := ⟨26, (.seq (.reg false [K1 4 .mv (.bool false)]) (.seq (.seq (.reg false [O1 6 .mv 0, O1 7 .lenS 6, O1 8 .mv 1, O1 9 .lenS 8, O2 10 (.bin .neq) 7 9]) (.cond (.t 10) (.seq (.reg false [K1 4 .mv (.bool false)]) .ret) .skip)) (.seq (.seq (.reg false [K1 5 .mv (iV 0)]) (.block 0 (.loop x21L0))) (.seq (.reg false [K1 4 .mv (.bool true)]) .ret)))), [(.s 4)]⟩
theorem x21_ok : xfn Try.prog Try.f21 = some x21.er := by kernel_rfl
/-- The numbers t with lo ≤ p + t * x ≤ hi, as the reference has them: low, high, none, all. -/
structure Spn where
  a : Int
  b : Int
  c : Int
  d : Int
  e : Bool
  l : Bool
def axS (p x lo hi : Int) : Spn :=
  if x = 0 then (if p < lo ∨ hi < p then ⟨0, 0, 0, 0, true, false⟩ else ⟨0, 0, 0, 0, false, true⟩)
  else if x < 0 then ⟨p - hi, -x, p - lo, -x, false, false⟩ else ⟨lo - p, x, hi - p, x, false, false⟩
/-- wayfinder/wayfinderbase.Size -/
def g41 : Con := fun args_ E_ nn_ => match args_ with
  | [.c (.v (.int .i64 n)), .c (.v (.int .i64 most))] => some (.q (-9223372036854775807 ≤ most ∧ most ≤ 9223372036854775807) (.o (.c (.v (.bool (decide (-most ≤ n ∧ n ≤ most)))))))
  | _ => none
theorem c41 : COk Try.prog 41 g41 := by
  refine cok_q Try.func41 x41_ok (by kernel_rfl) (cok_tab cok_nil) ?_
  intro args_ E_ nn_ cr_ hg_
  unfold g41 at hg_
  split at hg_
  · rename_i n most
    cases hg_
    refine ⟨_, _, rfl, 0, [], [.c (.v (.int .i64 n)), .c (.v (.int .i64 most))], [], .o (.c (.v (.bool (decide (-most ≤ n ∧ n ≤ most))))), rfl, rfl, by simp only [push_cast, Nat.reduceLT, Nat.reduceAdd], by simp only [push_cast, Nat.reduceLT, Nat.reduceAdd], by simp only [push_cast, Nat.reduceLT, Nat.reduceAdd], rfl, trivial, rfl, ?_⟩
    intro hpre hlen
    refine ⟨trivial, ?_⟩
    simp (config := {maxSteps := 10000000}) only [x41, push_cast, Nat.reduceAdd, Nat.reduceSub, Nat.reduceLeDiff, Nat.reduceEqDiff, Nat.reduceBEq, Nat.reduceMul, Nat.reduceLT, reduceIte, reduceCtorEq, Int.reduceLE, Int.reduceLT, Int.reduceEq, Int.reduceMul, Int.reduceAdd, Int.reduceSub, Int.reduceNeg, Int.reduceToNat, Int.reduceNe]
    rw [wrapI (by omega) (by omega)]
    rw [Bool.eq_iff_iff]
    simp []
    try omega
  · cases hg_
/-- wayfinder/wayfinderbase.Cells -/
def g21 : Con := fun args_ E_ nn_ => match args_ with
  | [.c (.n a), .c (.n b)] => (match rowOf E_ a with
    | some (a_n, a_s, a_f) => (match rowOf E_ b with
    | some (b_n, b_s, b_f) => some (.q (isRow eC a_n a_s a_f ∧ isRow eC b_n b_s b_f ∧ True) (.o (.c (.v (.bool (decide ((decL eC a_n a_f) = (decL eC b_n b_f))))))))
    | none => none)
    | none => none)
  | _ => none
theorem c21 : COk Try.prog 21 g21 := by
  refine cok_q Try.func21 x21_ok (by kernel_rfl) (cok_tab cok_nil) ?_
  intro args_ E_ nn_ cr_ hg_
  unfold g21 at hg_
  split at hg_
  · rename_i a b
    split at hg_
    · rename_i a_n a_s a_f h_a
      split at hg_
      · rename_i b_n b_s b_f h_b
        cases hg_
        refine ⟨_, _, rfl, 2, [a, b], [.c (.n 0), .c (.n 1)], [(0, .ro (decL eC a_n a_f).length eC.sz (rowF eC (decL eC a_n a_f))), (1, .ro (decL eC b_n b_f).length eC.sz (rowF eC (decL eC b_n b_f)))], .o (.c (.v (.bool (decide ((decL eC a_n a_f) = (decL eC b_n b_f)))))), rfl, rfl, by simp only [push_cast, Nat.reduceLT, Nat.reduceAdd], by simp only [push_cast, Nat.reduceLT, Nat.reduceAdd], by simp only [push_cast, Nat.reduceLT, Nat.reduceAdd], rfl, ⟨inE0_row h_a, inE0_row h_b, trivial⟩, rfl, ?_⟩
        intro hpre hlen
        obtain ⟨i_a, hpre⟩ := hpre
        obtain ⟨i_b, hpre⟩ := hpre
        refine ⟨⟨inE_row h_a i_a, inE_row h_b i_b, trivial⟩, ?_⟩
        have z_a := lens_row (E := eC) hlen h_a
        have z_b := lens_row (E := eC) hlen h_b
        clear i_a
        generalize decL eC a_n a_f = aL at *
        clear i_b
        generalize decL eC b_n b_f = bL at *
        clear h_a
        clear h_b
        simp (config := {maxSteps := 10000000}) only [x21, push_cast, Nat.reduceAdd, Nat.reduceSub, Nat.reduceLeDiff, Nat.reduceEqDiff, Nat.reduceBEq, Nat.reduceMul, Nat.reduceLT, reduceIte, reduceCtorEq, Int.reduceLE, Int.reduceLT, Int.reduceEq, Int.reduceMul, Int.reduceAdd, Int.reduceSub, Int.reduceNeg, Int.reduceToNat, Int.reduceNe]
        refine ⟨fun h => ?_, fun h => ?_⟩
        · symm; rw [decide_eq_false_iff_not]; intro e; exact h (by rw [e])
        refine vcLoop_upd (α := {k : Nat // k ≤ aL.length ∧ ∀ i, i < k → aL.getD i eC.dflt = bL.getD i eC.dflt}) [0, 1] 0 (fun s => [(5, .o (.c (.v (.int .i64 (s.1 : Nat)))))]) (fun s => []) (fun s => aL.length - s.1) ⟨0, by omega, fun i hi => by omega⟩ ?_ ?_
        · simp only [push_cast, Nat.reduceAdd, Nat.reduceSub, Nat.reduceLeDiff, Nat.reduceEqDiff, Nat.reduceBEq, Nat.reduceMul, Nat.reduceLT, reduceIte, reduceCtorEq, Int.reduceLE, Int.reduceLT, Int.reduceEq, Int.reduceMul, Int.reduceAdd, Int.reduceSub, Int.reduceNeg, Int.reduceToNat, Int.reduceNe]
        · rintro ⟨k, hk, hall⟩
          simp only [x21L0, push_cast, Nat.reduceAdd, Nat.reduceSub, Nat.reduceLeDiff, Nat.reduceEqDiff, Nat.reduceBEq, Nat.reduceMul, Nat.reduceLT, reduceIte, reduceCtorEq, Int.reduceLE, Int.reduceLT, Int.reduceEq, Int.reduceMul, Int.reduceAdd, Int.reduceSub, Int.reduceNeg, Int.reduceToNat, Int.reduceNe]
          refine ⟨fun hlt => ⟨hlt, hlt, by omega, by omega, fun hne => ?_, fun hx hy => ⟨⟨k + 1, by omega, fun i hi => ?_⟩, ?_, by simp only; omega⟩⟩, fun hge => ?_⟩
          · symm; rw [decide_eq_false_iff_not]; intro e; rw [e] at hne; simp at hne
          · by_cases hik : i = k
            · subst hik; rw [← decide_eq_true_eq (p := aL.getD i eC.dflt = bL.getD i eC.dflt), ← cc_eq, hx, hy]; simp
            · exact hall i (by omega)
          · rw [wrapI (by omega) (by omega)]; rfl
          · symm; rw [decide_eq_true_eq]; exact getD_ext eC.dflt (by omega) (fun i hi => hall i (by omega))
      · cases hg_
    · cases hg_
  · cases hg_
end Go.Proofs.Ytnkkhmeojifckaa
set_option linter.unusedVariables false
set_option linter.unusedSimpArgs false
set_option maxRecDepth 20000
namespace Go.Proofs.Ytnkkhmeojifckaa
open Go.Sx
def timA (a b : Spn) : Spn := if a.l = true then b else a
def timB (a b : Spn) : Spn := if b.l = true then timA a b else b
def timL (A B : Spn) : Int × Int := if A.a * B.b < B.a * A.b then (B.a, B.b) else (A.a, A.b)
def timLo (A B : Spn) : Int × Int := if (timL A B).1 < 0 then (0, 1) else timL A B
def timHi (A B : Spn) : Int × Int := if B.c * A.d < A.c * B.d then (B.c, B.d) else (A.c, A.d)
def timC (A B : Spn) : Spn := if (timHi A B).1 * (timLo A B).2 < (timLo A B).1 * (timHi A B).2 then ⟨0, 0, 0, 0, true, false⟩ else ⟨(timLo A B).1, (timLo A B).2, (timHi A B).1, (timHi A B).2, A.e, A.l⟩
def timS (a b : Spn) : Spn := if a.e = true ∨ b.e = true then ⟨0, 0, 0, 0, true, false⟩ else timC (timA a b) (timB a b)
def timR (px py vx vy x0 y0 x1 y1 : Int) : Spn := timS (axS px vx x0 x1) (axS py vy y0 y1)
def lowF (n d : Int) : Int × Int := (n / (Int.gcd n d : Int), d / (Int.gcd n d : Int))
def spB (s : Spn) : Prop := (-4194304 ≤ s.a ∧ s.a ≤ 4194304) ∧ (0 ≤ s.b ∧ s.b ≤ 67108864) ∧ (-4194304 ≤ s.c ∧ s.c ≤ 4194304) ∧ 0 ≤ s.d ∧ s.d ≤ 67108864
theorem axS_bd {p x lo hi : Int} (h : (-2097152 ≤ p ∧ p ≤ 2097152) ∧ (-67108864 ≤ x ∧ x ≤ 67108864) ∧ (-2097152 ≤ lo ∧ lo ≤ 2097152) ∧ -2097152 ≤ hi ∧ hi ≤ 2097152) : spB (axS p x lo hi) := by
  unfold axS spB
  split
  · split <;> simp
  · split <;> simp only <;> omega
def okT (px py vx vy vd x0 y0 x1 y1 : Int) : Bool := sPtB px py && vecB vx vy vd && sRectB x0 y0 x1 y1 && !(timR px py vx vy x0 y0 x1 y1).e
theorem axS_pos {p x lo hi : Int} (h : (axS p x lo hi).e = false) (h2 : (axS p x lo hi).l = false) : 1 ≤ (axS p x lo hi).b ∧ 1 ≤ (axS p x lo hi).d := by
  unfold axS at *
  split at h
  · rename_i h0; rw [if_pos h0] at h2; split at h <;> simp_all
  · rename_i h0
    rw [if_neg h0]
    split
    · simp only; omega
    · simp only; omega
theorem axS_all {p x lo hi : Int} (h : (axS p x lo hi).l = true) : x = 0 := by
  unfold axS at h
  split at h
  · assumption
  · split at h <;> cases h
theorem axS_bdp {p x lo hi : Int} (h1 : -2097152 ≤ p ∧ p ≤ 2097152) (h2 : -67108864 ≤ x ∧ x ≤ 67108864) (h3 : -2097152 ≤ lo ∧ lo ≤ 2097152) (h4 : -2097152 ≤ hi ∧ hi ≤ 2097152) : spB (axS p x lo hi) := axS_bd ⟨h1, h2, h3, h4⟩
def spQ (s : Spn) : Prop := spB s ∧ 1 ≤ s.b ∧ 1 ≤ s.d
theorem timC_bd {A B : Spn} (hA : spQ A) (hB : spQ B) (h : (timC A B).e = false) : (0 ≤ (timC A B).a ∧ (timC A B).a ≤ 4194304) ∧ (1 ≤ (timC A B).b ∧ (timC A B).b ≤ 67108864) ∧ (0 ≤ (timC A B).c ∧ (timC A B).c ≤ 4194304) ∧ 1 ≤ (timC A B).d ∧ (timC A B).d ≤ 67108864 := by
  unfold spQ spB at hA hB
  have q0 : (-4194304 ≤ (timL A B).1 ∧ (timL A B).1 ≤ 4194304) ∧ 1 ≤ (timL A B).2 ∧ (timL A B).2 ≤ 67108864 := by
    unfold timL; split <;> simp only <;> omega
  have q1 : (0 ≤ (timLo A B).1 ∧ (timLo A B).1 ≤ 4194304) ∧ 1 ≤ (timLo A B).2 ∧ (timLo A B).2 ≤ 67108864 := by
    unfold timLo; split
    · simp
    · omega
  have q2 : (-4194304 ≤ (timHi A B).1 ∧ (timHi A B).1 ≤ 4194304) ∧ 1 ≤ (timHi A B).2 ∧ (timHi A B).2 ≤ 67108864 := by
    unfold timHi; split <;> simp only <;> omega
  unfold timC at *
  split at h
  · cases h
  · rename_i hn
    rw [if_neg hn]
    simp only
    have : 0 ≤ (timLo A B).1 * (timHi A B).2 := Int.mul_nonneg (by omega) (by omega)
    have h5 : 0 ≤ (timHi A B).1 * (timLo A B).2 := by omega
    have h6 : 0 ≤ (timHi A B).1 := by
      rcases Int.lt_or_le (timHi A B).1 0 with h7 | h7
      · have := Int.mul_neg_of_neg_of_pos h7 (show 0 < (timLo A B).2 by omega); omega
      · exact h7
    omega
theorem tim_q {px py vx vy vd x0 y0 x1 y1 : Int} (h1 : sPtB px py = true) (h2 : vecB vx vy vd = true) (h3 : sRectB x0 y0 x1 y1 = true) (h4 : ¬ ((axS px vx x0 x1).e = true ∨ (axS py vy y0 y1).e = true)) :
    spQ (timA (axS px vx x0 x1) (axS py vy y0 y1)) ∧ spQ (timB (axS px vx x0 x1) (axS py vy y0 y1)) := by
  have a1 := sPt_bd h1; have a2 := vec_bd h2; have a3 := sRect_bd h3
  have e1 : (axS px vx x0 x1).e = false := by cases h : (axS px vx x0 x1).e; rfl; exact absurd (.inl h) h4
  have e2 : (axS py vy y0 y1).e = false := by cases h : (axS py vy y0 y1).e; rfl; exact absurd (.inr h) h4
  have b1 : spB (axS px vx x0 x1) := axS_bdp a1.1 (by omega) (by omega) (by omega)
  have b2 : spB (axS py vy y0 y1) := axS_bdp a1.2 (by omega) (by omega) (by omega)
  have n : ¬ ((axS px vx x0 x1).l = true ∧ (axS py vy y0 y1).l = true) := by
    rintro ⟨g1, g2⟩
    have e3 := axS_all g1
    have e4 := axS_all g2
    subst e3; subst e4
    have := Int.mul_pos (show 0 < vd by omega) (show 0 < vd by omega)
    omega
  cases g1 : (axS px vx x0 x1).l
  · have k1 : spQ (axS px vx x0 x1) := ⟨b1, axS_pos e1 g1⟩
    cases g2 : (axS py vy y0 y1).l
    · have k2 : spQ (axS py vy y0 y1) := ⟨b2, axS_pos e2 g2⟩
      simp [timA, timB, g1, g2, k1, k2]
    · simp [timA, timB, g1, g2, k1]
  · cases g2 : (axS py vy y0 y1).l
    · have k2 : spQ (axS py vy y0 y1) := ⟨b2, axS_pos e2 g2⟩
      simp [timA, timB, g1, g2, k2]
    · exact absurd ⟨g1, g2⟩ n
theorem tim_bd {px py vx vy vd x0 y0 x1 y1 : Int} (h1 : sPtB px py = true) (h2 : vecB vx vy vd = true) (h3 : sRectB x0 y0 x1 y1 = true) (h : (timR px py vx vy x0 y0 x1 y1).e = false) :
    (0 ≤ (timR px py vx vy x0 y0 x1 y1).a ∧ (timR px py vx vy x0 y0 x1 y1).a ≤ 4194304) ∧ (1 ≤ (timR px py vx vy x0 y0 x1 y1).b ∧ (timR px py vx vy x0 y0 x1 y1).b ≤ 67108864) ∧ (0 ≤ (timR px py vx vy x0 y0 x1 y1).c ∧ (timR px py vx vy x0 y0 x1 y1).c ≤ 4194304) ∧ 1 ≤ (timR px py vx vy x0 y0 x1 y1).d ∧ (timR px py vx vy x0 y0 x1 y1).d ≤ 67108864 := by
  unfold timR timS at *
  split at h
  · cases h
  · rename_i hn
    rw [if_neg hn]
    obtain ⟨q1, q2⟩ := tim_q h1 h2 h3 hn
    exact timC_bd q1 q2 h
theorem gcd_tmod {x y : Int} (h : 0 ≤ x) : Int.gcd y (x.tmod y) = Int.gcd x y := by
  rw [tmod_pos h]
  rw [Int.emod_def, Int.gcd_sub_mul_left_right, Int.gcd_comm]
theorem tdiv_dvd {a g : Int} (hg : 0 < g) (h : g ∣ a) : a.tdiv g = a / g := by
  obtain ⟨c, rfl⟩ := h
  rw [Int.mul_tdiv_cancel_left _ (by omega), Int.mul_ediv_cancel_left _ (by omega)]
/-- A comparison does not hang on lowest terms. -/
theorem low_le {n d k : Int} (hd : 0 < d) : ((lowF n d).1 ≤ k * (lowF n d).2 ↔ n ≤ k * d) ∧ (k * (lowF n d).2 ≤ (lowF n d).1 ↔ k * d ≤ n) := by
  have hgd : (Int.gcd n d : Int) ∣ d := Int.gcd_dvd_right _ _
  have hgn : (Int.gcd n d : Int) ∣ n := Int.gcd_dvd_left _ _
  have hpos : (0 : Int) < (Int.gcd n d : Int) := by
    have : Int.gcd n d ≠ 0 := fun h => by rw [Int.gcd_eq_zero_iff] at h; omega
    omega
  unfold lowF
  simp only
  have e1 : n / (Int.gcd n d : Int) * (Int.gcd n d : Int) = n := Int.ediv_mul_cancel hgn
  have e2 : d / (Int.gcd n d : Int) * (Int.gcd n d : Int) = d := Int.ediv_mul_cancel hgd
  generalize (Int.gcd n d : Int) = g at *
  generalize n / g = a at *
  generalize d / g = b at *
  subst e1; subst e2
  rw [← Int.mul_assoc]
  exact ⟨(Int.mul_le_mul_right hpos).symm, (Int.mul_le_mul_right hpos).symm⟩
theorem low_bd {n d : Int} (h1 : 0 < d) (h2 : d ≤ 67108864) : 0 ≤ (lowF n d).2 ∧ (lowF n d).2 ≤ 67108864 := by
  have hpos : (0 : Int) < (Int.gcd n d : Int) := by
    have : Int.gcd n d ≠ 0 := fun h => by rw [Int.gcd_eq_zero_iff] at h; omega
    omega
  have := divB (a := d) (b := (Int.gcd n d : Int)) (A := 67108864) (by omega) (by omega) (by omega)
  exact ⟨Int.ediv_nonneg (by omega) (by omega), this.2⟩
def rMeetsB (px py vx vy vd lo hi x0 y0 x1 y1 : Int) : Bool :=
  decide (0 ≤ lo ∧ lo ≤ hi ∧ hi ≤ 65536) && okT px py vx vy vd x0 y0 x1 y1 && decide ((timR px py vx vy x0 y0 x1 y1).a * vd ≤ hi * (timR px py vx vy x0 y0 x1 y1).b) && decide (lo * (timR px py vx vy x0 y0 x1 y1).d ≤ (timR px py vx vy x0 y0 x1 y1).c * vd)
end Go.Proofs.Ytnkkhmeojifckaa
set_option linter.unusedVariables false
set_option linter.unusedSimpArgs false
set_option maxRecDepth 20000
namespace Go.Proofs.Ytnkkhmeojifckaa
open Go.Sx
/-! ### The two ways to meet a rectangle are one -/
def flE (a b : Int × Int) : Prop := a.1 * b.2 ≤ b.1 * a.2
theorem flE_refl (a : Int × Int) : flE a a := Int.le_refl _
theorem flE_trans {a b c : Int × Int} (ha : 0 < a.2) (hb : 0 < b.2) (hc : 0 < c.2) (h1 : flE a b) (h2 : flE b c) : flE a c := by
  unfold flE at *
  have e1 : a.1 * b.2 * c.2 ≤ b.1 * a.2 * c.2 := Int.mul_le_mul_of_nonneg_right h1 (by omega)
  have e2 : b.1 * c.2 * a.2 ≤ c.1 * b.2 * a.2 := Int.mul_le_mul_of_nonneg_right h2 (by omega)
  have e3 : a.1 * c.2 * b.2 ≤ c.1 * a.2 * b.2 := by grind
  exact Int.le_of_mul_le_mul_right e3 hb
theorem flE_fmax {x y t : Int × Int} (hx : 0 < x.2) (hy : 0 < y.2) (ht : 0 < t.2) : flE (fmax x y) t ↔ flE x t ∧ flE y t := by
  unfold fmax
  split
  · rename_i h
    exact ⟨fun h1 => ⟨flE_trans hx hy ht (Int.le_of_lt h) h1, h1⟩, fun h => h.2⟩
  · rename_i h
    exact ⟨fun h1 => ⟨h1, flE_trans hy hx ht (by unfold flE; omega) h1⟩, fun h => h.1⟩
theorem flE_fmin {x y t : Int × Int} (hx : 0 < x.2) (hy : 0 < y.2) (ht : 0 < t.2) : flE t (fmin x y) ↔ flE t x ∧ flE t y := by
  unfold fmin
  split
  · rename_i h
    exact ⟨fun h1 => ⟨flE_trans ht hy hx h1 (Int.le_of_lt h), h1⟩, fun h => h.2⟩
  · rename_i h
    exact ⟨fun h1 => ⟨h1, flE_trans ht hx hy h1 (by unfold flE; omega)⟩, fun h => h.1⟩
theorem slab_iff {n m p d a b : Int} : flE (sLo p d a b) (n, m) ∧ flE (n, m) (sHi p d a b) ↔ a * m ≤ p * m + n * d ∧ p * m + n * d ≤ b * m := by
  unfold flE sLo sHi
  by_cases h : d < 0
  · rw [if_pos h, if_pos h]; simp only
    rw [Int.sub_mul, Int.sub_mul, Int.mul_neg]; omega
  · rw [if_neg h, if_neg h]; simp only
    rw [Int.sub_mul, Int.sub_mul]; omega
theorem deg_iff {n m p a b : Int} (hm : 0 < m) : (a * m ≤ p * m + n * 0 ∧ p * m + n * 0 ≤ b * m) ↔ a ≤ p ∧ p ≤ b := by
  rw [Int.mul_zero, Int.add_zero, Int.mul_le_mul_right hm, Int.mul_le_mul_right hm]
theorem sLo_pos {p d a b : Int} (h : d ≠ 0) : 0 < (sLo p d a b).2 ∧ 0 < (sHi p d a b).2 := by
  unfold sLo sHi; constructor <;> split <;> simp only <;> omega
theorem fmax_pos {x y : Int × Int} (hx : 0 < x.2) (hy : 0 < y.2) : 0 < (fmax x y).2 := by unfold fmax; split <;> assumption
theorem fmin_pos {x y : Int × Int} (hx : 0 < x.2) (hy : 0 < y.2) : 0 < (fmin x y).2 := by unfold fmin; split <;> assumption
theorem slabL_pos {lo : Int × Int} {p d a b : Int} (h : 0 < lo.2) : 0 < (slabL lo p d a b).2 := by
  unfold slabL; split
  · exact h
  · exact fmax_pos h (sLo_pos (by assumption)).1
theorem slabH_pos {hi : Int × Int} {p d a b : Int} (h : 0 < hi.2) : 0 < (slabH hi p d a b).2 := by
  unfold slabH; split
  · exact h
  · exact fmin_pos h (sLo_pos (by assumption)).2
/-- A coordinate that begins at p and grows by d is in a range at n/m. -/
def inC (n m p d a b : Int) : Prop := a * m ≤ p * m + n * d ∧ p * m + n * d ≤ b * m
theorem slabLH {lo hi : Int × Int} {n m p d a b : Int} (hl : 0 < lo.2) (hh : 0 < hi.2) (hm : 0 < m) :
    (flE (slabL lo p d a b) (n, m) ∧ flE (n, m) (slabH hi p d a b)) ↔ (flE lo (n, m) ∧ flE (n, m) hi) ∧ (d ≠ 0 → inC n m p d a b) := by
  unfold slabL slabH
  by_cases h : d = 0
  · rw [if_pos h, if_pos h]; simp [h]
  · rw [if_neg h, if_neg h, flE_fmax hl (sLo_pos h).1 hm, flE_fmin hh (sLo_pos h).2 hm]
    have := slab_iff (n := n) (m := m) (p := p) (d := d) (a := a) (b := b)
    unfold inC
    rw [← this]
    simp [h]
    constructor
    · rintro ⟨⟨a, b⟩, c, d⟩; exact ⟨⟨a, c⟩, b, d⟩
    · rintro ⟨⟨a, b⟩, c, d⟩; exact ⟨⟨a, c⟩, b, d⟩
theorem slabB_iff {lo hi : Int × Int} {p d a b : Int} : slabB lo hi p d a b = true ↔ (d = 0 → a ≤ p ∧ p ≤ b) ∧ (d ≠ 0 → flE (slabL lo p d a b) (slabH hi p d a b)) := by
  unfold slabB slabL slabH
  by_cases h : d = 0
  · simp [h]
  · simp only [h, if_false, Bool.not_eq_true', decide_eq_false_iff_not]
    unfold flE
    constructor
    · intro h1; exact ⟨fun h2 => h2.elim, fun _ => by omega⟩
    · intro h1; have := h1.2 h; omega
/-- A ray is in a rectangle at a distance from lo to hi. -/
def MeP (px py vx vy vd lo hi x0 y0 x1 y1 : Int) : Prop :=
  (0 ≤ lo ∧ lo ≤ hi ∧ hi ≤ 65536) ∧ sPtB px py = true ∧ vecB vx vy vd = true ∧ sRectB x0 y0 x1 y1 = true ∧
    ∃ n m : Int, 0 < m ∧ 0 ≤ n ∧ inC n m px vx x0 x1 ∧ inC n m py vy y0 y1 ∧ lo * m ≤ n * vd ∧ n * vd ≤ hi * m
theorem inC_deg {n m p d a b : Int} (hm : 0 < m) (hd : d = 0) : inC n m p d a b ↔ a ≤ p ∧ p ≤ b := by
  subst hd; exact deg_iff hm
/-- No number above 2^22 is in a range whose speed is not 0. -/
theorem inC_bd {n m p d a b : Int} (hm : 0 < m) (hn : 0 ≤ n) (hd : d ≠ 0) (h1 : -2097152 ≤ p ∧ p ≤ 2097152) (h2 : -2097152 ≤ a ∧ a ≤ 2097152) (h3 : -2097152 ≤ b ∧ b ≤ 2097152) (h : inC n m p d a b) : n ≤ 8388608 * m := by
  unfold inC at h
  have e1 : (b - p) * m ≤ 4194304 * m := Int.mul_le_mul_of_nonneg_right (by omega) (by omega)
  have e2 : (p - a) * m ≤ 4194304 * m := Int.mul_le_mul_of_nonneg_right (by omega) (by omega)
  rw [Int.sub_mul] at e1 e2
  rcases Int.lt_or_gt_of_ne hd with h0 | h0
  · have e3 : n * 1 ≤ n * (-d) := Int.mul_le_mul_of_nonneg_left (by omega) hn
    rw [Int.mul_neg] at e3; omega
  · have e3 : n * 1 ≤ n * d := Int.mul_le_mul_of_nonneg_left (by omega) hn
    omega
theorem vec_ne {vx vy vd : Int} (h : vecB vx vy vd = true) : vx ≠ 0 ∨ vy ≠ 0 := by
  have a := vec_bd h
  by_cases h1 : vx = 0
  · by_cases h2 : vy = 0
    · subst h1; subst h2
      have := Int.mul_pos (show 0 < vd by omega) (show 0 < vd by omega)
      omega
    · exact .inr h2
  · exact .inl h1
theorem meets_iff (px py vx vy vd lo hi x0 y0 x1 y1 : Int) : meetsB px py vx vy vd lo hi x0 y0 x1 y1 = true ↔ MeP px py vx vy vd lo hi x0 y0 x1 y1 := by
  unfold MeP meetsB thrB
  simp only [Bool.and_eq_true, decide_eq_true_eq]
  have pos1 : 0 < (slabL (0, 1) px vx x0 x1).2 := slabL_pos (by simp)
  have pos2 : 0 < (slabH (8388608, 1) px vx x0 x1).2 := slabH_pos (by simp)
  have posL : 0 < (thrL px py vx vy x0 y0 x1 y1).2 := slabL_pos pos1
  have posH : 0 < (thrH px py vx vy x0 y0 x1 y1).2 := slabH_pos pos2
  constructor
  · rintro ⟨⟨⟨hr, ⟨⟨⟨h1, h2⟩, h3⟩, h4⟩, h5⟩, h6⟩, h7⟩
    have a2 := vec_bd h2
    refine ⟨hr, h1, h2, h3, ?_⟩
    rw [slabB_iff] at h4 h5
    have hLH : flE (thrL px py vx vy x0 y0 x1 y1) (thrH px py vx vy x0 y0 x1 y1) := by
      by_cases hy : vy = 0
      · have hx : vx ≠ 0 := (vec_ne h2).resolve_right (fun h => h hy)
        have := h4.2 hx
        unfold thrL thrH
        have e1 : slabL (slabL (0, 1) px vx x0 x1) py vy y0 y1 = slabL (0, 1) px vx x0 x1 := if_pos hy
        have e2 : slabH (slabH (8388608, 1) px vx x0 x1) py vy y0 y1 = slabH (8388608, 1) px vx x0 x1 := if_pos hy
        rw [e1, e2]; exact this
      · exact h5.2 hy
    have hD : 0 < ((lo, vd) : Int × Int).2 := by simp only; omega
    have hD2 : 0 < ((hi, vd) : Int × Int).2 := by simp only; omega
    have tpos := fmax_pos posL hD
    have g1 := (flE_fmax posL hD tpos).1 (flE_refl _)
    have g2 := (flE_fmax posL hD posH).2 ⟨hLH, h6⟩
    have g3 := (flE_fmax posL hD hD2).2 ⟨h7, by unfold flE; simp only; exact Int.mul_le_mul_of_nonneg_right hr.2.1 (by omega)⟩
    generalize fmax (thrL px py vx vy x0 y0 x1 y1) (lo, vd) = t at *
    obtain ⟨n, m⟩ := t
    simp only at tpos
    have k1 := (slabLH (p := py) (d := vy) (a := y0) (b := y1) pos1 pos2 tpos).1 ⟨g1.1, g2⟩
    have k2 := (slabLH (p := px) (d := vx) (a := x0) (b := x1) (lo := (0, 1)) (hi := (8388608, 1)) (by simp) (by simp) tpos).1 k1.1
    have hn : 0 ≤ n := by have := k2.1.1; unfold flE at this; simp only at this; omega
    refine ⟨n, m, tpos, hn, ?_, ?_, g1.2, g3⟩
    · by_cases hx : vx = 0
      · exact (inC_deg tpos hx).2 (h4.1 hx)
      · exact k2.2 hx
    · by_cases hy : vy = 0
      · exact (inC_deg tpos hy).2 (h5.1 hy)
      · exact k1.2 hy
  · rintro ⟨hr, h1, h2, h3, n, m, hm, hn, hx, hy, hl, hh⟩
    have a1 := sPt_bd h1; have a2 := vec_bd h2; have a3 := sRect_bd h3
    have hb : n ≤ 8388608 * m := by
      rcases vec_ne h2 with h | h
      · exact inC_bd hm hn h a1.1 a3.1 a3.2.2.1 hx
      · exact inC_bd hm hn h a1.2 a3.2.1 a3.2.2.2.1 hy
    have k2 := (slabLH (p := px) (d := vx) (a := x0) (b := x1) (lo := (0, 1)) (hi := (8388608, 1)) (by simp) (by simp) hm).2 ⟨⟨by unfold flE; simp only; omega, by unfold flE; simp only; omega⟩, fun _ => hx⟩
    have k1 := (slabLH (p := py) (d := vy) (a := y0) (b := y1) pos1 pos2 hm).2 ⟨k2, fun _ => hy⟩
    refine ⟨⟨⟨hr, ⟨⟨⟨h1, h2⟩, h3⟩, ?_⟩, ?_⟩, ?_⟩, ?_⟩
    · rw [slabB_iff]
      exact ⟨fun h => (inC_deg hm h).1 hx, fun _ => flE_trans pos1 hm pos2 k2.1 k2.2⟩
    · rw [slabB_iff]
      exact ⟨fun h => (inC_deg hm h).1 hy, fun _ => flE_trans posL hm posH k1.1 k1.2⟩
    · exact flE_trans (a := (lo, vd)) (b := (n, m)) (by simp only; omega) hm posH hl k1.2
    · exact flE_trans (b := (n, m)) (c := (hi, vd)) posL hm (by simp only; omega) k1.1 hh
theorem axS_ax {p x lo hi : Int} (h : x ≠ 0) : ((axS p x lo hi).a, (axS p x lo hi).b) = sLo p x lo hi ∧ ((axS p x lo hi).c, (axS p x lo hi).d) = sHi p x lo hi ∧ (axS p x lo hi).e = false ∧ (axS p x lo hi).l = false := by
  unfold axS sLo sHi
  rw [if_neg h]
  by_cases h2 : x < 0 <;> simp [h2]
theorem axS_z {p x lo hi : Int} (h : x = 0) : ((axS p x lo hi).e = true ↔ ¬ (lo ≤ p ∧ p ≤ hi)) ∧ ((axS p x lo hi).e = false → (axS p x lo hi).l = true) := by
  unfold axS
  rw [if_pos h]
  by_cases h2 : p < lo ∨ hi < p
  · rw [if_pos h2]; simp; omega
  · rw [if_neg h2]; simp; omega
def lowS (A : Spn) : Int × Int := (A.a, A.b)
def highS (A : Spn) : Int × Int := (A.c, A.d)
theorem timL_eq (A B : Spn) : timL A B = fmax (lowS A) (lowS B) := rfl
theorem timHi_eq (A B : Spn) : timHi A B = fmin (highS A) (highS B) := rfl
theorem timLo_iff {A B : Spn} {n m : Int} (hm : 0 < m) (hA : 0 < A.b) (hB : 0 < B.b) : flE (timLo A B) (n, m) ↔ 0 ≤ n ∧ flE (lowS A) (n, m) ∧ flE (lowS B) (n, m) := by
  have hp : 0 < (timL A B).2 := by rw [timL_eq]; exact fmax_pos hA hB
  rw [← flE_fmax (t := (n, m)) hA hB hm, ← timL_eq]
  unfold timLo
  generalize timL A B = L at *
  split
  · rename_i h
    unfold flE
    simp only
    have e : n ≥ 0 → 0 ≤ n * L.2 := fun h => Int.mul_nonneg h (by omega)
    have e2 : L.1 * m ≤ 0 := by have := Int.mul_neg_of_neg_of_pos h hm; omega
    constructor
    · intro h1; have := e (by omega); exact ⟨by omega, by omega⟩
    · intro h1; omega
  · rename_i h
    constructor
    · intro h1
      refine ⟨?_, h1⟩
      unfold flE at h1; simp only at h1
      have e2 : 0 ≤ L.1 * m := Int.mul_nonneg (by omega) (by omega)
      rcases Int.lt_or_le n 0 with h3 | h3
      · have := Int.mul_neg_of_neg_of_pos h3 hp; omega
      · exact h3
    · exact fun h => h.2
theorem timLo_pos {A B : Spn} (hA : 0 < A.b) (hB : 0 < B.b) : 0 < (timLo A B).2 := by
  unfold timLo; split
  · simp
  · rw [timL_eq]; exact fmax_pos hA hB
/-- The reference's two ranges are those of the ray. -/
theorem tim_in {px py vx vy vd x0 y0 x1 y1 n m : Int} (h1 : sPtB px py = true) (h2 : vecB vx vy vd = true) (h3 : sRectB x0 y0 x1 y1 = true) (hm : 0 < m) (h4 : ¬ ((axS px vx x0 x1).e = true ∨ (axS py vy y0 y1).e = true)) :
    (flE (timLo (timA (axS px vx x0 x1) (axS py vy y0 y1)) (timB (axS px vx x0 x1) (axS py vy y0 y1))) (n, m) ∧ flE (n, m) (timHi (timA (axS px vx x0 x1) (axS py vy y0 y1)) (timB (axS px vx x0 x1) (axS py vy y0 y1)))) ↔
      0 ≤ n ∧ (vx ≠ 0 → inC n m px vx x0 x1) ∧ (vy ≠ 0 → inC n m py vy y0 y1) := by
  obtain ⟨q1, q2⟩ := tim_q h1 h2 h3 h4
  have p1 : 0 < (timA (axS px vx x0 x1) (axS py vy y0 y1)).b := q1.2.1
  have p2 : 0 < (timB (axS px vx x0 x1) (axS py vy y0 y1)).b := q2.2.1
  have p3 : 0 < (timA (axS px vx x0 x1) (axS py vy y0 y1)).d := q1.2.2
  have p4 : 0 < (timB (axS px vx x0 x1) (axS py vy y0 y1)).d := q2.2.2
  rw [timLo_iff hm p1 p2, timHi_eq, flE_fmin p3 p4 hm]
  have e1 : (axS px vx x0 x1).e = false := by cases h : (axS px vx x0 x1).e; rfl; exact absurd (.inl h) h4
  have e2 : (axS py vy y0 y1).e = false := by cases h : (axS py vy y0 y1).e; rfl; exact absurd (.inr h) h4
  have sx := slab_iff (n := n) (m := m) (p := px) (d := vx) (a := x0) (b := x1)
  have sy := slab_iff (n := n) (m := m) (p := py) (d := vy) (a := y0) (b := y1)
  clear p1 p2 p3 p4 q1 q2
  by_cases hx : vx = 0
  · have lx := (axS_z hx).2 e1
    have hy : vy ≠ 0 := (vec_ne h2).resolve_left (fun h => h hx)
    obtain ⟨a1, a2, a3, a4⟩ := axS_ax (p := py) (lo := y0) (hi := y1) hy
    have f1 : timA (axS px vx x0 x1) (axS py vy y0 y1) = axS py vy y0 y1 := if_pos lx
    have f2 : timB (axS px vx x0 x1) (axS py vy y0 y1) = axS py vy y0 y1 := by unfold timB; rw [a4]; rfl
    rw [f1, f2]
    unfold lowS highS
    rw [a1, a2]
    unfold inC
    rw [← sy]
    simp [hx, hy]
    constructor
    · rintro ⟨⟨a, b⟩, c⟩; exact ⟨a, b, c⟩
    · rintro ⟨a, b, c⟩; exact ⟨⟨a, b⟩, c⟩
  · obtain ⟨a1, a2, a3, a4⟩ := axS_ax (p := px) (lo := x0) (hi := x1) hx
    have f1 : timA (axS px vx x0 x1) (axS py vy y0 y1) = axS px vx x0 x1 := by unfold timA; rw [a4]; rfl
    by_cases hy : vy = 0
    · have ly := (axS_z hy).2 e2
      have f2 : timB (axS px vx x0 x1) (axS py vy y0 y1) = axS px vx x0 x1 := by unfold timB; rw [ly, f1]; rfl
      rw [f1, f2]
      unfold lowS highS
      rw [a1, a2]
      unfold inC
      rw [← sx]
      simp [hx, hy]
      constructor
      · rintro ⟨⟨a, b⟩, c⟩; exact ⟨a, b, c⟩
      · rintro ⟨a, b, c⟩; exact ⟨⟨a, b⟩, c⟩
    · obtain ⟨b1, b2, b3, b4⟩ := axS_ax (p := py) (lo := y0) (hi := y1) hy
      have f2 : timB (axS px vx x0 x1) (axS py vy y0 y1) = axS py vy y0 y1 := by unfold timB; rw [b4]; rfl
      rw [f1, f2]
      unfold lowS highS
      rw [a1, a2, b1, b2]
      unfold inC
      rw [← sx, ← sy]
      simp [hx, hy]
      constructor
      · rintro ⟨⟨a, b, c⟩, d, e⟩; exact ⟨a, ⟨b, d⟩, c, e⟩
      · rintro ⟨a, ⟨b, d⟩, c, e⟩; exact ⟨⟨a, b, c⟩, d, e⟩
theorem rmeets_iff (px py vx vy vd lo hi x0 y0 x1 y1 : Int) : rMeetsB px py vx vy vd lo hi x0 y0 x1 y1 = true ↔ MeP px py vx vy vd lo hi x0 y0 x1 y1 := by
  unfold MeP rMeetsB okT
  simp only [Bool.and_eq_true, decide_eq_true_eq, Bool.not_eq_true']
  constructor
  · rintro ⟨⟨⟨hr, ⟨⟨h1, h2⟩, h3⟩, h4⟩, h5⟩, h6⟩
    refine ⟨hr, h1, h2, h3, ?_⟩
    have a2 := vec_bd h2
    unfold timR timS at h4 h5 h6
    split at h4
    · cases h4
    · rename_i hn
      rw [if_neg hn] at h5 h6
      obtain ⟨q1, q2⟩ := tim_q h1 h2 h3 hn
      have tin := fun n m hm => @tim_in px py vx vy vd x0 y0 x1 y1 n m h1 h2 h3 hm hn
      have hxz : vx = 0 → x0 ≤ px ∧ px ≤ x1 := fun h => by
        have := (axS_z (p := px) (lo := x0) (hi := x1) h).1
        by_cases hc : x0 ≤ px ∧ px ≤ x1
        · exact hc
        · exact absurd (.inl (this.2 hc)) hn
      have hyz : vy = 0 → y0 ≤ py ∧ py ≤ y1 := fun h => by
        have := (axS_z (p := py) (lo := y0) (hi := y1) h).1
        by_cases hc : y0 ≤ py ∧ py ≤ y1
        · exact hc
        · exact absurd (.inr (this.2 hc)) hn
      generalize timA (axS px vx x0 x1) (axS py vy y0 y1) = A at *
      generalize timB (axS px vx x0 x1) (axS py vy y0 y1) = B at *
      unfold timC at h4 h5 h6
      split at h4
      · cases h4
      · rename_i hne
        rw [if_neg hne] at h5 h6
        simp only at h5 h6
        have posL : 0 < (timLo A B).2 := timLo_pos q1.2.1 q2.2.1
        have posH : 0 < (timHi A B).2 := by rw [timHi_eq]; exact fmin_pos q1.2.2 q2.2.2
        have hLH : flE (timLo A B) (timHi A B) := by unfold flE; omega
        have hD : 0 < ((lo, vd) : Int × Int).2 := by simp only; omega
        have hD2 : 0 < ((hi, vd) : Int × Int).2 := by simp only; omega
        have tpos := fmax_pos posL hD
        have g1 := (flE_fmax posL hD tpos).1 (flE_refl _)
        have g2 := (flE_fmax posL hD posH).2 ⟨hLH, h6⟩
        have g3 := (flE_fmax posL hD hD2).2 ⟨h5, by unfold flE; simp only; exact Int.mul_le_mul_of_nonneg_right hr.2.1 (by omega)⟩
        generalize fmax (timLo A B) (lo, vd) = t at *
        obtain ⟨n, m⟩ := t
        simp only at tpos
        obtain ⟨k1, k2, k3⟩ := (tin n m tpos).1 ⟨g1.1, g2⟩
        refine ⟨n, m, tpos, k1, ?_, ?_, g1.2, g3⟩
        · by_cases hx : vx = 0
          · exact (inC_deg tpos hx).2 (hxz hx)
          · exact k2 hx
        · by_cases hy : vy = 0
          · exact (inC_deg tpos hy).2 (hyz hy)
          · exact k3 hy
  · rintro ⟨hr, h1, h2, h3, n, m, hm, hn, hx, hy, hl, hh⟩
    have a2 := vec_bd h2
    have hne : ¬ ((axS px vx x0 x1).e = true ∨ (axS py vy y0 y1).e = true) := by
      rintro (h | h)
      · by_cases hz : vx = 0
        · exact (axS_z hz).1.1 h ((inC_deg hm hz).1 hx)
        · rw [(axS_ax hz).2.2.1] at h; cases h
      · by_cases hz : vy = 0
        · exact (axS_z hz).1.1 h ((inC_deg hm hz).1 hy)
        · rw [(axS_ax hz).2.2.1] at h; cases h
    obtain ⟨q1, q2⟩ := tim_q h1 h2 h3 hne
    have tin := (tim_in h1 h2 h3 hm hne).2 ⟨hn, fun _ => hx, fun _ => hy⟩
    unfold timR timS
    have eA : (timA (axS px vx x0 x1) (axS py vy y0 y1)).e = false := by
      unfold timA; split
      · cases h : (axS py vy y0 y1).e; rfl; exact absurd (.inr h) hne
      · cases h : (axS px vx x0 x1).e; rfl; exact absurd (.inl h) hne
    rw [if_neg hne]
    generalize timA (axS px vx x0 x1) (axS py vy y0 y1) = A at *
    generalize timB (axS px vx x0 x1) (axS py vy y0 y1) = B at *
    have posL : 0 < (timLo A B).2 := timLo_pos q1.2.1 q2.2.1
    have posH : 0 < (timHi A B).2 := by rw [timHi_eq]; exact fmin_pos q1.2.2 q2.2.2
    have hLH := flE_trans posL hm posH tin.1 tin.2
    unfold timC
    rw [if_neg (by unfold flE at hLH; omega)]
    simp only
    refine ⟨⟨⟨hr, ⟨⟨h1, h2⟩, h3⟩, eA⟩, ?_⟩, ?_⟩
    · exact flE_trans (b := (n, m)) (c := (hi, vd)) posL hm (by simp only; omega) tin.1 hh
    · exact flE_trans (a := (lo, vd)) (b := (n, m)) (by simp only; omega) hm posH hl tin.2
theorem meets_eq (px py vx vy vd lo hi x0 y0 x1 y1 : Int) : rMeetsB px py vx vy vd lo hi x0 y0 x1 y1 = meetsB px py vx vy vd lo hi x0 y0 x1 y1 := by
  rw [Bool.eq_iff_iff, rmeets_iff, meets_iff]
end Go.Proofs.Ytnkkhmeojifckaa
