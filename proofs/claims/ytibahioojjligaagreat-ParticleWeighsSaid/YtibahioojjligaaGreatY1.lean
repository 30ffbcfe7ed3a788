/- A part of the proof of a statement about this seat: how a function is stepped through, and plain laws. No conditions. -/
import Derived.Test.YtibahioojjligaaGreatRows
import Derived.Test.YtibahioojjligaaGreatSz3
import Derived.Test.YtibahioojjligaaGreatU2
import Derived.KernelRfl
set_option linter.unusedVariables false
set_option linter.unusedSimpArgs false
set_option maxRecDepth 20000
namespace Go.Proofs.YtibahioojjligaaGreat
open Go.Sx Go.Way
structure PP where
  X : Int
  Y : Int
  H : Int
  W : Int
def eP : Enc PP where
  sz := 4
  ks := [.i .i64, .i .i64, .i .i64, .i .i64]
  wf := fun x => ((-9223372036854775808) ≤ x.X ∧ x.X ≤ 9223372036854775807) ∧ ((-9223372036854775808) ≤ x.Y ∧ x.Y ≤ 9223372036854775807) ∧ ((-9223372036854775808) ≤ x.H ∧ x.H ≤ 9223372036854775807) ∧ ((-9223372036854775808) ≤ x.W ∧ x.W ≤ 9223372036854775807)
  enc := fun x => [.v (.int .i64 x.X), .v (.int .i64 x.Y), .v (.int .i64 x.H), .v (.int .i64 x.W)]
  dec := fun f => ⟨intC (f 0), intC (f 1), intC (f 2), intC (f 3)⟩
  dflt := ⟨0, 0, 0, 0⟩
  flat := by
    intro x c hc
    simp only [List.mem_cons, List.not_mem_nil, or_false] at hc
    rcases hc with rfl | rfl | rfl | rfl <;> exact ⟨_, rfl, rfl⟩
  len := fun x => rfl
  onto := by
    intro cs h
    obtain ⟨n0, cs0, rfl, a0, b0, h0⟩ := kind_i h
    obtain ⟨n1, cs1, rfl, a1, b1, h1⟩ := kind_i h0
    obtain ⟨n2, cs2, rfl, a2, b2, h2⟩ := kind_i h1
    obtain ⟨n3, cs3, rfl, a3, b3, h3⟩ := kind_i h2
    obtain rfl := kind_n h3
    exact ⟨⟨n0, n1, n2, n3⟩, rfl, ⟨a0, b0⟩, ⟨a1, b1⟩, ⟨a2, b2⟩, ⟨a3, b3⟩⟩
  de := by
    intro x f h
    have h0 := h 0 (by decide)
    simp only [nth] at h0
    have h1 := h 1 (by decide)
    simp only [nth] at h1
    have h2 := h 2 (by decide)
    simp only [nth] at h2
    have h3 := h 3 (by decide)
    simp only [nth] at h3
    simp only [h0, h1, h2, h3, intC, boolC]
theorem eP_sz : eP.sz = 4 := rfl
theorem eP_0 (L : List PP) (e : Nat) : rowF eP L e 0 = .v (.int .i64 (L.getD e eP.dflt).X) := rfl
theorem eP_1 (L : List PP) (e : Nat) : rowF eP L e 1 = .v (.int .i64 (L.getD e eP.dflt).Y) := rfl
theorem eP_2 (L : List PP) (e : Nat) : rowF eP L e 2 = .v (.int .i64 (L.getD e eP.dflt).H) := rfl
theorem eP_3 (L : List PP) (e : Nat) : rowF eP L e 3 = .v (.int .i64 (L.getD e eP.dflt).W) := rfl
theorem eP_eta (x : PP) : PP.mk x.X x.Y x.H x.W = x := rfl
theorem eP_isRow (L : List PP) : isRow eP L.length 4 (rowF eP L) ↔ True := isRow_rowF L
attribute [push_cast] eP_eta eP_isRow eP_sz eP_0 eP_1 eP_2 eP_3
def posedB (X Y H : Int) : Bool := decide (-1048576 ≤ X ∧ X ≤ 1048576 ∧ -1048576 ≤ Y ∧ Y ≤ 1048576 ∧ 0 ≤ H ∧ H < 256)
def wrongP (p : PP) : Bool := !(posedB p.X p.Y p.H && decide (0 ≤ p.W ∧ p.W ≤ 1048576))
def ixOf {α : Type} (p : α → Bool) (L : List α) : Int := match L.findIdx? p with | some i => i | none => -1
theorem ixOf_some {α : Type} {p : α → Bool} {L : List α} {d : α} {k : Nat} (hk : k < L.length) (h1 : ∀ i, i < k → p (L.getD i d) = false) (h2 : p (L.getD k d) = true) : ixOf p L = k := by
  have hg : ∀ i (h : i < L.length), L.getD i d = L[i] := fun i h => by rw [List.getD_eq_getElem?_getD, List.getElem?_eq_getElem h]; rfl
  have : L.findIdx? p = some k := by
    rw [List.findIdx?_eq_some_iff_getElem]
    refine ⟨hk, by rw [← hg k hk]; exact h2, fun j hj => ?_⟩
    have := h1 j hj
    rw [hg j (by omega)] at this
    simp [this]
  unfold ixOf; rw [this]
theorem ixOf_none {α : Type} {p : α → Bool} {L : List α} {d : α} (h1 : ∀ i, i < L.length → p (L.getD i d) = false) : ixOf p L = -1 := by
  have hg : ∀ i (h : i < L.length), L.getD i d = L[i] := fun i h => by rw [List.getD_eq_getElem?_getD, List.getElem?_eq_getElem h]; rfl
  have : L.findIdx? p = none := by
    rw [List.findIdx?_eq_none_iff]
    intro x hx
    obtain ⟨i, hi, rfl⟩ := List.getElem_of_mem hx
    have := h1 i hi
    rw [hg i hi] at this
    exact this
  unfold ixOf; rw [this]
theorem ixOf_any {α : Type} (p : α → Bool) (L : List α) : decide (0 ≤ ixOf p L) = L.any p := by
  unfold ixOf
  cases h : L.findIdx? p with
  | none =>
    rw [List.findIdx?_eq_none_iff] at h
    have : L.any p = false := by rw [List.any_eq_false]; intro x hx; simp [h x hx]
    rw [this]; rfl
  | some i =>
    rw [List.findIdx?_eq_some_iff_getElem] at h
    obtain ⟨hi, h1, _⟩ := h
    have : L.any p = true := List.any_eq_true.2 ⟨L[i], List.getElem_mem hi, h1⟩
    rw [this]
    simp
def validL (L : List PP) : Bool := decide (L.length ≤ 1024) && !L.any wrongP
/-- The first weights' sum. -/
def pre (L : List PP) : Nat → Int
  | 0 => 0
  | k + 1 => pre L k + (L.getD k eP.dflt).W
theorem pre_zero (L : List PP) : pre L 0 = 0 := rfl
def sumW (L : List PP) : Int := pre L L.length
theorem pre_all (L : List PP) : pre L L.length = sumW L := rfl
theorem pre_succ {L : List PP} {k : Nat} (h : k < L.length) : pre L (k + 1) = pre L k + (L.getD k eP.dflt).W := rfl
theorem valid_len {L : List PP} (h : validL L = true) : L.length ≤ 1024 := by
  unfold validL at h; simp only [Bool.and_eq_true, decide_eq_true_eq] at h; exact h.1
theorem valid_at {L : List PP} (h : validL L = true) {k : Nat} (hk : k < L.length) : posedB (L.getD k eP.dflt).X (L.getD k eP.dflt).Y (L.getD k eP.dflt).H = true ∧ 0 ≤ (L.getD k eP.dflt).W ∧ (L.getD k eP.dflt).W ≤ 1048576 := by
  unfold validL at h
  simp only [Bool.and_eq_true, Bool.not_eq_true', List.any_eq_false] at h
  have := h.2 _ (List.getElem_mem hk)
  have hg : L.getD k eP.dflt = L[k] := by rw [List.getD_eq_getElem?_getD, List.getElem?_eq_getElem hk]; rfl
  rw [hg]
  unfold wrongP at this
  simp only [Bool.not_eq_true, Bool.not_eq_false', Bool.and_eq_true, decide_eq_true_eq] at this
  exact this
theorem pre_bd {L : List PP} (h : validL L = true) : ∀ {k : Nat}, k ≤ L.length → 0 ≤ pre L k ∧ pre L k ≤ 1048576 * k
  | 0, _ => by simp [pre]
  | k + 1, hk => by
    have := pre_bd h (k := k) (by omega)
    have := (valid_at h (k := k) (by omega)).2
    simp only [pre]
    omega
def totalL (L : List PP) : Int := if validL L = true then sumW L else 0
def flockK (ws : List Int) (k : Nat) : List PP := (List.range k).map fun i : Nat => (⟨(i : Int), 0, 0, ws.getD i eU16.dflt⟩ : PP)
def flockL (ws : List Int) : List PP := flockK ws ws.length
theorem flockK_len (ws : List Int) (k : Nat) : (flockK ws k).length = k := by simp [flockK]
theorem flockK_succ (ws : List Int) (k : Nat) : flockK ws (k + 1) = flockK ws k ++ [⟨(k : Int), 0, 0, ws.getD k eU16.dflt⟩] := by simp [flockK, List.range_succ]
def pnextS (s : Int) : Int := (s * 6364136223846793005 + 1442695040888963407) % 18446744073709551616
def drawS (s n : Int) : Int × Int := if n < 1 ∨ 2147483648 < n then (0, s) else (pnextS s / 8589934592 % n, pnextS s)
theorem u64_wrap (n : Int) : IntKind.u64.wrap n = n % 18446744073709551616 := by rw [IntKind.wrap_u64]
theorem nextS_bd (s : Int) : 0 ≤ pnextS s ∧ pnextS s < 18446744073709551616 := by unfold pnextS; omega

/-! Resampling -/
/-- The first element whose running sum, n times, is above x. -/
def pickI (L : List PP) (n x : Int) : Nat := (List.range L.length).findIdx fun k => decide (x < n * pre L (k + 1))
theorem pickI_eq {L : List PP} {n x : Int} {k : Nat} (hk : k < L.length) (h1 : ∀ j, j < k → n * pre L (j + 1) ≤ x) (h2 : x < n * pre L (k + 1)) : pickI L n x = k := by
  unfold pickI
  have hk' : k < (List.range L.length).length := by simpa using hk
  rw [List.findIdx_eq hk']
  refine ⟨by simpa using h2, fun j hj => ?_⟩
  have := h1 j hj
  simp
  omega
def resK (L : List PP) (n u : Int) (i : Nat) : List PP := (List.range i).map fun i : Nat => { L.getD (pickI L n (u + i * sumW L)) eP.dflt with W := 1 }
theorem resK_len (L : List PP) (n u : Int) (i : Nat) : (resK L n u i).length = i := by simp [resK]
theorem resK_succ (L : List PP) (n u : Int) (i : Nat) : resK L n u (i + 1) = resK L n u i ++ [{ L.getD (pickI L n (u + i * sumW L)) eP.dflt with W := 1 }] := by simp [resK, List.range_succ]
def resE_ (L : List PP) (n u : Int) : Int :=
  if validL L = false then 1 else if n < 1 ∨ 1024 < n then 2 else if totalL L = 0 then 9 else if u < 0 ∨ totalL L ≤ u then 2 else 0
def resL (L : List PP) (n u : Int) : List PP := if resE_ L n u = 0 then resK L n u n.toNat else []
/-! Fractions -/
def plowF (n d : Int) : Int × Int := (n / (Int.gcd n d : Int), d / (Int.gcd n d : Int))
def pmeasE (L : List PP) : Int := if validL L = false then 1 else if totalL L = 0 then 9 else 0
def preS (L : List PP) : Nat → Int
  | 0 => 0
  | k + 1 => preS L k + (L.getD k eP.dflt).W * (L.getD k eP.dflt).W
def effF (L : List PP) : (Int × Int) × Int := if pmeasE L = 0 then (plowF (sumW L * sumW L) (preS L L.length), 0) else ((0, 0), pmeasE L)
theorem gcd_max (n d : Int) : Int.gcd (max n (-n)) d = Int.gcd n d := by
  rcases Int.le_total 0 n with h | h
  · rw [Int.max_eq_left (by omega)]
  · rw [Int.max_eq_right (by omega), Int.neg_gcd]
theorem pgcd_tmod {x y : Int} (h : 0 ≤ x) : Int.gcd y (x.tmod y) = Int.gcd x y := by
  rw [tmod_pos h]
  rw [Int.emod_def, Int.gcd_sub_mul_left_right, Int.gcd_comm]
theorem ptdiv_dvd {a g : Int} (hg : 0 < g) (h : g ∣ a) : a.tdiv g = a / g := by
  obtain ⟨c, rfl⟩ := h
  rw [Int.mul_tdiv_cancel_left _ (by omega), Int.mul_ediv_cancel_left _ (by omega)]
theorem pdiv_bd {a g B : Int} (hg : 0 < g) (h1 : -B ≤ a) (h2 : a ≤ B) (hB : 0 ≤ B) : -B ≤ a / g ∧ a / g ≤ B := by
  constructor
  · refine Int.le_ediv_of_mul_le hg ?_
    have : B * 1 ≤ B * g := Int.mul_le_mul_of_nonneg_left (by omega) hB
    rw [Int.neg_mul]; omega
  · refine Int.ediv_le_of_le_mul hg ?_
    have : B * 1 ≤ B * g := Int.mul_le_mul_of_nonneg_left (by omega) hB
    omega
theorem preS_zero (L : List PP) : preS L 0 = 0 := rfl
theorem preS_succ (L : List PP) (k : Nat) : preS L (k + 1) = preS L k + (L.getD k eP.dflt).W * (L.getD k eP.dflt).W := rfl
theorem sq_bd {w : Int} (h0 : 0 ≤ w) (h1 : w ≤ 1048576) : 0 ≤ w * w ∧ w * w ≤ 1099511627776 ∧ (0 < w → 0 < w * w) := by
  have a := Int.mul_nonneg h0 h0
  have b : w * w ≤ 1048576 * 1048576 := Int.mul_le_mul h1 h1 h0 (by omega)
  exact ⟨a, by omega, fun h => Int.mul_pos h h⟩
theorem preS_bd {L : List PP} (h : validL L = true) : ∀ {k : Nat}, k ≤ L.length → 0 ≤ preS L k ∧ preS L k ≤ 1099511627776 * k ∧ (0 < pre L k → 0 < preS L k)
  | 0, _ => by simp [preS, pre]
  | k + 1, hk => by
    have h1 := preS_bd h (k := k) (by omega)
    have h2 := (valid_at h (k := k) (by omega)).2
    have h3 := sq_bd h2.1 h2.2
    have h4 := pre_bd h (k := k) (by omega)
    rw [preS_succ]
    simp only [pre]
    omega
theorem pre_mono {L : List PP} (h : validL L = true) : ∀ {j k : Nat}, j ≤ k → k ≤ L.length → pre L j ≤ pre L k
  | j, 0, hj, _ => by have : j = 0 := by omega
                      subst this; exact Int.le_refl _
  | j, k + 1, hj, hk => by
    by_cases hjk : j = k + 1
    · subst hjk; exact Int.le_refl _
    · have h1 := pre_mono h (j := j) (k := k) (by omega) (by omega)
      have h2 := (valid_at h (k := k) (by omega)).2
      simp only [pre]; omega
theorem pmeas0 {L : List PP} (h : pmeasE L = 0) : validL L = true ∧ sumW L ≠ 0 ∧ totalL L = sumW L := by
  unfold pmeasE at h
  have hv : validL L = true := by cases hv : validL L <;> simp_all
  have ht : totalL L = sumW L := by unfold totalL; rw [if_pos hv]
  refine ⟨hv, fun h0 => ?_, ht⟩
  rw [ht, h0] at h
  simp [hv] at h
theorem mul_bd {a b A B : Int} (ha : 0 ≤ a) (hA : a ≤ A) (hb : 0 ≤ b) (hB : b ≤ B) : 0 ≤ a * b ∧ a * b ≤ A * B :=
  ⟨Int.mul_nonneg ha hb, Int.mul_le_mul hA hB hb (by omega)⟩
theorem sum_bd {L : List PP} (h : validL L = true) : 0 ≤ sumW L ∧ sumW L ≤ 1073741824 := by
  have h1 := pre_bd h (k := L.length) (Nat.le_refl _)
  have h2 := valid_len h
  unfold sumW; omega
def x46 : XFn := ⟨9, (.seq (.reg false [K1 2 .mv (.bool false)]) (.seq (.reg false [O1 3 .mv 0, K2 4 (.bin .lss) 3 (iV (-1048576)), O1 5 .mv 4, G1 6 .mv 0 5 false, GK 7 (.bin .gtr) 6 (iV 1048576) 5 false, ⟨(some 8), .pick, [(.t 5), (.k (.bool true)), (.t 7)], none⟩, O1 2 .mv 8]) .ret)), [(.s 2)]⟩
theorem x46_ok : xfn Tryz.prog Tryz.f46 = some x46.er := by kernel_rfl
def x27 : XFn := ⟨26, (.seq (.reg false [O1 1 (.box 37) 0, K1 2 .mv (.bool false)]) (.seq (.reg false [⟨(some 3), .mv, [(.k (.func (.func 46) #[] #[]))], none⟩]) (.seq (.reg false [O1 4 .mv 3, O1 5 (.fld 0) 1, O1 6 .load1 5, O2 7 .callv 4 6, O1 8 (.un .not) 7, O1 9 .mv 8, G1 10 .mv 3 9 true, G1 11 (.fld 1) 1 9 true, G1 12 .load1 11 9 true, G2 13 .callv 10 12 9 true, G1 14 (.un .not) 13 9 true, ⟨(some 15), .pick, [(.t 9), (.t 14), (.k (.bool false))], none⟩, O1 16 .mv 15, G1 17 (.fld 2) 1 16 true, G1 18 .load1 17 16 true, GK 19 (.bin .geq) 18 (iV 0) 16 true, ⟨(some 20), .pick, [(.t 16), (.t 19), (.k (.bool false))], none⟩, O1 21 .mv 20, G1 22 (.fld 2) 1 21 true, G1 23 .load1 22 21 true, GK 24 (.bin .lss) 23 (iV 256) 21 true, ⟨(some 25), .pick, [(.t 21), (.t 24), (.k (.bool false))], none⟩, O1 2 .mv 25]) .ret))), [(.s 2)]⟩
theorem x27_ok : xfn Tryz.prog Tryz.f27 = some x27.er := by kernel_rfl
def x26 : XFn := ⟨17, (.seq (.reg false [O1 1 (.box 39) 0, K1 2 .mv (.bool false)]) (.seq (.reg false [O1 3 (.fld 0) 1, O1 4 (.loadN 3) 3, O1 5 (.call 27) 4, O1 6 (.un .not) 5, O1 7 .mv 6, G1 8 (.fld 3) 1 7 false, G1 9 .load1 8 7 false, GK 10 (.bin .lss) 9 (iV 0) 7 false, ⟨(some 11), .pick, [(.t 7), (.k (.bool true)), (.t 10)], none⟩, O1 12 .mv 11, G1 13 (.fld 3) 1 12 false, G1 14 .load1 13 12 false, GK 15 (.bin .gtr) 14 (iV 1048576) 12 false, ⟨(some 16), .pick, [(.t 12), (.k (.bool true)), (.t 15)], none⟩, O1 2 .mv 16]) .ret)), [(.s 2)]⟩
theorem x26_ok : xfn Tryz.prog Tryz.f26 = some x26.er := by kernel_rfl
def x47L0 : XC := (.seq (.reg false [O2 9 (.bin .lss) 8 7]) (.seq (.cond (.t 9) .skip (.exit 0)) (.seq (.block 1 (.seq (.reg false [O1 10 .mv 8, O1 5 .mv 10]) (.seq (.reg false [O1 11 .mv 1, O1 12 .mv 0, O1 13 .mv 5, O2 14 (.ixS 4) 12 13, O1 15 (.loadN 4) 14, O2 16 .callv 11 15]) (.cond (.t 16) (.seq (.reg false [O1 17 .mv 5, O1 4 .mv 17]) .ret) .skip)))) (.reg false [K2 18 (.bin .add) 8 (iV 1), O1 8 .mv 18]))))
def x47 : XFn := ⟨19, (.seq (.reg false [K1 4 .mv (iV 0)]) (.seq (.seq (.reg false [O1 6 .mv 0, O1 7 .lenS 6, K1 8 .mv (iV 0)]) (.block 0 (.loop x47L0))) (.seq (.reg false [K1 4 .mv (iV (-1))]) .ret))), [(.s 4)]⟩
theorem x47_ok : xfn Tryz.prog Tryz.f47 = some x47.er := by kernel_rfl
def x28 : XFn := ⟨9, (.seq (.reg false [K1 4 .mv (.bool false)]) (.seq (.reg false [O1 5 .mv 0, O1 6 .mv 1, O2 7 (.call 47) 5 6, K2 8 (.bin .geq) 7 (iV 0), O1 4 .mv 8]) .ret)), [(.s 4)]⟩
theorem x28_ok : xfn Tryz.prog Tryz.f28 = some x28.er := by kernel_rfl
def x13 : XFn := ⟨13, (.seq (.reg false [K1 2 .mv (.bool false)]) (.seq (.reg false [⟨(some 3), .mv, [(.k (.func (.func 26) #[] #[]))], none⟩]) (.seq (.reg false [O1 4 .mv 0, O1 5 .lenS 4, K2 6 (.bin .leq) 5 (iV 1024), O1 7 .mv 6, G1 8 .mv 0 7 true, G1 9 .mv 3 7 true, G2 10 (.call 28) 8 9 7 true, G1 11 (.un .not) 10 7 true, ⟨(some 12), .pick, [(.t 7), (.t 11), (.k (.bool false))], none⟩, O1 2 .mv 12]) .ret))), [(.s 2)]⟩
theorem x13_ok : xfn Tryz.prog Tryz.f13 = some x13.er := by kernel_rfl
def x23L0 : XC := (.seq (.reg false [O2 12 (.bin .lss) 11 10]) (.seq (.cond (.t 12) .skip (.exit 0)) (.seq (.block 1 (.seq (.reg false [O2 13 (.ixS 4) 9 11, O1 14 (.loadN 4) 13, ⟨(some 5), (.alloc 39 [(iV 0), (iV 0), (iV 0), (iV 0)]), [], none⟩, ⟨none, (.store 4), [(.t 5), (.t 14)], none⟩]) (.reg false [O1 15 .mv 3, O1 16 (.fld 3) 5, O1 17 .load1 16, O2 18 (.bin .add) 15 17, O1 3 .mv 18]))) (.reg false [K2 19 (.bin .add) 11 (iV 1), O1 11 .mv 19]))))
def x23 : XFn := ⟨21, (.seq (.reg false [K1 2 .mv (iV 0)]) (.seq (.reg false [K1 3 .mv (iV 0)]) (.seq (.seq (.reg false [O1 6 .mv 0, O1 7 (.call 13) 6, O1 8 (.un .not) 7]) (.cond (.t 8) (.seq (.reg false [K1 2 .mv (iV 0)]) .ret) .skip)) (.seq (.seq (.reg false [O1 9 .mv 0, O1 10 .lenS 9, K1 11 .mv (iV 0)]) (.block 0 (.loop x23L0))) (.seq (.reg false [O1 20 .mv 3, O1 2 .mv 20]) .ret))))), [(.s 2)]⟩
theorem x23_ok : xfn Tryz.prog Tryz.f23 = some x23.er := by kernel_rfl
/-- wayfinder/particle.posed$1 -/
def g46 : Con := fun args_ E_ nn_ => match args_ with
  | [.c (.v (.int .i64 n))] => some (.q (True) (.o (.c (.v (.bool (decide (n < -1048576) || decide (1048576 < n)))))))
  | _ => none
theorem c46 : COk Tryz.prog 46 g46 := by
  refine cok_q Tryz.func46 x46_ok (by kernel_rfl) (cok_tab cok_nil) ?_
  intro args_ E_ nn_ cr_ hg_
  unfold g46 at hg_
  split at hg_
  · rename_i n
    cases hg_
    refine ⟨_, _, rfl, 0, [], [.c (.v (.int .i64 n))], [], .o (.c (.v (.bool (decide (n < -1048576) || decide (1048576 < n))))), rfl, rfl, by simp only [push_cast, Nat.reduceLT, Nat.reduceAdd], by simp only [push_cast, Nat.reduceLT, Nat.reduceAdd], by simp only [push_cast, Nat.reduceLT, Nat.reduceAdd], rfl, trivial, rfl, ?_⟩
    intro hpre hlen
    refine ⟨trivial, ?_⟩
    simp (config := {maxSteps := 10000000}) only [x46, push_cast, Nat.reduceAdd, Nat.reduceSub, Nat.reduceLeDiff, Nat.reduceEqDiff, Nat.reduceBEq, Nat.reduceMul, Nat.reduceLT, reduceIte, reduceCtorEq, Int.reduceLE, Int.reduceLT, Int.reduceEq, Int.reduceMul, Int.reduceAdd, Int.reduceSub, Int.reduceNeg, Int.reduceToNat, Int.reduceNe]
  · cases hg_
/-- wayfinder/particle.posed -/
def g27 : Con := fun args_ E_ nn_ => match args_ with
  | [.a [.v (.int .i64 p_X), .v (.int .i64 p_Y), .v (.int .i64 p_H)]] => some (.q (True) (.o (.c (.v (.bool (posedB p_X p_Y p_H))))))
  | _ => none
theorem c27 : COk Tryz.prog 27 g27 := by
  refine cok_q Tryz.func27 x27_ok (by kernel_rfl) (cok_tab (cok_cons c46 cok_nil)) ?_
  intro args_ E_ nn_ cr_ hg_
  unfold g27 at hg_
  split at hg_
  · rename_i p_X p_Y p_H
    cases hg_
    refine ⟨_, _, rfl, 0, [], [.a [.v (.int .i64 p_X), .v (.int .i64 p_Y), .v (.int .i64 p_H)]], [], .o (.c (.v (.bool (posedB p_X p_Y p_H)))), rfl, rfl, by simp only [push_cast, Nat.reduceLT, Nat.reduceAdd], by simp only [push_cast, Nat.reduceLT, Nat.reduceAdd], by simp only [push_cast, Nat.reduceLT, Nat.reduceAdd], rfl, trivial, rfl, ?_⟩
    intro hpre hlen
    refine ⟨trivial, ?_⟩
    simp (config := {maxSteps := 10000000}) only [x27, push_cast, Nat.reduceAdd, Nat.reduceSub, Nat.reduceLeDiff, Nat.reduceEqDiff, Nat.reduceBEq, Nat.reduceMul, Nat.reduceLT, reduceIte, reduceCtorEq, Int.reduceLE, Int.reduceLT, Int.reduceEq, Int.reduceMul, Int.reduceAdd, Int.reduceSub, Int.reduceNeg, Int.reduceToNat, Int.reduceNe, g46]
    unfold posedB
    rw [Bool.eq_iff_iff]
    simp
    omega
  · cases hg_
/-- wayfinder/particle.valid$1 -/
def g26 : Con := fun args_ E_ nn_ => match args_ with
  | [.a [.v (.int .i64 p_Pose_X), .v (.int .i64 p_Pose_Y), .v (.int .i64 p_Pose_H), .v (.int .i64 p_Weight)]] => some (.q (True) (.o (.c (.v (.bool (wrongP ⟨p_Pose_X, p_Pose_Y, p_Pose_H, p_Weight⟩))))))
  | _ => none
theorem c26 : COk Tryz.prog 26 g26 := by
  refine cok_q Tryz.func26 x26_ok (by kernel_rfl) (cok_tab (cok_cons c27 cok_nil)) ?_
  intro args_ E_ nn_ cr_ hg_
  unfold g26 at hg_
  split at hg_
  · rename_i p_Pose_X p_Pose_Y p_Pose_H p_Weight
    cases hg_
    refine ⟨_, _, rfl, 0, [], [.a [.v (.int .i64 p_Pose_X), .v (.int .i64 p_Pose_Y), .v (.int .i64 p_Pose_H), .v (.int .i64 p_Weight)]], [], .o (.c (.v (.bool (wrongP ⟨p_Pose_X, p_Pose_Y, p_Pose_H, p_Weight⟩)))), rfl, rfl, by simp only [push_cast, Nat.reduceLT, Nat.reduceAdd], by simp only [push_cast, Nat.reduceLT, Nat.reduceAdd], by simp only [push_cast, Nat.reduceLT, Nat.reduceAdd], rfl, trivial, rfl, ?_⟩
    intro hpre hlen
    refine ⟨trivial, ?_⟩
    simp (config := {maxSteps := 10000000}) only [x26, push_cast, Nat.reduceAdd, Nat.reduceSub, Nat.reduceLeDiff, Nat.reduceEqDiff, Nat.reduceBEq, Nat.reduceMul, Nat.reduceLT, reduceIte, reduceCtorEq, Int.reduceLE, Int.reduceLT, Int.reduceEq, Int.reduceMul, Int.reduceAdd, Int.reduceSub, Int.reduceNeg, Int.reduceToNat, Int.reduceNe, g27]
    unfold wrongP
    cases posedB p_Pose_X p_Pose_Y p_Pose_H with
    | false => rfl
    | true =>
      rw [Bool.eq_iff_iff]
      simp <;> omega
  · cases hg_
/-- slices.IndexFunc[[]wayfinder/api.Particle,wayfinder/api.Particle] -/
def g47 : Con := fun args_ E_ nn_ => match args_ with
  | [.c (.n s), .c (.v (.func (.func 26) f_a f_b))] => (match rowOf E_ s with
    | some (s_n, s_s, s_f) => some (.q (isRow eP s_n s_s s_f ∧ f_a = #[] ∧ f_b = #[]) (.o (.c (.v (.int .i64 (ixOf wrongP (decL eP s_n s_f)))))))
    | none => none)
  | _ => none
theorem c47 : COk Tryz.prog 47 g47 := by
  refine cok_q Tryz.func47 x47_ok (by kernel_rfl) (cok_tab (cok_cons c26 cok_nil)) ?_
  intro args_ E_ nn_ cr_ hg_
  unfold g47 at hg_
  split at hg_
  · rename_i s f_a f_b
    split at hg_
    · rename_i s_n s_s s_f h_s
      cases hg_
      refine ⟨_, _, rfl, 1, [s], [.c (.n 0), .c (.v (.func (.func 26) f_a f_b))], [(0, .ro (decL eP s_n s_f).length eP.sz (rowF eP (decL eP s_n s_f)))], .o (.c (.v (.int .i64 (ixOf wrongP (decL eP s_n s_f))))), rfl, rfl, by simp only [push_cast, Nat.reduceLT, Nat.reduceAdd], by simp only [push_cast, Nat.reduceLT, Nat.reduceAdd], by simp only [push_cast, Nat.reduceLT, Nat.reduceAdd], rfl, ⟨inE0_row h_s, trivial⟩, rfl, ?_⟩
      intro hpre hlen
      obtain ⟨i_s, hpre⟩ := hpre
      refine ⟨⟨inE_row h_s i_s, trivial⟩, ?_⟩
      have z_s := lens_row (E := eP) hlen h_s
      clear i_s
      generalize decL eP s_n s_f = sL at *
      clear h_s
      obtain ⟨rfl, rfl⟩ := hpre
      simp (config := {maxSteps := 10000000}) only [x47, push_cast, Nat.reduceAdd, Nat.reduceSub, Nat.reduceLeDiff, Nat.reduceEqDiff, Nat.reduceBEq, Nat.reduceMul, Nat.reduceLT, reduceIte, reduceCtorEq, Int.reduceLE, Int.reduceLT, Int.reduceEq, Int.reduceMul, Int.reduceAdd, Int.reduceSub, Int.reduceNeg, Int.reduceToNat, Int.reduceNe, g26]
      refine vcLoop_upd (α := {k : Nat // k ≤ sL.length ∧ ∀ i, i < k → wrongP (sL.getD i eP.dflt) = false}) [0, 1, 7] 0 (fun s => [(8, .o (.c (.v (.int .i64 (s.1 : Nat)))))]) (fun s => []) (fun s => sL.length - s.1) ⟨0, by omega, fun i hi => by omega⟩ ?_ ?_
      · simp only [push_cast, Nat.reduceAdd, Nat.reduceSub, Nat.reduceLeDiff, Nat.reduceEqDiff, Nat.reduceBEq, Nat.reduceMul, Nat.reduceLT, reduceIte, reduceCtorEq, Int.reduceLE, Int.reduceLT, Int.reduceEq, Int.reduceMul, Int.reduceAdd, Int.reduceSub, Int.reduceNeg, Int.reduceToNat, Int.reduceNe, g26]
      · rintro ⟨k, hk, hall⟩
        simp only [x47L0, push_cast, Nat.reduceAdd, Nat.reduceSub, Nat.reduceLeDiff, Nat.reduceEqDiff, Nat.reduceBEq, Nat.reduceMul, Nat.reduceLT, reduceIte, reduceCtorEq, Int.reduceLE, Int.reduceLT, Int.reduceEq, Int.reduceMul, Int.reduceAdd, Int.reduceSub, Int.reduceNeg, Int.reduceToNat, Int.reduceNe, g26]
        refine ⟨fun hlt => ⟨hlt, hlt, fun hw => (ixOf_some hlt hall hw).symm, fun hw => ?_⟩, fun hn => ?_⟩
        · exact ⟨⟨k + 1, by omega, fun i hi => by
            by_cases h : i = k
            · subst h; exact hw
            · exact hall i (by omega)⟩, wrapI (by omega) (by omega), by simp only; omega⟩
        · exact (ixOf_none (fun i hi => hall i (by omega))).symm
    · cases hg_
  · cases hg_
/-- slices.ContainsFunc[[]wayfinder/api.Particle,wayfinder/api.Particle] -/
def g28 : Con := fun args_ E_ nn_ => match args_ with
  | [.c (.n s), .c (.v (.func (.func 26) f_a f_b))] => (match rowOf E_ s with
    | some (s_n, s_s, s_f) => some (.q (isRow eP s_n s_s s_f ∧ f_a = #[] ∧ f_b = #[]) (.o (.c (.v (.bool (((decL eP s_n s_f)).any wrongP))))))
    | none => none)
  | _ => none
theorem c28 : COk Tryz.prog 28 g28 := by
  refine cok_q Tryz.func28 x28_ok (by kernel_rfl) (cok_tab (cok_cons c47 cok_nil)) ?_
  intro args_ E_ nn_ cr_ hg_
  unfold g28 at hg_
  split at hg_
  · rename_i s f_a f_b
    split at hg_
    · rename_i s_n s_s s_f h_s
      cases hg_
      refine ⟨_, _, rfl, 1, [s], [.c (.n 0), .c (.v (.func (.func 26) f_a f_b))], [(0, .ro (decL eP s_n s_f).length eP.sz (rowF eP (decL eP s_n s_f)))], .o (.c (.v (.bool (((decL eP s_n s_f)).any wrongP)))), rfl, rfl, by simp only [push_cast, Nat.reduceLT, Nat.reduceAdd], by simp only [push_cast, Nat.reduceLT, Nat.reduceAdd], by simp only [push_cast, Nat.reduceLT, Nat.reduceAdd], rfl, ⟨inE0_row h_s, trivial⟩, rfl, ?_⟩
      intro hpre hlen
      obtain ⟨i_s, hpre⟩ := hpre
      refine ⟨⟨inE_row h_s i_s, trivial⟩, ?_⟩
      have z_s := lens_row (E := eP) hlen h_s
      clear i_s
      generalize decL eP s_n s_f = sL at *
      clear h_s
      obtain ⟨rfl, rfl⟩ := hpre
      simp (config := {maxSteps := 10000000}) only [x28, push_cast, Nat.reduceAdd, Nat.reduceSub, Nat.reduceLeDiff, Nat.reduceEqDiff, Nat.reduceBEq, Nat.reduceMul, Nat.reduceLT, reduceIte, reduceCtorEq, Int.reduceLE, Int.reduceLT, Int.reduceEq, Int.reduceMul, Int.reduceAdd, Int.reduceSub, Int.reduceNeg, Int.reduceToNat, Int.reduceNe, g47]
      exact ixOf_any wrongP sL
    · cases hg_
  · cases hg_
/-- wayfinder/particle.valid -/
def g13 : Con := fun args_ E_ nn_ => match args_ with
  | [.c (.n l)] => (match rowOf E_ l with
    | some (l_n, l_s, l_f) => some (.q (isRow eP l_n l_s l_f ∧ True) (.o (.c (.v (.bool (validL (decL eP l_n l_f)))))))
    | none => none)
  | _ => none
theorem c13 : COk Tryz.prog 13 g13 := by
  refine cok_q Tryz.func13 x13_ok (by kernel_rfl) (cok_tab (cok_cons c28 cok_nil)) ?_
  intro args_ E_ nn_ cr_ hg_
  unfold g13 at hg_
  split at hg_
  · rename_i l
    split at hg_
    · rename_i l_n l_s l_f h_l
      cases hg_
      refine ⟨_, _, rfl, 1, [l], [.c (.n 0)], [(0, .ro (decL eP l_n l_f).length eP.sz (rowF eP (decL eP l_n l_f)))], .o (.c (.v (.bool (validL (decL eP l_n l_f))))), rfl, rfl, by simp only [push_cast, Nat.reduceLT, Nat.reduceAdd], by simp only [push_cast, Nat.reduceLT, Nat.reduceAdd], by simp only [push_cast, Nat.reduceLT, Nat.reduceAdd], rfl, ⟨inE0_row h_l, trivial⟩, rfl, ?_⟩
      intro hpre hlen
      obtain ⟨i_l, hpre⟩ := hpre
      refine ⟨⟨inE_row h_l i_l, trivial⟩, ?_⟩
      have z_l := lens_row (E := eP) hlen h_l
      clear i_l
      generalize decL eP l_n l_f = lL at *
      clear h_l
      simp (config := {maxSteps := 10000000}) only [x13, push_cast, Nat.reduceAdd, Nat.reduceSub, Nat.reduceLeDiff, Nat.reduceEqDiff, Nat.reduceBEq, Nat.reduceMul, Nat.reduceLT, reduceIte, reduceCtorEq, Int.reduceLE, Int.reduceLT, Int.reduceEq, Int.reduceMul, Int.reduceAdd, Int.reduceSub, Int.reduceNeg, Int.reduceToNat, Int.reduceNe, g28]
      unfold validL
      congr 1
      exact decide_eq_decide.2 (by omega)
    · cases hg_
  · cases hg_
def wrongC (c : CC) : Bool := !beamB c.X c.Y
theorem scan_any (S : List CC) : scanB S = (decide (S.length ≤ 32) && !S.any wrongC) := by
  unfold scanB
  congr 1
  induction S with
  | nil => rfl
  | cons c l ih => simp only [List.all_cons, List.any_cons, ih, wrongC, Bool.not_or, Bool.not_not]
def blkP (W H : Int) (L : List Int) (x y : Int) : Bool := decide (x < 0 ∨ y < 0 ∨ W * 64 < x ∨ H * 64 < y) || (clL x y x y).any fun c => decide (atB W H L c.X c.Y = 2)
def x31 : XFn := ⟨21, (.seq (.reg false [O1 1 (.box 57) 0, K1 2 .mv (.bool false)]) (.seq (.reg false [O1 3 (.fld 0) 1, O1 4 .load1 3, K2 5 (.bin .lss) 4 (iV 0), O1 6 .mv 5, G1 7 (.fld 0) 1 6 false, G1 8 .load1 7 6 false, GK 9 (.bin .geq) 8 (iV 256) 6 false, ⟨(some 10), .pick, [(.t 6), (.k (.bool true)), (.t 9)], none⟩, O1 11 .mv 10, G1 12 (.fld 1) 1 11 false, G1 13 .load1 12 11 false, GK 14 (.bin .lss) 13 (iV (-1)) 11 false, ⟨(some 15), .pick, [(.t 11), (.k (.bool true)), (.t 14)], none⟩, O1 16 .mv 15, G1 17 (.fld 1) 1 16 false, G1 18 .load1 17 16 false, GK 19 (.bin .gtr) 18 (iV 1024) 16 false, ⟨(some 20), .pick, [(.t 16), (.k (.bool true)), (.t 19)], none⟩, O1 2 .mv 20]) .ret)), [(.s 2)]⟩
theorem x31_ok : xfn Tryz.prog Tryz.f31 = some x31.er := by kernel_rfl
def x48L0 : XC := (.seq (.reg false [O2 9 (.bin .lss) 8 7]) (.seq (.cond (.t 9) .skip (.exit 0)) (.seq (.block 1 (.seq (.reg false [O1 10 .mv 8, O1 5 .mv 10]) (.seq (.reg false [O1 11 .mv 1, O1 12 .mv 0, O1 13 .mv 5, O2 14 (.ixS 2) 12 13, O1 15 (.loadN 2) 14, O2 16 .callv 11 15]) (.cond (.t 16) (.seq (.reg false [O1 17 .mv 5, O1 4 .mv 17]) .ret) .skip)))) (.reg false [K2 18 (.bin .add) 8 (iV 1), O1 8 .mv 18]))))
def x48 : XFn := ⟨19, (.seq (.reg false [K1 4 .mv (iV 0)]) (.seq (.seq (.reg false [O1 6 .mv 0, O1 7 .lenS 6, K1 8 .mv (iV 0)]) (.block 0 (.loop x48L0))) (.seq (.reg false [K1 4 .mv (iV (-1))]) .ret))), [(.s 4)]⟩
theorem x48_ok : xfn Tryz.prog Tryz.f48 = some x48.er := by kernel_rfl
def x32 : XFn := ⟨9, (.seq (.reg false [K1 4 .mv (.bool false)]) (.seq (.reg false [O1 5 .mv 0, O1 6 .mv 1, O2 7 (.call 48) 5 6, K2 8 (.bin .geq) 7 (iV 0), O1 4 .mv 8]) .ret)), [(.s 4)]⟩
theorem x32_ok : xfn Tryz.prog Tryz.f32 = some x32.er := by kernel_rfl
def x15 : XFn := ⟨13, (.seq (.reg false [K1 2 .mv (.bool false)]) (.seq (.reg false [⟨(some 3), .mv, [(.k (.func (.func 31) #[] #[]))], none⟩]) (.seq (.reg false [O1 4 .mv 0, O1 5 .lenS 4, K2 6 (.bin .leq) 5 (iV 32), O1 7 .mv 6, G1 8 .mv 0 7 true, G1 9 .mv 3 7 true, G2 10 (.call 32) 8 9 7 true, G1 11 (.un .not) 10 7 true, ⟨(some 12), .pick, [(.t 7), (.t 11), (.k (.bool false))], none⟩, O1 2 .mv 12]) .ret))), [(.s 2)]⟩
theorem x15_ok : xfn Tryz.prog Tryz.f15 = some x15.er := by kernel_rfl
def x35 : XFn := ⟨8, (.seq (.reg false [O1 2 (.box 74) 0, K1 3 .mv (.bool false)]) (.seq (.reg false [O1 4 (.loadN 3) 1, O1 5 (.loadN 2) 2, O2 6 (.call 36) 4 5, K2 7 (.bin .eql) 6 (.int .u8 2), O1 3 .mv 7]) .ret)), [(.s 3)]⟩
theorem x35_ok : xfn Tryz.prog Tryz.f35 = some x35.er := by kernel_rfl
def x49L0 : XC := (.seq (.reg false [O2 9 (.bin .lss) 8 7]) (.seq (.cond (.t 9) .skip (.exit 0)) (.seq (.block 1 (.seq (.reg false [O1 10 .mv 8, O1 5 .mv 10]) (.seq (.reg false [O1 11 .mv 1, O1 12 .mv 0, O1 13 .mv 5, O2 14 (.ixS 2) 12 13, O1 15 (.loadN 2) 14, O2 16 .callv 11 15]) (.cond (.t 16) (.seq (.reg false [O1 17 .mv 5, O1 4 .mv 17]) .ret) .skip)))) (.reg false [K2 18 (.bin .add) 8 (iV 1), O1 8 .mv 18]))))
def x49 : XFn := ⟨19, (.seq (.reg false [K1 4 .mv (iV 0)]) (.seq (.seq (.reg false [O1 6 .mv 0, O1 7 .lenS 6, K1 8 .mv (iV 0)]) (.block 0 (.loop x49L0))) (.seq (.reg false [K1 4 .mv (iV (-1))]) .ret))), [(.s 4)]⟩
theorem x49_ok : xfn Tryz.prog Tryz.f49 = some x49.er := by kernel_rfl
def x33 : XFn := ⟨9, (.seq (.reg false [K1 4 .mv (.bool false)]) (.seq (.reg false [O1 5 .mv 0, O1 6 .mv 1, O2 7 (.call 49) 5 6, K2 8 (.bin .geq) 7 (iV 0), O1 4 .mv 8]) .ret)), [(.s 4)]⟩
theorem x33_ok : xfn Tryz.prog Tryz.f33 = some x33.er := by kernel_rfl
def x17 : XFn := ⟨33, (.seq (.reg false [O1 2 (.box 25) 0, O1 3 (.box 55) 1, K1 4 .mv (.bool false)]) (.seq (.seq (.reg false [O1 5 (.fld 0) 3, O1 6 .load1 5, K2 7 (.bin .lss) 6 (iV 0), O1 8 .mv 7, G1 9 (.fld 1) 3 8 false, G1 10 .load1 9 8 false, GK 11 (.bin .lss) 10 (iV 0) 8 false, ⟨(some 12), .pick, [(.t 8), (.k (.bool true)), (.t 11)], none⟩, O1 13 .mv 12, G1 14 (.fld 0) 3 13 false, G1 15 .load1 14 13 false, G1 16 (.fld 0) 2 13 false, G1 17 .load1 16 13 false, GK 18 (.bin .mul) 17 (iV 64) 13 false, G2 19 (.bin .gtr) 15 18 13 false, ⟨(some 20), .pick, [(.t 13), (.k (.bool true)), (.t 19)], none⟩, O1 21 .mv 20, G1 22 (.fld 1) 3 21 false, G1 23 .load1 22 21 false, G1 24 (.fld 1) 2 21 false, G1 25 .load1 24 21 false, GK 26 (.bin .mul) 25 (iV 64) 21 false, G2 27 (.bin .gtr) 23 26 21 false, ⟨(some 28), .pick, [(.t 21), (.k (.bool true)), (.t 27)], none⟩]) (.cond (.t 28) (.seq (.reg false [K1 4 .mv (.bool true)]) .ret) .skip)) (.seq (.reg false [O1 29 (.loadN 2) 3, O1 30 (.call 34) 29, ⟨(some 31), (.x (.mkf 35)), [(.t 2)], none⟩, O2 32 (.call 33) 30 31, O1 4 .mv 32]) .ret))), [(.s 4)]⟩
theorem x17_ok : xfn Tryz.prog Tryz.f17 = some x17.er := by kernel_rfl
/-- wayfinder/particle.scanned$1 -/
def g31 : Con := fun args_ E_ nn_ => match args_ with
  | [.a [.v (.int .i64 b_Mark), .v (.int .i64 b_Reading)]] => some (.q (True) (.o (.c (.v (.bool (wrongC ⟨b_Mark, b_Reading⟩))))))
  | _ => none
theorem c31 : COk Tryz.prog 31 g31 := by
  refine cok_q Tryz.func31 x31_ok (by kernel_rfl) (cok_tab cok_nil) ?_
  intro args_ E_ nn_ cr_ hg_
  unfold g31 at hg_
  split at hg_
  · rename_i b_Mark b_Reading
    cases hg_
    refine ⟨_, _, rfl, 0, [], [.a [.v (.int .i64 b_Mark), .v (.int .i64 b_Reading)]], [], .o (.c (.v (.bool (wrongC ⟨b_Mark, b_Reading⟩)))), rfl, rfl, by simp only [push_cast, Nat.reduceLT, Nat.reduceAdd], by simp only [push_cast, Nat.reduceLT, Nat.reduceAdd], by simp only [push_cast, Nat.reduceLT, Nat.reduceAdd], rfl, trivial, rfl, ?_⟩
    intro hpre hlen
    refine ⟨trivial, ?_⟩
    simp (config := {maxSteps := 10000000}) only [x31, push_cast, Nat.reduceAdd, Nat.reduceSub, Nat.reduceLeDiff, Nat.reduceEqDiff, Nat.reduceBEq, Nat.reduceMul, Nat.reduceLT, reduceIte, reduceCtorEq, Int.reduceLE, Int.reduceLT, Int.reduceEq, Int.reduceMul, Int.reduceAdd, Int.reduceSub, Int.reduceNeg, Int.reduceToNat, Int.reduceNe]
    unfold wrongC beamB
    rw [Bool.eq_iff_iff]
    simp
    omega
  · cases hg_
/-- slices.IndexFunc[[]wayfinder/api.Beam,wayfinder/api.Beam] -/
def g48 : Con := fun args_ E_ nn_ => match args_ with
  | [.c (.n s), .c (.v (.func (.func 31) f_a f_b))] => (match rowOf E_ s with
    | some (s_n, s_s, s_f) => some (.q (isRow eC s_n s_s s_f ∧ f_a = #[] ∧ f_b = #[]) (.o (.c (.v (.int .i64 (ixOf wrongC (decL eC s_n s_f)))))))
    | none => none)
  | _ => none
theorem c48 : COk Tryz.prog 48 g48 := by
  refine cok_q Tryz.func48 x48_ok (by kernel_rfl) (cok_tab (cok_cons c31 cok_nil)) ?_
  intro args_ E_ nn_ cr_ hg_
  unfold g48 at hg_
  split at hg_
  · rename_i s f_a f_b
    split at hg_
    · rename_i s_n s_s s_f h_s
      cases hg_
      refine ⟨_, _, rfl, 1, [s], [.c (.n 0), .c (.v (.func (.func 31) f_a f_b))], [(0, .ro (decL eC s_n s_f).length eC.sz (rowF eC (decL eC s_n s_f)))], .o (.c (.v (.int .i64 (ixOf wrongC (decL eC s_n s_f))))), rfl, rfl, by simp only [push_cast, Nat.reduceLT, Nat.reduceAdd], by simp only [push_cast, Nat.reduceLT, Nat.reduceAdd], by simp only [push_cast, Nat.reduceLT, Nat.reduceAdd], rfl, ⟨inE0_row h_s, trivial⟩, rfl, ?_⟩
      intro hpre hlen
      obtain ⟨i_s, hpre⟩ := hpre
      refine ⟨⟨inE_row h_s i_s, trivial⟩, ?_⟩
      have z_s := lens_row (E := eC) hlen h_s
      clear i_s
      generalize decL eC s_n s_f = sL at *
      clear h_s
      obtain ⟨rfl, rfl⟩ := hpre
      simp (config := {maxSteps := 10000000}) only [x48, push_cast, Nat.reduceAdd, Nat.reduceSub, Nat.reduceLeDiff, Nat.reduceEqDiff, Nat.reduceBEq, Nat.reduceMul, Nat.reduceLT, reduceIte, reduceCtorEq, Int.reduceLE, Int.reduceLT, Int.reduceEq, Int.reduceMul, Int.reduceAdd, Int.reduceSub, Int.reduceNeg, Int.reduceToNat, Int.reduceNe, g31]
      refine vcLoop_upd (α := {k : Nat // k ≤ sL.length ∧ ∀ i, i < k → wrongC (sL.getD i eC.dflt) = false}) [0, 1, 7] 0 (fun s => [(8, .o (.c (.v (.int .i64 (s.1 : Nat)))))]) (fun s => []) (fun s => sL.length - s.1) ⟨0, by omega, fun i hi => by omega⟩ ?_ ?_
      · simp only [push_cast, Nat.reduceAdd, Nat.reduceSub, Nat.reduceLeDiff, Nat.reduceEqDiff, Nat.reduceBEq, Nat.reduceMul, Nat.reduceLT, reduceIte, reduceCtorEq, Int.reduceLE, Int.reduceLT, Int.reduceEq, Int.reduceMul, Int.reduceAdd, Int.reduceSub, Int.reduceNeg, Int.reduceToNat, Int.reduceNe, g31]
      · rintro ⟨k, hk, hall⟩
        simp only [x48L0, push_cast, Nat.reduceAdd, Nat.reduceSub, Nat.reduceLeDiff, Nat.reduceEqDiff, Nat.reduceBEq, Nat.reduceMul, Nat.reduceLT, reduceIte, reduceCtorEq, Int.reduceLE, Int.reduceLT, Int.reduceEq, Int.reduceMul, Int.reduceAdd, Int.reduceSub, Int.reduceNeg, Int.reduceToNat, Int.reduceNe, g31]
        refine ⟨fun hlt => ⟨hlt, hlt, fun hw => (ixOf_some hlt hall hw).symm, fun hw => ?_⟩, fun hn => ?_⟩
        · exact ⟨⟨k + 1, by omega, fun i hi => by
            by_cases h : i = k
            · subst h; exact hw
            · exact hall i (by omega)⟩, wrapI (by omega) (by omega), by simp only; omega⟩
        · exact (ixOf_none (fun i hi => hall i (by omega))).symm
    · cases hg_
  · cases hg_
/-- slices.ContainsFunc[[]wayfinder/api.Beam,wayfinder/api.Beam] -/
def g32 : Con := fun args_ E_ nn_ => match args_ with
  | [.c (.n s), .c (.v (.func (.func 31) f_a f_b))] => (match rowOf E_ s with
    | some (s_n, s_s, s_f) => some (.q (isRow eC s_n s_s s_f ∧ f_a = #[] ∧ f_b = #[]) (.o (.c (.v (.bool (((decL eC s_n s_f)).any wrongC))))))
    | none => none)
  | _ => none
theorem c32 : COk Tryz.prog 32 g32 := by
  refine cok_q Tryz.func32 x32_ok (by kernel_rfl) (cok_tab (cok_cons c48 cok_nil)) ?_
  intro args_ E_ nn_ cr_ hg_
  unfold g32 at hg_
  split at hg_
  · rename_i s f_a f_b
    split at hg_
    · rename_i s_n s_s s_f h_s
      cases hg_
      refine ⟨_, _, rfl, 1, [s], [.c (.n 0), .c (.v (.func (.func 31) f_a f_b))], [(0, .ro (decL eC s_n s_f).length eC.sz (rowF eC (decL eC s_n s_f)))], .o (.c (.v (.bool (((decL eC s_n s_f)).any wrongC)))), rfl, rfl, by simp only [push_cast, Nat.reduceLT, Nat.reduceAdd], by simp only [push_cast, Nat.reduceLT, Nat.reduceAdd], by simp only [push_cast, Nat.reduceLT, Nat.reduceAdd], rfl, ⟨inE0_row h_s, trivial⟩, rfl, ?_⟩
      intro hpre hlen
      obtain ⟨i_s, hpre⟩ := hpre
      refine ⟨⟨inE_row h_s i_s, trivial⟩, ?_⟩
      have z_s := lens_row (E := eC) hlen h_s
      clear i_s
      generalize decL eC s_n s_f = sL at *
      clear h_s
      obtain ⟨rfl, rfl⟩ := hpre
      simp (config := {maxSteps := 10000000}) only [x32, push_cast, Nat.reduceAdd, Nat.reduceSub, Nat.reduceLeDiff, Nat.reduceEqDiff, Nat.reduceBEq, Nat.reduceMul, Nat.reduceLT, reduceIte, reduceCtorEq, Int.reduceLE, Int.reduceLT, Int.reduceEq, Int.reduceMul, Int.reduceAdd, Int.reduceSub, Int.reduceNeg, Int.reduceToNat, Int.reduceNe, g48]
      exact ixOf_any wrongC sL
    · cases hg_
  · cases hg_
/-- wayfinder/particle.scanned -/
def g15 : Con := fun args_ E_ nn_ => match args_ with
  | [.c (.n s)] => (match rowOf E_ s with
    | some (s_n, s_s, s_f) => some (.q (isRow eC s_n s_s s_f ∧ True) (.o (.c (.v (.bool (scanB (decL eC s_n s_f)))))))
    | none => none)
  | _ => none
theorem c15 : COk Tryz.prog 15 g15 := by
  refine cok_q Tryz.func15 x15_ok (by kernel_rfl) (cok_tab (cok_cons c32 cok_nil)) ?_
  intro args_ E_ nn_ cr_ hg_
  unfold g15 at hg_
  split at hg_
  · rename_i s
    split at hg_
    · rename_i s_n s_s s_f h_s
      cases hg_
      refine ⟨_, _, rfl, 1, [s], [.c (.n 0)], [(0, .ro (decL eC s_n s_f).length eC.sz (rowF eC (decL eC s_n s_f)))], .o (.c (.v (.bool (scanB (decL eC s_n s_f))))), rfl, rfl, by simp only [push_cast, Nat.reduceLT, Nat.reduceAdd], by simp only [push_cast, Nat.reduceLT, Nat.reduceAdd], by simp only [push_cast, Nat.reduceLT, Nat.reduceAdd], rfl, ⟨inE0_row h_s, trivial⟩, rfl, ?_⟩
      intro hpre hlen
      obtain ⟨i_s, hpre⟩ := hpre
      refine ⟨⟨inE_row h_s i_s, trivial⟩, ?_⟩
      have z_s := lens_row (E := eC) hlen h_s
      clear i_s
      generalize decL eC s_n s_f = sL at *
      clear h_s
      simp (config := {maxSteps := 10000000}) only [x15, push_cast, Nat.reduceAdd, Nat.reduceSub, Nat.reduceLeDiff, Nat.reduceEqDiff, Nat.reduceBEq, Nat.reduceMul, Nat.reduceLT, reduceIte, reduceCtorEq, Int.reduceLE, Int.reduceLT, Int.reduceEq, Int.reduceMul, Int.reduceAdd, Int.reduceSub, Int.reduceNeg, Int.reduceToNat, Int.reduceNe, g32]
      rw [scan_any]
      congr 1
      exact decide_eq_decide.2 (by omega)
    · cases hg_
  · cases hg_
/-- wayfinder/particle.blocked$1 -/
def g35 : Con := fun args_ E_ nn_ => match args_ with
  | [.a [.v (.int .i64 c_X), .v (.int .i64 c_Y)], .c (.p p 0)] => (match E_ p with
    | some (.box [.v (.int .i64 p_W), .v (.int .i64 p_H), .n p_Cells] p_ty) => (match rowOf E_ p_Cells with
    | some (p_Cells_n, p_Cells_s, p_Cells_f) => some (.q (isRow eU8 p_Cells_n p_Cells_s p_Cells_f ∧ True) (.o (.c (.v (.bool (decide (atB p_W p_H (decL eU8 p_Cells_n p_Cells_f) c_X c_Y = 2)))))))
    | none => none)
    | _ => none)
  | _ => none
theorem c35 : COk Tryz.prog 35 g35 := by
  refine cok_r Tryz.func35 x35_ok (by kernel_rfl) (cok_tab (cok_cons c36 cok_nil)) ?_
  intro args_ E_ nn_ cr_ hg_
  unfold g35 at hg_
  split at hg_
  · rename_i c_X c_Y p
    split at hg_
    · rename_i p_W p_H p_Cells p_ty h_p
      split at hg_
      · rename_i p_Cells_n p_Cells_s p_Cells_f h_p_Cells
        cases hg_
        refine ⟨_, _, rfl, 2, [p, p_Cells], [.a [.v (.int .i64 c_X), .v (.int .i64 c_Y)], .c (.p 0 0)], [(0, .box [.v (.int .i64 p_W), .v (.int .i64 p_H), .n 1] p_ty), (1, .ro (decL eU8 p_Cells_n p_Cells_f).length eU8.sz (rowF eU8 (decL eU8 p_Cells_n p_Cells_f)))], .o (.c (.v (.bool (decide (atB p_W p_H (decL eU8 p_Cells_n p_Cells_f) c_X c_Y = 2))))), rfl, rfl, by simp only [push_cast, Nat.reduceLT, Nat.reduceAdd], by simp only [push_cast, Nat.reduceLT, Nat.reduceAdd], by simp only [push_cast, Nat.reduceLT, Nat.reduceAdd], rfl, ⟨⟨_, h_p⟩, inE0_row h_p_Cells, trivial⟩, rfl, ?_⟩
        intro hpre hlen
        obtain ⟨i_p_Cells, hpre⟩ := hpre
        have hap : apartE (sg 2 nn_ [p, p_Cells]) [(0, .box [.v (.int .i64 p_W), .v (.int .i64 p_H), .n 1] p_ty), (1, .ro (decL eU8 p_Cells_n p_Cells_f).length eU8.sz (rowF eU8 (decL eU8 p_Cells_n p_Cells_f)))] [(0, .box [.v (.int .i64 p_W), .v (.int .i64 p_H), .n 1] p_ty), (1, .ro (decL eU8 p_Cells_n p_Cells_f).length eU8.sz (rowF eU8 (decL eU8 p_Cells_n p_Cells_f)))] := by
          refine ⟨fun _ k2 e2 hm hne => ?_, ?_⟩
          · simp only [List.mem_cons, List.not_mem_nil, or_false, Prod.mk.injEq] at hm
            rcases hm with ⟨rfl, _⟩ | ⟨rfl, _⟩
            · exact absurd rfl hne
            · exact fun hh => by
                have hh2 : p_Cells = p := hh
                have hh3 := h_p_Cells
                rw [hh2] at hh3; unfold rowOf at hh3; rw [h_p] at hh3; cases hh3
          refine ⟨fun h => by (cases h), ?_⟩
          trivial
        refine ⟨⟨⟨_, h_p, by simp only [leE, mapEq, SC.ren, and_true, true_and, and_self] <;> rfl⟩, inE_row h_p_Cells i_p_Cells, trivial⟩, hap, ?_⟩
        have z_p_Cells := lens_row (E := eU8) hlen h_p_Cells
        clear i_p_Cells
        generalize decL eU8 p_Cells_n p_Cells_f = p_CellsL at *
        clear h_p_Cells
        simp (config := {maxSteps := 10000000}) only [x35, push_cast, Nat.reduceAdd, Nat.reduceSub, Nat.reduceLeDiff, Nat.reduceEqDiff, Nat.reduceBEq, Nat.reduceMul, Nat.reduceLT, reduceIte, reduceCtorEq, Int.reduceLE, Int.reduceLT, Int.reduceEq, Int.reduceMul, Int.reduceAdd, Int.reduceSub, Int.reduceNeg, Int.reduceToNat, Int.reduceNe, g36]
        rfl
      · cases hg_
    · cases hg_
  · cases hg_
/-- slices.IndexFunc[[]wayfinder/api.Cell,wayfinder/api.Cell] -/
def g49 : Con := fun args_ E_ nn_ => match args_ with
  | [.c (.n s), .c (.f 35 [.p p 0])] => (match rowOf E_ s with
    | some (s_n, s_s, s_f) => (match E_ p with
    | some (.box [.v (.int .i64 p_W), .v (.int .i64 p_H), .n p_Cells] p_ty) => (match rowOf E_ p_Cells with
    | some (p_Cells_n, p_Cells_s, p_Cells_f) => some (.q (isRow eC s_n s_s s_f ∧ isRow eU8 p_Cells_n p_Cells_s p_Cells_f ∧ True) (.o (.c (.v (.int .i64 (ixOf (fun c => decide (atB p_W p_H (decL eU8 p_Cells_n p_Cells_f) c.X c.Y = 2)) (decL eC s_n s_f)))))))
    | none => none)
    | _ => none)
    | none => none)
  | _ => none
theorem c49 : COk Tryz.prog 49 g49 := by
  refine cok_r Tryz.func49 x49_ok (by kernel_rfl) (cok_tab (cok_cons c35 cok_nil)) ?_
  intro args_ E_ nn_ cr_ hg_
  unfold g49 at hg_
  split at hg_
  · rename_i s p
    split at hg_
    · rename_i s_n s_s s_f h_s
      split at hg_
      · rename_i p_W p_H p_Cells p_ty h_p
        split at hg_
        · rename_i p_Cells_n p_Cells_s p_Cells_f h_p_Cells
          cases hg_
          refine ⟨_, _, rfl, 3, [s, p, p_Cells], [.c (.n 0), .c (.f 35 [.p 1 0])], [(0, .ro (decL eC s_n s_f).length eC.sz (rowF eC (decL eC s_n s_f))), (1, .box [.v (.int .i64 p_W), .v (.int .i64 p_H), .n 2] p_ty), (2, .ro (decL eU8 p_Cells_n p_Cells_f).length eU8.sz (rowF eU8 (decL eU8 p_Cells_n p_Cells_f)))], .o (.c (.v (.int .i64 (ixOf (fun c => decide (atB p_W p_H (decL eU8 p_Cells_n p_Cells_f) c.X c.Y = 2)) (decL eC s_n s_f))))), rfl, rfl, by simp only [push_cast, Nat.reduceLT, Nat.reduceAdd], by simp only [push_cast, Nat.reduceLT, Nat.reduceAdd], by simp only [push_cast, Nat.reduceLT, Nat.reduceAdd], rfl, ⟨inE0_row h_s, ⟨_, h_p⟩, inE0_row h_p_Cells, trivial⟩, rfl, ?_⟩
          intro hpre hlen
          obtain ⟨i_s, hpre⟩ := hpre
          obtain ⟨i_p_Cells, hpre⟩ := hpre
          have hap : apartE (sg 3 nn_ [s, p, p_Cells]) [(0, .ro (decL eC s_n s_f).length eC.sz (rowF eC (decL eC s_n s_f))), (1, .box [.v (.int .i64 p_W), .v (.int .i64 p_H), .n 2] p_ty), (2, .ro (decL eU8 p_Cells_n p_Cells_f).length eU8.sz (rowF eU8 (decL eU8 p_Cells_n p_Cells_f)))] [(0, .ro (decL eC s_n s_f).length eC.sz (rowF eC (decL eC s_n s_f))), (1, .box [.v (.int .i64 p_W), .v (.int .i64 p_H), .n 2] p_ty), (2, .ro (decL eU8 p_Cells_n p_Cells_f).length eU8.sz (rowF eU8 (decL eU8 p_Cells_n p_Cells_f)))] := by
            refine ⟨fun h => by (cases h), ?_⟩
            refine ⟨fun _ k2 e2 hm hne => ?_, ?_⟩
            · simp only [List.mem_cons, List.not_mem_nil, or_false, Prod.mk.injEq] at hm
              rcases hm with ⟨rfl, _⟩ | ⟨rfl, _⟩ | ⟨rfl, _⟩
              · exact fun hh => by
                  have hh2 : s = p := hh
                  have hh3 := h_s
                  rw [hh2] at hh3; unfold rowOf at hh3; rw [h_p] at hh3; cases hh3
              · exact absurd rfl hne
              · exact fun hh => by
                  have hh2 : p_Cells = p := hh
                  have hh3 := h_p_Cells
                  rw [hh2] at hh3; unfold rowOf at hh3; rw [h_p] at hh3; cases hh3
            refine ⟨fun h => by (cases h), ?_⟩
            trivial
          refine ⟨⟨inE_row h_s i_s, ⟨_, h_p, by simp only [leE, mapEq, SC.ren, and_true, true_and, and_self] <;> rfl⟩, inE_row h_p_Cells i_p_Cells, trivial⟩, hap, ?_⟩
          have z_s := lens_row (E := eC) hlen h_s
          have z_p_Cells := lens_row (E := eU8) hlen h_p_Cells
          clear i_s
          generalize decL eC s_n s_f = sL at *
          clear i_p_Cells
          generalize decL eU8 p_Cells_n p_Cells_f = p_CellsL at *
          clear h_s
          clear h_p_Cells
          simp (config := {maxSteps := 10000000}) only [x49, push_cast, Nat.reduceAdd, Nat.reduceSub, Nat.reduceLeDiff, Nat.reduceEqDiff, Nat.reduceBEq, Nat.reduceMul, Nat.reduceLT, reduceIte, reduceCtorEq, Int.reduceLE, Int.reduceLT, Int.reduceEq, Int.reduceMul, Int.reduceAdd, Int.reduceSub, Int.reduceNeg, Int.reduceToNat, Int.reduceNe, g35]
          refine vcLoop_upd (α := {k : Nat // k ≤ sL.length ∧ ∀ i, i < k → decide (atB p_W p_H p_CellsL (sL.getD i eC.dflt).X (sL.getD i eC.dflt).Y = 2) = false}) [0, 1, 7] 0 (fun s => [(8, .o (.c (.v (.int .i64 (s.1 : Nat)))))]) (fun s => []) (fun s => sL.length - s.1) ⟨0, by omega, fun i hi => by omega⟩ ?_ ?_
          · simp only [push_cast, Nat.reduceAdd, Nat.reduceSub, Nat.reduceLeDiff, Nat.reduceEqDiff, Nat.reduceBEq, Nat.reduceMul, Nat.reduceLT, reduceIte, reduceCtorEq, Int.reduceLE, Int.reduceLT, Int.reduceEq, Int.reduceMul, Int.reduceAdd, Int.reduceSub, Int.reduceNeg, Int.reduceToNat, Int.reduceNe, g35]
          rintro ⟨k, hk, hall⟩
          simp only [x49L0, push_cast, Nat.reduceAdd, Nat.reduceSub, Nat.reduceLeDiff, Nat.reduceEqDiff, Nat.reduceBEq, Nat.reduceMul, Nat.reduceLT, reduceIte, reduceCtorEq, Int.reduceLE, Int.reduceLT, Int.reduceEq, Int.reduceMul, Int.reduceAdd, Int.reduceSub, Int.reduceNeg, Int.reduceToNat, Int.reduceNe, g35]
          refine ⟨fun hlt => ⟨hlt, hlt, fun hw => (ixOf_some (p := (fun c => decide (atB p_W p_H p_CellsL c.X c.Y = 2))) (d := eC.dflt) hlt hall (decide_eq_true hw)).symm, fun hw => ⟨⟨k + 1, by omega, fun i hi => by
                by_cases h : i = k
                · subst h; exact decide_eq_false hw
                · exact hall i (by omega)⟩, wrapI (by omega) (by omega), by simp only; omega⟩⟩, fun hn => ?_⟩
          exact (ixOf_none (p := (fun c => decide (atB p_W p_H p_CellsL c.X c.Y = 2))) (d := eC.dflt) (fun i hi => hall i (by omega))).symm
        · cases hg_
      · cases hg_
    · cases hg_
  · cases hg_
/-- slices.ContainsFunc[[]wayfinder/api.Cell,wayfinder/api.Cell] -/
def g33 : Con := fun args_ E_ nn_ => match args_ with
  | [.c (.n s), .c (.f 35 [.p p 0])] => (match rowOf E_ s with
    | some (s_n, s_s, s_f) => (match E_ p with
    | some (.box [.v (.int .i64 p_W), .v (.int .i64 p_H), .n p_Cells] p_ty) => (match rowOf E_ p_Cells with
    | some (p_Cells_n, p_Cells_s, p_Cells_f) => some (.q (isRow eC s_n s_s s_f ∧ isRow eU8 p_Cells_n p_Cells_s p_Cells_f ∧ True) (.o (.c (.v (.bool (((decL eC s_n s_f)).any (fun c => decide (atB p_W p_H (decL eU8 p_Cells_n p_Cells_f) c.X c.Y = 2))))))))
    | none => none)
    | _ => none)
    | none => none)
  | _ => none
theorem c33 : COk Tryz.prog 33 g33 := by
  refine cok_r Tryz.func33 x33_ok (by kernel_rfl) (cok_tab (cok_cons c49 cok_nil)) ?_
  intro args_ E_ nn_ cr_ hg_
  unfold g33 at hg_
  split at hg_
  · rename_i s p
    split at hg_
    · rename_i s_n s_s s_f h_s
      split at hg_
      · rename_i p_W p_H p_Cells p_ty h_p
        split at hg_
        · rename_i p_Cells_n p_Cells_s p_Cells_f h_p_Cells
          cases hg_
          refine ⟨_, _, rfl, 3, [s, p, p_Cells], [.c (.n 0), .c (.f 35 [.p 1 0])], [(0, .ro (decL eC s_n s_f).length eC.sz (rowF eC (decL eC s_n s_f))), (1, .box [.v (.int .i64 p_W), .v (.int .i64 p_H), .n 2] p_ty), (2, .ro (decL eU8 p_Cells_n p_Cells_f).length eU8.sz (rowF eU8 (decL eU8 p_Cells_n p_Cells_f)))], .o (.c (.v (.bool (((decL eC s_n s_f)).any (fun c => decide (atB p_W p_H (decL eU8 p_Cells_n p_Cells_f) c.X c.Y = 2)))))), rfl, rfl, by simp only [push_cast, Nat.reduceLT, Nat.reduceAdd], by simp only [push_cast, Nat.reduceLT, Nat.reduceAdd], by simp only [push_cast, Nat.reduceLT, Nat.reduceAdd], rfl, ⟨inE0_row h_s, ⟨_, h_p⟩, inE0_row h_p_Cells, trivial⟩, rfl, ?_⟩
          intro hpre hlen
          obtain ⟨i_s, hpre⟩ := hpre
          obtain ⟨i_p_Cells, hpre⟩ := hpre
          have hap : apartE (sg 3 nn_ [s, p, p_Cells]) [(0, .ro (decL eC s_n s_f).length eC.sz (rowF eC (decL eC s_n s_f))), (1, .box [.v (.int .i64 p_W), .v (.int .i64 p_H), .n 2] p_ty), (2, .ro (decL eU8 p_Cells_n p_Cells_f).length eU8.sz (rowF eU8 (decL eU8 p_Cells_n p_Cells_f)))] [(0, .ro (decL eC s_n s_f).length eC.sz (rowF eC (decL eC s_n s_f))), (1, .box [.v (.int .i64 p_W), .v (.int .i64 p_H), .n 2] p_ty), (2, .ro (decL eU8 p_Cells_n p_Cells_f).length eU8.sz (rowF eU8 (decL eU8 p_Cells_n p_Cells_f)))] := by
            refine ⟨fun h => by (cases h), ?_⟩
            refine ⟨fun _ k2 e2 hm hne => ?_, ?_⟩
            · simp only [List.mem_cons, List.not_mem_nil, or_false, Prod.mk.injEq] at hm
              rcases hm with ⟨rfl, _⟩ | ⟨rfl, _⟩ | ⟨rfl, _⟩
              · exact fun hh => by
                  have hh2 : s = p := hh
                  have hh3 := h_s
                  rw [hh2] at hh3; unfold rowOf at hh3; rw [h_p] at hh3; cases hh3
              · exact absurd rfl hne
              · exact fun hh => by
                  have hh2 : p_Cells = p := hh
                  have hh3 := h_p_Cells
                  rw [hh2] at hh3; unfold rowOf at hh3; rw [h_p] at hh3; cases hh3
            refine ⟨fun h => by (cases h), ?_⟩
            trivial
          refine ⟨⟨inE_row h_s i_s, ⟨_, h_p, by simp only [leE, mapEq, SC.ren, and_true, true_and, and_self] <;> rfl⟩, inE_row h_p_Cells i_p_Cells, trivial⟩, hap, ?_⟩
          have z_s := lens_row (E := eC) hlen h_s
          have z_p_Cells := lens_row (E := eU8) hlen h_p_Cells
          clear i_s
          generalize decL eC s_n s_f = sL at *
          clear i_p_Cells
          generalize decL eU8 p_Cells_n p_Cells_f = p_CellsL at *
          clear h_s
          clear h_p_Cells
          simp (config := {maxSteps := 10000000}) only [x33, push_cast, Nat.reduceAdd, Nat.reduceSub, Nat.reduceLeDiff, Nat.reduceEqDiff, Nat.reduceBEq, Nat.reduceMul, Nat.reduceLT, reduceIte, reduceCtorEq, Int.reduceLE, Int.reduceLT, Int.reduceEq, Int.reduceMul, Int.reduceAdd, Int.reduceSub, Int.reduceNeg, Int.reduceToNat, Int.reduceNe, g49]
          exact ixOf_any (fun c => decide (atB p_W p_H p_CellsL c.X c.Y = 2)) sL
        · cases hg_
      · cases hg_
    · cases hg_
  · cases hg_
/-- wayfinder/particle.blocked -/
def g17 : Con := fun args_ E_ nn_ => match args_ with
  | [.a [.v (.int .i64 p_W), .v (.int .i64 p_H), .n p_Cells], .a [.v (.int .i64 at_X), .v (.int .i64 at_Y)]] => (match rowOf E_ p_Cells with
    | some (p_Cells_n, p_Cells_s, p_Cells_f) => some (.q (isRow eU8 p_Cells_n p_Cells_s p_Cells_f ∧ planB p_W p_H (decL eU8 p_Cells_n p_Cells_f) = true) (.o (.c (.v (.bool (blkP p_W p_H (decL eU8 p_Cells_n p_Cells_f) at_X at_Y))))))
    | none => none)
  | _ => none
theorem c17 : COk Tryz.prog 17 g17 := by
  refine cok_q Tryz.func17 x17_ok (by kernel_rfl) (cok_tab (cok_cons c34 (cok_cons c33 cok_nil))) ?_
  intro args_ E_ nn_ cr_ hg_
  unfold g17 at hg_
  split at hg_
  · rename_i p_W p_H p_Cells at_X at_Y
    split at hg_
    · rename_i p_Cells_n p_Cells_s p_Cells_f h_p_Cells
      cases hg_
      refine ⟨_, _, rfl, 1, [p_Cells], [.a [.v (.int .i64 p_W), .v (.int .i64 p_H), .n 0], .a [.v (.int .i64 at_X), .v (.int .i64 at_Y)]], [(0, .ro (decL eU8 p_Cells_n p_Cells_f).length eU8.sz (rowF eU8 (decL eU8 p_Cells_n p_Cells_f)))], .o (.c (.v (.bool (blkP p_W p_H (decL eU8 p_Cells_n p_Cells_f) at_X at_Y)))), rfl, rfl, by simp only [push_cast, Nat.reduceLT, Nat.reduceAdd], by simp only [push_cast, Nat.reduceLT, Nat.reduceAdd], by simp only [push_cast, Nat.reduceLT, Nat.reduceAdd], rfl, ⟨inE0_row h_p_Cells, trivial⟩, rfl, ?_⟩
      intro hpre hlen
      obtain ⟨i_p_Cells, hpre⟩ := hpre
      refine ⟨⟨inE_row h_p_Cells i_p_Cells, trivial⟩, ?_⟩
      have z_p_Cells := lens_row (E := eU8) hlen h_p_Cells
      clear i_p_Cells
      generalize decL eU8 p_Cells_n p_Cells_f = p_CellsL at *
      clear h_p_Cells
      simp (config := {maxSteps := 10000000}) only [x17, push_cast, Nat.reduceAdd, Nat.reduceSub, Nat.reduceLeDiff, Nat.reduceEqDiff, Nat.reduceBEq, Nat.reduceMul, Nat.reduceLT, reduceIte, reduceCtorEq, Int.reduceLE, Int.reduceLT, Int.reduceEq, Int.reduceMul, Int.reduceAdd, Int.reduceSub, Int.reduceNeg, Int.reduceToNat, Int.reduceNe, g34, g33]
      have pp := planB_at hpre
      rw [wrapI (n := p_W * 64) (by omega) (by omega), wrapI (n := p_H * 64) (by omega) (by omega)]
      unfold blkP
      refine ⟨fun h => ?_, fun h1 h2 h3 h4 => ?_⟩
      · rw [decide_eq_true (by omega)]; rfl
      · rw [decide_eq_false (by omega), Bool.false_or]
    · cases hg_
  · cases hg_
end Go.Proofs.YtibahioojjligaaGreat
set_option linter.unusedVariables false
set_option linter.unusedSimpArgs false
set_option maxRecDepth 20000
namespace Go.Proofs.YtibahioojjligaaGreat
open Go.Sx Go.Way
/-- How many of the first beams fit a pose. -/
def cntS (W H : Int) (L : List Int) (x y h rng : Int) (S : List CC) : Nat → Int
  | 0 => 0
  | k + 1 => cntS W H L x y h rng S k + (if plausB W H L x y h (S.getD k eC.dflt).X (S.getD k eC.dflt).Y rng = true then 1 else 0)
theorem cntS_bd (W H : Int) (L : List Int) (x y h rng : Int) (S : List CC) : ∀ k, 0 ≤ cntS W H L x y h rng S k ∧ cntS W H L x y h rng S k ≤ k
  | 0 => by simp [cntS]
  | k + 1 => by
    have := cntS_bd W H L x y h rng S k
    unfold cntS
    split <;> omega
def wghW (W H : Int) (L : List Int) (rng : Int) (S : List CC) (p : PP) : Int :=
  if blkP W H L p.X p.Y = true then 0 else (1 + cntS W H L p.X p.Y p.H rng S S.length) * (1 + cntS W H L p.X p.Y p.H rng S S.length)
def wghP (W H : Int) (L : List Int) (rng : Int) (S : List CC) (p : PP) : PP := { p with W := wghW W H L rng S p }
def wghR (W H : Int) (L : List Int) (rng : Int) (S : List CC) (A : List PP) (i : Nat) : List PP :=
  (List.range A.length).map fun k => if k < i then wghP W H L rng S (A.getD k eP.dflt) else A.getD k eP.dflt
theorem wghR_len (W H : Int) (L : List Int) (rng : Int) (S : List CC) (A : List PP) (i : Nat) : (wghR W H L rng S A i).length = A.length := by simp [wghR]
def wghE (W H : Int) (L : List Int) (rng : Int) (S : List CC) (A : List PP) : Int :=
  if validL A = true ∧ planB W H L = true ∧ scanB S = true ∧ 1 ≤ rng ∧ rng ≤ 32 then 0 else 1
def wghL (W H : Int) (L : List Int) (rng : Int) (S : List CC) (A : List PP) : List PP :=
  if wghE W H L rng S A = 0 then wghR W H L rng S A A.length else []
theorem wghR_zero (W H : Int) (L : List Int) (rng : Int) (S : List CC) (A : List PP) : wghR W H L rng S A 0 = A := by
  apply List.ext_getElem
  · simp [wghR]
  · intro i h1 h2
    simp only [wghR, List.getElem_map, List.getElem_range, Nat.not_lt_zero, if_false]
    rw [List.getD_eq_getElem?_getD, List.getElem?_eq_getElem h2]; rfl
theorem wghR_at {W H : Int} {L : List Int} {rng : Int} {S : List CC} {A : List PP} {i k : Nat} (h : k < A.length) : (wghR W H L rng S A i).getD k eP.dflt = if k < i then wghP W H L rng S (A.getD k eP.dflt) else A.getD k eP.dflt := by
  unfold wghR
  rw [List.getD_eq_getElem?_getD, List.getElem?_map, List.getElem?_range h]; rfl
theorem wghR_succ {W H : Int} {L : List Int} {rng : Int} {S : List CC} {A : List PP} {k : Nat} (h : k < A.length) : wghR W H L rng S A (k + 1) = (wghR W H L rng S A k).set k (wghP W H L rng S (A.getD k eP.dflt)) := by
  apply List.ext_getElem
  · simp [wghR]
  · intro i h1 h2
    simp only [wghR, List.getElem_map, List.getElem_range, List.getElem_set]
    by_cases e : k = i
    · subst e; simp
    · simp only [e, if_false]
      by_cases g : i < k
      · simp [g, show i < k + 1 by omega]
      · simp [g, show ¬ i < k + 1 by omega]
theorem up_w {A : List PP} {k : Nat} (v : Int) (h : k < A.length) : updF (rowF eP A) k 3 [SC.v (.int .i64 v)] = rowF eP (A.set k { A.getD k eP.dflt with W := v }) :=
  updF_row (E := eP) (L := A) (e0 := k) (j0 := 3) (x := { A.getD k eP.dflt with W := v }) (cs := [SC.v (.int .i64 v)]) h rfl (by simp [eP])
theorem any_no {L : List PP} {k : Nat} (h : k < L.length) (hw : wrongP (L.getD k eP.dflt) = true) : L.any wrongP = true := by
  rw [List.any_eq_true]
  have hg : L.getD k eP.dflt = L[k] := by rw [List.getD_eq_getElem?_getD, List.getElem?_eq_getElem h]; rfl
  exact ⟨L[k], List.getElem_mem h, by rw [← hg]; exact hw⟩
theorem any_yes {L : List PP} (hw : ∀ i, i < L.length → wrongP (L.getD i eP.dflt) = false) : L.any wrongP = false := by
  rw [List.any_eq_false]
  intro x hx
  obtain ⟨i, hi, rfl⟩ := List.getElem_of_mem hx
  have hg : L.getD i eP.dflt = L[i] := by rw [List.getD_eq_getElem?_getD, List.getElem?_eq_getElem hi]; rfl
  rw [← hg, hw i hi]
  exact Bool.false_ne_true
def x16 : XFn := ⟨8, (.seq (.reg false [K1 2 .mv (.slice none 0 0)]) (.seq (.seq (.reg false [O1 3 .mv 0, O1 4 (.isnil false) 3]) (.cond (.t 4) (.seq (.reg false [K1 2 .mv (.slice none 0 0)]) .ret) .skip)) (.seq (.reg false [⟨(some 5), (.slit 39 0 4 [] []), [], none⟩, O1 6 .mv 0, O2 7 (.app 39 4 32) 5 6, O1 2 .mv 7]) .ret))), [(.s 2)]⟩
theorem x16_ok : xfn Tryz.prog Tryz.f16 = some x16.er := by kernel_rfl
def x6L0 : XC := (.seq (.reg false [O2 62 (.bin .lss) 61 60]) (.seq (.cond (.t 62) .skip (.exit 2)) (.seq (.block 3 (.seq (.reg false [O2 63 (.ixS 2) 59 61, O1 64 (.loadN 2) 63, ⟨(some 15), (.alloc 57 [(iV 0), (iV 0)]), [], none⟩, ⟨none, (.store 2), [(.t 15), (.t 64)], none⟩]) (.seq (.reg false [O1 65 (.loadN 3) 5, O1 66 (.fld 0) 12, O1 67 (.loadN 3) 66, O1 68 (.loadN 2) 15, O1 69 .mv 3, ⟨(some 70), (.call 18), [(.t 65), (.t 67), (.t 68), (.t 69)], none⟩]) (.cond (.t 70) (.reg false [O1 71 .mv 13, K2 72 (.bin .add) 71 (iV 1), O1 13 .mv 72]) .skip)))) (.reg false [K2 73 (.bin .add) 61 (iV 1), O1 61 .mv 73]))))
def x6L1 : XC := (.seq (.reg false [O2 42 (.bin .lss) 41 40]) (.seq (.cond (.t 42) .skip (.exit 0)) (.seq (.block 1 (.seq (.reg false [O1 43 .mv 41, O2 44 (.ixS 4) 39 41, O1 45 (.loadN 4) 44, ⟨(some 12), (.alloc 39 [(iV 0), (iV 0), (iV 0), (iV 0)]), [], none⟩, O1 11 .mv 43, ⟨none, (.store 4), [(.t 12), (.t 45)], none⟩]) (.seq (.reg false [O1 46 .mv 10, O1 47 .mv 11, O2 48 (.ixS 4) 46 47, O1 49 (.fld 3) 48, ⟨none, (.store 1), [(.t 49), (.k (iV 0))], none⟩]) (.seq (.seq (.reg false [O1 50 (.loadN 3) 5, O1 51 (.fld 0) 12, O1 52 (.fld 0) 51, O1 53 .load1 52, O1 54 (.fld 0) 12, O1 55 (.fld 1) 54, O1 56 .load1 55, ⟨(some 57), (.build [(iV 0), (iV 0)] [(0, 1), (1, 1)]), [(.t 53), (.t 56)], none⟩, O2 58 (.call 17) 50 57]) (.cond (.t 58) (.exit 1) .skip)) (.seq (.reg false [K1 13 .mv (iV 1)]) (.seq (.seq (.reg false [O1 59 .mv 2, O1 60 .lenS 59, K1 61 .mv (iV 0)]) (.block 2 (.loop x6L0))) (.reg false [O1 74 .mv 10, O1 75 .mv 11, O1 76 .mv 13, O1 77 .mv 13, O2 78 (.bin .mul) 76 77, O2 79 (.ixS 4) 74 75, O1 80 (.fld 3) 79, ⟨none, (.store 1), [(.t 80), (.t 78)], none⟩]))))))) (.reg false [K2 81 (.bin .add) 41 (iV 1), O1 41 .mv 81]))))
def x6 : XFn := ⟨83, (.seq (.reg false [O1 5 (.box 25) 1, K1 8 .mv (.slice none 0 0), K1 9 .mv (iV 0)]) (.seq (.seq (.reg false [O1 16 .mv 0, O1 17 (.call 13) 16, O1 18 (.un .not) 17, O1 19 .mv 18, G1 20 (.loadN 3) 5 19 false, G1 21 (.call 14) 20 19 false, G1 22 (.un .not) 21 19 false, ⟨(some 23), .pick, [(.t 19), (.k (.bool true)), (.t 22)], none⟩, O1 24 .mv 23, G1 25 .mv 2 24 false, G1 26 (.call 15) 25 24 false, G1 27 (.un .not) 26 24 false, ⟨(some 28), .pick, [(.t 24), (.k (.bool true)), (.t 27)], none⟩, O1 29 .mv 28, G1 30 .mv 3 29 false, GK 31 (.bin .lss) 30 (iV 1) 29 false, ⟨(some 32), .pick, [(.t 29), (.k (.bool true)), (.t 31)], none⟩, O1 33 .mv 32, G1 34 .mv 3 33 false, GK 35 (.bin .gtr) 34 (iV 32) 33 false, ⟨(some 36), .pick, [(.t 33), (.k (.bool true)), (.t 35)], none⟩]) (.cond (.t 36) (.seq (.reg false [K1 8 .mv (.slice none 0 0), K1 9 .mv (iV 1)]) .ret) .skip)) (.seq (.reg false [O1 37 .mv 0, O1 38 (.call 16) 37, O1 10 .mv 38]) (.seq (.seq (.reg false [O1 39 .mv 10, O1 40 .lenS 39, K1 41 .mv (iV 0)]) (.block 0 (.loop x6L1))) (.seq (.reg false [O1 82 .mv 10, O1 8 .mv 82, K1 9 .mv (iV 0)]) .ret))))), [(.s 8), (.s 9)]⟩
theorem x6_ok : xfn Tryz.prog Tryz.f6 = some x6.er := by kernel_rfl
def x19L0 : XC := (.seq (.seq (.reg false [O1 7 .mv 3, O1 8 .mv 0, O1 9 .lenS 8, O2 10 (.bin .lss) 7 9]) (.cond (.t 10) .skip (.exit 0))) (.seq (.block 1 (.seq (.reg false [O1 13 .mv 0, O1 14 .mv 3, O2 15 (.ixS 4) 13 14, O1 16 (.fld 0) 15, O1 17 (.loadN 3) 16, O1 18 (.call 41) 17, O1 19 (.un .not) 18, O1 20 .mv 19, G1 21 .mv 0 20 false, G1 22 .mv 3 20 false, G2 23 (.ixS 4) 21 22 20 false, G1 24 (.fld 3) 23 20 false, G1 25 .load1 24 20 false, GK 26 (.bin .lss) 25 (iV 0) 20 false, ⟨(some 27), .pick, [(.t 20), (.k (.bool true)), (.t 26)], none⟩, O1 28 .mv 27, G1 29 .mv 0 28 false, G1 30 .mv 3 28 false, G2 31 (.ixS 4) 29 30 28 false, G1 32 (.fld 3) 31 28 false, G1 33 .load1 32 28 false, GK 34 (.bin .gtr) 33 (iV 1048576) 28 false, ⟨(some 35), .pick, [(.t 28), (.k (.bool true)), (.t 34)], none⟩]) (.cond (.t 35) (.seq (.reg false [K1 2 .mv (.bool false)]) .ret) .skip))) (.reg false [O1 11 .mv 3, K2 12 (.bin .add) 11 (iV 1), O1 3 .mv 12])))
def x19 : XFn := ⟨36, (.seq (.reg false [K1 2 .mv (.bool false)]) (.seq (.seq (.reg false [O1 4 .mv 0, O1 5 .lenS 4, K2 6 (.bin .gtr) 5 (iV 1024)]) (.cond (.t 6) (.seq (.reg false [K1 2 .mv (.bool false)]) .ret) .skip)) (.seq (.seq (.reg false [K1 3 .mv (iV 0)]) (.block 0 (.loop x19L0))) (.seq (.reg false [K1 2 .mv (.bool true)]) .ret)))), [(.s 2)]⟩
theorem x19_ok : xfn Tryz.prog Tryz.f19 = some x19.er := by kernel_rfl
def x5 : XFn := ⟨14, (.seq (.reg false [O1 1 (.box 28) 0, K1 2 .mv (.bool false)]) (.seq (.reg false [O1 3 (.fld 0) 1, O1 4 (.fld 2) 3, O1 5 .load1 4, O1 6 .lenS 5, K2 7 (.bin .leq) 6 (iV 64), O1 8 .mv 7, G1 9 (.fld 3) 1 8 true, G1 10 .load1 9 8 true, G1 11 .lenS 10 8 true, GK 12 (.bin .leq) 11 (iV 4) 8 true, ⟨(some 13), .pick, [(.t 8), (.t 12), (.k (.bool false))], none⟩, O1 2 .mv 13]) .ret)), [(.s 2)]⟩
theorem x5_ok : xfn Tryz.prog Tryz.f5 = some x5.er := by kernel_rfl
/-- slices.Clone[[]wayfinder/api.Particle,wayfinder/api.Particle] -/
def g16 : Con := fun args_ E_ nn_ => match args_ with
  | [.c (.n s)] => (match rowOf E_ s with
    | some (s_n, s_s, s_f) => some (.e (isRow eP s_n s_s s_f ∧ ((decL eP s_n s_f)).length ≤ 1000000) (.o (.c (.n (nn_ + 0)))) [((nn_ + 0), .own ((decL eP s_n s_f)).length 4 (rowF eP ((decL eP s_n s_f))) 39)] (nn_ + 1))
    | none => none)
  | _ => none
theorem c16 : COk Tryz.prog 16 g16 := by
  refine cok_e Tryz.func16 x16_ok (by kernel_rfl) (cok_tab cok_nil) ?_
  intro args_ E_ nn_ cr_ hg_
  unfold g16 at hg_
  split at hg_
  · rename_i s
    split at hg_
    · rename_i s_n s_s s_f h_s
      cases hg_
      refine ⟨_, _, _, _, rfl, 1, [s], [.c (.n 0)], [(0, .ro (decL eP s_n s_f).length eP.sz (rowF eP (decL eP s_n s_f)))], .o (.c (.n 1)), [(1, .own ((decL eP s_n s_f)).length 4 (rowF eP ((decL eP s_n s_f))) 39)], 2, rfl, rfl, by simp only [renE, Ent.ren, rowF_renf] <;> rfl, rfl, by decide, by simp only [push_cast, Nat.reduceLT, Nat.reduceAdd], by simp only [push_cast, Nat.reduceLT, Nat.reduceAdd], by simp only [push_cast, Nat.reduceLT, Nat.reduceAdd], by simp only [push_cast, Nat.reduceLT, Nat.reduceAdd], rfl, ⟨inE0_row h_s, trivial⟩, by simp only [keysNodup, outN, keys] <;> decide, rfl, rfl, ?_⟩
      intro hpre hlen
      obtain ⟨i_s, hpre⟩ := hpre
      refine ⟨⟨inE_row h_s i_s, trivial⟩, by simp only [apartE] <;> (first | trivial | (simp [Ent.mut]; done)), ?_⟩
      have z_s := lens_row (E := eP) hlen h_s
      clear i_s
      generalize decL eP s_n s_f = sL at *
      clear h_s
      simp (config := {maxSteps := 10000000}) only [x16, push_cast, Nat.reduceAdd, Nat.reduceSub, Nat.reduceLeDiff, Nat.reduceEqDiff, Nat.reduceBEq, Nat.reduceMul, Nat.reduceLT, reduceIte, reduceCtorEq, Int.reduceLE, Int.reduceLT, Int.reduceEq, Int.reduceMul, Int.reduceAdd, Int.reduceSub, Int.reduceNeg, Int.reduceToNat, Int.reduceNe]
      intro b hb
      refine ⟨hb, fun h => ⟨by omega, fun e j he hj => ?_⟩⟩
      rw [rowF_sub]
      show (if e < 0 then _ else rowF eP sL (e - 0) j) = _
      rw [if_neg (Nat.not_lt_zero e)]
      rfl
    · cases hg_
  · cases hg_
/-- wayfinder/wayfinderref21.Valid -/
def g19 : Con := fun args_ E_ nn_ => match args_ with
  | [.c (.n l)] => (match rowOf E_ l with
    | some (l_n, l_s, l_f) => some (.q (isRow eP l_n l_s l_f ∧ True) (.o (.c (.v (.bool (validL (decL eP l_n l_f)))))))
    | none => none)
  | _ => none
theorem c19 : COk Tryz.prog 19 g19 := by
  refine cok_q Tryz.func19 x19_ok (by kernel_rfl) (cok_tab (cok_cons c41 cok_nil)) ?_
  intro args_ E_ nn_ cr_ hg_
  unfold g19 at hg_
  split at hg_
  · rename_i l
    split at hg_
    · rename_i l_n l_s l_f h_l
      cases hg_
      refine ⟨_, _, rfl, 1, [l], [.c (.n 0)], [(0, .ro (decL eP l_n l_f).length eP.sz (rowF eP (decL eP l_n l_f)))], .o (.c (.v (.bool (validL (decL eP l_n l_f))))), rfl, rfl, by simp only [push_cast, Nat.reduceLT, Nat.reduceAdd], by simp only [push_cast, Nat.reduceLT, Nat.reduceAdd], by simp only [push_cast, Nat.reduceLT, Nat.reduceAdd], rfl, ⟨inE0_row h_l, trivial⟩, rfl, ?_⟩
      intro hpre hlen
      obtain ⟨i_l, hpre⟩ := hpre
      refine ⟨⟨inE_row h_l i_l, trivial⟩, ?_⟩
      have z_l := lens_row (E := eP) hlen h_l
      clear i_l
      generalize decL eP l_n l_f = lL at *
      clear h_l
      simp (config := {maxSteps := 10000000}) only [x19, push_cast, Nat.reduceAdd, Nat.reduceSub, Nat.reduceLeDiff, Nat.reduceEqDiff, Nat.reduceBEq, Nat.reduceMul, Nat.reduceLT, reduceIte, reduceCtorEq, Int.reduceLE, Int.reduceLT, Int.reduceEq, Int.reduceMul, Int.reduceAdd, Int.reduceSub, Int.reduceNeg, Int.reduceToNat, Int.reduceNe, g41]
      refine ⟨fun h => ?_, fun h => ?_⟩
      · unfold validL; rw [decide_eq_false (by omega)]; rfl
      refine vcLoop_upd (α := {k : Nat // k ≤ lL.length ∧ ∀ i, i < k → wrongP (lL.getD i eP.dflt) = false}) [0] 0 (fun s => [(3, .o (.c (.v (.int .i64 (s.1 : Nat)))))]) (fun s => []) (fun s => lL.length - s.1) ⟨0, by omega, fun i hi => by omega⟩ ?_ ?_
      · simp only [push_cast, Nat.reduceAdd, Nat.reduceSub, Nat.reduceLeDiff, Nat.reduceEqDiff, Nat.reduceBEq, Nat.reduceMul, Nat.reduceLT, reduceIte, reduceCtorEq, Int.reduceLE, Int.reduceLT, Int.reduceEq, Int.reduceMul, Int.reduceAdd, Int.reduceSub, Int.reduceNeg, Int.reduceToNat, Int.reduceNe, g41]
      · rintro ⟨k, hk, hall⟩
        simp only [x19L0, push_cast, Nat.reduceAdd, Nat.reduceSub, Nat.reduceLeDiff, Nat.reduceEqDiff, Nat.reduceBEq, Nat.reduceMul, Nat.reduceLT, reduceIte, reduceCtorEq, Int.reduceLE, Int.reduceLT, Int.reduceEq, Int.reduceMul, Int.reduceAdd, Int.reduceSub, Int.reduceNeg, Int.reduceToNat, Int.reduceNe, g41]
        refine ⟨fun hlt => ⟨hlt, hlt, by omega, by omega, by omega, by omega, fun hb => ?_, fun b1 b2 b3 b4 b5 b6 b7 b8 => ?_⟩, fun hn => ?_⟩
        · have hw : wrongP (lL.getD k eP.dflt) = true := by
            unfold wrongP posedB
            rw [Bool.not_eq_true', Bool.and_eq_false_iff, decide_eq_false_iff_not, decide_eq_false_iff_not]
            omega
          unfold validL
          rw [any_no hlt hw, Bool.not_true, Bool.and_false]
        · have hw : wrongP (lL.getD k eP.dflt) = false := by
            unfold wrongP posedB
            rw [Bool.not_eq_false', Bool.and_eq_true, decide_eq_true_eq, decide_eq_true_eq]
            omega
          exact ⟨⟨k + 1, by omega, fun i hi => by
            by_cases g : i = k
            · subst g; exact hw
            · exact hall i (by omega)⟩, wrapI (by omega) (by omega), by simp only; omega⟩
        · unfold validL
          rw [any_yes (fun i hi => hall i (by omega)), decide_eq_true (by omega)]
          rfl
    · cases hg_
  · cases hg_
/-- wayfinder/wayfinderlaw21.light -/
def g5 : Con := fun args_ E_ nn_ => match args_ with
  | [.a [.v (.int .i64 x_Plan_W), .v (.int .i64 x_Plan_H), .n x_Plan_Cells, .n x_Scan, .v (.int .i64 x_Rng)]] => (match rowOf E_ x_Plan_Cells with
    | some (x_Plan_Cells_n, x_Plan_Cells_s, x_Plan_Cells_f) => (match rowOf E_ x_Scan with
    | some (x_Scan_n, x_Scan_s, x_Scan_f) => some (.q (isRow eU8 x_Plan_Cells_n x_Plan_Cells_s x_Plan_Cells_f ∧ isRow eC x_Scan_n x_Scan_s x_Scan_f ∧ True) (.o (.c (.v (.bool (decide (((decL eU8 x_Plan_Cells_n x_Plan_Cells_f)).length ≤ 64) && decide (((decL eC x_Scan_n x_Scan_f)).length ≤ 4)))))))
    | none => none)
    | none => none)
  | _ => none
theorem c5 : COk Tryz.prog 5 g5 := by
  refine cok_q Tryz.func5 x5_ok (by kernel_rfl) (cok_tab cok_nil) ?_
  intro args_ E_ nn_ cr_ hg_
  unfold g5 at hg_
  split at hg_
  · rename_i x_Plan_W x_Plan_H x_Plan_Cells x_Scan x_Rng
    split at hg_
    · rename_i x_Plan_Cells_n x_Plan_Cells_s x_Plan_Cells_f h_x_Plan_Cells
      split at hg_
      · rename_i x_Scan_n x_Scan_s x_Scan_f h_x_Scan
        cases hg_
        refine ⟨_, _, rfl, 2, [x_Plan_Cells, x_Scan], [.a [.v (.int .i64 x_Plan_W), .v (.int .i64 x_Plan_H), .n 0, .n 1, .v (.int .i64 x_Rng)]], [(0, .ro (decL eU8 x_Plan_Cells_n x_Plan_Cells_f).length eU8.sz (rowF eU8 (decL eU8 x_Plan_Cells_n x_Plan_Cells_f))), (1, .ro (decL eC x_Scan_n x_Scan_f).length eC.sz (rowF eC (decL eC x_Scan_n x_Scan_f)))], .o (.c (.v (.bool (decide (((decL eU8 x_Plan_Cells_n x_Plan_Cells_f)).length ≤ 64) && decide (((decL eC x_Scan_n x_Scan_f)).length ≤ 4))))), rfl, rfl, by simp only [push_cast, Nat.reduceLT, Nat.reduceAdd], by simp only [push_cast, Nat.reduceLT, Nat.reduceAdd], by simp only [push_cast, Nat.reduceLT, Nat.reduceAdd], rfl, ⟨inE0_row h_x_Plan_Cells, inE0_row h_x_Scan, trivial⟩, rfl, ?_⟩
        intro hpre hlen
        obtain ⟨i_x_Plan_Cells, hpre⟩ := hpre
        obtain ⟨i_x_Scan, hpre⟩ := hpre
        refine ⟨⟨inE_row h_x_Plan_Cells i_x_Plan_Cells, inE_row h_x_Scan i_x_Scan, trivial⟩, ?_⟩
        have z_x_Plan_Cells := lens_row (E := eU8) hlen h_x_Plan_Cells
        have z_x_Scan := lens_row (E := eC) hlen h_x_Scan
        clear i_x_Plan_Cells
        generalize decL eU8 x_Plan_Cells_n x_Plan_Cells_f = x_Plan_CellsL at *
        clear i_x_Scan
        generalize decL eC x_Scan_n x_Scan_f = x_ScanL at *
        clear h_x_Plan_Cells
        clear h_x_Scan
        simp (config := {maxSteps := 10000000}) only [x5, push_cast, Nat.reduceAdd, Nat.reduceSub, Nat.reduceLeDiff, Nat.reduceEqDiff, Nat.reduceBEq, Nat.reduceMul, Nat.reduceLT, reduceIte, reduceCtorEq, Int.reduceLE, Int.reduceLT, Int.reduceEq, Int.reduceMul, Int.reduceAdd, Int.reduceSub, Int.reduceNeg, Int.reduceToNat, Int.reduceNe]
        rw [decide_eq_decide.2 (by omega : ((x_Plan_CellsL.length : Int) ≤ 64 ↔ x_Plan_CellsL.length ≤ 64)), decide_eq_decide.2 (by omega : ((x_ScanL.length : Int) ≤ 4 ↔ x_ScanL.length ≤ 4))]
      · cases hg_
    · cases hg_
  · cases hg_
/-- wayfinder/particle.Weigh -/
def g6 : Con := fun args_ E_ nn_ => match args_ with
  | [.c (.n l), .a [.v (.int .i64 p_W), .v (.int .i64 p_H), .n p_Cells], .c (.n s), .c (.v (.int .i64 rng))] => (match rowOf E_ l with
    | some (l_n, l_s, l_f) => (match rowOf E_ p_Cells with
    | some (p_Cells_n, p_Cells_s, p_Cells_f) => (match rowOf E_ s with
    | some (s_n, s_s, s_f) => some (.e (isRow eP l_n l_s l_f ∧ isRow eU8 p_Cells_n p_Cells_s p_Cells_f ∧ isRow eC s_n s_s s_f ∧ True) (.t [.c (.n (nn_ + 0)), .c (.v (.int .i64 (wghE p_W p_H (decL eU8 p_Cells_n p_Cells_f) rng (decL eC s_n s_f) (decL eP l_n l_f))))]) [((nn_ + 0), .own (wghL p_W p_H (decL eU8 p_Cells_n p_Cells_f) rng (decL eC s_n s_f) (decL eP l_n l_f)).length 4 (rowF eP (wghL p_W p_H (decL eU8 p_Cells_n p_Cells_f) rng (decL eC s_n s_f) (decL eP l_n l_f))) 39)] (nn_ + 1))
    | none => none)
    | none => none)
    | none => none)
  | _ => none
set_option maxHeartbeats 1000000 in
theorem c6 : COk Tryz.prog 6 g6 := by
  refine cok_e Tryz.func6 x6_ok (by kernel_rfl) (cok_tab (cok_cons c13 (cok_cons c14 (cok_cons c15 (cok_cons c16 (cok_cons c17 (cok_cons c18 cok_nil))))))) ?_
  intro args_ E_ nn_ cr_ hg_
  unfold g6 at hg_
  split at hg_
  · rename_i l p_W p_H p_Cells s rng
    split at hg_
    · rename_i l_n l_s l_f h_l
      split at hg_
      · rename_i p_Cells_n p_Cells_s p_Cells_f h_p_Cells
        split at hg_
        · rename_i s_n s_s s_f h_s
          cases hg_
          refine ⟨_, _, _, _, rfl, 3, [l, p_Cells, s], [.c (.n 0), .a [.v (.int .i64 p_W), .v (.int .i64 p_H), .n 1], .c (.n 2), .c (.v (.int .i64 rng))], [(0, .ro (decL eP l_n l_f).length eP.sz (rowF eP (decL eP l_n l_f))), (1, .ro (decL eU8 p_Cells_n p_Cells_f).length eU8.sz (rowF eU8 (decL eU8 p_Cells_n p_Cells_f))), (2, .ro (decL eC s_n s_f).length eC.sz (rowF eC (decL eC s_n s_f)))], .t [.c (.n 3), .c (.v (.int .i64 (wghE p_W p_H (decL eU8 p_Cells_n p_Cells_f) rng (decL eC s_n s_f) (decL eP l_n l_f))))], [(3, .own (wghL p_W p_H (decL eU8 p_Cells_n p_Cells_f) rng (decL eC s_n s_f) (decL eP l_n l_f)).length 4 (rowF eP (wghL p_W p_H (decL eU8 p_Cells_n p_Cells_f) rng (decL eC s_n s_f) (decL eP l_n l_f))) 39)], 4, rfl, rfl, by simp only [renE, Ent.ren, rowF_renf] <;> rfl, rfl, by decide, by simp only [push_cast, Nat.reduceLT, Nat.reduceAdd], by simp only [push_cast, Nat.reduceLT, Nat.reduceAdd], by simp only [push_cast, Nat.reduceLT, Nat.reduceAdd], by simp only [push_cast, Nat.reduceLT, Nat.reduceAdd], rfl, ⟨inE0_row h_l, inE0_row h_p_Cells, inE0_row h_s, trivial⟩, by simp only [keysNodup, outN, keys] <;> decide, rfl, rfl, ?_⟩
          intro hpre hlen
          obtain ⟨i_l, hpre⟩ := hpre
          obtain ⟨i_p_Cells, hpre⟩ := hpre
          obtain ⟨i_s, hpre⟩ := hpre
          refine ⟨⟨inE_row h_l i_l, inE_row h_p_Cells i_p_Cells, inE_row h_s i_s, trivial⟩, by simp only [apartE] <;> (first | trivial | (simp [Ent.mut]; done)), ?_⟩
          have z_l := lens_row (E := eP) hlen h_l
          have z_p_Cells := lens_row (E := eU8) hlen h_p_Cells
          have z_s := lens_row (E := eC) hlen h_s
          clear i_l
          generalize decL eP l_n l_f = lL at *
          clear i_p_Cells
          generalize decL eU8 p_Cells_n p_Cells_f = p_CellsL at *
          clear i_s
          generalize decL eC s_n s_f = sL at *
          clear h_l
          clear h_p_Cells
          clear h_s
          simp (config := {maxSteps := 10000000}) only [x6, push_cast, Nat.reduceAdd, Nat.reduceSub, Nat.reduceLeDiff, Nat.reduceEqDiff, Nat.reduceBEq, Nat.reduceMul, Nat.reduceLT, reduceIte, reduceCtorEq, Int.reduceLE, Int.reduceLT, Int.reduceEq, Int.reduceMul, Int.reduceAdd, Int.reduceSub, Int.reduceNeg, Int.reduceToNat, Int.reduceNe, g13, g14, g15, g16, g17, g18]
          refine ⟨fun h => ?_, fun a1 a2 a3 a4 a5 => ?_⟩
          · have e : wghE p_W p_H p_CellsL rng sL lL = 1 := by
              unfold wghE
              rw [if_neg (by
                rintro ⟨h1, h2, h3, h4, h5⟩
                rw [h1, h2, h3] at h
                simp only [Bool.true_eq_false, false_or] at h
                omega)]
            unfold wghL
            rw [e]; exact ⟨rfl, rfl⟩
          have e : wghE p_W p_H p_CellsL rng sL lL = 0 := by unfold wghE; rw [if_pos ⟨a1, a2, a3, by omega, by omega⟩]
          have eL : wghL p_W p_H p_CellsL rng sL lL = wghR p_W p_H p_CellsL rng sL lL lL.length := by unfold wghL; rw [if_pos e]
          rw [e, eL]
          have hl := valid_len a1
          refine ⟨by omega, ?_⟩
          refine vcLoop_upd (α := {k : Nat // k ≤ lL.length}) [2, 3, 5, 10, 39, 40] 0 (fun s => [(41, .o (.c (.v (.int .i64 (s.1 : Nat)))))]) (fun s => [(4, .own (wghR p_W p_H p_CellsL rng sL lL s.1).length 4 (rowF eP (wghR p_W p_H p_CellsL rng sL lL s.1)) 39)]) (fun s => lL.length - s.1) ⟨0, Nat.zero_le _⟩ ?_ ?_
          · simp only [push_cast, Nat.reduceAdd, Nat.reduceSub, Nat.reduceLeDiff, Nat.reduceEqDiff, Nat.reduceBEq, Nat.reduceMul, Nat.reduceLT, reduceIte, reduceCtorEq, Int.reduceLE, Int.reduceLT, Int.reduceEq, Int.reduceMul, Int.reduceAdd, Int.reduceSub, Int.reduceNeg, Int.reduceToNat, Int.reduceNe, g13, g14, g15, g16, g17, g18, wghR_len, wghR_zero]
          · rintro ⟨k, hk⟩
            simp only [x6L1, push_cast, Nat.reduceAdd, Nat.reduceSub, Nat.reduceLeDiff, Nat.reduceEqDiff, Nat.reduceBEq, Nat.reduceMul, Nat.reduceLT, reduceIte, reduceCtorEq, Int.reduceLE, Int.reduceLT, Int.reduceEq, Int.reduceMul, Int.reduceAdd, Int.reduceSub, Int.reduceNeg, Int.reduceToNat, Int.reduceNe, g13, g14, g15, g16, g17, g18, wghR_len]
            refine ⟨fun hlt => ?_, fun hn => ?_⟩
            · have g : (wghR p_W p_H p_CellsL rng sL lL k).getD k eP.dflt = lL.getD k eP.dflt := by rw [wghR_at hlt, if_neg (Nat.lt_irrefl _)]
              rw [g]
              rw [up_w 0 (by rw [wghR_len]; exact hlt), g]
              refine ⟨hlt, hlt, hlt, hlt, a2, fun hb => ⟨⟨k + 1, by omega⟩, ⟨wrapI (by omega) (by omega), ?_⟩, by simp only; omega⟩, fun hb => ?_⟩
              · have ew : wghP p_W p_H p_CellsL rng sL (lL.getD k eP.dflt) = { lL.getD k eP.dflt with W := 0 } := by unfold wghP wghW; rw [if_pos hb]
                simp only
                rw [wghR_succ hlt, ew]
                exact (rowEq_rowF _ _ _ _).2 trivial
              · refine vcLoop_upd (α := {j : Nat // j ≤ sL.length}) [2, 3, 5, 10, 11, 12, 39, 40, 41, 59, 60] 0 (fun s => [(13, .o (.c (.v (.int .i64 (1 + cntS p_W p_H p_CellsL (lL.getD k eP.dflt).X (lL.getD k eP.dflt).Y (lL.getD k eP.dflt).H rng sL s.1))))), (61, .o (.c (.v (.int .i64 (s.1 : Nat)))))]) (fun s => []) (fun s => sL.length - s.1) ⟨0, Nat.zero_le _⟩ ?_ ?_
                · simp only [push_cast, Nat.reduceAdd, Nat.reduceSub, Nat.reduceLeDiff, Nat.reduceEqDiff, Nat.reduceBEq, Nat.reduceMul, Nat.reduceLT, reduceIte, reduceCtorEq, Int.reduceLE, Int.reduceLT, Int.reduceEq, Int.reduceMul, Int.reduceAdd, Int.reduceSub, Int.reduceNeg, Int.reduceToNat, Int.reduceNe, g13, g14, g15, g16, g17, g18, cntS]
                · rintro ⟨j, hj⟩
                  simp only [x6L0, push_cast, Nat.reduceAdd, Nat.reduceSub, Nat.reduceLeDiff, Nat.reduceEqDiff, Nat.reduceBEq, Nat.reduceMul, Nat.reduceLT, reduceIte, reduceCtorEq, Int.reduceLE, Int.reduceLT, Int.reduceEq, Int.reduceMul, Int.reduceAdd, Int.reduceSub, Int.reduceNeg, Int.reduceToNat, Int.reduceNe, g13, g14, g15, g16, g17, g18]
                  have hc := cntS_bd p_W p_H p_CellsL (lL.getD k eP.dflt).X (lL.getD k eP.dflt).Y (lL.getD k eP.dflt).H rng sL j
                  have hs32 : sL.length ≤ 32 := by
                    unfold scanB at a3
                    simp only [Bool.and_eq_true, decide_eq_true_eq] at a3
                    exact a3.1
                  refine ⟨fun hj1 => ⟨hj1, hj1, fun hp => ⟨⟨j + 1, by omega⟩, ⟨?_, wrapI (by omega) (by omega)⟩, by simp only; omega⟩, fun hp => ⟨⟨j + 1, by omega⟩, ⟨?_, wrapI (by omega) (by omega)⟩, by simp only; omega⟩⟩, fun hge => ⟨hlt, hlt, ⟨k + 1, by omega⟩, ⟨wrapI (by omega) (by omega), ?_⟩, by simp only; omega⟩⟩
                  · simp only [cntS]
                    rw [if_pos hp, wrapI (by omega) (by omega)]; omega
                  · simp only [cntS]
                    rw [if_neg (by rw [hp]; exact Bool.false_ne_true)]; omega
                  · obtain rfl : j = sL.length := by omega
                    have ew : wghP p_W p_H p_CellsL rng sL (lL.getD k eP.dflt) = { lL.getD k eP.dflt with W := (1 + cntS p_W p_H p_CellsL (lL.getD k eP.dflt).X (lL.getD k eP.dflt).Y (lL.getD k eP.dflt).H rng sL sL.length) * (1 + cntS p_W p_H p_CellsL (lL.getD k eP.dflt).X (lL.getD k eP.dflt).Y (lL.getD k eP.dflt).H rng sL sL.length) } := by
                      unfold wghP wghW
                      rw [if_neg (by rw [hb]; exact Bool.false_ne_true)]
                    generalize cntS p_W p_H p_CellsL (lL.getD k eP.dflt).X (lL.getD k eP.dflt).Y (lL.getD k eP.dflt).H rng sL sL.length = c at *
                    have hm := mul_bd (a := 1 + c) (b := 1 + c) (A := 33) (B := 33) (by omega) (by omega) (by omega) (by omega)
                    have gs : ∀ x : PP, ((wghR p_W p_H p_CellsL rng sL lL k).set k x).getD k eP.dflt = x := fun x => by
                      rw [List.getD_eq_getElem?_getD, List.getElem?_set_self (by rw [wghR_len]; exact hlt)]; rfl
                    rw [up_w _ (by rw [List.length_set, wghR_len]; exact hlt), gs, wrapI (by omega) (by omega), List.set_set]
                    simp only
                    rw [wghR_succ hlt, ew]
                    exact (rowEq_rowF _ _ _ _).2 trivial
            · obtain rfl : k = lL.length := by omega
              exact (rowEq_rowF _ _ _ _).2 trivial
        · cases hg_
      · cases hg_
    · cases hg_
  · cases hg_
end Go.Proofs.YtibahioojjligaaGreat
