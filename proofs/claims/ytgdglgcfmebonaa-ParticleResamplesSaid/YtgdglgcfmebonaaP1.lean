/- Contracts. -/
import Derived.Test.YtgdglgcfmebonaaRows
import Derived.Test.YtgdglgcfmebonaaSx29
import Derived.KernelRfl
set_option linter.unusedVariables false
set_option linter.unusedSimpArgs false
set_option maxRecDepth 20000
namespace Go.Proofs.Ytgdglgcfmebonaa
open Go.Sx
structure PP where
  X : Int
  Y : Int
  H : Int
  W : Int
def eP : Enc PP where
  sz := 4
  ks := [.i .i64, .i .i64, .i .i64, .i .i64]
  wf := fun x => ((-9223372036854775808) ≤ x.X ∧ x.X ≤ 9223372036854775807) ∧ ((-9223372036854775808) ≤ x.Y ∧ x.Y ≤ 9223372036854775807) ∧ ((-9223372036854775808) ≤ x.H ∧ x.H ≤ 9223372036854775807) ∧ ((-9223372036854775808) ≤ x.W ∧ x.W ≤ 9223372036854775807)
  enc := fun x => [.v (.int .i64 x.X), .v (.int .i64 x.Y), .v (.int .i64 x.H), .v (.int .i64 x.W)]
  dec := fun f => ⟨intC (f 0), intC (f 1), intC (f 2), intC (f 3)⟩
  dflt := ⟨0, 0, 0, 0⟩
  flat := by
    intro x c hc
    simp only [List.mem_cons, List.not_mem_nil, or_false] at hc
    rcases hc with rfl | rfl | rfl | rfl <;> exact ⟨_, rfl, rfl⟩
  len := fun x => rfl
  onto := by
    intro cs h
    obtain ⟨n0, cs0, rfl, a0, b0, h0⟩ := kind_i h
    obtain ⟨n1, cs1, rfl, a1, b1, h1⟩ := kind_i h0
    obtain ⟨n2, cs2, rfl, a2, b2, h2⟩ := kind_i h1
    obtain ⟨n3, cs3, rfl, a3, b3, h3⟩ := kind_i h2
    obtain rfl := kind_n h3
    exact ⟨⟨n0, n1, n2, n3⟩, rfl, ⟨a0, b0⟩, ⟨a1, b1⟩, ⟨a2, b2⟩, ⟨a3, b3⟩⟩
  de := by
    intro x f h
    have h0 := h 0 (by decide)
    simp only [nth] at h0
    have h1 := h 1 (by decide)
    simp only [nth] at h1
    have h2 := h 2 (by decide)
    simp only [nth] at h2
    have h3 := h 3 (by decide)
    simp only [nth] at h3
    simp only [h0, h1, h2, h3, intC, boolC]
theorem eP_sz : eP.sz = 4 := rfl
theorem eP_0 (L : List PP) (e : Nat) : rowF eP L e 0 = .v (.int .i64 (L.getD e eP.dflt).X) := rfl
theorem eP_1 (L : List PP) (e : Nat) : rowF eP L e 1 = .v (.int .i64 (L.getD e eP.dflt).Y) := rfl
theorem eP_2 (L : List PP) (e : Nat) : rowF eP L e 2 = .v (.int .i64 (L.getD e eP.dflt).H) := rfl
theorem eP_3 (L : List PP) (e : Nat) : rowF eP L e 3 = .v (.int .i64 (L.getD e eP.dflt).W) := rfl
theorem eP_eta (x : PP) : PP.mk x.X x.Y x.H x.W = x := rfl
theorem eP_isRow (L : List PP) : isRow eP L.length 4 (rowF eP L) ↔ True := isRow_rowF L
def eI : Enc Int where
  sz := 1
  ks := [.i .i64]
  wf := fun x => ((-9223372036854775808) ≤ x ∧ x ≤ 9223372036854775807)
  enc := fun x => [.v (.int .i64 x)]
  dec := fun f => intC (f 0)
  dflt := 0
  flat := by
    intro x c hc
    simp only [List.mem_cons, List.not_mem_nil, or_false] at hc
    subst hc; exact ⟨_, rfl, rfl⟩
  len := fun x => rfl
  onto := by
    intro cs h
    obtain ⟨n0, cs0, rfl, a0, b0, h0⟩ := kind_i h
    obtain rfl := kind_n h0
    exact ⟨n0, rfl, ⟨a0, b0⟩⟩
  de := by
    intro x f h
    have h0 := h 0 (by decide)
    simp only [nth] at h0
    simp only [h0, intC, boolC]
theorem eI_sz : eI.sz = 1 := rfl
theorem eI_0 (L : List Int) (e : Nat) : rowF eI L e 0 = .v (.int .i64 (L.getD e eI.dflt)) := rfl
theorem eI_isRow (L : List Int) : isRow eI L.length 1 (rowF eI L) ↔ True := isRow_rowF L
def eU16 : Enc Int where
  sz := 1
  ks := [.i .u16]
  wf := fun x => (0 ≤ x ∧ x ≤ 65535)
  enc := fun x => [.v (.int .u16 x)]
  dec := fun f => intC (f 0)
  dflt := 0
  flat := by
    intro x c hc
    simp only [List.mem_cons, List.not_mem_nil, or_false] at hc
    subst hc; exact ⟨_, rfl, rfl⟩
  len := fun x => rfl
  onto := by
    intro cs h
    obtain ⟨n0, cs0, rfl, a0, b0, h0⟩ := kind_i h
    obtain rfl := kind_n h0
    exact ⟨n0, rfl, ⟨a0, b0⟩⟩
  de := by
    intro x f h
    have h0 := h 0 (by decide)
    simp only [nth] at h0
    simp only [h0, intC, boolC]
theorem eU16_sz : eU16.sz = 1 := rfl
theorem eU16_0 (L : List Int) (e : Nat) : rowF eU16 L e 0 = .v (.int .u16 (L.getD e eU16.dflt)) := rfl
theorem eU16_isRow (L : List Int) : isRow eU16 L.length 1 (rowF eU16 L) ↔ True := isRow_rowF L
def posedB (X Y H : Int) : Bool := decide (-1048576 ≤ X ∧ X ≤ 1048576 ∧ -1048576 ≤ Y ∧ Y ≤ 1048576 ∧ 0 ≤ H ∧ H < 256)
def wrongP (p : PP) : Bool := !(posedB p.X p.Y p.H && decide (0 ≤ p.W ∧ p.W ≤ 1048576))
def ixOf {α : Type} (p : α → Bool) (L : List α) : Int := match L.findIdx? p with | some i => i | none => -1
theorem ixOf_some {α : Type} {p : α → Bool} {L : List α} {d : α} {k : Nat} (hk : k < L.length) (h1 : ∀ i, i < k → p (L.getD i d) = false) (h2 : p (L.getD k d) = true) : ixOf p L = k := by
  have hg : ∀ i (h : i < L.length), L.getD i d = L[i] := fun i h => by rw [List.getD_eq_getElem?_getD, List.getElem?_eq_getElem h]; rfl
  have : L.findIdx? p = some k := by
    rw [List.findIdx?_eq_some_iff_getElem]
    refine ⟨hk, by rw [← hg k hk]; exact h2, fun j hj => ?_⟩
    have := h1 j hj
    rw [hg j (by omega)] at this
    simp [this]
  unfold ixOf; rw [this]
theorem ixOf_none {α : Type} {p : α → Bool} {L : List α} {d : α} (h1 : ∀ i, i < L.length → p (L.getD i d) = false) : ixOf p L = -1 := by
  have hg : ∀ i (h : i < L.length), L.getD i d = L[i] := fun i h => by rw [List.getD_eq_getElem?_getD, List.getElem?_eq_getElem h]; rfl
  have : L.findIdx? p = none := by
    rw [List.findIdx?_eq_none_iff]
    intro x hx
    obtain ⟨i, hi, rfl⟩ := List.getElem_of_mem hx
    have := h1 i hi
    rw [hg i hi] at this
    exact this
  unfold ixOf; rw [this]
theorem ixOf_any {α : Type} (p : α → Bool) (L : List α) : decide (0 ≤ ixOf p L) = L.any p := by
  unfold ixOf
  cases h : L.findIdx? p with
  | none =>
    rw [List.findIdx?_eq_none_iff] at h
    have : L.any p = false := by rw [List.any_eq_false]; intro x hx; simp [h x hx]
    rw [this]; rfl
  | some i =>
    rw [List.findIdx?_eq_some_iff_getElem] at h
    obtain ⟨hi, h1, _⟩ := h
    have : L.any p = true := List.any_eq_true.2 ⟨L[i], List.getElem_mem hi, h1⟩
    rw [this]
    simp
def validL (L : List PP) : Bool := decide (L.length ≤ 1024) && !L.any wrongP
/-- The first weights' sum. -/
def pre (L : List PP) : Nat → Int
  | 0 => 0
  | k + 1 => pre L k + (L.getD k eP.dflt).W
theorem pre_zero (L : List PP) : pre L 0 = 0 := rfl
def sumW (L : List PP) : Int := pre L L.length
theorem pre_all (L : List PP) : pre L L.length = sumW L := rfl
theorem pre_succ {L : List PP} {k : Nat} (h : k < L.length) : pre L (k + 1) = pre L k + (L.getD k eP.dflt).W := rfl
theorem valid_len {L : List PP} (h : validL L = true) : L.length ≤ 1024 := by
  unfold validL at h; simp only [Bool.and_eq_true, decide_eq_true_eq] at h; exact h.1
theorem valid_at {L : List PP} (h : validL L = true) {k : Nat} (hk : k < L.length) : posedB (L.getD k eP.dflt).X (L.getD k eP.dflt).Y (L.getD k eP.dflt).H = true ∧ 0 ≤ (L.getD k eP.dflt).W ∧ (L.getD k eP.dflt).W ≤ 1048576 := by
  unfold validL at h
  simp only [Bool.and_eq_true, Bool.not_eq_true', List.any_eq_false] at h
  have := h.2 _ (List.getElem_mem hk)
  have hg : L.getD k eP.dflt = L[k] := by rw [List.getD_eq_getElem?_getD, List.getElem?_eq_getElem hk]; rfl
  rw [hg]
  unfold wrongP at this
  simp only [Bool.not_eq_true, Bool.not_eq_false', Bool.and_eq_true, decide_eq_true_eq] at this
  exact this
theorem pre_bd {L : List PP} (h : validL L = true) : ∀ {k : Nat}, k ≤ L.length → 0 ≤ pre L k ∧ pre L k ≤ 1048576 * k
  | 0, _ => by simp [pre]
  | k + 1, hk => by
    have := pre_bd h (k := k) (by omega)
    have := (valid_at h (k := k) (by omega)).2
    simp only [pre]
    omega
def totalL (L : List PP) : Int := if validL L = true then sumW L else 0
def flockK (ws : List Int) (k : Nat) : List PP := (List.range k).map fun i : Nat => (⟨(i : Int), 0, 0, ws.getD i eU16.dflt⟩ : PP)
def flockL (ws : List Int) : List PP := flockK ws ws.length
theorem flockK_len (ws : List Int) (k : Nat) : (flockK ws k).length = k := by simp [flockK]
theorem flockK_succ (ws : List Int) (k : Nat) : flockK ws (k + 1) = flockK ws k ++ [⟨(k : Int), 0, 0, ws.getD k eU16.dflt⟩] := by simp [flockK, List.range_succ]
def nextS (s : Int) : Int := (s * 6364136223846793005 + 1442695040888963407) % 18446744073709551616
def drawS (s n : Int) : Int × Int := if n < 1 ∨ 2147483648 < n then (0, s) else (nextS s / 8589934592 % n, nextS s)
theorem u64_wrap (n : Int) : IntKind.u64.wrap n = n % 18446744073709551616 := by rw [IntKind.wrap_u64]
theorem nextS_bd (s : Int) : 0 ≤ nextS s ∧ nextS s < 18446744073709551616 := by unfold nextS; omega

/-! Resampling -/
/-- The first element whose running sum, n times, is above x. -/
def pickI (L : List PP) (n x : Int) : Nat := (List.range L.length).findIdx fun k => decide (x < n * pre L (k + 1))
theorem pickI_eq {L : List PP} {n x : Int} {k : Nat} (hk : k < L.length) (h1 : ∀ j, j < k → n * pre L (j + 1) ≤ x) (h2 : x < n * pre L (k + 1)) : pickI L n x = k := by
  unfold pickI
  have hk' : k < (List.range L.length).length := by simpa using hk
  rw [List.findIdx_eq hk']
  refine ⟨by simpa using h2, fun j hj => ?_⟩
  have := h1 j hj
  simp
  omega
def resK (L : List PP) (n u : Int) (i : Nat) : List PP := (List.range i).map fun i : Nat => { L.getD (pickI L n (u + i * sumW L)) eP.dflt with W := 1 }
theorem resK_len (L : List PP) (n u : Int) (i : Nat) : (resK L n u i).length = i := by simp [resK]
theorem resK_succ (L : List PP) (n u : Int) (i : Nat) : resK L n u (i + 1) = resK L n u i ++ [{ L.getD (pickI L n (u + i * sumW L)) eP.dflt with W := 1 }] := by simp [resK, List.range_succ]
def resE_ (L : List PP) (n u : Int) : Int :=
  if validL L = false then 1 else if n < 1 ∨ 1024 < n then 2 else if totalL L = 0 then 9 else if u < 0 ∨ totalL L ≤ u then 2 else 0
def resL (L : List PP) (n u : Int) : List PP := if resE_ L n u = 0 then resK L n u n.toNat else []
/-! Fractions -/
def lowF (n d : Int) : Int × Int := (n / (Int.gcd n d : Int), d / (Int.gcd n d : Int))
def measE (L : List PP) : Int := if validL L = false then 1 else if totalL L = 0 then 9 else 0
def preS (L : List PP) : Nat → Int
  | 0 => 0
  | k + 1 => preS L k + (L.getD k eP.dflt).W * (L.getD k eP.dflt).W
def effF (L : List PP) : (Int × Int) × Int := if measE L = 0 then (lowF (sumW L * sumW L) (preS L L.length), 0) else ((0, 0), measE L)
theorem gcd_max (n d : Int) : Int.gcd (max n (-n)) d = Int.gcd n d := by
  rcases Int.le_total 0 n with h | h
  · rw [Int.max_eq_left (by omega)]
  · rw [Int.max_eq_right (by omega), Int.neg_gcd]
theorem gcd_tmod {x y : Int} (h : 0 ≤ x) : Int.gcd y (x.tmod y) = Int.gcd x y := by
  rw [tmod_pos h]
  rw [Int.emod_def, Int.gcd_sub_mul_left_right, Int.gcd_comm]
theorem tdiv_dvd {a g : Int} (hg : 0 < g) (h : g ∣ a) : a.tdiv g = a / g := by
  obtain ⟨c, rfl⟩ := h
  rw [Int.mul_tdiv_cancel_left _ (by omega), Int.mul_ediv_cancel_left _ (by omega)]
theorem div_bd {a g B : Int} (hg : 0 < g) (h1 : -B ≤ a) (h2 : a ≤ B) (hB : 0 ≤ B) : -B ≤ a / g ∧ a / g ≤ B := by
  constructor
  · refine Int.le_ediv_of_mul_le hg ?_
    have : B * 1 ≤ B * g := Int.mul_le_mul_of_nonneg_left (by omega) hB
    rw [Int.neg_mul]; omega
  · refine Int.ediv_le_of_le_mul hg ?_
    have : B * 1 ≤ B * g := Int.mul_le_mul_of_nonneg_left (by omega) hB
    omega
theorem preS_zero (L : List PP) : preS L 0 = 0 := rfl
theorem preS_succ (L : List PP) (k : Nat) : preS L (k + 1) = preS L k + (L.getD k eP.dflt).W * (L.getD k eP.dflt).W := rfl
theorem sq_bd {w : Int} (h0 : 0 ≤ w) (h1 : w ≤ 1048576) : 0 ≤ w * w ∧ w * w ≤ 1099511627776 ∧ (0 < w → 0 < w * w) := by
  have a := Int.mul_nonneg h0 h0
  have b : w * w ≤ 1048576 * 1048576 := Int.mul_le_mul h1 h1 h0 (by omega)
  exact ⟨a, by omega, fun h => Int.mul_pos h h⟩
theorem preS_bd {L : List PP} (h : validL L = true) : ∀ {k : Nat}, k ≤ L.length → 0 ≤ preS L k ∧ preS L k ≤ 1099511627776 * k ∧ (0 < pre L k → 0 < preS L k)
  | 0, _ => by simp [preS, pre]
  | k + 1, hk => by
    have h1 := preS_bd h (k := k) (by omega)
    have h2 := (valid_at h (k := k) (by omega)).2
    have h3 := sq_bd h2.1 h2.2
    have h4 := pre_bd h (k := k) (by omega)
    rw [preS_succ]
    simp only [pre]
    omega
theorem pre_mono {L : List PP} (h : validL L = true) : ∀ {j k : Nat}, j ≤ k → k ≤ L.length → pre L j ≤ pre L k
  | j, 0, hj, _ => by have : j = 0 := by omega
                      subst this; exact Int.le_refl _
  | j, k + 1, hj, hk => by
    by_cases hjk : j = k + 1
    · subst hjk; exact Int.le_refl _
    · have h1 := pre_mono h (j := j) (k := k) (by omega) (by omega)
      have h2 := (valid_at h (k := k) (by omega)).2
      simp only [pre]; omega
theorem meas0 {L : List PP} (h : measE L = 0) : validL L = true ∧ sumW L ≠ 0 ∧ totalL L = sumW L := by
  unfold measE at h
  have hv : validL L = true := by cases hv : validL L <;> simp_all
  have ht : totalL L = sumW L := by unfold totalL; rw [if_pos hv]
  refine ⟨hv, fun h0 => ?_, ht⟩
  rw [ht, h0] at h
  simp [hv] at h
theorem mul_bd {a b A B : Int} (ha : 0 ≤ a) (hA : a ≤ A) (hb : 0 ≤ b) (hB : b ≤ B) : 0 ≤ a * b ∧ a * b ≤ A * B :=
  ⟨Int.mul_nonneg ha hb, Int.mul_le_mul hA hB hb (by omega)⟩
theorem sum_bd {L : List PP} (h : validL L = true) : 0 ≤ sumW L ∧ sumW L ≤ 1073741824 := by
  have h1 := pre_bd h (k := L.length) (Nat.le_refl _)
  have h2 := valid_len h
  unfold sumW; omega
def x98 : XFn := ⟨9, (.seq (.reg false [⟨(some 2), .mv, [(.k (.bool false))], none⟩]) (.seq (.reg false [⟨(some 3), .mv, [(.t 0)], none⟩, ⟨(some 4), (.bin .lss), [(.t 3), (.k (.int .i64 (-1048576)))], none⟩, ⟨(some 5), .mv, [(.t 4)], none⟩, ⟨(some 6), .mv, [(.t 0)], (some (5, false))⟩, ⟨(some 7), (.bin .gtr), [(.t 6), (.k (.int .i64 1048576))], (some (5, false))⟩, ⟨(some 8), .pick, [(.t 5), (.k (.bool true)), (.t 7)], none⟩, ⟨(some 2), .mv, [(.t 8)], none⟩]) .ret)), [(.s 2)]⟩
theorem x98_ok : xfn Try.prog Try.f98 = some x98 := by kernel_rfl
def x75 : XFn := ⟨26, (.seq (.reg false [⟨(some 1), (.box 33), [(.t 0)], none⟩, ⟨(some 2), .mv, [(.k (.bool false))], none⟩]) (.seq (.reg false [⟨(some 3), .mv, [(.k (.func (.func 98) #[] #[]))], none⟩]) (.seq (.reg false [⟨(some 4), .mv, [(.t 3)], none⟩, ⟨(some 5), (.fld 0), [(.t 1)], none⟩, ⟨(some 6), .load1, [(.t 5)], none⟩, ⟨(some 7), .callv, [(.t 4), (.t 6)], none⟩, ⟨(some 8), (.un .not), [(.t 7)], none⟩, ⟨(some 9), .mv, [(.t 8)], none⟩, ⟨(some 10), .mv, [(.t 3)], (some (9, true))⟩, ⟨(some 11), (.fld 1), [(.t 1)], (some (9, true))⟩, ⟨(some 12), .load1, [(.t 11)], (some (9, true))⟩, ⟨(some 13), .callv, [(.t 10), (.t 12)], (some (9, true))⟩, ⟨(some 14), (.un .not), [(.t 13)], (some (9, true))⟩, ⟨(some 15), .pick, [(.t 9), (.t 14), (.k (.bool false))], none⟩, ⟨(some 16), .mv, [(.t 15)], none⟩, ⟨(some 17), (.fld 2), [(.t 1)], (some (16, true))⟩, ⟨(some 18), .load1, [(.t 17)], (some (16, true))⟩, ⟨(some 19), (.bin .geq), [(.t 18), (.k (.int .i64 0))], (some (16, true))⟩, ⟨(some 20), .pick, [(.t 16), (.t 19), (.k (.bool false))], none⟩, ⟨(some 21), .mv, [(.t 20)], none⟩, ⟨(some 22), (.fld 2), [(.t 1)], (some (21, true))⟩, ⟨(some 23), .load1, [(.t 22)], (some (21, true))⟩, ⟨(some 24), (.bin .lss), [(.t 23), (.k (.int .i64 256))], (some (21, true))⟩, ⟨(some 25), .pick, [(.t 21), (.t 24), (.k (.bool false))], none⟩, ⟨(some 2), .mv, [(.t 25)], none⟩]) .ret))), [(.s 2)]⟩
theorem x75_ok : xfn Try.prog Try.f75 = some x75 := by kernel_rfl
def x74 : XFn := ⟨17, (.seq (.reg false [⟨(some 1), (.box 35), [(.t 0)], none⟩, ⟨(some 2), .mv, [(.k (.bool false))], none⟩]) (.seq (.reg false [⟨(some 3), (.fld 0), [(.t 1)], none⟩, ⟨(some 4), (.loadN 3), [(.t 3)], none⟩, ⟨(some 5), (.call 75), [(.t 4)], none⟩, ⟨(some 6), (.un .not), [(.t 5)], none⟩, ⟨(some 7), .mv, [(.t 6)], none⟩, ⟨(some 8), (.fld 3), [(.t 1)], (some (7, false))⟩, ⟨(some 9), .load1, [(.t 8)], (some (7, false))⟩, ⟨(some 10), (.bin .lss), [(.t 9), (.k (.int .i64 0))], (some (7, false))⟩, ⟨(some 11), .pick, [(.t 7), (.k (.bool true)), (.t 10)], none⟩, ⟨(some 12), .mv, [(.t 11)], none⟩, ⟨(some 13), (.fld 3), [(.t 1)], (some (12, false))⟩, ⟨(some 14), .load1, [(.t 13)], (some (12, false))⟩, ⟨(some 15), (.bin .gtr), [(.t 14), (.k (.int .i64 1048576))], (some (12, false))⟩, ⟨(some 16), .pick, [(.t 12), (.k (.bool true)), (.t 15)], none⟩, ⟨(some 2), .mv, [(.t 16)], none⟩]) .ret)), [(.s 2)]⟩
theorem x74_ok : xfn Try.prog Try.f74 = some x74 := by kernel_rfl
def x99L0 : XC := (.seq (.reg false [⟨(some 9), (.bin .lss), [(.t 8), (.t 7)], none⟩]) (.seq (.cond (.t 9) .skip (.exit 0)) (.seq (.block 1 (.seq (.reg false [⟨(some 10), .mv, [(.t 8)], none⟩, ⟨(some 5), .mv, [(.t 10)], none⟩]) (.seq (.reg false [⟨(some 11), .mv, [(.t 1)], none⟩, ⟨(some 12), .mv, [(.t 0)], none⟩, ⟨(some 13), .mv, [(.t 5)], none⟩, ⟨(some 14), (.ixS 4), [(.t 12), (.t 13)], none⟩, ⟨(some 15), (.loadN 4), [(.t 14)], none⟩, ⟨(some 16), .callv, [(.t 11), (.t 15)], none⟩]) (.cond (.t 16) (.seq (.reg false [⟨(some 17), .mv, [(.t 5)], none⟩, ⟨(some 4), .mv, [(.t 17)], none⟩]) .ret) .skip)))) (.reg false [⟨(some 18), (.bin .add), [(.t 8), (.k (.int .i64 1))], none⟩, ⟨(some 8), .mv, [(.t 18)], none⟩]))))
def x99 : XFn := ⟨19, (.seq (.reg false [⟨(some 4), .mv, [(.k (.int .i64 0))], none⟩]) (.seq (.seq (.reg false [⟨(some 6), .mv, [(.t 0)], none⟩, ⟨(some 7), .lenS, [(.t 6)], none⟩, ⟨(some 8), .mv, [(.k (.int .i64 0))], none⟩]) (.block 0 (.loop x99L0))) (.seq (.reg false [⟨(some 4), .mv, [(.k (.int .i64 (-1)))], none⟩]) .ret))), [(.s 4)]⟩
theorem x99_ok : xfn Try.prog Try.f99 = some x99 := by kernel_rfl
def x76 : XFn := ⟨9, (.seq (.reg false [⟨(some 4), .mv, [(.k (.bool false))], none⟩]) (.seq (.reg false [⟨(some 5), .mv, [(.t 0)], none⟩, ⟨(some 6), .mv, [(.t 1)], none⟩, ⟨(some 7), (.call 99), [(.t 5), (.t 6)], none⟩, ⟨(some 8), (.bin .geq), [(.t 7), (.k (.int .i64 0))], none⟩, ⟨(some 4), .mv, [(.t 8)], none⟩]) .ret)), [(.s 4)]⟩
theorem x76_ok : xfn Try.prog Try.f76 = some x76 := by kernel_rfl
def x44 : XFn := ⟨13, (.seq (.reg false [⟨(some 2), .mv, [(.k (.bool false))], none⟩]) (.seq (.reg false [⟨(some 3), .mv, [(.k (.func (.func 74) #[] #[]))], none⟩]) (.seq (.reg false [⟨(some 4), .mv, [(.t 0)], none⟩, ⟨(some 5), .lenS, [(.t 4)], none⟩, ⟨(some 6), (.bin .leq), [(.t 5), (.k (.int .i64 1024))], none⟩, ⟨(some 7), .mv, [(.t 6)], none⟩, ⟨(some 8), .mv, [(.t 0)], (some (7, true))⟩, ⟨(some 9), .mv, [(.t 3)], (some (7, true))⟩, ⟨(some 10), (.call 76), [(.t 8), (.t 9)], (some (7, true))⟩, ⟨(some 11), (.un .not), [(.t 10)], (some (7, true))⟩, ⟨(some 12), .pick, [(.t 7), (.t 11), (.k (.bool false))], none⟩, ⟨(some 2), .mv, [(.t 12)], none⟩]) .ret))), [(.s 2)]⟩
theorem x44_ok : xfn Try.prog Try.f44 = some x44 := by kernel_rfl
def x14L0 : XC := (.seq (.reg false [⟨(some 12), (.bin .lss), [(.t 11), (.t 10)], none⟩]) (.seq (.cond (.t 12) .skip (.exit 0)) (.seq (.block 1 (.seq (.reg false [⟨(some 13), (.ixS 4), [(.t 9), (.t 11)], none⟩, ⟨(some 14), (.loadN 4), [(.t 13)], none⟩, ⟨(some 5), (.alloc 35 [(.int .i64 0), (.int .i64 0), (.int .i64 0), (.int .i64 0)]), [], none⟩, ⟨none, (.store 4), [(.t 5), (.t 14)], none⟩]) (.reg false [⟨(some 15), .mv, [(.t 3)], none⟩, ⟨(some 16), (.fld 3), [(.t 5)], none⟩, ⟨(some 17), .load1, [(.t 16)], none⟩, ⟨(some 18), (.bin .add), [(.t 15), (.t 17)], none⟩, ⟨(some 3), .mv, [(.t 18)], none⟩]))) (.reg false [⟨(some 19), (.bin .add), [(.t 11), (.k (.int .i64 1))], none⟩, ⟨(some 11), .mv, [(.t 19)], none⟩]))))
def x14 : XFn := ⟨21, (.seq (.reg false [⟨(some 2), .mv, [(.k (.int .i64 0))], none⟩]) (.seq (.reg false [⟨(some 3), .mv, [(.k (.int .i64 0))], none⟩]) (.seq (.seq (.reg false [⟨(some 6), .mv, [(.t 0)], none⟩, ⟨(some 7), (.call 44), [(.t 6)], none⟩, ⟨(some 8), (.un .not), [(.t 7)], none⟩]) (.cond (.t 8) (.seq (.reg false [⟨(some 2), .mv, [(.k (.int .i64 0))], none⟩]) .ret) .skip)) (.seq (.seq (.reg false [⟨(some 9), .mv, [(.t 0)], none⟩, ⟨(some 10), .lenS, [(.t 9)], none⟩, ⟨(some 11), .mv, [(.k (.int .i64 0))], none⟩]) (.block 0 (.loop x14L0))) (.seq (.reg false [⟨(some 20), .mv, [(.t 3)], none⟩, ⟨(some 2), .mv, [(.t 20)], none⟩]) .ret))))), [(.s 2)]⟩
theorem x14_ok : xfn Try.prog Try.f14 = some x14 := by kernel_rfl
def x13L0 : XC := (.seq (.seq (.reg false [⟨(some 5), .mv, [(.t 4)], none⟩, ⟨(some 6), .mv, [(.t 0)], none⟩, ⟨(some 7), .lenS, [(.t 6)], none⟩, ⟨(some 8), (.bin .lss), [(.t 5), (.t 7)], none⟩]) (.cond (.t 8) .skip (.exit 0))) (.seq (.block 1 (.reg false [⟨(some 11), .mv, [(.t 3)], none⟩, ⟨(some 12), .mv, [(.t 4)], none⟩, ⟨(some 13), (.build [(.int .i64 0), (.int .i64 0), (.int .i64 0)] [(0, 1)]), [(.t 12)], none⟩, ⟨(some 14), .mv, [(.t 0)], none⟩, ⟨(some 15), .mv, [(.t 4)], none⟩, ⟨(some 16), (.ixS 1), [(.t 14), (.t 15)], none⟩, ⟨(some 17), .load1, [(.t 16)], none⟩, ⟨(some 18), (.conv .i64), [(.t 17)], none⟩, ⟨(some 19), (.build [(.int .i64 0), (.int .i64 0), (.int .i64 0), (.int .i64 0)] [(0, 3), (3, 1)]), [(.t 13), (.t 18)], none⟩, ⟨(some 20), (.slit 35 1 4 [(.int .i64 0), (.int .i64 0), (.int .i64 0), (.int .i64 0)] [(0, 4)]), [(.t 19)], none⟩, ⟨(some 21), (.app 35 4 32), [(.t 11), (.t 20)], none⟩, ⟨(some 3), .mv, [(.t 21)], none⟩])) (.reg false [⟨(some 9), .mv, [(.t 4)], none⟩, ⟨(some 10), (.bin .add), [(.t 9), (.k (.int .i64 1))], none⟩, ⟨(some 4), .mv, [(.t 10)], none⟩])))
def x13 : XFn := ⟨23, (.seq (.reg false [⟨(some 2), .mv, [(.k (.slice none 0 0))], none⟩]) (.seq (.reg false [⟨(some 3), .mv, [(.k (.slice none 0 0))], none⟩]) (.seq (.seq (.reg false [⟨(some 4), .mv, [(.k (.int .i64 0))], none⟩]) (.block 0 (.loop x13L0))) (.seq (.reg false [⟨(some 22), .mv, [(.t 3)], none⟩, ⟨(some 2), .mv, [(.t 22)], none⟩]) .ret)))), [(.s 2)]⟩
theorem x13_ok : xfn Try.prog Try.f13 = some x13 := by kernel_rfl
def x15 : XFn := ⟨15, (.seq (.reg false [⟨(some 4), .mv, [(.k (.int .i64 0))], none⟩]) (.seq (.reg false [⟨(some 6), .mv, [(.t 0)], none⟩, ⟨(some 7), .mv, [(.t 1)], none⟩, ⟨(some 8), (.bin .rem), [(.t 6), (.t 7)], none⟩, ⟨(some 5), .mv, [(.t 8)], none⟩]) (.seq (.seq (.reg false [⟨(some 9), .mv, [(.t 5)], none⟩, ⟨(some 10), (.bin .lss), [(.t 9), (.k (.int .i64 0))], none⟩]) (.cond (.t 10) (.reg false [⟨(some 11), .mv, [(.t 5)], none⟩, ⟨(some 12), .mv, [(.t 1)], none⟩, ⟨(some 13), (.bin .add), [(.t 11), (.t 12)], none⟩, ⟨(some 5), .mv, [(.t 13)], none⟩]) .skip)) (.seq (.reg false [⟨(some 14), .mv, [(.t 5)], none⟩, ⟨(some 4), .mv, [(.t 14)], none⟩]) .ret)))), [(.s 4)]⟩
theorem x15_ok : xfn Try.prog Try.f15 = some x15 := by kernel_rfl
def x46L0 : XC := (.seq (.seq (.reg false [⟨(some 12), .mv, [(.t 6)], none⟩, ⟨(some 13), (.bin .neq), [(.t 12), (.k (.int .i64 0))], none⟩]) (.cond (.t 13) .skip (.exit 0))) (.block 1 (.reg true [⟨(some 14), .mv, [(.t 6)], none⟩, ⟨(some 15), .mv, [(.t 5)], none⟩, ⟨(some 16), .mv, [(.t 6)], none⟩, ⟨(some 17), (.bin .rem), [(.t 15), (.t 16)], none⟩, ⟨(some 5), .mv, [(.t 14)], none⟩, ⟨(some 6), .mv, [(.t 17)], none⟩])))
def x46 : XFn := ⟨25, (.seq (.reg false [⟨(some 4), (.alloc 38 [(.int .i64 0), (.int .i64 0)]), [], none⟩]) (.seq (.reg false [⟨(some 7), .mv, [(.t 0)], none⟩, ⟨(some 8), .mv, [(.t 0)], none⟩, ⟨(some 9), (.un .neg), [(.t 8)], none⟩, ⟨(some 10), .maxI, [(.t 7), (.t 9)], none⟩, ⟨(some 11), .mv, [(.t 1)], none⟩, ⟨(some 5), .mv, [(.t 10)], none⟩, ⟨(some 6), .mv, [(.t 11)], none⟩]) (.seq (.block 0 (.loop x46L0)) (.seq (.regD [⟨(some 18), .mv, [(.t 0)], none⟩, ⟨(some 19), .mv, [(.t 5)], none⟩, ⟨(some 20), (.bin .quo), [(.t 18), (.t 19)], none⟩, ⟨(some 21), .mv, [(.t 1)], none⟩, ⟨(some 22), .mv, [(.t 5)], none⟩, ⟨(some 23), (.bin .quo), [(.t 21), (.t 22)], none⟩, ⟨(some 24), (.build [(.int .i64 0), (.int .i64 0)] [(0, 1), (1, 1)]), [(.t 20), (.t 23)], none⟩, ⟨none, (.store 2), [(.t 4), (.t 24)], none⟩] [[], [], [0, 1], [], [], [3, 4], [2, 0, 1, 5, 3, 4], [6, 2, 0, 1, 5, 3, 4]]) .ret)))), [(.bn 4 2)]⟩
theorem x46_ok : xfn Try.prog Try.f46 = some x46 := by kernel_rfl
def x45 : XFn := ⟨13, (.seq (.reg false [⟨(some 2), .mv, [(.k (.int .i64 0))], none⟩, ⟨(some 3), .mv, [(.k (.int .i64 0))], none⟩]) (.seq (.seq (.reg false [⟨(some 5), .mv, [(.t 0)], none⟩, ⟨(some 6), (.call 44), [(.t 5)], none⟩, ⟨(some 7), (.un .not), [(.t 6)], none⟩]) (.cond (.t 7) (.seq (.reg false [⟨(some 2), .mv, [(.k (.int .i64 0))], none⟩, ⟨(some 3), .mv, [(.k (.int .i64 1))], none⟩]) .ret) .skip)) (.seq (.reg false [⟨(some 8), .mv, [(.t 0)], none⟩, ⟨(some 9), (.call 14), [(.t 8)], none⟩, ⟨(some 4), .mv, [(.t 9)], none⟩]) (.seq (.seq (.reg false [⟨(some 10), .mv, [(.t 4)], none⟩, ⟨(some 11), (.bin .eql), [(.t 10), (.k (.int .i64 0))], none⟩]) (.cond (.t 11) (.seq (.reg false [⟨(some 2), .mv, [(.k (.int .i64 0))], none⟩, ⟨(some 3), .mv, [(.k (.int .i64 9))], none⟩]) .ret) .skip)) (.seq (.reg false [⟨(some 12), .mv, [(.t 4)], none⟩, ⟨(some 2), .mv, [(.t 12)], none⟩, ⟨(some 3), .mv, [(.k (.int .i64 0))], none⟩]) .ret))))), [(.s 2), (.s 3)]⟩
theorem x45_ok : xfn Try.prog Try.f45 = some x45 := by kernel_rfl
def x17L0 : XC := (.seq (.reg false [⟨(some 21), (.bin .lss), [(.t 20), (.t 19)], none⟩]) (.seq (.cond (.t 21) .skip (.exit 0)) (.seq (.block 1 (.seq (.reg false [⟨(some 22), (.ixS 4), [(.t 18), (.t 20)], none⟩, ⟨(some 23), (.loadN 4), [(.t 22)], none⟩, ⟨(some 8), (.alloc 35 [(.int .i64 0), (.int .i64 0), (.int .i64 0), (.int .i64 0)]), [], none⟩, ⟨none, (.store 4), [(.t 8), (.t 23)], none⟩]) (.reg false [⟨(some 24), .mv, [(.t 6)], none⟩, ⟨(some 25), (.fld 3), [(.t 8)], none⟩, ⟨(some 26), .load1, [(.t 25)], none⟩, ⟨(some 27), (.fld 3), [(.t 8)], none⟩, ⟨(some 28), .load1, [(.t 27)], none⟩, ⟨(some 29), (.bin .mul), [(.t 26), (.t 28)], none⟩, ⟨(some 30), (.bin .add), [(.t 24), (.t 29)], none⟩, ⟨(some 6), .mv, [(.t 30)], none⟩]))) (.reg false [⟨(some 31), (.bin .add), [(.t 20), (.k (.int .i64 1))], none⟩, ⟨(some 20), .mv, [(.t 31)], none⟩]))))
def x17 : XFn := ⟨37, (.seq (.reg false [⟨(some 2), (.alloc 38 [(.int .i64 0), (.int .i64 0)]), [], none⟩, ⟨(some 3), .mv, [(.k (.int .i64 0))], none⟩]) (.seq (.reg false [⟨(some 10), .mv, [(.t 0)], none⟩, ⟨(some 11), (.call 45), [(.t 10)], none⟩, ⟨(some 9), .mv, [(.t 11)], none⟩, ⟨(some 12), (.ext 0), [(.t 9)], none⟩, ⟨(some 13), (.ext 1), [(.t 9)], none⟩, ⟨(some 4), .mv, [(.t 12)], none⟩, ⟨(some 5), .mv, [(.t 13)], none⟩]) (.seq (.seq (.reg false [⟨(some 14), .mv, [(.t 5)], none⟩, ⟨(some 15), (.bin .neq), [(.t 14), (.k (.int .i64 0))], none⟩]) (.cond (.t 15) (.seq (.reg false [⟨(some 16), (.build [(.int .i64 0), (.int .i64 0)] []), [], none⟩, ⟨(some 17), .mv, [(.t 5)], none⟩, ⟨none, (.store 2), [(.t 2), (.t 16)], none⟩, ⟨(some 3), .mv, [(.t 17)], none⟩]) .ret) .skip)) (.seq (.reg false [⟨(some 6), .mv, [(.k (.int .i64 0))], none⟩]) (.seq (.seq (.reg false [⟨(some 18), .mv, [(.t 0)], none⟩, ⟨(some 19), .lenS, [(.t 18)], none⟩, ⟨(some 20), .mv, [(.k (.int .i64 0))], none⟩]) (.block 0 (.loop x17L0))) (.seq (.reg false [⟨(some 32), .mv, [(.t 4)], none⟩, ⟨(some 33), .mv, [(.t 4)], none⟩, ⟨(some 34), (.bin .mul), [(.t 32), (.t 33)], none⟩, ⟨(some 35), .mv, [(.t 6)], none⟩, ⟨(some 36), (.call 46), [(.t 34), (.t 35)], none⟩, ⟨none, (.store 2), [(.t 2), (.t 36)], none⟩, ⟨(some 3), .mv, [(.k (.int .i64 0))], none⟩]) .ret)))))), [(.bn 2 2), (.s 3)]⟩
theorem x17_ok : xfn Try.prog Try.f17 = some x17 := by kernel_rfl
def x31 : XFn := ⟨6, (.seq (.reg false [⟨(some 2), .mv, [(.k (.int .u64 0))], none⟩]) (.seq (.reg false [⟨(some 3), .mv, [(.t 0)], none⟩, ⟨(some 4), (.bin .mul), [(.t 3), (.k (.int .u64 6364136223846793005))], none⟩, ⟨(some 5), (.bin .add), [(.t 4), (.k (.int .u64 1442695040888963407))], none⟩, ⟨(some 2), .mv, [(.t 5)], none⟩]) .ret)), [(.s 2)]⟩
theorem x31_ok : xfn Try.prog Try.f31 = some x31 := by kernel_rfl
def x27 : XFn := ⟨22, (.seq (.reg false [⟨(some 4), .mv, [(.k (.int .i64 0))], none⟩, ⟨(some 5), .mv, [(.k (.int .u64 0))], none⟩]) (.seq (.seq (.reg false [⟨(some 6), .mv, [(.t 1)], none⟩, ⟨(some 7), (.bin .lss), [(.t 6), (.k (.int .i64 1))], none⟩, ⟨(some 8), .mv, [(.t 7)], none⟩, ⟨(some 9), .mv, [(.t 1)], (some (8, false))⟩, ⟨(some 10), (.bin .gtr), [(.t 9), (.k (.int .i64 2147483648))], (some (8, false))⟩, ⟨(some 11), .pick, [(.t 8), (.k (.bool true)), (.t 10)], none⟩]) (.cond (.t 11) (.seq (.reg false [⟨(some 12), .mv, [(.t 0)], none⟩, ⟨(some 4), .mv, [(.k (.int .i64 0))], none⟩, ⟨(some 5), .mv, [(.t 12)], none⟩]) .ret) .skip)) (.seq (.reg false [⟨(some 13), .mv, [(.t 0)], none⟩, ⟨(some 14), (.call 31), [(.t 13)], none⟩, ⟨(some 0), .mv, [(.t 14)], none⟩]) (.seq (.reg false [⟨(some 15), .mv, [(.t 0)], none⟩, ⟨(some 16), (.bin .shr), [(.t 15), (.k (.int .u64 33))], none⟩, ⟨(some 17), .mv, [(.t 1)], none⟩, ⟨(some 18), (.conv .u64), [(.t 17)], none⟩, ⟨(some 19), (.bin .rem), [(.t 16), (.t 18)], none⟩, ⟨(some 20), (.conv .i64), [(.t 19)], none⟩, ⟨(some 21), .mv, [(.t 0)], none⟩, ⟨(some 4), .mv, [(.t 20)], none⟩, ⟨(some 5), .mv, [(.t 21)], none⟩]) .ret)))), [(.s 4), (.s 5)]⟩
theorem x27_ok : xfn Try.prog Try.f27 = some x27 := by kernel_rfl
/-- wayfinder/particle.posed$1 -/
def g98 : Con := fun args_ E_ nn_ => match args_ with
  | [.c (.v (.int .i64 n))] => some (.q (True) (.o (.c (.v (.bool (decide (n < -1048576) || decide (1048576 < n)))))))
  | _ => none
theorem c98 : COk Try.prog 98 g98 := by
  refine cok_q Try.func98 x98_ok (by kernel_rfl) (cok_tab cok_nil) ?_
  intro args_ E_ nn_ cr_ hg_
  unfold g98 at hg_
  split at hg_
  · rename_i n
    cases hg_
    refine ⟨_, _, rfl, 0, [], [.c (.v (.int .i64 n))], [], .o (.c (.v (.bool (decide (n < -1048576) || decide (1048576 < n))))), rfl, rfl, by simp only [sc1L, sc1, scL, SC.sc, scV, scEnt, scE, rowF_scT, upto, Nat.reduceLT, Nat.reduceAdd, and_self, eP_eta, eP_isRow, eP_sz, eP_0, eP_1, eP_2, eP_3, eI_isRow, eI_sz, eI_0, eU16_isRow, eU16_sz, eU16_0], by simp only [sc1L, sc1, scL, SC.sc, scV, scEnt, scE, rowF_scT, upto, Nat.reduceLT, Nat.reduceAdd, and_self, eP_eta, eP_isRow, eP_sz, eP_0, eP_1, eP_2, eP_3, eI_isRow, eI_sz, eI_0, eU16_isRow, eU16_sz, eU16_0], by simp only [sc1L, sc1, scL, SC.sc, scV, scEnt, scE, rowF_scT, upto, Nat.reduceLT, Nat.reduceAdd, and_self, eP_eta, eP_isRow, eP_sz, eP_0, eP_1, eP_2, eP_3, eI_isRow, eI_sz, eI_0, eU16_isRow, eU16_sz, eU16_0], rfl, trivial, rfl, ?_⟩
    intro hpre hlen
    refine ⟨trivial, ?_⟩
    simp (config := {maxSteps := 10000000}) only [x98, vcF, env0, vcC_skip, vcC_regT, vcC_regF, vcC_regD, vcC_seq, vcC_cond, vcC_block, vcC_loop, vcC_exit, vcC_ret, vcOps_nil, vcOps_cons, kSeq_norm, kSeq_ex, kSeq_ret, kBlock_norm, kBlock_ex, kBlock_ret, kRet_ex, kRet_norm, kRet_ret, kLoop_norm, kLoop_ex, kLoop_ret, fitQ_app, eqQ_app, vcOpsQ, vcOp, vcOpG, vcOp1, vcNil, vcEff, evQ, evQ0, evTup, tupOf, guardOf, rd, rds, lk, opQ, qMv, qBuild, qLoad1, qLoadN, qFld, qPart1, qPartN, qIx1, qIxN, qIxA, qIxS, qBin, qBinb, qEqA, qUn, qConv, qMin, qMax, qLenS, qNil, fin, evPick, evCR, evExt, recEff, effE, eBox, eAlloc, eStore, eCall, eSlit, eMks, eSlc, eSlcO, eApp, lims, takeI, rowV, rowOf, boxOf, reach, reachB, resE, ids1L, S1.ids, SC.ids, idsL, SV.ids, memN, pushR, pushN, usesX, readsX, slotsL, XO.slots, vcD, vcDgo, recOf, Rec.foot, nRes, keys, vcCond, tab, plain, rets, ret1, retV, St.put, constS, nth, takeAt, setAt, fillS, ups, oks, okcs, S1.ok, SC.ok, Value.oneCell', S1.cells, binI, isShift, eqCells, eqC, sc1L, sc1, scL, SC.sc, scV, scEnv, scEnt, scE, Le, LeB, bndOf, bindEnv, bindEnt, bindV, bind1, bind1L, bindL, bindC, imgB, bndOk, leEnv, leEnt, leAt, leE, nilE, imgs, outN, nodupN, mapEq, SC.sub, subL, S1.sub, sub1L, SV.sub, upto, mkI, keepS, idsEnv, keepN, rowF_scT, rowEq_rowF, rowEq_lit, okRow_rowF, okRow_lit, lit_scF, isRow_rowF, isRow_nil, decL_rowF, decL_nil, rowF_renf, List.getD_cons_zero, List.getD_cons_succ, sg, SC.ren, renL, S1.ren, ren1L, SV.ren, Ent.ren, renE, List.map_cons, List.map_nil, List.length_cons, List.length_nil, List.nil_append, List.cons_append, List.append_nil, Option.getD_none, Option.getD_some, Int.toNat_natCast, Int.toNat_zero, Nat.reduceAdd, Nat.reduceSub, Nat.reduceLeDiff, Nat.reduceEqDiff, Nat.reduceBEq, Nat.reduceMul, Nat.reduceLT, Nat.add_zero, Nat.zero_add, Nat.le_refl, Nat.zero_le, Nat.sub_zero, Nat.sub_self, Nat.lt_irrefl, Nat.add_lt_add_iff_left, Nat.add_eq_zero_iff, reduceIte, reduceCtorEq, and_true, true_and, and_self, and_false, false_and, forall_const, Bool.false_eq_true, Bool.true_eq_false, false_or, or_false, or_true, true_or, cond_true, cond_false, beq_self_eq_true, beq_true, beq_false, bne_iff_ne, bne_eq_false_iff_eq, beq_iff_eq, beq_eq_false_iff_ne, true_implies, false_implies, imp_self, implies_true, Bool.not_not, Bool.and_true, Bool.true_and, Bool.and_false, Bool.false_and, Bool.not_true, Bool.not_false, Bool.true_or, Bool.or_true, Bool.false_or, Bool.or_false, Bool.cond_false_right, Bool.cond_true_left, Bool.cond_true_right, Bool.cond_false_left, SV.o.injEq, SV.t.injEq, SV.g.injEq, S1.c.injEq, S1.a.injEq, SC.v.injEq, SC.n.injEq, SC.p.injEq, Value.bool.injEq, Value.int.injEq, List.cons.injEq, Option.some.injEq, Prod.mk.injEq, decide_eq_true_eq, gt_iff_lt, ge_iff_le, ne_eq, Int.reduceLE, Int.cast_ofNat_Int, Int.reduceLT, Int.reduceEq, Int.reduceMul, Int.reduceAdd, Int.reduceSub, Int.reduceNeg, Int.reduceToNat, Int.reduceNe, Int.natCast_nonneg, Int.ofNat_lt, Int.ofNat_le, not_false_eq_true, not_true_eq_false, Bool.not_eq_true', Bool.not_eq_false', Bool.or_eq_true, Bool.and_eq_true, Bool.or_eq_false_iff, decide_eq_false_iff_not, Int.zero_sub, and_imp, bne_self_eq_false, Bool.bne_true, Bool.bne_false, Int.sub_zero, eP_eta, eP_isRow, eP_sz, eP_0, eP_1, eP_2, eP_3, eI_isRow, eI_sz, eI_0, eU16_isRow, eU16_sz, eU16_0]
  · cases hg_
/-- wayfinder/particle.posed -/
def g75 : Con := fun args_ E_ nn_ => match args_ with
  | [.a [.v (.int .i64 p_X), .v (.int .i64 p_Y), .v (.int .i64 p_H)]] => some (.q (True) (.o (.c (.v (.bool (posedB p_X p_Y p_H))))))
  | _ => none
theorem c75 : COk Try.prog 75 g75 := by
  refine cok_q Try.func75 x75_ok (by kernel_rfl) (cok_tab (cok_cons c98 cok_nil)) ?_
  intro args_ E_ nn_ cr_ hg_
  unfold g75 at hg_
  split at hg_
  · rename_i p_X p_Y p_H
    cases hg_
    refine ⟨_, _, rfl, 0, [], [.a [.v (.int .i64 p_X), .v (.int .i64 p_Y), .v (.int .i64 p_H)]], [], .o (.c (.v (.bool (posedB p_X p_Y p_H)))), rfl, rfl, by simp only [sc1L, sc1, scL, SC.sc, scV, scEnt, scE, rowF_scT, upto, Nat.reduceLT, Nat.reduceAdd, and_self, eP_eta, eP_isRow, eP_sz, eP_0, eP_1, eP_2, eP_3, eI_isRow, eI_sz, eI_0, eU16_isRow, eU16_sz, eU16_0], by simp only [sc1L, sc1, scL, SC.sc, scV, scEnt, scE, rowF_scT, upto, Nat.reduceLT, Nat.reduceAdd, and_self, eP_eta, eP_isRow, eP_sz, eP_0, eP_1, eP_2, eP_3, eI_isRow, eI_sz, eI_0, eU16_isRow, eU16_sz, eU16_0], by simp only [sc1L, sc1, scL, SC.sc, scV, scEnt, scE, rowF_scT, upto, Nat.reduceLT, Nat.reduceAdd, and_self, eP_eta, eP_isRow, eP_sz, eP_0, eP_1, eP_2, eP_3, eI_isRow, eI_sz, eI_0, eU16_isRow, eU16_sz, eU16_0], rfl, trivial, rfl, ?_⟩
    intro hpre hlen
    refine ⟨trivial, ?_⟩
    simp (config := {maxSteps := 10000000}) only [x75, vcF, env0, vcC_skip, vcC_regT, vcC_regF, vcC_regD, vcC_seq, vcC_cond, vcC_block, vcC_loop, vcC_exit, vcC_ret, vcOps_nil, vcOps_cons, kSeq_norm, kSeq_ex, kSeq_ret, kBlock_norm, kBlock_ex, kBlock_ret, kRet_ex, kRet_norm, kRet_ret, kLoop_norm, kLoop_ex, kLoop_ret, fitQ_app, eqQ_app, vcOpsQ, vcOp, vcOpG, vcOp1, vcNil, vcEff, evQ, evQ0, evTup, tupOf, guardOf, rd, rds, lk, opQ, qMv, qBuild, qLoad1, qLoadN, qFld, qPart1, qPartN, qIx1, qIxN, qIxA, qIxS, qBin, qBinb, qEqA, qUn, qConv, qMin, qMax, qLenS, qNil, fin, evPick, evCR, evExt, recEff, effE, eBox, eAlloc, eStore, eCall, eSlit, eMks, eSlc, eSlcO, eApp, lims, takeI, rowV, rowOf, boxOf, reach, reachB, resE, ids1L, S1.ids, SC.ids, idsL, SV.ids, memN, pushR, pushN, usesX, readsX, slotsL, XO.slots, vcD, vcDgo, recOf, Rec.foot, nRes, keys, vcCond, tab, plain, rets, ret1, retV, St.put, constS, nth, takeAt, setAt, fillS, ups, oks, okcs, S1.ok, SC.ok, Value.oneCell', S1.cells, binI, isShift, eqCells, eqC, sc1L, sc1, scL, SC.sc, scV, scEnv, scEnt, scE, Le, LeB, bndOf, bindEnv, bindEnt, bindV, bind1, bind1L, bindL, bindC, imgB, bndOk, leEnv, leEnt, leAt, leE, nilE, imgs, outN, nodupN, mapEq, SC.sub, subL, S1.sub, sub1L, SV.sub, upto, mkI, keepS, idsEnv, keepN, rowF_scT, rowEq_rowF, rowEq_lit, okRow_rowF, okRow_lit, lit_scF, isRow_rowF, isRow_nil, decL_rowF, decL_nil, rowF_renf, List.getD_cons_zero, List.getD_cons_succ, sg, SC.ren, renL, S1.ren, ren1L, SV.ren, Ent.ren, renE, List.map_cons, List.map_nil, List.length_cons, List.length_nil, List.nil_append, List.cons_append, List.append_nil, Option.getD_none, Option.getD_some, Int.toNat_natCast, Int.toNat_zero, Nat.reduceAdd, Nat.reduceSub, Nat.reduceLeDiff, Nat.reduceEqDiff, Nat.reduceBEq, Nat.reduceMul, Nat.reduceLT, Nat.add_zero, Nat.zero_add, Nat.le_refl, Nat.zero_le, Nat.sub_zero, Nat.sub_self, Nat.lt_irrefl, Nat.add_lt_add_iff_left, Nat.add_eq_zero_iff, reduceIte, reduceCtorEq, and_true, true_and, and_self, and_false, false_and, forall_const, Bool.false_eq_true, Bool.true_eq_false, false_or, or_false, or_true, true_or, cond_true, cond_false, beq_self_eq_true, beq_true, beq_false, bne_iff_ne, bne_eq_false_iff_eq, beq_iff_eq, beq_eq_false_iff_ne, true_implies, false_implies, imp_self, implies_true, Bool.not_not, Bool.and_true, Bool.true_and, Bool.and_false, Bool.false_and, Bool.not_true, Bool.not_false, Bool.true_or, Bool.or_true, Bool.false_or, Bool.or_false, Bool.cond_false_right, Bool.cond_true_left, Bool.cond_true_right, Bool.cond_false_left, SV.o.injEq, SV.t.injEq, SV.g.injEq, S1.c.injEq, S1.a.injEq, SC.v.injEq, SC.n.injEq, SC.p.injEq, Value.bool.injEq, Value.int.injEq, List.cons.injEq, Option.some.injEq, Prod.mk.injEq, decide_eq_true_eq, gt_iff_lt, ge_iff_le, ne_eq, Int.reduceLE, Int.cast_ofNat_Int, Int.reduceLT, Int.reduceEq, Int.reduceMul, Int.reduceAdd, Int.reduceSub, Int.reduceNeg, Int.reduceToNat, Int.reduceNe, Int.natCast_nonneg, Int.ofNat_lt, Int.ofNat_le, not_false_eq_true, not_true_eq_false, Bool.not_eq_true', Bool.not_eq_false', Bool.or_eq_true, Bool.and_eq_true, Bool.or_eq_false_iff, decide_eq_false_iff_not, Int.zero_sub, and_imp, bne_self_eq_false, Bool.bne_true, Bool.bne_false, Int.sub_zero, eP_eta, eP_isRow, eP_sz, eP_0, eP_1, eP_2, eP_3, eI_isRow, eI_sz, eI_0, eU16_isRow, eU16_sz, eU16_0, g98]
    rw [Bool.eq_iff_iff]
    simp [posedB]
    try omega
  · cases hg_
/-- wayfinder/particle.valid$1 -/
def g74 : Con := fun args_ E_ nn_ => match args_ with
  | [.a [.v (.int .i64 p_Pose_X), .v (.int .i64 p_Pose_Y), .v (.int .i64 p_Pose_H), .v (.int .i64 p_Weight)]] => some (.q (True) (.o (.c (.v (.bool (wrongP ⟨p_Pose_X, p_Pose_Y, p_Pose_H, p_Weight⟩))))))
  | _ => none
theorem c74 : COk Try.prog 74 g74 := by
  refine cok_q Try.func74 x74_ok (by kernel_rfl) (cok_tab (cok_cons c75 cok_nil)) ?_
  intro args_ E_ nn_ cr_ hg_
  unfold g74 at hg_
  split at hg_
  · rename_i p_Pose_X p_Pose_Y p_Pose_H p_Weight
    cases hg_
    refine ⟨_, _, rfl, 0, [], [.a [.v (.int .i64 p_Pose_X), .v (.int .i64 p_Pose_Y), .v (.int .i64 p_Pose_H), .v (.int .i64 p_Weight)]], [], .o (.c (.v (.bool (wrongP ⟨p_Pose_X, p_Pose_Y, p_Pose_H, p_Weight⟩)))), rfl, rfl, by simp only [sc1L, sc1, scL, SC.sc, scV, scEnt, scE, rowF_scT, upto, Nat.reduceLT, Nat.reduceAdd, and_self, eP_eta, eP_isRow, eP_sz, eP_0, eP_1, eP_2, eP_3, eI_isRow, eI_sz, eI_0, eU16_isRow, eU16_sz, eU16_0], by simp only [sc1L, sc1, scL, SC.sc, scV, scEnt, scE, rowF_scT, upto, Nat.reduceLT, Nat.reduceAdd, and_self, eP_eta, eP_isRow, eP_sz, eP_0, eP_1, eP_2, eP_3, eI_isRow, eI_sz, eI_0, eU16_isRow, eU16_sz, eU16_0], by simp only [sc1L, sc1, scL, SC.sc, scV, scEnt, scE, rowF_scT, upto, Nat.reduceLT, Nat.reduceAdd, and_self, eP_eta, eP_isRow, eP_sz, eP_0, eP_1, eP_2, eP_3, eI_isRow, eI_sz, eI_0, eU16_isRow, eU16_sz, eU16_0], rfl, trivial, rfl, ?_⟩
    intro hpre hlen
    refine ⟨trivial, ?_⟩
    simp (config := {maxSteps := 10000000}) only [x74, vcF, env0, vcC_skip, vcC_regT, vcC_regF, vcC_regD, vcC_seq, vcC_cond, vcC_block, vcC_loop, vcC_exit, vcC_ret, vcOps_nil, vcOps_cons, kSeq_norm, kSeq_ex, kSeq_ret, kBlock_norm, kBlock_ex, kBlock_ret, kRet_ex, kRet_norm, kRet_ret, kLoop_norm, kLoop_ex, kLoop_ret, fitQ_app, eqQ_app, vcOpsQ, vcOp, vcOpG, vcOp1, vcNil, vcEff, evQ, evQ0, evTup, tupOf, guardOf, rd, rds, lk, opQ, qMv, qBuild, qLoad1, qLoadN, qFld, qPart1, qPartN, qIx1, qIxN, qIxA, qIxS, qBin, qBinb, qEqA, qUn, qConv, qMin, qMax, qLenS, qNil, fin, evPick, evCR, evExt, recEff, effE, eBox, eAlloc, eStore, eCall, eSlit, eMks, eSlc, eSlcO, eApp, lims, takeI, rowV, rowOf, boxOf, reach, reachB, resE, ids1L, S1.ids, SC.ids, idsL, SV.ids, memN, pushR, pushN, usesX, readsX, slotsL, XO.slots, vcD, vcDgo, recOf, Rec.foot, nRes, keys, vcCond, tab, plain, rets, ret1, retV, St.put, constS, nth, takeAt, setAt, fillS, ups, oks, okcs, S1.ok, SC.ok, Value.oneCell', S1.cells, binI, isShift, eqCells, eqC, sc1L, sc1, scL, SC.sc, scV, scEnv, scEnt, scE, Le, LeB, bndOf, bindEnv, bindEnt, bindV, bind1, bind1L, bindL, bindC, imgB, bndOk, leEnv, leEnt, leAt, leE, nilE, imgs, outN, nodupN, mapEq, SC.sub, subL, S1.sub, sub1L, SV.sub, upto, mkI, keepS, idsEnv, keepN, rowF_scT, rowEq_rowF, rowEq_lit, okRow_rowF, okRow_lit, lit_scF, isRow_rowF, isRow_nil, decL_rowF, decL_nil, rowF_renf, List.getD_cons_zero, List.getD_cons_succ, sg, SC.ren, renL, S1.ren, ren1L, SV.ren, Ent.ren, renE, List.map_cons, List.map_nil, List.length_cons, List.length_nil, List.nil_append, List.cons_append, List.append_nil, Option.getD_none, Option.getD_some, Int.toNat_natCast, Int.toNat_zero, Nat.reduceAdd, Nat.reduceSub, Nat.reduceLeDiff, Nat.reduceEqDiff, Nat.reduceBEq, Nat.reduceMul, Nat.reduceLT, Nat.add_zero, Nat.zero_add, Nat.le_refl, Nat.zero_le, Nat.sub_zero, Nat.sub_self, Nat.lt_irrefl, Nat.add_lt_add_iff_left, Nat.add_eq_zero_iff, reduceIte, reduceCtorEq, and_true, true_and, and_self, and_false, false_and, forall_const, Bool.false_eq_true, Bool.true_eq_false, false_or, or_false, or_true, true_or, cond_true, cond_false, beq_self_eq_true, beq_true, beq_false, bne_iff_ne, bne_eq_false_iff_eq, beq_iff_eq, beq_eq_false_iff_ne, true_implies, false_implies, imp_self, implies_true, Bool.not_not, Bool.and_true, Bool.true_and, Bool.and_false, Bool.false_and, Bool.not_true, Bool.not_false, Bool.true_or, Bool.or_true, Bool.false_or, Bool.or_false, Bool.cond_false_right, Bool.cond_true_left, Bool.cond_true_right, Bool.cond_false_left, SV.o.injEq, SV.t.injEq, SV.g.injEq, S1.c.injEq, S1.a.injEq, SC.v.injEq, SC.n.injEq, SC.p.injEq, Value.bool.injEq, Value.int.injEq, List.cons.injEq, Option.some.injEq, Prod.mk.injEq, decide_eq_true_eq, gt_iff_lt, ge_iff_le, ne_eq, Int.reduceLE, Int.cast_ofNat_Int, Int.reduceLT, Int.reduceEq, Int.reduceMul, Int.reduceAdd, Int.reduceSub, Int.reduceNeg, Int.reduceToNat, Int.reduceNe, Int.natCast_nonneg, Int.ofNat_lt, Int.ofNat_le, not_false_eq_true, not_true_eq_false, Bool.not_eq_true', Bool.not_eq_false', Bool.or_eq_true, Bool.and_eq_true, Bool.or_eq_false_iff, decide_eq_false_iff_not, Int.zero_sub, and_imp, bne_self_eq_false, Bool.bne_true, Bool.bne_false, Int.sub_zero, eP_eta, eP_isRow, eP_sz, eP_0, eP_1, eP_2, eP_3, eI_isRow, eI_sz, eI_0, eU16_isRow, eU16_sz, eU16_0, g75]
    unfold wrongP
    cases posedB p_Pose_X p_Pose_Y p_Pose_H with
    | false => rfl
    | true =>
      refine bool_ext2 ?_
      simp <;> omega
  · cases hg_
/-- slices.IndexFunc[[]wayfinder/api.Particle,wayfinder/api.Particle] -/
def g99 : Con := fun args_ E_ nn_ => match args_ with
  | [.c (.n s), .c (.v (.func (.func 74) f_a f_b))] => (match rowOf E_ s with
    | some (s_n, s_s, s_f) => some (.q (isRow eP s_n s_s s_f ∧ f_a = #[] ∧ f_b = #[]) (.o (.c (.v (.int .i64 (ixOf wrongP (decL eP s_n s_f)))))))
    | none => none)
  | _ => none
theorem c99 : COk Try.prog 99 g99 := by
  refine cok_q Try.func99 x99_ok (by kernel_rfl) (cok_tab (cok_cons c74 cok_nil)) ?_
  intro args_ E_ nn_ cr_ hg_
  unfold g99 at hg_
  split at hg_
  · rename_i s f_a f_b
    split at hg_
    · rename_i s_n s_s s_f h_s
      cases hg_
      refine ⟨_, _, rfl, 1, [s], [.c (.n 0), .c (.v (.func (.func 74) f_a f_b))], [(0, .ro (decL eP s_n s_f).length eP.sz (rowF eP (decL eP s_n s_f)))], .o (.c (.v (.int .i64 (ixOf wrongP (decL eP s_n s_f))))), rfl, rfl, by simp only [sc1L, sc1, scL, SC.sc, scV, scEnt, scE, rowF_scT, upto, Nat.reduceLT, Nat.reduceAdd, and_self, eP_eta, eP_isRow, eP_sz, eP_0, eP_1, eP_2, eP_3, eI_isRow, eI_sz, eI_0, eU16_isRow, eU16_sz, eU16_0], by simp only [sc1L, sc1, scL, SC.sc, scV, scEnt, scE, rowF_scT, upto, Nat.reduceLT, Nat.reduceAdd, and_self, eP_eta, eP_isRow, eP_sz, eP_0, eP_1, eP_2, eP_3, eI_isRow, eI_sz, eI_0, eU16_isRow, eU16_sz, eU16_0], by simp only [sc1L, sc1, scL, SC.sc, scV, scEnt, scE, rowF_scT, upto, Nat.reduceLT, Nat.reduceAdd, and_self, eP_eta, eP_isRow, eP_sz, eP_0, eP_1, eP_2, eP_3, eI_isRow, eI_sz, eI_0, eU16_isRow, eU16_sz, eU16_0], rfl, ⟨inE0_row h_s, trivial⟩, rfl, ?_⟩
      intro hpre hlen
      obtain ⟨i_s, hpre⟩ := hpre
      refine ⟨⟨inE_row h_s i_s, trivial⟩, ?_⟩
      have z_s := lens_row (E := eP) hlen h_s
      clear i_s
      generalize decL eP s_n s_f = sL at *
      clear h_s
      obtain ⟨rfl, rfl⟩ := hpre
      simp (config := {maxSteps := 10000000}) only [x99, vcF, env0, vcC_skip, vcC_regT, vcC_regF, vcC_regD, vcC_seq, vcC_cond, vcC_block, vcC_loop, vcC_exit, vcC_ret, vcOps_nil, vcOps_cons, kSeq_norm, kSeq_ex, kSeq_ret, kBlock_norm, kBlock_ex, kBlock_ret, kRet_ex, kRet_norm, kRet_ret, kLoop_norm, kLoop_ex, kLoop_ret, fitQ_app, eqQ_app, vcOpsQ, vcOp, vcOpG, vcOp1, vcNil, vcEff, evQ, evQ0, evTup, tupOf, guardOf, rd, rds, lk, opQ, qMv, qBuild, qLoad1, qLoadN, qFld, qPart1, qPartN, qIx1, qIxN, qIxA, qIxS, qBin, qBinb, qEqA, qUn, qConv, qMin, qMax, qLenS, qNil, fin, evPick, evCR, evExt, recEff, effE, eBox, eAlloc, eStore, eCall, eSlit, eMks, eSlc, eSlcO, eApp, lims, takeI, rowV, rowOf, boxOf, reach, reachB, resE, ids1L, S1.ids, SC.ids, idsL, SV.ids, memN, pushR, pushN, usesX, readsX, slotsL, XO.slots, vcD, vcDgo, recOf, Rec.foot, nRes, keys, vcCond, tab, plain, rets, ret1, retV, St.put, constS, nth, takeAt, setAt, fillS, ups, oks, okcs, S1.ok, SC.ok, Value.oneCell', S1.cells, binI, isShift, eqCells, eqC, sc1L, sc1, scL, SC.sc, scV, scEnv, scEnt, scE, Le, LeB, bndOf, bindEnv, bindEnt, bindV, bind1, bind1L, bindL, bindC, imgB, bndOk, leEnv, leEnt, leAt, leE, nilE, imgs, outN, nodupN, mapEq, SC.sub, subL, S1.sub, sub1L, SV.sub, upto, mkI, keepS, idsEnv, keepN, rowF_scT, rowEq_rowF, rowEq_lit, okRow_rowF, okRow_lit, lit_scF, isRow_rowF, isRow_nil, decL_rowF, decL_nil, rowF_renf, List.getD_cons_zero, List.getD_cons_succ, sg, SC.ren, renL, S1.ren, ren1L, SV.ren, Ent.ren, renE, List.map_cons, List.map_nil, List.length_cons, List.length_nil, List.nil_append, List.cons_append, List.append_nil, Option.getD_none, Option.getD_some, Int.toNat_natCast, Int.toNat_zero, Nat.reduceAdd, Nat.reduceSub, Nat.reduceLeDiff, Nat.reduceEqDiff, Nat.reduceBEq, Nat.reduceMul, Nat.reduceLT, Nat.add_zero, Nat.zero_add, Nat.le_refl, Nat.zero_le, Nat.sub_zero, Nat.sub_self, Nat.lt_irrefl, Nat.add_lt_add_iff_left, Nat.add_eq_zero_iff, reduceIte, reduceCtorEq, and_true, true_and, and_self, and_false, false_and, forall_const, Bool.false_eq_true, Bool.true_eq_false, false_or, or_false, or_true, true_or, cond_true, cond_false, beq_self_eq_true, beq_true, beq_false, bne_iff_ne, bne_eq_false_iff_eq, beq_iff_eq, beq_eq_false_iff_ne, true_implies, false_implies, imp_self, implies_true, Bool.not_not, Bool.and_true, Bool.true_and, Bool.and_false, Bool.false_and, Bool.not_true, Bool.not_false, Bool.true_or, Bool.or_true, Bool.false_or, Bool.or_false, Bool.cond_false_right, Bool.cond_true_left, Bool.cond_true_right, Bool.cond_false_left, SV.o.injEq, SV.t.injEq, SV.g.injEq, S1.c.injEq, S1.a.injEq, SC.v.injEq, SC.n.injEq, SC.p.injEq, Value.bool.injEq, Value.int.injEq, List.cons.injEq, Option.some.injEq, Prod.mk.injEq, decide_eq_true_eq, gt_iff_lt, ge_iff_le, ne_eq, Int.reduceLE, Int.cast_ofNat_Int, Int.reduceLT, Int.reduceEq, Int.reduceMul, Int.reduceAdd, Int.reduceSub, Int.reduceNeg, Int.reduceToNat, Int.reduceNe, Int.natCast_nonneg, Int.ofNat_lt, Int.ofNat_le, not_false_eq_true, not_true_eq_false, Bool.not_eq_true', Bool.not_eq_false', Bool.or_eq_true, Bool.and_eq_true, Bool.or_eq_false_iff, decide_eq_false_iff_not, Int.zero_sub, and_imp, bne_self_eq_false, Bool.bne_true, Bool.bne_false, Int.sub_zero, eP_eta, eP_isRow, eP_sz, eP_0, eP_1, eP_2, eP_3, eI_isRow, eI_sz, eI_0, eU16_isRow, eU16_sz, eU16_0, g74]
      refine vcLoop_upd (α := {k : Nat // k ≤ sL.length ∧ ∀ i, i < k → wrongP (sL.getD i eP.dflt) = false}) [0, 1, 7] 0 (fun s => [(8, .o (.c (.v (.int .i64 (s.1 : Nat)))))]) (fun s => []) (fun s => sL.length - s.1) ⟨0, by omega, fun i hi => by omega⟩ ?_ ?_
      · simp only [vcF, env0, vcC_skip, vcC_regT, vcC_regF, vcC_regD, vcC_seq, vcC_cond, vcC_block, vcC_loop, vcC_exit, vcC_ret, vcOps_nil, vcOps_cons, kSeq_norm, kSeq_ex, kSeq_ret, kBlock_norm, kBlock_ex, kBlock_ret, kRet_ex, kRet_norm, kRet_ret, kLoop_norm, kLoop_ex, kLoop_ret, fitQ_app, eqQ_app, vcOpsQ, vcOp, vcOpG, vcOp1, vcNil, vcEff, evQ, evQ0, evTup, tupOf, guardOf, rd, rds, lk, opQ, qMv, qBuild, qLoad1, qLoadN, qFld, qPart1, qPartN, qIx1, qIxN, qIxA, qIxS, qBin, qBinb, qEqA, qUn, qConv, qMin, qMax, qLenS, qNil, fin, evPick, evCR, evExt, recEff, effE, eBox, eAlloc, eStore, eCall, eSlit, eMks, eSlc, eSlcO, eApp, lims, takeI, rowV, rowOf, boxOf, reach, reachB, resE, ids1L, S1.ids, SC.ids, idsL, SV.ids, memN, pushR, pushN, usesX, readsX, slotsL, XO.slots, vcD, vcDgo, recOf, Rec.foot, nRes, keys, vcCond, tab, plain, rets, ret1, retV, St.put, constS, nth, takeAt, setAt, fillS, ups, oks, okcs, S1.ok, SC.ok, Value.oneCell', S1.cells, binI, isShift, eqCells, eqC, sc1L, sc1, scL, SC.sc, scV, scEnv, scEnt, scE, Le, LeB, bndOf, bindEnv, bindEnt, bindV, bind1, bind1L, bindL, bindC, imgB, bndOk, leEnv, leEnt, leAt, leE, nilE, imgs, outN, nodupN, mapEq, SC.sub, subL, S1.sub, sub1L, SV.sub, upto, mkI, keepS, idsEnv, keepN, rowF_scT, rowEq_rowF, rowEq_lit, okRow_rowF, okRow_lit, lit_scF, isRow_rowF, isRow_nil, decL_rowF, decL_nil, rowF_renf, List.getD_cons_zero, List.getD_cons_succ, sg, SC.ren, renL, S1.ren, ren1L, SV.ren, Ent.ren, renE, List.map_cons, List.map_nil, List.length_cons, List.length_nil, List.nil_append, List.cons_append, List.append_nil, Option.getD_none, Option.getD_some, Int.toNat_natCast, Int.toNat_zero, Nat.reduceAdd, Nat.reduceSub, Nat.reduceLeDiff, Nat.reduceEqDiff, Nat.reduceBEq, Nat.reduceMul, Nat.reduceLT, Nat.add_zero, Nat.zero_add, Nat.le_refl, Nat.zero_le, Nat.sub_zero, Nat.sub_self, Nat.lt_irrefl, Nat.add_lt_add_iff_left, Nat.add_eq_zero_iff, reduceIte, reduceCtorEq, and_true, true_and, and_self, and_false, false_and, forall_const, Bool.false_eq_true, Bool.true_eq_false, false_or, or_false, or_true, true_or, cond_true, cond_false, beq_self_eq_true, beq_true, beq_false, bne_iff_ne, bne_eq_false_iff_eq, beq_iff_eq, beq_eq_false_iff_ne, true_implies, false_implies, imp_self, implies_true, Bool.not_not, Bool.and_true, Bool.true_and, Bool.and_false, Bool.false_and, Bool.not_true, Bool.not_false, Bool.true_or, Bool.or_true, Bool.false_or, Bool.or_false, Bool.cond_false_right, Bool.cond_true_left, Bool.cond_true_right, Bool.cond_false_left, SV.o.injEq, SV.t.injEq, SV.g.injEq, S1.c.injEq, S1.a.injEq, SC.v.injEq, SC.n.injEq, SC.p.injEq, Value.bool.injEq, Value.int.injEq, List.cons.injEq, Option.some.injEq, Prod.mk.injEq, decide_eq_true_eq, gt_iff_lt, ge_iff_le, ne_eq, Int.reduceLE, Int.cast_ofNat_Int, Int.reduceLT, Int.reduceEq, Int.reduceMul, Int.reduceAdd, Int.reduceSub, Int.reduceNeg, Int.reduceToNat, Int.reduceNe, Int.natCast_nonneg, Int.ofNat_lt, Int.ofNat_le, not_false_eq_true, not_true_eq_false, Bool.not_eq_true', Bool.not_eq_false', Bool.or_eq_true, Bool.and_eq_true, Bool.or_eq_false_iff, decide_eq_false_iff_not, Int.zero_sub, and_imp, bne_self_eq_false, Bool.bne_true, Bool.bne_false, Int.sub_zero, eP_eta, eP_isRow, eP_sz, eP_0, eP_1, eP_2, eP_3, eI_isRow, eI_sz, eI_0, eU16_isRow, eU16_sz, eU16_0, g74]
      · rintro ⟨k, hk, hall⟩
        simp only [x99L0, vcF, env0, vcC_skip, vcC_regT, vcC_regF, vcC_regD, vcC_seq, vcC_cond, vcC_block, vcC_loop, vcC_exit, vcC_ret, vcOps_nil, vcOps_cons, kSeq_norm, kSeq_ex, kSeq_ret, kBlock_norm, kBlock_ex, kBlock_ret, kRet_ex, kRet_norm, kRet_ret, kLoop_norm, kLoop_ex, kLoop_ret, fitQ_app, eqQ_app, vcOpsQ, vcOp, vcOpG, vcOp1, vcNil, vcEff, evQ, evQ0, evTup, tupOf, guardOf, rd, rds, lk, opQ, qMv, qBuild, qLoad1, qLoadN, qFld, qPart1, qPartN, qIx1, qIxN, qIxA, qIxS, qBin, qBinb, qEqA, qUn, qConv, qMin, qMax, qLenS, qNil, fin, evPick, evCR, evExt, recEff, effE, eBox, eAlloc, eStore, eCall, eSlit, eMks, eSlc, eSlcO, eApp, lims, takeI, rowV, rowOf, boxOf, reach, reachB, resE, ids1L, S1.ids, SC.ids, idsL, SV.ids, memN, pushR, pushN, usesX, readsX, slotsL, XO.slots, vcD, vcDgo, recOf, Rec.foot, nRes, keys, vcCond, tab, plain, rets, ret1, retV, St.put, constS, nth, takeAt, setAt, fillS, ups, oks, okcs, S1.ok, SC.ok, Value.oneCell', S1.cells, binI, isShift, eqCells, eqC, sc1L, sc1, scL, SC.sc, scV, scEnv, scEnt, scE, Le, LeB, bndOf, bindEnv, bindEnt, bindV, bind1, bind1L, bindL, bindC, imgB, bndOk, leEnv, leEnt, leAt, leE, nilE, imgs, outN, nodupN, mapEq, SC.sub, subL, S1.sub, sub1L, SV.sub, upto, mkI, keepS, idsEnv, keepN, rowF_scT, rowEq_rowF, rowEq_lit, okRow_rowF, okRow_lit, lit_scF, isRow_rowF, isRow_nil, decL_rowF, decL_nil, rowF_renf, List.getD_cons_zero, List.getD_cons_succ, sg, SC.ren, renL, S1.ren, ren1L, SV.ren, Ent.ren, renE, List.map_cons, List.map_nil, List.length_cons, List.length_nil, List.nil_append, List.cons_append, List.append_nil, Option.getD_none, Option.getD_some, Int.toNat_natCast, Int.toNat_zero, Nat.reduceAdd, Nat.reduceSub, Nat.reduceLeDiff, Nat.reduceEqDiff, Nat.reduceBEq, Nat.reduceMul, Nat.reduceLT, Nat.add_zero, Nat.zero_add, Nat.le_refl, Nat.zero_le, Nat.sub_zero, Nat.sub_self, Nat.lt_irrefl, Nat.add_lt_add_iff_left, Nat.add_eq_zero_iff, reduceIte, reduceCtorEq, and_true, true_and, and_self, and_false, false_and, forall_const, Bool.false_eq_true, Bool.true_eq_false, false_or, or_false, or_true, true_or, cond_true, cond_false, beq_self_eq_true, beq_true, beq_false, bne_iff_ne, bne_eq_false_iff_eq, beq_iff_eq, beq_eq_false_iff_ne, true_implies, false_implies, imp_self, implies_true, Bool.not_not, Bool.and_true, Bool.true_and, Bool.and_false, Bool.false_and, Bool.not_true, Bool.not_false, Bool.true_or, Bool.or_true, Bool.false_or, Bool.or_false, Bool.cond_false_right, Bool.cond_true_left, Bool.cond_true_right, Bool.cond_false_left, SV.o.injEq, SV.t.injEq, SV.g.injEq, S1.c.injEq, S1.a.injEq, SC.v.injEq, SC.n.injEq, SC.p.injEq, Value.bool.injEq, Value.int.injEq, List.cons.injEq, Option.some.injEq, Prod.mk.injEq, decide_eq_true_eq, gt_iff_lt, ge_iff_le, ne_eq, Int.reduceLE, Int.cast_ofNat_Int, Int.reduceLT, Int.reduceEq, Int.reduceMul, Int.reduceAdd, Int.reduceSub, Int.reduceNeg, Int.reduceToNat, Int.reduceNe, Int.natCast_nonneg, Int.ofNat_lt, Int.ofNat_le, not_false_eq_true, not_true_eq_false, Bool.not_eq_true', Bool.not_eq_false', Bool.or_eq_true, Bool.and_eq_true, Bool.or_eq_false_iff, decide_eq_false_iff_not, Int.zero_sub, and_imp, bne_self_eq_false, Bool.bne_true, Bool.bne_false, Int.sub_zero, eP_eta, eP_isRow, eP_sz, eP_0, eP_1, eP_2, eP_3, eI_isRow, eI_sz, eI_0, eU16_isRow, eU16_sz, eU16_0, g74]
        refine ⟨fun hlt => ⟨hlt, hlt, fun hw => (ixOf_some hlt hall hw).symm, fun hw => ?_⟩, fun hn => ?_⟩
        · rw [wrapI (by omega) (by omega)]
          exact ⟨⟨k + 1, by omega, fun i hi => by
            by_cases h : i = k
            · subst h; exact hw
            · exact hall i (by omega)⟩, by simp, by simp only; omega⟩
        · exact (ixOf_none (fun i hi => hall i (by omega))).symm
    · cases hg_
  · cases hg_
/-- slices.ContainsFunc[[]wayfinder/api.Particle,wayfinder/api.Particle] -/
def g76 : Con := fun args_ E_ nn_ => match args_ with
  | [.c (.n s), .c (.v (.func (.func 74) f_a f_b))] => (match rowOf E_ s with
    | some (s_n, s_s, s_f) => some (.q (isRow eP s_n s_s s_f ∧ f_a = #[] ∧ f_b = #[]) (.o (.c (.v (.bool (((decL eP s_n s_f)).any wrongP))))))
    | none => none)
  | _ => none
theorem c76 : COk Try.prog 76 g76 := by
  refine cok_q Try.func76 x76_ok (by kernel_rfl) (cok_tab (cok_cons c99 cok_nil)) ?_
  intro args_ E_ nn_ cr_ hg_
  unfold g76 at hg_
  split at hg_
  · rename_i s f_a f_b
    split at hg_
    · rename_i s_n s_s s_f h_s
      cases hg_
      refine ⟨_, _, rfl, 1, [s], [.c (.n 0), .c (.v (.func (.func 74) f_a f_b))], [(0, .ro (decL eP s_n s_f).length eP.sz (rowF eP (decL eP s_n s_f)))], .o (.c (.v (.bool (((decL eP s_n s_f)).any wrongP)))), rfl, rfl, by simp only [sc1L, sc1, scL, SC.sc, scV, scEnt, scE, rowF_scT, upto, Nat.reduceLT, Nat.reduceAdd, and_self, eP_eta, eP_isRow, eP_sz, eP_0, eP_1, eP_2, eP_3, eI_isRow, eI_sz, eI_0, eU16_isRow, eU16_sz, eU16_0], by simp only [sc1L, sc1, scL, SC.sc, scV, scEnt, scE, rowF_scT, upto, Nat.reduceLT, Nat.reduceAdd, and_self, eP_eta, eP_isRow, eP_sz, eP_0, eP_1, eP_2, eP_3, eI_isRow, eI_sz, eI_0, eU16_isRow, eU16_sz, eU16_0], by simp only [sc1L, sc1, scL, SC.sc, scV, scEnt, scE, rowF_scT, upto, Nat.reduceLT, Nat.reduceAdd, and_self, eP_eta, eP_isRow, eP_sz, eP_0, eP_1, eP_2, eP_3, eI_isRow, eI_sz, eI_0, eU16_isRow, eU16_sz, eU16_0], rfl, ⟨inE0_row h_s, trivial⟩, rfl, ?_⟩
      intro hpre hlen
      obtain ⟨i_s, hpre⟩ := hpre
      refine ⟨⟨inE_row h_s i_s, trivial⟩, ?_⟩
      have z_s := lens_row (E := eP) hlen h_s
      clear i_s
      generalize decL eP s_n s_f = sL at *
      clear h_s
      obtain ⟨rfl, rfl⟩ := hpre
      simp (config := {maxSteps := 10000000}) only [x76, vcF, env0, vcC_skip, vcC_regT, vcC_regF, vcC_regD, vcC_seq, vcC_cond, vcC_block, vcC_loop, vcC_exit, vcC_ret, vcOps_nil, vcOps_cons, kSeq_norm, kSeq_ex, kSeq_ret, kBlock_norm, kBlock_ex, kBlock_ret, kRet_ex, kRet_norm, kRet_ret, kLoop_norm, kLoop_ex, kLoop_ret, fitQ_app, eqQ_app, vcOpsQ, vcOp, vcOpG, vcOp1, vcNil, vcEff, evQ, evQ0, evTup, tupOf, guardOf, rd, rds, lk, opQ, qMv, qBuild, qLoad1, qLoadN, qFld, qPart1, qPartN, qIx1, qIxN, qIxA, qIxS, qBin, qBinb, qEqA, qUn, qConv, qMin, qMax, qLenS, qNil, fin, evPick, evCR, evExt, recEff, effE, eBox, eAlloc, eStore, eCall, eSlit, eMks, eSlc, eSlcO, eApp, lims, takeI, rowV, rowOf, boxOf, reach, reachB, resE, ids1L, S1.ids, SC.ids, idsL, SV.ids, memN, pushR, pushN, usesX, readsX, slotsL, XO.slots, vcD, vcDgo, recOf, Rec.foot, nRes, keys, vcCond, tab, plain, rets, ret1, retV, St.put, constS, nth, takeAt, setAt, fillS, ups, oks, okcs, S1.ok, SC.ok, Value.oneCell', S1.cells, binI, isShift, eqCells, eqC, sc1L, sc1, scL, SC.sc, scV, scEnv, scEnt, scE, Le, LeB, bndOf, bindEnv, bindEnt, bindV, bind1, bind1L, bindL, bindC, imgB, bndOk, leEnv, leEnt, leAt, leE, nilE, imgs, outN, nodupN, mapEq, SC.sub, subL, S1.sub, sub1L, SV.sub, upto, mkI, keepS, idsEnv, keepN, rowF_scT, rowEq_rowF, rowEq_lit, okRow_rowF, okRow_lit, lit_scF, isRow_rowF, isRow_nil, decL_rowF, decL_nil, rowF_renf, List.getD_cons_zero, List.getD_cons_succ, sg, SC.ren, renL, S1.ren, ren1L, SV.ren, Ent.ren, renE, List.map_cons, List.map_nil, List.length_cons, List.length_nil, List.nil_append, List.cons_append, List.append_nil, Option.getD_none, Option.getD_some, Int.toNat_natCast, Int.toNat_zero, Nat.reduceAdd, Nat.reduceSub, Nat.reduceLeDiff, Nat.reduceEqDiff, Nat.reduceBEq, Nat.reduceMul, Nat.reduceLT, Nat.add_zero, Nat.zero_add, Nat.le_refl, Nat.zero_le, Nat.sub_zero, Nat.sub_self, Nat.lt_irrefl, Nat.add_lt_add_iff_left, Nat.add_eq_zero_iff, reduceIte, reduceCtorEq, and_true, true_and, and_self, and_false, false_and, forall_const, Bool.false_eq_true, Bool.true_eq_false, false_or, or_false, or_true, true_or, cond_true, cond_false, beq_self_eq_true, beq_true, beq_false, bne_iff_ne, bne_eq_false_iff_eq, beq_iff_eq, beq_eq_false_iff_ne, true_implies, false_implies, imp_self, implies_true, Bool.not_not, Bool.and_true, Bool.true_and, Bool.and_false, Bool.false_and, Bool.not_true, Bool.not_false, Bool.true_or, Bool.or_true, Bool.false_or, Bool.or_false, Bool.cond_false_right, Bool.cond_true_left, Bool.cond_true_right, Bool.cond_false_left, SV.o.injEq, SV.t.injEq, SV.g.injEq, S1.c.injEq, S1.a.injEq, SC.v.injEq, SC.n.injEq, SC.p.injEq, Value.bool.injEq, Value.int.injEq, List.cons.injEq, Option.some.injEq, Prod.mk.injEq, decide_eq_true_eq, gt_iff_lt, ge_iff_le, ne_eq, Int.reduceLE, Int.cast_ofNat_Int, Int.reduceLT, Int.reduceEq, Int.reduceMul, Int.reduceAdd, Int.reduceSub, Int.reduceNeg, Int.reduceToNat, Int.reduceNe, Int.natCast_nonneg, Int.ofNat_lt, Int.ofNat_le, not_false_eq_true, not_true_eq_false, Bool.not_eq_true', Bool.not_eq_false', Bool.or_eq_true, Bool.and_eq_true, Bool.or_eq_false_iff, decide_eq_false_iff_not, Int.zero_sub, and_imp, bne_self_eq_false, Bool.bne_true, Bool.bne_false, Int.sub_zero, eP_eta, eP_isRow, eP_sz, eP_0, eP_1, eP_2, eP_3, eI_isRow, eI_sz, eI_0, eU16_isRow, eU16_sz, eU16_0, g99]
      exact ixOf_any wrongP sL
    · cases hg_
  · cases hg_
/-- wayfinder/particle.valid -/
def g44 : Con := fun args_ E_ nn_ => match args_ with
  | [.c (.n l)] => (match rowOf E_ l with
    | some (l_n, l_s, l_f) => some (.q (isRow eP l_n l_s l_f ∧ True) (.o (.c (.v (.bool (validL (decL eP l_n l_f)))))))
    | none => none)
  | _ => none
theorem c44 : COk Try.prog 44 g44 := by
  refine cok_q Try.func44 x44_ok (by kernel_rfl) (cok_tab (cok_cons c76 cok_nil)) ?_
  intro args_ E_ nn_ cr_ hg_
  unfold g44 at hg_
  split at hg_
  · rename_i l
    split at hg_
    · rename_i l_n l_s l_f h_l
      cases hg_
      refine ⟨_, _, rfl, 1, [l], [.c (.n 0)], [(0, .ro (decL eP l_n l_f).length eP.sz (rowF eP (decL eP l_n l_f)))], .o (.c (.v (.bool (validL (decL eP l_n l_f))))), rfl, rfl, by simp only [sc1L, sc1, scL, SC.sc, scV, scEnt, scE, rowF_scT, upto, Nat.reduceLT, Nat.reduceAdd, and_self, eP_eta, eP_isRow, eP_sz, eP_0, eP_1, eP_2, eP_3, eI_isRow, eI_sz, eI_0, eU16_isRow, eU16_sz, eU16_0], by simp only [sc1L, sc1, scL, SC.sc, scV, scEnt, scE, rowF_scT, upto, Nat.reduceLT, Nat.reduceAdd, and_self, eP_eta, eP_isRow, eP_sz, eP_0, eP_1, eP_2, eP_3, eI_isRow, eI_sz, eI_0, eU16_isRow, eU16_sz, eU16_0], by simp only [sc1L, sc1, scL, SC.sc, scV, scEnt, scE, rowF_scT, upto, Nat.reduceLT, Nat.reduceAdd, and_self, eP_eta, eP_isRow, eP_sz, eP_0, eP_1, eP_2, eP_3, eI_isRow, eI_sz, eI_0, eU16_isRow, eU16_sz, eU16_0], rfl, ⟨inE0_row h_l, trivial⟩, rfl, ?_⟩
      intro hpre hlen
      obtain ⟨i_l, hpre⟩ := hpre
      refine ⟨⟨inE_row h_l i_l, trivial⟩, ?_⟩
      have z_l := lens_row (E := eP) hlen h_l
      clear i_l
      generalize decL eP l_n l_f = lL at *
      clear h_l
      simp (config := {maxSteps := 10000000}) only [x44, vcF, env0, vcC_skip, vcC_regT, vcC_regF, vcC_regD, vcC_seq, vcC_cond, vcC_block, vcC_loop, vcC_exit, vcC_ret, vcOps_nil, vcOps_cons, kSeq_norm, kSeq_ex, kSeq_ret, kBlock_norm, kBlock_ex, kBlock_ret, kRet_ex, kRet_norm, kRet_ret, kLoop_norm, kLoop_ex, kLoop_ret, fitQ_app, eqQ_app, vcOpsQ, vcOp, vcOpG, vcOp1, vcNil, vcEff, evQ, evQ0, evTup, tupOf, guardOf, rd, rds, lk, opQ, qMv, qBuild, qLoad1, qLoadN, qFld, qPart1, qPartN, qIx1, qIxN, qIxA, qIxS, qBin, qBinb, qEqA, qUn, qConv, qMin, qMax, qLenS, qNil, fin, evPick, evCR, evExt, recEff, effE, eBox, eAlloc, eStore, eCall, eSlit, eMks, eSlc, eSlcO, eApp, lims, takeI, rowV, rowOf, boxOf, reach, reachB, resE, ids1L, S1.ids, SC.ids, idsL, SV.ids, memN, pushR, pushN, usesX, readsX, slotsL, XO.slots, vcD, vcDgo, recOf, Rec.foot, nRes, keys, vcCond, tab, plain, rets, ret1, retV, St.put, constS, nth, takeAt, setAt, fillS, ups, oks, okcs, S1.ok, SC.ok, Value.oneCell', S1.cells, binI, isShift, eqCells, eqC, sc1L, sc1, scL, SC.sc, scV, scEnv, scEnt, scE, Le, LeB, bndOf, bindEnv, bindEnt, bindV, bind1, bind1L, bindL, bindC, imgB, bndOk, leEnv, leEnt, leAt, leE, nilE, imgs, outN, nodupN, mapEq, SC.sub, subL, S1.sub, sub1L, SV.sub, upto, mkI, keepS, idsEnv, keepN, rowF_scT, rowEq_rowF, rowEq_lit, okRow_rowF, okRow_lit, lit_scF, isRow_rowF, isRow_nil, decL_rowF, decL_nil, rowF_renf, List.getD_cons_zero, List.getD_cons_succ, sg, SC.ren, renL, S1.ren, ren1L, SV.ren, Ent.ren, renE, List.map_cons, List.map_nil, List.length_cons, List.length_nil, List.nil_append, List.cons_append, List.append_nil, Option.getD_none, Option.getD_some, Int.toNat_natCast, Int.toNat_zero, Nat.reduceAdd, Nat.reduceSub, Nat.reduceLeDiff, Nat.reduceEqDiff, Nat.reduceBEq, Nat.reduceMul, Nat.reduceLT, Nat.add_zero, Nat.zero_add, Nat.le_refl, Nat.zero_le, Nat.sub_zero, Nat.sub_self, Nat.lt_irrefl, Nat.add_lt_add_iff_left, Nat.add_eq_zero_iff, reduceIte, reduceCtorEq, and_true, true_and, and_self, and_false, false_and, forall_const, Bool.false_eq_true, Bool.true_eq_false, false_or, or_false, or_true, true_or, cond_true, cond_false, beq_self_eq_true, beq_true, beq_false, bne_iff_ne, bne_eq_false_iff_eq, beq_iff_eq, beq_eq_false_iff_ne, true_implies, false_implies, imp_self, implies_true, Bool.not_not, Bool.and_true, Bool.true_and, Bool.and_false, Bool.false_and, Bool.not_true, Bool.not_false, Bool.true_or, Bool.or_true, Bool.false_or, Bool.or_false, Bool.cond_false_right, Bool.cond_true_left, Bool.cond_true_right, Bool.cond_false_left, SV.o.injEq, SV.t.injEq, SV.g.injEq, S1.c.injEq, S1.a.injEq, SC.v.injEq, SC.n.injEq, SC.p.injEq, Value.bool.injEq, Value.int.injEq, List.cons.injEq, Option.some.injEq, Prod.mk.injEq, decide_eq_true_eq, gt_iff_lt, ge_iff_le, ne_eq, Int.reduceLE, Int.cast_ofNat_Int, Int.reduceLT, Int.reduceEq, Int.reduceMul, Int.reduceAdd, Int.reduceSub, Int.reduceNeg, Int.reduceToNat, Int.reduceNe, Int.natCast_nonneg, Int.ofNat_lt, Int.ofNat_le, not_false_eq_true, not_true_eq_false, Bool.not_eq_true', Bool.not_eq_false', Bool.or_eq_true, Bool.and_eq_true, Bool.or_eq_false_iff, decide_eq_false_iff_not, Int.zero_sub, and_imp, bne_self_eq_false, Bool.bne_true, Bool.bne_false, Int.sub_zero, eP_eta, eP_isRow, eP_sz, eP_0, eP_1, eP_2, eP_3, eI_isRow, eI_sz, eI_0, eU16_isRow, eU16_sz, eU16_0, g76]
      unfold validL
      congr 1
      exact decide_eq_decide.2 (by omega)
    · cases hg_
  · cases hg_
/-- wayfinder/particle.Total -/
def g14 : Con := fun args_ E_ nn_ => match args_ with
  | [.c (.n l)] => (match rowOf E_ l with
    | some (l_n, l_s, l_f) => some (.q (isRow eP l_n l_s l_f ∧ True) (.o (.c (.v (.int .i64 (totalL (decL eP l_n l_f)))))))
    | none => none)
  | _ => none
theorem c14 : COk Try.prog 14 g14 := by
  refine cok_q Try.func14 x14_ok (by kernel_rfl) (cok_tab (cok_cons c44 cok_nil)) ?_
  intro args_ E_ nn_ cr_ hg_
  unfold g14 at hg_
  split at hg_
  · rename_i l
    split at hg_
    · rename_i l_n l_s l_f h_l
      cases hg_
      refine ⟨_, _, rfl, 1, [l], [.c (.n 0)], [(0, .ro (decL eP l_n l_f).length eP.sz (rowF eP (decL eP l_n l_f)))], .o (.c (.v (.int .i64 (totalL (decL eP l_n l_f))))), rfl, rfl, by simp only [sc1L, sc1, scL, SC.sc, scV, scEnt, scE, rowF_scT, upto, Nat.reduceLT, Nat.reduceAdd, and_self, eP_eta, eP_isRow, eP_sz, eP_0, eP_1, eP_2, eP_3, eI_isRow, eI_sz, eI_0, eU16_isRow, eU16_sz, eU16_0], by simp only [sc1L, sc1, scL, SC.sc, scV, scEnt, scE, rowF_scT, upto, Nat.reduceLT, Nat.reduceAdd, and_self, eP_eta, eP_isRow, eP_sz, eP_0, eP_1, eP_2, eP_3, eI_isRow, eI_sz, eI_0, eU16_isRow, eU16_sz, eU16_0], by simp only [sc1L, sc1, scL, SC.sc, scV, scEnt, scE, rowF_scT, upto, Nat.reduceLT, Nat.reduceAdd, and_self, eP_eta, eP_isRow, eP_sz, eP_0, eP_1, eP_2, eP_3, eI_isRow, eI_sz, eI_0, eU16_isRow, eU16_sz, eU16_0], rfl, ⟨inE0_row h_l, trivial⟩, rfl, ?_⟩
      intro hpre hlen
      obtain ⟨i_l, hpre⟩ := hpre
      refine ⟨⟨inE_row h_l i_l, trivial⟩, ?_⟩
      have z_l := lens_row (E := eP) hlen h_l
      clear i_l
      generalize decL eP l_n l_f = lL at *
      clear h_l
      simp (config := {maxSteps := 10000000}) only [x14, vcF, env0, vcC_skip, vcC_regT, vcC_regF, vcC_regD, vcC_seq, vcC_cond, vcC_block, vcC_loop, vcC_exit, vcC_ret, vcOps_nil, vcOps_cons, kSeq_norm, kSeq_ex, kSeq_ret, kBlock_norm, kBlock_ex, kBlock_ret, kRet_ex, kRet_norm, kRet_ret, kLoop_norm, kLoop_ex, kLoop_ret, fitQ_app, eqQ_app, vcOpsQ, vcOp, vcOpG, vcOp1, vcNil, vcEff, evQ, evQ0, evTup, tupOf, guardOf, rd, rds, lk, opQ, qMv, qBuild, qLoad1, qLoadN, qFld, qPart1, qPartN, qIx1, qIxN, qIxA, qIxS, qBin, qBinb, qEqA, qUn, qConv, qMin, qMax, qLenS, qNil, fin, evPick, evCR, evExt, recEff, effE, eBox, eAlloc, eStore, eCall, eSlit, eMks, eSlc, eSlcO, eApp, lims, takeI, rowV, rowOf, boxOf, reach, reachB, resE, ids1L, S1.ids, SC.ids, idsL, SV.ids, memN, pushR, pushN, usesX, readsX, slotsL, XO.slots, vcD, vcDgo, recOf, Rec.foot, nRes, keys, vcCond, tab, plain, rets, ret1, retV, St.put, constS, nth, takeAt, setAt, fillS, ups, oks, okcs, S1.ok, SC.ok, Value.oneCell', S1.cells, binI, isShift, eqCells, eqC, sc1L, sc1, scL, SC.sc, scV, scEnv, scEnt, scE, Le, LeB, bndOf, bindEnv, bindEnt, bindV, bind1, bind1L, bindL, bindC, imgB, bndOk, leEnv, leEnt, leAt, leE, nilE, imgs, outN, nodupN, mapEq, SC.sub, subL, S1.sub, sub1L, SV.sub, upto, mkI, keepS, idsEnv, keepN, rowF_scT, rowEq_rowF, rowEq_lit, okRow_rowF, okRow_lit, lit_scF, isRow_rowF, isRow_nil, decL_rowF, decL_nil, rowF_renf, List.getD_cons_zero, List.getD_cons_succ, sg, SC.ren, renL, S1.ren, ren1L, SV.ren, Ent.ren, renE, List.map_cons, List.map_nil, List.length_cons, List.length_nil, List.nil_append, List.cons_append, List.append_nil, Option.getD_none, Option.getD_some, Int.toNat_natCast, Int.toNat_zero, Nat.reduceAdd, Nat.reduceSub, Nat.reduceLeDiff, Nat.reduceEqDiff, Nat.reduceBEq, Nat.reduceMul, Nat.reduceLT, Nat.add_zero, Nat.zero_add, Nat.le_refl, Nat.zero_le, Nat.sub_zero, Nat.sub_self, Nat.lt_irrefl, Nat.add_lt_add_iff_left, Nat.add_eq_zero_iff, reduceIte, reduceCtorEq, and_true, true_and, and_self, and_false, false_and, forall_const, Bool.false_eq_true, Bool.true_eq_false, false_or, or_false, or_true, true_or, cond_true, cond_false, beq_self_eq_true, beq_true, beq_false, bne_iff_ne, bne_eq_false_iff_eq, beq_iff_eq, beq_eq_false_iff_ne, true_implies, false_implies, imp_self, implies_true, Bool.not_not, Bool.and_true, Bool.true_and, Bool.and_false, Bool.false_and, Bool.not_true, Bool.not_false, Bool.true_or, Bool.or_true, Bool.false_or, Bool.or_false, Bool.cond_false_right, Bool.cond_true_left, Bool.cond_true_right, Bool.cond_false_left, SV.o.injEq, SV.t.injEq, SV.g.injEq, S1.c.injEq, S1.a.injEq, SC.v.injEq, SC.n.injEq, SC.p.injEq, Value.bool.injEq, Value.int.injEq, List.cons.injEq, Option.some.injEq, Prod.mk.injEq, decide_eq_true_eq, gt_iff_lt, ge_iff_le, ne_eq, Int.reduceLE, Int.cast_ofNat_Int, Int.reduceLT, Int.reduceEq, Int.reduceMul, Int.reduceAdd, Int.reduceSub, Int.reduceNeg, Int.reduceToNat, Int.reduceNe, Int.natCast_nonneg, Int.ofNat_lt, Int.ofNat_le, not_false_eq_true, not_true_eq_false, Bool.not_eq_true', Bool.not_eq_false', Bool.or_eq_true, Bool.and_eq_true, Bool.or_eq_false_iff, decide_eq_false_iff_not, Int.zero_sub, and_imp, bne_self_eq_false, Bool.bne_true, Bool.bne_false, Int.sub_zero, eP_eta, eP_isRow, eP_sz, eP_0, eP_1, eP_2, eP_3, eI_isRow, eI_sz, eI_0, eU16_isRow, eU16_sz, eU16_0, g44]
      unfold totalL
      refine ⟨fun hv => by rw [hv]; rfl, fun hv => ?_⟩
      refine vcLoop_upd (α := {k : Nat // k ≤ lL.length}) [9, 10] 0 (fun s => [(3, .o (.c (.v (.int .i64 (pre lL s.1))))), (11, .o (.c (.v (.int .i64 (s.1 : Nat)))))]) (fun s => []) (fun s => lL.length - s.1) ⟨0, by omega⟩ ?_ ?_
      · simp only [vcF, env0, vcC_skip, vcC_regT, vcC_regF, vcC_regD, vcC_seq, vcC_cond, vcC_block, vcC_loop, vcC_exit, vcC_ret, vcOps_nil, vcOps_cons, kSeq_norm, kSeq_ex, kSeq_ret, kBlock_norm, kBlock_ex, kBlock_ret, kRet_ex, kRet_norm, kRet_ret, kLoop_norm, kLoop_ex, kLoop_ret, fitQ_app, eqQ_app, vcOpsQ, vcOp, vcOpG, vcOp1, vcNil, vcEff, evQ, evQ0, evTup, tupOf, guardOf, rd, rds, lk, opQ, qMv, qBuild, qLoad1, qLoadN, qFld, qPart1, qPartN, qIx1, qIxN, qIxA, qIxS, qBin, qBinb, qEqA, qUn, qConv, qMin, qMax, qLenS, qNil, fin, evPick, evCR, evExt, recEff, effE, eBox, eAlloc, eStore, eCall, eSlit, eMks, eSlc, eSlcO, eApp, lims, takeI, rowV, rowOf, boxOf, reach, reachB, resE, ids1L, S1.ids, SC.ids, idsL, SV.ids, memN, pushR, pushN, usesX, readsX, slotsL, XO.slots, vcD, vcDgo, recOf, Rec.foot, nRes, keys, vcCond, tab, plain, rets, ret1, retV, St.put, constS, nth, takeAt, setAt, fillS, ups, oks, okcs, S1.ok, SC.ok, Value.oneCell', S1.cells, binI, isShift, eqCells, eqC, sc1L, sc1, scL, SC.sc, scV, scEnv, scEnt, scE, Le, LeB, bndOf, bindEnv, bindEnt, bindV, bind1, bind1L, bindL, bindC, imgB, bndOk, leEnv, leEnt, leAt, leE, nilE, imgs, outN, nodupN, mapEq, SC.sub, subL, S1.sub, sub1L, SV.sub, upto, mkI, keepS, idsEnv, keepN, rowF_scT, rowEq_rowF, rowEq_lit, okRow_rowF, okRow_lit, lit_scF, isRow_rowF, isRow_nil, decL_rowF, decL_nil, rowF_renf, List.getD_cons_zero, List.getD_cons_succ, sg, SC.ren, renL, S1.ren, ren1L, SV.ren, Ent.ren, renE, List.map_cons, List.map_nil, List.length_cons, List.length_nil, List.nil_append, List.cons_append, List.append_nil, Option.getD_none, Option.getD_some, Int.toNat_natCast, Int.toNat_zero, Nat.reduceAdd, Nat.reduceSub, Nat.reduceLeDiff, Nat.reduceEqDiff, Nat.reduceBEq, Nat.reduceMul, Nat.reduceLT, Nat.add_zero, Nat.zero_add, Nat.le_refl, Nat.zero_le, Nat.sub_zero, Nat.sub_self, Nat.lt_irrefl, Nat.add_lt_add_iff_left, Nat.add_eq_zero_iff, reduceIte, reduceCtorEq, and_true, true_and, and_self, and_false, false_and, forall_const, Bool.false_eq_true, Bool.true_eq_false, false_or, or_false, or_true, true_or, cond_true, cond_false, beq_self_eq_true, beq_true, beq_false, bne_iff_ne, bne_eq_false_iff_eq, beq_iff_eq, beq_eq_false_iff_ne, true_implies, false_implies, imp_self, implies_true, Bool.not_not, Bool.and_true, Bool.true_and, Bool.and_false, Bool.false_and, Bool.not_true, Bool.not_false, Bool.true_or, Bool.or_true, Bool.false_or, Bool.or_false, Bool.cond_false_right, Bool.cond_true_left, Bool.cond_true_right, Bool.cond_false_left, SV.o.injEq, SV.t.injEq, SV.g.injEq, S1.c.injEq, S1.a.injEq, SC.v.injEq, SC.n.injEq, SC.p.injEq, Value.bool.injEq, Value.int.injEq, List.cons.injEq, Option.some.injEq, Prod.mk.injEq, decide_eq_true_eq, gt_iff_lt, ge_iff_le, ne_eq, Int.reduceLE, Int.cast_ofNat_Int, Int.reduceLT, Int.reduceEq, Int.reduceMul, Int.reduceAdd, Int.reduceSub, Int.reduceNeg, Int.reduceToNat, Int.reduceNe, Int.natCast_nonneg, Int.ofNat_lt, Int.ofNat_le, not_false_eq_true, not_true_eq_false, Bool.not_eq_true', Bool.not_eq_false', Bool.or_eq_true, Bool.and_eq_true, Bool.or_eq_false_iff, decide_eq_false_iff_not, Int.zero_sub, and_imp, bne_self_eq_false, Bool.bne_true, Bool.bne_false, Int.sub_zero, eP_eta, eP_isRow, eP_sz, eP_0, eP_1, eP_2, eP_3, eI_isRow, eI_sz, eI_0, eU16_isRow, eU16_sz, eU16_0, g44, pre_zero]
      · rintro ⟨k, hk⟩
        simp only [x14L0, vcF, env0, vcC_skip, vcC_regT, vcC_regF, vcC_regD, vcC_seq, vcC_cond, vcC_block, vcC_loop, vcC_exit, vcC_ret, vcOps_nil, vcOps_cons, kSeq_norm, kSeq_ex, kSeq_ret, kBlock_norm, kBlock_ex, kBlock_ret, kRet_ex, kRet_norm, kRet_ret, kLoop_norm, kLoop_ex, kLoop_ret, fitQ_app, eqQ_app, vcOpsQ, vcOp, vcOpG, vcOp1, vcNil, vcEff, evQ, evQ0, evTup, tupOf, guardOf, rd, rds, lk, opQ, qMv, qBuild, qLoad1, qLoadN, qFld, qPart1, qPartN, qIx1, qIxN, qIxA, qIxS, qBin, qBinb, qEqA, qUn, qConv, qMin, qMax, qLenS, qNil, fin, evPick, evCR, evExt, recEff, effE, eBox, eAlloc, eStore, eCall, eSlit, eMks, eSlc, eSlcO, eApp, lims, takeI, rowV, rowOf, boxOf, reach, reachB, resE, ids1L, S1.ids, SC.ids, idsL, SV.ids, memN, pushR, pushN, usesX, readsX, slotsL, XO.slots, vcD, vcDgo, recOf, Rec.foot, nRes, keys, vcCond, tab, plain, rets, ret1, retV, St.put, constS, nth, takeAt, setAt, fillS, ups, oks, okcs, S1.ok, SC.ok, Value.oneCell', S1.cells, binI, isShift, eqCells, eqC, sc1L, sc1, scL, SC.sc, scV, scEnv, scEnt, scE, Le, LeB, bndOf, bindEnv, bindEnt, bindV, bind1, bind1L, bindL, bindC, imgB, bndOk, leEnv, leEnt, leAt, leE, nilE, imgs, outN, nodupN, mapEq, SC.sub, subL, S1.sub, sub1L, SV.sub, upto, mkI, keepS, idsEnv, keepN, rowF_scT, rowEq_rowF, rowEq_lit, okRow_rowF, okRow_lit, lit_scF, isRow_rowF, isRow_nil, decL_rowF, decL_nil, rowF_renf, List.getD_cons_zero, List.getD_cons_succ, sg, SC.ren, renL, S1.ren, ren1L, SV.ren, Ent.ren, renE, List.map_cons, List.map_nil, List.length_cons, List.length_nil, List.nil_append, List.cons_append, List.append_nil, Option.getD_none, Option.getD_some, Int.toNat_natCast, Int.toNat_zero, Nat.reduceAdd, Nat.reduceSub, Nat.reduceLeDiff, Nat.reduceEqDiff, Nat.reduceBEq, Nat.reduceMul, Nat.reduceLT, Nat.add_zero, Nat.zero_add, Nat.le_refl, Nat.zero_le, Nat.sub_zero, Nat.sub_self, Nat.lt_irrefl, Nat.add_lt_add_iff_left, Nat.add_eq_zero_iff, reduceIte, reduceCtorEq, and_true, true_and, and_self, and_false, false_and, forall_const, Bool.false_eq_true, Bool.true_eq_false, false_or, or_false, or_true, true_or, cond_true, cond_false, beq_self_eq_true, beq_true, beq_false, bne_iff_ne, bne_eq_false_iff_eq, beq_iff_eq, beq_eq_false_iff_ne, true_implies, false_implies, imp_self, implies_true, Bool.not_not, Bool.and_true, Bool.true_and, Bool.and_false, Bool.false_and, Bool.not_true, Bool.not_false, Bool.true_or, Bool.or_true, Bool.false_or, Bool.or_false, Bool.cond_false_right, Bool.cond_true_left, Bool.cond_true_right, Bool.cond_false_left, SV.o.injEq, SV.t.injEq, SV.g.injEq, S1.c.injEq, S1.a.injEq, SC.v.injEq, SC.n.injEq, SC.p.injEq, Value.bool.injEq, Value.int.injEq, List.cons.injEq, Option.some.injEq, Prod.mk.injEq, decide_eq_true_eq, gt_iff_lt, ge_iff_le, ne_eq, Int.reduceLE, Int.cast_ofNat_Int, Int.reduceLT, Int.reduceEq, Int.reduceMul, Int.reduceAdd, Int.reduceSub, Int.reduceNeg, Int.reduceToNat, Int.reduceNe, Int.natCast_nonneg, Int.ofNat_lt, Int.ofNat_le, not_false_eq_true, not_true_eq_false, Bool.not_eq_true', Bool.not_eq_false', Bool.or_eq_true, Bool.and_eq_true, Bool.or_eq_false_iff, decide_eq_false_iff_not, Int.zero_sub, and_imp, bne_self_eq_false, Bool.bne_true, Bool.bne_false, Int.sub_zero, eP_eta, eP_isRow, eP_sz, eP_0, eP_1, eP_2, eP_3, eI_isRow, eI_sz, eI_0, eU16_isRow, eU16_sz, eU16_0, g44]
        refine ⟨fun hlt => ?_, fun hn => ?_⟩
        · have hb := pre_bd hv (k := k + 1) (by omega)
          rw [pre_succ hlt] at hb
          have hl := valid_len hv
          rw [wrapI (n := (k : Int) + 1) (by omega) (by omega), wrapI (n := pre lL k + (lL.getD k eP.dflt).W) (by omega) (by omega)]
          exact ⟨hlt, hlt, ⟨⟨k + 1, by omega⟩, ⟨(pre_succ hlt).symm, rfl⟩, by simp only; omega⟩⟩
        · have : k = lL.length := by omega
          subst this
          rw [if_pos hv, pre_all]
    · cases hg_
  · cases hg_
/-- wayfinder/wayfinderlaw21.flock -/
def g13 : Con := fun args_ E_ nn_ => match args_ with
  | [.c (.n weights)] => (match rowOf E_ weights with
    | some (weights_n, weights_s, weights_f) => some (.e (isRow eU16 weights_n weights_s weights_f ∧ ((decL eU16 weights_n weights_f)).length ≤ 1000000 ∧ ∀ k, k < ((decL eU16 weights_n weights_f)).length → 0 ≤ ((decL eU16 weights_n weights_f)).getD k eU16.dflt ∧ ((decL eU16 weights_n weights_f)).getD k eU16.dflt ≤ 65535) (.o (.c (.n (nn_ + 0)))) [((nn_ + 0), .own (flockL (decL eU16 weights_n weights_f)).length 4 (rowF eP (flockL (decL eU16 weights_n weights_f))) 35)] (nn_ + 1))
    | none => none)
  | _ => none
theorem c13 : COk Try.prog 13 g13 := by
  refine cok_e Try.func13 x13_ok (by kernel_rfl) (cok_tab cok_nil) ?_
  intro args_ E_ nn_ cr_ hg_
  unfold g13 at hg_
  split at hg_
  · rename_i weights
    split at hg_
    · rename_i weights_n weights_s weights_f h_weights
      cases hg_
      refine ⟨_, _, _, _, rfl, 1, [weights], [.c (.n 0)], [(0, .ro (decL eU16 weights_n weights_f).length eU16.sz (rowF eU16 (decL eU16 weights_n weights_f)))], .o (.c (.n 1)), [(1, .own (flockL (decL eU16 weights_n weights_f)).length 4 (rowF eP (flockL (decL eU16 weights_n weights_f))) 35)], 2, rfl, rfl, by simp only [renE, Ent.ren, rowF_renf] <;> rfl, rfl, by decide, by simp only [sc1L, sc1, scL, SC.sc, scV, scEnt, scE, rowF_scT, upto, Nat.reduceLT, Nat.reduceAdd, and_self, eP_eta, eP_isRow, eP_sz, eP_0, eP_1, eP_2, eP_3, eI_isRow, eI_sz, eI_0, eU16_isRow, eU16_sz, eU16_0], by simp only [sc1L, sc1, scL, SC.sc, scV, scEnt, scE, rowF_scT, upto, Nat.reduceLT, Nat.reduceAdd, and_self, eP_eta, eP_isRow, eP_sz, eP_0, eP_1, eP_2, eP_3, eI_isRow, eI_sz, eI_0, eU16_isRow, eU16_sz, eU16_0], by simp only [sc1L, sc1, scL, SC.sc, scV, scEnt, scE, rowF_scT, upto, Nat.reduceLT, Nat.reduceAdd, and_self, eP_eta, eP_isRow, eP_sz, eP_0, eP_1, eP_2, eP_3, eI_isRow, eI_sz, eI_0, eU16_isRow, eU16_sz, eU16_0], by simp only [sc1L, sc1, scL, SC.sc, scV, scEnt, scE, rowF_scT, upto, Nat.reduceLT, Nat.reduceAdd, and_self, eP_eta, eP_isRow, eP_sz, eP_0, eP_1, eP_2, eP_3, eI_isRow, eI_sz, eI_0, eU16_isRow, eU16_sz, eU16_0], rfl, ⟨inE0_row h_weights, trivial⟩, by simp only [keysNodup, outN, keys] <;> decide, rfl, rfl, ?_⟩
      intro hpre hlen
      obtain ⟨i_weights, hpre⟩ := hpre
      refine ⟨⟨inE_row h_weights i_weights, trivial⟩, by simp only [apartE] <;> (first | trivial | (simp [Ent.mut]; done)), ?_⟩
      have z_weights := lens_row (E := eU16) hlen h_weights
      clear i_weights
      generalize decL eU16 weights_n weights_f = weightsL at *
      clear h_weights
      obtain ⟨hpre, wz⟩ := hpre
      simp (config := {maxSteps := 10000000}) only [x13, vcF, env0, vcC_skip, vcC_regT, vcC_regF, vcC_regD, vcC_seq, vcC_cond, vcC_block, vcC_loop, vcC_exit, vcC_ret, vcOps_nil, vcOps_cons, kSeq_norm, kSeq_ex, kSeq_ret, kBlock_norm, kBlock_ex, kBlock_ret, kRet_ex, kRet_norm, kRet_ret, kLoop_norm, kLoop_ex, kLoop_ret, fitQ_app, eqQ_app, vcOpsQ, vcOp, vcOpG, vcOp1, vcNil, vcEff, evQ, evQ0, evTup, tupOf, guardOf, rd, rds, lk, opQ, qMv, qBuild, qLoad1, qLoadN, qFld, qPart1, qPartN, qIx1, qIxN, qIxA, qIxS, qBin, qBinb, qEqA, qUn, qConv, qMin, qMax, qLenS, qNil, fin, evPick, evCR, evExt, recEff, effE, eBox, eAlloc, eStore, eCall, eSlit, eMks, eSlc, eSlcO, eApp, lims, takeI, rowV, rowOf, boxOf, reach, reachB, resE, ids1L, S1.ids, SC.ids, idsL, SV.ids, memN, pushR, pushN, usesX, readsX, slotsL, XO.slots, vcD, vcDgo, recOf, Rec.foot, nRes, keys, vcCond, tab, plain, rets, ret1, retV, St.put, constS, nth, takeAt, setAt, fillS, ups, oks, okcs, S1.ok, SC.ok, Value.oneCell', S1.cells, binI, isShift, eqCells, eqC, sc1L, sc1, scL, SC.sc, scV, scEnv, scEnt, scE, Le, LeB, bndOf, bindEnv, bindEnt, bindV, bind1, bind1L, bindL, bindC, imgB, bndOk, leEnv, leEnt, leAt, leE, nilE, imgs, outN, nodupN, mapEq, SC.sub, subL, S1.sub, sub1L, SV.sub, upto, mkI, keepS, idsEnv, keepN, rowF_scT, rowEq_rowF, rowEq_lit, okRow_rowF, okRow_lit, lit_scF, isRow_rowF, isRow_nil, decL_rowF, decL_nil, rowF_renf, List.getD_cons_zero, List.getD_cons_succ, sg, SC.ren, renL, S1.ren, ren1L, SV.ren, Ent.ren, renE, List.map_cons, List.map_nil, List.length_cons, List.length_nil, List.nil_append, List.cons_append, List.append_nil, Option.getD_none, Option.getD_some, Int.toNat_natCast, Int.toNat_zero, Nat.reduceAdd, Nat.reduceSub, Nat.reduceLeDiff, Nat.reduceEqDiff, Nat.reduceBEq, Nat.reduceMul, Nat.reduceLT, Nat.add_zero, Nat.zero_add, Nat.le_refl, Nat.zero_le, Nat.sub_zero, Nat.sub_self, Nat.lt_irrefl, Nat.add_lt_add_iff_left, Nat.add_eq_zero_iff, reduceIte, reduceCtorEq, and_true, true_and, and_self, and_false, false_and, forall_const, Bool.false_eq_true, Bool.true_eq_false, false_or, or_false, or_true, true_or, cond_true, cond_false, beq_self_eq_true, beq_true, beq_false, bne_iff_ne, bne_eq_false_iff_eq, beq_iff_eq, beq_eq_false_iff_ne, true_implies, false_implies, imp_self, implies_true, Bool.not_not, Bool.and_true, Bool.true_and, Bool.and_false, Bool.false_and, Bool.not_true, Bool.not_false, Bool.true_or, Bool.or_true, Bool.false_or, Bool.or_false, Bool.cond_false_right, Bool.cond_true_left, Bool.cond_true_right, Bool.cond_false_left, SV.o.injEq, SV.t.injEq, SV.g.injEq, S1.c.injEq, S1.a.injEq, SC.v.injEq, SC.n.injEq, SC.p.injEq, Value.bool.injEq, Value.int.injEq, List.cons.injEq, Option.some.injEq, Prod.mk.injEq, decide_eq_true_eq, gt_iff_lt, ge_iff_le, ne_eq, Int.reduceLE, Int.cast_ofNat_Int, Int.reduceLT, Int.reduceEq, Int.reduceMul, Int.reduceAdd, Int.reduceSub, Int.reduceNeg, Int.reduceToNat, Int.reduceNe, Int.natCast_nonneg, Int.ofNat_lt, Int.ofNat_le, not_false_eq_true, not_true_eq_false, Bool.not_eq_true', Bool.not_eq_false', Bool.or_eq_true, Bool.and_eq_true, Bool.or_eq_false_iff, decide_eq_false_iff_not, Int.zero_sub, and_imp, bne_self_eq_false, Bool.bne_true, Bool.bne_false, Int.sub_zero, eP_eta, eP_isRow, eP_sz, eP_0, eP_1, eP_2, eP_3, eI_isRow, eI_sz, eI_0, eU16_isRow, eU16_sz, eU16_0]
      refine vcLoop_upd (α := {k : Nat // k ≤ weightsL.length}) [0] 1 (fun s => [(3, .o (.c (.n 1))), (4, .o (.c (.v (.int .i64 (s.1 : Nat)))))]) (fun s => [(1, .own (flockK weightsL s.1).length 4 (rowF eP (flockK weightsL s.1)) 35)]) (fun s => weightsL.length - s.1) ⟨0, by omega⟩ ?_ ?_
      · simp only [vcF, env0, vcC_skip, vcC_regT, vcC_regF, vcC_regD, vcC_seq, vcC_cond, vcC_block, vcC_loop, vcC_exit, vcC_ret, vcOps_nil, vcOps_cons, kSeq_norm, kSeq_ex, kSeq_ret, kBlock_norm, kBlock_ex, kBlock_ret, kRet_ex, kRet_norm, kRet_ret, kLoop_norm, kLoop_ex, kLoop_ret, fitQ_app, eqQ_app, vcOpsQ, vcOp, vcOpG, vcOp1, vcNil, vcEff, evQ, evQ0, evTup, tupOf, guardOf, rd, rds, lk, opQ, qMv, qBuild, qLoad1, qLoadN, qFld, qPart1, qPartN, qIx1, qIxN, qIxA, qIxS, qBin, qBinb, qEqA, qUn, qConv, qMin, qMax, qLenS, qNil, fin, evPick, evCR, evExt, recEff, effE, eBox, eAlloc, eStore, eCall, eSlit, eMks, eSlc, eSlcO, eApp, lims, takeI, rowV, rowOf, boxOf, reach, reachB, resE, ids1L, S1.ids, SC.ids, idsL, SV.ids, memN, pushR, pushN, usesX, readsX, slotsL, XO.slots, vcD, vcDgo, recOf, Rec.foot, nRes, keys, vcCond, tab, plain, rets, ret1, retV, St.put, constS, nth, takeAt, setAt, fillS, ups, oks, okcs, S1.ok, SC.ok, Value.oneCell', S1.cells, binI, isShift, eqCells, eqC, sc1L, sc1, scL, SC.sc, scV, scEnv, scEnt, scE, Le, LeB, bndOf, bindEnv, bindEnt, bindV, bind1, bind1L, bindL, bindC, imgB, bndOk, leEnv, leEnt, leAt, leE, nilE, imgs, outN, nodupN, mapEq, SC.sub, subL, S1.sub, sub1L, SV.sub, upto, mkI, keepS, idsEnv, keepN, rowF_scT, rowEq_rowF, rowEq_lit, okRow_rowF, okRow_lit, lit_scF, isRow_rowF, isRow_nil, decL_rowF, decL_nil, rowF_renf, List.getD_cons_zero, List.getD_cons_succ, sg, SC.ren, renL, S1.ren, ren1L, SV.ren, Ent.ren, renE, List.map_cons, List.map_nil, List.length_cons, List.length_nil, List.nil_append, List.cons_append, List.append_nil, Option.getD_none, Option.getD_some, Int.toNat_natCast, Int.toNat_zero, Nat.reduceAdd, Nat.reduceSub, Nat.reduceLeDiff, Nat.reduceEqDiff, Nat.reduceBEq, Nat.reduceMul, Nat.reduceLT, Nat.add_zero, Nat.zero_add, Nat.le_refl, Nat.zero_le, Nat.sub_zero, Nat.sub_self, Nat.lt_irrefl, Nat.add_lt_add_iff_left, Nat.add_eq_zero_iff, reduceIte, reduceCtorEq, and_true, true_and, and_self, and_false, false_and, forall_const, Bool.false_eq_true, Bool.true_eq_false, false_or, or_false, or_true, true_or, cond_true, cond_false, beq_self_eq_true, beq_true, beq_false, bne_iff_ne, bne_eq_false_iff_eq, beq_iff_eq, beq_eq_false_iff_ne, true_implies, false_implies, imp_self, implies_true, Bool.not_not, Bool.and_true, Bool.true_and, Bool.and_false, Bool.false_and, Bool.not_true, Bool.not_false, Bool.true_or, Bool.or_true, Bool.false_or, Bool.or_false, Bool.cond_false_right, Bool.cond_true_left, Bool.cond_true_right, Bool.cond_false_left, SV.o.injEq, SV.t.injEq, SV.g.injEq, S1.c.injEq, S1.a.injEq, SC.v.injEq, SC.n.injEq, SC.p.injEq, Value.bool.injEq, Value.int.injEq, List.cons.injEq, Option.some.injEq, Prod.mk.injEq, decide_eq_true_eq, gt_iff_lt, ge_iff_le, ne_eq, Int.reduceLE, Int.cast_ofNat_Int, Int.reduceLT, Int.reduceEq, Int.reduceMul, Int.reduceAdd, Int.reduceSub, Int.reduceNeg, Int.reduceToNat, Int.reduceNe, Int.natCast_nonneg, Int.ofNat_lt, Int.ofNat_le, not_false_eq_true, not_true_eq_false, Bool.not_eq_true', Bool.not_eq_false', Bool.or_eq_true, Bool.and_eq_true, Bool.or_eq_false_iff, decide_eq_false_iff_not, Int.zero_sub, and_imp, bne_self_eq_false, Bool.bne_true, Bool.bne_false, Int.sub_zero, eP_eta, eP_isRow, eP_sz, eP_0, eP_1, eP_2, eP_3, eI_isRow, eI_sz, eI_0, eU16_isRow, eU16_sz, eU16_0, flockK_len]
      · rintro ⟨k, hk⟩
        simp only [x13L0, vcF, env0, vcC_skip, vcC_regT, vcC_regF, vcC_regD, vcC_seq, vcC_cond, vcC_block, vcC_loop, vcC_exit, vcC_ret, vcOps_nil, vcOps_cons, kSeq_norm, kSeq_ex, kSeq_ret, kBlock_norm, kBlock_ex, kBlock_ret, kRet_ex, kRet_norm, kRet_ret, kLoop_norm, kLoop_ex, kLoop_ret, fitQ_app, eqQ_app, vcOpsQ, vcOp, vcOpG, vcOp1, vcNil, vcEff, evQ, evQ0, evTup, tupOf, guardOf, rd, rds, lk, opQ, qMv, qBuild, qLoad1, qLoadN, qFld, qPart1, qPartN, qIx1, qIxN, qIxA, qIxS, qBin, qBinb, qEqA, qUn, qConv, qMin, qMax, qLenS, qNil, fin, evPick, evCR, evExt, recEff, effE, eBox, eAlloc, eStore, eCall, eSlit, eMks, eSlc, eSlcO, eApp, lims, takeI, rowV, rowOf, boxOf, reach, reachB, resE, ids1L, S1.ids, SC.ids, idsL, SV.ids, memN, pushR, pushN, usesX, readsX, slotsL, XO.slots, vcD, vcDgo, recOf, Rec.foot, nRes, keys, vcCond, tab, plain, rets, ret1, retV, St.put, constS, nth, takeAt, setAt, fillS, ups, oks, okcs, S1.ok, SC.ok, Value.oneCell', S1.cells, binI, isShift, eqCells, eqC, sc1L, sc1, scL, SC.sc, scV, scEnv, scEnt, scE, Le, LeB, bndOf, bindEnv, bindEnt, bindV, bind1, bind1L, bindL, bindC, imgB, bndOk, leEnv, leEnt, leAt, leE, nilE, imgs, outN, nodupN, mapEq, SC.sub, subL, S1.sub, sub1L, SV.sub, upto, mkI, keepS, idsEnv, keepN, rowF_scT, rowEq_rowF, rowEq_lit, okRow_rowF, okRow_lit, lit_scF, isRow_rowF, isRow_nil, decL_rowF, decL_nil, rowF_renf, List.getD_cons_zero, List.getD_cons_succ, sg, SC.ren, renL, S1.ren, ren1L, SV.ren, Ent.ren, renE, List.map_cons, List.map_nil, List.length_cons, List.length_nil, List.nil_append, List.cons_append, List.append_nil, Option.getD_none, Option.getD_some, Int.toNat_natCast, Int.toNat_zero, Nat.reduceAdd, Nat.reduceSub, Nat.reduceLeDiff, Nat.reduceEqDiff, Nat.reduceBEq, Nat.reduceMul, Nat.reduceLT, Nat.add_zero, Nat.zero_add, Nat.le_refl, Nat.zero_le, Nat.sub_zero, Nat.sub_self, Nat.lt_irrefl, Nat.add_lt_add_iff_left, Nat.add_eq_zero_iff, reduceIte, reduceCtorEq, and_true, true_and, and_self, and_false, false_and, forall_const, Bool.false_eq_true, Bool.true_eq_false, false_or, or_false, or_true, true_or, cond_true, cond_false, beq_self_eq_true, beq_true, beq_false, bne_iff_ne, bne_eq_false_iff_eq, beq_iff_eq, beq_eq_false_iff_ne, true_implies, false_implies, imp_self, implies_true, Bool.not_not, Bool.and_true, Bool.true_and, Bool.and_false, Bool.false_and, Bool.not_true, Bool.not_false, Bool.true_or, Bool.or_true, Bool.false_or, Bool.or_false, Bool.cond_false_right, Bool.cond_true_left, Bool.cond_true_right, Bool.cond_false_left, SV.o.injEq, SV.t.injEq, SV.g.injEq, S1.c.injEq, S1.a.injEq, SC.v.injEq, SC.n.injEq, SC.p.injEq, Value.bool.injEq, Value.int.injEq, List.cons.injEq, Option.some.injEq, Prod.mk.injEq, decide_eq_true_eq, gt_iff_lt, ge_iff_le, ne_eq, Int.reduceLE, Int.cast_ofNat_Int, Int.reduceLT, Int.reduceEq, Int.reduceMul, Int.reduceAdd, Int.reduceSub, Int.reduceNeg, Int.reduceToNat, Int.reduceNe, Int.natCast_nonneg, Int.ofNat_lt, Int.ofNat_le, not_false_eq_true, not_true_eq_false, Bool.not_eq_true', Bool.not_eq_false', Bool.or_eq_true, Bool.and_eq_true, Bool.or_eq_false_iff, decide_eq_false_iff_not, Int.zero_sub, and_imp, bne_self_eq_false, Bool.bne_true, Bool.bne_false, Int.sub_zero, eP_eta, eP_isRow, eP_sz, eP_0, eP_1, eP_2, eP_3, eI_isRow, eI_sz, eI_0, eU16_isRow, eU16_sz, eU16_0]
        refine ⟨fun hlt => ⟨hlt, hlt, by rw [flockK_len]; omega, ⟨⟨k + 1, by omega⟩, ⟨?_, ?_, ?_⟩, by simp only; omega⟩⟩, fun hn => ?_⟩
        · rw [wrapI (by omega) (by omega)]; rfl
        · simp only [flockK_len]
        · rw [flockK_succ, wrapI (by have := wz k hlt; omega) (by have := wz k hlt; omega)]
          exact rowEq_push1 eP (flockK weightsL k) ⟨(k : Int), 0, 0, weightsL.getD k eU16.dflt⟩ (fun _ => rfl)
        · obtain rfl : k = weightsL.length := by omega
          exact ⟨rfl, (rowEq_rowF _ _ _ _).2 trivial⟩
    · cases hg_
  · cases hg_
/-- wayfinder/wayfinderbase.Mod -/
def g15 : Con := fun args_ E_ nn_ => match args_ with
  | [.c (.v (.int .i64 a)), .c (.v (.int .i64 b))] => some (.q (0 < b ∧ b ≤ 9223372036854775807 ∧ -9223372036854775808 ≤ a ∧ a ≤ 9223372036854775807) (.o (.c (.v (.int .i64 (a % b))))))
  | _ => none
theorem c15 : COk Try.prog 15 g15 := by
  refine cok_q Try.func15 x15_ok (by kernel_rfl) (cok_tab cok_nil) ?_
  intro args_ E_ nn_ cr_ hg_
  unfold g15 at hg_
  split at hg_
  · rename_i a b
    cases hg_
    refine ⟨_, _, rfl, 0, [], [.c (.v (.int .i64 a)), .c (.v (.int .i64 b))], [], .o (.c (.v (.int .i64 (a % b)))), rfl, rfl, by simp only [sc1L, sc1, scL, SC.sc, scV, scEnt, scE, rowF_scT, upto, Nat.reduceLT, Nat.reduceAdd, and_self, eP_eta, eP_isRow, eP_sz, eP_0, eP_1, eP_2, eP_3, eI_isRow, eI_sz, eI_0, eU16_isRow, eU16_sz, eU16_0], by simp only [sc1L, sc1, scL, SC.sc, scV, scEnt, scE, rowF_scT, upto, Nat.reduceLT, Nat.reduceAdd, and_self, eP_eta, eP_isRow, eP_sz, eP_0, eP_1, eP_2, eP_3, eI_isRow, eI_sz, eI_0, eU16_isRow, eU16_sz, eU16_0], by simp only [sc1L, sc1, scL, SC.sc, scV, scEnt, scE, rowF_scT, upto, Nat.reduceLT, Nat.reduceAdd, and_self, eP_eta, eP_isRow, eP_sz, eP_0, eP_1, eP_2, eP_3, eI_isRow, eI_sz, eI_0, eU16_isRow, eU16_sz, eU16_0], rfl, trivial, rfl, ?_⟩
    intro hpre hlen
    refine ⟨trivial, ?_⟩
    simp (config := {maxSteps := 10000000}) only [x15, vcF, env0, vcC_skip, vcC_regT, vcC_regF, vcC_regD, vcC_seq, vcC_cond, vcC_block, vcC_loop, vcC_exit, vcC_ret, vcOps_nil, vcOps_cons, kSeq_norm, kSeq_ex, kSeq_ret, kBlock_norm, kBlock_ex, kBlock_ret, kRet_ex, kRet_norm, kRet_ret, kLoop_norm, kLoop_ex, kLoop_ret, fitQ_app, eqQ_app, vcOpsQ, vcOp, vcOpG, vcOp1, vcNil, vcEff, evQ, evQ0, evTup, tupOf, guardOf, rd, rds, lk, opQ, qMv, qBuild, qLoad1, qLoadN, qFld, qPart1, qPartN, qIx1, qIxN, qIxA, qIxS, qBin, qBinb, qEqA, qUn, qConv, qMin, qMax, qLenS, qNil, fin, evPick, evCR, evExt, recEff, effE, eBox, eAlloc, eStore, eCall, eSlit, eMks, eSlc, eSlcO, eApp, lims, takeI, rowV, rowOf, boxOf, reach, reachB, resE, ids1L, S1.ids, SC.ids, idsL, SV.ids, memN, pushR, pushN, usesX, readsX, slotsL, XO.slots, vcD, vcDgo, recOf, Rec.foot, nRes, keys, vcCond, tab, plain, rets, ret1, retV, St.put, constS, nth, takeAt, setAt, fillS, ups, oks, okcs, S1.ok, SC.ok, Value.oneCell', S1.cells, binI, isShift, eqCells, eqC, sc1L, sc1, scL, SC.sc, scV, scEnv, scEnt, scE, Le, LeB, bndOf, bindEnv, bindEnt, bindV, bind1, bind1L, bindL, bindC, imgB, bndOk, leEnv, leEnt, leAt, leE, nilE, imgs, outN, nodupN, mapEq, SC.sub, subL, S1.sub, sub1L, SV.sub, upto, mkI, keepS, idsEnv, keepN, rowF_scT, rowEq_rowF, rowEq_lit, okRow_rowF, okRow_lit, lit_scF, isRow_rowF, isRow_nil, decL_rowF, decL_nil, rowF_renf, List.getD_cons_zero, List.getD_cons_succ, sg, SC.ren, renL, S1.ren, ren1L, SV.ren, Ent.ren, renE, List.map_cons, List.map_nil, List.length_cons, List.length_nil, List.nil_append, List.cons_append, List.append_nil, Option.getD_none, Option.getD_some, Int.toNat_natCast, Int.toNat_zero, Nat.reduceAdd, Nat.reduceSub, Nat.reduceLeDiff, Nat.reduceEqDiff, Nat.reduceBEq, Nat.reduceMul, Nat.reduceLT, Nat.add_zero, Nat.zero_add, Nat.le_refl, Nat.zero_le, Nat.sub_zero, Nat.sub_self, Nat.lt_irrefl, Nat.add_lt_add_iff_left, Nat.add_eq_zero_iff, reduceIte, reduceCtorEq, and_true, true_and, and_self, and_false, false_and, forall_const, Bool.false_eq_true, Bool.true_eq_false, false_or, or_false, or_true, true_or, cond_true, cond_false, beq_self_eq_true, beq_true, beq_false, bne_iff_ne, bne_eq_false_iff_eq, beq_iff_eq, beq_eq_false_iff_ne, true_implies, false_implies, imp_self, implies_true, Bool.not_not, Bool.and_true, Bool.true_and, Bool.and_false, Bool.false_and, Bool.not_true, Bool.not_false, Bool.true_or, Bool.or_true, Bool.false_or, Bool.or_false, Bool.cond_false_right, Bool.cond_true_left, Bool.cond_true_right, Bool.cond_false_left, SV.o.injEq, SV.t.injEq, SV.g.injEq, S1.c.injEq, S1.a.injEq, SC.v.injEq, SC.n.injEq, SC.p.injEq, Value.bool.injEq, Value.int.injEq, List.cons.injEq, Option.some.injEq, Prod.mk.injEq, decide_eq_true_eq, gt_iff_lt, ge_iff_le, ne_eq, Int.reduceLE, Int.cast_ofNat_Int, Int.reduceLT, Int.reduceEq, Int.reduceMul, Int.reduceAdd, Int.reduceSub, Int.reduceNeg, Int.reduceToNat, Int.reduceNe, Int.natCast_nonneg, Int.ofNat_lt, Int.ofNat_le, not_false_eq_true, not_true_eq_false, Bool.not_eq_true', Bool.not_eq_false', Bool.or_eq_true, Bool.and_eq_true, Bool.or_eq_false_iff, decide_eq_false_iff_not, Int.zero_sub, and_imp, bne_self_eq_false, Bool.bne_true, Bool.bne_false, Int.sub_zero, eP_eta, eP_isRow, eP_sz, eP_0, eP_1, eP_2, eP_3, eI_isRow, eI_sz, eI_0, eU16_isRow, eU16_sz, eU16_0]
    obtain ⟨h1, h2, h3, h4⟩ := hpre
    have hm := emod_range (a := a) h1
    refine ⟨by omega, fun h => ?_, fun h => tmod_pos_fix h1 h⟩
    rw [tmod_neg_fix h1 h]
    exact wrapI (by omega) (by omega)
  · cases hg_
/-- wayfinder/particle.Next -/
def g31 : Con := fun args_ E_ nn_ => match args_ with
  | [.c (.v (.int .u64 s))] => some (.q (True) (.o (.c (.v (.int .u64 (nextS s))))))
  | _ => none
theorem c31 : COk Try.prog 31 g31 := by
  refine cok_q Try.func31 x31_ok (by kernel_rfl) (cok_tab cok_nil) ?_
  intro args_ E_ nn_ cr_ hg_
  unfold g31 at hg_
  split at hg_
  · rename_i s
    cases hg_
    refine ⟨_, _, rfl, 0, [], [.c (.v (.int .u64 s))], [], .o (.c (.v (.int .u64 (nextS s)))), rfl, rfl, by simp only [sc1L, sc1, scL, SC.sc, scV, scEnt, scE, rowF_scT, upto, Nat.reduceLT, Nat.reduceAdd, and_self, eP_eta, eP_isRow, eP_sz, eP_0, eP_1, eP_2, eP_3, eI_isRow, eI_sz, eI_0, eU16_isRow, eU16_sz, eU16_0], by simp only [sc1L, sc1, scL, SC.sc, scV, scEnt, scE, rowF_scT, upto, Nat.reduceLT, Nat.reduceAdd, and_self, eP_eta, eP_isRow, eP_sz, eP_0, eP_1, eP_2, eP_3, eI_isRow, eI_sz, eI_0, eU16_isRow, eU16_sz, eU16_0], by simp only [sc1L, sc1, scL, SC.sc, scV, scEnt, scE, rowF_scT, upto, Nat.reduceLT, Nat.reduceAdd, and_self, eP_eta, eP_isRow, eP_sz, eP_0, eP_1, eP_2, eP_3, eI_isRow, eI_sz, eI_0, eU16_isRow, eU16_sz, eU16_0], rfl, trivial, rfl, ?_⟩
    intro hpre hlen
    refine ⟨trivial, ?_⟩
    simp (config := {maxSteps := 10000000}) only [x31, vcF, env0, vcC_skip, vcC_regT, vcC_regF, vcC_regD, vcC_seq, vcC_cond, vcC_block, vcC_loop, vcC_exit, vcC_ret, vcOps_nil, vcOps_cons, kSeq_norm, kSeq_ex, kSeq_ret, kBlock_norm, kBlock_ex, kBlock_ret, kRet_ex, kRet_norm, kRet_ret, kLoop_norm, kLoop_ex, kLoop_ret, fitQ_app, eqQ_app, vcOpsQ, vcOp, vcOpG, vcOp1, vcNil, vcEff, evQ, evQ0, evTup, tupOf, guardOf, rd, rds, lk, opQ, qMv, qBuild, qLoad1, qLoadN, qFld, qPart1, qPartN, qIx1, qIxN, qIxA, qIxS, qBin, qBinb, qEqA, qUn, qConv, qMin, qMax, qLenS, qNil, fin, evPick, evCR, evExt, recEff, effE, eBox, eAlloc, eStore, eCall, eSlit, eMks, eSlc, eSlcO, eApp, lims, takeI, rowV, rowOf, boxOf, reach, reachB, resE, ids1L, S1.ids, SC.ids, idsL, SV.ids, memN, pushR, pushN, usesX, readsX, slotsL, XO.slots, vcD, vcDgo, recOf, Rec.foot, nRes, keys, vcCond, tab, plain, rets, ret1, retV, St.put, constS, nth, takeAt, setAt, fillS, ups, oks, okcs, S1.ok, SC.ok, Value.oneCell', S1.cells, binI, isShift, eqCells, eqC, sc1L, sc1, scL, SC.sc, scV, scEnv, scEnt, scE, Le, LeB, bndOf, bindEnv, bindEnt, bindV, bind1, bind1L, bindL, bindC, imgB, bndOk, leEnv, leEnt, leAt, leE, nilE, imgs, outN, nodupN, mapEq, SC.sub, subL, S1.sub, sub1L, SV.sub, upto, mkI, keepS, idsEnv, keepN, rowF_scT, rowEq_rowF, rowEq_lit, okRow_rowF, okRow_lit, lit_scF, isRow_rowF, isRow_nil, decL_rowF, decL_nil, rowF_renf, List.getD_cons_zero, List.getD_cons_succ, sg, SC.ren, renL, S1.ren, ren1L, SV.ren, Ent.ren, renE, List.map_cons, List.map_nil, List.length_cons, List.length_nil, List.nil_append, List.cons_append, List.append_nil, Option.getD_none, Option.getD_some, Int.toNat_natCast, Int.toNat_zero, Nat.reduceAdd, Nat.reduceSub, Nat.reduceLeDiff, Nat.reduceEqDiff, Nat.reduceBEq, Nat.reduceMul, Nat.reduceLT, Nat.add_zero, Nat.zero_add, Nat.le_refl, Nat.zero_le, Nat.sub_zero, Nat.sub_self, Nat.lt_irrefl, Nat.add_lt_add_iff_left, Nat.add_eq_zero_iff, reduceIte, reduceCtorEq, and_true, true_and, and_self, and_false, false_and, forall_const, Bool.false_eq_true, Bool.true_eq_false, false_or, or_false, or_true, true_or, cond_true, cond_false, beq_self_eq_true, beq_true, beq_false, bne_iff_ne, bne_eq_false_iff_eq, beq_iff_eq, beq_eq_false_iff_ne, true_implies, false_implies, imp_self, implies_true, Bool.not_not, Bool.and_true, Bool.true_and, Bool.and_false, Bool.false_and, Bool.not_true, Bool.not_false, Bool.true_or, Bool.or_true, Bool.false_or, Bool.or_false, Bool.cond_false_right, Bool.cond_true_left, Bool.cond_true_right, Bool.cond_false_left, SV.o.injEq, SV.t.injEq, SV.g.injEq, S1.c.injEq, S1.a.injEq, SC.v.injEq, SC.n.injEq, SC.p.injEq, Value.bool.injEq, Value.int.injEq, List.cons.injEq, Option.some.injEq, Prod.mk.injEq, decide_eq_true_eq, gt_iff_lt, ge_iff_le, ne_eq, Int.reduceLE, Int.cast_ofNat_Int, Int.reduceLT, Int.reduceEq, Int.reduceMul, Int.reduceAdd, Int.reduceSub, Int.reduceNeg, Int.reduceToNat, Int.reduceNe, Int.natCast_nonneg, Int.ofNat_lt, Int.ofNat_le, not_false_eq_true, not_true_eq_false, Bool.not_eq_true', Bool.not_eq_false', Bool.or_eq_true, Bool.and_eq_true, Bool.or_eq_false_iff, decide_eq_false_iff_not, Int.zero_sub, and_imp, bne_self_eq_false, Bool.bne_true, Bool.bne_false, Int.sub_zero, eP_eta, eP_isRow, eP_sz, eP_0, eP_1, eP_2, eP_3, eI_isRow, eI_sz, eI_0, eU16_isRow, eU16_sz, eU16_0]
    rw [u64_wrap, u64_wrap]
    unfold nextS
    omega
  · cases hg_
/-- wayfinder/particle.Draw -/
def g27 : Con := fun args_ E_ nn_ => match args_ with
  | [.c (.v (.int .u64 s)), .c (.v (.int .i64 n))] => some (.q (True) (.t [.c (.v (.int .i64 ((drawS s n).1))), .c (.v (.int .u64 ((drawS s n).2)))]))
  | _ => none
theorem c27 : COk Try.prog 27 g27 := by
  refine cok_q Try.func27 x27_ok (by kernel_rfl) (cok_tab (cok_cons c31 cok_nil)) ?_
  intro args_ E_ nn_ cr_ hg_
  unfold g27 at hg_
  split at hg_
  · rename_i s n
    cases hg_
    refine ⟨_, _, rfl, 0, [], [.c (.v (.int .u64 s)), .c (.v (.int .i64 n))], [], .t [.c (.v (.int .i64 ((drawS s n).1))), .c (.v (.int .u64 ((drawS s n).2)))], rfl, rfl, by simp only [sc1L, sc1, scL, SC.sc, scV, scEnt, scE, rowF_scT, upto, Nat.reduceLT, Nat.reduceAdd, and_self, eP_eta, eP_isRow, eP_sz, eP_0, eP_1, eP_2, eP_3, eI_isRow, eI_sz, eI_0, eU16_isRow, eU16_sz, eU16_0], by simp only [sc1L, sc1, scL, SC.sc, scV, scEnt, scE, rowF_scT, upto, Nat.reduceLT, Nat.reduceAdd, and_self, eP_eta, eP_isRow, eP_sz, eP_0, eP_1, eP_2, eP_3, eI_isRow, eI_sz, eI_0, eU16_isRow, eU16_sz, eU16_0], by simp only [sc1L, sc1, scL, SC.sc, scV, scEnt, scE, rowF_scT, upto, Nat.reduceLT, Nat.reduceAdd, and_self, eP_eta, eP_isRow, eP_sz, eP_0, eP_1, eP_2, eP_3, eI_isRow, eI_sz, eI_0, eU16_isRow, eU16_sz, eU16_0], rfl, trivial, rfl, ?_⟩
    intro hpre hlen
    refine ⟨trivial, ?_⟩
    simp (config := {maxSteps := 10000000}) only [x27, vcF, env0, vcC_skip, vcC_regT, vcC_regF, vcC_regD, vcC_seq, vcC_cond, vcC_block, vcC_loop, vcC_exit, vcC_ret, vcOps_nil, vcOps_cons, kSeq_norm, kSeq_ex, kSeq_ret, kBlock_norm, kBlock_ex, kBlock_ret, kRet_ex, kRet_norm, kRet_ret, kLoop_norm, kLoop_ex, kLoop_ret, fitQ_app, eqQ_app, vcOpsQ, vcOp, vcOpG, vcOp1, vcNil, vcEff, evQ, evQ0, evTup, tupOf, guardOf, rd, rds, lk, opQ, qMv, qBuild, qLoad1, qLoadN, qFld, qPart1, qPartN, qIx1, qIxN, qIxA, qIxS, qBin, qBinb, qEqA, qUn, qConv, qMin, qMax, qLenS, qNil, fin, evPick, evCR, evExt, recEff, effE, eBox, eAlloc, eStore, eCall, eSlit, eMks, eSlc, eSlcO, eApp, lims, takeI, rowV, rowOf, boxOf, reach, reachB, resE, ids1L, S1.ids, SC.ids, idsL, SV.ids, memN, pushR, pushN, usesX, readsX, slotsL, XO.slots, vcD, vcDgo, recOf, Rec.foot, nRes, keys, vcCond, tab, plain, rets, ret1, retV, St.put, constS, nth, takeAt, setAt, fillS, ups, oks, okcs, S1.ok, SC.ok, Value.oneCell', S1.cells, binI, isShift, eqCells, eqC, sc1L, sc1, scL, SC.sc, scV, scEnv, scEnt, scE, Le, LeB, bndOf, bindEnv, bindEnt, bindV, bind1, bind1L, bindL, bindC, imgB, bndOk, leEnv, leEnt, leAt, leE, nilE, imgs, outN, nodupN, mapEq, SC.sub, subL, S1.sub, sub1L, SV.sub, upto, mkI, keepS, idsEnv, keepN, rowF_scT, rowEq_rowF, rowEq_lit, okRow_rowF, okRow_lit, lit_scF, isRow_rowF, isRow_nil, decL_rowF, decL_nil, rowF_renf, List.getD_cons_zero, List.getD_cons_succ, sg, SC.ren, renL, S1.ren, ren1L, SV.ren, Ent.ren, renE, List.map_cons, List.map_nil, List.length_cons, List.length_nil, List.nil_append, List.cons_append, List.append_nil, Option.getD_none, Option.getD_some, Int.toNat_natCast, Int.toNat_zero, Nat.reduceAdd, Nat.reduceSub, Nat.reduceLeDiff, Nat.reduceEqDiff, Nat.reduceBEq, Nat.reduceMul, Nat.reduceLT, Nat.add_zero, Nat.zero_add, Nat.le_refl, Nat.zero_le, Nat.sub_zero, Nat.sub_self, Nat.lt_irrefl, Nat.add_lt_add_iff_left, Nat.add_eq_zero_iff, reduceIte, reduceCtorEq, and_true, true_and, and_self, and_false, false_and, forall_const, Bool.false_eq_true, Bool.true_eq_false, false_or, or_false, or_true, true_or, cond_true, cond_false, beq_self_eq_true, beq_true, beq_false, bne_iff_ne, bne_eq_false_iff_eq, beq_iff_eq, beq_eq_false_iff_ne, true_implies, false_implies, imp_self, implies_true, Bool.not_not, Bool.and_true, Bool.true_and, Bool.and_false, Bool.false_and, Bool.not_true, Bool.not_false, Bool.true_or, Bool.or_true, Bool.false_or, Bool.or_false, Bool.cond_false_right, Bool.cond_true_left, Bool.cond_true_right, Bool.cond_false_left, SV.o.injEq, SV.t.injEq, SV.g.injEq, S1.c.injEq, S1.a.injEq, SC.v.injEq, SC.n.injEq, SC.p.injEq, Value.bool.injEq, Value.int.injEq, List.cons.injEq, Option.some.injEq, Prod.mk.injEq, decide_eq_true_eq, gt_iff_lt, ge_iff_le, ne_eq, Int.reduceLE, Int.cast_ofNat_Int, Int.reduceLT, Int.reduceEq, Int.reduceMul, Int.reduceAdd, Int.reduceSub, Int.reduceNeg, Int.reduceToNat, Int.reduceNe, Int.natCast_nonneg, Int.ofNat_lt, Int.ofNat_le, not_false_eq_true, not_true_eq_false, Bool.not_eq_true', Bool.not_eq_false', Bool.or_eq_true, Bool.and_eq_true, Bool.or_eq_false_iff, decide_eq_false_iff_not, Int.zero_sub, and_imp, bne_self_eq_false, Bool.bne_true, Bool.bne_false, Int.sub_zero, eP_eta, eP_isRow, eP_sz, eP_0, eP_1, eP_2, eP_3, eI_isRow, eI_sz, eI_0, eU16_isRow, eU16_sz, eU16_0, g31]
    unfold drawS
    refine ⟨fun h => by rw [if_pos h]; exact ⟨rfl, rfl⟩, fun h g => ?_⟩
    rw [if_neg (by omega)]
    have hb := nextS_bd s
    have hu : IntKind.u64.wrap n = n := by rw [u64_wrap]; omega
    have h33 : (nextS s).fdiv (2 ^ min 33 IntKind.u64.bits) = nextS s / 8589934592 := by
      rw [Int.fdiv_eq_ediv_of_nonneg _ (by decide)]
      rfl
    rw [hu, h33, tmod_pos (by omega)]
    have hm := emod_range (a := nextS s / 8589934592) (b := n) (by omega)
    exact ⟨by omega, by simp only; rw [wrapI (by omega) (by omega)], rfl⟩
  · cases hg_
/-- wayfinder/particle.lowest -/
def g46 : Con := fun args_ E_ nn_ => match args_ with
  | [.c (.v (.int .i64 n)), .c (.v (.int .i64 d))] => some (.q (-4611686018427387904 ≤ n ∧ n ≤ 4611686018427387904 ∧ 0 < d ∧ d ≤ 4611686018427387904) (.o (.a [.v (.int .i64 (lowF n d).1), .v (.int .i64 (lowF n d).2)])))
  | _ => none
theorem c46 : COk Try.prog 46 g46 := by
  refine cok_q Try.func46 x46_ok (by kernel_rfl) (cok_tab cok_nil) ?_
  intro args_ E_ nn_ cr_ hg_
  unfold g46 at hg_
  split at hg_
  · rename_i n d
    cases hg_
    refine ⟨_, _, rfl, 0, [], [.c (.v (.int .i64 n)), .c (.v (.int .i64 d))], [], .o (.a [.v (.int .i64 (lowF n d).1), .v (.int .i64 (lowF n d).2)]), rfl, rfl, by simp only [sc1L, sc1, scL, SC.sc, scV, scEnt, scE, rowF_scT, upto, Nat.reduceLT, Nat.reduceAdd, and_self, eP_eta, eP_isRow, eP_sz, eP_0, eP_1, eP_2, eP_3, eI_isRow, eI_sz, eI_0, eU16_isRow, eU16_sz, eU16_0], by simp only [sc1L, sc1, scL, SC.sc, scV, scEnt, scE, rowF_scT, upto, Nat.reduceLT, Nat.reduceAdd, and_self, eP_eta, eP_isRow, eP_sz, eP_0, eP_1, eP_2, eP_3, eI_isRow, eI_sz, eI_0, eU16_isRow, eU16_sz, eU16_0], by simp only [sc1L, sc1, scL, SC.sc, scV, scEnt, scE, rowF_scT, upto, Nat.reduceLT, Nat.reduceAdd, and_self, eP_eta, eP_isRow, eP_sz, eP_0, eP_1, eP_2, eP_3, eI_isRow, eI_sz, eI_0, eU16_isRow, eU16_sz, eU16_0], rfl, trivial, rfl, ?_⟩
    intro hpre hlen
    refine ⟨trivial, ?_⟩
    obtain ⟨n1, n2, d1, d2⟩ := hpre
    simp (config := {maxSteps := 10000000}) only [x46, vcF, env0, vcC_skip, vcC_regT, vcC_regF, vcC_regD, vcC_seq, vcC_cond, vcC_block, vcC_loop, vcC_exit, vcC_ret, vcOps_nil, vcOps_cons, kSeq_norm, kSeq_ex, kSeq_ret, kBlock_norm, kBlock_ex, kBlock_ret, kRet_ex, kRet_norm, kRet_ret, kLoop_norm, kLoop_ex, kLoop_ret, fitQ_app, eqQ_app, vcOpsQ, vcOp, vcOpG, vcOp1, vcNil, vcEff, evQ, evQ0, evTup, tupOf, guardOf, rd, rds, lk, opQ, qMv, qBuild, qLoad1, qLoadN, qFld, qPart1, qPartN, qIx1, qIxN, qIxA, qIxS, qBin, qBinb, qEqA, qUn, qConv, qMin, qMax, qLenS, qNil, fin, evPick, evCR, evExt, recEff, effE, eBox, eAlloc, eStore, eCall, eSlit, eMks, eSlc, eSlcO, eApp, lims, takeI, rowV, rowOf, boxOf, reach, reachB, resE, ids1L, S1.ids, SC.ids, idsL, SV.ids, memN, pushR, pushN, usesX, readsX, slotsL, XO.slots, vcD, vcDgo, recOf, Rec.foot, nRes, keys, vcCond, tab, plain, rets, ret1, retV, St.put, constS, nth, takeAt, setAt, fillS, ups, oks, okcs, S1.ok, SC.ok, Value.oneCell', S1.cells, binI, isShift, eqCells, eqC, sc1L, sc1, scL, SC.sc, scV, scEnv, scEnt, scE, Le, LeB, bndOf, bindEnv, bindEnt, bindV, bind1, bind1L, bindL, bindC, imgB, bndOk, leEnv, leEnt, leAt, leE, nilE, imgs, outN, nodupN, mapEq, SC.sub, subL, S1.sub, sub1L, SV.sub, upto, mkI, keepS, idsEnv, keepN, rowF_scT, rowEq_rowF, rowEq_lit, okRow_rowF, okRow_lit, lit_scF, isRow_rowF, isRow_nil, decL_rowF, decL_nil, rowF_renf, List.getD_cons_zero, List.getD_cons_succ, sg, SC.ren, renL, S1.ren, ren1L, SV.ren, Ent.ren, renE, List.map_cons, List.map_nil, List.length_cons, List.length_nil, List.nil_append, List.cons_append, List.append_nil, Option.getD_none, Option.getD_some, Int.toNat_natCast, Int.toNat_zero, Nat.reduceAdd, Nat.reduceSub, Nat.reduceLeDiff, Nat.reduceEqDiff, Nat.reduceBEq, Nat.reduceMul, Nat.reduceLT, Nat.add_zero, Nat.zero_add, Nat.le_refl, Nat.zero_le, Nat.sub_zero, Nat.sub_self, Nat.lt_irrefl, Nat.add_lt_add_iff_left, Nat.add_eq_zero_iff, reduceIte, reduceCtorEq, and_true, true_and, and_self, and_false, false_and, forall_const, Bool.false_eq_true, Bool.true_eq_false, false_or, or_false, or_true, true_or, cond_true, cond_false, beq_self_eq_true, beq_true, beq_false, bne_iff_ne, bne_eq_false_iff_eq, beq_iff_eq, beq_eq_false_iff_ne, true_implies, false_implies, imp_self, implies_true, Bool.not_not, Bool.and_true, Bool.true_and, Bool.and_false, Bool.false_and, Bool.not_true, Bool.not_false, Bool.true_or, Bool.or_true, Bool.false_or, Bool.or_false, Bool.cond_false_right, Bool.cond_true_left, Bool.cond_true_right, Bool.cond_false_left, SV.o.injEq, SV.t.injEq, SV.g.injEq, S1.c.injEq, S1.a.injEq, SC.v.injEq, SC.n.injEq, SC.p.injEq, Value.bool.injEq, Value.int.injEq, List.cons.injEq, Option.some.injEq, Prod.mk.injEq, decide_eq_true_eq, gt_iff_lt, ge_iff_le, ne_eq, Int.reduceLE, Int.cast_ofNat_Int, Int.reduceLT, Int.reduceEq, Int.reduceMul, Int.reduceAdd, Int.reduceSub, Int.reduceNeg, Int.reduceToNat, Int.reduceNe, Int.natCast_nonneg, Int.ofNat_lt, Int.ofNat_le, not_false_eq_true, not_true_eq_false, Bool.not_eq_true', Bool.not_eq_false', Bool.or_eq_true, Bool.and_eq_true, Bool.or_eq_false_iff, decide_eq_false_iff_not, Int.zero_sub, and_imp, bne_self_eq_false, Bool.bne_true, Bool.bne_false, Int.sub_zero, eP_eta, eP_isRow, eP_sz, eP_0, eP_1, eP_2, eP_3, eI_isRow, eI_sz, eI_0, eU16_isRow, eU16_sz, eU16_0]
    refine vcLoop_upd (α := {p : Int × Int // 0 ≤ p.1 ∧ 0 ≤ p.2 ∧ p.1 ≤ 4611686018427387904 ∧ p.2 ≤ 4611686018427387904 ∧ Int.gcd p.1 p.2 = Int.gcd n d}) [0, 1, 4] 0 (fun s => [(5, .o (.c (.v (.int .i64 (s.1.1))))), (6, .o (.c (.v (.int .i64 (s.1.2)))))]) (fun s => []) (fun s => s.1.2.toNat) ⟨(max n (-n), d), by simp only; omega, by simp only; omega, by simp only; omega, by simp only; omega, gcd_max n d⟩ ?_ ?_
    · simp only [vcF, env0, vcC_skip, vcC_regT, vcC_regF, vcC_regD, vcC_seq, vcC_cond, vcC_block, vcC_loop, vcC_exit, vcC_ret, vcOps_nil, vcOps_cons, kSeq_norm, kSeq_ex, kSeq_ret, kBlock_norm, kBlock_ex, kBlock_ret, kRet_ex, kRet_norm, kRet_ret, kLoop_norm, kLoop_ex, kLoop_ret, fitQ_app, eqQ_app, vcOpsQ, vcOp, vcOpG, vcOp1, vcNil, vcEff, evQ, evQ0, evTup, tupOf, guardOf, rd, rds, lk, opQ, qMv, qBuild, qLoad1, qLoadN, qFld, qPart1, qPartN, qIx1, qIxN, qIxA, qIxS, qBin, qBinb, qEqA, qUn, qConv, qMin, qMax, qLenS, qNil, fin, evPick, evCR, evExt, recEff, effE, eBox, eAlloc, eStore, eCall, eSlit, eMks, eSlc, eSlcO, eApp, lims, takeI, rowV, rowOf, boxOf, reach, reachB, resE, ids1L, S1.ids, SC.ids, idsL, SV.ids, memN, pushR, pushN, usesX, readsX, slotsL, XO.slots, vcD, vcDgo, recOf, Rec.foot, nRes, keys, vcCond, tab, plain, rets, ret1, retV, St.put, constS, nth, takeAt, setAt, fillS, ups, oks, okcs, S1.ok, SC.ok, Value.oneCell', S1.cells, binI, isShift, eqCells, eqC, sc1L, sc1, scL, SC.sc, scV, scEnv, scEnt, scE, Le, LeB, bndOf, bindEnv, bindEnt, bindV, bind1, bind1L, bindL, bindC, imgB, bndOk, leEnv, leEnt, leAt, leE, nilE, imgs, outN, nodupN, mapEq, SC.sub, subL, S1.sub, sub1L, SV.sub, upto, mkI, keepS, idsEnv, keepN, rowF_scT, rowEq_rowF, rowEq_lit, okRow_rowF, okRow_lit, lit_scF, isRow_rowF, isRow_nil, decL_rowF, decL_nil, rowF_renf, List.getD_cons_zero, List.getD_cons_succ, sg, SC.ren, renL, S1.ren, ren1L, SV.ren, Ent.ren, renE, List.map_cons, List.map_nil, List.length_cons, List.length_nil, List.nil_append, List.cons_append, List.append_nil, Option.getD_none, Option.getD_some, Int.toNat_natCast, Int.toNat_zero, Nat.reduceAdd, Nat.reduceSub, Nat.reduceLeDiff, Nat.reduceEqDiff, Nat.reduceBEq, Nat.reduceMul, Nat.reduceLT, Nat.add_zero, Nat.zero_add, Nat.le_refl, Nat.zero_le, Nat.sub_zero, Nat.sub_self, Nat.lt_irrefl, Nat.add_lt_add_iff_left, Nat.add_eq_zero_iff, reduceIte, reduceCtorEq, and_true, true_and, and_self, and_false, false_and, forall_const, Bool.false_eq_true, Bool.true_eq_false, false_or, or_false, or_true, true_or, cond_true, cond_false, beq_self_eq_true, beq_true, beq_false, bne_iff_ne, bne_eq_false_iff_eq, beq_iff_eq, beq_eq_false_iff_ne, true_implies, false_implies, imp_self, implies_true, Bool.not_not, Bool.and_true, Bool.true_and, Bool.and_false, Bool.false_and, Bool.not_true, Bool.not_false, Bool.true_or, Bool.or_true, Bool.false_or, Bool.or_false, Bool.cond_false_right, Bool.cond_true_left, Bool.cond_true_right, Bool.cond_false_left, SV.o.injEq, SV.t.injEq, SV.g.injEq, S1.c.injEq, S1.a.injEq, SC.v.injEq, SC.n.injEq, SC.p.injEq, Value.bool.injEq, Value.int.injEq, List.cons.injEq, Option.some.injEq, Prod.mk.injEq, decide_eq_true_eq, gt_iff_lt, ge_iff_le, ne_eq, Int.reduceLE, Int.cast_ofNat_Int, Int.reduceLT, Int.reduceEq, Int.reduceMul, Int.reduceAdd, Int.reduceSub, Int.reduceNeg, Int.reduceToNat, Int.reduceNe, Int.natCast_nonneg, Int.ofNat_lt, Int.ofNat_le, not_false_eq_true, not_true_eq_false, Bool.not_eq_true', Bool.not_eq_false', Bool.or_eq_true, Bool.and_eq_true, Bool.or_eq_false_iff, decide_eq_false_iff_not, Int.zero_sub, and_imp, bne_self_eq_false, Bool.bne_true, Bool.bne_false, Int.sub_zero, eP_eta, eP_isRow, eP_sz, eP_0, eP_1, eP_2, eP_3, eI_isRow, eI_sz, eI_0, eU16_isRow, eU16_sz, eU16_0]
      rw [wrapI (by omega) (by omega)]
    · rintro ⟨⟨x, y⟩, h1, h2, h3, h4, h5⟩
      simp only at h1 h2 h3 h4 h5
      simp only [x46L0, vcF, env0, vcC_skip, vcC_regT, vcC_regF, vcC_regD, vcC_seq, vcC_cond, vcC_block, vcC_loop, vcC_exit, vcC_ret, vcOps_nil, vcOps_cons, kSeq_norm, kSeq_ex, kSeq_ret, kBlock_norm, kBlock_ex, kBlock_ret, kRet_ex, kRet_norm, kRet_ret, kLoop_norm, kLoop_ex, kLoop_ret, fitQ_app, eqQ_app, vcOpsQ, vcOp, vcOpG, vcOp1, vcNil, vcEff, evQ, evQ0, evTup, tupOf, guardOf, rd, rds, lk, opQ, qMv, qBuild, qLoad1, qLoadN, qFld, qPart1, qPartN, qIx1, qIxN, qIxA, qIxS, qBin, qBinb, qEqA, qUn, qConv, qMin, qMax, qLenS, qNil, fin, evPick, evCR, evExt, recEff, effE, eBox, eAlloc, eStore, eCall, eSlit, eMks, eSlc, eSlcO, eApp, lims, takeI, rowV, rowOf, boxOf, reach, reachB, resE, ids1L, S1.ids, SC.ids, idsL, SV.ids, memN, pushR, pushN, usesX, readsX, slotsL, XO.slots, vcD, vcDgo, recOf, Rec.foot, nRes, keys, vcCond, tab, plain, rets, ret1, retV, St.put, constS, nth, takeAt, setAt, fillS, ups, oks, okcs, S1.ok, SC.ok, Value.oneCell', S1.cells, binI, isShift, eqCells, eqC, sc1L, sc1, scL, SC.sc, scV, scEnv, scEnt, scE, Le, LeB, bndOf, bindEnv, bindEnt, bindV, bind1, bind1L, bindL, bindC, imgB, bndOk, leEnv, leEnt, leAt, leE, nilE, imgs, outN, nodupN, mapEq, SC.sub, subL, S1.sub, sub1L, SV.sub, upto, mkI, keepS, idsEnv, keepN, rowF_scT, rowEq_rowF, rowEq_lit, okRow_rowF, okRow_lit, lit_scF, isRow_rowF, isRow_nil, decL_rowF, decL_nil, rowF_renf, List.getD_cons_zero, List.getD_cons_succ, sg, SC.ren, renL, S1.ren, ren1L, SV.ren, Ent.ren, renE, List.map_cons, List.map_nil, List.length_cons, List.length_nil, List.nil_append, List.cons_append, List.append_nil, Option.getD_none, Option.getD_some, Int.toNat_natCast, Int.toNat_zero, Nat.reduceAdd, Nat.reduceSub, Nat.reduceLeDiff, Nat.reduceEqDiff, Nat.reduceBEq, Nat.reduceMul, Nat.reduceLT, Nat.add_zero, Nat.zero_add, Nat.le_refl, Nat.zero_le, Nat.sub_zero, Nat.sub_self, Nat.lt_irrefl, Nat.add_lt_add_iff_left, Nat.add_eq_zero_iff, reduceIte, reduceCtorEq, and_true, true_and, and_self, and_false, false_and, forall_const, Bool.false_eq_true, Bool.true_eq_false, false_or, or_false, or_true, true_or, cond_true, cond_false, beq_self_eq_true, beq_true, beq_false, bne_iff_ne, bne_eq_false_iff_eq, beq_iff_eq, beq_eq_false_iff_ne, true_implies, false_implies, imp_self, implies_true, Bool.not_not, Bool.and_true, Bool.true_and, Bool.and_false, Bool.false_and, Bool.not_true, Bool.not_false, Bool.true_or, Bool.or_true, Bool.false_or, Bool.or_false, Bool.cond_false_right, Bool.cond_true_left, Bool.cond_true_right, Bool.cond_false_left, SV.o.injEq, SV.t.injEq, SV.g.injEq, S1.c.injEq, S1.a.injEq, SC.v.injEq, SC.n.injEq, SC.p.injEq, Value.bool.injEq, Value.int.injEq, List.cons.injEq, Option.some.injEq, Prod.mk.injEq, decide_eq_true_eq, gt_iff_lt, ge_iff_le, ne_eq, Int.reduceLE, Int.cast_ofNat_Int, Int.reduceLT, Int.reduceEq, Int.reduceMul, Int.reduceAdd, Int.reduceSub, Int.reduceNeg, Int.reduceToNat, Int.reduceNe, Int.natCast_nonneg, Int.ofNat_lt, Int.ofNat_le, not_false_eq_true, not_true_eq_false, Bool.not_eq_true', Bool.not_eq_false', Bool.or_eq_true, Bool.and_eq_true, Bool.or_eq_false_iff, decide_eq_false_iff_not, Int.zero_sub, and_imp, bne_self_eq_false, Bool.bne_true, Bool.bne_false, Int.sub_zero, eP_eta, eP_isRow, eP_sz, eP_0, eP_1, eP_2, eP_3, eI_isRow, eI_sz, eI_0, eU16_isRow, eU16_sz, eU16_0]
      refine ⟨fun hy => ⟨hy, ?_⟩, fun hy => ?_⟩
      · have hm := emod_range (a := x) (b := y) (by omega)
        have ht := tmod_pos (a := x) (b := y) h1
        exact ⟨⟨(y, x.tmod y), by simp only; omega, by simp only; omega, by simp only; omega, by simp only; omega, by simp only; rw [gcd_tmod h1, h5]⟩, ⟨rfl, rfl⟩, by simp only; omega⟩
      · subst hy
        have hx : x = (Int.gcd n d : Int) := by rw [← h5, Int.gcd_zero_right]; omega
        have hgd : (Int.gcd n d : Int) ∣ d := Int.gcd_dvd_right _ _
        have hgn : (Int.gcd n d : Int) ∣ n := Int.gcd_dvd_left _ _
        have hpos : (0 : Int) < (Int.gcd n d : Int) := by
          have : Int.gcd n d ≠ 0 := fun h => by rw [Int.gcd_eq_zero_iff] at h; omega
          omega
        rw [hx, tdiv_dvd hpos hgd, tdiv_dvd hpos hgn]
        have b1 := div_bd hpos n1 n2 (by omega)
        have b2 := div_bd (a := d) (B := 4611686018427387904) hpos (by omega) d2 (by omega)
        rw [wrapI (by omega) (by omega), wrapI (by omega) (by omega)]
        exact ⟨by omega, by omega, rfl, rfl, rfl⟩
  · cases hg_
/-- wayfinder/particle.measured -/
def g45 : Con := fun args_ E_ nn_ => match args_ with
  | [.c (.n l)] => (match rowOf E_ l with
    | some (l_n, l_s, l_f) => some (.q (isRow eP l_n l_s l_f ∧ True) (.t [.c (.v (.int .i64 (if measE (decL eP l_n l_f) = 0 then sumW (decL eP l_n l_f) else 0))), .c (.v (.int .i64 (measE (decL eP l_n l_f))))]))
    | none => none)
  | _ => none
theorem c45 : COk Try.prog 45 g45 := by
  refine cok_q Try.func45 x45_ok (by kernel_rfl) (cok_tab (cok_cons c44 (cok_cons c14 cok_nil))) ?_
  intro args_ E_ nn_ cr_ hg_
  unfold g45 at hg_
  split at hg_
  · rename_i l
    split at hg_
    · rename_i l_n l_s l_f h_l
      cases hg_
      refine ⟨_, _, rfl, 1, [l], [.c (.n 0)], [(0, .ro (decL eP l_n l_f).length eP.sz (rowF eP (decL eP l_n l_f)))], .t [.c (.v (.int .i64 (if measE (decL eP l_n l_f) = 0 then sumW (decL eP l_n l_f) else 0))), .c (.v (.int .i64 (measE (decL eP l_n l_f))))], rfl, rfl, by simp only [sc1L, sc1, scL, SC.sc, scV, scEnt, scE, rowF_scT, upto, Nat.reduceLT, Nat.reduceAdd, and_self, eP_eta, eP_isRow, eP_sz, eP_0, eP_1, eP_2, eP_3, eI_isRow, eI_sz, eI_0, eU16_isRow, eU16_sz, eU16_0], by simp only [sc1L, sc1, scL, SC.sc, scV, scEnt, scE, rowF_scT, upto, Nat.reduceLT, Nat.reduceAdd, and_self, eP_eta, eP_isRow, eP_sz, eP_0, eP_1, eP_2, eP_3, eI_isRow, eI_sz, eI_0, eU16_isRow, eU16_sz, eU16_0], by simp only [sc1L, sc1, scL, SC.sc, scV, scEnt, scE, rowF_scT, upto, Nat.reduceLT, Nat.reduceAdd, and_self, eP_eta, eP_isRow, eP_sz, eP_0, eP_1, eP_2, eP_3, eI_isRow, eI_sz, eI_0, eU16_isRow, eU16_sz, eU16_0], rfl, ⟨inE0_row h_l, trivial⟩, rfl, ?_⟩
      intro hpre hlen
      obtain ⟨i_l, hpre⟩ := hpre
      refine ⟨⟨inE_row h_l i_l, trivial⟩, ?_⟩
      have z_l := lens_row (E := eP) hlen h_l
      clear i_l
      generalize decL eP l_n l_f = lL at *
      clear h_l
      simp (config := {maxSteps := 10000000}) only [x45, vcF, env0, vcC_skip, vcC_regT, vcC_regF, vcC_regD, vcC_seq, vcC_cond, vcC_block, vcC_loop, vcC_exit, vcC_ret, vcOps_nil, vcOps_cons, kSeq_norm, kSeq_ex, kSeq_ret, kBlock_norm, kBlock_ex, kBlock_ret, kRet_ex, kRet_norm, kRet_ret, kLoop_norm, kLoop_ex, kLoop_ret, fitQ_app, eqQ_app, vcOpsQ, vcOp, vcOpG, vcOp1, vcNil, vcEff, evQ, evQ0, evTup, tupOf, guardOf, rd, rds, lk, opQ, qMv, qBuild, qLoad1, qLoadN, qFld, qPart1, qPartN, qIx1, qIxN, qIxA, qIxS, qBin, qBinb, qEqA, qUn, qConv, qMin, qMax, qLenS, qNil, fin, evPick, evCR, evExt, recEff, effE, eBox, eAlloc, eStore, eCall, eSlit, eMks, eSlc, eSlcO, eApp, lims, takeI, rowV, rowOf, boxOf, reach, reachB, resE, ids1L, S1.ids, SC.ids, idsL, SV.ids, memN, pushR, pushN, usesX, readsX, slotsL, XO.slots, vcD, vcDgo, recOf, Rec.foot, nRes, keys, vcCond, tab, plain, rets, ret1, retV, St.put, constS, nth, takeAt, setAt, fillS, ups, oks, okcs, S1.ok, SC.ok, Value.oneCell', S1.cells, binI, isShift, eqCells, eqC, sc1L, sc1, scL, SC.sc, scV, scEnv, scEnt, scE, Le, LeB, bndOf, bindEnv, bindEnt, bindV, bind1, bind1L, bindL, bindC, imgB, bndOk, leEnv, leEnt, leAt, leE, nilE, imgs, outN, nodupN, mapEq, SC.sub, subL, S1.sub, sub1L, SV.sub, upto, mkI, keepS, idsEnv, keepN, rowF_scT, rowEq_rowF, rowEq_lit, okRow_rowF, okRow_lit, lit_scF, isRow_rowF, isRow_nil, decL_rowF, decL_nil, rowF_renf, List.getD_cons_zero, List.getD_cons_succ, sg, SC.ren, renL, S1.ren, ren1L, SV.ren, Ent.ren, renE, List.map_cons, List.map_nil, List.length_cons, List.length_nil, List.nil_append, List.cons_append, List.append_nil, Option.getD_none, Option.getD_some, Int.toNat_natCast, Int.toNat_zero, Nat.reduceAdd, Nat.reduceSub, Nat.reduceLeDiff, Nat.reduceEqDiff, Nat.reduceBEq, Nat.reduceMul, Nat.reduceLT, Nat.add_zero, Nat.zero_add, Nat.le_refl, Nat.zero_le, Nat.sub_zero, Nat.sub_self, Nat.lt_irrefl, Nat.add_lt_add_iff_left, Nat.add_eq_zero_iff, reduceIte, reduceCtorEq, and_true, true_and, and_self, and_false, false_and, forall_const, Bool.false_eq_true, Bool.true_eq_false, false_or, or_false, or_true, true_or, cond_true, cond_false, beq_self_eq_true, beq_true, beq_false, bne_iff_ne, bne_eq_false_iff_eq, beq_iff_eq, beq_eq_false_iff_ne, true_implies, false_implies, imp_self, implies_true, Bool.not_not, Bool.and_true, Bool.true_and, Bool.and_false, Bool.false_and, Bool.not_true, Bool.not_false, Bool.true_or, Bool.or_true, Bool.false_or, Bool.or_false, Bool.cond_false_right, Bool.cond_true_left, Bool.cond_true_right, Bool.cond_false_left, SV.o.injEq, SV.t.injEq, SV.g.injEq, S1.c.injEq, S1.a.injEq, SC.v.injEq, SC.n.injEq, SC.p.injEq, Value.bool.injEq, Value.int.injEq, List.cons.injEq, Option.some.injEq, Prod.mk.injEq, decide_eq_true_eq, gt_iff_lt, ge_iff_le, ne_eq, Int.reduceLE, Int.cast_ofNat_Int, Int.reduceLT, Int.reduceEq, Int.reduceMul, Int.reduceAdd, Int.reduceSub, Int.reduceNeg, Int.reduceToNat, Int.reduceNe, Int.natCast_nonneg, Int.ofNat_lt, Int.ofNat_le, not_false_eq_true, not_true_eq_false, Bool.not_eq_true', Bool.not_eq_false', Bool.or_eq_true, Bool.and_eq_true, Bool.or_eq_false_iff, decide_eq_false_iff_not, Int.zero_sub, and_imp, bne_self_eq_false, Bool.bne_true, Bool.bne_false, Int.sub_zero, eP_eta, eP_isRow, eP_sz, eP_0, eP_1, eP_2, eP_3, eI_isRow, eI_sz, eI_0, eU16_isRow, eU16_sz, eU16_0, g44, g14]
      unfold measE totalL
      refine ⟨fun h => by rw [h]; simp, fun h => ?_⟩
      rw [h]
      simp only [if_true]
      refine ⟨fun h2 => by rw [h2]; simp, fun h2 => by simp [h2]⟩
    · cases hg_
  · cases hg_
/-- wayfinder/particle.Effective -/
def g17 : Con := fun args_ E_ nn_ => match args_ with
  | [.c (.n l)] => (match rowOf E_ l with
    | some (l_n, l_s, l_f) => some (.q (isRow eP l_n l_s l_f ∧ True) (.t [.a [.v (.int .i64 (effF (decL eP l_n l_f)).1.1), .v (.int .i64 (effF (decL eP l_n l_f)).1.2)], .c (.v (.int .i64 ((effF (decL eP l_n l_f)).2)))]))
    | none => none)
  | _ => none
theorem c17 : COk Try.prog 17 g17 := by
  refine cok_q Try.func17 x17_ok (by kernel_rfl) (cok_tab (cok_cons c45 (cok_cons c46 cok_nil))) ?_
  intro args_ E_ nn_ cr_ hg_
  unfold g17 at hg_
  split at hg_
  · rename_i l
    split at hg_
    · rename_i l_n l_s l_f h_l
      cases hg_
      refine ⟨_, _, rfl, 1, [l], [.c (.n 0)], [(0, .ro (decL eP l_n l_f).length eP.sz (rowF eP (decL eP l_n l_f)))], .t [.a [.v (.int .i64 (effF (decL eP l_n l_f)).1.1), .v (.int .i64 (effF (decL eP l_n l_f)).1.2)], .c (.v (.int .i64 ((effF (decL eP l_n l_f)).2)))], rfl, rfl, by simp only [sc1L, sc1, scL, SC.sc, scV, scEnt, scE, rowF_scT, upto, Nat.reduceLT, Nat.reduceAdd, and_self, eP_eta, eP_isRow, eP_sz, eP_0, eP_1, eP_2, eP_3, eI_isRow, eI_sz, eI_0, eU16_isRow, eU16_sz, eU16_0], by simp only [sc1L, sc1, scL, SC.sc, scV, scEnt, scE, rowF_scT, upto, Nat.reduceLT, Nat.reduceAdd, and_self, eP_eta, eP_isRow, eP_sz, eP_0, eP_1, eP_2, eP_3, eI_isRow, eI_sz, eI_0, eU16_isRow, eU16_sz, eU16_0], by simp only [sc1L, sc1, scL, SC.sc, scV, scEnt, scE, rowF_scT, upto, Nat.reduceLT, Nat.reduceAdd, and_self, eP_eta, eP_isRow, eP_sz, eP_0, eP_1, eP_2, eP_3, eI_isRow, eI_sz, eI_0, eU16_isRow, eU16_sz, eU16_0], rfl, ⟨inE0_row h_l, trivial⟩, rfl, ?_⟩
      intro hpre hlen
      obtain ⟨i_l, hpre⟩ := hpre
      refine ⟨⟨inE_row h_l i_l, trivial⟩, ?_⟩
      have z_l := lens_row (E := eP) hlen h_l
      clear i_l
      generalize decL eP l_n l_f = lL at *
      clear h_l
      simp (config := {maxSteps := 10000000}) only [x17, vcF, env0, vcC_skip, vcC_regT, vcC_regF, vcC_regD, vcC_seq, vcC_cond, vcC_block, vcC_loop, vcC_exit, vcC_ret, vcOps_nil, vcOps_cons, kSeq_norm, kSeq_ex, kSeq_ret, kBlock_norm, kBlock_ex, kBlock_ret, kRet_ex, kRet_norm, kRet_ret, kLoop_norm, kLoop_ex, kLoop_ret, fitQ_app, eqQ_app, vcOpsQ, vcOp, vcOpG, vcOp1, vcNil, vcEff, evQ, evQ0, evTup, tupOf, guardOf, rd, rds, lk, opQ, qMv, qBuild, qLoad1, qLoadN, qFld, qPart1, qPartN, qIx1, qIxN, qIxA, qIxS, qBin, qBinb, qEqA, qUn, qConv, qMin, qMax, qLenS, qNil, fin, evPick, evCR, evExt, recEff, effE, eBox, eAlloc, eStore, eCall, eSlit, eMks, eSlc, eSlcO, eApp, lims, takeI, rowV, rowOf, boxOf, reach, reachB, resE, ids1L, S1.ids, SC.ids, idsL, SV.ids, memN, pushR, pushN, usesX, readsX, slotsL, XO.slots, vcD, vcDgo, recOf, Rec.foot, nRes, keys, vcCond, tab, plain, rets, ret1, retV, St.put, constS, nth, takeAt, setAt, fillS, ups, oks, okcs, S1.ok, SC.ok, Value.oneCell', S1.cells, binI, isShift, eqCells, eqC, sc1L, sc1, scL, SC.sc, scV, scEnv, scEnt, scE, Le, LeB, bndOf, bindEnv, bindEnt, bindV, bind1, bind1L, bindL, bindC, imgB, bndOk, leEnv, leEnt, leAt, leE, nilE, imgs, outN, nodupN, mapEq, SC.sub, subL, S1.sub, sub1L, SV.sub, upto, mkI, keepS, idsEnv, keepN, rowF_scT, rowEq_rowF, rowEq_lit, okRow_rowF, okRow_lit, lit_scF, isRow_rowF, isRow_nil, decL_rowF, decL_nil, rowF_renf, List.getD_cons_zero, List.getD_cons_succ, sg, SC.ren, renL, S1.ren, ren1L, SV.ren, Ent.ren, renE, List.map_cons, List.map_nil, List.length_cons, List.length_nil, List.nil_append, List.cons_append, List.append_nil, Option.getD_none, Option.getD_some, Int.toNat_natCast, Int.toNat_zero, Nat.reduceAdd, Nat.reduceSub, Nat.reduceLeDiff, Nat.reduceEqDiff, Nat.reduceBEq, Nat.reduceMul, Nat.reduceLT, Nat.add_zero, Nat.zero_add, Nat.le_refl, Nat.zero_le, Nat.sub_zero, Nat.sub_self, Nat.lt_irrefl, Nat.add_lt_add_iff_left, Nat.add_eq_zero_iff, reduceIte, reduceCtorEq, and_true, true_and, and_self, and_false, false_and, forall_const, Bool.false_eq_true, Bool.true_eq_false, false_or, or_false, or_true, true_or, cond_true, cond_false, beq_self_eq_true, beq_true, beq_false, bne_iff_ne, bne_eq_false_iff_eq, beq_iff_eq, beq_eq_false_iff_ne, true_implies, false_implies, imp_self, implies_true, Bool.not_not, Bool.and_true, Bool.true_and, Bool.and_false, Bool.false_and, Bool.not_true, Bool.not_false, Bool.true_or, Bool.or_true, Bool.false_or, Bool.or_false, Bool.cond_false_right, Bool.cond_true_left, Bool.cond_true_right, Bool.cond_false_left, SV.o.injEq, SV.t.injEq, SV.g.injEq, S1.c.injEq, S1.a.injEq, SC.v.injEq, SC.n.injEq, SC.p.injEq, Value.bool.injEq, Value.int.injEq, List.cons.injEq, Option.some.injEq, Prod.mk.injEq, decide_eq_true_eq, gt_iff_lt, ge_iff_le, ne_eq, Int.reduceLE, Int.cast_ofNat_Int, Int.reduceLT, Int.reduceEq, Int.reduceMul, Int.reduceAdd, Int.reduceSub, Int.reduceNeg, Int.reduceToNat, Int.reduceNe, Int.natCast_nonneg, Int.ofNat_lt, Int.ofNat_le, not_false_eq_true, not_true_eq_false, Bool.not_eq_true', Bool.not_eq_false', Bool.or_eq_true, Bool.and_eq_true, Bool.or_eq_false_iff, decide_eq_false_iff_not, Int.zero_sub, and_imp, bne_self_eq_false, Bool.bne_true, Bool.bne_false, Int.sub_zero, eP_eta, eP_isRow, eP_sz, eP_0, eP_1, eP_2, eP_3, eI_isRow, eI_sz, eI_0, eU16_isRow, eU16_sz, eU16_0, g45, g46]
      refine ⟨fun h => by unfold effF; rw [if_neg h]; exact ⟨⟨rfl, rfl⟩, rfl⟩, fun h => ?_⟩
      obtain ⟨hv, h0, htt⟩ := meas0 h
      have hs := sum_bd hv
      have hl := valid_len hv
      refine vcLoop_upd (α := {k : Nat // k ≤ lL.length}) [2, 4, 18, 19] 0 (fun s => [(6, .o (.c (.v (.int .i64 (preS lL s.1))))), (20, .o (.c (.v (.int .i64 (s.1 : Nat)))))]) (fun s => []) (fun s => lL.length - s.1) ⟨0, by omega⟩ ?_ ?_
      · simp only [vcF, env0, vcC_skip, vcC_regT, vcC_regF, vcC_regD, vcC_seq, vcC_cond, vcC_block, vcC_loop, vcC_exit, vcC_ret, vcOps_nil, vcOps_cons, kSeq_norm, kSeq_ex, kSeq_ret, kBlock_norm, kBlock_ex, kBlock_ret, kRet_ex, kRet_norm, kRet_ret, kLoop_norm, kLoop_ex, kLoop_ret, fitQ_app, eqQ_app, vcOpsQ, vcOp, vcOpG, vcOp1, vcNil, vcEff, evQ, evQ0, evTup, tupOf, guardOf, rd, rds, lk, opQ, qMv, qBuild, qLoad1, qLoadN, qFld, qPart1, qPartN, qIx1, qIxN, qIxA, qIxS, qBin, qBinb, qEqA, qUn, qConv, qMin, qMax, qLenS, qNil, fin, evPick, evCR, evExt, recEff, effE, eBox, eAlloc, eStore, eCall, eSlit, eMks, eSlc, eSlcO, eApp, lims, takeI, rowV, rowOf, boxOf, reach, reachB, resE, ids1L, S1.ids, SC.ids, idsL, SV.ids, memN, pushR, pushN, usesX, readsX, slotsL, XO.slots, vcD, vcDgo, recOf, Rec.foot, nRes, keys, vcCond, tab, plain, rets, ret1, retV, St.put, constS, nth, takeAt, setAt, fillS, ups, oks, okcs, S1.ok, SC.ok, Value.oneCell', S1.cells, binI, isShift, eqCells, eqC, sc1L, sc1, scL, SC.sc, scV, scEnv, scEnt, scE, Le, LeB, bndOf, bindEnv, bindEnt, bindV, bind1, bind1L, bindL, bindC, imgB, bndOk, leEnv, leEnt, leAt, leE, nilE, imgs, outN, nodupN, mapEq, SC.sub, subL, S1.sub, sub1L, SV.sub, upto, mkI, keepS, idsEnv, keepN, rowF_scT, rowEq_rowF, rowEq_lit, okRow_rowF, okRow_lit, lit_scF, isRow_rowF, isRow_nil, decL_rowF, decL_nil, rowF_renf, List.getD_cons_zero, List.getD_cons_succ, sg, SC.ren, renL, S1.ren, ren1L, SV.ren, Ent.ren, renE, List.map_cons, List.map_nil, List.length_cons, List.length_nil, List.nil_append, List.cons_append, List.append_nil, Option.getD_none, Option.getD_some, Int.toNat_natCast, Int.toNat_zero, Nat.reduceAdd, Nat.reduceSub, Nat.reduceLeDiff, Nat.reduceEqDiff, Nat.reduceBEq, Nat.reduceMul, Nat.reduceLT, Nat.add_zero, Nat.zero_add, Nat.le_refl, Nat.zero_le, Nat.sub_zero, Nat.sub_self, Nat.lt_irrefl, Nat.add_lt_add_iff_left, Nat.add_eq_zero_iff, reduceIte, reduceCtorEq, and_true, true_and, and_self, and_false, false_and, forall_const, Bool.false_eq_true, Bool.true_eq_false, false_or, or_false, or_true, true_or, cond_true, cond_false, beq_self_eq_true, beq_true, beq_false, bne_iff_ne, bne_eq_false_iff_eq, beq_iff_eq, beq_eq_false_iff_ne, true_implies, false_implies, imp_self, implies_true, Bool.not_not, Bool.and_true, Bool.true_and, Bool.and_false, Bool.false_and, Bool.not_true, Bool.not_false, Bool.true_or, Bool.or_true, Bool.false_or, Bool.or_false, Bool.cond_false_right, Bool.cond_true_left, Bool.cond_true_right, Bool.cond_false_left, SV.o.injEq, SV.t.injEq, SV.g.injEq, S1.c.injEq, S1.a.injEq, SC.v.injEq, SC.n.injEq, SC.p.injEq, Value.bool.injEq, Value.int.injEq, List.cons.injEq, Option.some.injEq, Prod.mk.injEq, decide_eq_true_eq, gt_iff_lt, ge_iff_le, ne_eq, Int.reduceLE, Int.cast_ofNat_Int, Int.reduceLT, Int.reduceEq, Int.reduceMul, Int.reduceAdd, Int.reduceSub, Int.reduceNeg, Int.reduceToNat, Int.reduceNe, Int.natCast_nonneg, Int.ofNat_lt, Int.ofNat_le, not_false_eq_true, not_true_eq_false, Bool.not_eq_true', Bool.not_eq_false', Bool.or_eq_true, Bool.and_eq_true, Bool.or_eq_false_iff, decide_eq_false_iff_not, Int.zero_sub, and_imp, bne_self_eq_false, Bool.bne_true, Bool.bne_false, Int.sub_zero, eP_eta, eP_isRow, eP_sz, eP_0, eP_1, eP_2, eP_3, eI_isRow, eI_sz, eI_0, eU16_isRow, eU16_sz, eU16_0, g45, g46, preS_zero]
      · rintro ⟨k, hk⟩
        simp only [x17L0, vcF, env0, vcC_skip, vcC_regT, vcC_regF, vcC_regD, vcC_seq, vcC_cond, vcC_block, vcC_loop, vcC_exit, vcC_ret, vcOps_nil, vcOps_cons, kSeq_norm, kSeq_ex, kSeq_ret, kBlock_norm, kBlock_ex, kBlock_ret, kRet_ex, kRet_norm, kRet_ret, kLoop_norm, kLoop_ex, kLoop_ret, fitQ_app, eqQ_app, vcOpsQ, vcOp, vcOpG, vcOp1, vcNil, vcEff, evQ, evQ0, evTup, tupOf, guardOf, rd, rds, lk, opQ, qMv, qBuild, qLoad1, qLoadN, qFld, qPart1, qPartN, qIx1, qIxN, qIxA, qIxS, qBin, qBinb, qEqA, qUn, qConv, qMin, qMax, qLenS, qNil, fin, evPick, evCR, evExt, recEff, effE, eBox, eAlloc, eStore, eCall, eSlit, eMks, eSlc, eSlcO, eApp, lims, takeI, rowV, rowOf, boxOf, reach, reachB, resE, ids1L, S1.ids, SC.ids, idsL, SV.ids, memN, pushR, pushN, usesX, readsX, slotsL, XO.slots, vcD, vcDgo, recOf, Rec.foot, nRes, keys, vcCond, tab, plain, rets, ret1, retV, St.put, constS, nth, takeAt, setAt, fillS, ups, oks, okcs, S1.ok, SC.ok, Value.oneCell', S1.cells, binI, isShift, eqCells, eqC, sc1L, sc1, scL, SC.sc, scV, scEnv, scEnt, scE, Le, LeB, bndOf, bindEnv, bindEnt, bindV, bind1, bind1L, bindL, bindC, imgB, bndOk, leEnv, leEnt, leAt, leE, nilE, imgs, outN, nodupN, mapEq, SC.sub, subL, S1.sub, sub1L, SV.sub, upto, mkI, keepS, idsEnv, keepN, rowF_scT, rowEq_rowF, rowEq_lit, okRow_rowF, okRow_lit, lit_scF, isRow_rowF, isRow_nil, decL_rowF, decL_nil, rowF_renf, List.getD_cons_zero, List.getD_cons_succ, sg, SC.ren, renL, S1.ren, ren1L, SV.ren, Ent.ren, renE, List.map_cons, List.map_nil, List.length_cons, List.length_nil, List.nil_append, List.cons_append, List.append_nil, Option.getD_none, Option.getD_some, Int.toNat_natCast, Int.toNat_zero, Nat.reduceAdd, Nat.reduceSub, Nat.reduceLeDiff, Nat.reduceEqDiff, Nat.reduceBEq, Nat.reduceMul, Nat.reduceLT, Nat.add_zero, Nat.zero_add, Nat.le_refl, Nat.zero_le, Nat.sub_zero, Nat.sub_self, Nat.lt_irrefl, Nat.add_lt_add_iff_left, Nat.add_eq_zero_iff, reduceIte, reduceCtorEq, and_true, true_and, and_self, and_false, false_and, forall_const, Bool.false_eq_true, Bool.true_eq_false, false_or, or_false, or_true, true_or, cond_true, cond_false, beq_self_eq_true, beq_true, beq_false, bne_iff_ne, bne_eq_false_iff_eq, beq_iff_eq, beq_eq_false_iff_ne, true_implies, false_implies, imp_self, implies_true, Bool.not_not, Bool.and_true, Bool.true_and, Bool.and_false, Bool.false_and, Bool.not_true, Bool.not_false, Bool.true_or, Bool.or_true, Bool.false_or, Bool.or_false, Bool.cond_false_right, Bool.cond_true_left, Bool.cond_true_right, Bool.cond_false_left, SV.o.injEq, SV.t.injEq, SV.g.injEq, S1.c.injEq, S1.a.injEq, SC.v.injEq, SC.n.injEq, SC.p.injEq, Value.bool.injEq, Value.int.injEq, List.cons.injEq, Option.some.injEq, Prod.mk.injEq, decide_eq_true_eq, gt_iff_lt, ge_iff_le, ne_eq, Int.reduceLE, Int.cast_ofNat_Int, Int.reduceLT, Int.reduceEq, Int.reduceMul, Int.reduceAdd, Int.reduceSub, Int.reduceNeg, Int.reduceToNat, Int.reduceNe, Int.natCast_nonneg, Int.ofNat_lt, Int.ofNat_le, not_false_eq_true, not_true_eq_false, Bool.not_eq_true', Bool.not_eq_false', Bool.or_eq_true, Bool.and_eq_true, Bool.or_eq_false_iff, decide_eq_false_iff_not, Int.zero_sub, and_imp, bne_self_eq_false, Bool.bne_true, Bool.bne_false, Int.sub_zero, eP_eta, eP_isRow, eP_sz, eP_0, eP_1, eP_2, eP_3, eI_isRow, eI_sz, eI_0, eU16_isRow, eU16_sz, eU16_0, g45, g46]
        refine ⟨fun hlt => ?_, fun hn => ?_⟩
        · have hw := (valid_at hv hlt).2
          have hq := sq_bd hw.1 hw.2
          have hb := preS_bd hv (k := k) hk
          rw [wrapI (n := (k : Int) + 1) (by omega) (by omega), wrapI (n := (lL.getD k eP.dflt).W * (lL.getD k eP.dflt).W) (by omega) (by omega), wrapI (n := preS lL k + (lL.getD k eP.dflt).W * (lL.getD k eP.dflt).W) (by omega) (by omega)]
          exact ⟨hlt, hlt, ⟨⟨k + 1, by omega⟩, ⟨(preS_succ lL k).symm, rfl⟩, by simp only; omega⟩⟩
        · obtain rfl : k = lL.length := by omega
          have hb := preS_bd hv (k := lL.length) (Nat.le_refl _)
          have hpos := hb.2.2 (by have : pre lL lL.length = sumW lL := rfl; omega)
          have hsq := mul_bd hs.1 hs.2 hs.1 hs.2
          rw [if_pos h, wrapI (n := sumW lL * sumW lL) (by omega) (by omega)]
          unfold effF
          rw [if_pos h]
          exact ⟨⟨by omega, by omega, hpos, by omega⟩, ⟨rfl, rfl⟩, rfl⟩
    · cases hg_
  · cases hg_
end Go.Proofs.Ytgdglgcfmebonaa
