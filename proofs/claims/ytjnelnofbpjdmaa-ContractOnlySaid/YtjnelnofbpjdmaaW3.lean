/- A part of the proof of a statement about this seat: how a function is stepped through, and plain laws. No conditions. -/
import Derived.Test.YtjnelnofbpjdmaaRows
import Derived.Test.YtjnelnofbpjdmaaSz3
import Derived.Test.YtjnelnofbpjdmaaW2
import Derived.KernelRfl
set_option linter.unusedVariables false
set_option linter.unusedSimpArgs false
set_option maxRecDepth 20000
namespace Go.Proofs.Ytjnelnofbpjdmaa
open Go.Sx Go.Way
structure BB where
  X0 : Int
  Y0 : Int
  X1 : Int
  Y1 : Int
  F : Int
  N : Int
def eB : Enc BB where
  sz := 6
  ks := [.i .i64, .i .i64, .i .i64, .i .i64, .i .i64, .i .i64]
  wf := fun x => ((-9223372036854775808) ≤ x.X0 ∧ x.X0 ≤ 9223372036854775807) ∧ ((-9223372036854775808) ≤ x.Y0 ∧ x.Y0 ≤ 9223372036854775807) ∧ ((-9223372036854775808) ≤ x.X1 ∧ x.X1 ≤ 9223372036854775807) ∧ ((-9223372036854775808) ≤ x.Y1 ∧ x.Y1 ≤ 9223372036854775807) ∧ ((-9223372036854775808) ≤ x.F ∧ x.F ≤ 9223372036854775807) ∧ ((-9223372036854775808) ≤ x.N ∧ x.N ≤ 9223372036854775807)
  enc := fun x => [.v (.int .i64 x.X0), .v (.int .i64 x.Y0), .v (.int .i64 x.X1), .v (.int .i64 x.Y1), .v (.int .i64 x.F), .v (.int .i64 x.N)]
  dec := fun f => ⟨intC (f 0), intC (f 1), intC (f 2), intC (f 3), intC (f 4), intC (f 5)⟩
  dflt := ⟨0, 0, 0, 0, 0, 0⟩
  flat := by
    intro x c hc
    simp only [List.mem_cons, List.not_mem_nil, or_false] at hc
    rcases hc with rfl | rfl | rfl | rfl | rfl | rfl <;> exact ⟨_, rfl, rfl⟩
  len := fun x => rfl
  onto := by
    intro cs h
    obtain ⟨n0, cs0, rfl, a0, b0, h0⟩ := kind_i h
    obtain ⟨n1, cs1, rfl, a1, b1, h1⟩ := kind_i h0
    obtain ⟨n2, cs2, rfl, a2, b2, h2⟩ := kind_i h1
    obtain ⟨n3, cs3, rfl, a3, b3, h3⟩ := kind_i h2
    obtain ⟨n4, cs4, rfl, a4, b4, h4⟩ := kind_i h3
    obtain ⟨n5, cs5, rfl, a5, b5, h5⟩ := kind_i h4
    obtain rfl := kind_n h5
    exact ⟨⟨n0, n1, n2, n3, n4, n5⟩, rfl, ⟨a0, b0⟩, ⟨a1, b1⟩, ⟨a2, b2⟩, ⟨a3, b3⟩, ⟨a4, b4⟩, ⟨a5, b5⟩⟩
  de := by
    intro x f h
    have h0 := h 0 (by decide)
    simp only [nth] at h0
    have h1 := h 1 (by decide)
    simp only [nth] at h1
    have h2 := h 2 (by decide)
    simp only [nth] at h2
    have h3 := h 3 (by decide)
    simp only [nth] at h3
    have h4 := h 4 (by decide)
    simp only [nth] at h4
    have h5 := h 5 (by decide)
    simp only [nth] at h5
    simp only [h0, h1, h2, h3, h4, h5, intC, boolC]
theorem eB_sz : eB.sz = 6 := rfl
theorem eB_0 (L : List BB) (e : Nat) : rowF eB L e 0 = .v (.int .i64 (L.getD e eB.dflt).X0) := rfl
theorem eB_1 (L : List BB) (e : Nat) : rowF eB L e 1 = .v (.int .i64 (L.getD e eB.dflt).Y0) := rfl
theorem eB_2 (L : List BB) (e : Nat) : rowF eB L e 2 = .v (.int .i64 (L.getD e eB.dflt).X1) := rfl
theorem eB_3 (L : List BB) (e : Nat) : rowF eB L e 3 = .v (.int .i64 (L.getD e eB.dflt).Y1) := rfl
theorem eB_4 (L : List BB) (e : Nat) : rowF eB L e 4 = .v (.int .i64 (L.getD e eB.dflt).F) := rfl
theorem eB_5 (L : List BB) (e : Nat) : rowF eB L e 5 = .v (.int .i64 (L.getD e eB.dflt).N) := rfl
theorem eB_eta (x : BB) : BB.mk x.X0 x.Y0 x.X1 x.Y1 x.F x.N = x := rfl
theorem eB_isRow (L : List BB) : isRow eB L.length 6 (rowF eB L) ↔ True := isRow_rowF L
attribute [push_cast] eB_eta eB_isRow eB_sz eB_0 eB_1 eB_2 eB_3 eB_4 eB_5
def ixOf {α : Type} (p : α → Bool) (L : List α) : Int := match L.findIdx? p with | some i => i | none => -1
theorem ixOf_some {α : Type} {p : α → Bool} {L : List α} {d : α} {k : Nat} (hk : k < L.length) (h1 : ∀ i, i < k → p (L.getD i d) = false) (h2 : p (L.getD k d) = true) : ixOf p L = k := by
  have hg : ∀ i (h : i < L.length), L.getD i d = L[i] := fun i h => by rw [List.getD_eq_getElem?_getD, List.getElem?_eq_getElem h]; rfl
  have : L.findIdx? p = some k := by
    rw [List.findIdx?_eq_some_iff_getElem]
    refine ⟨hk, by rw [← hg k hk]; exact h2, fun j hj => ?_⟩
    have := h1 j hj
    rw [hg j (by omega)] at this
    simp [this]
  unfold ixOf; rw [this]
theorem ixOf_none {α : Type} {p : α → Bool} {L : List α} {d : α} (h1 : ∀ i, i < L.length → p (L.getD i d) = false) : ixOf p L = -1 := by
  have hg : ∀ i (h : i < L.length), L.getD i d = L[i] := fun i h => by rw [List.getD_eq_getElem?_getD, List.getElem?_eq_getElem h]; rfl
  have : L.findIdx? p = none := by
    rw [List.findIdx?_eq_none_iff]
    intro x hx
    obtain ⟨i, hi, rfl⟩ := List.getElem_of_mem hx
    have := h1 i hi
    rw [hg i hi] at this
    exact this
  unfold ixOf; rw [this]
theorem ixOf_any {α : Type} (p : α → Bool) (L : List α) : decide (0 ≤ ixOf p L) = L.any p := by
  unfold ixOf
  cases h : L.findIdx? p with
  | none =>
    rw [List.findIdx?_eq_none_iff] at h
    have : L.any p = false := by rw [List.any_eq_false]; intro x hx; simp [h x hx]
    rw [this]; rfl
  | some i =>
    rw [List.findIdx?_eq_some_iff_getElem] at h
    obtain ⟨hi, h1, _⟩ := h
    have : L.any p = true := List.any_eq_true.2 ⟨L[i], List.getElem_mem hi, h1⟩
    rw [this]
    simp
/-! Boxes -/
def boxB (X0 Y0 X1 Y1 F N : Int) : Bool := decide (-1048576 ≤ X0 ∧ X0 ≤ X1 ∧ X1 ≤ 1048576 ∧ -1048576 ≤ Y0 ∧ Y0 ≤ Y1 ∧ Y1 ≤ 1048576 ∧ 0 ≤ F ∧ F < 256 ∧ 1 ≤ N ∧ N ≤ 256 ∧ (F = 0 ∨ N < 256))
def arcB (F N : Int) : Bool := decide (0 ≤ F ∧ F < 256 ∧ 1 ≤ N ∧ N ≤ 256 ∧ (F = 0 ∨ N < 256))
def wideB (n : Int) : Bool := decide (n < -1048576) || decide (1048576 < n)
def hasB (X0 Y0 X1 Y1 F N X Y H : Int) : Bool := boxB X0 Y0 X1 Y1 F N && decide (X0 ≤ X ∧ X ≤ X1 ∧ Y0 ≤ Y ∧ Y ≤ Y1 ∧ (H - F) % 256 < N)
theorem box_parts {X0 Y0 X1 Y1 F N : Int} (h : boxB X0 Y0 X1 Y1 F N = true) : -1048576 ≤ X0 ∧ X0 ≤ X1 ∧ X1 ≤ 1048576 ∧ -1048576 ≤ Y0 ∧ Y0 ≤ Y1 ∧ Y1 ≤ 1048576 ∧ 0 ≤ F ∧ F < 256 ∧ 1 ≤ N ∧ N ≤ 256 ∧ (F = 0 ∨ N < 256) := by
  unfold boxB at h; simpa using h
theorem box_of {X0 Y0 X1 Y1 F N : Int} (h : -1048576 ≤ X0 ∧ X0 ≤ X1 ∧ X1 ≤ 1048576 ∧ -1048576 ≤ Y0 ∧ Y0 ≤ Y1 ∧ Y1 ≤ 1048576 ∧ 0 ≤ F ∧ F < 256 ∧ 1 ≤ N ∧ N ≤ 256 ∧ (F = 0 ∨ N < 256)) : boxB X0 Y0 X1 Y1 F N = true := decide_eq_true h
theorem any4 (p : Int → Bool) (a b c d : Int) : [a, b, c, d].any p = (p a || (p b || (p c || p d))) := by simp [List.any]
theorem wrap_256 (x : Int) : IntKind.i64.wrap x % 256 = x % 256 := by
  rw [IntKind.wrap_i64]; omega
def arcL (F N : Int) : List Int := if arcB F N = true then (List.range N.toNat).map fun i => (F + (i : Nat)) % 256 else []
theorem arcL_len {F N : Int} (h : arcB F N = true) : (arcL F N).length = N.toNat := by unfold arcL; rw [if_pos h]; simp
theorem arcL_at {F N : Int} (h : arcB F N = true) {i : Nat} (hi : i < N.toNat) : (arcL F N).getD i eI.dflt = (F + (i : Nat)) % 256 := by
  unfold arcL; rw [if_pos h, List.getD_eq_getElem?_getD, List.getElem?_map, List.getElem?_range hi]; rfl
/-- The list while it is filled. -/
def arcS (F : Int) (n k : Nat) : List Int := (List.range n).map fun i => if i < k then (F + (i : Nat)) % 256 else 0
theorem arcS_len (F : Int) (n k : Nat) : (arcS F n k).length = n := by simp [arcS]
theorem arcS_zero (F : Int) (n : Nat) : arcS F n 0 = List.replicate n 0 := by
  apply List.ext_getElem
  · simp [arcS]
  · intro i h1 h2; simp [arcS]
theorem arcS_all {F N : Int} (h : arcB F N = true) : arcS F N.toNat N.toNat = arcL F N := by
  unfold arcS arcL; rw [if_pos h]
  apply List.map_congr_left
  intro i hi
  rw [if_pos (List.mem_range.1 hi)]
theorem arcS_succ {F : Int} {n k : Nat} (h : k < n) : arcS F n (k + 1) = (arcS F n k).set k ((F + (k : Nat)) % 256) := by
  apply List.ext_getElem
  · simp [arcS]
  · intro i h1 h2
    rw [List.getElem_set]
    simp only [arcS, List.getElem_map, List.getElem_range]
    by_cases hk : i = k
    · subst hk; simp
    · by_cases hlt : i < k
      · rw [if_pos (by omega), if_neg (by omega), if_pos hlt]
      · rw [if_neg (by omega), if_neg (by omega), if_neg hlt]
instance : DecidableEq BB := fun a b => by
  cases a with
  | mk a1 a2 a3 a4 a5 a6 =>
  cases b with
  | mk b1 b2 b3 b4 b5 b6 =>
  exact if h : a1 = b1 ∧ a2 = b2 ∧ a3 = b3 ∧ a4 = b4 ∧ a5 = b5 ∧ a6 = b6 then isTrue (by obtain ⟨rfl, rfl, rfl, rfl, rfl, rfl⟩ := h; rfl) else isFalse (by intro e; cases e; exact h ⟨rfl, rfl, rfl, rfl, rfl, rfl⟩)
def BB.ok (b : BB) : Bool := boxB b.X0 b.Y0 b.X1 b.Y1 b.F b.N
def volI (X0 Y0 X1 Y1 F N : Int) : Int := if boxB X0 Y0 X1 Y1 F N = true then (X1 - X0 + 1) * (Y1 - Y0 + 1) * N else 0
/-- How much a side weighs in the choice of the side that is halved. -/
def szI (n u : Int) : Int := if n = 1 then 0 else n * u
/-- The two halves. -/
def halfA (b : BB) : BB :=
  if szI (b.Y1 - b.Y0 + 1) 1 ≤ szI (b.X1 - b.X0 + 1) 1 ∧ szI b.N 8 ≤ szI (b.X1 - b.X0 + 1) 1 then ⟨b.X0, b.Y0, b.X0 + (b.X1 - b.X0 + 1) / 2 - 1, b.Y1, b.F, b.N⟩
  else if szI b.N 8 ≤ szI (b.Y1 - b.Y0 + 1) 1 then ⟨b.X0, b.Y0, b.X1, b.Y0 + (b.Y1 - b.Y0 + 1) / 2 - 1, b.F, b.N⟩
  else ⟨b.X0, b.Y0, b.X1, b.Y1, b.F, b.N / 2⟩
def halfB (b : BB) : BB :=
  if szI (b.Y1 - b.Y0 + 1) 1 ≤ szI (b.X1 - b.X0 + 1) 1 ∧ szI b.N 8 ≤ szI (b.X1 - b.X0 + 1) 1 then ⟨b.X0 + (b.X1 - b.X0 + 1) / 2, b.Y0, b.X1, b.Y1, b.F, b.N⟩
  else if szI b.N 8 ≤ szI (b.Y1 - b.Y0 + 1) 1 then ⟨b.X0, b.Y0 + (b.Y1 - b.Y0 + 1) / 2, b.X1, b.Y1, b.F, b.N⟩
  else ⟨b.X0, b.Y0, b.X1, b.Y1, (b.F + b.N / 2) % 256, b.N - b.N / 2⟩
def canB (b : BB) : Bool := decide (2 ≤ volI b.X0 b.Y0 b.X1 b.Y1 b.F b.N)
def zBB : BB := ⟨0, 0, 0, 0, 0, 0⟩
def splA (b : BB) : BB := if canB b = true then halfA b else zBB
def splB (b : BB) : BB := if canB b = true then halfB b else zBB
theorem mul_pos3 {a b c : Int} (ha : 1 ≤ a) (hb : 1 ≤ b) (hc : 1 ≤ c) : 1 ≤ a * b * c ∧ (a * b * c = 1 → a = 1 ∧ b = 1 ∧ c = 1) := by
  have h1 : 1 * 1 ≤ a * b := Int.mul_le_mul ha hb (by omega) (by omega)
  have h2 : 1 * 1 ≤ a * b * c := Int.mul_le_mul (by omega) hc (by omega) (by omega)
  refine ⟨by omega, fun h => ?_⟩
  have h3 : a * b * 1 ≤ a * b * c := Int.mul_le_mul_of_nonneg_left hc (by omega)
  have h4 : a * b = 1 := by omega
  have h5 : a * 1 ≤ a * b := Int.mul_le_mul_of_nonneg_left hb (by omega)
  have h6 : 1 * b ≤ a * b := Int.mul_le_mul_of_nonneg_right ha (by omega)
  rw [h4, Int.one_mul] at h
  omega
theorem can_iff {b : BB} : canB b = true ↔ b.ok = true ∧ (b.X0 < b.X1 ∨ b.Y0 < b.Y1 ∨ 1 < b.N) := by
  unfold canB volI BB.ok
  rw [decide_eq_true_eq]
  constructor
  · intro h
    split at h
    · rename_i hb
      have p := box_parts hb
      refine ⟨hb, ?_⟩
      by_cases q : b.X0 < b.X1 ∨ b.Y0 < b.Y1 ∨ 1 < b.N
      · exact q
      · have e1 : b.X1 - b.X0 + 1 = 1 := by omega
        have e2 : b.Y1 - b.Y0 + 1 = 1 := by omega
        have e3 : b.N = 1 := by omega
        rw [e1, e2, e3] at h; omega
    · omega
  · rintro ⟨hb, q⟩
    have p := box_parts hb
    rw [if_pos hb]
    have m := mul_pos3 (a := b.X1 - b.X0 + 1) (b := b.Y1 - b.Y0 + 1) (c := b.N) (by omega) (by omega) (by omega)
    generalize (b.X1 - b.X0 + 1) * (b.Y1 - b.Y0 + 1) * b.N = V at *
    by_cases e : V = 1
    · have := m.2 e; omega
    · omega
theorem sz_or (n u : Int) : (n = 1 ∧ szI n u = 0) ∨ (n ≠ 1 ∧ szI n u = n * u) := by
  unfold szI
  split
  · rename_i h; exact .inl ⟨h, rfl⟩
  · rename_i h; exact .inr ⟨h, rfl⟩
theorem half_ok {b : BB} (h : canB b = true) : (halfA b).ok = true ∧ (halfB b).ok = true := by
  obtain ⟨hb, q⟩ := can_iff.1 h
  have p := box_parts hb
  unfold halfA halfB
  have s1 := sz_or (b.X1 - b.X0 + 1) 1
  have s2 := sz_or (b.Y1 - b.Y0 + 1) 1
  have s3 := sz_or b.N 8
  generalize szI (b.X1 - b.X0 + 1) 1 = sx at *
  generalize szI (b.Y1 - b.Y0 + 1) 1 = sy at *
  generalize szI b.N 8 = sh at *
  by_cases c1 : sy ≤ sx ∧ sh ≤ sx
  · rw [if_pos c1, if_pos c1]
    exact ⟨box_of (by simp only; omega), box_of (by simp only; omega)⟩
  · rw [if_neg c1, if_neg c1]
    by_cases c2 : sh ≤ sy
    · rw [if_pos c2, if_pos c2]
      exact ⟨box_of (by simp only; omega), box_of (by simp only; omega)⟩
    · rw [if_neg c2, if_neg c2]
      exact ⟨box_of (by simp only; omega), box_of (by simp only; omega)⟩
def setB (T : List BB) : Bool := decide (T.length ≤ 16) && T.all BB.ok
def posedB (x y h : Int) : Bool := decide ((-1048576 ≤ x ∧ x ≤ 1048576) ∧ (-1048576 ≤ y ∧ y ≤ 1048576) ∧ 0 ≤ h ∧ h < 256)
theorem getB_in {T : List BB} {k : Nat} (h : k < T.length) : T.getD k eB.dflt ∈ T := by
  rw [List.getD_eq_getElem?_getD, List.getElem?_eq_getElem h]; exact List.getElem_mem h
theorem memB_at {T : List BB} {c : BB} (h : c ∈ T) : ∃ k, k < T.length ∧ T.getD k eB.dflt = c := by
  obtain ⟨k, hk, he⟩ := List.mem_iff_getElem.1 h
  exact ⟨k, hk, by rw [← he]; simp [List.getD, hk]⟩
def x101 : XFn := ⟨9, (.seq (.reg false [K1 2 .mv (.bool false)]) (.seq (.reg false [O1 3 .mv 0, K2 4 (.bin .lss) 3 (iV (-1048576)), O1 5 .mv 4, G1 6 .mv 0 5 false, GK 7 (.bin .gtr) 6 (iV 1048576) 5 false, ⟨(some 8), .pick, [(.t 5), (.k (.bool true)), (.t 7)], none⟩, O1 2 .mv 8]) .ret)), [(.s 2)]⟩
theorem x101_ok : xfn Try.prog Try.f101 = some x101.er := by kernel_rfl
def x117L0 : XC := (.seq (.reg false [O2 9 (.bin .lss) 8 7]) (.seq (.cond (.t 9) .skip (.exit 0)) (.seq (.block 1 (.seq (.reg false [O1 10 .mv 8, O1 5 .mv 10]) (.seq (.reg false [O1 11 .mv 1, O1 12 .mv 0, O1 13 .mv 5, O2 14 (.ixS 1) 12 13, O1 15 .load1 14, O2 16 .callv 11 15]) (.cond (.t 16) (.seq (.reg false [O1 17 .mv 5, O1 4 .mv 17]) .ret) .skip)))) (.reg false [K2 18 (.bin .add) 8 (iV 1), O1 8 .mv 18]))))
def x117 : XFn := ⟨19, (.seq (.reg false [K1 4 .mv (iV 0)]) (.seq (.seq (.reg false [O1 6 .mv 0, O1 7 .lenS 6, K1 8 .mv (iV 0)]) (.block 0 (.loop x117L0))) (.seq (.reg false [K1 4 .mv (iV (-1))]) .ret))), [(.s 4)]⟩
theorem x117_ok : xfn Try.prog Try.f117 = some x117.er := by kernel_rfl
def x100 : XFn := ⟨9, (.seq (.reg false [K1 4 .mv (.bool false)]) (.seq (.reg false [O1 5 .mv 0, O1 6 .mv 1, O2 7 (.call 117) 5 6, K2 8 (.bin .geq) 7 (iV 0), O1 4 .mv 8]) .ret)), [(.s 4)]⟩
theorem x100_ok : xfn Try.prog Try.f100 = some x100.er := by kernel_rfl
def x76 : XFn := ⟨6, (.seq (.reg false [K1 2 .mv (.bool false)]) (.seq (.reg false [O1 3 .mv 0, ⟨(some 4), (.call 100), [(.t 3), (.k (.func (.func 101) #[] #[]))], none⟩, O1 5 (.un .not) 4, O1 2 .mv 5]) .ret)), [(.s 2)]⟩
theorem x76_ok : xfn Try.prog Try.f76 = some x76.er := by kernel_rfl
def x46 : XFn := ⟨8, (.seq (.reg false [O1 1 (.box 46) 0, ⟨(some 2), (.alloc 90 [(iV 0), (iV 0)]), [], none⟩]) (.seq (.reg false [O1 3 (.fld 4) 1, O1 4 .load1 3, O1 5 (.fld 5) 1, O1 6 .load1 5, ⟨(some 7), (.build [(iV 0), (iV 0)] [(0, 1), (1, 1)]), [(.t 4), (.t 6)], none⟩, ⟨none, (.store 2), [(.t 2), (.t 7)], none⟩]) .ret)), [(.bn 2 2)]⟩
theorem x46_ok : xfn Try.prog Try.f46 = some x46.er := by kernel_rfl
def x77 : XFn := ⟨31, (.seq (.reg false [O1 1 (.box 90) 0, K1 2 .mv (.bool false)]) (.seq (.reg false [O1 3 (.fld 0) 1, O1 4 .load1 3, K2 5 (.bin .geq) 4 (iV 0), O1 6 .mv 5, G1 7 (.fld 0) 1 6 true, G1 8 .load1 7 6 true, GK 9 (.bin .lss) 8 (iV 256) 6 true, ⟨(some 10), .pick, [(.t 6), (.t 9), (.k (.bool false))], none⟩, O1 11 .mv 10, G1 12 (.fld 1) 1 11 true, G1 13 .load1 12 11 true, GK 14 (.bin .geq) 13 (iV 1) 11 true, ⟨(some 15), .pick, [(.t 11), (.t 14), (.k (.bool false))], none⟩, O1 16 .mv 15, G1 17 (.fld 1) 1 16 true, G1 18 .load1 17 16 true, GK 19 (.bin .leq) 18 (iV 256) 16 true, ⟨(some 20), .pick, [(.t 16), (.t 19), (.k (.bool false))], none⟩, O1 21 .mv 20, G1 22 (.fld 0) 1 21 true, G1 23 .load1 22 21 true, GK 24 (.bin .eql) 23 (iV 0) 21 true, G1 25 .mv 24 21 true, G1 26 (.fld 1) 1 25 false, G1 27 .load1 26 25 false, GK 28 (.bin .lss) 27 (iV 256) 25 false, ⟨(some 29), .pick, [(.t 25), (.k (.bool true)), (.t 28)], (some (21, true))⟩, ⟨(some 30), .pick, [(.t 21), (.t 29), (.k (.bool false))], none⟩, O1 2 .mv 30]) .ret)), [(.s 2)]⟩
theorem x77_ok : xfn Try.prog Try.f77 = some x77.er := by kernel_rfl
def x54 : XFn := ⟨31, (.seq (.reg false [O1 1 (.box 90) 0, K1 2 .mv (.bool false)]) (.seq (.reg false [O1 3 (.fld 0) 1, O1 4 .load1 3, K2 5 (.bin .geq) 4 (iV 0), O1 6 .mv 5, G1 7 (.fld 0) 1 6 true, G1 8 .load1 7 6 true, GK 9 (.bin .lss) 8 (iV 256) 6 true, ⟨(some 10), .pick, [(.t 6), (.t 9), (.k (.bool false))], none⟩, O1 11 .mv 10, G1 12 (.fld 1) 1 11 true, G1 13 .load1 12 11 true, GK 14 (.bin .geq) 13 (iV 1) 11 true, ⟨(some 15), .pick, [(.t 11), (.t 14), (.k (.bool false))], none⟩, O1 16 .mv 15, G1 17 (.fld 1) 1 16 true, G1 18 .load1 17 16 true, GK 19 (.bin .leq) 18 (iV 256) 16 true, ⟨(some 20), .pick, [(.t 16), (.t 19), (.k (.bool false))], none⟩, O1 21 .mv 20, G1 22 (.fld 1) 1 21 true, G1 23 .load1 22 21 true, GK 24 (.bin .lss) 23 (iV 256) 21 true, G1 25 .mv 24 21 true, G1 26 (.fld 0) 1 25 false, G1 27 .load1 26 25 false, GK 28 (.bin .eql) 27 (iV 0) 25 false, ⟨(some 29), .pick, [(.t 25), (.k (.bool true)), (.t 28)], (some (21, true))⟩, ⟨(some 30), .pick, [(.t 21), (.t 29), (.k (.bool false))], none⟩, O1 2 .mv 30]) .ret)), [(.s 2)]⟩
theorem x54_ok : xfn Try.prog Try.f54 = some x54.er := by kernel_rfl
def x25 : XFn := ⟨43, (.seq (.reg false [O1 1 (.box 46) 0, K1 2 .mv (.bool false)]) (.seq (.reg false [O1 3 (.fld 0) 1, O1 4 .load1 3, K2 5 (.bin .geq) 4 (iV (-1048576)), O1 6 .mv 5, G1 7 (.fld 0) 1 6 true, G1 8 .load1 7 6 true, G1 9 (.fld 2) 1 6 true, G1 10 .load1 9 6 true, G2 11 (.bin .leq) 8 10 6 true, ⟨(some 12), .pick, [(.t 6), (.t 11), (.k (.bool false))], none⟩, O1 13 .mv 12, G1 14 (.fld 2) 1 13 true, G1 15 .load1 14 13 true, GK 16 (.bin .leq) 15 (iV 1048576) 13 true, ⟨(some 17), .pick, [(.t 13), (.t 16), (.k (.bool false))], none⟩, O1 18 .mv 17, G1 19 (.fld 1) 1 18 true, G1 20 .load1 19 18 true, GK 21 (.bin .geq) 20 (iV (-1048576)) 18 true, ⟨(some 22), .pick, [(.t 18), (.t 21), (.k (.bool false))], none⟩, O1 23 .mv 22, G1 24 (.fld 1) 1 23 true, G1 25 .load1 24 23 true, G1 26 (.fld 3) 1 23 true, G1 27 .load1 26 23 true, G2 28 (.bin .leq) 25 27 23 true, ⟨(some 29), .pick, [(.t 23), (.t 28), (.k (.bool false))], none⟩, O1 30 .mv 29, G1 31 (.fld 3) 1 30 true, G1 32 .load1 31 30 true, GK 33 (.bin .leq) 32 (iV 1048576) 30 true, ⟨(some 34), .pick, [(.t 30), (.t 33), (.k (.bool false))], none⟩, O1 35 .mv 34, G1 36 (.fld 4) 1 35 true, G1 37 .load1 36 35 true, G1 38 (.fld 5) 1 35 true, G1 39 .load1 38 35 true, ⟨(some 40), (.build [(iV 0), (iV 0)] [(0, 1), (1, 1)]), [(.t 37), (.t 39)], (some (35, true))⟩, G1 41 (.call 54) 40 35 true, ⟨(some 42), .pick, [(.t 35), (.t 41), (.k (.bool false))], none⟩, O1 2 .mv 42]) .ret)), [(.s 2)]⟩
theorem x25_ok : xfn Try.prog Try.f25 = some x25.er := by kernel_rfl
def x42 : XFn := ⟨32, (.seq (.reg false [O1 1 (.box 46) 0, K1 2 .mv (.bool false)]) (.seq (.reg false [O1 3 (.fld 0) 1, O1 4 .load1 3, O1 5 (.fld 2) 1, O1 6 .load1 5, O2 7 (.bin .leq) 4 6, O1 8 .mv 7, G1 9 (.fld 1) 1 8 true, G1 10 .load1 9 8 true, G1 11 (.fld 3) 1 8 true, G1 12 .load1 11 8 true, G2 13 (.bin .leq) 10 12 8 true, ⟨(some 14), .pick, [(.t 8), (.t 13), (.k (.bool false))], none⟩, O1 15 .mv 14, G1 16 (.fld 0) 1 15 true, G1 17 .load1 16 15 true, G1 18 (.fld 1) 1 15 true, G1 19 .load1 18 15 true, G1 20 (.fld 2) 1 15 true, G1 21 .load1 20 15 true, G1 22 (.fld 3) 1 15 true, G1 23 .load1 22 15 true, ⟨(some 24), (.slit 3 4 1 [(iV 0), (iV 0), (iV 0), (iV 0)] [(0, 1), (1, 1), (2, 1), (3, 1)]), [(.t 17), (.t 19), (.t 21), (.t 23)], (some (15, true))⟩, G1 25 (.call 76) 24 15 true, ⟨(some 26), .pick, [(.t 15), (.t 25), (.k (.bool false))], none⟩, O1 27 .mv 26, G1 28 (.loadN 6) 1 27 true, G1 29 (.call 46) 28 27 true, G1 30 (.call 77) 29 27 true, ⟨(some 31), .pick, [(.t 27), (.t 30), (.k (.bool false))], none⟩, O1 2 .mv 31]) .ret)), [(.s 2)]⟩
theorem x42_ok : xfn Try.prog Try.f42 = some x42.er := by kernel_rfl
def x55 : XFn := ⟨17, (.seq (.reg false [O1 2 (.box 90) 0, K1 4 .mv (.bool false)]) (.seq (.reg true [O1 5 (.loadN 2) 2, O1 6 (.call 77) 5, O1 7 .mv 6, G1 8 .mv 1 7 true, G1 9 (.fld 0) 2 7 true, G1 10 .load1 9 7 true, G2 11 (.bin .sub) 8 10 7 true, G1 12 (.call 86) 11 7 true, G1 13 (.fld 1) 2 7 true, G1 14 .load1 13 7 true, G2 15 (.bin .lss) 12 14 7 true, ⟨(some 16), .pick, [(.t 7), (.t 15), (.k (.bool false))], none⟩, O1 4 .mv 16]) .ret)), [(.s 4)]⟩
theorem x55_ok : xfn Try.prog Try.f55 = some x55.er := by kernel_rfl
def x26 : XFn := ⟨42, (.seq (.reg false [O1 2 (.box 46) 0, O1 3 (.box 36) 1, K1 4 .mv (.bool false)]) (.seq (.reg true [O1 5 (.loadN 6) 2, O1 6 (.call 42) 5, O1 7 .mv 6, G1 8 (.fld 0) 2 7 true, G1 9 .load1 8 7 true, G1 10 (.fld 0) 3 7 true, G1 11 .load1 10 7 true, G2 12 (.bin .leq) 9 11 7 true, ⟨(some 13), .pick, [(.t 7), (.t 12), (.k (.bool false))], none⟩, O1 14 .mv 13, G1 15 (.fld 0) 3 14 true, G1 16 .load1 15 14 true, G1 17 (.fld 2) 2 14 true, G1 18 .load1 17 14 true, G2 19 (.bin .leq) 16 18 14 true, ⟨(some 20), .pick, [(.t 14), (.t 19), (.k (.bool false))], none⟩, O1 21 .mv 20, G1 22 (.fld 1) 2 21 true, G1 23 .load1 22 21 true, G1 24 (.fld 1) 3 21 true, G1 25 .load1 24 21 true, G2 26 (.bin .leq) 23 25 21 true, ⟨(some 27), .pick, [(.t 21), (.t 26), (.k (.bool false))], none⟩, O1 28 .mv 27, G1 29 (.fld 1) 3 28 true, G1 30 .load1 29 28 true, G1 31 (.fld 3) 2 28 true, G1 32 .load1 31 28 true, G2 33 (.bin .leq) 30 32 28 true, ⟨(some 34), .pick, [(.t 28), (.t 33), (.k (.bool false))], none⟩, O1 35 .mv 34, G1 36 (.loadN 6) 2 35 true, G1 37 (.call 46) 36 35 true, G1 38 (.fld 2) 3 35 true, G1 39 .load1 38 35 true, G2 40 (.call 55) 37 39 35 true, ⟨(some 41), .pick, [(.t 35), (.t 40), (.k (.bool false))], none⟩, O1 4 .mv 41]) .ret)), [(.s 4)]⟩
theorem x26_ok : xfn Try.prog Try.f26 = some x26.er := by kernel_rfl
def x20 : XFn := ⟨22, (.seq (.reg false [O1 1 (.box 46) 0, K1 2 .mv (iV 0)]) (.seq (.seq (.reg false [O1 3 (.loadN 6) 1, O1 4 (.call 42) 3, O1 5 (.un .not) 4]) (.cond (.t 5) (.seq (.reg false [K1 2 .mv (iV 0)]) .ret) .skip)) (.seq (.reg false [O1 6 (.fld 2) 1, O1 7 .load1 6, O1 8 (.fld 0) 1, O1 9 .load1 8, O2 10 (.bin .sub) 7 9, K2 11 (.bin .add) 10 (iV 1), O1 12 (.fld 3) 1, O1 13 .load1 12, O1 14 (.fld 1) 1, O1 15 .load1 14, O2 16 (.bin .sub) 13 15, K2 17 (.bin .add) 16 (iV 1), O2 18 (.bin .mul) 11 17, O1 19 (.fld 5) 1, O1 20 .load1 19, O2 21 (.bin .mul) 18 20, O1 2 .mv 21]) .ret))), [(.s 2)]⟩
theorem x20_ok : xfn Try.prog Try.f20 = some x20.er := by kernel_rfl
def x78L0 : XC := (.seq (.reg false [O2 14 (.bin .lss) 13 12]) (.seq (.cond (.t 14) .skip (.exit 0)) (.seq (.block 1 (.seq (.reg false [O1 15 .mv 13, O1 4 .mv 15]) (.reg false [O1 16 .mv 3, O1 17 .mv 4, O1 18 (.fld 0) 1, O1 19 .load1 18, O1 20 .mv 4, O2 21 (.bin .add) 19 20, O1 22 (.call 86) 21, O2 23 (.ixS 1) 16 17, ⟨none, (.store 1), [(.t 23), (.t 22)], none⟩]))) (.reg false [K2 24 (.bin .add) 13 (iV 1), O1 13 .mv 24]))))
def x78 : XFn := ⟨26, (.seq (.reg false [O1 1 (.box 90) 0, K1 2 .mv (.slice none 0 0)]) (.seq (.seq (.reg false [O1 5 (.loadN 2) 1, O1 6 (.call 77) 5, O1 7 (.un .not) 6]) (.cond (.t 7) (.seq (.reg false [K1 2 .mv (.slice none 0 0)]) .ret) .skip)) (.seq (.reg false [O1 8 (.fld 1) 1, O1 9 .load1 8, ⟨(some 10), (.mks 3 1 8 [(iV 0)]), [(.t 9), (.t 9)], none⟩, O1 3 .mv 10]) (.seq (.seq (.reg false [O1 11 .mv 3, O1 12 .lenS 11, K1 13 .mv (iV 0)]) (.block 0 (.loop x78L0))) (.seq (.reg false [O1 25 .mv 3, O1 2 .mv 25]) .ret))))), [(.s 2)]⟩
theorem x78_ok : xfn Try.prog Try.f78 = some x78.er := by kernel_rfl
def x79 : XFn := ⟨10, (.seq (.reg false [K1 4 .mv (iV 0)]) (.seq (.seq (.reg false [O1 5 .mv 0, K2 6 (.bin .eql) 5 (iV 1)]) (.cond (.t 6) (.seq (.reg false [K1 4 .mv (iV 0)]) .ret) .skip)) (.seq (.reg false [O1 7 .mv 0, O1 8 .mv 1, O2 9 (.bin .mul) 7 8, O1 4 .mv 9]) .ret))), [(.s 4)]⟩
theorem x79_ok : xfn Try.prog Try.f79 = some x79.er := by kernel_rfl
def x44 : XFn := ⟨100, (.seq (.reg false [O1 1 (.box 46) 0, ⟨(some 2), (.alloc 46 [(iV 0), (iV 0), (iV 0), (iV 0), (iV 0), (iV 0)]), [], none⟩, ⟨(some 3), (.alloc 46 [(iV 0), (iV 0), (iV 0), (iV 0), (iV 0), (iV 0)]), [], none⟩, K1 4 .mv (.bool false)]) (.seq (.seq (.reg false [O1 14 (.loadN 6) 1, O1 15 (.call 20) 14, K2 16 (.bin .lss) 15 (iV 2)]) (.cond (.t 16) (.seq (.reg false [⟨(some 17), (.build [(iV 0), (iV 0), (iV 0), (iV 0), (iV 0), (iV 0)] []), [], none⟩, ⟨(some 18), (.build [(iV 0), (iV 0), (iV 0), (iV 0), (iV 0), (iV 0)] []), [], none⟩, ⟨none, (.store 6), [(.t 2), (.t 17)], none⟩, ⟨none, (.store 6), [(.t 3), (.t 18)], none⟩, K1 4 .mv (.bool false)]) .ret) .skip)) (.seq (.reg false [⟨(some 5), .mv, [(.k (.func (.func 79) #[] #[]))], none⟩]) (.seq (.reg true [O1 19 (.fld 2) 1, O1 20 .load1 19, O1 21 (.fld 0) 1, O1 22 .load1 21, O2 23 (.bin .sub) 20 22, K2 24 (.bin .add) 23 (iV 1), O1 25 (.fld 3) 1, O1 26 .load1 25, O1 27 (.fld 1) 1, O1 28 .load1 27, O2 29 (.bin .sub) 26 28, K2 30 (.bin .add) 29 (iV 1), O1 6 .mv 24, O1 7 .mv 30]) (.seq (.reg true [O1 31 .mv 5, O1 32 .mv 6, ⟨(some 33), .callv, [(.t 31), (.t 32), (.k (iV 1))], none⟩, O1 34 .mv 5, O1 35 .mv 7, ⟨(some 36), .callv, [(.t 34), (.t 35), (.k (iV 1))], none⟩, O1 37 .mv 5, O1 38 (.fld 5) 1, O1 39 .load1 38, ⟨(some 40), .callv, [(.t 37), (.t 39), (.k (iV 8))], none⟩, O1 8 .mv 33, O1 9 .mv 36, O1 10 .mv 40]) (.seq (.regD [O1 41 (.loadN 6) 1, O1 42 (.loadN 6) 1, ⟨(some 11), (.alloc 46 [(iV 0), (iV 0), (iV 0), (iV 0), (iV 0), (iV 0)]), [], none⟩, ⟨(some 12), (.alloc 46 [(iV 0), (iV 0), (iV 0), (iV 0), (iV 0), (iV 0)]), [], none⟩, ⟨none, (.store 6), [(.t 11), (.t 41)], none⟩, ⟨none, (.store 6), [(.t 12), (.t 42)], none⟩] [[], [], [], [], [2, 0, 3], [3, 1, 4, 2, 0]]) (.seq (.block 0 (.seq (.reg false [O1 60 .mv 8, O1 61 .mv 9, O2 62 (.bin .geq) 60 61, O1 63 .mv 62, G1 64 .mv 8 63 true, G1 65 .mv 10 63 true, G2 66 (.bin .geq) 64 65 63 true, ⟨(some 67), .pick, [(.t 63), (.t 66), (.k (.bool false))], none⟩, O1 59 .mv 67]) (.cond (.t 59) (.seq (.reg false [O1 68 (.fld 0) 1, O1 69 .load1 68, O1 70 .mv 6, K2 71 (.bin .quo) 70 (iV 2), O2 72 (.bin .add) 69 71, K2 73 (.bin .sub) 72 (iV 1), O1 74 (.fld 2) 11, ⟨none, (.store 1), [(.t 74), (.t 73)], none⟩]) (.reg false [O1 75 (.fld 0) 1, O1 76 .load1 75, O1 77 .mv 6, K2 78 (.bin .quo) 77 (iV 2), O2 79 (.bin .add) 76 78, O1 80 (.fld 0) 12, ⟨none, (.store 1), [(.t 80), (.t 79)], none⟩])) (.seq (.reg false [O1 82 .mv 9, O1 83 .mv 10, O2 84 (.bin .geq) 82 83, O1 81 .mv 84]) (.cond (.t 81) (.seq (.reg false [O1 85 (.fld 1) 1, O1 86 .load1 85, O1 87 .mv 7, K2 88 (.bin .quo) 87 (iV 2), O2 89 (.bin .add) 86 88, K2 90 (.bin .sub) 89 (iV 1), O1 91 (.fld 3) 11, ⟨none, (.store 1), [(.t 91), (.t 90)], none⟩]) (.reg false [O1 92 (.fld 1) 1, O1 93 .load1 92, O1 94 .mv 7, K2 95 (.bin .quo) 94 (iV 2), O2 96 (.bin .add) 93 95, O1 97 (.fld 1) 12, ⟨none, (.store 1), [(.t 97), (.t 96)], none⟩])) (.seq (.reg false [O1 43 (.fld 5) 1, O1 44 .load1 43, K2 45 (.bin .quo) 44 (iV 2), O1 13 .mv 45]) (.seq (.reg false [O1 46 .mv 13, O1 47 (.fld 5) 11, ⟨none, (.store 1), [(.t 47), (.t 46)], none⟩]) (.regD [O1 48 (.fld 4) 1, O1 49 .load1 48, O1 50 .mv 13, O2 51 (.bin .add) 49 50, K2 52 (.bin .rem) 51 (iV 256), O1 53 (.fld 5) 1, O1 54 .load1 53, O1 55 .mv 13, O2 56 (.bin .sub) 54 55, O1 57 (.fld 4) 12, ⟨none, (.store 1), [(.t 57), (.t 52)], none⟩, O1 58 (.fld 5) 12, ⟨none, (.store 1), [(.t 58), (.t 56)], none⟩] [[], [0], [], [1, 0, 2], [3, 1, 0, 2], [], [5], [], [6, 5, 7], [0, 1, 2, 3, 4], [9, 0, 1, 2, 3, 4], [0, 1, 2, 3, 4, 5, 6, 7, 8, 9, 10], [11, 0, 1, 2, 3, 4, 5, 6, 7, 8, 9, 10]])))))))) (.seq (.regD [O1 98 (.loadN 6) 11, O1 99 (.loadN 6) 12, ⟨none, (.store 6), [(.t 2), (.t 98)], none⟩, ⟨none, (.store 6), [(.t 3), (.t 99)], none⟩, K1 4 .mv (.bool true)] [[], [], [0], [1, 2, 0], [3, 1, 2, 0]]) .ret)))))))), [(.bn 2 6), (.bn 3 6), (.s 4)]⟩
theorem x44_ok : xfn Try.prog Try.f44 = some x44.er := by kernel_rfl
def x47 : XFn := ⟨18, (.seq (.reg false [O1 2 (.box 26) 0, O1 3 (.box 90) 1, ⟨(some 4), (.alloc 46 [(iV 0), (iV 0), (iV 0), (iV 0), (iV 0), (iV 0)]), [], none⟩]) (.seq (.reg false [O1 5 (.fld 0) 2, O1 6 .load1 5, O1 7 (.fld 1) 2, O1 8 .load1 7, O1 9 (.fld 2) 2, O1 10 .load1 9, O1 11 (.fld 3) 2, O1 12 .load1 11, O1 13 (.fld 0) 3, O1 14 .load1 13, O1 15 (.fld 1) 3, O1 16 .load1 15, ⟨(some 17), (.build [(iV 0), (iV 0), (iV 0), (iV 0), (iV 0), (iV 0)] [(0, 1), (1, 1), (2, 1), (3, 1), (4, 1), (5, 1)]), [(.t 6), (.t 8), (.t 10), (.t 12), (.t 14), (.t 16)], none⟩, ⟨none, (.store 6), [(.t 4), (.t 17)], none⟩]) .ret)), [(.bn 4 6)]⟩
theorem x47_ok : xfn Try.prog Try.f47 = some x47.er := by kernel_rfl
/-- wayfinder/box.small$1 -/
def g101 : Con := fun args_ E_ nn_ => match args_ with
  | [.c (.v (.int .i64 n))] => some (.q (True) (.o (.c (.v (.bool (wideB n))))))
  | _ => none
theorem c101 : COk Try.prog 101 g101 := by
  refine cok_q Try.func101 x101_ok (by kernel_rfl) (cok_tab cok_nil) ?_
  intro args_ E_ nn_ cr_ hg_
  unfold g101 at hg_
  split at hg_
  · rename_i n
    cases hg_
    refine ⟨_, _, rfl, 0, [], [.c (.v (.int .i64 n))], [], .o (.c (.v (.bool (wideB n)))), rfl, rfl, by simp only [push_cast, Nat.reduceLT, Nat.reduceAdd], by simp only [push_cast, Nat.reduceLT, Nat.reduceAdd], by simp only [push_cast, Nat.reduceLT, Nat.reduceAdd], rfl, trivial, rfl, ?_⟩
    intro hpre hlen
    refine ⟨trivial, ?_⟩
    simp (config := {maxSteps := 10000000}) only [x101, push_cast, Nat.reduceAdd, Nat.reduceSub, Nat.reduceLeDiff, Nat.reduceEqDiff, Nat.reduceBEq, Nat.reduceMul, Nat.reduceLT, reduceIte, reduceCtorEq, Int.reduceLE, Int.reduceLT, Int.reduceEq, Int.reduceMul, Int.reduceAdd, Int.reduceSub, Int.reduceNeg, Int.reduceToNat, Int.reduceNe]
    rfl
  · cases hg_
/-- slices.IndexFunc[[]int,int] -/
def g117 : Con := fun args_ E_ nn_ => match args_ with
  | [.c (.n s), .c (.v (.func (.func 101) f_a f_b))] => (match rowOf E_ s with
    | some (s_n, s_s, s_f) => some (.q (isRow eI s_n s_s s_f ∧ f_a = #[] ∧ f_b = #[]) (.o (.c (.v (.int .i64 (ixOf wideB (decL eI s_n s_f)))))))
    | none => none)
  | _ => none
theorem c117 : COk Try.prog 117 g117 := by
  refine cok_q Try.func117 x117_ok (by kernel_rfl) (cok_tab (cok_cons c101 cok_nil)) ?_
  intro args_ E_ nn_ cr_ hg_
  unfold g117 at hg_
  split at hg_
  · rename_i s f_a f_b
    split at hg_
    · rename_i s_n s_s s_f h_s
      cases hg_
      refine ⟨_, _, rfl, 1, [s], [.c (.n 0), .c (.v (.func (.func 101) f_a f_b))], [(0, .ro (decL eI s_n s_f).length eI.sz (rowF eI (decL eI s_n s_f)))], .o (.c (.v (.int .i64 (ixOf wideB (decL eI s_n s_f))))), rfl, rfl, by simp only [push_cast, Nat.reduceLT, Nat.reduceAdd], by simp only [push_cast, Nat.reduceLT, Nat.reduceAdd], by simp only [push_cast, Nat.reduceLT, Nat.reduceAdd], rfl, ⟨inE0_row h_s, trivial⟩, rfl, ?_⟩
      intro hpre hlen
      obtain ⟨i_s, hpre⟩ := hpre
      refine ⟨⟨inE_row h_s i_s, trivial⟩, ?_⟩
      have z_s := lens_row (E := eI) hlen h_s
      clear i_s
      generalize decL eI s_n s_f = sL at *
      clear h_s
      obtain ⟨rfl, rfl⟩ := hpre
      simp (config := {maxSteps := 10000000}) only [x117, push_cast, Nat.reduceAdd, Nat.reduceSub, Nat.reduceLeDiff, Nat.reduceEqDiff, Nat.reduceBEq, Nat.reduceMul, Nat.reduceLT, reduceIte, reduceCtorEq, Int.reduceLE, Int.reduceLT, Int.reduceEq, Int.reduceMul, Int.reduceAdd, Int.reduceSub, Int.reduceNeg, Int.reduceToNat, Int.reduceNe, g101]
      refine vcLoop_upd (α := {k : Nat // k ≤ sL.length ∧ ∀ i, i < k → wideB (sL.getD i eI.dflt) = false}) [0, 1, 7] 0 (fun s => [(8, .o (.c (.v (.int .i64 (s.1 : Nat)))))]) (fun s => []) (fun s => sL.length - s.1) ⟨0, by omega, fun i hi => by omega⟩ ?_ ?_
      · simp only [push_cast, Nat.reduceAdd, Nat.reduceSub, Nat.reduceLeDiff, Nat.reduceEqDiff, Nat.reduceBEq, Nat.reduceMul, Nat.reduceLT, reduceIte, reduceCtorEq, Int.reduceLE, Int.reduceLT, Int.reduceEq, Int.reduceMul, Int.reduceAdd, Int.reduceSub, Int.reduceNeg, Int.reduceToNat, Int.reduceNe, g101]
      · rintro ⟨k, hk, hall⟩
        simp only [x117L0, push_cast, Nat.reduceAdd, Nat.reduceSub, Nat.reduceLeDiff, Nat.reduceEqDiff, Nat.reduceBEq, Nat.reduceMul, Nat.reduceLT, reduceIte, reduceCtorEq, Int.reduceLE, Int.reduceLT, Int.reduceEq, Int.reduceMul, Int.reduceAdd, Int.reduceSub, Int.reduceNeg, Int.reduceToNat, Int.reduceNe, g101]
        refine ⟨fun hlt => ⟨hlt, hlt, fun hw => (ixOf_some hlt hall hw).symm, fun hw => ?_⟩, fun hn => ?_⟩
        · exact ⟨⟨k + 1, by omega, fun i hi => by
            by_cases h : i = k
            · subst h; exact hw
            · exact hall i (by omega)⟩, wrapI (by omega) (by omega), by simp only; omega⟩
        · exact (ixOf_none (fun i hi => hall i (by omega))).symm
    · cases hg_
  · cases hg_
/-- slices.ContainsFunc[[]int,int] -/
def g100 : Con := fun args_ E_ nn_ => match args_ with
  | [.c (.n s), .c (.v (.func (.func 101) f_a f_b))] => (match rowOf E_ s with
    | some (s_n, s_s, s_f) => some (.q (isRow eI s_n s_s s_f ∧ f_a = #[] ∧ f_b = #[]) (.o (.c (.v (.bool (((decL eI s_n s_f)).any wideB))))))
    | none => none)
  | _ => none
theorem c100 : COk Try.prog 100 g100 := by
  refine cok_q Try.func100 x100_ok (by kernel_rfl) (cok_tab (cok_cons c117 cok_nil)) ?_
  intro args_ E_ nn_ cr_ hg_
  unfold g100 at hg_
  split at hg_
  · rename_i s f_a f_b
    split at hg_
    · rename_i s_n s_s s_f h_s
      cases hg_
      refine ⟨_, _, rfl, 1, [s], [.c (.n 0), .c (.v (.func (.func 101) f_a f_b))], [(0, .ro (decL eI s_n s_f).length eI.sz (rowF eI (decL eI s_n s_f)))], .o (.c (.v (.bool (((decL eI s_n s_f)).any wideB)))), rfl, rfl, by simp only [push_cast, Nat.reduceLT, Nat.reduceAdd], by simp only [push_cast, Nat.reduceLT, Nat.reduceAdd], by simp only [push_cast, Nat.reduceLT, Nat.reduceAdd], rfl, ⟨inE0_row h_s, trivial⟩, rfl, ?_⟩
      intro hpre hlen
      obtain ⟨i_s, hpre⟩ := hpre
      refine ⟨⟨inE_row h_s i_s, trivial⟩, ?_⟩
      have z_s := lens_row (E := eI) hlen h_s
      clear i_s
      generalize decL eI s_n s_f = sL at *
      clear h_s
      obtain ⟨rfl, rfl⟩ := hpre
      simp (config := {maxSteps := 10000000}) only [x100, push_cast, Nat.reduceAdd, Nat.reduceSub, Nat.reduceLeDiff, Nat.reduceEqDiff, Nat.reduceBEq, Nat.reduceMul, Nat.reduceLT, reduceIte, reduceCtorEq, Int.reduceLE, Int.reduceLT, Int.reduceEq, Int.reduceMul, Int.reduceAdd, Int.reduceSub, Int.reduceNeg, Int.reduceToNat, Int.reduceNe, g117]
      exact ixOf_any wideB sL
    · cases hg_
  · cases hg_
/-- wayfinder/box.small -/
def g76 : Con := fun args_ E_ nn_ => match args_ with
  | [.c (.n l)] => (match rowOf E_ l with
    | some (l_n, l_s, l_f) => some (.q (isRow eI l_n l_s l_f ∧ True) (.o (.c (.v (.bool (!((decL eI l_n l_f)).any wideB))))))
    | none => none)
  | _ => none
theorem c76 : COk Try.prog 76 g76 := by
  refine cok_q Try.func76 x76_ok (by kernel_rfl) (cok_tab (cok_cons c100 cok_nil)) ?_
  intro args_ E_ nn_ cr_ hg_
  unfold g76 at hg_
  split at hg_
  · rename_i l
    split at hg_
    · rename_i l_n l_s l_f h_l
      cases hg_
      refine ⟨_, _, rfl, 1, [l], [.c (.n 0)], [(0, .ro (decL eI l_n l_f).length eI.sz (rowF eI (decL eI l_n l_f)))], .o (.c (.v (.bool (!((decL eI l_n l_f)).any wideB)))), rfl, rfl, by simp only [push_cast, Nat.reduceLT, Nat.reduceAdd], by simp only [push_cast, Nat.reduceLT, Nat.reduceAdd], by simp only [push_cast, Nat.reduceLT, Nat.reduceAdd], rfl, ⟨inE0_row h_l, trivial⟩, rfl, ?_⟩
      intro hpre hlen
      obtain ⟨i_l, hpre⟩ := hpre
      refine ⟨⟨inE_row h_l i_l, trivial⟩, ?_⟩
      have z_l := lens_row (E := eI) hlen h_l
      clear i_l
      generalize decL eI l_n l_f = lL at *
      clear h_l
      simp (config := {maxSteps := 10000000}) only [x76, push_cast, Nat.reduceAdd, Nat.reduceSub, Nat.reduceLeDiff, Nat.reduceEqDiff, Nat.reduceBEq, Nat.reduceMul, Nat.reduceLT, reduceIte, reduceCtorEq, Int.reduceLE, Int.reduceLT, Int.reduceEq, Int.reduceMul, Int.reduceAdd, Int.reduceSub, Int.reduceNeg, Int.reduceToNat, Int.reduceNe, g100]
    · cases hg_
  · cases hg_
/-- wayfinder/box.arc -/
def g46 : Con := fun args_ E_ nn_ => match args_ with
  | [.a [.v (.int .i64 b_X0), .v (.int .i64 b_Y0), .v (.int .i64 b_X1), .v (.int .i64 b_Y1), .v (.int .i64 b_From), .v (.int .i64 b_Count)]] => some (.q (True) (.o (.a [.v (.int .i64 b_From), .v (.int .i64 b_Count)])))
  | _ => none
theorem c46 : COk Try.prog 46 g46 := by
  refine cok_q Try.func46 x46_ok (by kernel_rfl) (cok_tab cok_nil) ?_
  intro args_ E_ nn_ cr_ hg_
  unfold g46 at hg_
  split at hg_
  · rename_i b_X0 b_Y0 b_X1 b_Y1 b_From b_Count
    cases hg_
    refine ⟨_, _, rfl, 0, [], [.a [.v (.int .i64 b_X0), .v (.int .i64 b_Y0), .v (.int .i64 b_X1), .v (.int .i64 b_Y1), .v (.int .i64 b_From), .v (.int .i64 b_Count)]], [], .o (.a [.v (.int .i64 b_From), .v (.int .i64 b_Count)]), rfl, rfl, by simp only [push_cast, Nat.reduceLT, Nat.reduceAdd], by simp only [push_cast, Nat.reduceLT, Nat.reduceAdd], by simp only [push_cast, Nat.reduceLT, Nat.reduceAdd], rfl, trivial, rfl, ?_⟩
    intro hpre hlen
    refine ⟨trivial, ?_⟩
    simp (config := {maxSteps := 10000000}) only [x46, push_cast, Nat.reduceAdd, Nat.reduceSub, Nat.reduceLeDiff, Nat.reduceEqDiff, Nat.reduceBEq, Nat.reduceMul, Nat.reduceLT, reduceIte, reduceCtorEq, Int.reduceLE, Int.reduceLT, Int.reduceEq, Int.reduceMul, Int.reduceAdd, Int.reduceSub, Int.reduceNeg, Int.reduceToNat, Int.reduceNe]
  · cases hg_
/-- wayfinder/heading.ValidArc -/
def g77 : Con := fun args_ E_ nn_ => match args_ with
  | [.a [.v (.int .i64 a_From), .v (.int .i64 a_Count)]] => some (.q (True) (.o (.c (.v (.bool (arcB a_From a_Count))))))
  | _ => none
theorem c77 : COk Try.prog 77 g77 := by
  refine cok_q Try.func77 x77_ok (by kernel_rfl) (cok_tab cok_nil) ?_
  intro args_ E_ nn_ cr_ hg_
  unfold g77 at hg_
  split at hg_
  · rename_i a_From a_Count
    cases hg_
    refine ⟨_, _, rfl, 0, [], [.a [.v (.int .i64 a_From), .v (.int .i64 a_Count)]], [], .o (.c (.v (.bool (arcB a_From a_Count)))), rfl, rfl, by simp only [push_cast, Nat.reduceLT, Nat.reduceAdd], by simp only [push_cast, Nat.reduceLT, Nat.reduceAdd], by simp only [push_cast, Nat.reduceLT, Nat.reduceAdd], rfl, trivial, rfl, ?_⟩
    intro hpre hlen
    refine ⟨trivial, ?_⟩
    simp (config := {maxSteps := 10000000}) only [x77, push_cast, Nat.reduceAdd, Nat.reduceSub, Nat.reduceLeDiff, Nat.reduceEqDiff, Nat.reduceBEq, Nat.reduceMul, Nat.reduceLT, reduceIte, reduceCtorEq, Int.reduceLE, Int.reduceLT, Int.reduceEq, Int.reduceMul, Int.reduceAdd, Int.reduceSub, Int.reduceNeg, Int.reduceToNat, Int.reduceNe]
    unfold arcB
    refine ⟨fun h1 h2 h3 h4 => ⟨⟨⟨⟨h1, h2⟩, h3⟩, h4⟩, fun h5 => ⟨⟨⟨⟨h1, h2⟩, h3⟩, h4⟩, h5⟩⟩, ?_⟩
    rw [Bool.eq_iff_iff]
    simp
    omega
  · cases hg_
/-- wayfinder/wayfinderbase.Arc -/
def g54 : Con := fun args_ E_ nn_ => match args_ with
  | [.a [.v (.int .i64 a_From), .v (.int .i64 a_Count)]] => some (.q (True) (.o (.c (.v (.bool (arcB a_From a_Count))))))
  | _ => none
theorem c54 : COk Try.prog 54 g54 := by
  refine cok_q Try.func54 x54_ok (by kernel_rfl) (cok_tab cok_nil) ?_
  intro args_ E_ nn_ cr_ hg_
  unfold g54 at hg_
  split at hg_
  · rename_i a_From a_Count
    cases hg_
    refine ⟨_, _, rfl, 0, [], [.a [.v (.int .i64 a_From), .v (.int .i64 a_Count)]], [], .o (.c (.v (.bool (arcB a_From a_Count)))), rfl, rfl, by simp only [push_cast, Nat.reduceLT, Nat.reduceAdd], by simp only [push_cast, Nat.reduceLT, Nat.reduceAdd], by simp only [push_cast, Nat.reduceLT, Nat.reduceAdd], rfl, trivial, rfl, ?_⟩
    intro hpre hlen
    refine ⟨trivial, ?_⟩
    simp (config := {maxSteps := 10000000}) only [x54, push_cast, Nat.reduceAdd, Nat.reduceSub, Nat.reduceLeDiff, Nat.reduceEqDiff, Nat.reduceBEq, Nat.reduceMul, Nat.reduceLT, reduceIte, reduceCtorEq, Int.reduceLE, Int.reduceLT, Int.reduceEq, Int.reduceMul, Int.reduceAdd, Int.reduceSub, Int.reduceNeg, Int.reduceToNat, Int.reduceNe]
    unfold arcB
    refine ⟨fun h1 h2 h3 h4 => ⟨⟨⟨⟨h1, h2⟩, h3⟩, h4⟩, fun h5 => ⟨⟨⟨⟨h1, h2⟩, h3⟩, h4⟩, h5⟩⟩, ?_⟩
    rw [Bool.eq_iff_iff]
    simp
    omega
  · cases hg_
/-- wayfinder/wayfinderbase.Box -/
def g25 : Con := fun args_ E_ nn_ => match args_ with
  | [.a [.v (.int .i64 b_X0), .v (.int .i64 b_Y0), .v (.int .i64 b_X1), .v (.int .i64 b_Y1), .v (.int .i64 b_From), .v (.int .i64 b_Count)]] => some (.q (True) (.o (.c (.v (.bool (boxB b_X0 b_Y0 b_X1 b_Y1 b_From b_Count))))))
  | _ => none
theorem c25 : COk Try.prog 25 g25 := by
  refine cok_q Try.func25 x25_ok (by kernel_rfl) (cok_tab (cok_cons c54 cok_nil)) ?_
  intro args_ E_ nn_ cr_ hg_
  unfold g25 at hg_
  split at hg_
  · rename_i b_X0 b_Y0 b_X1 b_Y1 b_From b_Count
    cases hg_
    refine ⟨_, _, rfl, 0, [], [.a [.v (.int .i64 b_X0), .v (.int .i64 b_Y0), .v (.int .i64 b_X1), .v (.int .i64 b_Y1), .v (.int .i64 b_From), .v (.int .i64 b_Count)]], [], .o (.c (.v (.bool (boxB b_X0 b_Y0 b_X1 b_Y1 b_From b_Count)))), rfl, rfl, by simp only [push_cast, Nat.reduceLT, Nat.reduceAdd], by simp only [push_cast, Nat.reduceLT, Nat.reduceAdd], by simp only [push_cast, Nat.reduceLT, Nat.reduceAdd], rfl, trivial, rfl, ?_⟩
    intro hpre hlen
    refine ⟨trivial, ?_⟩
    simp (config := {maxSteps := 10000000}) only [x25, push_cast, Nat.reduceAdd, Nat.reduceSub, Nat.reduceLeDiff, Nat.reduceEqDiff, Nat.reduceBEq, Nat.reduceMul, Nat.reduceLT, reduceIte, reduceCtorEq, Int.reduceLE, Int.reduceLT, Int.reduceEq, Int.reduceMul, Int.reduceAdd, Int.reduceSub, Int.reduceNeg, Int.reduceToNat, Int.reduceNe, g54]
    unfold boxB arcB
    rw [Bool.eq_iff_iff]
    simp
    omega
  · cases hg_
/-- wayfinder/box.Valid -/
def g42 : Con := fun args_ E_ nn_ => match args_ with
  | [.a [.v (.int .i64 b_X0), .v (.int .i64 b_Y0), .v (.int .i64 b_X1), .v (.int .i64 b_Y1), .v (.int .i64 b_From), .v (.int .i64 b_Count)]] => some (.q (True) (.o (.c (.v (.bool (boxB b_X0 b_Y0 b_X1 b_Y1 b_From b_Count))))))
  | _ => none
theorem c42 : COk Try.prog 42 g42 := by
  refine cok_q Try.func42 x42_ok (by kernel_rfl) (cok_tab (cok_cons c76 (cok_cons c46 (cok_cons c77 cok_nil)))) ?_
  intro args_ E_ nn_ cr_ hg_
  unfold g42 at hg_
  split at hg_
  · rename_i b_X0 b_Y0 b_X1 b_Y1 b_From b_Count
    cases hg_
    refine ⟨_, _, rfl, 0, [], [.a [.v (.int .i64 b_X0), .v (.int .i64 b_Y0), .v (.int .i64 b_X1), .v (.int .i64 b_Y1), .v (.int .i64 b_From), .v (.int .i64 b_Count)]], [], .o (.c (.v (.bool (boxB b_X0 b_Y0 b_X1 b_Y1 b_From b_Count)))), rfl, rfl, by simp only [push_cast, Nat.reduceLT, Nat.reduceAdd], by simp only [push_cast, Nat.reduceLT, Nat.reduceAdd], by simp only [push_cast, Nat.reduceLT, Nat.reduceAdd], rfl, trivial, rfl, ?_⟩
    intro hpre hlen
    refine ⟨trivial, ?_⟩
    have q1 : isRow eI 4 1 (litF [SC.v (Value.int IntKind.i64 b_X0), SC.v (Value.int IntKind.i64 b_Y0), SC.v (Value.int IntKind.i64 b_X1), SC.v (Value.int IntKind.i64 b_Y1)] 1) ↔ True := iff_true_intro (lits_row eI [b_X0, b_Y0, b_X1, b_Y1]).1
    have q2 : decL eI 4 (litF [SC.v (Value.int IntKind.i64 b_X0), SC.v (Value.int IntKind.i64 b_Y0), SC.v (Value.int IntKind.i64 b_X1), SC.v (Value.int IntKind.i64 b_Y1)] 1) = [b_X0, b_Y0, b_X1, b_Y1] := (lits_row eI [b_X0, b_Y0, b_X1, b_Y1]).2
    simp (config := {maxSteps := 10000000}) only [x42, push_cast, Nat.reduceAdd, Nat.reduceSub, Nat.reduceLeDiff, Nat.reduceEqDiff, Nat.reduceBEq, Nat.reduceMul, Nat.reduceLT, reduceIte, reduceCtorEq, Int.reduceLE, Int.reduceLT, Int.reduceEq, Int.reduceMul, Int.reduceAdd, Int.reduceSub, Int.reduceNeg, Int.reduceToNat, Int.reduceNe, g76, g46, g77, q1, q2]
    refine ⟨fun h1 h2 => ⟨⟨h1, h2⟩, ?_⟩, fun h => ⟨fun h1 h2 => ?_, fun _ => ⟨fun h1 h2 => ?_, ?_⟩⟩⟩
    · rw [any4]
      unfold boxB arcB wideB
      rw [Bool.eq_iff_iff]
      simp
      omega
    · rw [decide_eq_true h1, decide_eq_true h2] at h; cases h
    · rw [decide_eq_true h1, decide_eq_true h2] at h; cases h
    · rw [h, Bool.false_and]
      symm
      unfold boxB
      rw [decide_eq_false_iff_not]
      intro hp
      rw [decide_eq_true hp.2.1, decide_eq_true hp.2.2.2.2.1] at h
      cases h
  · cases hg_
/-- wayfinder/heading.Has -/
def g55 : Con := fun args_ E_ nn_ => match args_ with
  | [.a [.v (.int .i64 a_From), .v (.int .i64 a_Count)], .c (.v (.int .i64 h))] => some (.q (True) (.o (.c (.v (.bool (arcB a_From a_Count && decide ((h - a_From) % 256 < a_Count)))))))
  | _ => none
theorem c55 : COk Try.prog 55 g55 := by
  refine cok_q Try.func55 x55_ok (by kernel_rfl) (cok_tab (cok_cons c77 (cok_cons c86 cok_nil))) ?_
  intro args_ E_ nn_ cr_ hg_
  unfold g55 at hg_
  split at hg_
  · rename_i a_From a_Count h
    cases hg_
    refine ⟨_, _, rfl, 0, [], [.a [.v (.int .i64 a_From), .v (.int .i64 a_Count)], .c (.v (.int .i64 h))], [], .o (.c (.v (.bool (arcB a_From a_Count && decide ((h - a_From) % 256 < a_Count))))), rfl, rfl, by simp only [push_cast, Nat.reduceLT, Nat.reduceAdd], by simp only [push_cast, Nat.reduceLT, Nat.reduceAdd], by simp only [push_cast, Nat.reduceLT, Nat.reduceAdd], rfl, trivial, rfl, ?_⟩
    intro hpre hlen
    refine ⟨trivial, ?_⟩
    simp (config := {maxSteps := 10000000}) only [x55, push_cast, Nat.reduceAdd, Nat.reduceSub, Nat.reduceLeDiff, Nat.reduceEqDiff, Nat.reduceBEq, Nat.reduceMul, Nat.reduceLT, reduceIte, reduceCtorEq, Int.reduceLE, Int.reduceLT, Int.reduceEq, Int.reduceMul, Int.reduceAdd, Int.reduceSub, Int.reduceNeg, Int.reduceToNat, Int.reduceNe, g77, g86]
    rw [wrap_256]
  · cases hg_
/-- wayfinder/box.Has -/
def g26 : Con := fun args_ E_ nn_ => match args_ with
  | [.a [.v (.int .i64 b_X0), .v (.int .i64 b_Y0), .v (.int .i64 b_X1), .v (.int .i64 b_Y1), .v (.int .i64 b_From), .v (.int .i64 b_Count)], .a [.v (.int .i64 p_X), .v (.int .i64 p_Y), .v (.int .i64 p_H)]] => some (.q (True) (.o (.c (.v (.bool (hasB b_X0 b_Y0 b_X1 b_Y1 b_From b_Count p_X p_Y p_H))))))
  | _ => none
theorem c26 : COk Try.prog 26 g26 := by
  refine cok_q Try.func26 x26_ok (by kernel_rfl) (cok_tab (cok_cons c42 (cok_cons c55 (cok_cons c46 cok_nil)))) ?_
  intro args_ E_ nn_ cr_ hg_
  unfold g26 at hg_
  split at hg_
  · rename_i b_X0 b_Y0 b_X1 b_Y1 b_From b_Count p_X p_Y p_H
    cases hg_
    refine ⟨_, _, rfl, 0, [], [.a [.v (.int .i64 b_X0), .v (.int .i64 b_Y0), .v (.int .i64 b_X1), .v (.int .i64 b_Y1), .v (.int .i64 b_From), .v (.int .i64 b_Count)], .a [.v (.int .i64 p_X), .v (.int .i64 p_Y), .v (.int .i64 p_H)]], [], .o (.c (.v (.bool (hasB b_X0 b_Y0 b_X1 b_Y1 b_From b_Count p_X p_Y p_H)))), rfl, rfl, by simp only [push_cast, Nat.reduceLT, Nat.reduceAdd], by simp only [push_cast, Nat.reduceLT, Nat.reduceAdd], by simp only [push_cast, Nat.reduceLT, Nat.reduceAdd], rfl, trivial, rfl, ?_⟩
    intro hpre hlen
    refine ⟨trivial, ?_⟩
    simp (config := {maxSteps := 10000000}) only [x26, push_cast, Nat.reduceAdd, Nat.reduceSub, Nat.reduceLeDiff, Nat.reduceEqDiff, Nat.reduceBEq, Nat.reduceMul, Nat.reduceLT, reduceIte, reduceCtorEq, Int.reduceLE, Int.reduceLT, Int.reduceEq, Int.reduceMul, Int.reduceAdd, Int.reduceSub, Int.reduceNeg, Int.reduceToNat, Int.reduceNe, g42, g55, g46]
    unfold hasB
    rw [Bool.eq_iff_iff]
    simp only [Bool.and_eq_true, decide_eq_true_eq]
    constructor
    · rintro ⟨⟨⟨⟨⟨h1, h2⟩, h3⟩, h4⟩, h5⟩, h6, h7⟩
      exact ⟨h1, h2, h3, h4, h5, h7⟩
    · rintro ⟨h1, h2, h3, h4, h5, h7⟩
      refine ⟨⟨⟨⟨⟨h1, h2⟩, h3⟩, h4⟩, h5⟩, ?_, h7⟩
      have := box_parts h1
      unfold arcB
      rw [decide_eq_true_eq]; omega
  · cases hg_
/-- wayfinder/box.Volume -/
def g20 : Con := fun args_ E_ nn_ => match args_ with
  | [.a [.v (.int .i64 b_X0), .v (.int .i64 b_Y0), .v (.int .i64 b_X1), .v (.int .i64 b_Y1), .v (.int .i64 b_From), .v (.int .i64 b_Count)]] => some (.q (True) (.o (.c (.v (.int .i64 (volI b_X0 b_Y0 b_X1 b_Y1 b_From b_Count))))))
  | _ => none
theorem c20 : COk Try.prog 20 g20 := by
  refine cok_q Try.func20 x20_ok (by kernel_rfl) (cok_tab (cok_cons c42 cok_nil)) ?_
  intro args_ E_ nn_ cr_ hg_
  unfold g20 at hg_
  split at hg_
  · rename_i b_X0 b_Y0 b_X1 b_Y1 b_From b_Count
    cases hg_
    refine ⟨_, _, rfl, 0, [], [.a [.v (.int .i64 b_X0), .v (.int .i64 b_Y0), .v (.int .i64 b_X1), .v (.int .i64 b_Y1), .v (.int .i64 b_From), .v (.int .i64 b_Count)]], [], .o (.c (.v (.int .i64 (volI b_X0 b_Y0 b_X1 b_Y1 b_From b_Count)))), rfl, rfl, by simp only [push_cast, Nat.reduceLT, Nat.reduceAdd], by simp only [push_cast, Nat.reduceLT, Nat.reduceAdd], by simp only [push_cast, Nat.reduceLT, Nat.reduceAdd], rfl, trivial, rfl, ?_⟩
    intro hpre hlen
    refine ⟨trivial, ?_⟩
    simp (config := {maxSteps := 10000000}) only [x20, push_cast, Nat.reduceAdd, Nat.reduceSub, Nat.reduceLeDiff, Nat.reduceEqDiff, Nat.reduceBEq, Nat.reduceMul, Nat.reduceLT, reduceIte, reduceCtorEq, Int.reduceLE, Int.reduceLT, Int.reduceEq, Int.reduceMul, Int.reduceAdd, Int.reduceSub, Int.reduceNeg, Int.reduceToNat, Int.reduceNe, g42]
    unfold volI
    refine ⟨fun h => by rw [if_neg (by rw [h]; simp)], fun h => ?_⟩
    have p := box_parts h
    rw [if_pos h]
    have m1 := mulB (a := b_X1 - b_X0 + 1) (b := b_Y1 - b_Y0 + 1) (A := 2097153) (B := 2097153) (by omega) (by omega) (by omega) (by omega)
    have m2 := mulB (a := (b_X1 - b_X0 + 1) * (b_Y1 - b_Y0 + 1)) (b := b_Count) (A := 2097153 * 2097153) (B := 256) (by omega) (by omega) (by omega) (by omega)
    simp (disch := omega) only [wrapI]
  · cases hg_
/-- wayfinder/heading.List -/
def g78 : Con := fun args_ E_ nn_ => match args_ with
  | [.a [.v (.int .i64 a_From), .v (.int .i64 a_Count)]] => some (.e (True) (.o (.c (.n (nn_ + 0)))) [((nn_ + 0), .own (arcL a_From a_Count).length 1 (rowF eI (arcL a_From a_Count)) 3)] (nn_ + 1))
  | _ => none
theorem c78 : COk Try.prog 78 g78 := by
  refine cok_e Try.func78 x78_ok (by kernel_rfl) (cok_tab (cok_cons c77 (cok_cons c86 cok_nil))) ?_
  intro args_ E_ nn_ cr_ hg_
  unfold g78 at hg_
  split at hg_
  · rename_i a_From a_Count
    cases hg_
    refine ⟨_, _, _, _, rfl, 0, [], [.a [.v (.int .i64 a_From), .v (.int .i64 a_Count)]], [], .o (.c (.n 0)), [(0, .own (arcL a_From a_Count).length 1 (rowF eI (arcL a_From a_Count)) 3)], 1, rfl, rfl, by simp only [renE, Ent.ren, rowF_renf] <;> rfl, rfl, by decide, by simp only [push_cast, Nat.reduceLT, Nat.reduceAdd], by simp only [push_cast, Nat.reduceLT, Nat.reduceAdd], by simp only [push_cast, Nat.reduceLT, Nat.reduceAdd], by simp only [push_cast, Nat.reduceLT, Nat.reduceAdd], rfl, trivial, by simp only [keysNodup, outN, keys] <;> decide, rfl, rfl, ?_⟩
    intro hpre hlen
    refine ⟨trivial, by simp only [apartE] <;> (first | trivial | (simp [Ent.mut]; done)), ?_⟩
    simp (config := {maxSteps := 10000000}) only [x78, push_cast, Nat.reduceAdd, Nat.reduceSub, Nat.reduceLeDiff, Nat.reduceEqDiff, Nat.reduceBEq, Nat.reduceMul, Nat.reduceLT, reduceIte, reduceCtorEq, Int.reduceLE, Int.reduceLT, Int.reduceEq, Int.reduceMul, Int.reduceAdd, Int.reduceSub, Int.reduceNeg, Int.reduceToNat, Int.reduceNe, g77, g86]
    refine ⟨fun h => by unfold arcL; rw [if_neg (by rw [h]; simp)]; rfl, fun h => ?_⟩
    have hc := h
    unfold arcB at hc
    rw [decide_eq_true_eq] at hc
    refine ⟨by omega, ?_⟩
    refine vcLoop_upd (α := {k : Nat // k ≤ a_Count.toNat}) [1, 3, 12] 0 (fun s => [(13, .o (.c (.v (.int .i64 (s.1 : Nat)))))]) (fun s => [(1, .own (arcS a_From a_Count.toNat s.1).length 1 (rowF eI (arcS a_From a_Count.toNat s.1)) 3)]) (fun s => a_Count.toNat - s.1) ⟨0, Nat.zero_le _⟩ ?_ ?_
    · simp only [push_cast, Nat.reduceAdd, Nat.reduceSub, Nat.reduceLeDiff, Nat.reduceEqDiff, Nat.reduceBEq, Nat.reduceMul, Nat.reduceLT, reduceIte, reduceCtorEq, Int.reduceLE, Int.reduceLT, Int.reduceEq, Int.reduceMul, Int.reduceAdd, Int.reduceSub, Int.reduceNeg, Int.reduceToNat, Int.reduceNe, g77, g86, arcS_len, arcS_zero]
      refine ⟨by simp, fun e' j he hj => ?_⟩
      rw [rowF_sub]
      exact replF_at eI eI.dflt rfl he
    · rintro ⟨k, hk⟩
      simp only [x78L0, push_cast, Nat.reduceAdd, Nat.reduceSub, Nat.reduceLeDiff, Nat.reduceEqDiff, Nat.reduceBEq, Nat.reduceMul, Nat.reduceLT, reduceIte, reduceCtorEq, Int.reduceLE, Int.reduceLT, Int.reduceEq, Int.reduceMul, Int.reduceAdd, Int.reduceSub, Int.reduceNeg, Int.reduceToNat, Int.reduceNe, g77, g86, arcS_len]
      refine ⟨fun hlt => ⟨hlt, hlt, ⟨k + 1, by omega⟩, ⟨wrapI (by omega) (by omega), ?_⟩, by simp only; omega⟩, fun hge => ?_⟩
      · have hup := updF_row (E := eI) (L := arcS a_From a_Count.toNat k) (e0 := k) (j0 := 0) (x := (a_From + (k : Nat)) % 256) (cs := [SC.v (Value.int IntKind.i64 ((a_From + (k : Nat)) % 256))]) (by rw [arcS_len]; exact hlt) rfl (by simp [eI])
        rw [wrapI (n := a_From + (k : Int)) (by omega) (by omega), hup, arcS_succ hlt]
        exact (rowEq_rowF _ _ _ _).2 trivial
      · obtain rfl : k = a_Count.toNat := by omega
        rw [arcS_all h]
        exact ⟨(arcL_len h).symm, (rowEq_rowF _ _ _ _).2 trivial⟩
  · cases hg_
/-- wayfinder/box.Split$1 -/
def g79 : Con := fun args_ E_ nn_ => match args_ with
  | [.c (.v (.int .i64 n)), .c (.v (.int .i64 unit))] => some (.q (0 ≤ n ∧ n ≤ 10000000 ∧ 0 ≤ unit ∧ unit ≤ 100) (.o (.c (.v (.int .i64 (szI n unit))))))
  | _ => none
theorem c79 : COk Try.prog 79 g79 := by
  refine cok_q Try.func79 x79_ok (by kernel_rfl) (cok_tab cok_nil) ?_
  intro args_ E_ nn_ cr_ hg_
  unfold g79 at hg_
  split at hg_
  · rename_i n unit
    cases hg_
    refine ⟨_, _, rfl, 0, [], [.c (.v (.int .i64 n)), .c (.v (.int .i64 unit))], [], .o (.c (.v (.int .i64 (szI n unit)))), rfl, rfl, by simp only [push_cast, Nat.reduceLT, Nat.reduceAdd], by simp only [push_cast, Nat.reduceLT, Nat.reduceAdd], by simp only [push_cast, Nat.reduceLT, Nat.reduceAdd], rfl, trivial, rfl, ?_⟩
    intro hpre hlen
    refine ⟨trivial, ?_⟩
    simp (config := {maxSteps := 10000000}) only [x79, push_cast, Nat.reduceAdd, Nat.reduceSub, Nat.reduceLeDiff, Nat.reduceEqDiff, Nat.reduceBEq, Nat.reduceMul, Nat.reduceLT, reduceIte, reduceCtorEq, Int.reduceLE, Int.reduceLT, Int.reduceEq, Int.reduceMul, Int.reduceAdd, Int.reduceSub, Int.reduceNeg, Int.reduceToNat, Int.reduceNe]
    unfold szI
    have m := mulB (a := n) (b := unit) (A := 10000000) (B := 100) (by omega) (by omega) (by omega) (by omega)
    exact ⟨fun h => by rw [if_pos h], fun h => by rw [if_neg h, wrapI (by omega) (by omega)]⟩
  · cases hg_
/-- wayfinder/box.Split -/
def g44 : Con := fun args_ E_ nn_ => match args_ with
  | [.a [.v (.int .i64 b_X0), .v (.int .i64 b_Y0), .v (.int .i64 b_X1), .v (.int .i64 b_Y1), .v (.int .i64 b_From), .v (.int .i64 b_Count)]] => some (.q (True) (.t [.a [.v (.int .i64 (splA (⟨b_X0, b_Y0, b_X1, b_Y1, b_From, b_Count⟩ : BB)).X0), .v (.int .i64 (splA (⟨b_X0, b_Y0, b_X1, b_Y1, b_From, b_Count⟩ : BB)).Y0), .v (.int .i64 (splA (⟨b_X0, b_Y0, b_X1, b_Y1, b_From, b_Count⟩ : BB)).X1), .v (.int .i64 (splA (⟨b_X0, b_Y0, b_X1, b_Y1, b_From, b_Count⟩ : BB)).Y1), .v (.int .i64 (splA (⟨b_X0, b_Y0, b_X1, b_Y1, b_From, b_Count⟩ : BB)).F), .v (.int .i64 (splA (⟨b_X0, b_Y0, b_X1, b_Y1, b_From, b_Count⟩ : BB)).N)], .a [.v (.int .i64 (splB (⟨b_X0, b_Y0, b_X1, b_Y1, b_From, b_Count⟩ : BB)).X0), .v (.int .i64 (splB (⟨b_X0, b_Y0, b_X1, b_Y1, b_From, b_Count⟩ : BB)).Y0), .v (.int .i64 (splB (⟨b_X0, b_Y0, b_X1, b_Y1, b_From, b_Count⟩ : BB)).X1), .v (.int .i64 (splB (⟨b_X0, b_Y0, b_X1, b_Y1, b_From, b_Count⟩ : BB)).Y1), .v (.int .i64 (splB (⟨b_X0, b_Y0, b_X1, b_Y1, b_From, b_Count⟩ : BB)).F), .v (.int .i64 (splB (⟨b_X0, b_Y0, b_X1, b_Y1, b_From, b_Count⟩ : BB)).N)], .c (.v (.bool (canB (⟨b_X0, b_Y0, b_X1, b_Y1, b_From, b_Count⟩ : BB))))]))
  | _ => none
set_option maxHeartbeats 1000000 in
theorem c44 : COk Try.prog 44 g44 := by
  refine cok_q Try.func44 x44_ok (by kernel_rfl) (cok_tab (cok_cons c20 (cok_cons c79 cok_nil))) ?_
  intro args_ E_ nn_ cr_ hg_
  unfold g44 at hg_
  split at hg_
  · rename_i b_X0 b_Y0 b_X1 b_Y1 b_From b_Count
    cases hg_
    refine ⟨_, _, rfl, 0, [], [.a [.v (.int .i64 b_X0), .v (.int .i64 b_Y0), .v (.int .i64 b_X1), .v (.int .i64 b_Y1), .v (.int .i64 b_From), .v (.int .i64 b_Count)]], [], .t [.a [.v (.int .i64 (splA (⟨b_X0, b_Y0, b_X1, b_Y1, b_From, b_Count⟩ : BB)).X0), .v (.int .i64 (splA (⟨b_X0, b_Y0, b_X1, b_Y1, b_From, b_Count⟩ : BB)).Y0), .v (.int .i64 (splA (⟨b_X0, b_Y0, b_X1, b_Y1, b_From, b_Count⟩ : BB)).X1), .v (.int .i64 (splA (⟨b_X0, b_Y0, b_X1, b_Y1, b_From, b_Count⟩ : BB)).Y1), .v (.int .i64 (splA (⟨b_X0, b_Y0, b_X1, b_Y1, b_From, b_Count⟩ : BB)).F), .v (.int .i64 (splA (⟨b_X0, b_Y0, b_X1, b_Y1, b_From, b_Count⟩ : BB)).N)], .a [.v (.int .i64 (splB (⟨b_X0, b_Y0, b_X1, b_Y1, b_From, b_Count⟩ : BB)).X0), .v (.int .i64 (splB (⟨b_X0, b_Y0, b_X1, b_Y1, b_From, b_Count⟩ : BB)).Y0), .v (.int .i64 (splB (⟨b_X0, b_Y0, b_X1, b_Y1, b_From, b_Count⟩ : BB)).X1), .v (.int .i64 (splB (⟨b_X0, b_Y0, b_X1, b_Y1, b_From, b_Count⟩ : BB)).Y1), .v (.int .i64 (splB (⟨b_X0, b_Y0, b_X1, b_Y1, b_From, b_Count⟩ : BB)).F), .v (.int .i64 (splB (⟨b_X0, b_Y0, b_X1, b_Y1, b_From, b_Count⟩ : BB)).N)], .c (.v (.bool (canB (⟨b_X0, b_Y0, b_X1, b_Y1, b_From, b_Count⟩ : BB))))], rfl, rfl, by simp only [push_cast, Nat.reduceLT, Nat.reduceAdd], by simp only [push_cast, Nat.reduceLT, Nat.reduceAdd], by simp only [push_cast, Nat.reduceLT, Nat.reduceAdd], rfl, trivial, rfl, ?_⟩
    intro hpre hlen
    refine ⟨trivial, ?_⟩
    simp (config := {maxSteps := 10000000}) only [x44, push_cast, Nat.reduceAdd, Nat.reduceSub, Nat.reduceLeDiff, Nat.reduceEqDiff, Nat.reduceBEq, Nat.reduceMul, Nat.reduceLT, reduceIte, reduceCtorEq, Int.reduceLE, Int.reduceLT, Int.reduceEq, Int.reduceMul, Int.reduceAdd, Int.reduceSub, Int.reduceNeg, Int.reduceToNat, Int.reduceNe, g20, g79]
    refine ⟨fun h => ?_, fun h => ?_⟩
    · have e : canB (⟨b_X0, b_Y0, b_X1, b_Y1, b_From, b_Count⟩ : BB) = false := decide_eq_false (by simp only; omega)
      simp [splA, splB, e, zBB]
    have e : canB (⟨b_X0, b_Y0, b_X1, b_Y1, b_From, b_Count⟩ : BB) = true := decide_eq_true (by simp only; omega)
    have ok := (can_iff.1 e).1
    have p := box_parts ok
    simp only at p
    have eA : splA (⟨b_X0, b_Y0, b_X1, b_Y1, b_From, b_Count⟩ : BB) = halfA (⟨b_X0, b_Y0, b_X1, b_Y1, b_From, b_Count⟩ : BB) := if_pos e
    have eB : splB (⟨b_X0, b_Y0, b_X1, b_Y1, b_From, b_Count⟩ : BB) = halfB (⟨b_X0, b_Y0, b_X1, b_Y1, b_From, b_Count⟩ : BB) := if_pos e
    rw [eA, eB]
    have w1 : IntKind.i64.wrap (IntKind.i64.wrap (b_X1 - b_X0) + 1) = b_X1 - b_X0 + 1 := by rw [wrapI (n := b_X1 - b_X0) (by omega) (by omega), wrapI (by omega) (by omega)]
    have w2 : IntKind.i64.wrap (IntKind.i64.wrap (b_Y1 - b_Y0) + 1) = b_Y1 - b_Y0 + 1 := by rw [wrapI (n := b_Y1 - b_Y0) (by omega) (by omega), wrapI (by omega) (by omega)]
    have t1 : (b_X1 - b_X0 + 1).tdiv 2 = (b_X1 - b_X0 + 1) / 2 := Int.tdiv_eq_ediv_of_nonneg (by omega)
    have t2 : (b_Y1 - b_Y0 + 1).tdiv 2 = (b_Y1 - b_Y0 + 1) / 2 := Int.tdiv_eq_ediv_of_nonneg (by omega)
    have t3 : b_Count.tdiv 2 = b_Count / 2 := Int.tdiv_eq_ediv_of_nonneg (by omega)
    have t4 : (b_From + b_Count / 2).tmod 256 = (b_From + b_Count / 2) % 256 := Int.tmod_eq_emod_of_nonneg (by omega)
    simp only [w1, w2, t1, t2, t3]
    simp (disch := omega) only [wrapI, t4]
    refine ⟨by omega, by omega, by omega, by rfl, fun c1 c2 => ?_, fun c => ⟨fun c3 => ?_, fun c3 => ?_⟩⟩
    · have a1 : halfA (⟨b_X0, b_Y0, b_X1, b_Y1, b_From, b_Count⟩ : BB) = _ := if_pos ⟨c1, c2⟩
      have a2 : halfB (⟨b_X0, b_Y0, b_X1, b_Y1, b_From, b_Count⟩ : BB) = _ := if_pos ⟨c1, c2⟩
      rw [a1, a2]
      exact ⟨by rfl, ⟨rfl, rfl, rfl, rfl, rfl, rfl⟩, ⟨rfl, rfl, rfl, rfl, rfl, rfl⟩, e.symm⟩
    · have c' := c
      rw [← Bool.decide_and, decide_eq_false_iff_not] at c'
      have a1 : halfA (⟨b_X0, b_Y0, b_X1, b_Y1, b_From, b_Count⟩ : BB) = _ := (if_neg c').trans (if_pos c3)
      have a2 : halfB (⟨b_X0, b_Y0, b_X1, b_Y1, b_From, b_Count⟩ : BB) = _ := (if_neg c').trans (if_pos c3)
      rw [a1, a2]
      exact ⟨by rfl, ⟨rfl, rfl, rfl, rfl, rfl, rfl⟩, ⟨rfl, rfl, rfl, rfl, rfl, rfl⟩, e.symm⟩
    · have c' := c
      rw [← Bool.decide_and, decide_eq_false_iff_not] at c'
      have a1 : halfA (⟨b_X0, b_Y0, b_X1, b_Y1, b_From, b_Count⟩ : BB) = _ := (if_neg c').trans (if_neg c3)
      have a2 : halfB (⟨b_X0, b_Y0, b_X1, b_Y1, b_From, b_Count⟩ : BB) = _ := (if_neg c').trans (if_neg c3)
      rw [a1, a2]
      exact ⟨by rfl, by rfl, ⟨rfl, rfl, rfl, rfl, rfl, rfl⟩, ⟨rfl, rfl, rfl, rfl, rfl, rfl⟩, e.symm⟩
  · cases hg_
end Go.Proofs.Ytjnelnofbpjdmaa
set_option linter.unusedVariables false
set_option linter.unusedSimpArgs false
set_option maxRecDepth 20000
namespace Go.Proofs.Ytjnelnofbpjdmaa
open Go.Sx Go.Way
/-! Trimmed boxes -/
def oB : Option BB → BB
  | some b => b
  | none => zBB
theorem oB_some (b : BB) : oB (some b) = b := rfl
theorem oB_none : oB none = zBB := rfl
/-- The marks that stay. -/
def trmF (f : Int → Bool) (x0 y0 x1 y1 F : Int) (n : Nat) : Option BB :=
  if ldN f F n = n then none else some ⟨x0, y0, x1, y1, (F + (ldN f F n : Nat)) % 256, ((n - ldN f F n - tlN f (F + (ldN f F n : Nat)) (n - ldN f F n) : Nat) : Int)⟩
noncomputable def badF (W H : Int) (L : List Int) (S : List CC) (rng x0 y0 x1 y1 : Int) (h : Int) : Bool := badB W H L x0 y0 x1 y1 h S rng
noncomputable def trmO (W H : Int) (L : List Int) (S : List CC) (rng : Int) (b : BB) : Option BB :=
  if min b.X1 (64 * W) < max b.X0 0 ∨ min b.Y1 (64 * H) < max b.Y0 0 then none
  else trmF (badF W H L S rng (max b.X0 0) (max b.Y0 0) (min b.X1 (64 * W)) (min b.Y1 (64 * H))) (max b.X0 0) (max b.Y0 0) (min b.X1 (64 * W)) (min b.Y1 (64 * H)) b.F b.N.toNat
def rightB (W H : Int) (L : List Int) (S : List CC) (rng : Int) : Bool := planB W H L && scanB S && decide (1 ≤ rng ∧ rng ≤ 32)
noncomputable def trimO (W H : Int) (L : List Int) (S : List CC) (rng : Int) (b : BB) : Option BB :=
  if rightB W H L S rng = true ∧ b.ok = true then trmO W H L S rng b else none
theorem trmF_ok {f : Int → Bool} {x0 y0 x1 y1 F N : Int} {c : BB} (hN : 1 ≤ N ∧ N ≤ 256 ∧ 0 ≤ F ∧ F < 256 ∧ (F = 0 ∨ N < 256)) (hx : -1048576 ≤ x0 ∧ x0 ≤ x1 ∧ x1 ≤ 1048576) (hy : -1048576 ≤ y0 ∧ y0 ≤ y1 ∧ y1 ≤ 1048576) (h : trmF f x0 y0 x1 y1 F N.toNat = some c) : c.ok = true := by
  unfold trmF at h
  split at h
  · cases h
  · rename_i hk
    have a0 := ldN_le (f := f) N.toNat F
    have a1 := trm_pos (f := f) (fr := F) (n := N.toNat) (by omega)
    generalize ldN f F N.toNat = K at *
    generalize tlN f (F + (K : Int)) (N.toNat - K) = T at *
    cases h
    refine box_of ?_
    simp only
    by_cases q : K = 0
    · subst q; omega
    · omega
theorem trmO_ok {W H : Int} {L : List Int} {S : List CC} {rng : Int} {b c : BB} (hb : b.ok = true) (h : trmO W H L S rng b = some c) : c.ok = true := by
  unfold trmO at h
  split at h
  · cases h
  · rename_i hk
    have p := box_parts hb
    exact trmF_ok ⟨p.2.2.2.2.2.2.2.2.1, p.2.2.2.2.2.2.2.2.2.1, p.2.2.2.2.2.2.1, p.2.2.2.2.2.2.2.1, p.2.2.2.2.2.2.2.2.2.2⟩ (by omega) (by omega) h
/-! The queue -/
def rqQ (t : BB → Option BB) : Nat → List BB → Int → List BB → List BB
  | 0, _, _, out => out
  | _ + 1, [], _, out => out
  | n + 1, b :: q, sp, out =>
    match t b with
    | none => rqQ t n q sp out
    | some c => if 0 < sp ∧ canB c = true then rqQ t n (q ++ [halfA c, halfB c]) (sp - 1) out else rqQ t n q sp (out ++ [c])
def rqL (t : BB → Option BB) (q : List BB) (sp : Int) (out : List BB) : List BB := rqQ t (q.length + 2 * sp.toNat) q sp out
section
variable {t : BB → Option BB} {b c : BB} {q out : List BB} {sp : Int}
theorem rqL_nil : rqL t [] sp out = out := by
  unfold rqL
  cases ([] : List BB).length + 2 * sp.toNat <;> rfl
theorem rqL_none (h : t b = none) : rqL t (b :: q) sp out = rqL t q sp out := by
  unfold rqL
  rw [show (b :: q).length + 2 * sp.toNat = (q.length + 2 * sp.toNat) + 1 by simp only [List.length_cons]; omega]
  simp only [rqQ, h]
theorem rqL_split (h : t b = some c) (h1 : 0 < sp) (h2 : canB c = true) : rqL t (b :: q) sp out = rqL t (q ++ [halfA c, halfB c]) (sp - 1) out := by
  unfold rqL
  rw [show (b :: q).length + 2 * sp.toNat = ((q ++ [halfA c, halfB c]).length + 2 * (sp - 1).toNat) + 1 by simp only [List.length_cons, List.length_append, List.length_nil]; omega]
  simp only [rqQ, h, if_pos (And.intro h1 h2)]
theorem rqL_keep (h : t b = some c) (h1 : ¬ (0 < sp ∧ canB c = true)) : rqL t (b :: q) sp out = rqL t q sp (out ++ [c]) := by
  unfold rqL
  rw [show (b :: q).length + 2 * sp.toNat = (q.length + 2 * sp.toNat) + 1 by simp only [List.length_cons]; omega]
  simp only [rqQ, h, if_neg h1]
/-- Something that is kept by every step is so of the result. -/
theorem rqL_inv {P : List BB → Int → List BB → Prop} (h0 : P q sp out)
    (hn : ∀ b q sp out, P (b :: q) sp out → t b = none → P q sp out)
    (hs : ∀ b c q sp out, P (b :: q) sp out → t b = some c → 0 < sp → canB c = true → P (q ++ [halfA c, halfB c]) (sp - 1) out)
    (hk : ∀ b c q sp out, P (b :: q) sp out → t b = some c → P q sp (out ++ [c])) : ∃ sp', P [] sp' (rqL t q sp out) := by
  generalize hm : q.length + 2 * sp.toNat = m
  induction m generalizing q sp out with
  | zero =>
    have : q = [] := List.eq_nil_of_length_eq_zero (by omega)
    subst this
    exact ⟨sp, by rw [rqL_nil]; exact h0⟩
  | succ m ih =>
    cases q with
    | nil => exact ⟨sp, by rw [rqL_nil]; exact h0⟩
    | cons b q =>
      simp only [List.length_cons] at hm
      cases hb : t b with
      | none => rw [rqL_none hb]; exact ih (hn b q sp out h0 hb) (by omega)
      | some c =>
        by_cases g : 0 < sp ∧ canB c = true
        · rw [rqL_split hb g.1 g.2]
          exact ih (hs b c q sp out h0 hb g.1 g.2) (by simp only [List.length_append, List.length_cons, List.length_nil]; omega)
        · rw [rqL_keep hb g]
          exact ih (hk b c q sp out h0 hb) (by omega)
end
theorem scan_at {S : List CC} {k : Nat} (h : scanB S = true) (hk : k < S.length) : beamB (S.getD k eC.dflt).X (S.getD k eC.dflt).Y = true := by
  unfold scanB at h
  rw [Bool.and_eq_true, List.all_eq_true] at h
  exact h.2 _ (getD_in hk)
theorem dropAt {L : List Int} {k i : Nat} : (L.drop k).getD i eI.dflt = L.getD (k + i) eI.dflt := by
  simp only [List.getD_eq_getElem?_getD, List.getElem?_drop]
theorem takeAtD {L : List Int} {n i : Nat} (h : i < n) : (L.take n).getD i eI.dflt = L.getD i eI.dflt := by
  simp only [List.getD_eq_getElem?_getD, List.getElem?_take, if_pos h]
theorem sh_eq {L L' : List Int} {n sz : Nat} {b : Bnd} (h : L.drop 1 = L') (hn : n + 1 ≤ L.length) : rowEq n sz (shF 1 (rowF eI L)) (rowF eI L') (SC.sub b) := by
  intro e j he hj
  rw [shF_at eI L 1 (by omega), h, rowF_sub]
theorem tk_eq {L L' : List Int} {n m sz : Nat} {b : Bnd} (h : L.take m = L') (hm : n ≤ m) (hn : n ≤ L.length) : rowEq n sz (shF 0 (rowF eI L)) (rowF eI L') (SC.sub b) := by
  intro e j he hj
  subst h
  rw [shF_at eI L 0 (by omega), List.drop_zero, rowF_sub]
  unfold rowF
  rw [takeAtD (by omega)]
theorem trmF_none {f : Int → Bool} {x0 y0 x1 y1 F : Int} {n : Nat} (h : ∀ i : Nat, i < n → f ((F + i) % 256) = true) : trmF f x0 y0 x1 y1 F n = none :=
  if_pos (ldN_uniq n F n (Nat.le_refl _) h fun h => absurd h (Nat.lt_irrefl _))
theorem trmF_some {f : Int → Bool} {x0 y0 x1 y1 F : Int} {n k j : Nat} (hk : k < n) (hf : ∀ i : Nat, i < k → f ((F + i) % 256) = true) (hn : f ((F + k) % 256) = false)
    (hj : j ≤ n - k) (hg : ∀ i : Nat, n - k - j ≤ i → i < n - k → f ((F + (k : Nat) + i) % 256) = true) (hm : j < n - k → f ((F + (k : Nat) + (n - k - j - 1 : Nat)) % 256) = false) :
    trmF f x0 y0 x1 y1 F n = some ⟨x0, y0, x1, y1, (F + (k : Nat)) % 256, ((n - k - j : Nat) : Int)⟩ := by
  have e1 : ldN f F n = k := ldN_uniq n F k (by omega) hf fun _ => hn
  have e2 : tlN f (F + (k : Nat)) (n - k) = j := tlN_uniq (n - k) (F + (k : Nat)) j hj hg hm
  unfold trmF
  rw [e1, e2, if_neg (by omega)]
def x75L0 : XC := (.seq (.reg false [O2 8 (.bin .lss) 7 6]) (.seq (.cond (.t 8) .skip (.exit 0)) (.seq (.block 1 (.seq (.reg false [O2 9 (.ixS 2) 5 7, O1 10 (.loadN 2) 9, ⟨(some 4), (.alloc 28 [(iV 0), (iV 0)]), [], none⟩, ⟨none, (.store 2), [(.t 4), (.t 10)], none⟩]) (.seq (.reg false [O1 11 (.loadN 2) 4, O1 12 (.call 30) 11, O1 13 (.un .not) 12]) (.cond (.t 13) (.seq (.reg false [K1 2 .mv (.bool false)]) .ret) .skip)))) (.reg false [K2 14 (.bin .add) 7 (iV 1), O1 7 .mv 14]))))
def x75 : XFn := ⟨18, (.seq (.reg false [K1 2 .mv (.bool false)]) (.seq (.seq (.reg false [O1 5 .mv 0, O1 6 .lenS 5, K1 7 .mv (iV 0)]) (.block 0 (.loop x75L0))) (.seq (.reg false [O1 15 .mv 0, O1 16 .lenS 15, K2 17 (.bin .leq) 16 (iV 32), O1 2 .mv 17]) .ret))), [(.s 2)]⟩
theorem x75_ok : xfn Try.prog Try.f75 = some x75.er := by kernel_rfl
def x41 : XFn := ⟨17, (.seq (.reg false [O1 3 (.box 24) 0, K1 6 .mv (.bool false)]) (.seq (.reg false [O1 7 (.loadN 3) 3, O1 8 (.call 29) 7, O1 9 .mv 8, G1 10 .mv 1 9 true, G1 11 (.call 75) 10 9 true, ⟨(some 12), .pick, [(.t 9), (.t 11), (.k (.bool false))], none⟩, O1 13 .mv 12, G1 14 .mv 2 13 true, ⟨(some 15), (.call 32), [(.t 14), (.k (iV 1)), (.k (iV 32))], (some (13, true))⟩, ⟨(some 16), .pick, [(.t 13), (.t 15), (.k (.bool false))], none⟩, O1 6 .mv 16]) .ret)), [(.s 6)]⟩
theorem x41_ok : xfn Try.prog Try.f41 = some x41.er := by kernel_rfl
def x58L0 : XC := (.seq (.reg false [O2 19 (.bin .lss) 18 17]) (.seq (.cond (.t 19) .skip (.exit 0)) (.seq (.block 1 (.seq (.reg false [O2 20 (.ixS 2) 16 18, O1 21 (.loadN 2) 20, ⟨(some 12), (.alloc 28 [(iV 0), (iV 0)]), [], none⟩, ⟨none, (.store 2), [(.t 12), (.t 21)], none⟩]) (.seq (.reg false [O1 22 (.loadN 3) 5, O1 23 (.loadN 4) 6, O1 24 .mv 2, O1 25 (.loadN 2) 12, O1 26 .mv 4, ⟨(some 27), (.call 33), [(.t 22), (.t 23), (.t 24), (.t 25), (.t 26)], none⟩]) (.cond (.t 27) (.seq (.reg false [K1 10 .mv (.bool true)]) .ret) .skip)))) (.reg false [K2 28 (.bin .add) 18 (iV 1), O1 18 .mv 28]))))
def x58 : XFn := ⟨29, (.seq (.reg false [O1 5 (.box 24) 0, O1 6 (.box 26) 1, K1 10 .mv (.bool false)]) (.seq (.seq (.reg false [O1 13 (.loadN 4) 6, O1 14 (.call 31) 13, O1 15 (.un .not) 14]) (.cond (.t 15) (.seq (.reg false [K1 10 .mv (.bool false)]) .ret) .skip)) (.seq (.seq (.reg false [O1 16 .mv 3, O1 17 .lenS 16, K1 18 .mv (iV 0)]) (.block 0 (.loop x58L0))) (.seq (.reg false [K1 10 .mv (.bool false)]) .ret)))), [(.s 10)]⟩
theorem x58_ok : xfn Try.prog Try.f58 = some x58.er := by kernel_rfl
def x43L0 : XC := (.seq (.seq (.reg true [O1 50 .mv 11, O1 51 .lenS 50, K2 52 (.bin .gtr) 51 (iV 0), O1 53 .mv 52, G1 54 (.loadN 3) 4 53 true, G1 55 (.loadN 4) 10 53 true, G1 56 .mv 11 53 true, GK 57 (.ixS 1) 56 (iV 0) 53 true, G1 58 .load1 57 53 true, G1 59 .mv 2 53 true, G1 60 .mv 3 53 true, ⟨(some 61), (.call 58), [(.t 54), (.t 55), (.t 58), (.t 59), (.t 60)], (some (53, true))⟩, ⟨(some 62), .pick, [(.t 53), (.t 61), (.k (.bool false))], none⟩]) (.cond (.t 62) .skip (.exit 0))) (.block 1 (.reg false [O1 63 .mv 11, K2 64 (.slc 1 true false false) 63 (iV 1), O1 11 .mv 64])))
def x43L1 : XC := (.seq (.seq (.reg true [O1 69 (.loadN 3) 4, O1 70 (.loadN 4) 10, O1 71 .mv 11, O1 72 .mv 11, O1 73 .lenS 72, K2 74 (.bin .sub) 73 (iV 1), O2 75 (.ixS 1) 71 74, O1 76 .load1 75, O1 77 .mv 2, O1 78 .mv 3, ⟨(some 79), (.call 58), [(.t 69), (.t 70), (.t 76), (.t 77), (.t 78)], none⟩]) (.cond (.t 79) .skip (.exit 2))) (.block 3 (.reg false [O1 80 .mv 11, O1 81 .mv 11, O1 82 .lenS 81, K2 83 (.bin .sub) 82 (iV 1), O2 84 (.slc 1 false true false) 80 83, O1 11 .mv 84])))
def x43 : XFn := ⟨99, (.seq (.reg false [O1 4 (.box 24) 0, O1 5 (.box 46) 1, ⟨(some 8), (.alloc 46 [(iV 0), (iV 0), (iV 0), (iV 0), (iV 0), (iV 0)]), [], none⟩, K1 9 .mv (.bool false)]) (.seq (.reg false [O1 12 (.fld 0) 5, O1 13 .load1 12, K2 14 .maxI 13 (iV 0), O1 15 (.fld 1) 5, O1 16 .load1 15, K2 17 .maxI 16 (iV 0), O1 18 (.fld 2) 5, O1 19 .load1 18, O1 20 (.fld 0) 4, O1 21 .load1 20, ⟨(some 22), (.bin .mul), [(.k (iV 64)), (.t 21)], none⟩, O2 23 .minI 19 22, O1 24 (.fld 3) 5, O1 25 .load1 24, O1 26 (.fld 1) 4, O1 27 .load1 26, ⟨(some 28), (.bin .mul), [(.k (iV 64)), (.t 27)], none⟩, O2 29 .minI 25 28, ⟨(some 30), (.build [(iV 0), (iV 0), (iV 0), (iV 0)] [(0, 1), (1, 1), (2, 1), (3, 1)]), [(.t 14), (.t 17), (.t 23), (.t 29)], none⟩, ⟨(some 10), (.alloc 26 [(iV 0), (iV 0), (iV 0), (iV 0)]), [], none⟩, ⟨none, (.store 4), [(.t 10), (.t 30)], none⟩]) (.seq (.seq (.reg false [O1 31 (.fld 0) 10, O1 32 .load1 31, O1 33 (.fld 2) 10, O1 34 .load1 33, O2 35 (.bin .gtr) 32 34, O1 36 .mv 35, G1 37 (.fld 1) 10 36 false, G1 38 .load1 37 36 false, G1 39 (.fld 3) 10 36 false, G1 40 .load1 39 36 false, G2 41 (.bin .gtr) 38 40 36 false, ⟨(some 42), .pick, [(.t 36), (.k (.bool true)), (.t 41)], none⟩]) (.cond (.t 42) (.seq (.reg false [⟨(some 43), (.build [(iV 0), (iV 0), (iV 0), (iV 0), (iV 0), (iV 0)] []), [], none⟩, ⟨none, (.store 6), [(.t 8), (.t 43)], none⟩, K1 9 .mv (.bool false)]) .ret) .skip)) (.seq (.reg false [O1 44 (.fld 4) 5, O1 45 .load1 44, O1 46 (.fld 5) 5, O1 47 .load1 46, ⟨(some 48), (.build [(iV 0), (iV 0)] [(0, 1), (1, 1)]), [(.t 45), (.t 47)], none⟩, O1 49 (.call 78) 48, O1 11 .mv 49]) (.seq (.block 0 (.loop x43L0)) (.seq (.seq (.reg false [O1 65 .mv 11, O1 66 .lenS 65, K2 67 (.bin .eql) 66 (iV 0)]) (.cond (.t 67) (.seq (.reg false [⟨(some 68), (.build [(iV 0), (iV 0), (iV 0), (iV 0), (iV 0), (iV 0)] []), [], none⟩, ⟨none, (.store 6), [(.t 8), (.t 68)], none⟩, K1 9 .mv (.bool false)]) .ret) .skip)) (.seq (.block 2 (.loop x43L1)) (.seq (.regD [O1 85 (.fld 0) 10, O1 86 .load1 85, O1 87 (.fld 1) 10, O1 88 .load1 87, O1 89 (.fld 2) 10, O1 90 .load1 89, O1 91 (.fld 3) 10, O1 92 .load1 91, O1 93 .mv 11, K2 94 (.ixS 1) 93 (iV 0), O1 95 .load1 94, O1 96 .mv 11, O1 97 .lenS 96, ⟨(some 98), (.build [(iV 0), (iV 0), (iV 0), (iV 0), (iV 0), (iV 0)] [(0, 1), (1, 1), (2, 1), (3, 1), (4, 1), (5, 1)]), [(.t 86), (.t 88), (.t 90), (.t 92), (.t 95), (.t 97)], none⟩, ⟨none, (.store 6), [(.t 8), (.t 98)], none⟩, K1 9 .mv (.bool true)] [[], [0], [], [2], [], [4], [], [6], [], [8], [9, 8], [], [11], [1, 0, 3, 2, 5, 4, 7, 6, 10, 9, 8, 12, 11], [13, 1, 0, 3, 2, 5, 4, 7, 6, 10, 9, 8, 12, 11], [14, 13, 1, 0, 3, 2, 5, 4, 7, 6, 10, 9, 8, 12, 11]]) .ret)))))))), [(.bn 8 6), (.s 9)]⟩
theorem x43_ok : xfn Try.prog Try.f43 = some x43.er := by kernel_rfl
def x21 : XFn := ⟨28, (.seq (.reg false [O1 4 (.box 24) 0, O1 5 (.box 46) 1, ⟨(some 8), (.alloc 46 [(iV 0), (iV 0), (iV 0), (iV 0), (iV 0), (iV 0)]), [], none⟩, K1 9 .mv (.bool false)]) (.seq (.seq (.reg false [O1 10 (.loadN 3) 4, O1 11 .mv 2, O1 12 .mv 3, ⟨(some 13), (.call 41), [(.t 10), (.t 11), (.t 12)], none⟩, O1 14 (.un .not) 13, O1 15 .mv 14, G1 16 (.loadN 6) 5 15 false, G1 17 (.call 42) 16 15 false, G1 18 (.un .not) 17 15 false, ⟨(some 19), .pick, [(.t 15), (.k (.bool true)), (.t 18)], none⟩]) (.cond (.t 19) (.seq (.reg false [⟨(some 20), (.build [(iV 0), (iV 0), (iV 0), (iV 0), (iV 0), (iV 0)] []), [], none⟩, ⟨none, (.store 6), [(.t 8), (.t 20)], none⟩, K1 9 .mv (.bool false)]) .ret) .skip)) (.seq (.reg false [O1 21 (.loadN 3) 4, O1 22 (.loadN 6) 5, O1 23 .mv 2, O1 24 .mv 3, ⟨(some 25), (.call 43), [(.t 21), (.t 22), (.t 23), (.t 24)], none⟩, O1 26 (.ext 0) 25, O1 27 (.ext 1) 25, ⟨none, (.store 6), [(.t 8), (.t 26)], none⟩, O1 9 .mv 27]) .ret))), [(.bn 8 6), (.s 9)]⟩
theorem x21_ok : xfn Try.prog Try.f21 = some x21.er := by kernel_rfl
def x28 : XFn := ⟨54, (.seq (.reg false [O1 4 (.box 24) 0, O1 5 (.box 36) 1, K1 8 .mv (.bool false)]) (.seq (.seq (.reg false [O1 9 (.loadN 3) 4, O1 10 .mv 2, O1 11 .mv 3, ⟨(some 12), (.call 41), [(.t 9), (.t 10), (.t 11)], none⟩, O1 13 (.un .not) 12, O1 14 .mv 13, G1 15 (.fld 0) 5 14 false, G1 16 .load1 15 14 false, G1 17 (.fld 0) 4 14 false, G1 18 .load1 17 14 false, ⟨(some 19), (.bin .mul), [(.k (iV 64)), (.t 18)], (some (14, false))⟩, ⟨(some 20), (.call 32), [(.t 16), (.k (iV 0)), (.t 19)], (some (14, false))⟩, G1 21 (.un .not) 20 14 false, ⟨(some 22), .pick, [(.t 14), (.k (.bool true)), (.t 21)], none⟩, O1 23 .mv 22, G1 24 (.fld 1) 5 23 false, G1 25 .load1 24 23 false, G1 26 (.fld 1) 4 23 false, G1 27 .load1 26 23 false, ⟨(some 28), (.bin .mul), [(.k (iV 64)), (.t 27)], (some (23, false))⟩, ⟨(some 29), (.call 32), [(.t 25), (.k (iV 0)), (.t 28)], (some (23, false))⟩, G1 30 (.un .not) 29 23 false, ⟨(some 31), .pick, [(.t 23), (.k (.bool true)), (.t 30)], none⟩, O1 32 .mv 31, G1 33 (.fld 2) 5 32 false, G1 34 .load1 33 32 false, ⟨(some 35), (.call 32), [(.t 34), (.k (iV 0)), (.k (iV 255))], (some (32, false))⟩, G1 36 (.un .not) 35 32 false, ⟨(some 37), .pick, [(.t 32), (.k (.bool true)), (.t 36)], none⟩]) (.cond (.t 37) (.seq (.reg false [K1 8 .mv (.bool false)]) .ret) .skip)) (.seq (.reg false [O1 38 (.loadN 3) 4, O1 39 (.fld 0) 5, O1 40 .load1 39, O1 41 (.fld 1) 5, O1 42 .load1 41, O1 43 (.fld 0) 5, O1 44 .load1 43, O1 45 (.fld 1) 5, O1 46 .load1 45, ⟨(some 47), (.build [(iV 0), (iV 0), (iV 0), (iV 0)] [(0, 1), (1, 1), (2, 1), (3, 1)]), [(.t 40), (.t 42), (.t 44), (.t 46)], none⟩, O1 48 (.fld 2) 5, O1 49 .load1 48, O1 50 .mv 2, O1 51 .mv 3, ⟨(some 52), (.call 58), [(.t 38), (.t 47), (.t 49), (.t 50), (.t 51)], none⟩, O1 53 (.un .not) 52, O1 8 .mv 53]) .ret))), [(.s 8)]⟩
theorem x28_ok : xfn Try.prog Try.f28 = some x28.er := by kernel_rfl
/-- wayfinder/contract.validScan -/
def g75 : Con := fun args_ E_ nn_ => match args_ with
  | [.c (.n s)] => (match rowOf E_ s with
    | some (s_n, s_s, s_f) => some (.q (isRow eC s_n s_s s_f ∧ True) (.o (.c (.v (.bool (scanB (decL eC s_n s_f)))))))
    | none => none)
  | _ => none
theorem c75 : COk Try.prog 75 g75 := by
  refine cok_q Try.func75 x75_ok (by kernel_rfl) (cok_tab (cok_cons c30 cok_nil)) ?_
  intro args_ E_ nn_ cr_ hg_
  unfold g75 at hg_
  split at hg_
  · rename_i s
    split at hg_
    · rename_i s_n s_s s_f h_s
      cases hg_
      refine ⟨_, _, rfl, 1, [s], [.c (.n 0)], [(0, .ro (decL eC s_n s_f).length eC.sz (rowF eC (decL eC s_n s_f)))], .o (.c (.v (.bool (scanB (decL eC s_n s_f))))), rfl, rfl, by simp only [push_cast, Nat.reduceLT, Nat.reduceAdd], by simp only [push_cast, Nat.reduceLT, Nat.reduceAdd], by simp only [push_cast, Nat.reduceLT, Nat.reduceAdd], rfl, ⟨inE0_row h_s, trivial⟩, rfl, ?_⟩
      intro hpre hlen
      obtain ⟨i_s, hpre⟩ := hpre
      refine ⟨⟨inE_row h_s i_s, trivial⟩, ?_⟩
      have z_s := lens_row (E := eC) hlen h_s
      clear i_s
      generalize decL eC s_n s_f = sL at *
      clear h_s
      simp (config := {maxSteps := 10000000}) only [x75, push_cast, Nat.reduceAdd, Nat.reduceSub, Nat.reduceLeDiff, Nat.reduceEqDiff, Nat.reduceBEq, Nat.reduceMul, Nat.reduceLT, reduceIte, reduceCtorEq, Int.reduceLE, Int.reduceLT, Int.reduceEq, Int.reduceMul, Int.reduceAdd, Int.reduceSub, Int.reduceNeg, Int.reduceToNat, Int.reduceNe, g30]
      refine vcLoop_upd (α := {k : Nat // k ≤ sL.length ∧ ∀ i, i < k → beamB (sL.getD i eC.dflt).X (sL.getD i eC.dflt).Y = true}) [0, 5, 6] 0 (fun s => [(7, .o (.c (.v (.int .i64 (s.1 : Nat)))))]) (fun s => []) (fun s => sL.length - s.1) ⟨0, by omega, fun i hi => by omega⟩ ?_ ?_
      · simp only [push_cast, Nat.reduceAdd, Nat.reduceSub, Nat.reduceLeDiff, Nat.reduceEqDiff, Nat.reduceBEq, Nat.reduceMul, Nat.reduceLT, reduceIte, reduceCtorEq, Int.reduceLE, Int.reduceLT, Int.reduceEq, Int.reduceMul, Int.reduceAdd, Int.reduceSub, Int.reduceNeg, Int.reduceToNat, Int.reduceNe, g30]
      · rintro ⟨k, hk, hall⟩
        simp only [x75L0, push_cast, Nat.reduceAdd, Nat.reduceSub, Nat.reduceLeDiff, Nat.reduceEqDiff, Nat.reduceBEq, Nat.reduceMul, Nat.reduceLT, reduceIte, reduceCtorEq, Int.reduceLE, Int.reduceLT, Int.reduceEq, Int.reduceMul, Int.reduceAdd, Int.reduceSub, Int.reduceNeg, Int.reduceToNat, Int.reduceNe, g30]
        refine ⟨fun hlt => ⟨hlt, hlt, fun g => ?_, fun a1 a2 a3 a4 => ⟨⟨k + 1, by omega, fun i hi => by by_cases e : i = k; subst e; exact decide_eq_true ⟨⟨a1, a2⟩, a3, a4⟩; exact hall i (by omega)⟩, wrapI (by omega) (by omega), by simp only; omega⟩⟩, fun hge => ?_⟩
        · unfold scanB; rw [all_no (f := fun c => beamB c.X c.Y) hlt (decide_eq_false g), Bool.and_false]
        · unfold scanB; rw [all_yes (f := fun c => beamB c.X c.Y) (fun i hi => hall i (by omega)), Bool.and_true]; exact decide_eq_decide.2 (by omega)
    · cases hg_
  · cases hg_
/-- wayfinder/contract.right -/
def g41 : Con := fun args_ E_ nn_ => match args_ with
  | [.a [.v (.int .i64 p_W), .v (.int .i64 p_H), .n p_Cells], .c (.n s), .c (.v (.int .i64 rng))] => (match rowOf E_ p_Cells with
    | some (p_Cells_n, p_Cells_s, p_Cells_f) => (match rowOf E_ s with
    | some (s_n, s_s, s_f) => some (.q (isRow eU8 p_Cells_n p_Cells_s p_Cells_f ∧ isRow eC s_n s_s s_f ∧ True) (.o (.c (.v (.bool (rightB p_W p_H (decL eU8 p_Cells_n p_Cells_f) (decL eC s_n s_f) rng))))))
    | none => none)
    | none => none)
  | _ => none
theorem c41 : COk Try.prog 41 g41 := by
  refine cok_q Try.func41 x41_ok (by kernel_rfl) (cok_tab (cok_cons c29 (cok_cons c75 (cok_cons c32 cok_nil)))) ?_
  intro args_ E_ nn_ cr_ hg_
  unfold g41 at hg_
  split at hg_
  · rename_i p_W p_H p_Cells s rng
    split at hg_
    · rename_i p_Cells_n p_Cells_s p_Cells_f h_p_Cells
      split at hg_
      · rename_i s_n s_s s_f h_s
        cases hg_
        refine ⟨_, _, rfl, 2, [p_Cells, s], [.a [.v (.int .i64 p_W), .v (.int .i64 p_H), .n 0], .c (.n 1), .c (.v (.int .i64 rng))], [(0, .ro (decL eU8 p_Cells_n p_Cells_f).length eU8.sz (rowF eU8 (decL eU8 p_Cells_n p_Cells_f))), (1, .ro (decL eC s_n s_f).length eC.sz (rowF eC (decL eC s_n s_f)))], .o (.c (.v (.bool (rightB p_W p_H (decL eU8 p_Cells_n p_Cells_f) (decL eC s_n s_f) rng)))), rfl, rfl, by simp only [push_cast, Nat.reduceLT, Nat.reduceAdd], by simp only [push_cast, Nat.reduceLT, Nat.reduceAdd], by simp only [push_cast, Nat.reduceLT, Nat.reduceAdd], rfl, ⟨inE0_row h_p_Cells, inE0_row h_s, trivial⟩, rfl, ?_⟩
        intro hpre hlen
        obtain ⟨i_p_Cells, hpre⟩ := hpre
        obtain ⟨i_s, hpre⟩ := hpre
        refine ⟨⟨inE_row h_p_Cells i_p_Cells, inE_row h_s i_s, trivial⟩, ?_⟩
        have z_p_Cells := lens_row (E := eU8) hlen h_p_Cells
        have z_s := lens_row (E := eC) hlen h_s
        clear i_p_Cells
        generalize decL eU8 p_Cells_n p_Cells_f = p_CellsL at *
        clear i_s
        generalize decL eC s_n s_f = sL at *
        clear h_p_Cells
        clear h_s
        simp (config := {maxSteps := 10000000}) only [x41, push_cast, Nat.reduceAdd, Nat.reduceSub, Nat.reduceLeDiff, Nat.reduceEqDiff, Nat.reduceBEq, Nat.reduceMul, Nat.reduceLT, reduceIte, reduceCtorEq, Int.reduceLE, Int.reduceLT, Int.reduceEq, Int.reduceMul, Int.reduceAdd, Int.reduceSub, Int.reduceNeg, Int.reduceToNat, Int.reduceNe, g29, g75, g32]
        rfl
      · cases hg_
    · cases hg_
  · cases hg_
/-- wayfinder/contract.bad -/
noncomputable def g58 : Con := fun args_ E_ nn_ => match args_ with
  | [.a [.v (.int .i64 p_W), .v (.int .i64 p_H), .n p_Cells], .a [.v (.int .i64 r_X0), .v (.int .i64 r_Y0), .v (.int .i64 r_X1), .v (.int .i64 r_Y1)], .c (.v (.int .i64 h)), .c (.n s), .c (.v (.int .i64 rng))] => (match rowOf E_ p_Cells with
    | some (p_Cells_n, p_Cells_s, p_Cells_f) => (match rowOf E_ s with
    | some (s_n, s_s, s_f) => some (.q (isRow eU8 p_Cells_n p_Cells_s p_Cells_f ∧ isRow eC s_n s_s s_f ∧ scanB (decL eC s_n s_f) = true ∧ 1 ≤ rng ∧ rng ≤ 32) (.o (.c (.v (.bool (badB p_W p_H (decL eU8 p_Cells_n p_Cells_f) r_X0 r_Y0 r_X1 r_Y1 h (decL eC s_n s_f) rng))))))
    | none => none)
    | none => none)
  | _ => none
theorem c58 : COk Try.prog 58 g58 := by
  refine cok_q Try.func58 x58_ok (by kernel_rfl) (cok_tab (cok_cons c31 (cok_cons c33 cok_nil))) ?_
  intro args_ E_ nn_ cr_ hg_
  unfold g58 at hg_
  split at hg_
  · rename_i p_W p_H p_Cells r_X0 r_Y0 r_X1 r_Y1 h s rng
    split at hg_
    · rename_i p_Cells_n p_Cells_s p_Cells_f h_p_Cells
      split at hg_
      · rename_i s_n s_s s_f h_s
        cases hg_
        refine ⟨_, _, rfl, 2, [p_Cells, s], [.a [.v (.int .i64 p_W), .v (.int .i64 p_H), .n 0], .a [.v (.int .i64 r_X0), .v (.int .i64 r_Y0), .v (.int .i64 r_X1), .v (.int .i64 r_Y1)], .c (.v (.int .i64 h)), .c (.n 1), .c (.v (.int .i64 rng))], [(0, .ro (decL eU8 p_Cells_n p_Cells_f).length eU8.sz (rowF eU8 (decL eU8 p_Cells_n p_Cells_f))), (1, .ro (decL eC s_n s_f).length eC.sz (rowF eC (decL eC s_n s_f)))], .o (.c (.v (.bool (badB p_W p_H (decL eU8 p_Cells_n p_Cells_f) r_X0 r_Y0 r_X1 r_Y1 h (decL eC s_n s_f) rng)))), rfl, rfl, by simp only [push_cast, Nat.reduceLT, Nat.reduceAdd], by simp only [push_cast, Nat.reduceLT, Nat.reduceAdd], by simp only [push_cast, Nat.reduceLT, Nat.reduceAdd], rfl, ⟨inE0_row h_p_Cells, inE0_row h_s, trivial⟩, rfl, ?_⟩
        intro hpre hlen
        obtain ⟨i_p_Cells, hpre⟩ := hpre
        obtain ⟨i_s, hpre⟩ := hpre
        refine ⟨⟨inE_row h_p_Cells i_p_Cells, inE_row h_s i_s, trivial⟩, ?_⟩
        have z_p_Cells := lens_row (E := eU8) hlen h_p_Cells
        have z_s := lens_row (E := eC) hlen h_s
        clear i_p_Cells
        generalize decL eU8 p_Cells_n p_Cells_f = p_CellsL at *
        clear i_s
        generalize decL eC s_n s_f = sL at *
        clear h_p_Cells
        clear h_s
        simp (config := {maxSteps := 10000000}) only [x58, push_cast, Nat.reduceAdd, Nat.reduceSub, Nat.reduceLeDiff, Nat.reduceEqDiff, Nat.reduceBEq, Nat.reduceMul, Nat.reduceLT, reduceIte, reduceCtorEq, Int.reduceLE, Int.reduceLT, Int.reduceEq, Int.reduceMul, Int.reduceAdd, Int.reduceSub, Int.reduceNeg, Int.reduceToNat, Int.reduceNe, g31, g33]
        obtain ⟨hs, hr⟩ := hpre
        unfold badB
        refine ⟨fun h => by rw [h]; rfl, fun ha => ?_⟩
        rw [ha, Bool.true_and]
        unfold badI
        refine vcLoop_upd (α := {k : Nat // k ≤ sL.length ∧ ∀ i, i < k → refI p_W p_H p_CellsL r_X0 r_Y0 r_X1 r_Y1 h (sL.getD i eC.dflt).X (sL.getD i eC.dflt).Y rng = false}) [2, 4, 5, 6, 16, 17] 0 (fun s => [(18, .o (.c (.v (.int .i64 (s.1 : Nat)))))]) (fun s => []) (fun s => sL.length - s.1) ⟨0, by omega, fun i hi => by omega⟩ ?_ ?_
        · simp only [push_cast, Nat.reduceAdd, Nat.reduceSub, Nat.reduceLeDiff, Nat.reduceEqDiff, Nat.reduceBEq, Nat.reduceMul, Nat.reduceLT, reduceIte, reduceCtorEq, Int.reduceLE, Int.reduceLT, Int.reduceEq, Int.reduceMul, Int.reduceAdd, Int.reduceSub, Int.reduceNeg, Int.reduceToNat, Int.reduceNe, g31, g33]
        · rintro ⟨k, hk, hall⟩
          simp only [x58L0, push_cast, Nat.reduceAdd, Nat.reduceSub, Nat.reduceLeDiff, Nat.reduceEqDiff, Nat.reduceBEq, Nat.reduceMul, Nat.reduceLT, reduceIte, reduceCtorEq, Int.reduceLE, Int.reduceLT, Int.reduceEq, Int.reduceMul, Int.reduceAdd, Int.reduceSub, Int.reduceNeg, Int.reduceToNat, Int.reduceNe, g31, g33]
          refine ⟨fun hlt => ⟨hlt, hlt, ⟨ha, ?_, hr⟩, fun g => ?_, fun g => ⟨⟨k + 1, by omega, fun i hi => by by_cases e : i = k; subst e; exact g; exact hall i (by omega)⟩, wrapI (by omega) (by omega), by simp only; omega⟩⟩, fun hge => ?_⟩
          · have b := scan_at hs hlt
            unfold beamB at b
            exact of_decide_eq_true b
          · symm; rw [List.any_eq_true]; exact ⟨_, getD_in hlt, g⟩
          · symm
            rw [List.any_eq_false]
            intro c hc
            obtain ⟨j, hj, e⟩ := mem_at hc
            rw [← e, hall j (by omega)]; simp
      · cases hg_
    · cases hg_
  · cases hg_
/-- wayfinder/contract.trim -/
noncomputable def g43 : Con := fun args_ E_ nn_ => match args_ with
  | [.a [.v (.int .i64 p_W), .v (.int .i64 p_H), .n p_Cells], .a [.v (.int .i64 b_X0), .v (.int .i64 b_Y0), .v (.int .i64 b_X1), .v (.int .i64 b_Y1), .v (.int .i64 b_From), .v (.int .i64 b_Count)], .c (.n s), .c (.v (.int .i64 rng))] => (match rowOf E_ p_Cells with
    | some (p_Cells_n, p_Cells_s, p_Cells_f) => (match rowOf E_ s with
    | some (s_n, s_s, s_f) => some (.q (isRow eU8 p_Cells_n p_Cells_s p_Cells_f ∧ isRow eC s_n s_s s_f ∧ planB p_W p_H (decL eU8 p_Cells_n p_Cells_f) = true ∧ scanB (decL eC s_n s_f) = true ∧ (1 ≤ rng ∧ rng ≤ 32) ∧ boxB b_X0 b_Y0 b_X1 b_Y1 b_From b_Count = true) (.t [.a [.v (.int .i64 (oB (trmO p_W p_H (decL eU8 p_Cells_n p_Cells_f) (decL eC s_n s_f) rng (⟨b_X0, b_Y0, b_X1, b_Y1, b_From, b_Count⟩ : BB))).X0), .v (.int .i64 (oB (trmO p_W p_H (decL eU8 p_Cells_n p_Cells_f) (decL eC s_n s_f) rng (⟨b_X0, b_Y0, b_X1, b_Y1, b_From, b_Count⟩ : BB))).Y0), .v (.int .i64 (oB (trmO p_W p_H (decL eU8 p_Cells_n p_Cells_f) (decL eC s_n s_f) rng (⟨b_X0, b_Y0, b_X1, b_Y1, b_From, b_Count⟩ : BB))).X1), .v (.int .i64 (oB (trmO p_W p_H (decL eU8 p_Cells_n p_Cells_f) (decL eC s_n s_f) rng (⟨b_X0, b_Y0, b_X1, b_Y1, b_From, b_Count⟩ : BB))).Y1), .v (.int .i64 (oB (trmO p_W p_H (decL eU8 p_Cells_n p_Cells_f) (decL eC s_n s_f) rng (⟨b_X0, b_Y0, b_X1, b_Y1, b_From, b_Count⟩ : BB))).F), .v (.int .i64 (oB (trmO p_W p_H (decL eU8 p_Cells_n p_Cells_f) (decL eC s_n s_f) rng (⟨b_X0, b_Y0, b_X1, b_Y1, b_From, b_Count⟩ : BB))).N)], .c (.v (.bool ((trmO p_W p_H (decL eU8 p_Cells_n p_Cells_f) (decL eC s_n s_f) rng (⟨b_X0, b_Y0, b_X1, b_Y1, b_From, b_Count⟩ : BB)).isSome)))]))
    | none => none)
    | none => none)
  | _ => none
set_option maxHeartbeats 1000000 in
theorem c43 : COk Try.prog 43 g43 := by
  refine cok_q Try.func43 x43_ok (by kernel_rfl) (cok_tab (cok_cons c78 (cok_cons c58 cok_nil))) ?_
  intro args_ E_ nn_ cr_ hg_
  unfold g43 at hg_
  split at hg_
  · rename_i p_W p_H p_Cells b_X0 b_Y0 b_X1 b_Y1 b_From b_Count s rng
    split at hg_
    · rename_i p_Cells_n p_Cells_s p_Cells_f h_p_Cells
      split at hg_
      · rename_i s_n s_s s_f h_s
        cases hg_
        refine ⟨_, _, rfl, 2, [p_Cells, s], [.a [.v (.int .i64 p_W), .v (.int .i64 p_H), .n 0], .a [.v (.int .i64 b_X0), .v (.int .i64 b_Y0), .v (.int .i64 b_X1), .v (.int .i64 b_Y1), .v (.int .i64 b_From), .v (.int .i64 b_Count)], .c (.n 1), .c (.v (.int .i64 rng))], [(0, .ro (decL eU8 p_Cells_n p_Cells_f).length eU8.sz (rowF eU8 (decL eU8 p_Cells_n p_Cells_f))), (1, .ro (decL eC s_n s_f).length eC.sz (rowF eC (decL eC s_n s_f)))], .t [.a [.v (.int .i64 (oB (trmO p_W p_H (decL eU8 p_Cells_n p_Cells_f) (decL eC s_n s_f) rng (⟨b_X0, b_Y0, b_X1, b_Y1, b_From, b_Count⟩ : BB))).X0), .v (.int .i64 (oB (trmO p_W p_H (decL eU8 p_Cells_n p_Cells_f) (decL eC s_n s_f) rng (⟨b_X0, b_Y0, b_X1, b_Y1, b_From, b_Count⟩ : BB))).Y0), .v (.int .i64 (oB (trmO p_W p_H (decL eU8 p_Cells_n p_Cells_f) (decL eC s_n s_f) rng (⟨b_X0, b_Y0, b_X1, b_Y1, b_From, b_Count⟩ : BB))).X1), .v (.int .i64 (oB (trmO p_W p_H (decL eU8 p_Cells_n p_Cells_f) (decL eC s_n s_f) rng (⟨b_X0, b_Y0, b_X1, b_Y1, b_From, b_Count⟩ : BB))).Y1), .v (.int .i64 (oB (trmO p_W p_H (decL eU8 p_Cells_n p_Cells_f) (decL eC s_n s_f) rng (⟨b_X0, b_Y0, b_X1, b_Y1, b_From, b_Count⟩ : BB))).F), .v (.int .i64 (oB (trmO p_W p_H (decL eU8 p_Cells_n p_Cells_f) (decL eC s_n s_f) rng (⟨b_X0, b_Y0, b_X1, b_Y1, b_From, b_Count⟩ : BB))).N)], .c (.v (.bool ((trmO p_W p_H (decL eU8 p_Cells_n p_Cells_f) (decL eC s_n s_f) rng (⟨b_X0, b_Y0, b_X1, b_Y1, b_From, b_Count⟩ : BB)).isSome)))], rfl, rfl, by simp only [push_cast, Nat.reduceLT, Nat.reduceAdd], by simp only [push_cast, Nat.reduceLT, Nat.reduceAdd], by simp only [push_cast, Nat.reduceLT, Nat.reduceAdd], rfl, ⟨inE0_row h_p_Cells, inE0_row h_s, trivial⟩, rfl, ?_⟩
        intro hpre hlen
        obtain ⟨i_p_Cells, hpre⟩ := hpre
        obtain ⟨i_s, hpre⟩ := hpre
        refine ⟨⟨inE_row h_p_Cells i_p_Cells, inE_row h_s i_s, trivial⟩, ?_⟩
        have z_p_Cells := lens_row (E := eU8) hlen h_p_Cells
        have z_s := lens_row (E := eC) hlen h_s
        clear i_p_Cells
        generalize decL eU8 p_Cells_n p_Cells_f = p_CellsL at *
        clear i_s
        generalize decL eC s_n s_f = sL at *
        clear h_p_Cells
        clear h_s
        simp (config := {maxSteps := 10000000}) only [x43, push_cast, Nat.reduceAdd, Nat.reduceSub, Nat.reduceLeDiff, Nat.reduceEqDiff, Nat.reduceBEq, Nat.reduceMul, Nat.reduceLT, reduceIte, reduceCtorEq, Int.reduceLE, Int.reduceLT, Int.reduceEq, Int.reduceMul, Int.reduceAdd, Int.reduceSub, Int.reduceNeg, Int.reduceToNat, Int.reduceNe, g78, g58]
        obtain ⟨hp, hs, hr, hb⟩ := hpre
        have pp := planB_at hp
        have p := box_parts hb
        rw [wrapI (n := 64 * p_W) (by omega) (by omega), wrapI (n := 64 * p_H) (by omega) (by omega)]
        refine ⟨fun h => ?_, ?_⟩
        · have e : trmO p_W p_H p_CellsL sL rng (⟨b_X0, b_Y0, b_X1, b_Y1, b_From, b_Count⟩ : BB) = none := if_pos h
          rw [e]
          exact ⟨⟨rfl, rfl, rfl, rfl, rfl, rfl⟩, rfl⟩
        intro h1 h2
        have eO : trmO p_W p_H p_CellsL sL rng (⟨b_X0, b_Y0, b_X1, b_Y1, b_From, b_Count⟩ : BB) = trmF (badF p_W p_H p_CellsL sL rng (max b_X0 0) (max b_Y0 0) (min b_X1 (64 * p_W)) (min b_Y1 (64 * p_H))) (max b_X0 0) (max b_Y0 0) (min b_X1 (64 * p_W)) (min b_Y1 (64 * p_H)) b_From b_Count.toNat := if_neg (fun h => h.elim h1 h2)
        rw [eO]
        generalize max b_X0 0 = x0 at *
        generalize max b_Y0 0 = y0 at *
        generalize min b_X1 (64 * p_W) = x1 at *
        generalize min b_Y1 (64 * p_H) = y1 at *
        have hF : ∀ h, badB p_W p_H p_CellsL x0 y0 x1 y1 h sL rng = badF p_W p_H p_CellsL sL rng x0 y0 x1 y1 h := fun _ => rfl
        have ha : arcB b_From b_Count = true := by unfold arcB; exact decide_eq_true (by omega)
        have hl := arcL_len ha
        have hat : ∀ i, i < b_Count.toNat → (arcL b_From b_Count).getD i eI.dflt = (b_From + (i : Nat)) % 256 := fun i hi => arcL_at ha hi
        generalize arcL b_From b_Count = M at *
        generalize badF p_W p_H p_CellsL sL rng x0 y0 x1 y1 = f at *
        refine vcLoop_upd (α := {k : Nat // k ≤ b_Count.toNat ∧ ∀ i : Nat, i < k → f ((b_From + i) % 256) = true}) [2, 3, 4, 8, 10] 1 (fun s => [(11, .o (.c (.n 7)))]) (fun s => [(7, .own (M.drop s.1).length 1 (rowF eI (M.drop s.1)) 3)]) (fun s => b_Count.toNat - s.1) ⟨0, Nat.zero_le _, fun i hi => by omega⟩ ?_ ?_
        · simp only [push_cast, Nat.reduceAdd, Nat.reduceSub, Nat.reduceLeDiff, Nat.reduceEqDiff, Nat.reduceBEq, Nat.reduceMul, Nat.reduceLT, reduceIte, reduceCtorEq, Int.reduceLE, Int.reduceLT, Int.reduceEq, Int.reduceMul, Int.reduceAdd, Int.reduceSub, Int.reduceNeg, Int.reduceToNat, Int.reduceNe, g78, g58, List.drop_zero]
        rintro ⟨k, hk, hf⟩
        simp only [x43L0, push_cast, Nat.reduceAdd, Nat.reduceSub, Nat.reduceLeDiff, Nat.reduceEqDiff, Nat.reduceBEq, Nat.reduceMul, Nat.reduceLT, reduceIte, reduceCtorEq, Int.reduceLE, Int.reduceLT, Int.reduceEq, Int.reduceMul, Int.reduceAdd, Int.reduceSub, Int.reduceNeg, Int.reduceToNat, Int.reduceNe, g78, g58, List.length_drop, hl, hF]
        refine ⟨fun h => ⟨h, by omega⟩, fun h => ⟨h, hs, hr⟩, fun h1 h2 => ?_, fun h1 => ⟨fun h2 => ?_, fun h2 => ?_⟩⟩
        · rw [dropAt, Nat.add_zero, hat k (by omega)] at h2
          refine ⟨by omega, ⟨k + 1, by omega, fun i hi => ?_⟩, ⟨by simp only; omega, sh_eq (by rw [List.drop_drop]) (by rw [List.length_drop, hl]; omega)⟩, by simp only; omega⟩
          by_cases q : i < k
          · exact hf i q
          · obtain rfl : i = k := by omega
            exact h2
        · rw [trmF_none (fun i hi => hf i (by omega))]
          exact ⟨⟨rfl, rfl, rfl, rfl, rfl, rfl⟩, rfl⟩
        have hfk : f ((b_From + (k : Nat)) % 256) = false := by
          rw [dropAt, Nat.add_zero, hat k (by omega), decide_eq_true (by omega), Bool.true_and] at h1
          exact h1
        refine vcLoop_upd (α := {j : Nat // j < b_Count.toNat - k ∧ ∀ i : Nat, b_Count.toNat - k - j ≤ i → i < b_Count.toNat - k → f ((b_From + (k : Nat) + i) % 256) = true}) [2, 3, 4, 8, 10] 1 (fun s => [(11, .o (.c (.n 8)))]) (fun s => [(8, .own ((M.drop k).take (b_Count.toNat - k - s.1)).length 1 (rowF eI ((M.drop k).take (b_Count.toNat - k - s.1))) 3)]) (fun s => b_Count.toNat - s.1) ⟨0, by omega, fun i hi => by omega⟩ ?_ ?_
        · simp only [push_cast, Nat.reduceAdd, Nat.reduceSub, Nat.reduceLeDiff, Nat.reduceEqDiff, Nat.reduceBEq, Nat.reduceMul, Nat.reduceLT, reduceIte, reduceCtorEq, Int.reduceLE, Int.reduceLT, Int.reduceEq, Int.reduceMul, Int.reduceAdd, Int.reduceSub, Int.reduceNeg, Int.reduceToNat, Int.reduceNe, g78, g58, List.length_take, List.length_drop, hl]
          refine ⟨by omega, ?_⟩
          rw [List.take_of_length_le (by rw [List.length_drop, hl]; exact Nat.le_refl _)]
          exact (rowEq_rowF _ _ _ _).2 trivial
        rintro ⟨j, hj, hg⟩
        simp only [x43L1, push_cast, Nat.reduceAdd, Nat.reduceSub, Nat.reduceLeDiff, Nat.reduceEqDiff, Nat.reduceBEq, Nat.reduceMul, Nat.reduceLT, reduceIte, reduceCtorEq, Int.reduceLE, Int.reduceLT, Int.reduceEq, Int.reduceMul, Int.reduceAdd, Int.reduceSub, Int.reduceNeg, Int.reduceToNat, Int.reduceNe, g78, g58, List.length_take, List.length_drop, hl, hF]
        rw [show min (b_Count.toNat - k - j) (b_Count.toNat - k) = b_Count.toNat - k - j by omega, wrapI (by omega) (by omega)]
        have ev : (List.take (b_Count.toNat - k - j) (List.drop k M)).getD (((b_Count.toNat - k - j : Nat) : Int) - 1).toNat eI.dflt = (b_From + (k : Nat) + (b_Count.toNat - k - j - 1 : Nat)) % 256 := by
          rw [takeAtD (by omega), dropAt, hat _ (by omega)]
          congr 1; omega
        rw [ev]
        have step : f ((b_From + (k : Nat) + (b_Count.toNat - k - j - 1 : Nat)) % 256) = true → j + 1 < b_Count.toNat - k ∧ ∀ i : Nat, b_Count.toNat - k - (j + 1) ≤ i → i < b_Count.toNat - k → f ((b_From + (k : Nat) + i) % 256) = true := by
          intro hb
          refine ⟨?_, fun i h3 h4 => ?_⟩
          · by_cases q : j + 1 < b_Count.toNat - k
            · exact q
            · rw [show b_Count.toNat - k - j - 1 = 0 by omega] at hb
              simp only [Int.ofNat_zero, Int.add_zero, Int.natCast_zero] at hb
              rw [hfk] at hb; cases hb
          · by_cases q : b_Count.toNat - k - j ≤ i
            · exact hg i q h4
            · obtain rfl : i = b_Count.toNat - k - j - 1 := by omega
              exact hb
        refine ⟨by omega, by omega, ⟨hs, hr⟩, fun hb => ⟨by omega, ⟨j + 1, step hb⟩, ⟨by show _ = min (b_Count.toNat - k - (j + 1)) (b_Count.toNat - k); omega, tk_eq (m := b_Count.toNat - k - (j + 1)) ?_ (by omega) ?_⟩, by show b_Count.toNat - (j + 1) < _; omega⟩, fun hb => ⟨by omega, by omega, by rfl, ?_⟩⟩
        · show List.take _ (List.take _ _) = List.take (b_Count.toNat - k - (j + 1)) (List.drop k M)
          rw [List.take_take]; congr 1; omega
        · rw [List.length_take, List.length_drop, hl]; omega
        · rw [takeAtD (by omega), dropAt, Nat.add_zero, hat k (by omega), trmF_some (by omega) hf hfk (by omega) hg (fun _ => hb)]
          exact ⟨⟨rfl, rfl, rfl, rfl, rfl, rfl⟩, rfl⟩
      · cases hg_
    · cases hg_
  · cases hg_
/-- wayfinder/contract.Trim -/
noncomputable def g21 : Con := fun args_ E_ nn_ => match args_ with
  | [.a [.v (.int .i64 p_W), .v (.int .i64 p_H), .n p_Cells], .a [.v (.int .i64 b_X0), .v (.int .i64 b_Y0), .v (.int .i64 b_X1), .v (.int .i64 b_Y1), .v (.int .i64 b_From), .v (.int .i64 b_Count)], .c (.n s), .c (.v (.int .i64 rng))] => (match rowOf E_ p_Cells with
    | some (p_Cells_n, p_Cells_s, p_Cells_f) => (match rowOf E_ s with
    | some (s_n, s_s, s_f) => some (.q (isRow eU8 p_Cells_n p_Cells_s p_Cells_f ∧ isRow eC s_n s_s s_f ∧ True) (.t [.a [.v (.int .i64 (oB (trimO p_W p_H (decL eU8 p_Cells_n p_Cells_f) (decL eC s_n s_f) rng (⟨b_X0, b_Y0, b_X1, b_Y1, b_From, b_Count⟩ : BB))).X0), .v (.int .i64 (oB (trimO p_W p_H (decL eU8 p_Cells_n p_Cells_f) (decL eC s_n s_f) rng (⟨b_X0, b_Y0, b_X1, b_Y1, b_From, b_Count⟩ : BB))).Y0), .v (.int .i64 (oB (trimO p_W p_H (decL eU8 p_Cells_n p_Cells_f) (decL eC s_n s_f) rng (⟨b_X0, b_Y0, b_X1, b_Y1, b_From, b_Count⟩ : BB))).X1), .v (.int .i64 (oB (trimO p_W p_H (decL eU8 p_Cells_n p_Cells_f) (decL eC s_n s_f) rng (⟨b_X0, b_Y0, b_X1, b_Y1, b_From, b_Count⟩ : BB))).Y1), .v (.int .i64 (oB (trimO p_W p_H (decL eU8 p_Cells_n p_Cells_f) (decL eC s_n s_f) rng (⟨b_X0, b_Y0, b_X1, b_Y1, b_From, b_Count⟩ : BB))).F), .v (.int .i64 (oB (trimO p_W p_H (decL eU8 p_Cells_n p_Cells_f) (decL eC s_n s_f) rng (⟨b_X0, b_Y0, b_X1, b_Y1, b_From, b_Count⟩ : BB))).N)], .c (.v (.bool ((trimO p_W p_H (decL eU8 p_Cells_n p_Cells_f) (decL eC s_n s_f) rng (⟨b_X0, b_Y0, b_X1, b_Y1, b_From, b_Count⟩ : BB)).isSome)))]))
    | none => none)
    | none => none)
  | _ => none
theorem c21 : COk Try.prog 21 g21 := by
  refine cok_q Try.func21 x21_ok (by kernel_rfl) (cok_tab (cok_cons c41 (cok_cons c42 (cok_cons c43 cok_nil)))) ?_
  intro args_ E_ nn_ cr_ hg_
  unfold g21 at hg_
  split at hg_
  · rename_i p_W p_H p_Cells b_X0 b_Y0 b_X1 b_Y1 b_From b_Count s rng
    split at hg_
    · rename_i p_Cells_n p_Cells_s p_Cells_f h_p_Cells
      split at hg_
      · rename_i s_n s_s s_f h_s
        cases hg_
        refine ⟨_, _, rfl, 2, [p_Cells, s], [.a [.v (.int .i64 p_W), .v (.int .i64 p_H), .n 0], .a [.v (.int .i64 b_X0), .v (.int .i64 b_Y0), .v (.int .i64 b_X1), .v (.int .i64 b_Y1), .v (.int .i64 b_From), .v (.int .i64 b_Count)], .c (.n 1), .c (.v (.int .i64 rng))], [(0, .ro (decL eU8 p_Cells_n p_Cells_f).length eU8.sz (rowF eU8 (decL eU8 p_Cells_n p_Cells_f))), (1, .ro (decL eC s_n s_f).length eC.sz (rowF eC (decL eC s_n s_f)))], .t [.a [.v (.int .i64 (oB (trimO p_W p_H (decL eU8 p_Cells_n p_Cells_f) (decL eC s_n s_f) rng (⟨b_X0, b_Y0, b_X1, b_Y1, b_From, b_Count⟩ : BB))).X0), .v (.int .i64 (oB (trimO p_W p_H (decL eU8 p_Cells_n p_Cells_f) (decL eC s_n s_f) rng (⟨b_X0, b_Y0, b_X1, b_Y1, b_From, b_Count⟩ : BB))).Y0), .v (.int .i64 (oB (trimO p_W p_H (decL eU8 p_Cells_n p_Cells_f) (decL eC s_n s_f) rng (⟨b_X0, b_Y0, b_X1, b_Y1, b_From, b_Count⟩ : BB))).X1), .v (.int .i64 (oB (trimO p_W p_H (decL eU8 p_Cells_n p_Cells_f) (decL eC s_n s_f) rng (⟨b_X0, b_Y0, b_X1, b_Y1, b_From, b_Count⟩ : BB))).Y1), .v (.int .i64 (oB (trimO p_W p_H (decL eU8 p_Cells_n p_Cells_f) (decL eC s_n s_f) rng (⟨b_X0, b_Y0, b_X1, b_Y1, b_From, b_Count⟩ : BB))).F), .v (.int .i64 (oB (trimO p_W p_H (decL eU8 p_Cells_n p_Cells_f) (decL eC s_n s_f) rng (⟨b_X0, b_Y0, b_X1, b_Y1, b_From, b_Count⟩ : BB))).N)], .c (.v (.bool ((trimO p_W p_H (decL eU8 p_Cells_n p_Cells_f) (decL eC s_n s_f) rng (⟨b_X0, b_Y0, b_X1, b_Y1, b_From, b_Count⟩ : BB)).isSome)))], rfl, rfl, by simp only [push_cast, Nat.reduceLT, Nat.reduceAdd], by simp only [push_cast, Nat.reduceLT, Nat.reduceAdd], by simp only [push_cast, Nat.reduceLT, Nat.reduceAdd], rfl, ⟨inE0_row h_p_Cells, inE0_row h_s, trivial⟩, rfl, ?_⟩
        intro hpre hlen
        obtain ⟨i_p_Cells, hpre⟩ := hpre
        obtain ⟨i_s, hpre⟩ := hpre
        refine ⟨⟨inE_row h_p_Cells i_p_Cells, inE_row h_s i_s, trivial⟩, ?_⟩
        have z_p_Cells := lens_row (E := eU8) hlen h_p_Cells
        have z_s := lens_row (E := eC) hlen h_s
        clear i_p_Cells
        generalize decL eU8 p_Cells_n p_Cells_f = p_CellsL at *
        clear i_s
        generalize decL eC s_n s_f = sL at *
        clear h_p_Cells
        clear h_s
        simp (config := {maxSteps := 10000000}) only [x21, push_cast, Nat.reduceAdd, Nat.reduceSub, Nat.reduceLeDiff, Nat.reduceEqDiff, Nat.reduceBEq, Nat.reduceMul, Nat.reduceLT, reduceIte, reduceCtorEq, Int.reduceLE, Int.reduceLT, Int.reduceEq, Int.reduceMul, Int.reduceAdd, Int.reduceSub, Int.reduceNeg, Int.reduceToNat, Int.reduceNe, g41, g42, g43]
        refine ⟨fun h => ?_, fun h1 h2 => ?_⟩
        · have e : trimO p_W p_H p_CellsL sL rng (⟨b_X0, b_Y0, b_X1, b_Y1, b_From, b_Count⟩ : BB) = none := if_neg (by rintro ⟨a, b⟩; rcases h with h | h; rw [a] at h; cases h; rw [show boxB b_X0 b_Y0 b_X1 b_Y1 b_From b_Count = true from b] at h; cases h)
          rw [e]; exact ⟨⟨rfl, rfl, rfl, rfl, rfl, rfl⟩, rfl⟩
        have e : trimO p_W p_H p_CellsL sL rng (⟨b_X0, b_Y0, b_X1, b_Y1, b_From, b_Count⟩ : BB) = trmO p_W p_H p_CellsL sL rng (⟨b_X0, b_Y0, b_X1, b_Y1, b_From, b_Count⟩ : BB) := if_pos ⟨h1, h2⟩
        rw [e]
        unfold rightB at h1
        simp only [Bool.and_eq_true, decide_eq_true_eq] at h1
        exact ⟨⟨h1.1.1, h1.1.2, h1.2, h2⟩, ⟨rfl, rfl, rfl, rfl, rfl, rfl⟩, rfl⟩
      · cases hg_
    · cases hg_
  · cases hg_
/-- wayfinder/contract.Agrees -/
noncomputable def g28 : Con := fun args_ E_ nn_ => match args_ with
  | [.a [.v (.int .i64 p_W), .v (.int .i64 p_H), .n p_Cells], .a [.v (.int .i64 at_X), .v (.int .i64 at_Y), .v (.int .i64 at_H)], .c (.n s), .c (.v (.int .i64 rng))] => (match rowOf E_ p_Cells with
    | some (p_Cells_n, p_Cells_s, p_Cells_f) => (match rowOf E_ s with
    | some (s_n, s_s, s_f) => some (.q (isRow eU8 p_Cells_n p_Cells_s p_Cells_f ∧ isRow eC s_n s_s s_f ∧ True) (.o (.c (.v (.bool (rightB p_W p_H (decL eU8 p_Cells_n p_Cells_f) (decL eC s_n s_f) rng && decide ((0 ≤ at_X ∧ at_X ≤ 64 * p_W) ∧ (0 ≤ at_Y ∧ at_Y ≤ 64 * p_H) ∧ 0 ≤ at_H ∧ at_H ≤ 255) && !badB p_W p_H (decL eU8 p_Cells_n p_Cells_f) at_X at_Y at_X at_Y at_H (decL eC s_n s_f) rng))))))
    | none => none)
    | none => none)
  | _ => none
theorem c28 : COk Try.prog 28 g28 := by
  refine cok_q Try.func28 x28_ok (by kernel_rfl) (cok_tab (cok_cons c41 (cok_cons c32 (cok_cons c58 cok_nil)))) ?_
  intro args_ E_ nn_ cr_ hg_
  unfold g28 at hg_
  split at hg_
  · rename_i p_W p_H p_Cells at_X at_Y at_H s rng
    split at hg_
    · rename_i p_Cells_n p_Cells_s p_Cells_f h_p_Cells
      split at hg_
      · rename_i s_n s_s s_f h_s
        cases hg_
        refine ⟨_, _, rfl, 2, [p_Cells, s], [.a [.v (.int .i64 p_W), .v (.int .i64 p_H), .n 0], .a [.v (.int .i64 at_X), .v (.int .i64 at_Y), .v (.int .i64 at_H)], .c (.n 1), .c (.v (.int .i64 rng))], [(0, .ro (decL eU8 p_Cells_n p_Cells_f).length eU8.sz (rowF eU8 (decL eU8 p_Cells_n p_Cells_f))), (1, .ro (decL eC s_n s_f).length eC.sz (rowF eC (decL eC s_n s_f)))], .o (.c (.v (.bool (rightB p_W p_H (decL eU8 p_Cells_n p_Cells_f) (decL eC s_n s_f) rng && decide ((0 ≤ at_X ∧ at_X ≤ 64 * p_W) ∧ (0 ≤ at_Y ∧ at_Y ≤ 64 * p_H) ∧ 0 ≤ at_H ∧ at_H ≤ 255) && !badB p_W p_H (decL eU8 p_Cells_n p_Cells_f) at_X at_Y at_X at_Y at_H (decL eC s_n s_f) rng)))), rfl, rfl, by simp only [push_cast, Nat.reduceLT, Nat.reduceAdd], by simp only [push_cast, Nat.reduceLT, Nat.reduceAdd], by simp only [push_cast, Nat.reduceLT, Nat.reduceAdd], rfl, ⟨inE0_row h_p_Cells, inE0_row h_s, trivial⟩, rfl, ?_⟩
        intro hpre hlen
        obtain ⟨i_p_Cells, hpre⟩ := hpre
        obtain ⟨i_s, hpre⟩ := hpre
        refine ⟨⟨inE_row h_p_Cells i_p_Cells, inE_row h_s i_s, trivial⟩, ?_⟩
        have z_p_Cells := lens_row (E := eU8) hlen h_p_Cells
        have z_s := lens_row (E := eC) hlen h_s
        clear i_p_Cells
        generalize decL eU8 p_Cells_n p_Cells_f = p_CellsL at *
        clear i_s
        generalize decL eC s_n s_f = sL at *
        clear h_p_Cells
        clear h_s
        simp (config := {maxSteps := 10000000}) only [x28, push_cast, Nat.reduceAdd, Nat.reduceSub, Nat.reduceLeDiff, Nat.reduceEqDiff, Nat.reduceBEq, Nat.reduceMul, Nat.reduceLT, reduceIte, reduceCtorEq, Int.reduceLE, Int.reduceLT, Int.reduceEq, Int.reduceMul, Int.reduceAdd, Int.reduceSub, Int.reduceNeg, Int.reduceToNat, Int.reduceNe, g41, g32, g58]
        cases h0 : rightB p_W p_H p_CellsL sL rng
        · simp
        have h1 := h0
        unfold rightB at h1
        simp only [Bool.and_eq_true, decide_eq_true_eq] at h1
        have pp := planB_at h1.1.1
        rw [wrapI (n := 64 * p_W) (by omega) (by omega), wrapI (n := 64 * p_H) (by omega) (by omega)]
        refine ⟨fun h => ?_, fun _ a b c d e f => ⟨⟨h1.1.2, h1.2⟩, ?_⟩⟩
        · rw [decide_eq_false (p := (0 ≤ at_X ∧ at_X ≤ 64 * p_W) ∧ (0 ≤ at_Y ∧ at_Y ≤ 64 * p_H) ∧ 0 ≤ at_H ∧ at_H ≤ 255) (by simp only [reduceCtorEq, false_or] at h; omega)]
          rfl
        · rw [decide_eq_true (p := (0 ≤ at_X ∧ at_X ≤ 64 * p_W) ∧ (0 ≤ at_Y ∧ at_Y ≤ 64 * p_H) ∧ 0 ≤ at_H ∧ at_H ≤ 255) ⟨⟨a, b⟩, ⟨c, d⟩, e, f⟩]
          rfl
      · cases hg_
    · cases hg_
  · cases hg_
end Go.Proofs.Ytjnelnofbpjdmaa
