/- A part of the proof of a statement about this seat: how a function is stepped through, and plain laws. No conditions. -/
import Derived.Test.YthmobbecockeoaaGreatRows
import Derived.Test.YthmobbecockeoaaGreatWASz4
import Derived.Test.YthmobbecockeoaaGreatWAB1
import Derived.KernelRfl
set_option linter.unusedVariables false
set_option linter.unusedSimpArgs false
set_option maxRecDepth 20000
namespace Go.Proofs.YthmobbecockeoaaGreat
open Go.Sx Go.Way
structure BB where
  X0 : Int
  Y0 : Int
  X1 : Int
  Y1 : Int
  F : Int
  N : Int
def eB : Enc BB where
  sz := 6
  ks := [.i .i64, .i .i64, .i .i64, .i .i64, .i .i64, .i .i64]
  wf := fun x => ((-9223372036854775808) ≤ x.X0 ∧ x.X0 ≤ 9223372036854775807) ∧ ((-9223372036854775808) ≤ x.Y0 ∧ x.Y0 ≤ 9223372036854775807) ∧ ((-9223372036854775808) ≤ x.X1 ∧ x.X1 ≤ 9223372036854775807) ∧ ((-9223372036854775808) ≤ x.Y1 ∧ x.Y1 ≤ 9223372036854775807) ∧ ((-9223372036854775808) ≤ x.F ∧ x.F ≤ 9223372036854775807) ∧ ((-9223372036854775808) ≤ x.N ∧ x.N ≤ 9223372036854775807)
  enc := fun x => [.v (.int .i64 x.X0), .v (.int .i64 x.Y0), .v (.int .i64 x.X1), .v (.int .i64 x.Y1), .v (.int .i64 x.F), .v (.int .i64 x.N)]
  dec := fun f => ⟨intC (f 0), intC (f 1), intC (f 2), intC (f 3), intC (f 4), intC (f 5)⟩
  dflt := ⟨0, 0, 0, 0, 0, 0⟩
  flat := by
    intro x c hc
    simp only [List.mem_cons, List.not_mem_nil, or_false] at hc
    rcases hc with rfl | rfl | rfl | rfl | rfl | rfl <;> exact ⟨_, rfl, rfl⟩
  len := fun x => rfl
  onto := by
    intro cs h
    obtain ⟨n0, cs0, rfl, a0, b0, h0⟩ := kind_i h
    obtain ⟨n1, cs1, rfl, a1, b1, h1⟩ := kind_i h0
    obtain ⟨n2, cs2, rfl, a2, b2, h2⟩ := kind_i h1
    obtain ⟨n3, cs3, rfl, a3, b3, h3⟩ := kind_i h2
    obtain ⟨n4, cs4, rfl, a4, b4, h4⟩ := kind_i h3
    obtain ⟨n5, cs5, rfl, a5, b5, h5⟩ := kind_i h4
    obtain rfl := kind_n h5
    exact ⟨⟨n0, n1, n2, n3, n4, n5⟩, rfl, ⟨a0, b0⟩, ⟨a1, b1⟩, ⟨a2, b2⟩, ⟨a3, b3⟩, ⟨a4, b4⟩, ⟨a5, b5⟩⟩
  de := by
    intro x f h
    have h0 := h 0 (by decide)
    simp only [nth] at h0
    have h1 := h 1 (by decide)
    simp only [nth] at h1
    have h2 := h 2 (by decide)
    simp only [nth] at h2
    have h3 := h 3 (by decide)
    simp only [nth] at h3
    have h4 := h 4 (by decide)
    simp only [nth] at h4
    have h5 := h 5 (by decide)
    simp only [nth] at h5
    simp only [h0, h1, h2, h3, h4, h5, intC, boolC]
theorem eB_sz : eB.sz = 6 := rfl
theorem eB_0 (L : List BB) (e : Nat) : rowF eB L e 0 = .v (.int .i64 (L.getD e eB.dflt).X0) := rfl
theorem eB_1 (L : List BB) (e : Nat) : rowF eB L e 1 = .v (.int .i64 (L.getD e eB.dflt).Y0) := rfl
theorem eB_2 (L : List BB) (e : Nat) : rowF eB L e 2 = .v (.int .i64 (L.getD e eB.dflt).X1) := rfl
theorem eB_3 (L : List BB) (e : Nat) : rowF eB L e 3 = .v (.int .i64 (L.getD e eB.dflt).Y1) := rfl
theorem eB_4 (L : List BB) (e : Nat) : rowF eB L e 4 = .v (.int .i64 (L.getD e eB.dflt).F) := rfl
theorem eB_5 (L : List BB) (e : Nat) : rowF eB L e 5 = .v (.int .i64 (L.getD e eB.dflt).N) := rfl
theorem eB_eta (x : BB) : BB.mk x.X0 x.Y0 x.X1 x.Y1 x.F x.N = x := rfl
theorem eB_isRow (L : List BB) : isRow eB L.length 6 (rowF eB L) ↔ True := isRow_rowF L
attribute [push_cast] eQ_eta eQ_isRow eQ_sz eQ_0 eQ_1 eQ_2 eB_eta eB_isRow eB_sz eB_0 eB_1 eB_2 eB_3 eB_4 eB_5
def boxB (X0 Y0 X1 Y1 F N : Int) : Bool := decide (-1048576 ≤ X0 ∧ X0 ≤ X1 ∧ X1 ≤ 1048576 ∧ -1048576 ≤ Y0 ∧ Y0 ≤ Y1 ∧ Y1 ≤ 1048576 ∧ 0 ≤ F ∧ F < 256 ∧ 1 ≤ N ∧ N ≤ 256 ∧ (F = 0 ∨ N < 256))
def arcB (F N : Int) : Bool := decide (0 ≤ F ∧ F < 256 ∧ 1 ≤ N ∧ N ≤ 256 ∧ (F = 0 ∨ N < 256))
def wideB (n : Int) : Bool := decide (n < -1048576) || decide (1048576 < n)
def hasB (X0 Y0 X1 Y1 F N X Y H : Int) : Bool := boxB X0 Y0 X1 Y1 F N && decide (X0 ≤ X ∧ X ≤ X1 ∧ Y0 ≤ Y ∧ Y ≤ Y1 ∧ (H - F) % 256 < N)
theorem box_parts {X0 Y0 X1 Y1 F N : Int} (h : boxB X0 Y0 X1 Y1 F N = true) : -1048576 ≤ X0 ∧ X0 ≤ X1 ∧ X1 ≤ 1048576 ∧ -1048576 ≤ Y0 ∧ Y0 ≤ Y1 ∧ Y1 ≤ 1048576 ∧ 0 ≤ F ∧ F < 256 ∧ 1 ≤ N ∧ N ≤ 256 ∧ (F = 0 ∨ N < 256) := by
  unfold boxB at h; simpa using h
theorem box_of {X0 Y0 X1 Y1 F N : Int} (h : -1048576 ≤ X0 ∧ X0 ≤ X1 ∧ X1 ≤ 1048576 ∧ -1048576 ≤ Y0 ∧ Y0 ≤ Y1 ∧ Y1 ≤ 1048576 ∧ 0 ≤ F ∧ F < 256 ∧ 1 ≤ N ∧ N ≤ 256 ∧ (F = 0 ∨ N < 256)) : boxB X0 Y0 X1 Y1 F N = true := decide_eq_true h
theorem any4 (p : Int → Bool) (a b c d : Int) : [a, b, c, d].any p = (p a || (p b || (p c || p d))) := by simp [List.any]
theorem wrap_256 (x : Int) : IntKind.i64.wrap x % 256 = x % 256 := by
  rw [IntKind.wrap_i64]; omega
def arcL (F N : Int) : List Int := if arcB F N = true then (List.range N.toNat).map fun i => (F + (i : Nat)) % 256 else []
theorem arcL_len {F N : Int} (h : arcB F N = true) : (arcL F N).length = N.toNat := by unfold arcL; rw [if_pos h]; simp
theorem arcL_at {F N : Int} (h : arcB F N = true) {i : Nat} (hi : i < N.toNat) : (arcL F N).getD i eI.dflt = (F + (i : Nat)) % 256 := by
  unfold arcL; rw [if_pos h, List.getD_eq_getElem?_getD, List.getElem?_map, List.getElem?_range hi]; rfl
def arcS (F : Int) (n k : Nat) : List Int := (List.range n).map fun i => if i < k then (F + (i : Nat)) % 256 else 0
theorem arcS_len (F : Int) (n k : Nat) : (arcS F n k).length = n := by simp [arcS]
theorem arcS_zero (F : Int) (n : Nat) : arcS F n 0 = List.replicate n 0 := by
  apply List.ext_getElem
  · simp [arcS]
  · intro i h1 h2; simp [arcS]
theorem arcS_all {F N : Int} (h : arcB F N = true) : arcS F N.toNat N.toNat = arcL F N := by
  unfold arcS arcL; rw [if_pos h]
  apply List.map_congr_left
  intro i hi
  rw [if_pos (List.mem_range.1 hi)]
theorem arcS_succ {F : Int} {n k : Nat} (h : k < n) : arcS F n (k + 1) = (arcS F n k).set k ((F + (k : Nat)) % 256) := by
  apply List.ext_getElem
  · simp [arcS]
  · intro i h1 h2
    rw [List.getElem_set]
    simp only [arcS, List.getElem_map, List.getElem_range]
    by_cases hk : i = k
    · subst hk; simp
    · by_cases hlt : i < k
      · rw [if_pos (by omega), if_neg (by omega), if_pos hlt]
      · rw [if_neg (by omega), if_neg (by omega), if_neg hlt]
instance : DecidableEq BB := fun a b => by
  cases a with
  | mk a1 a2 a3 a4 a5 a6 =>
  cases b with
  | mk b1 b2 b3 b4 b5 b6 =>
  exact if h : a1 = b1 ∧ a2 = b2 ∧ a3 = b3 ∧ a4 = b4 ∧ a5 = b5 ∧ a6 = b6 then isTrue (by obtain ⟨rfl, rfl, rfl, rfl, rfl, rfl⟩ := h; rfl) else isFalse (by intro e; cases e; exact h ⟨rfl, rfl, rfl, rfl, rfl, rfl⟩)
def BB.ok (b : BB) : Bool := boxB b.X0 b.Y0 b.X1 b.Y1 b.F b.N
def setB (T : List BB) : Bool := decide (T.length ≤ 16) && T.all BB.ok
theorem getB_in {T : List BB} {k : Nat} (h : k < T.length) : T.getD k eB.dflt ∈ T := by
  rw [List.getD_eq_getElem?_getD, List.getElem?_eq_getElem h]; exact List.getElem_mem h
theorem memB_at {T : List BB} {c : BB} (h : c ∈ T) : ∃ k, k < T.length ∧ T.getD k eB.dflt = c := by
  obtain ⟨k, hk, he⟩ := List.mem_iff_getElem.1 h
  exact ⟨k, hk, by rw [← he]; simp [List.getD, hk]⟩
def x74 : XFn := ⟨9, (.seq (.reg false [K1 2 .mv (.bool false)]) (.seq (.reg false [O1 3 .mv 0, K2 4 (.bin .lss) 3 (iV (-1048576)), O1 5 .mv 4, G1 6 .mv 0 5 false, GK 7 (.bin .gtr) 6 (iV 1048576) 5 false, ⟨(some 8), .pick, [(.t 5), (.k (.bool true)), (.t 7)], none⟩, O1 2 .mv 8]) .ret)), [(.s 2)]⟩
theorem x74_ok : xfn Tryz.prog Tryz.f74 = some x74.er := by kernel_rfl
def x48 : XFn := ⟨6, (.seq (.reg false [K1 2 .mv (.bool false)]) (.seq (.reg false [O1 3 .mv 0, ⟨(some 4), (.call 40), [(.t 3), (.k (.func (.func 74) #[] #[]))], none⟩, O1 5 (.un .not) 4, O1 2 .mv 5]) .ret)), [(.s 2)]⟩
theorem x48_ok : xfn Tryz.prog Tryz.f48 = some x48.er := by kernel_rfl
def x30 : XFn := ⟨8, (.seq (.reg false [O1 1 (.box 50) 0, ⟨(some 2), (.alloc 77 [(iV 0), (iV 0)]), [], none⟩]) (.seq (.reg false [O1 3 (.fld 4) 1, O1 4 .load1 3, O1 5 (.fld 5) 1, O1 6 .load1 5, ⟨(some 7), (.build [(iV 0), (iV 0)] [(0, 1), (1, 1)]), [(.t 4), (.t 6)], none⟩, ⟨none, (.store 2), [(.t 2), (.t 7)], none⟩]) .ret)), [(.bn 2 2)]⟩
theorem x30_ok : xfn Tryz.prog Tryz.f30 = some x30.er := by kernel_rfl
def x49 : XFn := ⟨31, (.seq (.reg false [O1 1 (.box 77) 0, K1 2 .mv (.bool false)]) (.seq (.reg false [O1 3 (.fld 0) 1, O1 4 .load1 3, K2 5 (.bin .geq) 4 (iV 0), O1 6 .mv 5, G1 7 (.fld 0) 1 6 true, G1 8 .load1 7 6 true, GK 9 (.bin .lss) 8 (iV 256) 6 true, ⟨(some 10), .pick, [(.t 6), (.t 9), (.k (.bool false))], none⟩, O1 11 .mv 10, G1 12 (.fld 1) 1 11 true, G1 13 .load1 12 11 true, GK 14 (.bin .geq) 13 (iV 1) 11 true, ⟨(some 15), .pick, [(.t 11), (.t 14), (.k (.bool false))], none⟩, O1 16 .mv 15, G1 17 (.fld 1) 1 16 true, G1 18 .load1 17 16 true, GK 19 (.bin .leq) 18 (iV 256) 16 true, ⟨(some 20), .pick, [(.t 16), (.t 19), (.k (.bool false))], none⟩, O1 21 .mv 20, G1 22 (.fld 0) 1 21 true, G1 23 .load1 22 21 true, GK 24 (.bin .eql) 23 (iV 0) 21 true, G1 25 .mv 24 21 true, G1 26 (.fld 1) 1 25 false, G1 27 .load1 26 25 false, GK 28 (.bin .lss) 27 (iV 256) 25 false, ⟨(some 29), .pick, [(.t 25), (.k (.bool true)), (.t 28)], (some (21, true))⟩, ⟨(some 30), .pick, [(.t 21), (.t 29), (.k (.bool false))], none⟩, O1 2 .mv 30]) .ret)), [(.s 2)]⟩
theorem x49_ok : xfn Tryz.prog Tryz.f49 = some x49.er := by kernel_rfl
def x45 : XFn := ⟨31, (.seq (.reg false [O1 1 (.box 77) 0, K1 2 .mv (.bool false)]) (.seq (.reg false [O1 3 (.fld 0) 1, O1 4 .load1 3, K2 5 (.bin .geq) 4 (iV 0), O1 6 .mv 5, G1 7 (.fld 0) 1 6 true, G1 8 .load1 7 6 true, GK 9 (.bin .lss) 8 (iV 256) 6 true, ⟨(some 10), .pick, [(.t 6), (.t 9), (.k (.bool false))], none⟩, O1 11 .mv 10, G1 12 (.fld 1) 1 11 true, G1 13 .load1 12 11 true, GK 14 (.bin .geq) 13 (iV 1) 11 true, ⟨(some 15), .pick, [(.t 11), (.t 14), (.k (.bool false))], none⟩, O1 16 .mv 15, G1 17 (.fld 1) 1 16 true, G1 18 .load1 17 16 true, GK 19 (.bin .leq) 18 (iV 256) 16 true, ⟨(some 20), .pick, [(.t 16), (.t 19), (.k (.bool false))], none⟩, O1 21 .mv 20, G1 22 (.fld 1) 1 21 true, G1 23 .load1 22 21 true, GK 24 (.bin .lss) 23 (iV 256) 21 true, G1 25 .mv 24 21 true, G1 26 (.fld 0) 1 25 false, G1 27 .load1 26 25 false, GK 28 (.bin .eql) 27 (iV 0) 25 false, ⟨(some 29), .pick, [(.t 25), (.k (.bool true)), (.t 28)], (some (21, true))⟩, ⟨(some 30), .pick, [(.t 21), (.t 29), (.k (.bool false))], none⟩, O1 2 .mv 30]) .ret)), [(.s 2)]⟩
theorem x45_ok : xfn Tryz.prog Tryz.f45 = some x45.er := by kernel_rfl
def x17 : XFn := ⟨43, (.seq (.reg false [O1 1 (.box 50) 0, K1 2 .mv (.bool false)]) (.seq (.reg false [O1 3 (.fld 0) 1, O1 4 .load1 3, K2 5 (.bin .geq) 4 (iV (-1048576)), O1 6 .mv 5, G1 7 (.fld 0) 1 6 true, G1 8 .load1 7 6 true, G1 9 (.fld 2) 1 6 true, G1 10 .load1 9 6 true, G2 11 (.bin .leq) 8 10 6 true, ⟨(some 12), .pick, [(.t 6), (.t 11), (.k (.bool false))], none⟩, O1 13 .mv 12, G1 14 (.fld 2) 1 13 true, G1 15 .load1 14 13 true, GK 16 (.bin .leq) 15 (iV 1048576) 13 true, ⟨(some 17), .pick, [(.t 13), (.t 16), (.k (.bool false))], none⟩, O1 18 .mv 17, G1 19 (.fld 1) 1 18 true, G1 20 .load1 19 18 true, GK 21 (.bin .geq) 20 (iV (-1048576)) 18 true, ⟨(some 22), .pick, [(.t 18), (.t 21), (.k (.bool false))], none⟩, O1 23 .mv 22, G1 24 (.fld 1) 1 23 true, G1 25 .load1 24 23 true, G1 26 (.fld 3) 1 23 true, G1 27 .load1 26 23 true, G2 28 (.bin .leq) 25 27 23 true, ⟨(some 29), .pick, [(.t 23), (.t 28), (.k (.bool false))], none⟩, O1 30 .mv 29, G1 31 (.fld 3) 1 30 true, G1 32 .load1 31 30 true, GK 33 (.bin .leq) 32 (iV 1048576) 30 true, ⟨(some 34), .pick, [(.t 30), (.t 33), (.k (.bool false))], none⟩, O1 35 .mv 34, G1 36 (.fld 4) 1 35 true, G1 37 .load1 36 35 true, G1 38 (.fld 5) 1 35 true, G1 39 .load1 38 35 true, ⟨(some 40), (.build [(iV 0), (iV 0)] [(0, 1), (1, 1)]), [(.t 37), (.t 39)], (some (35, true))⟩, G1 41 (.call 45) 40 35 true, ⟨(some 42), .pick, [(.t 35), (.t 41), (.k (.bool false))], none⟩, O1 2 .mv 42]) .ret)), [(.s 2)]⟩
theorem x17_ok : xfn Tryz.prog Tryz.f17 = some x17.er := by kernel_rfl
def x22 : XFn := ⟨32, (.seq (.reg false [O1 1 (.box 50) 0, K1 2 .mv (.bool false)]) (.seq (.reg false [O1 3 (.fld 0) 1, O1 4 .load1 3, O1 5 (.fld 2) 1, O1 6 .load1 5, O2 7 (.bin .leq) 4 6, O1 8 .mv 7, G1 9 (.fld 1) 1 8 true, G1 10 .load1 9 8 true, G1 11 (.fld 3) 1 8 true, G1 12 .load1 11 8 true, G2 13 (.bin .leq) 10 12 8 true, ⟨(some 14), .pick, [(.t 8), (.t 13), (.k (.bool false))], none⟩, O1 15 .mv 14, G1 16 (.fld 0) 1 15 true, G1 17 .load1 16 15 true, G1 18 (.fld 1) 1 15 true, G1 19 .load1 18 15 true, G1 20 (.fld 2) 1 15 true, G1 21 .load1 20 15 true, G1 22 (.fld 3) 1 15 true, G1 23 .load1 22 15 true, ⟨(some 24), (.slit 3 4 1 [(iV 0), (iV 0), (iV 0), (iV 0)] [(0, 1), (1, 1), (2, 1), (3, 1)]), [(.t 17), (.t 19), (.t 21), (.t 23)], (some (15, true))⟩, G1 25 (.call 48) 24 15 true, ⟨(some 26), .pick, [(.t 15), (.t 25), (.k (.bool false))], none⟩, O1 27 .mv 26, G1 28 (.loadN 6) 1 27 true, G1 29 (.call 30) 28 27 true, G1 30 (.call 49) 29 27 true, ⟨(some 31), .pick, [(.t 27), (.t 30), (.k (.bool false))], none⟩, O1 2 .mv 31]) .ret)), [(.s 2)]⟩
theorem x22_ok : xfn Tryz.prog Tryz.f22 = some x22.er := by kernel_rfl
def x29 : XFn := ⟨17, (.seq (.reg false [O1 2 (.box 77) 0, K1 4 .mv (.bool false)]) (.seq (.reg true [O1 5 (.loadN 2) 2, O1 6 (.call 49) 5, O1 7 .mv 6, G1 8 .mv 1 7 true, G1 9 (.fld 0) 2 7 true, G1 10 .load1 9 7 true, G2 11 (.bin .sub) 8 10 7 true, G1 12 (.call 55) 11 7 true, G1 13 (.fld 1) 2 7 true, G1 14 .load1 13 7 true, G2 15 (.bin .lss) 12 14 7 true, ⟨(some 16), .pick, [(.t 7), (.t 15), (.k (.bool false))], none⟩, O1 4 .mv 16]) .ret)), [(.s 4)]⟩
theorem x29_ok : xfn Tryz.prog Tryz.f29 = some x29.er := by kernel_rfl
def x11 : XFn := ⟨42, (.seq (.reg false [O1 2 (.box 50) 0, O1 3 (.box 28) 1, K1 4 .mv (.bool false)]) (.seq (.reg true [O1 5 (.loadN 6) 2, O1 6 (.call 22) 5, O1 7 .mv 6, G1 8 (.fld 0) 2 7 true, G1 9 .load1 8 7 true, G1 10 (.fld 0) 3 7 true, G1 11 .load1 10 7 true, G2 12 (.bin .leq) 9 11 7 true, ⟨(some 13), .pick, [(.t 7), (.t 12), (.k (.bool false))], none⟩, O1 14 .mv 13, G1 15 (.fld 0) 3 14 true, G1 16 .load1 15 14 true, G1 17 (.fld 2) 2 14 true, G1 18 .load1 17 14 true, G2 19 (.bin .leq) 16 18 14 true, ⟨(some 20), .pick, [(.t 14), (.t 19), (.k (.bool false))], none⟩, O1 21 .mv 20, G1 22 (.fld 1) 2 21 true, G1 23 .load1 22 21 true, G1 24 (.fld 1) 3 21 true, G1 25 .load1 24 21 true, G2 26 (.bin .leq) 23 25 21 true, ⟨(some 27), .pick, [(.t 21), (.t 26), (.k (.bool false))], none⟩, O1 28 .mv 27, G1 29 (.fld 1) 3 28 true, G1 30 .load1 29 28 true, G1 31 (.fld 3) 2 28 true, G1 32 .load1 31 28 true, G2 33 (.bin .leq) 30 32 28 true, ⟨(some 34), .pick, [(.t 28), (.t 33), (.k (.bool false))], none⟩, O1 35 .mv 34, G1 36 (.loadN 6) 2 35 true, G1 37 (.call 30) 36 35 true, G1 38 (.fld 2) 3 35 true, G1 39 .load1 38 35 true, G2 40 (.call 29) 37 39 35 true, ⟨(some 41), .pick, [(.t 35), (.t 40), (.k (.bool false))], none⟩, O1 4 .mv 41]) .ret)), [(.s 4)]⟩
theorem x11_ok : xfn Tryz.prog Tryz.f11 = some x11.er := by kernel_rfl
def x50L0 : XC := (.seq (.reg false [O2 14 (.bin .lss) 13 12]) (.seq (.cond (.t 14) .skip (.exit 0)) (.seq (.block 1 (.seq (.reg false [O1 15 .mv 13, O1 4 .mv 15]) (.reg false [O1 16 .mv 3, O1 17 .mv 4, O1 18 (.fld 0) 1, O1 19 .load1 18, O1 20 .mv 4, O2 21 (.bin .add) 19 20, O1 22 (.call 55) 21, O2 23 (.ixS 1) 16 17, ⟨none, (.store 1), [(.t 23), (.t 22)], none⟩]))) (.reg false [K2 24 (.bin .add) 13 (iV 1), O1 13 .mv 24]))))
def x50 : XFn := ⟨26, (.seq (.reg false [O1 1 (.box 77) 0, K1 2 .mv (.slice none 0 0)]) (.seq (.seq (.reg false [O1 5 (.loadN 2) 1, O1 6 (.call 49) 5, O1 7 (.un .not) 6]) (.cond (.t 7) (.seq (.reg false [K1 2 .mv (.slice none 0 0)]) .ret) .skip)) (.seq (.reg false [O1 8 (.fld 1) 1, O1 9 .load1 8, ⟨(some 10), (.mks 3 1 8 [(iV 0)]), [(.t 9), (.t 9)], none⟩, O1 3 .mv 10]) (.seq (.seq (.reg false [O1 11 .mv 3, O1 12 .lenS 11, K1 13 .mv (iV 0)]) (.block 0 (.loop x50L0))) (.seq (.reg false [O1 25 .mv 3, O1 2 .mv 25]) .ret))))), [(.s 2)]⟩
theorem x50_ok : xfn Tryz.prog Tryz.f50 = some x50.er := by kernel_rfl
def x7L0 : XC := (.seq (.seq (.reg false [O1 7 .mv 3, O1 8 .mv 0, O1 9 .lenS 8, O2 10 (.bin .lss) 7 9]) (.cond (.t 10) .skip (.exit 0))) (.seq (.block 1 (.seq (.reg false [O1 13 .mv 0, O1 14 .mv 3, O2 15 (.ixS 6) 13 14, O1 16 (.loadN 6) 15, O1 17 (.call 17) 16, O1 18 (.un .not) 17]) (.cond (.t 18) (.seq (.reg false [K1 2 .mv (.bool false)]) .ret) .skip))) (.reg false [O1 11 .mv 3, K2 12 (.bin .add) 11 (iV 1), O1 3 .mv 12])))
def x7 : XFn := ⟨19, (.seq (.reg false [K1 2 .mv (.bool false)]) (.seq (.seq (.reg false [O1 4 .mv 0, O1 5 .lenS 4, K2 6 (.bin .gtr) 5 (iV 16)]) (.cond (.t 6) (.seq (.reg false [K1 2 .mv (.bool false)]) .ret) .skip)) (.seq (.seq (.reg false [K1 3 .mv (iV 0)]) (.block 0 (.loop x7L0))) (.seq (.reg false [K1 2 .mv (.bool true)]) .ret)))), [(.s 2)]⟩
theorem x7_ok : xfn Tryz.prog Tryz.f7 = some x7.er := by kernel_rfl
def x19 : XFn := ⟨7, (.seq (.reg false [O1 2 (.box 50) 0, K1 3 .mv (.bool false)]) (.seq (.reg false [O1 4 (.loadN 6) 2, O1 5 (.loadN 3) 1, O2 6 (.call 11) 4 5, O1 3 .mv 6]) .ret)), [(.s 3)]⟩
theorem x19_ok : xfn Tryz.prog Tryz.f19 = some x19.er := by kernel_rfl
def x46L0 : XC := (.seq (.reg false [O2 9 (.bin .lss) 8 7]) (.seq (.cond (.t 9) .skip (.exit 0)) (.seq (.block 1 (.seq (.reg false [O1 10 .mv 8, O1 5 .mv 10]) (.seq (.reg false [O1 11 .mv 1, O1 12 .mv 0, O1 13 .mv 5, O2 14 (.ixS 6) 12 13, O1 15 (.loadN 6) 14, O2 16 .callv 11 15]) (.cond (.t 16) (.seq (.reg false [O1 17 .mv 5, O1 4 .mv 17]) .ret) .skip)))) (.reg false [K2 18 (.bin .add) 8 (iV 1), O1 8 .mv 18]))))
def x46 : XFn := ⟨19, (.seq (.reg false [K1 4 .mv (iV 0)]) (.seq (.seq (.reg false [O1 6 .mv 0, O1 7 .lenS 6, K1 8 .mv (iV 0)]) (.block 0 (.loop x46L0))) (.seq (.reg false [K1 4 .mv (iV (-1))]) .ret))), [(.s 4)]⟩
theorem x46_ok : xfn Tryz.prog Tryz.f46 = some x46.er := by kernel_rfl
def x18 : XFn := ⟨9, (.seq (.reg false [K1 4 .mv (.bool false)]) (.seq (.reg false [O1 5 .mv 0, O1 6 .mv 1, O2 7 (.call 46) 5 6, K2 8 (.bin .geq) 7 (iV 0), O1 4 .mv 8]) .ret)), [(.s 4)]⟩
theorem x18_ok : xfn Tryz.prog Tryz.f18 = some x18.er := by kernel_rfl
def x8 : XFn := ⟨8, (.seq (.reg false [O1 3 (.box 28) 1, K1 4 .mv (.bool false)]) (.seq (.reg false [O1 5 .mv 0, ⟨(some 6), (.x (.mkf 19)), [(.t 3)], none⟩, O2 7 (.call 18) 5 6, O1 4 .mv 7]) .ret)), [(.s 4)]⟩
theorem x8_ok : xfn Tryz.prog Tryz.f8 = some x8.er := by kernel_rfl
def x13L0 : XC := (.seq (.seq (.reg false [O1 11 .mv 5, O1 12 .mv 0, O1 13 .lenS 12, O2 14 (.bin .lss) 11 13]) (.cond (.t 14) .skip (.exit 0))) (.seq (.block 1 (.seq (.reg true [O1 17 .mv 0, O1 18 .mv 5, O2 19 (.ixS 6) 17 18, O1 20 (.loadN 6) 19, O1 21 .mv 1, O1 22 .mv 5, O2 23 (.ixS 6) 21 22, O1 24 (.loadN 6) 23, ⟨(some 25), (.eqA true [(.i .i64), (.i .i64), (.i .i64), (.i .i64), (.i .i64), (.i .i64)]), [(.t 20), (.t 24)], none⟩]) (.cond (.t 25) (.seq (.reg false [K1 4 .mv (.bool false)]) .ret) .skip))) (.reg false [O1 15 .mv 5, K2 16 (.bin .add) 15 (iV 1), O1 5 .mv 16])))
def x13 : XFn := ⟨26, (.seq (.reg false [K1 4 .mv (.bool false)]) (.seq (.seq (.reg false [O1 6 .mv 0, O1 7 .lenS 6, O1 8 .mv 1, O1 9 .lenS 8, O2 10 (.bin .neq) 7 9]) (.cond (.t 10) (.seq (.reg false [K1 4 .mv (.bool false)]) .ret) .skip)) (.seq (.seq (.reg false [K1 5 .mv (iV 0)]) (.block 0 (.loop x13L0))) (.seq (.reg false [K1 4 .mv (.bool true)]) .ret)))), [(.s 4)]⟩
theorem x13_ok : xfn Tryz.prog Tryz.f13 = some x13.er := by kernel_rfl
def x76 : XFn := ⟨12, (.seq (.reg false [⟨(some 4), (.alloc 77 [(iV 0), (iV 0)]), [], none⟩]) (.seq (.seq (.reg false [O1 5 .mv 1, K2 6 (.bin .geq) 5 (iV 256)]) (.cond (.t 6) (.seq (.reg false [⟨(some 7), (.build [(iV 0), (iV 0)] [(1, 1)]), [(.k (iV 256))], none⟩, ⟨none, (.store 2), [(.t 4), (.t 7)], none⟩]) .ret) .skip)) (.seq (.reg false [O1 8 .mv 0, O1 9 (.call 55) 8, O1 10 .mv 1, ⟨(some 11), (.build [(iV 0), (iV 0)] [(0, 1), (1, 1)]), [(.t 9), (.t 10)], none⟩, ⟨none, (.store 2), [(.t 4), (.t 11)], none⟩]) .ret))), [(.bn 4 2)]⟩
theorem x76_ok : xfn Tryz.prog Tryz.f76 = some x76.er := by kernel_rfl
def x53 : XFn := ⟨18, (.seq (.reg false [O1 2 (.box 77) 0, ⟨(some 4), (.alloc 77 [(iV 0), (iV 0)]), [], none⟩, K1 5 .mv (iV 0)]) (.seq (.seq (.reg false [O1 6 (.loadN 2) 2, O1 7 (.call 49) 6, O1 8 (.un .not) 7]) (.cond (.t 8) (.seq (.reg false [⟨(some 9), (.build [(iV 0), (iV 0)] []), [], none⟩, ⟨none, (.store 2), [(.t 4), (.t 9)], none⟩, K1 5 .mv (iV 1)]) .ret) .skip)) (.seq (.regD [O1 10 (.fld 0) 2, O1 11 .load1 10, O1 12 .mv 1, O1 13 (.call 55) 12, O2 14 (.bin .add) 11 13, O1 15 (.fld 1) 2, O1 16 .load1 15, O2 17 (.call 76) 14 16, ⟨none, (.store 2), [(.t 4), (.t 17)], none⟩, K1 5 .mv (iV 0)] [[], [0], [], [2], [1, 0, 3, 2], [], [5], [4, 1, 0, 3, 2, 6, 5], [7, 4, 1, 0, 3, 2, 6, 5], [8, 7, 4, 1, 0, 3, 2, 6, 5]]) .ret))), [(.bn 4 2), (.s 5)]⟩
theorem x53_ok : xfn Tryz.prog Tryz.f53 = some x53.er := by kernel_rfl
def x54 : XFn := ⟨29, (.seq (.reg false [O1 2 (.box 77) 0, ⟨(some 4), (.alloc 77 [(iV 0), (iV 0)]), [], none⟩, K1 5 .mv (iV 0)]) (.seq (.block 0 (.seq (.reg false [O1 7 (.loadN 2) 2, O1 8 (.call 49) 7, O1 9 (.un .not) 8, O1 6 .mv 9]) (.cond (.t 6) (.seq (.reg false [⟨(some 10), (.build [(iV 0), (iV 0)] []), [], none⟩, ⟨none, (.store 2), [(.t 4), (.t 10)], none⟩, K1 5 .mv (iV 1)]) .ret) (.seq (.reg false [O1 12 .mv 1, K2 13 (.bin .lss) 12 (iV 0), O1 14 .mv 13, G1 15 .mv 1 14 false, GK 16 (.bin .gtr) 15 (iV 256) 14 false, ⟨(some 17), .pick, [(.t 14), (.k (.bool true)), (.t 16)], none⟩, O1 11 .mv 17]) (.cond (.t 11) (.seq (.reg false [⟨(some 18), (.build [(iV 0), (iV 0)] []), [], none⟩, ⟨none, (.store 2), [(.t 4), (.t 18)], none⟩, K1 5 .mv (iV 2)]) .ret) .skip))))) (.seq (.reg false [O1 19 (.fld 0) 2, O1 20 .load1 19, O1 21 .mv 1, O2 22 (.bin .sub) 20 21, O1 23 (.fld 1) 2, O1 24 .load1 23, O1 25 .mv 1, ⟨(some 26), (.bin .mul), [(.k (iV 2)), (.t 25)], none⟩, O2 27 (.bin .add) 24 26, O2 28 (.call 76) 22 27, ⟨none, (.store 2), [(.t 4), (.t 28)], none⟩, K1 5 .mv (iV 0)]) .ret))), [(.bn 4 2), (.s 5)]⟩
theorem x54_ok : xfn Tryz.prog Tryz.f54 = some x54.er := by kernel_rfl
def x75 : XFn := ⟨9, (.seq (.reg false [K1 2 .mv (.bool false)]) (.seq (.reg false [O1 3 .mv 0, K2 4 (.bin .lss) 3 (iV (-2097152)), O1 5 .mv 4, G1 6 .mv 0 5 false, GK 7 (.bin .gtr) 6 (iV 2097152) 5 false, ⟨(some 8), .pick, [(.t 5), (.k (.bool true)), (.t 7)], none⟩, O1 2 .mv 8]) .ret)), [(.s 2)]⟩
theorem x75_ok : xfn Tryz.prog Tryz.f75 = some x75.er := by kernel_rfl
def x52 : XFn := ⟨68, (.seq (.reg false [O1 5 (.box 50) 0, ⟨(some 10), (.alloc 50 [(iV 0), (iV 0), (iV 0), (iV 0), (iV 0), (iV 0)]), [], none⟩, K1 11 .mv (iV 0)]) (.seq (.seq (.reg false [O1 13 (.loadN 6) 5, O1 14 (.call 22) 13, O1 15 (.un .not) 14, O1 16 .mv 15, G1 17 .mv 1 16 false, G1 18 .mv 2 16 false, G2 19 (.bin .gtr) 17 18 16 false, ⟨(some 20), .pick, [(.t 16), (.k (.bool true)), (.t 19)], none⟩, O1 21 .mv 20, G1 22 .mv 3 21 false, G1 23 .mv 4 21 false, G2 24 (.bin .gtr) 22 23 21 false, ⟨(some 25), .pick, [(.t 21), (.k (.bool true)), (.t 24)], none⟩]) (.cond (.t 25) (.seq (.reg false [⟨(some 26), (.build [(iV 0), (iV 0), (iV 0), (iV 0), (iV 0), (iV 0)] []), [], none⟩, ⟨none, (.store 6), [(.t 10), (.t 26)], none⟩, K1 11 .mv (iV 1)]) .ret) .skip)) (.seq (.reg false [⟨(some 12), .mv, [(.k (.func (.func 75) #[] #[]))], none⟩]) (.seq (.seq (.reg false [O1 27 .mv 1, O1 28 .mv 2, O1 29 .mv 3, O1 30 .mv 4, ⟨(some 31), (.slit 3 4 1 [(iV 0), (iV 0), (iV 0), (iV 0)] [(0, 1), (1, 1), (2, 1), (3, 1)]), [(.t 27), (.t 28), (.t 29), (.t 30)], none⟩, O1 32 .mv 12, O2 33 (.call 40) 31 32]) (.cond (.t 33) (.seq (.reg false [⟨(some 34), (.build [(iV 0), (iV 0), (iV 0), (iV 0), (iV 0), (iV 0)] []), [], none⟩, ⟨none, (.store 6), [(.t 10), (.t 34)], none⟩, K1 11 .mv (iV 2)]) .ret) .skip)) (.seq (.reg false [O1 35 (.fld 0) 5, O1 36 .load1 35, O1 37 .mv 1, O2 38 (.bin .add) 36 37, O1 39 (.fld 2) 5, O1 40 .load1 39, O1 41 .mv 2, O2 42 (.bin .add) 40 41, O1 43 (.fld 1) 5, O1 44 .load1 43, O1 45 .mv 3, O2 46 (.bin .add) 44 45, O1 47 (.fld 3) 5, O1 48 .load1 47, O1 49 .mv 4, O2 50 (.bin .add) 48 49, O1 51 (.fld 0) 5, ⟨none, (.store 1), [(.t 51), (.t 38)], none⟩, O1 52 (.fld 2) 5, ⟨none, (.store 1), [(.t 52), (.t 42)], none⟩, O1 53 (.fld 1) 5, ⟨none, (.store 1), [(.t 53), (.t 46)], none⟩, O1 54 (.fld 3) 5, ⟨none, (.store 1), [(.t 54), (.t 50)], none⟩]) (.seq (.seq (.reg false [O1 55 (.fld 0) 5, O1 56 .load1 55, O1 57 (.fld 2) 5, O1 58 .load1 57, O1 59 (.fld 1) 5, O1 60 .load1 59, O1 61 (.fld 3) 5, O1 62 .load1 61, ⟨(some 63), (.slit 3 4 1 [(iV 0), (iV 0), (iV 0), (iV 0)] [(0, 1), (1, 1), (2, 1), (3, 1)]), [(.t 56), (.t 58), (.t 60), (.t 62)], none⟩, O1 64 (.call 48) 63, O1 65 (.un .not) 64]) (.cond (.t 65) (.seq (.reg false [⟨(some 66), (.build [(iV 0), (iV 0), (iV 0), (iV 0), (iV 0), (iV 0)] []), [], none⟩, ⟨none, (.store 6), [(.t 10), (.t 66)], none⟩, K1 11 .mv (iV 2)]) .ret) .skip)) (.seq (.reg false [O1 67 (.loadN 6) 5, ⟨none, (.store 6), [(.t 10), (.t 67)], none⟩, K1 11 .mv (iV 0)]) .ret))))))), [(.bn 10 6), (.s 11)]⟩
theorem x52_ok : xfn Tryz.prog Tryz.f52 = some x52.er := by kernel_rfl
def g74 : Con := fun args_ E_ nn_ => match args_ with
  | [.c (.v (.int .i64 n))] => some (.q (True) (.o (.c (.v (.bool (wideB n))))))
  | _ => none
theorem c74 : COk Tryz.prog 74 g74 := by
  refine cok_q Tryz.func74 x74_ok (by kernel_rfl) (cok_tab cok_nil) ?_
  intro args_ E_ nn_ cr_ hg_
  unfold g74 at hg_
  split at hg_
  · rename_i n
    cases hg_
    refine ⟨_, _, rfl, 0, [], [.c (.v (.int .i64 n))], [], .o (.c (.v (.bool (wideB n)))), rfl, rfl, by simp only [push_cast, Nat.reduceLT, Nat.reduceAdd], by simp only [push_cast, Nat.reduceLT, Nat.reduceAdd], by simp only [push_cast, Nat.reduceLT, Nat.reduceAdd], rfl, trivial, rfl, ?_⟩
    intro hpre hlen
    refine ⟨trivial, ?_⟩
    simp (config := {maxSteps := 10000000}) only [x74, push_cast, Nat.reduceAdd, Nat.reduceSub, Nat.reduceLeDiff, Nat.reduceEqDiff, Nat.reduceBEq, Nat.reduceMul, Nat.reduceLT, ↓reduceIte, reduceCtorEq, Int.reduceLE, Int.reduceLT, Int.reduceEq, Int.reduceMul, Int.reduceAdd, Int.reduceSub, Int.reduceNeg, Int.reduceToNat, Int.reduceNe]
    rfl
  · cases hg_
def g68w : Con := fun args_ E_ nn_ => match args_ with
  | [.c (.n s), .c (.v (.func (.func 74) f_a f_b))] => (match rowOf E_ s with
    | some (s_n, s_s, s_f) => some (.q (isRow eI s_n s_s s_f ∧ f_a = #[] ∧ f_b = #[]) (.o (.c (.v (.int .i64 (ixOf wideB (decL eI s_n s_f)))))))
    | none => none)
  | _ => none
theorem c68w : COk Tryz.prog 68 g68w := by
  refine cok_q Tryz.func68 x68_ok (by kernel_rfl) (cok_tab (cok_cons c74 cok_nil)) ?_
  intro args_ E_ nn_ cr_ hg_
  unfold g68w at hg_
  split at hg_
  · rename_i s f_a f_b
    split at hg_
    · rename_i s_n s_s s_f h_s
      cases hg_
      refine ⟨_, _, rfl, 1, [s], [.c (.n 0), .c (.v (.func (.func 74) f_a f_b))], [(0, .ro (decL eI s_n s_f).length eI.sz (rowF eI (decL eI s_n s_f)))], .o (.c (.v (.int .i64 (ixOf wideB (decL eI s_n s_f))))), rfl, rfl, by simp only [push_cast, Nat.reduceLT, Nat.reduceAdd], by simp only [push_cast, Nat.reduceLT, Nat.reduceAdd], by simp only [push_cast, Nat.reduceLT, Nat.reduceAdd], rfl, ⟨inE0_row h_s, trivial⟩, rfl, ?_⟩
      intro hpre hlen
      obtain ⟨i_s, hpre⟩ := hpre
      refine ⟨⟨inE_row h_s i_s, trivial⟩, ?_⟩
      have z_s := lens_row (E := eI) hlen h_s
      clear i_s
      generalize decL eI s_n s_f = sL at *
      clear h_s
      obtain ⟨rfl, rfl⟩ := hpre
      simp (config := {maxSteps := 10000000}) only [x68, push_cast, Nat.reduceAdd, Nat.reduceSub, Nat.reduceLeDiff, Nat.reduceEqDiff, Nat.reduceBEq, Nat.reduceMul, Nat.reduceLT, ↓reduceIte, reduceCtorEq, Int.reduceLE, Int.reduceLT, Int.reduceEq, Int.reduceMul, Int.reduceAdd, Int.reduceSub, Int.reduceNeg, Int.reduceToNat, Int.reduceNe, g74]
      refine vcLoop_upd (α := {k : Nat // k ≤ sL.length ∧ ∀ i, i < k → wideB (sL.getD i eI.dflt) = false}) [0, 1, 7] 0 (fun s => [(8, .o (.c (.v (.int .i64 (s.1 : Nat)))))]) (fun s => []) (fun s => sL.length - s.1) ⟨0, by omega, fun i hi => by omega⟩ ?_ ?_
      · simp only [push_cast, Nat.reduceAdd, Nat.reduceSub, Nat.reduceLeDiff, Nat.reduceEqDiff, Nat.reduceBEq, Nat.reduceMul, Nat.reduceLT, ↓reduceIte, reduceCtorEq, Int.reduceLE, Int.reduceLT, Int.reduceEq, Int.reduceMul, Int.reduceAdd, Int.reduceSub, Int.reduceNeg, Int.reduceToNat, Int.reduceNe, g74]
      · rintro ⟨k, hk, hall⟩
        simp only [x68L0, push_cast, Nat.reduceAdd, Nat.reduceSub, Nat.reduceLeDiff, Nat.reduceEqDiff, Nat.reduceBEq, Nat.reduceMul, Nat.reduceLT, ↓reduceIte, reduceCtorEq, Int.reduceLE, Int.reduceLT, Int.reduceEq, Int.reduceMul, Int.reduceAdd, Int.reduceSub, Int.reduceNeg, Int.reduceToNat, Int.reduceNe, g74]
        refine ⟨fun hlt => ⟨hlt, hlt, fun hw => (ixOf_some hlt hall hw).symm, fun hw => ?_⟩, fun hn => ?_⟩
        · exact ⟨⟨k + 1, by omega, fun i hi => by
            by_cases h : i = k
            · subst h; exact hw
            · exact hall i (by omega)⟩, wrapI (by omega) (by omega), by simp only; omega⟩
        · exact (ixOf_none (fun i hi => hall i (by omega))).symm
    · cases hg_
  · cases hg_
def g40w : Con := fun args_ E_ nn_ => match args_ with
  | [.c (.n s), .c (.v (.func (.func 74) f_a f_b))] => (match rowOf E_ s with
    | some (s_n, s_s, s_f) => some (.q (isRow eI s_n s_s s_f ∧ f_a = #[] ∧ f_b = #[]) (.o (.c (.v (.bool (((decL eI s_n s_f)).any wideB))))))
    | none => none)
  | _ => none
theorem c40w : COk Tryz.prog 40 g40w := by
  refine cok_q Tryz.func40 x40_ok (by kernel_rfl) (cok_tab (cok_cons c68w cok_nil)) ?_
  intro args_ E_ nn_ cr_ hg_
  unfold g40w at hg_
  split at hg_
  · rename_i s f_a f_b
    split at hg_
    · rename_i s_n s_s s_f h_s
      cases hg_
      refine ⟨_, _, rfl, 1, [s], [.c (.n 0), .c (.v (.func (.func 74) f_a f_b))], [(0, .ro (decL eI s_n s_f).length eI.sz (rowF eI (decL eI s_n s_f)))], .o (.c (.v (.bool (((decL eI s_n s_f)).any wideB)))), rfl, rfl, by simp only [push_cast, Nat.reduceLT, Nat.reduceAdd], by simp only [push_cast, Nat.reduceLT, Nat.reduceAdd], by simp only [push_cast, Nat.reduceLT, Nat.reduceAdd], rfl, ⟨inE0_row h_s, trivial⟩, rfl, ?_⟩
      intro hpre hlen
      obtain ⟨i_s, hpre⟩ := hpre
      refine ⟨⟨inE_row h_s i_s, trivial⟩, ?_⟩
      have z_s := lens_row (E := eI) hlen h_s
      clear i_s
      generalize decL eI s_n s_f = sL at *
      clear h_s
      obtain ⟨rfl, rfl⟩ := hpre
      simp (config := {maxSteps := 10000000}) only [x40, push_cast, Nat.reduceAdd, Nat.reduceSub, Nat.reduceLeDiff, Nat.reduceEqDiff, Nat.reduceBEq, Nat.reduceMul, Nat.reduceLT, ↓reduceIte, reduceCtorEq, Int.reduceLE, Int.reduceLT, Int.reduceEq, Int.reduceMul, Int.reduceAdd, Int.reduceSub, Int.reduceNeg, Int.reduceToNat, Int.reduceNe, g68w]
      exact ixOf_any wideB sL
    · cases hg_
  · cases hg_
def g48 : Con := fun args_ E_ nn_ => match args_ with
  | [.c (.n l)] => (match rowOf E_ l with
    | some (l_n, l_s, l_f) => some (.q (isRow eI l_n l_s l_f ∧ True) (.o (.c (.v (.bool (!((decL eI l_n l_f)).any wideB))))))
    | none => none)
  | _ => none
theorem c48 : COk Tryz.prog 48 g48 := by
  refine cok_q Tryz.func48 x48_ok (by kernel_rfl) (cok_tab (cok_cons c40w cok_nil)) ?_
  intro args_ E_ nn_ cr_ hg_
  unfold g48 at hg_
  split at hg_
  · rename_i l
    split at hg_
    · rename_i l_n l_s l_f h_l
      cases hg_
      refine ⟨_, _, rfl, 1, [l], [.c (.n 0)], [(0, .ro (decL eI l_n l_f).length eI.sz (rowF eI (decL eI l_n l_f)))], .o (.c (.v (.bool (!((decL eI l_n l_f)).any wideB)))), rfl, rfl, by simp only [push_cast, Nat.reduceLT, Nat.reduceAdd], by simp only [push_cast, Nat.reduceLT, Nat.reduceAdd], by simp only [push_cast, Nat.reduceLT, Nat.reduceAdd], rfl, ⟨inE0_row h_l, trivial⟩, rfl, ?_⟩
      intro hpre hlen
      obtain ⟨i_l, hpre⟩ := hpre
      refine ⟨⟨inE_row h_l i_l, trivial⟩, ?_⟩
      have z_l := lens_row (E := eI) hlen h_l
      clear i_l
      generalize decL eI l_n l_f = lL at *
      clear h_l
      simp (config := {maxSteps := 10000000}) only [x48, push_cast, Nat.reduceAdd, Nat.reduceSub, Nat.reduceLeDiff, Nat.reduceEqDiff, Nat.reduceBEq, Nat.reduceMul, Nat.reduceLT, ↓reduceIte, reduceCtorEq, Int.reduceLE, Int.reduceLT, Int.reduceEq, Int.reduceMul, Int.reduceAdd, Int.reduceSub, Int.reduceNeg, Int.reduceToNat, Int.reduceNe, g40w]
    · cases hg_
  · cases hg_
def g30 : Con := fun args_ E_ nn_ => match args_ with
  | [.a [.v (.int .i64 b_X0), .v (.int .i64 b_Y0), .v (.int .i64 b_X1), .v (.int .i64 b_Y1), .v (.int .i64 b_From), .v (.int .i64 b_Count)]] => some (.q (True) (.o (.a [.v (.int .i64 b_From), .v (.int .i64 b_Count)])))
  | _ => none
theorem c30 : COk Tryz.prog 30 g30 := by
  refine cok_q Tryz.func30 x30_ok (by kernel_rfl) (cok_tab cok_nil) ?_
  intro args_ E_ nn_ cr_ hg_
  unfold g30 at hg_
  split at hg_
  · rename_i b_X0 b_Y0 b_X1 b_Y1 b_From b_Count
    cases hg_
    refine ⟨_, _, rfl, 0, [], [.a [.v (.int .i64 b_X0), .v (.int .i64 b_Y0), .v (.int .i64 b_X1), .v (.int .i64 b_Y1), .v (.int .i64 b_From), .v (.int .i64 b_Count)]], [], .o (.a [.v (.int .i64 b_From), .v (.int .i64 b_Count)]), rfl, rfl, by simp only [push_cast, Nat.reduceLT, Nat.reduceAdd], by simp only [push_cast, Nat.reduceLT, Nat.reduceAdd], by simp only [push_cast, Nat.reduceLT, Nat.reduceAdd], rfl, trivial, rfl, ?_⟩
    intro hpre hlen
    refine ⟨trivial, ?_⟩
    simp (config := {maxSteps := 10000000}) only [x30, push_cast, Nat.reduceAdd, Nat.reduceSub, Nat.reduceLeDiff, Nat.reduceEqDiff, Nat.reduceBEq, Nat.reduceMul, Nat.reduceLT, ↓reduceIte, reduceCtorEq, Int.reduceLE, Int.reduceLT, Int.reduceEq, Int.reduceMul, Int.reduceAdd, Int.reduceSub, Int.reduceNeg, Int.reduceToNat, Int.reduceNe]
  · cases hg_
def g49 : Con := fun args_ E_ nn_ => match args_ with
  | [.a [.v (.int .i64 a_From), .v (.int .i64 a_Count)]] => some (.q (True) (.o (.c (.v (.bool (arcB a_From a_Count))))))
  | _ => none
theorem c49 : COk Tryz.prog 49 g49 := by
  refine cok_q Tryz.func49 x49_ok (by kernel_rfl) (cok_tab cok_nil) ?_
  intro args_ E_ nn_ cr_ hg_
  unfold g49 at hg_
  split at hg_
  · rename_i a_From a_Count
    cases hg_
    refine ⟨_, _, rfl, 0, [], [.a [.v (.int .i64 a_From), .v (.int .i64 a_Count)]], [], .o (.c (.v (.bool (arcB a_From a_Count)))), rfl, rfl, by simp only [push_cast, Nat.reduceLT, Nat.reduceAdd], by simp only [push_cast, Nat.reduceLT, Nat.reduceAdd], by simp only [push_cast, Nat.reduceLT, Nat.reduceAdd], rfl, trivial, rfl, ?_⟩
    intro hpre hlen
    refine ⟨trivial, ?_⟩
    simp (config := {maxSteps := 10000000}) only [x49, push_cast, Nat.reduceAdd, Nat.reduceSub, Nat.reduceLeDiff, Nat.reduceEqDiff, Nat.reduceBEq, Nat.reduceMul, Nat.reduceLT, ↓reduceIte, reduceCtorEq, Int.reduceLE, Int.reduceLT, Int.reduceEq, Int.reduceMul, Int.reduceAdd, Int.reduceSub, Int.reduceNeg, Int.reduceToNat, Int.reduceNe]
    unfold arcB
    refine ⟨fun h1 h2 h3 h4 => ⟨⟨⟨⟨h1, h2⟩, h3⟩, h4⟩, fun h5 => ⟨⟨⟨⟨h1, h2⟩, h3⟩, h4⟩, h5⟩⟩, ?_⟩
    rw [Bool.eq_iff_iff]
    simp
    omega
  · cases hg_
def g45 : Con := fun args_ E_ nn_ => match args_ with
  | [.a [.v (.int .i64 a_From), .v (.int .i64 a_Count)]] => some (.q (True) (.o (.c (.v (.bool (arcB a_From a_Count))))))
  | _ => none
theorem c45 : COk Tryz.prog 45 g45 := by
  refine cok_q Tryz.func45 x45_ok (by kernel_rfl) (cok_tab cok_nil) ?_
  intro args_ E_ nn_ cr_ hg_
  unfold g45 at hg_
  split at hg_
  · rename_i a_From a_Count
    cases hg_
    refine ⟨_, _, rfl, 0, [], [.a [.v (.int .i64 a_From), .v (.int .i64 a_Count)]], [], .o (.c (.v (.bool (arcB a_From a_Count)))), rfl, rfl, by simp only [push_cast, Nat.reduceLT, Nat.reduceAdd], by simp only [push_cast, Nat.reduceLT, Nat.reduceAdd], by simp only [push_cast, Nat.reduceLT, Nat.reduceAdd], rfl, trivial, rfl, ?_⟩
    intro hpre hlen
    refine ⟨trivial, ?_⟩
    simp (config := {maxSteps := 10000000}) only [x45, push_cast, Nat.reduceAdd, Nat.reduceSub, Nat.reduceLeDiff, Nat.reduceEqDiff, Nat.reduceBEq, Nat.reduceMul, Nat.reduceLT, ↓reduceIte, reduceCtorEq, Int.reduceLE, Int.reduceLT, Int.reduceEq, Int.reduceMul, Int.reduceAdd, Int.reduceSub, Int.reduceNeg, Int.reduceToNat, Int.reduceNe]
    unfold arcB
    refine ⟨fun h1 h2 h3 h4 => ⟨⟨⟨⟨h1, h2⟩, h3⟩, h4⟩, fun h5 => ⟨⟨⟨⟨h1, h2⟩, h3⟩, h4⟩, h5⟩⟩, ?_⟩
    rw [Bool.eq_iff_iff]
    simp
    omega
  · cases hg_
def g17 : Con := fun args_ E_ nn_ => match args_ with
  | [.a [.v (.int .i64 b_X0), .v (.int .i64 b_Y0), .v (.int .i64 b_X1), .v (.int .i64 b_Y1), .v (.int .i64 b_From), .v (.int .i64 b_Count)]] => some (.q (True) (.o (.c (.v (.bool (boxB b_X0 b_Y0 b_X1 b_Y1 b_From b_Count))))))
  | _ => none
theorem c17 : COk Tryz.prog 17 g17 := by
  refine cok_q Tryz.func17 x17_ok (by kernel_rfl) (cok_tab (cok_cons c45 cok_nil)) ?_
  intro args_ E_ nn_ cr_ hg_
  unfold g17 at hg_
  split at hg_
  · rename_i b_X0 b_Y0 b_X1 b_Y1 b_From b_Count
    cases hg_
    refine ⟨_, _, rfl, 0, [], [.a [.v (.int .i64 b_X0), .v (.int .i64 b_Y0), .v (.int .i64 b_X1), .v (.int .i64 b_Y1), .v (.int .i64 b_From), .v (.int .i64 b_Count)]], [], .o (.c (.v (.bool (boxB b_X0 b_Y0 b_X1 b_Y1 b_From b_Count)))), rfl, rfl, by simp only [push_cast, Nat.reduceLT, Nat.reduceAdd], by simp only [push_cast, Nat.reduceLT, Nat.reduceAdd], by simp only [push_cast, Nat.reduceLT, Nat.reduceAdd], rfl, trivial, rfl, ?_⟩
    intro hpre hlen
    refine ⟨trivial, ?_⟩
    simp (config := {maxSteps := 10000000}) only [x17, push_cast, Nat.reduceAdd, Nat.reduceSub, Nat.reduceLeDiff, Nat.reduceEqDiff, Nat.reduceBEq, Nat.reduceMul, Nat.reduceLT, ↓reduceIte, reduceCtorEq, Int.reduceLE, Int.reduceLT, Int.reduceEq, Int.reduceMul, Int.reduceAdd, Int.reduceSub, Int.reduceNeg, Int.reduceToNat, Int.reduceNe, g45]
    unfold boxB arcB
    rw [Bool.eq_iff_iff]
    simp
    omega
  · cases hg_
def g22 : Con := fun args_ E_ nn_ => match args_ with
  | [.a [.v (.int .i64 b_X0), .v (.int .i64 b_Y0), .v (.int .i64 b_X1), .v (.int .i64 b_Y1), .v (.int .i64 b_From), .v (.int .i64 b_Count)]] => some (.q (True) (.o (.c (.v (.bool (boxB b_X0 b_Y0 b_X1 b_Y1 b_From b_Count))))))
  | _ => none
theorem c22 : COk Tryz.prog 22 g22 := by
  refine cok_q Tryz.func22 x22_ok (by kernel_rfl) (cok_tab (cok_cons c48 (cok_cons c30 (cok_cons c49 cok_nil)))) ?_
  intro args_ E_ nn_ cr_ hg_
  unfold g22 at hg_
  split at hg_
  · rename_i b_X0 b_Y0 b_X1 b_Y1 b_From b_Count
    cases hg_
    refine ⟨_, _, rfl, 0, [], [.a [.v (.int .i64 b_X0), .v (.int .i64 b_Y0), .v (.int .i64 b_X1), .v (.int .i64 b_Y1), .v (.int .i64 b_From), .v (.int .i64 b_Count)]], [], .o (.c (.v (.bool (boxB b_X0 b_Y0 b_X1 b_Y1 b_From b_Count)))), rfl, rfl, by simp only [push_cast, Nat.reduceLT, Nat.reduceAdd], by simp only [push_cast, Nat.reduceLT, Nat.reduceAdd], by simp only [push_cast, Nat.reduceLT, Nat.reduceAdd], rfl, trivial, rfl, ?_⟩
    intro hpre hlen
    refine ⟨trivial, ?_⟩
    have q1 : isRow eI 4 1 (litF [SC.v (Value.int IntKind.i64 b_X0), SC.v (Value.int IntKind.i64 b_Y0), SC.v (Value.int IntKind.i64 b_X1), SC.v (Value.int IntKind.i64 b_Y1)] 1) ↔ True := iff_true_intro (lits_row eI [b_X0, b_Y0, b_X1, b_Y1]).1
    have q2 : decL eI 4 (litF [SC.v (Value.int IntKind.i64 b_X0), SC.v (Value.int IntKind.i64 b_Y0), SC.v (Value.int IntKind.i64 b_X1), SC.v (Value.int IntKind.i64 b_Y1)] 1) = [b_X0, b_Y0, b_X1, b_Y1] := (lits_row eI [b_X0, b_Y0, b_X1, b_Y1]).2
    simp (config := {maxSteps := 10000000}) only [x22, push_cast, Nat.reduceAdd, Nat.reduceSub, Nat.reduceLeDiff, Nat.reduceEqDiff, Nat.reduceBEq, Nat.reduceMul, Nat.reduceLT, ↓reduceIte, reduceCtorEq, Int.reduceLE, Int.reduceLT, Int.reduceEq, Int.reduceMul, Int.reduceAdd, Int.reduceSub, Int.reduceNeg, Int.reduceToNat, Int.reduceNe, g48, g30, g49, q1, q2]
    refine ⟨fun h1 h2 => ⟨⟨h1, h2⟩, ?_⟩, fun h => ⟨fun h1 h2 => ?_, fun _ => ⟨fun h1 h2 => ?_, ?_⟩⟩⟩
    · rw [any4]
      unfold boxB arcB wideB
      rw [Bool.eq_iff_iff]
      simp
      omega
    · rw [decide_eq_true h1, decide_eq_true h2] at h; cases h
    · rw [decide_eq_true h1, decide_eq_true h2] at h; cases h
    · rw [h, Bool.false_and]
      symm
      unfold boxB
      rw [decide_eq_false_iff_not]
      intro hp
      rw [decide_eq_true hp.2.1, decide_eq_true hp.2.2.2.2.1] at h
      cases h
  · cases hg_
def g29 : Con := fun args_ E_ nn_ => match args_ with
  | [.a [.v (.int .i64 a_From), .v (.int .i64 a_Count)], .c (.v (.int .i64 h))] => some (.q (True) (.o (.c (.v (.bool (arcB a_From a_Count && decide ((h - a_From) % 256 < a_Count)))))))
  | _ => none
theorem c29 : COk Tryz.prog 29 g29 := by
  refine cok_q Tryz.func29 x29_ok (by kernel_rfl) (cok_tab (cok_cons c49 (cok_cons c55 cok_nil))) ?_
  intro args_ E_ nn_ cr_ hg_
  unfold g29 at hg_
  split at hg_
  · rename_i a_From a_Count h
    cases hg_
    refine ⟨_, _, rfl, 0, [], [.a [.v (.int .i64 a_From), .v (.int .i64 a_Count)], .c (.v (.int .i64 h))], [], .o (.c (.v (.bool (arcB a_From a_Count && decide ((h - a_From) % 256 < a_Count))))), rfl, rfl, by simp only [push_cast, Nat.reduceLT, Nat.reduceAdd], by simp only [push_cast, Nat.reduceLT, Nat.reduceAdd], by simp only [push_cast, Nat.reduceLT, Nat.reduceAdd], rfl, trivial, rfl, ?_⟩
    intro hpre hlen
    refine ⟨trivial, ?_⟩
    simp (config := {maxSteps := 10000000}) only [x29, push_cast, Nat.reduceAdd, Nat.reduceSub, Nat.reduceLeDiff, Nat.reduceEqDiff, Nat.reduceBEq, Nat.reduceMul, Nat.reduceLT, ↓reduceIte, reduceCtorEq, Int.reduceLE, Int.reduceLT, Int.reduceEq, Int.reduceMul, Int.reduceAdd, Int.reduceSub, Int.reduceNeg, Int.reduceToNat, Int.reduceNe, g49, g55]
    rw [wrap_256]
  · cases hg_
def g11 : Con := fun args_ E_ nn_ => match args_ with
  | [.a [.v (.int .i64 b_X0), .v (.int .i64 b_Y0), .v (.int .i64 b_X1), .v (.int .i64 b_Y1), .v (.int .i64 b_From), .v (.int .i64 b_Count)], .a [.v (.int .i64 p_X), .v (.int .i64 p_Y), .v (.int .i64 p_H)]] => some (.q (True) (.o (.c (.v (.bool (hasB b_X0 b_Y0 b_X1 b_Y1 b_From b_Count p_X p_Y p_H))))))
  | _ => none
theorem c11 : COk Tryz.prog 11 g11 := by
  refine cok_q Tryz.func11 x11_ok (by kernel_rfl) (cok_tab (cok_cons c22 (cok_cons c29 (cok_cons c30 cok_nil)))) ?_
  intro args_ E_ nn_ cr_ hg_
  unfold g11 at hg_
  split at hg_
  · rename_i b_X0 b_Y0 b_X1 b_Y1 b_From b_Count p_X p_Y p_H
    cases hg_
    refine ⟨_, _, rfl, 0, [], [.a [.v (.int .i64 b_X0), .v (.int .i64 b_Y0), .v (.int .i64 b_X1), .v (.int .i64 b_Y1), .v (.int .i64 b_From), .v (.int .i64 b_Count)], .a [.v (.int .i64 p_X), .v (.int .i64 p_Y), .v (.int .i64 p_H)]], [], .o (.c (.v (.bool (hasB b_X0 b_Y0 b_X1 b_Y1 b_From b_Count p_X p_Y p_H)))), rfl, rfl, by simp only [push_cast, Nat.reduceLT, Nat.reduceAdd], by simp only [push_cast, Nat.reduceLT, Nat.reduceAdd], by simp only [push_cast, Nat.reduceLT, Nat.reduceAdd], rfl, trivial, rfl, ?_⟩
    intro hpre hlen
    refine ⟨trivial, ?_⟩
    simp (config := {maxSteps := 10000000}) only [x11, push_cast, Nat.reduceAdd, Nat.reduceSub, Nat.reduceLeDiff, Nat.reduceEqDiff, Nat.reduceBEq, Nat.reduceMul, Nat.reduceLT, ↓reduceIte, reduceCtorEq, Int.reduceLE, Int.reduceLT, Int.reduceEq, Int.reduceMul, Int.reduceAdd, Int.reduceSub, Int.reduceNeg, Int.reduceToNat, Int.reduceNe, g22, g29, g30]
    unfold hasB
    rw [Bool.eq_iff_iff]
    simp only [Bool.and_eq_true, decide_eq_true_eq]
    constructor
    · rintro ⟨⟨⟨⟨⟨h1, h2⟩, h3⟩, h4⟩, h5⟩, h6, h7⟩
      exact ⟨h1, h2, h3, h4, h5, h7⟩
    · rintro ⟨h1, h2, h3, h4, h5, h7⟩
      refine ⟨⟨⟨⟨⟨h1, h2⟩, h3⟩, h4⟩, h5⟩, ?_, h7⟩
      have := box_parts h1
      unfold arcB
      rw [decide_eq_true_eq]; omega
  · cases hg_
def g50 : Con := fun args_ E_ nn_ => match args_ with
  | [.a [.v (.int .i64 a_From), .v (.int .i64 a_Count)]] => some (.e (True) (.o (.c (.n (nn_ + 0)))) [((nn_ + 0), .own (arcL a_From a_Count).length 1 (rowF eI (arcL a_From a_Count)) 3)] (nn_ + 1))
  | _ => none
theorem c50 : COk Tryz.prog 50 g50 := by
  refine cok_e Tryz.func50 x50_ok (by kernel_rfl) (cok_tab (cok_cons c49 (cok_cons c55 cok_nil))) ?_
  intro args_ E_ nn_ cr_ hg_
  unfold g50 at hg_
  split at hg_
  · rename_i a_From a_Count
    cases hg_
    refine ⟨_, _, _, _, rfl, 0, [], [.a [.v (.int .i64 a_From), .v (.int .i64 a_Count)]], [], .o (.c (.n 0)), [(0, .own (arcL a_From a_Count).length 1 (rowF eI (arcL a_From a_Count)) 3)], 1, rfl, rfl, by simp only [renE, Ent.ren, rowF_renf] <;> rfl, rfl, by decide, by simp only [push_cast, Nat.reduceLT, Nat.reduceAdd], by simp only [push_cast, Nat.reduceLT, Nat.reduceAdd], by simp only [push_cast, Nat.reduceLT, Nat.reduceAdd], by simp only [push_cast, Nat.reduceLT, Nat.reduceAdd], rfl, trivial, by simp only [keysNodup, outN, keys] <;> decide, rfl, rfl, ?_⟩
    intro hpre hlen
    refine ⟨trivial, by simp only [apartE] <;> (first | trivial | (simp [Ent.mut]; done)), ?_⟩
    simp (config := {maxSteps := 10000000}) only [x50, push_cast, Nat.reduceAdd, Nat.reduceSub, Nat.reduceLeDiff, Nat.reduceEqDiff, Nat.reduceBEq, Nat.reduceMul, Nat.reduceLT, ↓reduceIte, reduceCtorEq, Int.reduceLE, Int.reduceLT, Int.reduceEq, Int.reduceMul, Int.reduceAdd, Int.reduceSub, Int.reduceNeg, Int.reduceToNat, Int.reduceNe, g49, g55]
    refine ⟨fun h => by unfold arcL; rw [if_neg (by rw [h]; simp)]; rfl, fun h => ?_⟩
    have hc := h
    unfold arcB at hc
    rw [decide_eq_true_eq] at hc
    refine ⟨by omega, ?_⟩
    refine vcLoop_upd (α := {k : Nat // k ≤ a_Count.toNat}) [1, 3, 12] 0 (fun s => [(13, .o (.c (.v (.int .i64 (s.1 : Nat)))))]) (fun s => [(1, .own (arcS a_From a_Count.toNat s.1).length 1 (rowF eI (arcS a_From a_Count.toNat s.1)) 3)]) (fun s => a_Count.toNat - s.1) ⟨0, Nat.zero_le _⟩ ?_ ?_
    · simp only [push_cast, Nat.reduceAdd, Nat.reduceSub, Nat.reduceLeDiff, Nat.reduceEqDiff, Nat.reduceBEq, Nat.reduceMul, Nat.reduceLT, ↓reduceIte, reduceCtorEq, Int.reduceLE, Int.reduceLT, Int.reduceEq, Int.reduceMul, Int.reduceAdd, Int.reduceSub, Int.reduceNeg, Int.reduceToNat, Int.reduceNe, g49, g55, arcS_len, arcS_zero]
      refine ⟨by simp, fun e' j he hj => ?_⟩
      rw [rowF_sub]
      exact replF_at eI eI.dflt rfl he
    · rintro ⟨k, hk⟩
      simp only [x50L0, push_cast, Nat.reduceAdd, Nat.reduceSub, Nat.reduceLeDiff, Nat.reduceEqDiff, Nat.reduceBEq, Nat.reduceMul, Nat.reduceLT, ↓reduceIte, reduceCtorEq, Int.reduceLE, Int.reduceLT, Int.reduceEq, Int.reduceMul, Int.reduceAdd, Int.reduceSub, Int.reduceNeg, Int.reduceToNat, Int.reduceNe, g49, g55, arcS_len]
      refine ⟨fun hlt => ⟨hlt, hlt, ⟨k + 1, by omega⟩, ⟨wrapI (by omega) (by omega), ?_⟩, by simp only; omega⟩, fun hge => ?_⟩
      · have hup := updF_row (E := eI) (L := arcS a_From a_Count.toNat k) (e0 := k) (j0 := 0) (x := (a_From + (k : Nat)) % 256) (cs := [SC.v (Value.int IntKind.i64 ((a_From + (k : Nat)) % 256))]) (by rw [arcS_len]; exact hlt) rfl (by simp [eI])
        rw [wrapI (n := a_From + (k : Int)) (by omega) (by omega), hup, arcS_succ hlt]
        exact (rowEq_rowF _ _ _ _).2 trivial
      · obtain rfl : k = a_Count.toNat := by omega
        rw [arcS_all h]
        exact ⟨(arcL_len h).symm, (rowEq_rowF _ _ _ _).2 trivial⟩
  · cases hg_
def g7 : Con := fun args_ E_ nn_ => match args_ with
  | [.c (.n l)] => (match rowOf E_ l with
    | some (l_n, l_s, l_f) => some (.q (isRow eB l_n l_s l_f ∧ True) (.o (.c (.v (.bool (setB (decL eB l_n l_f)))))))
    | none => none)
  | _ => none
theorem c7 : COk Tryz.prog 7 g7 := by
  refine cok_q Tryz.func7 x7_ok (by kernel_rfl) (cok_tab (cok_cons c17 cok_nil)) ?_
  intro args_ E_ nn_ cr_ hg_
  unfold g7 at hg_
  split at hg_
  · rename_i l
    split at hg_
    · rename_i l_n l_s l_f h_l
      cases hg_
      refine ⟨_, _, rfl, 1, [l], [.c (.n 0)], [(0, .ro (decL eB l_n l_f).length eB.sz (rowF eB (decL eB l_n l_f)))], .o (.c (.v (.bool (setB (decL eB l_n l_f))))), rfl, rfl, by simp only [push_cast, Nat.reduceLT, Nat.reduceAdd], by simp only [push_cast, Nat.reduceLT, Nat.reduceAdd], by simp only [push_cast, Nat.reduceLT, Nat.reduceAdd], rfl, ⟨inE0_row h_l, trivial⟩, rfl, ?_⟩
      intro hpre hlen
      obtain ⟨i_l, hpre⟩ := hpre
      refine ⟨⟨inE_row h_l i_l, trivial⟩, ?_⟩
      have z_l := lens_row (E := eB) hlen h_l
      clear i_l
      generalize decL eB l_n l_f = lL at *
      clear h_l
      simp (config := {maxSteps := 10000000}) only [x7, push_cast, Nat.reduceAdd, Nat.reduceSub, Nat.reduceLeDiff, Nat.reduceEqDiff, Nat.reduceBEq, Nat.reduceMul, Nat.reduceLT, ↓reduceIte, reduceCtorEq, Int.reduceLE, Int.reduceLT, Int.reduceEq, Int.reduceMul, Int.reduceAdd, Int.reduceSub, Int.reduceNeg, Int.reduceToNat, Int.reduceNe, g17]
      refine ⟨fun h => by unfold setB; rw [decide_eq_false (by omega)]; rfl, fun h => ?_⟩
      refine vcLoop_upd (α := {k : Nat // k ≤ lL.length ∧ ∀ i, i < k → (lL.getD i eB.dflt).ok = true}) [0] 0 (fun s => [(3, .o (.c (.v (.int .i64 (s.1 : Nat)))))]) (fun s => []) (fun s => lL.length - s.1) ⟨0, by omega, fun i hi => by omega⟩ ?_ ?_
      · simp only [push_cast, Nat.reduceAdd, Nat.reduceSub, Nat.reduceLeDiff, Nat.reduceEqDiff, Nat.reduceBEq, Nat.reduceMul, Nat.reduceLT, ↓reduceIte, reduceCtorEq, Int.reduceLE, Int.reduceLT, Int.reduceEq, Int.reduceMul, Int.reduceAdd, Int.reduceSub, Int.reduceNeg, Int.reduceToNat, Int.reduceNe, g17]
      rintro ⟨k, hk, hall⟩
      simp only [x7L0, push_cast, Nat.reduceAdd, Nat.reduceSub, Nat.reduceLeDiff, Nat.reduceEqDiff, Nat.reduceBEq, Nat.reduceMul, Nat.reduceLT, ↓reduceIte, reduceCtorEq, Int.reduceLE, Int.reduceLT, Int.reduceEq, Int.reduceMul, Int.reduceAdd, Int.reduceSub, Int.reduceNeg, Int.reduceToNat, Int.reduceNe, g17]
      have h8 : setB lL = lL.all BB.ok := by unfold setB; rw [decide_eq_true (by omega), Bool.true_and]
      rw [h8]
      refine ⟨fun hlt => ⟨hlt, hlt, fun g => ?_, fun g => ⟨⟨k + 1, by omega, fun i hi => by by_cases e : i = k; subst e; exact g; exact hall i (by omega)⟩, wrapI (by omega) (by omega), by simp only; omega⟩⟩, fun hge => ?_⟩
      · symm; rw [List.all_eq_false]; exact ⟨_, getB_in hlt, by unfold BB.ok; rw [g]; simp⟩
      · symm; rw [List.all_eq_true]
        intro c hc
        obtain ⟨j, hj, e⟩ := memB_at hc
        rw [← e]; exact hall j (by omega)
    · cases hg_
  · cases hg_
def BB.has (b : BB) (x y h : Int) : Bool := hasB b.X0 b.Y0 b.X1 b.Y1 b.F b.N x y h
def g19 : Con := fun args_ E_ nn_ => match args_ with
  | [.a [.v (.int .i64 b_X0), .v (.int .i64 b_Y0), .v (.int .i64 b_X1), .v (.int .i64 b_Y1), .v (.int .i64 b_From), .v (.int .i64 b_Count)], .c (.p q 0)] => (match E_ q with
    | some (.box [.v (.int .i64 q_X), .v (.int .i64 q_Y), .v (.int .i64 q_H)] q_ty) => some (.q (True) (.o (.c (.v (.bool (hasB b_X0 b_Y0 b_X1 b_Y1 b_From b_Count q_X q_Y q_H))))))
    | _ => none)
  | _ => none
theorem c19 : COk Tryz.prog 19 g19 := by
  refine cok_r Tryz.func19 x19_ok (by kernel_rfl) (cok_tab (cok_cons c11 cok_nil)) ?_
  intro args_ E_ nn_ cr_ hg_
  unfold g19 at hg_
  split at hg_
  · rename_i b_X0 b_Y0 b_X1 b_Y1 b_From b_Count q
    split at hg_
    · rename_i q_X q_Y q_H q_ty h_q
      cases hg_
      refine ⟨_, _, rfl, 1, [q], [.a [.v (.int .i64 b_X0), .v (.int .i64 b_Y0), .v (.int .i64 b_X1), .v (.int .i64 b_Y1), .v (.int .i64 b_From), .v (.int .i64 b_Count)], .c (.p 0 0)], [(0, .box [.v (.int .i64 q_X), .v (.int .i64 q_Y), .v (.int .i64 q_H)] q_ty)], .o (.c (.v (.bool (hasB b_X0 b_Y0 b_X1 b_Y1 b_From b_Count q_X q_Y q_H)))), rfl, rfl, by simp only [push_cast, Nat.reduceLT, Nat.reduceAdd], by simp only [push_cast, Nat.reduceLT, Nat.reduceAdd], by simp only [push_cast, Nat.reduceLT, Nat.reduceAdd], rfl, ⟨⟨_, h_q⟩, trivial⟩, rfl, ?_⟩
      intro hpre hlen
      have hap : apartE (sg 1 nn_ [q]) [(0, .box [.v (.int .i64 q_X), .v (.int .i64 q_Y), .v (.int .i64 q_H)] q_ty)] [(0, .box [.v (.int .i64 q_X), .v (.int .i64 q_Y), .v (.int .i64 q_H)] q_ty)] := by
        refine ⟨fun _ k2 e2 hm hne => ?_, ?_⟩
        · simp only [List.mem_cons, List.not_mem_nil, or_false, Prod.mk.injEq] at hm
          obtain ⟨rfl, _⟩ := hm
          exact absurd rfl hne
        trivial
      refine ⟨⟨⟨_, h_q, by simp only [leE, mapEq, SC.ren, and_true, true_and, and_self] <;> rfl⟩, trivial⟩, hap, ?_⟩
      simp (config := {maxSteps := 10000000}) only [x19, push_cast, Nat.reduceAdd, Nat.reduceSub, Nat.reduceLeDiff, Nat.reduceEqDiff, Nat.reduceBEq, Nat.reduceMul, Nat.reduceLT, ↓reduceIte, reduceCtorEq, Int.reduceLE, Int.reduceLT, Int.reduceEq, Int.reduceMul, Int.reduceAdd, Int.reduceSub, Int.reduceNeg, Int.reduceToNat, Int.reduceNe, g11]
    · cases hg_
  · cases hg_
def g46 : Con := fun args_ E_ nn_ => match args_ with
  | [.c (.n s), .c (.f 19 [.p q 0])] => (match rowOf E_ s with
    | some (s_n, s_s, s_f) => (match E_ q with
    | some (.box [.v (.int .i64 q_X), .v (.int .i64 q_Y), .v (.int .i64 q_H)] q_ty) => some (.q (isRow eB s_n s_s s_f ∧ True) (.o (.c (.v (.int .i64 (ixOf (fun b => b.has q_X q_Y q_H) (decL eB s_n s_f)))))))
    | _ => none)
    | none => none)
  | _ => none
theorem c46 : COk Tryz.prog 46 g46 := by
  refine cok_r Tryz.func46 x46_ok (by kernel_rfl) (cok_tab (cok_cons c19 cok_nil)) ?_
  intro args_ E_ nn_ cr_ hg_
  unfold g46 at hg_
  split at hg_
  · rename_i s q
    split at hg_
    · rename_i s_n s_s s_f h_s
      split at hg_
      · rename_i q_X q_Y q_H q_ty h_q
        cases hg_
        refine ⟨_, _, rfl, 2, [s, q], [.c (.n 0), .c (.f 19 [.p 1 0])], [(0, .ro (decL eB s_n s_f).length eB.sz (rowF eB (decL eB s_n s_f))), (1, .box [.v (.int .i64 q_X), .v (.int .i64 q_Y), .v (.int .i64 q_H)] q_ty)], .o (.c (.v (.int .i64 (ixOf (fun b => b.has q_X q_Y q_H) (decL eB s_n s_f))))), rfl, rfl, by simp only [push_cast, Nat.reduceLT, Nat.reduceAdd], by simp only [push_cast, Nat.reduceLT, Nat.reduceAdd], by simp only [push_cast, Nat.reduceLT, Nat.reduceAdd], rfl, ⟨inE0_row h_s, ⟨_, h_q⟩, trivial⟩, rfl, ?_⟩
        intro hpre hlen
        obtain ⟨i_s, hpre⟩ := hpre
        have hap : apartE (sg 2 nn_ [s, q]) [(0, .ro (decL eB s_n s_f).length eB.sz (rowF eB (decL eB s_n s_f))), (1, .box [.v (.int .i64 q_X), .v (.int .i64 q_Y), .v (.int .i64 q_H)] q_ty)] [(0, .ro (decL eB s_n s_f).length eB.sz (rowF eB (decL eB s_n s_f))), (1, .box [.v (.int .i64 q_X), .v (.int .i64 q_Y), .v (.int .i64 q_H)] q_ty)] := by
          refine ⟨fun h => by (cases h), ?_⟩
          refine ⟨fun _ k2 e2 hm hne => ?_, ?_⟩
          · simp only [List.mem_cons, List.not_mem_nil, or_false, Prod.mk.injEq] at hm
            rcases hm with ⟨rfl, _⟩ | ⟨rfl, _⟩
            · exact fun hh => by
                have hh2 : s = q := hh
                have hh3 := h_s
                rw [hh2] at hh3; unfold rowOf at hh3; rw [h_q] at hh3; cases hh3
            · exact absurd rfl hne
          trivial
        refine ⟨⟨inE_row h_s i_s, ⟨_, h_q, by simp only [leE, mapEq, SC.ren, and_true, true_and, and_self] <;> rfl⟩, trivial⟩, hap, ?_⟩
        have z_s := lens_row (E := eB) hlen h_s
        clear i_s
        generalize decL eB s_n s_f = sL at *
        clear h_s
        simp (config := {maxSteps := 10000000}) only [x46, push_cast, Nat.reduceAdd, Nat.reduceSub, Nat.reduceLeDiff, Nat.reduceEqDiff, Nat.reduceBEq, Nat.reduceMul, Nat.reduceLT, ↓reduceIte, reduceCtorEq, Int.reduceLE, Int.reduceLT, Int.reduceEq, Int.reduceMul, Int.reduceAdd, Int.reduceSub, Int.reduceNeg, Int.reduceToNat, Int.reduceNe, g19]
        refine vcLoop_upd (α := {k : Nat // k ≤ sL.length ∧ ∀ i, i < k → (sL.getD i eB.dflt).has q_X q_Y q_H = false}) [0, 1, 7] 0 (fun s => [(8, .o (.c (.v (.int .i64 (s.1 : Nat)))))]) (fun s => []) (fun s => sL.length - s.1) ⟨0, by omega, fun i hi => by omega⟩ ?_ ?_
        · simp only [push_cast, Nat.reduceAdd, Nat.reduceSub, Nat.reduceLeDiff, Nat.reduceEqDiff, Nat.reduceBEq, Nat.reduceMul, Nat.reduceLT, ↓reduceIte, reduceCtorEq, Int.reduceLE, Int.reduceLT, Int.reduceEq, Int.reduceMul, Int.reduceAdd, Int.reduceSub, Int.reduceNeg, Int.reduceToNat, Int.reduceNe, g19]
        rintro ⟨k, hk, hall⟩
        simp only [x46L0, push_cast, Nat.reduceAdd, Nat.reduceSub, Nat.reduceLeDiff, Nat.reduceEqDiff, Nat.reduceBEq, Nat.reduceMul, Nat.reduceLT, ↓reduceIte, reduceCtorEq, Int.reduceLE, Int.reduceLT, Int.reduceEq, Int.reduceMul, Int.reduceAdd, Int.reduceSub, Int.reduceNeg, Int.reduceToNat, Int.reduceNe, g19]
        refine ⟨fun hlt => ⟨hlt, hlt, fun hw => (ixOf_some (p := fun b => b.has q_X q_Y q_H) (d := eB.dflt) hlt hall hw).symm, fun hw => ⟨⟨k + 1, by omega, fun i hi => by
              by_cases h : i = k
              · subst h; exact hw
              · exact hall i (by omega)⟩, wrapI (by omega) (by omega), by simp only; omega⟩⟩, fun hn => ?_⟩
        exact (ixOf_none (p := fun b => b.has q_X q_Y q_H) (d := eB.dflt) (fun i hi => hall i (by omega))).symm
      · cases hg_
    · cases hg_
  · cases hg_
def g18 : Con := fun args_ E_ nn_ => match args_ with
  | [.c (.n s), .c (.f 19 [.p q 0])] => (match rowOf E_ s with
    | some (s_n, s_s, s_f) => (match E_ q with
    | some (.box [.v (.int .i64 q_X), .v (.int .i64 q_Y), .v (.int .i64 q_H)] q_ty) => some (.q (isRow eB s_n s_s s_f ∧ True) (.o (.c (.v (.bool (((decL eB s_n s_f)).any (fun b => b.has q_X q_Y q_H)))))))
    | _ => none)
    | none => none)
  | _ => none
theorem c18 : COk Tryz.prog 18 g18 := by
  refine cok_r Tryz.func18 x18_ok (by kernel_rfl) (cok_tab (cok_cons c46 cok_nil)) ?_
  intro args_ E_ nn_ cr_ hg_
  unfold g18 at hg_
  split at hg_
  · rename_i s q
    split at hg_
    · rename_i s_n s_s s_f h_s
      split at hg_
      · rename_i q_X q_Y q_H q_ty h_q
        cases hg_
        refine ⟨_, _, rfl, 2, [s, q], [.c (.n 0), .c (.f 19 [.p 1 0])], [(0, .ro (decL eB s_n s_f).length eB.sz (rowF eB (decL eB s_n s_f))), (1, .box [.v (.int .i64 q_X), .v (.int .i64 q_Y), .v (.int .i64 q_H)] q_ty)], .o (.c (.v (.bool (((decL eB s_n s_f)).any (fun b => b.has q_X q_Y q_H))))), rfl, rfl, by simp only [push_cast, Nat.reduceLT, Nat.reduceAdd], by simp only [push_cast, Nat.reduceLT, Nat.reduceAdd], by simp only [push_cast, Nat.reduceLT, Nat.reduceAdd], rfl, ⟨inE0_row h_s, ⟨_, h_q⟩, trivial⟩, rfl, ?_⟩
        intro hpre hlen
        obtain ⟨i_s, hpre⟩ := hpre
        have hap : apartE (sg 2 nn_ [s, q]) [(0, .ro (decL eB s_n s_f).length eB.sz (rowF eB (decL eB s_n s_f))), (1, .box [.v (.int .i64 q_X), .v (.int .i64 q_Y), .v (.int .i64 q_H)] q_ty)] [(0, .ro (decL eB s_n s_f).length eB.sz (rowF eB (decL eB s_n s_f))), (1, .box [.v (.int .i64 q_X), .v (.int .i64 q_Y), .v (.int .i64 q_H)] q_ty)] := by
          refine ⟨fun h => by (cases h), ?_⟩
          refine ⟨fun _ k2 e2 hm hne => ?_, ?_⟩
          · simp only [List.mem_cons, List.not_mem_nil, or_false, Prod.mk.injEq] at hm
            rcases hm with ⟨rfl, _⟩ | ⟨rfl, _⟩
            · exact fun hh => by
                have hh2 : s = q := hh
                have hh3 := h_s
                rw [hh2] at hh3; unfold rowOf at hh3; rw [h_q] at hh3; cases hh3
            · exact absurd rfl hne
          trivial
        refine ⟨⟨inE_row h_s i_s, ⟨_, h_q, by simp only [leE, mapEq, SC.ren, and_true, true_and, and_self] <;> rfl⟩, trivial⟩, hap, ?_⟩
        have z_s := lens_row (E := eB) hlen h_s
        clear i_s
        generalize decL eB s_n s_f = sL at *
        clear h_s
        simp (config := {maxSteps := 10000000}) only [x18, push_cast, Nat.reduceAdd, Nat.reduceSub, Nat.reduceLeDiff, Nat.reduceEqDiff, Nat.reduceBEq, Nat.reduceMul, Nat.reduceLT, ↓reduceIte, reduceCtorEq, Int.reduceLE, Int.reduceLT, Int.reduceEq, Int.reduceMul, Int.reduceAdd, Int.reduceSub, Int.reduceNeg, Int.reduceToNat, Int.reduceNe, g46]
        exact ixOf_any (fun b => b.has q_X q_Y q_H) sL
      · cases hg_
    · cases hg_
  · cases hg_
def g8 : Con := fun args_ E_ nn_ => match args_ with
  | [.c (.n l), .a [.v (.int .i64 p_X), .v (.int .i64 p_Y), .v (.int .i64 p_H)]] => (match rowOf E_ l with
    | some (l_n, l_s, l_f) => some (.q (isRow eB l_n l_s l_f ∧ True) (.o (.c (.v (.bool (((decL eB l_n l_f)).any (fun b => b.has p_X p_Y p_H)))))))
    | none => none)
  | _ => none
theorem c8 : COk Tryz.prog 8 g8 := by
  refine cok_q Tryz.func8 x8_ok (by kernel_rfl) (cok_tab (cok_cons c18 cok_nil)) ?_
  intro args_ E_ nn_ cr_ hg_
  unfold g8 at hg_
  split at hg_
  · rename_i l p_X p_Y p_H
    split at hg_
    · rename_i l_n l_s l_f h_l
      cases hg_
      refine ⟨_, _, rfl, 1, [l], [.c (.n 0), .a [.v (.int .i64 p_X), .v (.int .i64 p_Y), .v (.int .i64 p_H)]], [(0, .ro (decL eB l_n l_f).length eB.sz (rowF eB (decL eB l_n l_f)))], .o (.c (.v (.bool (((decL eB l_n l_f)).any (fun b => b.has p_X p_Y p_H))))), rfl, rfl, by simp only [push_cast, Nat.reduceLT, Nat.reduceAdd], by simp only [push_cast, Nat.reduceLT, Nat.reduceAdd], by simp only [push_cast, Nat.reduceLT, Nat.reduceAdd], rfl, ⟨inE0_row h_l, trivial⟩, rfl, ?_⟩
      intro hpre hlen
      obtain ⟨i_l, hpre⟩ := hpre
      refine ⟨⟨inE_row h_l i_l, trivial⟩, ?_⟩
      have z_l := lens_row (E := eB) hlen h_l
      clear i_l
      generalize decL eB l_n l_f = lL at *
      clear h_l
      simp (config := {maxSteps := 10000000}) only [x8, push_cast, Nat.reduceAdd, Nat.reduceSub, Nat.reduceLeDiff, Nat.reduceEqDiff, Nat.reduceBEq, Nat.reduceMul, Nat.reduceLT, ↓reduceIte, reduceCtorEq, Int.reduceLE, Int.reduceLT, Int.reduceEq, Int.reduceMul, Int.reduceAdd, Int.reduceSub, Int.reduceNeg, Int.reduceToNat, Int.reduceNe, g18]
    · cases hg_
  · cases hg_
end Go.Proofs.YthmobbecockeoaaGreat
namespace Go.Proofs.YthmobbecockeoaaGreat
open Go.Sx Go.Way
def arcN (f n : Int) : Int × Int := if 256 ≤ n then (0, 256) else (f % 256, n)
def trnA (F N T b : Int) : Int × Int := arcN ((arcN (F + T % 256) N).1 - b) ((arcN (F + T % 256) N).2 + 2 * b)
theorem arcN_ok {f n : Int} (h : 1 ≤ n) : arcB (arcN f n).1 (arcN f n).2 = true ∧ ∀ x, (x - f) % 256 < n → (x - (arcN f n).1) % 256 < (arcN f n).2 := by
  unfold arcN arcB
  split
  · exact ⟨by decide, fun x hx => by simp only; omega⟩
  · exact ⟨by rw [decide_eq_true_eq]; simp only; omega, fun x hx => by simp only; omega⟩
theorem arcN_n {f n : Int} (h : 1 ≤ n ∧ n ≤ 256) : (arcN f n).2 = n := by
  unfold arcN; split
  · simp only; omega
  · rfl
theorem trnA_ok {F N T b : Int} (h : arcB F N = true) (hb : 0 ≤ b ∧ b ≤ 8) : arcB (trnA F N T b).1 (trnA F N T b).2 = true ∧
    ∀ H t, (H - F) % 256 < N → -b ≤ t → t ≤ b → (H + T + t - (trnA F N T b).1) % 256 < (trnA F N T b).2 := by
  unfold arcB at h
  rw [decide_eq_true_eq] at h
  have s1 := arcN_ok (f := F + T % 256) (n := N) (by omega)
  have s2 := arcN_n (f := F + T % 256) (n := N) (by omega)
  have g1 := arcN_ok (f := (arcN (F + T % 256) N).1 - b) (n := (arcN (F + T % 256) N).2 + 2 * b) (by omega)
  refine ⟨g1.1, fun H t h1 h2 h3 => g1.2 _ ?_⟩
  have k := s1.2 (H + T) (by omega)
  generalize arcN (F + T % 256) N = a at *
  obtain ⟨f, n⟩ := a
  simp only at *
  omega
def rcK (T F bT bL bS bR : Int) (M : List Int) : Nat → Int × Int × Int × Int
  | 0 => (0, 0, 0, 0)
  | k + 1 => let r := reachS T F bT bL bS bR (M.getD k eI.dflt)
    if k = 0 then (r.1, r.2.1, r.2.2.1, r.2.2.2.1) else (min (rcK T F bT bL bS bR M k).1 r.1, min (rcK T F bT bL bS bR M k).2.1 r.2.1, max (rcK T F bT bL bS bR M k).2.2.1 r.2.2.1, max (rcK T F bT bL bS bR M k).2.2.2 r.2.2.2.1)
def rcL (T F bT bL bS bR : Int) (M : List Int) : Int × Int × Int × Int := rcK T F bT bL bS bR M M.length
def rIn (r : Int × Int × Int × Int × Int) (R : Int × Int × Int × Int) : Prop := R.1 ≤ r.1 ∧ R.2.1 ≤ r.2.1 ∧ r.2.2.1 ≤ R.2.2.1 ∧ r.2.2.2.1 ≤ R.2.2.2
def rBd (R : Int × Int × Int × Int) : Prop := (-1000008 ≤ R.1 ∧ R.1 ≤ R.2.2.1 ∧ R.2.2.1 ≤ 1000008) ∧ -1000008 ≤ R.2.1 ∧ R.2.1 ≤ R.2.2.2 ∧ R.2.2.2 ≤ 1000008
section
variable {T F bT bL bS bR : Int} {M : List Int}
theorem reach_bd (hb : vBd bT bL bS bR) (hc : vCm T F) {h : Int} (hh : 0 ≤ h ∧ h ≤ 255) : rBd ((reachS T F bT bL bS bR h).1, (reachS T F bT bL bS bR h).2.1, (reachS T F bT bL bS bR h).2.2.1, (reachS T F bT bL bS bR h).2.2.2.1) ∧ (reachS T F bT bL bS bR h).2.2.2.2 = 0 := by
  unfold vBd at hb
  unfold vCm at hc
  by_cases h3 : F = 0
  · rw [reachS_zero (by omega) hh h3]
    unfold rBd; simp
  · rw [reachS_go (by omega) hh h3]
    have m1 := mv_bd h (F - bL) (by omega)
    have m2 := mv_bd h (F + bL) (by omega)
    refine ⟨?_, rfl⟩
    unfold rBd
    simp only
    omega
theorem rcK_ok (hb : vBd bT bL bS bR) (hc : vCm T F) : ∀ k, k ≤ M.length → (∀ i, i < k → 0 ≤ M.getD i eI.dflt ∧ M.getD i eI.dflt ≤ 255) → rBd (rcK T F bT bL bS bR M k) ∧ ∀ i, i < k → rIn (reachS T F bT bL bS bR (M.getD i eI.dflt)) (rcK T F bT bL bS bR M k)
  | 0, _, _ => ⟨by simp only [rcK]; unfold rBd; simp, fun i hi => by omega⟩
  | k + 1, hk, hm => by
    have h1 := rcK_ok hb hc k (by omega) (fun i hi => hm i (by omega))
    have h2 := (reach_bd hb hc (hm k (by omega))).1
    simp only [rcK]
    generalize hR : reachS T F bT bL bS bR (M.getD k eI.dflt) = R at *
    generalize rcK T F bT bL bS bR M k = Q at *
    split
    · rename_i h0
      subst h0
      refine ⟨h2, fun i hi => ?_⟩
      obtain rfl : i = 0 := by omega
      rw [hR]; unfold rIn; simp
    · refine ⟨?_, fun i hi => ?_⟩
      · have := h1.1
        unfold rBd at *
        simp only at *
        omega
      · rcases Nat.lt_succ_iff_lt_or_eq.1 hi with q | q
        · have := h1.2 i q
          unfold rIn at *
          simp only
          omega
        · subst q; rw [hR]; unfold rIn; simp only; omega
end
theorem within_reach {bT bL bS bR fX fY fH T F tX tY tH : Int} {bump : Bool} (h : withinS bT bL bS bR fX fY fH T F tX tY tH bump = true) : (vBd bT bL bS bR ∧ vPs fX fY fH ∧ vCm T F ∧ vPs tX tY tH) ∧
    (∃ t, -bT ≤ t ∧ t ≤ bT ∧ (fH + T + t) % 256 = tH) ∧ (bump = true → tX = fX ∧ tY = fY) ∧
    (bump = false → (reachS T F bT bL bS bR tH).1 ≤ tX - fX ∧ tX - fX ≤ (reachS T F bT bL bS bR tH).2.2.1 ∧ (reachS T F bT bL bS bR tH).2.1 ≤ tY - fY ∧ tY - fY ≤ (reachS T F bT bL bS bR tH).2.2.2.1) := by
  have hp : WithinP bT bL bS bR fX fY fH T F tX tY tH bump := by unfold withinS at h; exact @of_decide_eq_true _ (Classical.propDecidable _) h
  obtain ⟨h1, h2, h3, h4, h5, h6⟩ := hp
  refine ⟨⟨h1, h2, h3, h4⟩, h5, fun hb => ?_, fun hb => ?_⟩
  · rw [if_pos (.inl hb)] at h6; omega
  · unfold vBd at h1; unfold vCm at h3; unfold vPs at h4
    by_cases hF : F = 0
    · rw [if_pos (.inr hF)] at h6
      rw [reachS_zero (by omega) (by omega) hF]
      simp only; omega
    · rw [if_neg (by rintro (q | q); · rw [hb] at q; cases q
                     · exact hF q)] at h6
      obtain ⟨e, e1, e2, e3⟩ := h6
      unfold fitE at e3
      have m1 := mvx_mono tH (show F - bL ≤ F + e by omega) (show F + e ≤ F + bL by omega)
      have m2 := mvy_mono tH (show F - bL ≤ F + e by omega) (show F + e ≤ F + bL by omega)
      rw [reachS_go (by omega) (by omega) hF]
      simp only
      omega
theorem wide_of {n : Int} (h : -1048576 ≤ n ∧ n ≤ 1048576) : wideB n = false := by
  unfold wideB; rw [decide_eq_false (by omega), decide_eq_false (by omega)]; rfl
def movE (b : BB) (r0 r1 r2 r3 : Int) : Int :=
  if boxB b.X0 b.Y0 b.X1 b.Y1 b.F b.N = false ∨ r1 < r0 ∨ r3 < r2 then 1
  else if (-2097152 ≤ r0 ∧ r0 ≤ 2097152) ∧ (-2097152 ≤ r1 ∧ r1 ≤ 2097152) ∧ (-2097152 ≤ r2 ∧ r2 ≤ 2097152) ∧ -2097152 ≤ r3 ∧ r3 ≤ 2097152 then
    (if wideB (b.X0 + r0) = false ∧ wideB (b.X1 + r1) = false ∧ wideB (b.Y0 + r2) = false ∧ wideB (b.Y1 + r3) = false then 0 else 2)
  else 2
def movV (b : BB) (r0 r1 r2 r3 : Int) : BB := if movE b r0 r1 r2 r3 = 0 then ⟨b.X0 + r0, b.Y0 + r2, b.X1 + r1, b.Y1 + r3, b.F, b.N⟩ else ⟨0, 0, 0, 0, 0, 0⟩
def valB (b : BB) : Bool := boxB b.X0 b.Y0 b.X1 b.Y1 b.F b.N
def hasP (b : BB) (x y h : Int) : Bool := hasB b.X0 b.Y0 b.X1 b.Y1 b.F b.N x y h
def withA (b : BB) (a : Int × Int) : BB := ⟨b.X0, b.Y0, b.X1, b.Y1, a.1, a.2⟩
def imgR (b : BB) (T F bT bL bS bR : Int) : Int × Int × Int × Int := rcL T F bT bL bS bR (arcL (trnA b.F b.N T bT).1 (trnA b.F b.N T bT).2)
def imgE (b : BB) (T F bT bL bS bR : Int) : Int := movE (withA b (trnA b.F b.N T bT)) (imgR b T F bT bL bS bR).1 (imgR b T F bT bL bS bR).2.2.1 (imgR b T F bT bL bS bR).2.1 (imgR b T F bT bL bS bR).2.2.2
def imgV (b : BB) (T F bT bL bS bR : Int) : BB := movV (withA b (trnA b.F b.N T bT)) (imgR b T F bT bL bS bR).1 (imgR b T F bT bL bS bR).2.2.1 (imgR b T F bT bL bS bR).2.1 (imgR b T F bT bL bS bR).2.2.2
def rewR (b : BB) (T F bT bL bS bR : Int) : Int × Int × Int × Int := rcL T F bT bL bS bR (arcL b.F b.N)
def rewE (b : BB) (T F bT bL bS bR : Int) : Int := movE (withA b (trnA b.F b.N (-T) bT)) (-(rewR b T F bT bL bS bR).2.2.1) (-(rewR b T F bT bL bS bR).1) (-(rewR b T F bT bL bS bR).2.2.2) (-(rewR b T F bT bL bS bR).2.1)
def rewV (b : BB) (T F bT bL bS bR : Int) : BB := movV (withA b (trnA b.F b.N (-T) bT)) (-(rewR b T F bT bL bS bR).2.2.1) (-(rewR b T F bT bL bS bR).1) (-(rewR b T F bT bL bS bR).2.2.2) (-(rewR b T F bT bL bS bR).2.1)
theorem mov_ok {b : BB} {r0 r1 r2 r3 : Int} (hv : valB b = true) (h : movE b r0 r1 r2 r3 = 0) : movV b r0 r1 r2 r3 = ⟨b.X0 + r0, b.Y0 + r2, b.X1 + r1, b.Y1 + r3, b.F, b.N⟩ ∧ valB (movV b r0 r1 r2 r3) = true := by
  have e : movV b r0 r1 r2 r3 = ⟨b.X0 + r0, b.Y0 + r2, b.X1 + r1, b.Y1 + r3, b.F, b.N⟩ := if_pos h
  refine ⟨e, ?_⟩
  rw [e]
  have hp := box_parts hv
  unfold movE at h
  split at h
  · cases h
  · rename_i h1
    split at h
    · split at h
      · rename_i h2
        unfold wideB at h2
        simp only [Bool.or_eq_false_iff, decide_eq_false_iff_not] at h2
        exact box_of (by simp only; omega)
      · cases h
    · cases h
theorem mov_12 {b : BB} {r0 r1 r2 r3 : Int} (hv : valB b = true) (h1 : r0 ≤ r1) (h2 : r2 ≤ r3) : movE b r0 r1 r2 r3 = 0 ∨ movE b r0 r1 r2 r3 = 2 := by
  unfold movE
  rw [if_neg (by rintro (q | q | q); · rw [show boxB b.X0 b.Y0 b.X1 b.Y1 b.F b.N = true from hv] at q; cases q
                 · omega
                 · omega)]
  split
  · split
    · exact .inl rfl
    · exact .inr rfl
  · exact .inr rfl
theorem arcL_bd {F N : Int} (i : Nat) (hi : i < (arcL F N).length) : 0 ≤ (arcL F N).getD i eI.dflt ∧ (arcL F N).getD i eI.dflt ≤ 255 := by
  by_cases h : arcB F N = true
  · rw [arcL_len h] at hi
    rw [arcL_at h hi]; omega
  · unfold arcL at hi; rw [if_neg h] at hi; exact absurd hi (by simp)
theorem arcL_has {F N H : Int} (h : arcB F N = true) (hH : 0 ≤ H ∧ H ≤ 255) (hi : (H - F) % 256 < N) : ∃ i, i < (arcL F N).length ∧ (arcL F N).getD i eI.dflt = H := by
  have hb := h
  unfold arcB at hb
  rw [decide_eq_true_eq] at hb
  refine ⟨((H - F) % 256).toNat, by rw [arcL_len h]; omega, ?_⟩
  rw [arcL_at h (by omega)]
  omega
theorem rcL_ok {T F bT bL bS bR f n : Int} (hb : vBd bT bL bS bR) (hc : vCm T F) : rBd (rcL T F bT bL bS bR (arcL f n)) ∧ ∀ H, arcB f n = true → (0 ≤ H ∧ H ≤ 255) → (H - f) % 256 < n → rIn (reachS T F bT bL bS bR H) (rcL T F bT bL bS bR (arcL f n)) := by
  have k := rcK_ok (M := arcL f n) hb hc _ (Nat.le_refl _) (fun i hi => arcL_bd i hi)
  refine ⟨k.1, fun H h1 h2 h3 => ?_⟩
  obtain ⟨i, hi, e⟩ := arcL_has h1 h2 h3
  have := k.2 i hi
  rwa [e] at this
section
variable {T F bT bL bS bR fX fY fH tX tY tH : Int} {b : BB} {bump : Bool}
theorem withA_val (hv : valB b = true) (ht : 0 ≤ bT ∧ bT ≤ 8) : valB (withA b (trnA b.F b.N T bT)) = true := by
  have hp := box_parts hv
  have ha : arcB b.F b.N = true := by unfold arcB; rw [decide_eq_true_eq]; omega
  have hk := (trnA_ok (T := T) ha ht).1
  unfold arcB at hk
  rw [decide_eq_true_eq] at hk
  exact box_of (by simp only [withA]; omega)
theorem has_parts {b : BB} {x y h : Int} (k : hasP b x y h = true) : valB b = true ∧ b.X0 ≤ x ∧ x ≤ b.X1 ∧ b.Y0 ≤ y ∧ y ≤ b.Y1 ∧ (h - b.F) % 256 < b.N := by
  unfold hasP hasB at k
  simp only [Bool.and_eq_true, decide_eq_true_eq] at k
  exact k
theorem img_has (hh : hasP b fX fY fH = true) (hw : withinS bT bL bS bR fX fY fH T F tX tY tH bump = true) (he : imgE b T (if bump = true then 0 else F) bT bL bS bR = 0) : hasP (imgV b T (if bump = true then 0 else F) bT bL bS bR) tX tY tH = true := by
  obtain ⟨⟨w1, w2, w3, w4⟩, ⟨t, t1, t2, t3⟩, w5, w6⟩ := within_reach hw
  obtain ⟨hv, h1, h2, h3, h4, h5⟩ := has_parts hh
  have hb8 : 0 ≤ bT ∧ bT ≤ 8 := by unfold vBd at w1; omega
  have hp := box_parts hv
  have ha : arcB b.F b.N = true := by unfold arcB; rw [decide_eq_true_eq]; omega
  have hk := trnA_ok (T := T) ha hb8
  have hq := hk.2 fH t h5 t1 t2
  have hH : 0 ≤ tH ∧ tH ≤ 255 := by unfold vPs at w4; omega
  have hq2 : (tH - (trnA b.F b.N T bT).1) % 256 < (trnA b.F b.N T bT).2 := by
    have e : (tH - (trnA b.F b.N T bT).1) % 256 = (fH + T + t - (trnA b.F b.N T bT).1) % 256 := by omega
    rw [e]; exact hq
  have hc' : vCm T (if bump = true then 0 else F) := by unfold vCm at *; split <;> omega
  have hr := (rcL_ok (F := if bump = true then 0 else F) (f := (trnA b.F b.N T bT).1) (n := (trnA b.F b.N T bT).2) w1 hc').2 tH hk.1 hH hq2
  have hm := mov_ok (withA_val (T := T) hv hb8) he
  have e : imgV b T (if bump = true then 0 else F) bT bL bS bR = _ := hm.1
  have hv2 : valB (imgV b T (if bump = true then 0 else F) bT bL bS bR) = true := hm.2
  unfold hasP hasB
  rw [Bool.and_eq_true]
  refine ⟨hv2, ?_⟩
  rw [e, decide_eq_true_eq]
  simp only [withA]
  have hr2 : rIn (reachS T (if bump = true then 0 else F) bT bL bS bR tH) (imgR b T (if bump = true then 0 else F) bT bL bS bR) := hr
  unfold rIn at hr2
  cases hbm : bump
  · rw [hbm] at hr2 w6
    have := w6 rfl
    simp only [Bool.false_eq_true, if_false] at *
    omega
  · rw [hbm] at hr2
    have := w5 hbm
    simp only [if_true] at *
    unfold vCm at w3; unfold vBd at w1
    rw [reachS_zero (by omega) hH rfl] at hr2
    simp only at hr2
    omega
theorem img_val (hv : valB b = true) (hb8 : 0 ≤ bT ∧ bT ≤ 8) (he : imgE b T F bT bL bS bR = 0) : valB (imgV b T F bT bL bS bR) = true := (mov_ok (withA_val (T := T) hv hb8) he).2
theorem img_02 (hv : valB b = true) (hb : vBd bT bL bS bR) (hc : vCm T F) : imgE b T F bT bL bS bR = 0 ∨ imgE b T F bT bL bS bR = 2 := by
  have k := (rcL_ok (f := (trnA b.F b.N T bT).1) (n := (trnA b.F b.N T bT).2) hb hc).1
  unfold rBd at k
  exact mov_12 (withA_val (T := T) hv (by unfold vBd at hb; omega)) k.1.2.1 k.2.2.1
theorem rew_ok (hw : withinS bT bL bS bR fX fY fH T F tX tY tH bump = true) (hx : (-40000 ≤ tX ∧ tX ≤ 40000) ∧ -40000 ≤ tY ∧ tY ≤ 40000) : rewE ⟨tX, tY, tX, tY, tH, 1⟩ T F bT bL bS bR = 0 ∧
    (bump = false → hasP (rewV ⟨tX, tY, tX, tY, tH, 1⟩ T F bT bL bS bR) fX fY fH = true) := by
  obtain ⟨⟨w1, w2, w3, w4⟩, ⟨t, t1, t2, t3⟩, w5, w6⟩ := within_reach hw
  have hb8 : 0 ≤ bT ∧ bT ≤ 8 := by unfold vBd at w1; omega
  have hH : 0 ≤ tH ∧ tH ≤ 255 := by unfold vPs at w4; omega
  have hF : 0 ≤ fH ∧ fH ≤ 255 := by unfold vPs at w2; omega
  have ha : arcB tH 1 = true := by unfold arcB; rw [decide_eq_true_eq]; omega
  have hv : valB ⟨tX, tY, tX, tY, tH, 1⟩ = true := box_of (by simp only; omega)
  have hk := trnA_ok (T := -T) ha hb8
  have hr := rcL_ok (f := tH) (n := 1) w1 w3
  have hrb : rBd (rewR ⟨tX, tY, tX, tY, tH, 1⟩ T F bT bL bS bR) := hr.1
  have hri : rIn (reachS T F bT bL bS bR tH) (rewR ⟨tX, tY, tX, tY, tH, 1⟩ T F bT bL bS bR) := hr.2 tH ha hH (by omega)
  have hval := withA_val (T := -T) hv hb8
  have he : rewE ⟨tX, tY, tX, tY, tH, 1⟩ T F bT bL bS bR = 0 := by
    unfold rewE
    generalize rewR ⟨tX, tY, tX, tY, tH, 1⟩ T F bT bL bS bR = R at *
    unfold rBd at hrb
    unfold movE
    rw [if_neg (by rintro (q | q | q); · rw [show boxB _ _ _ _ _ _ = true from hval] at q; cases q
                   · omega
                   · omega), if_pos (by omega), if_pos]
    exact ⟨wide_of (by simp only [withA]; omega), wide_of (by simp only [withA]; omega), wide_of (by simp only [withA]; omega), wide_of (by simp only [withA]; omega)⟩
  refine ⟨he, fun hbm => ?_⟩
  have hm := mov_ok hval he
  have e : rewV ⟨tX, tY, tX, tY, tH, 1⟩ T F bT bL bS bR = _ := hm.1
  have hv2 : valB (rewV ⟨tX, tY, tX, tY, tH, 1⟩ T F bT bL bS bR) = true := hm.2
  unfold hasP hasB
  rw [Bool.and_eq_true]
  refine ⟨hv2, ?_⟩
  rw [e, decide_eq_true_eq]
  have hq := hk.2 tH (-t) (by omega) (by omega) (by omega)
  have e2 : (fH - (trnA tH 1 (-T) bT).1) % 256 = (tH + -T + -t - (trnA tH 1 (-T) bT).1) % 256 := by omega
  have := w6 hbm
  unfold rIn at hri
  simp only [withA]
  rw [e2]
  refine ⟨by omega, by omega, by omega, by omega, hq⟩
end
def imgsE (L : List BB) (T F bT bL bS bR : Int) : Int := if L.all (fun b => decide (imgE b T F bT bL bS bR = 0)) = true then 0 else 2
def imgsV (L : List BB) (T F bT bL bS bR : Int) : List BB := if imgsE L T F bT bL bS bR = 0 then L.map (fun b => imgV b T F bT bL bS bR) else []
def goodL (L : List BB) : Prop := ∀ b ∈ L, valB b = true
theorem imgs_all {L : List BB} {T F bT bL bS bR : Int} (h : imgsE L T F bT bL bS bR = 0) : ∀ b ∈ L, imgE b T F bT bL bS bR = 0 := by
  unfold imgsE at h
  split at h
  · rename_i h2
    rw [List.all_eq_true] at h2
    exact fun b hb => by simpa using h2 b hb
  · cases h
theorem imgs_len {L : List BB} {T F bT bL bS bR : Int} (h : imgsE L T F bT bL bS bR = 0) : (imgsV L T F bT bL bS bR).length = L.length := by
  unfold imgsV; rw [if_pos h]; simp
theorem imgs_good {L : List BB} {T F bT bL bS bR : Int} (hg : goodL L) (hb : 0 ≤ bT ∧ bT ≤ 8) (h : imgsE L T F bT bL bS bR = 0) : goodL (imgsV L T F bT bL bS bR) := by
  unfold imgsV; rw [if_pos h]
  intro b hbm
  obtain ⟨c, hc, rfl⟩ := List.mem_map.1 hbm
  exact img_val (hg c hc) hb (imgs_all h c hc)
theorem imgs_has {L : List BB} {T F bT bL bS bR fX fY fH tX tY tH : Int} {bump : Bool} (hh : L.any (fun b => hasP b fX fY fH) = true) (hw : withinS bT bL bS bR fX fY fH T F tX tY tH bump = true) (h : imgsE L T (if bump = true then 0 else F) bT bL bS bR = 0) :
    (imgsV L T (if bump = true then 0 else F) bT bL bS bR).any (fun b => hasP b tX tY tH) = true := by
  unfold imgsV; rw [if_pos h]
  rw [List.any_eq_true] at *
  obtain ⟨b, hb, h1⟩ := hh
  exact ⟨_, List.mem_map.2 ⟨b, hb, rfl⟩, img_has h1 hw (imgs_all h b hb)⟩
theorem tick_within {r : RobS} {a : ActL} (h : okS r) (ha : actOk a = true) : withinS r.bT r.bL r.bS r.bR r.x r.y r.h a.turn a.fwd (doR r a).x (doR r a).y (doR r a).h (doV r a).bump = true ∧ (doV r a).turn = a.turn ∧ (doV r a).fwd = a.fwd := by
  obtain ⟨nx, ny, nh, h1, h2, h3, h4, h5⟩ := tick_law h ha
  rw [doR_t ha, doV_t ha]
  refine ⟨?_, rfl, rfl⟩
  rcases h5 with ⟨e, _, _⟩ | ⟨e, _, _⟩
  · simp only [e]; exact h3
  · simp only [e]; exact h2
theorem ok_near {r : RobS} (h : okS r) : (-40000 ≤ r.x ∧ r.x ≤ 40000) ∧ -40000 ≤ r.y ∧ r.y ≤ 40000 := by
  have := fit_bd h.1; omega
theorem ok_bd {r : RobS} (h : okS r) : vBd r.bT r.bL r.bS r.bR ∧ vPs r.x r.y r.h := by
  have hb := fit_bd h.1
  obtain ⟨_, h2, h3⟩ := h
  unfold vBd vPs; omega
def farM (n : Int) : Bool := decide (n < -2097152) || decide (2097152 < n)
section
variable {b : BB} {r0 r1 r2 r3 : Int}
theorem mov_z (h : movE b r0 r1 r2 r3 ≠ 0) : movV b r0 r1 r2 r3 = ⟨0, 0, 0, 0, 0, 0⟩ := if_neg h
theorem mov_1 (h : (boxB b.X0 b.Y0 b.X1 b.Y1 b.F b.N = false ∨ r1 < r0) ∨ r3 < r2) : movE b r0 r1 r2 r3 = 1 := by
  unfold movE; rw [if_pos (or_assoc.1 h)]
theorem far_iff {n : Int} : farM n = true ↔ ¬ (-2097152 ≤ n ∧ n ≤ 2097152) := by
  unfold farM; simp only [Bool.or_eq_true, decide_eq_true_eq]; omega
theorem mov_2 (h1 : boxB b.X0 b.Y0 b.X1 b.Y1 b.F b.N = true) (h2 : ¬ r1 < r0) (h3 : ¬ r3 < r2) (h : [r0, r1, r2, r3].any farM = true) : movE b r0 r1 r2 r3 = 2 := by
  unfold movE
  rw [if_neg (by rw [h1]; simp only [reduceCtorEq, false_or]; omega), if_neg]
  rw [any4] at h
  simp only [Bool.or_eq_true, far_iff] at h
  omega
theorem mov_3 (h1 : boxB b.X0 b.Y0 b.X1 b.Y1 b.F b.N = true) (h2 : ¬ r1 < r0) (h3 : ¬ r3 < r2) (h : [r0, r1, r2, r3].any farM = false) :
    ((-2097152 ≤ r0 ∧ r0 ≤ 2097152) ∧ (-2097152 ≤ r1 ∧ r1 ≤ 2097152) ∧ (-2097152 ≤ r2 ∧ r2 ≤ 2097152) ∧ -2097152 ≤ r3 ∧ r3 ≤ 2097152) ∧
    movE b r0 r1 r2 r3 = if ([b.X0 + r0, b.X1 + r1, b.Y0 + r2, b.Y1 + r3].any wideB) = true then 2 else 0 := by
  have k : (-2097152 ≤ r0 ∧ r0 ≤ 2097152) ∧ (-2097152 ≤ r1 ∧ r1 ≤ 2097152) ∧ (-2097152 ≤ r2 ∧ r2 ≤ 2097152) ∧ -2097152 ≤ r3 ∧ r3 ≤ 2097152 := by
    rw [any4] at h
    simp only [Bool.or_eq_false_iff] at h
    have f : ∀ n, farM n = false → -2097152 ≤ n ∧ n ≤ 2097152 := fun n hn => by
      refine Classical.byContradiction fun q => ?_
      rw [far_iff.2 q] at hn; cases hn
    exact ⟨f _ h.1, f _ h.2.1, f _ h.2.2.1, f _ h.2.2.2⟩
  refine ⟨k, ?_⟩
  unfold movE
  rw [if_neg (by rw [h1]; simp only [reduceCtorEq, false_or]; omega), if_pos k, any4]
  cases wideB (b.X0 + r0) <;> cases wideB (b.X1 + r1) <;> cases wideB (b.Y0 + r2) <;> cases wideB (b.Y1 + r3) <;> simp
end
def x26 : XFn := ⟨8, (.seq (.reg false [O1 1 (.box 50) 0, ⟨(some 2), (.alloc 77 [(iV 0), (iV 0)]), [], none⟩]) (.seq (.reg false [O1 3 (.fld 4) 1, O1 4 .load1 3, O1 5 (.fld 5) 1, O1 6 .load1 5, ⟨(some 7), (.build [(iV 0), (iV 0)] [(0, 1), (1, 1)]), [(.t 4), (.t 6)], none⟩, ⟨none, (.store 2), [(.t 2), (.t 7)], none⟩]) .ret)), [(.bn 2 2)]⟩
theorem x26_ok : xfn Tryz.prog Tryz.f26 = some x26.er := by kernel_rfl
def x28 : XFn := ⟨23, (.seq (.reg false [O1 3 (.box 50) 0, ⟨(some 6), (.alloc 77 [(iV 0), (iV 0)]), [], none⟩]) (.seq (.reg false [O1 10 (.loadN 6) 3, O1 11 (.call 26) 10, O1 12 .mv 1, O2 13 (.call 53) 11 12, O1 9 .mv 13, O1 14 (.ext 0) 9, O1 15 (.ext 1) 9, ⟨(some 7), (.alloc 77 [(iV 0), (iV 0)]), [], none⟩, ⟨none, (.store 2), [(.t 7), (.t 14)], none⟩, O1 8 .mv 15]) (.seq (.reg false [O1 17 (.loadN 2) 7, O1 18 .mv 2, O2 19 (.call 54) 17 18, O1 16 .mv 19, O1 20 (.ext 0) 16, O1 21 (.ext 1) 16, ⟨none, (.store 2), [(.t 7), (.t 20)], none⟩]) (.seq (.reg false [O1 22 (.loadN 2) 7, ⟨none, (.store 2), [(.t 6), (.t 22)], none⟩]) .ret)))), [(.bn 6 2)]⟩
theorem x28_ok : xfn Tryz.prog Tryz.f28 = some x28.er := by kernel_rfl
def x25L0 : XC := (.seq (.reg false [O2 16 (.bin .lss) 15 14]) (.seq (.cond (.t 16) .skip (.exit 0)) (.seq (.block 1 (.seq (.reg false [O1 17 .mv 15, O2 18 (.ixS 1) 13 15, O1 19 .load1 18, O1 8 .mv 17, O1 9 .mv 19]) (.seq (.reg false [O1 21 (.loadN 2) 3, O1 22 (.loadN 4) 4, O1 23 .mv 9, ⟨(some 24), (.call 51), [(.t 21), (.t 22), (.t 23)], none⟩, O1 20 .mv 24, O1 25 (.ext 0) 20, O1 26 (.ext 1) 20, ⟨(some 10), (.alloc 74 [(iV 0), (iV 0), (iV 0), (iV 0)]), [], none⟩, ⟨none, (.store 4), [(.t 10), (.t 25)], none⟩, O1 11 .mv 26]) (.seq (.seq (.reg false [O1 27 .mv 8, K2 28 (.bin .eql) 27 (iV 0)]) (.cond (.t 28) (.reg false [O1 29 (.loadN 4) 10, ⟨none, (.store 4), [(.t 7), (.t 29)], none⟩]) .skip)) (.reg false [O1 30 (.fld 0) 7, O1 31 .load1 30, O1 32 (.fld 0) 10, O1 33 .load1 32, O2 34 .minI 31 33, O1 35 (.fld 1) 7, O1 36 .load1 35, O1 37 (.fld 1) 10, O1 38 .load1 37, O2 39 .minI 36 38, O1 40 (.fld 2) 7, O1 41 .load1 40, O1 42 (.fld 2) 10, O1 43 .load1 42, O2 44 .maxI 41 43, O1 45 (.fld 3) 7, O1 46 .load1 45, O1 47 (.fld 3) 10, O1 48 .load1 47, O2 49 .maxI 46 48, ⟨(some 50), (.build [(iV 0), (iV 0), (iV 0), (iV 0)] [(0, 1), (1, 1), (2, 1), (3, 1)]), [(.t 34), (.t 39), (.t 44), (.t 49)], none⟩, ⟨none, (.store 4), [(.t 7), (.t 50)], none⟩]))))) (.reg false [K2 51 (.bin .add) 15 (iV 1), O1 15 .mv 51]))))
def x25 : XFn := ⟨53, (.seq (.reg false [O1 3 (.box 45) 0, O1 4 (.box 26) 1, O1 5 (.box 77) 2, ⟨(some 6), (.alloc 74 [(iV 0), (iV 0), (iV 0), (iV 0)]), [], none⟩]) (.seq (.reg false [⟨(some 7), (.alloc 74 [(iV 0), (iV 0), (iV 0), (iV 0)]), [], none⟩]) (.seq (.seq (.reg false [O1 12 (.loadN 2) 5, O1 13 (.call 50) 12, O1 14 .lenS 13, K1 15 .mv (iV 0)]) (.block 0 (.loop x25L0))) (.seq (.reg false [O1 52 (.loadN 4) 7, ⟨none, (.store 4), [(.t 6), (.t 52)], none⟩]) .ret)))), [(.bn 6 4)]⟩
theorem x25_ok : xfn Tryz.prog Tryz.f25 = some x25.er := by kernel_rfl
def x24 : XFn := ⟨17, (.seq (.reg false [O1 3 (.box 50) 0, O1 4 (.box 45) 1, O1 5 (.box 26) 2, K1 6 .mv (.bool false)]) (.seq (.reg false [O1 7 (.loadN 6) 3, O1 8 (.call 22) 7, O1 9 .mv 8, G1 10 (.loadN 2) 4 9 true, G1 11 (.call 20) 10 9 true, ⟨(some 12), .pick, [(.t 9), (.t 11), (.k (.bool false))], none⟩, O1 13 .mv 12, G1 14 (.loadN 4) 5 13 true, G1 15 (.call 21) 14 13 true, ⟨(some 16), .pick, [(.t 13), (.t 15), (.k (.bool false))], none⟩, O1 6 .mv 16]) .ret)), [(.s 6)]⟩
theorem x24_ok : xfn Tryz.prog Tryz.f24 = some x24.er := by kernel_rfl
def x27 : XFn := ⟨26, (.seq (.reg false [O1 3 (.box 50) 0, O1 4 (.box 77) 1, O1 5 (.box 74) 2, ⟨(some 6), (.alloc 50 [(iV 0), (iV 0), (iV 0), (iV 0), (iV 0), (iV 0)]), [], none⟩, K1 7 .mv (iV 0)]) (.seq (.regD [O1 8 (.fld 0) 4, O1 9 .load1 8, O1 10 (.fld 1) 4, O1 11 .load1 10, O1 12 (.fld 4) 3, ⟨none, (.store 1), [(.t 12), (.t 9)], none⟩, O1 13 (.fld 5) 3, ⟨none, (.store 1), [(.t 13), (.t 11)], none⟩] [[], [0], [], [2], [0, 1], [4, 0, 1], [0, 1, 2, 3, 4, 5], [6, 0, 1, 2, 3, 4, 5]]) (.seq (.reg false [O1 14 (.loadN 6) 3, O1 15 (.fld 0) 5, O1 16 .load1 15, O1 17 (.fld 2) 5, O1 18 .load1 17, O1 19 (.fld 1) 5, O1 20 .load1 19, O1 21 (.fld 3) 5, O1 22 .load1 21, ⟨(some 23), (.call 52), [(.t 14), (.t 16), (.t 18), (.t 20), (.t 22)], none⟩, O1 24 (.ext 0) 23, O1 25 (.ext 1) 23, ⟨none, (.store 6), [(.t 6), (.t 24)], none⟩, O1 7 .mv 25]) .ret))), [(.bn 6 6), (.s 7)]⟩
theorem x27_ok : xfn Tryz.prog Tryz.f27 = some x27.er := by kernel_rfl
def x23 : XFn := ⟨30, (.seq (.reg false [O1 3 (.box 50) 0, O1 4 (.box 45) 1, O1 5 (.box 26) 2, ⟨(some 6), (.alloc 50 [(iV 0), (iV 0), (iV 0), (iV 0), (iV 0), (iV 0)]), [], none⟩, K1 7 .mv (iV 0)]) (.seq (.seq (.reg false [O1 9 (.loadN 6) 3, O1 10 (.loadN 2) 4, O1 11 (.loadN 4) 5, ⟨(some 12), (.call 24), [(.t 9), (.t 10), (.t 11)], none⟩, O1 13 (.un .not) 12]) (.cond (.t 13) (.seq (.reg false [⟨(some 14), (.build [(iV 0), (iV 0), (iV 0), (iV 0), (iV 0), (iV 0)] []), [], none⟩, ⟨none, (.store 6), [(.t 6), (.t 14)], none⟩, K1 7 .mv (iV 1)]) .ret) .skip)) (.seq (.reg false [O1 15 (.loadN 6) 3, O1 16 (.fld 0) 4, O1 17 .load1 16, O1 18 (.fld 0) 5, O1 19 .load1 18, ⟨(some 20), (.call 28), [(.t 15), (.t 17), (.t 19)], none⟩, ⟨(some 8), (.alloc 77 [(iV 0), (iV 0)]), [], none⟩, ⟨none, (.store 2), [(.t 8), (.t 20)], none⟩]) (.seq (.regD [O1 21 (.loadN 6) 3, O1 22 (.loadN 2) 8, O1 23 (.loadN 2) 4, O1 24 (.loadN 4) 5, O1 25 (.loadN 2) 8, ⟨(some 26), (.call 25), [(.t 23), (.t 24), (.t 25)], none⟩, ⟨(some 27), (.call 27), [(.t 21), (.t 22), (.t 26)], none⟩, O1 28 (.ext 0) 27, O1 29 (.ext 1) 27, ⟨none, (.store 6), [(.t 6), (.t 28)], none⟩, O1 7 .mv 29] [[], [], [], [], [], [2, 3, 4], [0, 1, 5, 2, 3, 4], [6, 0, 1, 5, 2, 3, 4], [6, 0, 1, 5, 2, 3, 4], [7, 6, 0, 1, 5, 2, 3, 4, 8], [8, 6, 0, 1, 5, 2, 3, 4, 9, 7]]) .ret)))), [(.bn 6 6), (.s 7)]⟩
theorem x23_ok : xfn Tryz.prog Tryz.f23 = some x23.er := by kernel_rfl
def x9L0 : XC := (.seq (.reg false [O2 33 (.bin .lss) 32 31]) (.seq (.cond (.t 33) .skip (.exit 0)) (.seq (.block 1 (.seq (.reg false [O2 34 (.ixS 6) 30 32, O1 35 (.loadN 6) 34, ⟨(some 11), (.alloc 50 [(iV 0), (iV 0), (iV 0), (iV 0), (iV 0), (iV 0)]), [], none⟩, ⟨none, (.store 6), [(.t 11), (.t 35)], none⟩]) (.seq (.reg false [O1 36 (.loadN 6) 11, O1 37 (.call 22) 36, O1 38 (.un .not) 37]) (.cond (.t 38) (.seq (.reg false [K1 8 .mv (.slice none 0 0), K1 9 .mv (iV 1)]) .ret) .skip)))) (.reg false [K2 39 (.bin .add) 32 (iV 1), O1 32 .mv 39]))))
def x9L1 : XC := (.seq (.reg false [O2 45 (.bin .lss) 44 43]) (.seq (.cond (.t 45) .skip (.exit 2)) (.seq (.block 3 (.seq (.reg false [O2 46 (.ixS 6) 42 44, O1 47 (.loadN 6) 46, ⟨(some 14), (.alloc 50 [(iV 0), (iV 0), (iV 0), (iV 0), (iV 0), (iV 0)]), [], none⟩, ⟨none, (.store 6), [(.t 14), (.t 47)], none⟩]) (.seq (.reg false [O1 49 (.loadN 6) 14, O1 50 (.loadN 2) 5, O1 51 (.loadN 4) 6, ⟨(some 52), (.call 23), [(.t 49), (.t 50), (.t 51)], none⟩, O1 48 .mv 52, O1 53 (.ext 0) 48, O1 54 (.ext 1) 48, ⟨(some 15), (.alloc 50 [(iV 0), (iV 0), (iV 0), (iV 0), (iV 0), (iV 0)]), [], none⟩, ⟨none, (.store 6), [(.t 15), (.t 53)], none⟩, O1 16 .mv 54]) (.seq (.seq (.reg false [O1 55 .mv 16, K2 56 (.bin .neq) 55 (iV 0)]) (.cond (.t 56) (.seq (.reg false [O1 57 .mv 16, K1 8 .mv (.slice none 0 0), O1 9 .mv 57]) .ret) .skip)) (.reg false [O1 58 .mv 12, O1 59 (.loadN 6) 15, ⟨(some 60), (.slit 50 1 6 [(iV 0), (iV 0), (iV 0), (iV 0), (iV 0), (iV 0)] [(0, 6)]), [(.t 59)], none⟩, O2 61 (.app 50 6 48) 58 60, O1 12 .mv 61]))))) (.reg false [K2 62 (.bin .add) 44 (iV 1), O1 44 .mv 62]))))
def x9 : XFn := ⟨64, (.seq (.reg false [O1 5 (.box 45) 1, O1 6 (.box 26) 2, K1 8 .mv (.slice none 0 0), K1 9 .mv (iV 0)]) (.seq (.seq (.reg false [O1 17 .mv 0, O1 18 .lenS 17, K2 19 (.bin .gtr) 18 (iV 16), O1 20 .mv 19, G1 21 (.loadN 2) 5 20 false, G1 22 (.call 20) 21 20 false, G1 23 (.un .not) 22 20 false, ⟨(some 24), .pick, [(.t 20), (.k (.bool true)), (.t 23)], none⟩, O1 25 .mv 24, G1 26 (.loadN 4) 6 25 false, G1 27 (.call 21) 26 25 false, G1 28 (.un .not) 27 25 false, ⟨(some 29), .pick, [(.t 25), (.k (.bool true)), (.t 28)], none⟩]) (.cond (.t 29) (.seq (.reg false [K1 8 .mv (.slice none 0 0), K1 9 .mv (iV 1)]) .ret) .skip)) (.seq (.seq (.reg false [O1 30 .mv 0, O1 31 .lenS 30, K1 32 .mv (iV 0)]) (.block 0 (.loop x9L0))) (.seq (.seq (.reg false [O1 40 .mv 3]) (.cond (.t 40) (.reg false [O1 41 (.fld 1) 5, ⟨none, (.store 1), [(.t 41), (.k (iV 0))], none⟩]) .skip)) (.seq (.reg false [K1 12 .mv (.slice none 0 0)]) (.seq (.seq (.reg false [O1 42 .mv 0, O1 43 .lenS 42, K1 44 .mv (iV 0)]) (.block 2 (.loop x9L1))) (.seq (.reg false [O1 63 .mv 12, O1 8 .mv 63, K1 9 .mv (iV 0)]) .ret))))))), [(.s 8), (.s 9)]⟩
theorem x9_ok : xfn Tryz.prog Tryz.f9 = some x9.er := by kernel_rfl
def x10 : XFn := ⟨44, (.seq (.reg false [O1 3 (.box 50) 0, O1 4 (.box 45) 1, O1 5 (.box 26) 2, ⟨(some 6), (.alloc 50 [(iV 0), (iV 0), (iV 0), (iV 0), (iV 0), (iV 0)]), [], none⟩, K1 7 .mv (iV 0)]) (.seq (.seq (.reg false [O1 9 (.loadN 6) 3, O1 10 (.loadN 2) 4, O1 11 (.loadN 4) 5, ⟨(some 12), (.call 24), [(.t 9), (.t 10), (.t 11)], none⟩, O1 13 (.un .not) 12]) (.cond (.t 13) (.seq (.reg false [⟨(some 14), (.build [(iV 0), (iV 0), (iV 0), (iV 0), (iV 0), (iV 0)] []), [], none⟩, ⟨none, (.store 6), [(.t 6), (.t 14)], none⟩, K1 7 .mv (iV 1)]) .ret) .skip)) (.seq (.regD [O1 15 (.loadN 2) 4, O1 16 (.loadN 4) 5, O1 17 (.loadN 6) 3, O1 18 (.call 26) 17, ⟨(some 19), (.call 25), [(.t 15), (.t 16), (.t 18)], none⟩, ⟨(some 8), (.alloc 74 [(iV 0), (iV 0), (iV 0), (iV 0)]), [], none⟩, ⟨none, (.store 4), [(.t 8), (.t 19)], none⟩] [[], [], [], [2], [0, 1, 3, 2], [], [5, 4, 0, 1, 3, 2]]) (.seq (.regD [O1 20 (.loadN 6) 3, O1 21 (.loadN 6) 3, O1 22 (.fld 0) 4, O1 23 .load1 22, O1 24 (.un .neg) 23, O1 25 (.fld 0) 5, O1 26 .load1 25, ⟨(some 27), (.call 28), [(.t 21), (.t 24), (.t 26)], none⟩, O1 28 (.fld 2) 8, O1 29 .load1 28, O1 30 (.un .neg) 29, O1 31 (.fld 3) 8, O1 32 .load1 31, O1 33 (.un .neg) 32, O1 34 (.fld 0) 8, O1 35 .load1 34, O1 36 (.un .neg) 35, O1 37 (.fld 1) 8, O1 38 .load1 37, O1 39 (.un .neg) 38, ⟨(some 40), (.build [(iV 0), (iV 0), (iV 0), (iV 0)] [(0, 1), (1, 1), (2, 1), (3, 1)]), [(.t 30), (.t 33), (.t 36), (.t 39)], none⟩, ⟨(some 41), (.call 27), [(.t 20), (.t 27), (.t 40)], none⟩, O1 42 (.ext 0) 41, O1 43 (.ext 1) 41, ⟨none, (.store 6), [(.t 6), (.t 42)], none⟩, O1 7 .mv 43] [[], [], [], [2], [3, 2], [], [5], [1, 4, 3, 2, 6, 5], [], [8], [9, 8], [], [11], [12, 11], [], [14], [15, 14], [], [17], [18, 17], [10, 9, 8, 13, 12, 11, 16, 15, 14, 19, 18, 17], [0, 7, 1, 4, 3, 2, 6, 5, 20, 10, 9, 8, 13, 12, 11, 16, 15, 14, 19, 18, 17], [21, 0, 7, 1, 4, 3, 2, 6, 5, 20, 10, 9, 8, 13, 12, 11, 16, 15, 14, 19, 18, 17], [21, 0, 7, 1, 4, 3, 2, 6, 5, 20, 10, 9, 8, 13, 12, 11, 16, 15, 14, 19, 18, 17], [22, 21, 0, 7, 1, 4, 3, 2, 6, 5, 20, 10, 9, 8, 13, 12, 11, 16, 15, 14, 19, 18, 17, 23], [23, 21, 0, 7, 1, 4, 3, 2, 6, 5, 20, 10, 9, 8, 13, 12, 11, 16, 15, 14, 19, 18, 17, 24, 22]]) .ret)))), [(.bn 6 6), (.s 7)]⟩
theorem x10_ok : xfn Tryz.prog Tryz.f10 = some x10.er := by kernel_rfl
def g76 : Con := fun args_ E_ nn_ => match args_ with
  | [.c (.v (.int .i64 frm)), .c (.v (.int .i64 count))] => some (.q (True) (.o (.a [.v (.int .i64 ((arcN frm count).1)), .v (.int .i64 ((arcN frm count).2))])))
  | _ => none
theorem c76 : COk Tryz.prog 76 g76 := by
  refine cok_q Tryz.func76 x76_ok (by kernel_rfl) (cok_tab (cok_cons c55 cok_nil)) ?_
  intro args_ E_ nn_ cr_ hg_
  unfold g76 at hg_
  split at hg_
  · rename_i frm count
    cases hg_
    refine ⟨_, _, rfl, 0, [], [.c (.v (.int .i64 frm)), .c (.v (.int .i64 count))], [], .o (.a [.v (.int .i64 ((arcN frm count).1)), .v (.int .i64 ((arcN frm count).2))]), rfl, rfl, by simp only [push_cast, Nat.reduceLT, Nat.reduceAdd], by simp only [push_cast, Nat.reduceLT, Nat.reduceAdd], by simp only [push_cast, Nat.reduceLT, Nat.reduceAdd], rfl, trivial, rfl, ?_⟩
    intro hpre hlen
    refine ⟨trivial, ?_⟩
    simp (config := {maxSteps := 10000000}) only [x76, push_cast, Nat.reduceAdd, Nat.reduceSub, Nat.reduceLeDiff, Nat.reduceEqDiff, Nat.reduceBEq, Nat.reduceMul, Nat.reduceLT, ↓reduceIte, reduceCtorEq, Int.reduceLE, Int.reduceLT, Int.reduceEq, Int.reduceMul, Int.reduceAdd, Int.reduceSub, Int.reduceNeg, Int.reduceToNat, Int.reduceNe, g55]
    unfold arcN
    refine ⟨fun h => by rw [if_pos (by omega)]; exact ⟨rfl, rfl⟩, fun h => by rw [if_neg (by omega)]; exact ⟨rfl, rfl⟩⟩
  · cases hg_
def g53 : Con := fun args_ E_ nn_ => match args_ with
  | [.a [.v (.int .i64 a_From), .v (.int .i64 a_Count)], .c (.v (.int .i64 n))] => some (.q (arcB a_From a_Count = true) (.t [.a [.v (.int .i64 ((arcN (a_From + n % 256) a_Count).1)), .v (.int .i64 ((arcN (a_From + n % 256) a_Count).2))], .c (.v (.int .i64 (0)))]))
  | _ => none
theorem c53 : COk Tryz.prog 53 g53 := by
  refine cok_q Tryz.func53 x53_ok (by kernel_rfl) (cok_tab (cok_cons c49 (cok_cons c55 (cok_cons c76 cok_nil)))) ?_
  intro args_ E_ nn_ cr_ hg_
  unfold g53 at hg_
  split at hg_
  · rename_i a_From a_Count n
    cases hg_
    refine ⟨_, _, rfl, 0, [], [.a [.v (.int .i64 a_From), .v (.int .i64 a_Count)], .c (.v (.int .i64 n))], [], .t [.a [.v (.int .i64 ((arcN (a_From + n % 256) a_Count).1)), .v (.int .i64 ((arcN (a_From + n % 256) a_Count).2))], .c (.v (.int .i64 (0)))], rfl, rfl, by simp only [push_cast, Nat.reduceLT, Nat.reduceAdd], by simp only [push_cast, Nat.reduceLT, Nat.reduceAdd], by simp only [push_cast, Nat.reduceLT, Nat.reduceAdd], rfl, trivial, rfl, ?_⟩
    intro hpre hlen
    refine ⟨trivial, ?_⟩
    simp (config := {maxSteps := 10000000}) only [x53, push_cast, Nat.reduceAdd, Nat.reduceSub, Nat.reduceLeDiff, Nat.reduceEqDiff, Nat.reduceBEq, Nat.reduceMul, Nat.reduceLT, ↓reduceIte, reduceCtorEq, Int.reduceLE, Int.reduceLT, Int.reduceEq, Int.reduceMul, Int.reduceAdd, Int.reduceSub, Int.reduceNeg, Int.reduceToNat, Int.reduceNe, g49, g55, g76]
    have hb := hpre
    unfold arcB at hb
    rw [decide_eq_true_eq] at hb
    rw [wrapI (by omega) (by omega)]
    exact ⟨fun h => by (rw [hpre] at h; cases h), fun _ => ⟨by rfl, rfl, rfl⟩⟩
  · cases hg_
def g54 : Con := fun args_ E_ nn_ => match args_ with
  | [.a [.v (.int .i64 a_From), .v (.int .i64 a_Count)], .c (.v (.int .i64 n))] => some (.q (arcB a_From a_Count = true ∧ 0 ≤ n ∧ n ≤ 8) (.t [.a [.v (.int .i64 ((arcN (a_From - n) (a_Count + 2 * n)).1)), .v (.int .i64 ((arcN (a_From - n) (a_Count + 2 * n)).2))], .c (.v (.int .i64 (0)))]))
  | _ => none
theorem c54 : COk Tryz.prog 54 g54 := by
  refine cok_q Tryz.func54 x54_ok (by kernel_rfl) (cok_tab (cok_cons c49 (cok_cons c76 cok_nil))) ?_
  intro args_ E_ nn_ cr_ hg_
  unfold g54 at hg_
  split at hg_
  · rename_i a_From a_Count n
    cases hg_
    refine ⟨_, _, rfl, 0, [], [.a [.v (.int .i64 a_From), .v (.int .i64 a_Count)], .c (.v (.int .i64 n))], [], .t [.a [.v (.int .i64 ((arcN (a_From - n) (a_Count + 2 * n)).1)), .v (.int .i64 ((arcN (a_From - n) (a_Count + 2 * n)).2))], .c (.v (.int .i64 (0)))], rfl, rfl, by simp only [push_cast, Nat.reduceLT, Nat.reduceAdd], by simp only [push_cast, Nat.reduceLT, Nat.reduceAdd], by simp only [push_cast, Nat.reduceLT, Nat.reduceAdd], rfl, trivial, rfl, ?_⟩
    intro hpre hlen
    refine ⟨trivial, ?_⟩
    simp (config := {maxSteps := 10000000}) only [x54, push_cast, Nat.reduceAdd, Nat.reduceSub, Nat.reduceLeDiff, Nat.reduceEqDiff, Nat.reduceBEq, Nat.reduceMul, Nat.reduceLT, ↓reduceIte, reduceCtorEq, Int.reduceLE, Int.reduceLT, Int.reduceEq, Int.reduceMul, Int.reduceAdd, Int.reduceSub, Int.reduceNeg, Int.reduceToNat, Int.reduceNe, g49, g76]
    have hb := hpre.1
    unfold arcB at hb
    rw [decide_eq_true_eq] at hb
    rw [wrapI (n := 2 * n) (by omega) (by omega), wrapI (n := a_From - n) (by omega) (by omega), wrapI (by omega) (by omega)]
    exact ⟨fun h => by (rw [hpre.1] at h; cases h), fun _ => ⟨fun h => by omega, fun _ _ => ⟨rfl, rfl⟩⟩⟩
  · cases hg_
def g75 : Con := fun args_ E_ nn_ => match args_ with
  | [.c (.v (.int .i64 d))] => some (.q (True) (.o (.c (.v (.bool (farM d))))))
  | _ => none
theorem c75 : COk Tryz.prog 75 g75 := by
  refine cok_q Tryz.func75 x75_ok (by kernel_rfl) (cok_tab cok_nil) ?_
  intro args_ E_ nn_ cr_ hg_
  unfold g75 at hg_
  split at hg_
  · rename_i d
    cases hg_
    refine ⟨_, _, rfl, 0, [], [.c (.v (.int .i64 d))], [], .o (.c (.v (.bool (farM d)))), rfl, rfl, by simp only [push_cast, Nat.reduceLT, Nat.reduceAdd], by simp only [push_cast, Nat.reduceLT, Nat.reduceAdd], by simp only [push_cast, Nat.reduceLT, Nat.reduceAdd], rfl, trivial, rfl, ?_⟩
    intro hpre hlen
    refine ⟨trivial, ?_⟩
    simp (config := {maxSteps := 10000000}) only [x75, push_cast, Nat.reduceAdd, Nat.reduceSub, Nat.reduceLeDiff, Nat.reduceEqDiff, Nat.reduceBEq, Nat.reduceMul, Nat.reduceLT, ↓reduceIte, reduceCtorEq, Int.reduceLE, Int.reduceLT, Int.reduceEq, Int.reduceMul, Int.reduceAdd, Int.reduceSub, Int.reduceNeg, Int.reduceToNat, Int.reduceNe]
    rfl
  · cases hg_
def g68m : Con := fun args_ E_ nn_ => match args_ with
  | [.c (.n s), .c (.v (.func (.func 75) f_a f_b))] => (match rowOf E_ s with
    | some (s_n, s_s, s_f) => some (.q (isRow eI s_n s_s s_f ∧ f_a = #[] ∧ f_b = #[]) (.o (.c (.v (.int .i64 (ixOf farM (decL eI s_n s_f)))))))
    | none => none)
  | _ => none
theorem c68m : COk Tryz.prog 68 g68m := by
  refine cok_q Tryz.func68 x68_ok (by kernel_rfl) (cok_tab (cok_cons c75 cok_nil)) ?_
  intro args_ E_ nn_ cr_ hg_
  unfold g68m at hg_
  split at hg_
  · rename_i s f_a f_b
    split at hg_
    · rename_i s_n s_s s_f h_s
      cases hg_
      refine ⟨_, _, rfl, 1, [s], [.c (.n 0), .c (.v (.func (.func 75) f_a f_b))], [(0, .ro (decL eI s_n s_f).length eI.sz (rowF eI (decL eI s_n s_f)))], .o (.c (.v (.int .i64 (ixOf farM (decL eI s_n s_f))))), rfl, rfl, by simp only [push_cast, Nat.reduceLT, Nat.reduceAdd], by simp only [push_cast, Nat.reduceLT, Nat.reduceAdd], by simp only [push_cast, Nat.reduceLT, Nat.reduceAdd], rfl, ⟨inE0_row h_s, trivial⟩, rfl, ?_⟩
      intro hpre hlen
      obtain ⟨i_s, hpre⟩ := hpre
      refine ⟨⟨inE_row h_s i_s, trivial⟩, ?_⟩
      have z_s := lens_row (E := eI) hlen h_s
      clear i_s
      generalize decL eI s_n s_f = sL at *
      clear h_s
      obtain ⟨rfl, rfl⟩ := hpre
      simp (config := {maxSteps := 10000000}) only [x68, push_cast, Nat.reduceAdd, Nat.reduceSub, Nat.reduceLeDiff, Nat.reduceEqDiff, Nat.reduceBEq, Nat.reduceMul, Nat.reduceLT, ↓reduceIte, reduceCtorEq, Int.reduceLE, Int.reduceLT, Int.reduceEq, Int.reduceMul, Int.reduceAdd, Int.reduceSub, Int.reduceNeg, Int.reduceToNat, Int.reduceNe, g75]
      refine vcLoop_upd (α := {k : Nat // k ≤ sL.length ∧ ∀ i, i < k → farM (sL.getD i eI.dflt) = false}) [0, 1, 7] 0 (fun s => [(8, .o (.c (.v (.int .i64 (s.1 : Nat)))))]) (fun s => []) (fun s => sL.length - s.1) ⟨0, by omega, fun i hi => by omega⟩ ?_ ?_
      · simp only [push_cast, Nat.reduceAdd, Nat.reduceSub, Nat.reduceLeDiff, Nat.reduceEqDiff, Nat.reduceBEq, Nat.reduceMul, Nat.reduceLT, ↓reduceIte, reduceCtorEq, Int.reduceLE, Int.reduceLT, Int.reduceEq, Int.reduceMul, Int.reduceAdd, Int.reduceSub, Int.reduceNeg, Int.reduceToNat, Int.reduceNe, g75]
      · rintro ⟨k, hk, hall⟩
        simp only [x68L0, push_cast, Nat.reduceAdd, Nat.reduceSub, Nat.reduceLeDiff, Nat.reduceEqDiff, Nat.reduceBEq, Nat.reduceMul, Nat.reduceLT, ↓reduceIte, reduceCtorEq, Int.reduceLE, Int.reduceLT, Int.reduceEq, Int.reduceMul, Int.reduceAdd, Int.reduceSub, Int.reduceNeg, Int.reduceToNat, Int.reduceNe, g75]
        refine ⟨fun hlt => ⟨hlt, hlt, fun hw => (ixOf_some hlt hall hw).symm, fun hw => ?_⟩, fun hn => ?_⟩
        · exact ⟨⟨k + 1, by omega, fun i hi => by
            by_cases h : i = k
            · subst h; exact hw
            · exact hall i (by omega)⟩, wrapI (by omega) (by omega), by simp only; omega⟩
        · exact (ixOf_none (fun i hi => hall i (by omega))).symm
    · cases hg_
  · cases hg_
def g40m : Con := fun args_ E_ nn_ => match args_ with
  | [.c (.n s), .c (.v (.func (.func 75) f_a f_b))] => (match rowOf E_ s with
    | some (s_n, s_s, s_f) => some (.q (isRow eI s_n s_s s_f ∧ f_a = #[] ∧ f_b = #[]) (.o (.c (.v (.bool (((decL eI s_n s_f)).any farM))))))
    | none => none)
  | _ => none
theorem c40m : COk Tryz.prog 40 g40m := by
  refine cok_q Tryz.func40 x40_ok (by kernel_rfl) (cok_tab (cok_cons c68m cok_nil)) ?_
  intro args_ E_ nn_ cr_ hg_
  unfold g40m at hg_
  split at hg_
  · rename_i s f_a f_b
    split at hg_
    · rename_i s_n s_s s_f h_s
      cases hg_
      refine ⟨_, _, rfl, 1, [s], [.c (.n 0), .c (.v (.func (.func 75) f_a f_b))], [(0, .ro (decL eI s_n s_f).length eI.sz (rowF eI (decL eI s_n s_f)))], .o (.c (.v (.bool (((decL eI s_n s_f)).any farM)))), rfl, rfl, by simp only [push_cast, Nat.reduceLT, Nat.reduceAdd], by simp only [push_cast, Nat.reduceLT, Nat.reduceAdd], by simp only [push_cast, Nat.reduceLT, Nat.reduceAdd], rfl, ⟨inE0_row h_s, trivial⟩, rfl, ?_⟩
      intro hpre hlen
      obtain ⟨i_s, hpre⟩ := hpre
      refine ⟨⟨inE_row h_s i_s, trivial⟩, ?_⟩
      have z_s := lens_row (E := eI) hlen h_s
      clear i_s
      generalize decL eI s_n s_f = sL at *
      clear h_s
      obtain ⟨rfl, rfl⟩ := hpre
      simp (config := {maxSteps := 10000000}) only [x40, push_cast, Nat.reduceAdd, Nat.reduceSub, Nat.reduceLeDiff, Nat.reduceEqDiff, Nat.reduceBEq, Nat.reduceMul, Nat.reduceLT, ↓reduceIte, reduceCtorEq, Int.reduceLE, Int.reduceLT, Int.reduceEq, Int.reduceMul, Int.reduceAdd, Int.reduceSub, Int.reduceNeg, Int.reduceToNat, Int.reduceNe, g68m]
      exact ixOf_any farM sL
    · cases hg_
  · cases hg_
def g52 : Con := fun args_ E_ nn_ => match args_ with
  | [.a [.v (.int .i64 b_X0), .v (.int .i64 b_Y0), .v (.int .i64 b_X1), .v (.int .i64 b_Y1), .v (.int .i64 b_From), .v (.int .i64 b_Count)], .c (.v (.int .i64 dx0)), .c (.v (.int .i64 dx1)), .c (.v (.int .i64 dy0)), .c (.v (.int .i64 dy1))] => some (.q (True) (.t [.a [.v (.int .i64 (movV (⟨b_X0, b_Y0, b_X1, b_Y1, b_From, b_Count⟩ : BB) dx0 dx1 dy0 dy1).X0), .v (.int .i64 (movV (⟨b_X0, b_Y0, b_X1, b_Y1, b_From, b_Count⟩ : BB) dx0 dx1 dy0 dy1).Y0), .v (.int .i64 (movV (⟨b_X0, b_Y0, b_X1, b_Y1, b_From, b_Count⟩ : BB) dx0 dx1 dy0 dy1).X1), .v (.int .i64 (movV (⟨b_X0, b_Y0, b_X1, b_Y1, b_From, b_Count⟩ : BB) dx0 dx1 dy0 dy1).Y1), .v (.int .i64 (movV (⟨b_X0, b_Y0, b_X1, b_Y1, b_From, b_Count⟩ : BB) dx0 dx1 dy0 dy1).F), .v (.int .i64 (movV (⟨b_X0, b_Y0, b_X1, b_Y1, b_From, b_Count⟩ : BB) dx0 dx1 dy0 dy1).N)], .c (.v (.int .i64 (movE (⟨b_X0, b_Y0, b_X1, b_Y1, b_From, b_Count⟩ : BB) dx0 dx1 dy0 dy1)))]))
  | _ => none
theorem c52 : COk Tryz.prog 52 g52 := by
  refine cok_q Tryz.func52 x52_ok (by kernel_rfl) (cok_tab (cok_cons c22 (cok_cons c40m (cok_cons c48 cok_nil)))) ?_
  intro args_ E_ nn_ cr_ hg_
  unfold g52 at hg_
  split at hg_
  · rename_i b_X0 b_Y0 b_X1 b_Y1 b_From b_Count dx0 dx1 dy0 dy1
    cases hg_
    refine ⟨_, _, rfl, 0, [], [.a [.v (.int .i64 b_X0), .v (.int .i64 b_Y0), .v (.int .i64 b_X1), .v (.int .i64 b_Y1), .v (.int .i64 b_From), .v (.int .i64 b_Count)], .c (.v (.int .i64 dx0)), .c (.v (.int .i64 dx1)), .c (.v (.int .i64 dy0)), .c (.v (.int .i64 dy1))], [], .t [.a [.v (.int .i64 (movV (⟨b_X0, b_Y0, b_X1, b_Y1, b_From, b_Count⟩ : BB) dx0 dx1 dy0 dy1).X0), .v (.int .i64 (movV (⟨b_X0, b_Y0, b_X1, b_Y1, b_From, b_Count⟩ : BB) dx0 dx1 dy0 dy1).Y0), .v (.int .i64 (movV (⟨b_X0, b_Y0, b_X1, b_Y1, b_From, b_Count⟩ : BB) dx0 dx1 dy0 dy1).X1), .v (.int .i64 (movV (⟨b_X0, b_Y0, b_X1, b_Y1, b_From, b_Count⟩ : BB) dx0 dx1 dy0 dy1).Y1), .v (.int .i64 (movV (⟨b_X0, b_Y0, b_X1, b_Y1, b_From, b_Count⟩ : BB) dx0 dx1 dy0 dy1).F), .v (.int .i64 (movV (⟨b_X0, b_Y0, b_X1, b_Y1, b_From, b_Count⟩ : BB) dx0 dx1 dy0 dy1).N)], .c (.v (.int .i64 (movE (⟨b_X0, b_Y0, b_X1, b_Y1, b_From, b_Count⟩ : BB) dx0 dx1 dy0 dy1)))], rfl, rfl, by simp only [push_cast, Nat.reduceLT, Nat.reduceAdd], by simp only [push_cast, Nat.reduceLT, Nat.reduceAdd], by simp only [push_cast, Nat.reduceLT, Nat.reduceAdd], rfl, trivial, rfl, ?_⟩
    intro hpre hlen
    refine ⟨trivial, ?_⟩
    have q1 : isRow eI 4 1 (litF [SC.v (Value.int IntKind.i64 dx0), SC.v (Value.int IntKind.i64 dx1), SC.v (Value.int IntKind.i64 dy0), SC.v (Value.int IntKind.i64 dy1)] 1) ↔ True := iff_true_intro (lits_row eI [dx0, dx1, dy0, dy1]).1
    have q2 : decL eI 4 (litF [SC.v (Value.int IntKind.i64 dx0), SC.v (Value.int IntKind.i64 dx1), SC.v (Value.int IntKind.i64 dy0), SC.v (Value.int IntKind.i64 dy1)] 1) = [dx0, dx1, dy0, dy1] := (lits_row eI [dx0, dx1, dy0, dy1]).2
    have w1 : isRow eI 4 1 (litF [SC.v (Value.int IntKind.i64 (IntKind.i64.wrap (b_X0 + dx0))), SC.v (Value.int IntKind.i64 (IntKind.i64.wrap (b_X1 + dx1))), SC.v (Value.int IntKind.i64 (IntKind.i64.wrap (b_Y0 + dy0))), SC.v (Value.int IntKind.i64 (IntKind.i64.wrap (b_Y1 + dy1)))] 1) ↔ True := iff_true_intro (lits_row eI [(IntKind.i64.wrap (b_X0 + dx0)), (IntKind.i64.wrap (b_X1 + dx1)), (IntKind.i64.wrap (b_Y0 + dy0)), (IntKind.i64.wrap (b_Y1 + dy1))]).1
    have w2 : decL eI 4 (litF [SC.v (Value.int IntKind.i64 (IntKind.i64.wrap (b_X0 + dx0))), SC.v (Value.int IntKind.i64 (IntKind.i64.wrap (b_X1 + dx1))), SC.v (Value.int IntKind.i64 (IntKind.i64.wrap (b_Y0 + dy0))), SC.v (Value.int IntKind.i64 (IntKind.i64.wrap (b_Y1 + dy1)))] 1) = [(IntKind.i64.wrap (b_X0 + dx0)), (IntKind.i64.wrap (b_X1 + dx1)), (IntKind.i64.wrap (b_Y0 + dy0)), (IntKind.i64.wrap (b_Y1 + dy1))] := (lits_row eI [(IntKind.i64.wrap (b_X0 + dx0)), (IntKind.i64.wrap (b_X1 + dx1)), (IntKind.i64.wrap (b_Y0 + dy0)), (IntKind.i64.wrap (b_Y1 + dy1))]).2
    simp (config := {maxSteps := 10000000}) only [x52, push_cast, Nat.reduceAdd, Nat.reduceSub, Nat.reduceLeDiff, Nat.reduceEqDiff, Nat.reduceBEq, Nat.reduceMul, Nat.reduceLT, ↓reduceIte, reduceCtorEq, Int.reduceLE, Int.reduceLT, Int.reduceEq, Int.reduceMul, Int.reduceAdd, Int.reduceSub, Int.reduceNeg, Int.reduceToNat, Int.reduceNe, g22, g40m, g48, q1, q2, w1, w2]
    refine ⟨fun h => ?_, fun h1 h2 h3 => ⟨fun h => ?_, fun h => ?_⟩⟩
    · have e := mov_1 (b := (⟨b_X0, b_Y0, b_X1, b_Y1, b_From, b_Count⟩ : BB)) (r0 := dx0) (r1 := dx1) (r2 := dy0) (r3 := dy1) h
      rw [mov_z (by rw [e]; decide), e]; simp
    · have e := mov_2 (b := (⟨b_X0, b_Y0, b_X1, b_Y1, b_From, b_Count⟩ : BB)) (r0 := dx0) (r1 := dx1) (r2 := dy0) (r3 := dy1) h1 h2 h3 h
      rw [mov_z (by rw [e]; decide), e]; simp
    obtain ⟨k, e⟩ := mov_3 (b := (⟨b_X0, b_Y0, b_X1, b_Y1, b_From, b_Count⟩ : BB)) (r0 := dx0) (r1 := dx1) (r2 := dy0) (r3 := dy1) h1 h2 h3 h
    have hp := box_parts h1
    rw [wrapI (n := b_X0 + dx0) (by omega) (by omega), wrapI (n := b_X1 + dx1) (by omega) (by omega), wrapI (n := b_Y0 + dy0) (by omega) (by omega), wrapI (n := b_Y1 + dy1) (by omega) (by omega)]
    refine ⟨fun h4 => ?_, fun h4 => ?_⟩
    · rw [if_pos h4] at e
      rw [mov_z (by rw [e]; decide), e]; simp
    · rw [if_neg (by simp only; rw [h4]; decide)] at e
      rw [show movV (⟨b_X0, b_Y0, b_X1, b_Y1, b_From, b_Count⟩ : BB) dx0 dx1 dy0 dy1 = _ from if_pos e, e]; simp
  · cases hg_
def g26 : Con := fun args_ E_ nn_ => match args_ with
  | [.a [.v (.int .i64 b_X0), .v (.int .i64 b_Y0), .v (.int .i64 b_X1), .v (.int .i64 b_Y1), .v (.int .i64 b_From), .v (.int .i64 b_Count)]] => some (.q (True) (.o (.a [.v (.int .i64 (b_From)), .v (.int .i64 (b_Count))])))
  | _ => none
theorem c26 : COk Tryz.prog 26 g26 := by
  refine cok_q Tryz.func26 x26_ok (by kernel_rfl) (cok_tab cok_nil) ?_
  intro args_ E_ nn_ cr_ hg_
  unfold g26 at hg_
  split at hg_
  · rename_i b_X0 b_Y0 b_X1 b_Y1 b_From b_Count
    cases hg_
    refine ⟨_, _, rfl, 0, [], [.a [.v (.int .i64 b_X0), .v (.int .i64 b_Y0), .v (.int .i64 b_X1), .v (.int .i64 b_Y1), .v (.int .i64 b_From), .v (.int .i64 b_Count)]], [], .o (.a [.v (.int .i64 (b_From)), .v (.int .i64 (b_Count))]), rfl, rfl, by simp only [push_cast, Nat.reduceLT, Nat.reduceAdd], by simp only [push_cast, Nat.reduceLT, Nat.reduceAdd], by simp only [push_cast, Nat.reduceLT, Nat.reduceAdd], rfl, trivial, rfl, ?_⟩
    intro hpre hlen
    refine ⟨trivial, ?_⟩
    simp (config := {maxSteps := 10000000}) only [x26, push_cast, Nat.reduceAdd, Nat.reduceSub, Nat.reduceLeDiff, Nat.reduceEqDiff, Nat.reduceBEq, Nat.reduceMul, Nat.reduceLT, ↓reduceIte, reduceCtorEq, Int.reduceLE, Int.reduceLT, Int.reduceEq, Int.reduceMul, Int.reduceAdd, Int.reduceSub, Int.reduceNeg, Int.reduceToNat, Int.reduceNe]
  · cases hg_
def g28 : Con := fun args_ E_ nn_ => match args_ with
  | [.a [.v (.int .i64 b_X0), .v (.int .i64 b_Y0), .v (.int .i64 b_X1), .v (.int .i64 b_Y1), .v (.int .i64 b_From), .v (.int .i64 b_Count)], .c (.v (.int .i64 turn)), .c (.v (.int .i64 by_))] => some (.q (arcB b_From b_Count = true ∧ (-32 ≤ turn ∧ turn ≤ 32) ∧ 0 ≤ by_ ∧ by_ ≤ 8) (.o (.a [.v (.int .i64 ((trnA b_From b_Count turn by_).1)), .v (.int .i64 ((trnA b_From b_Count turn by_).2))])))
  | _ => none
theorem c28 : COk Tryz.prog 28 g28 := by
  refine cok_q Tryz.func28 x28_ok (by kernel_rfl) (cok_tab (cok_cons c26 (cok_cons c53 (cok_cons c54 cok_nil)))) ?_
  intro args_ E_ nn_ cr_ hg_
  unfold g28 at hg_
  split at hg_
  · rename_i b_X0 b_Y0 b_X1 b_Y1 b_From b_Count turn by_
    cases hg_
    refine ⟨_, _, rfl, 0, [], [.a [.v (.int .i64 b_X0), .v (.int .i64 b_Y0), .v (.int .i64 b_X1), .v (.int .i64 b_Y1), .v (.int .i64 b_From), .v (.int .i64 b_Count)], .c (.v (.int .i64 turn)), .c (.v (.int .i64 by_))], [], .o (.a [.v (.int .i64 ((trnA b_From b_Count turn by_).1)), .v (.int .i64 ((trnA b_From b_Count turn by_).2))]), rfl, rfl, by simp only [push_cast, Nat.reduceLT, Nat.reduceAdd], by simp only [push_cast, Nat.reduceLT, Nat.reduceAdd], by simp only [push_cast, Nat.reduceLT, Nat.reduceAdd], rfl, trivial, rfl, ?_⟩
    intro hpre hlen
    refine ⟨trivial, ?_⟩
    simp (config := {maxSteps := 10000000}) only [x28, push_cast, Nat.reduceAdd, Nat.reduceSub, Nat.reduceLeDiff, Nat.reduceEqDiff, Nat.reduceBEq, Nat.reduceMul, Nat.reduceLT, ↓reduceIte, reduceCtorEq, Int.reduceLE, Int.reduceLT, Int.reduceEq, Int.reduceMul, Int.reduceAdd, Int.reduceSub, Int.reduceNeg, Int.reduceToNat, Int.reduceNe, g26, g53, g54]
    have hb := hpre.1
    unfold arcB at hb
    rw [decide_eq_true_eq] at hb
    exact ⟨hpre.1, ⟨(arcN_ok (by omega)).1, hpre.2.2⟩, rfl, rfl⟩
  · cases hg_
def g25 : Con := fun args_ E_ nn_ => match args_ with
  | [.a [.v (.int .i64 c_Turn), .v (.int .i64 c_Forward)], .a [.v (.int .i64 bd_Turn), .v (.int .i64 bd_Length), .v (.int .i64 bd_Slip), .v (.int .i64 bd_Range)], .a [.v (.int .i64 a_From), .v (.int .i64 a_Count)]] => some (.q ((-32 ≤ c_Turn ∧ c_Turn ≤ 32) ∧ (0 ≤ c_Forward ∧ c_Forward ≤ 32) ∧ (0 ≤ bd_Turn ∧ bd_Turn ≤ 8) ∧ (0 ≤ bd_Length ∧ bd_Length ≤ 16) ∧ (0 ≤ bd_Slip ∧ bd_Slip ≤ 8) ∧ 1 ≤ bd_Range ∧ bd_Range ≤ 32 ∧ arcB a_From a_Count = true) (.o (.a [.v (.int .i64 ((rcL c_Turn c_Forward bd_Turn bd_Length bd_Slip bd_Range (arcL a_From a_Count)).1)), .v (.int .i64 ((rcL c_Turn c_Forward bd_Turn bd_Length bd_Slip bd_Range (arcL a_From a_Count)).2.1)), .v (.int .i64 ((rcL c_Turn c_Forward bd_Turn bd_Length bd_Slip bd_Range (arcL a_From a_Count)).2.2.1)), .v (.int .i64 ((rcL c_Turn c_Forward bd_Turn bd_Length bd_Slip bd_Range (arcL a_From a_Count)).2.2.2))])))
  | _ => none
theorem c25 : COk Tryz.prog 25 g25 := by
  refine cok_q Tryz.func25 x25_ok (by kernel_rfl) (cok_tab (cok_cons c50 (cok_cons c51 cok_nil))) ?_
  intro args_ E_ nn_ cr_ hg_
  unfold g25 at hg_
  split at hg_
  · rename_i c_Turn c_Forward bd_Turn bd_Length bd_Slip bd_Range a_From a_Count
    cases hg_
    refine ⟨_, _, rfl, 0, [], [.a [.v (.int .i64 c_Turn), .v (.int .i64 c_Forward)], .a [.v (.int .i64 bd_Turn), .v (.int .i64 bd_Length), .v (.int .i64 bd_Slip), .v (.int .i64 bd_Range)], .a [.v (.int .i64 a_From), .v (.int .i64 a_Count)]], [], .o (.a [.v (.int .i64 ((rcL c_Turn c_Forward bd_Turn bd_Length bd_Slip bd_Range (arcL a_From a_Count)).1)), .v (.int .i64 ((rcL c_Turn c_Forward bd_Turn bd_Length bd_Slip bd_Range (arcL a_From a_Count)).2.1)), .v (.int .i64 ((rcL c_Turn c_Forward bd_Turn bd_Length bd_Slip bd_Range (arcL a_From a_Count)).2.2.1)), .v (.int .i64 ((rcL c_Turn c_Forward bd_Turn bd_Length bd_Slip bd_Range (arcL a_From a_Count)).2.2.2))]), rfl, rfl, by simp only [push_cast, Nat.reduceLT, Nat.reduceAdd], by simp only [push_cast, Nat.reduceLT, Nat.reduceAdd], by simp only [push_cast, Nat.reduceLT, Nat.reduceAdd], rfl, trivial, rfl, ?_⟩
    intro hpre hlen
    refine ⟨trivial, ?_⟩
    simp (config := {maxSteps := 10000000}) only [x25, push_cast, Nat.reduceAdd, Nat.reduceSub, Nat.reduceLeDiff, Nat.reduceEqDiff, Nat.reduceBEq, Nat.reduceMul, Nat.reduceLT, ↓reduceIte, reduceCtorEq, Int.reduceLE, Int.reduceLT, Int.reduceEq, Int.reduceMul, Int.reduceAdd, Int.reduceSub, Int.reduceNeg, Int.reduceToNat, Int.reduceNe, g50, g51]
    refine vcLoop_upd (α := {k : Nat // k ≤ (arcL a_From a_Count).length}) [3, 4, 6, 7, 13, 14] 0 (fun s => [(15, .o (.c (.v (.int .i64 (s.1 : Nat)))))]) (fun s => [(4, .box [.v (.int .i64 ((rcK c_Turn c_Forward bd_Turn bd_Length bd_Slip bd_Range (arcL a_From a_Count) s.1).1)), .v (.int .i64 ((rcK c_Turn c_Forward bd_Turn bd_Length bd_Slip bd_Range (arcL a_From a_Count) s.1).2.1)), .v (.int .i64 ((rcK c_Turn c_Forward bd_Turn bd_Length bd_Slip bd_Range (arcL a_From a_Count) s.1).2.2.1)), .v (.int .i64 ((rcK c_Turn c_Forward bd_Turn bd_Length bd_Slip bd_Range (arcL a_From a_Count) s.1).2.2.2))] 74)]) (fun s => (arcL a_From a_Count).length - s.1) ⟨0, Nat.zero_le _⟩ ?_ ?_
    · simp only [push_cast, Nat.reduceAdd, Nat.reduceSub, Nat.reduceLeDiff, Nat.reduceEqDiff, Nat.reduceBEq, Nat.reduceMul, Nat.reduceLT, ↓reduceIte, reduceCtorEq, Int.reduceLE, Int.reduceLT, Int.reduceEq, Int.reduceMul, Int.reduceAdd, Int.reduceSub, Int.reduceNeg, Int.reduceToNat, Int.reduceNe, g50, g51]
      exact ⟨rfl, rfl, rfl, rfl⟩
    rintro ⟨k, hk⟩
    simp only [x25L0, push_cast, Nat.reduceAdd, Nat.reduceSub, Nat.reduceLeDiff, Nat.reduceEqDiff, Nat.reduceBEq, Nat.reduceMul, Nat.reduceLT, ↓reduceIte, reduceCtorEq, Int.reduceLE, Int.reduceLT, Int.reduceEq, Int.reduceMul, Int.reduceAdd, Int.reduceSub, Int.reduceNeg, Int.reduceToNat, Int.reduceNe, g50, g51]
    have hl := arcL_len hpre.2.2.2.2.2.2.2
    have hb := hpre.2.2.2.2.2.2.2
    unfold arcB at hb
    rw [decide_eq_true_eq] at hb
    refine ⟨fun hlt => ⟨hlt, hlt, fun h0 => ⟨⟨k + 1, by omega⟩, ⟨wrapI (by omega) (by omega), ?_⟩, by simp only; omega⟩, fun h0 => ⟨⟨k + 1, by omega⟩, ⟨wrapI (by omega) (by omega), ?_⟩, by simp only; omega⟩⟩, fun hge => ?_⟩
    · obtain rfl : k = 0 := by omega
      simp [rcK]
    · have h0 : k ≠ 0 := by omega
      simp [rcK, h0]
    · obtain rfl : k = (arcL a_From a_Count).length := by omega
      exact ⟨rfl, rfl, rfl, rfl⟩
  · cases hg_
def g24 : Con := fun args_ E_ nn_ => match args_ with
  | [.a [.v (.int .i64 b_X0), .v (.int .i64 b_Y0), .v (.int .i64 b_X1), .v (.int .i64 b_Y1), .v (.int .i64 b_From), .v (.int .i64 b_Count)], .a [.v (.int .i64 c_Turn), .v (.int .i64 c_Forward)], .a [.v (.int .i64 bd_Turn), .v (.int .i64 bd_Length), .v (.int .i64 bd_Slip), .v (.int .i64 bd_Range)]] => some (.q (True) (.o (.c (.v (.bool (boxB b_X0 b_Y0 b_X1 b_Y1 b_From b_Count && (decide ((-32 ≤ c_Turn ∧ c_Turn ≤ 32) ∧ (0 ≤ c_Forward ∧ c_Forward ≤ 32)) && decide ((0 ≤ bd_Turn ∧ bd_Turn ≤ 8) ∧ (0 ≤ bd_Length ∧ bd_Length ≤ 16) ∧ (0 ≤ bd_Slip ∧ bd_Slip ≤ 8) ∧ 1 ≤ bd_Range ∧ bd_Range ≤ 32))))))))
  | _ => none
theorem c24 : COk Tryz.prog 24 g24 := by
  refine cok_q Tryz.func24 x24_ok (by kernel_rfl) (cok_tab (cok_cons c22 (cok_cons c20 (cok_cons c21 cok_nil)))) ?_
  intro args_ E_ nn_ cr_ hg_
  unfold g24 at hg_
  split at hg_
  · rename_i b_X0 b_Y0 b_X1 b_Y1 b_From b_Count c_Turn c_Forward bd_Turn bd_Length bd_Slip bd_Range
    cases hg_
    refine ⟨_, _, rfl, 0, [], [.a [.v (.int .i64 b_X0), .v (.int .i64 b_Y0), .v (.int .i64 b_X1), .v (.int .i64 b_Y1), .v (.int .i64 b_From), .v (.int .i64 b_Count)], .a [.v (.int .i64 c_Turn), .v (.int .i64 c_Forward)], .a [.v (.int .i64 bd_Turn), .v (.int .i64 bd_Length), .v (.int .i64 bd_Slip), .v (.int .i64 bd_Range)]], [], .o (.c (.v (.bool (boxB b_X0 b_Y0 b_X1 b_Y1 b_From b_Count && (decide ((-32 ≤ c_Turn ∧ c_Turn ≤ 32) ∧ (0 ≤ c_Forward ∧ c_Forward ≤ 32)) && decide ((0 ≤ bd_Turn ∧ bd_Turn ≤ 8) ∧ (0 ≤ bd_Length ∧ bd_Length ≤ 16) ∧ (0 ≤ bd_Slip ∧ bd_Slip ≤ 8) ∧ 1 ≤ bd_Range ∧ bd_Range ≤ 32)))))), rfl, rfl, by simp only [push_cast, Nat.reduceLT, Nat.reduceAdd], by simp only [push_cast, Nat.reduceLT, Nat.reduceAdd], by simp only [push_cast, Nat.reduceLT, Nat.reduceAdd], rfl, trivial, rfl, ?_⟩
    intro hpre hlen
    refine ⟨trivial, ?_⟩
    simp (config := {maxSteps := 10000000}) only [x24, push_cast, Nat.reduceAdd, Nat.reduceSub, Nat.reduceLeDiff, Nat.reduceEqDiff, Nat.reduceBEq, Nat.reduceMul, Nat.reduceLT, ↓reduceIte, reduceCtorEq, Int.reduceLE, Int.reduceLT, Int.reduceEq, Int.reduceMul, Int.reduceAdd, Int.reduceSub, Int.reduceNeg, Int.reduceToNat, Int.reduceNe, g22, g20, g21]
    exact Bool.and_assoc _ _ _
  · cases hg_
def g27 : Con := fun args_ E_ nn_ => match args_ with
  | [.a [.v (.int .i64 b_X0), .v (.int .i64 b_Y0), .v (.int .i64 b_X1), .v (.int .i64 b_Y1), .v (.int .i64 b_From), .v (.int .i64 b_Count)], .a [.v (.int .i64 a_From), .v (.int .i64 a_Count)], .a [.v (.int .i64 r_X0), .v (.int .i64 r_Y0), .v (.int .i64 r_X1), .v (.int .i64 r_Y1)]] => some (.q (True) (.t [.a [.v (.int .i64 (movV (withA (⟨b_X0, b_Y0, b_X1, b_Y1, b_From, b_Count⟩ : BB) (a_From, a_Count)) r_X0 r_X1 r_Y0 r_Y1).X0), .v (.int .i64 (movV (withA (⟨b_X0, b_Y0, b_X1, b_Y1, b_From, b_Count⟩ : BB) (a_From, a_Count)) r_X0 r_X1 r_Y0 r_Y1).Y0), .v (.int .i64 (movV (withA (⟨b_X0, b_Y0, b_X1, b_Y1, b_From, b_Count⟩ : BB) (a_From, a_Count)) r_X0 r_X1 r_Y0 r_Y1).X1), .v (.int .i64 (movV (withA (⟨b_X0, b_Y0, b_X1, b_Y1, b_From, b_Count⟩ : BB) (a_From, a_Count)) r_X0 r_X1 r_Y0 r_Y1).Y1), .v (.int .i64 (movV (withA (⟨b_X0, b_Y0, b_X1, b_Y1, b_From, b_Count⟩ : BB) (a_From, a_Count)) r_X0 r_X1 r_Y0 r_Y1).F), .v (.int .i64 (movV (withA (⟨b_X0, b_Y0, b_X1, b_Y1, b_From, b_Count⟩ : BB) (a_From, a_Count)) r_X0 r_X1 r_Y0 r_Y1).N)], .c (.v (.int .i64 (movE (withA (⟨b_X0, b_Y0, b_X1, b_Y1, b_From, b_Count⟩ : BB) (a_From, a_Count)) r_X0 r_X1 r_Y0 r_Y1)))]))
  | _ => none
theorem c27 : COk Tryz.prog 27 g27 := by
  refine cok_q Tryz.func27 x27_ok (by kernel_rfl) (cok_tab (cok_cons c52 cok_nil)) ?_
  intro args_ E_ nn_ cr_ hg_
  unfold g27 at hg_
  split at hg_
  · rename_i b_X0 b_Y0 b_X1 b_Y1 b_From b_Count a_From a_Count r_X0 r_Y0 r_X1 r_Y1
    cases hg_
    refine ⟨_, _, rfl, 0, [], [.a [.v (.int .i64 b_X0), .v (.int .i64 b_Y0), .v (.int .i64 b_X1), .v (.int .i64 b_Y1), .v (.int .i64 b_From), .v (.int .i64 b_Count)], .a [.v (.int .i64 a_From), .v (.int .i64 a_Count)], .a [.v (.int .i64 r_X0), .v (.int .i64 r_Y0), .v (.int .i64 r_X1), .v (.int .i64 r_Y1)]], [], .t [.a [.v (.int .i64 (movV (withA (⟨b_X0, b_Y0, b_X1, b_Y1, b_From, b_Count⟩ : BB) (a_From, a_Count)) r_X0 r_X1 r_Y0 r_Y1).X0), .v (.int .i64 (movV (withA (⟨b_X0, b_Y0, b_X1, b_Y1, b_From, b_Count⟩ : BB) (a_From, a_Count)) r_X0 r_X1 r_Y0 r_Y1).Y0), .v (.int .i64 (movV (withA (⟨b_X0, b_Y0, b_X1, b_Y1, b_From, b_Count⟩ : BB) (a_From, a_Count)) r_X0 r_X1 r_Y0 r_Y1).X1), .v (.int .i64 (movV (withA (⟨b_X0, b_Y0, b_X1, b_Y1, b_From, b_Count⟩ : BB) (a_From, a_Count)) r_X0 r_X1 r_Y0 r_Y1).Y1), .v (.int .i64 (movV (withA (⟨b_X0, b_Y0, b_X1, b_Y1, b_From, b_Count⟩ : BB) (a_From, a_Count)) r_X0 r_X1 r_Y0 r_Y1).F), .v (.int .i64 (movV (withA (⟨b_X0, b_Y0, b_X1, b_Y1, b_From, b_Count⟩ : BB) (a_From, a_Count)) r_X0 r_X1 r_Y0 r_Y1).N)], .c (.v (.int .i64 (movE (withA (⟨b_X0, b_Y0, b_X1, b_Y1, b_From, b_Count⟩ : BB) (a_From, a_Count)) r_X0 r_X1 r_Y0 r_Y1)))], rfl, rfl, by simp only [push_cast, Nat.reduceLT, Nat.reduceAdd], by simp only [push_cast, Nat.reduceLT, Nat.reduceAdd], by simp only [push_cast, Nat.reduceLT, Nat.reduceAdd], rfl, trivial, rfl, ?_⟩
    intro hpre hlen
    refine ⟨trivial, ?_⟩
    simp (config := {maxSteps := 10000000}) only [x27, push_cast, Nat.reduceAdd, Nat.reduceSub, Nat.reduceLeDiff, Nat.reduceEqDiff, Nat.reduceBEq, Nat.reduceMul, Nat.reduceLT, ↓reduceIte, reduceCtorEq, Int.reduceLE, Int.reduceLT, Int.reduceEq, Int.reduceMul, Int.reduceAdd, Int.reduceSub, Int.reduceNeg, Int.reduceToNat, Int.reduceNe, g52]
    exact ⟨by rfl, ⟨rfl, rfl, rfl, rfl, rfl, rfl⟩, rfl⟩
  · cases hg_
def g23 : Con := fun args_ E_ nn_ => match args_ with
  | [.a [.v (.int .i64 b_X0), .v (.int .i64 b_Y0), .v (.int .i64 b_X1), .v (.int .i64 b_Y1), .v (.int .i64 b_From), .v (.int .i64 b_Count)], .a [.v (.int .i64 c_Turn), .v (.int .i64 c_Forward)], .a [.v (.int .i64 bd_Turn), .v (.int .i64 bd_Length), .v (.int .i64 bd_Slip), .v (.int .i64 bd_Range)]] => some (.q (boxB b_X0 b_Y0 b_X1 b_Y1 b_From b_Count = true ∧ (-32 ≤ c_Turn ∧ c_Turn ≤ 32) ∧ (0 ≤ c_Forward ∧ c_Forward ≤ 32) ∧ (0 ≤ bd_Turn ∧ bd_Turn ≤ 8) ∧ (0 ≤ bd_Length ∧ bd_Length ≤ 16) ∧ (0 ≤ bd_Slip ∧ bd_Slip ≤ 8) ∧ 1 ≤ bd_Range ∧ bd_Range ≤ 32) (.t [.a [.v (.int .i64 (imgV (⟨b_X0, b_Y0, b_X1, b_Y1, b_From, b_Count⟩ : BB) c_Turn c_Forward bd_Turn bd_Length bd_Slip bd_Range).X0), .v (.int .i64 (imgV (⟨b_X0, b_Y0, b_X1, b_Y1, b_From, b_Count⟩ : BB) c_Turn c_Forward bd_Turn bd_Length bd_Slip bd_Range).Y0), .v (.int .i64 (imgV (⟨b_X0, b_Y0, b_X1, b_Y1, b_From, b_Count⟩ : BB) c_Turn c_Forward bd_Turn bd_Length bd_Slip bd_Range).X1), .v (.int .i64 (imgV (⟨b_X0, b_Y0, b_X1, b_Y1, b_From, b_Count⟩ : BB) c_Turn c_Forward bd_Turn bd_Length bd_Slip bd_Range).Y1), .v (.int .i64 (imgV (⟨b_X0, b_Y0, b_X1, b_Y1, b_From, b_Count⟩ : BB) c_Turn c_Forward bd_Turn bd_Length bd_Slip bd_Range).F), .v (.int .i64 (imgV (⟨b_X0, b_Y0, b_X1, b_Y1, b_From, b_Count⟩ : BB) c_Turn c_Forward bd_Turn bd_Length bd_Slip bd_Range).N)], .c (.v (.int .i64 (imgE (⟨b_X0, b_Y0, b_X1, b_Y1, b_From, b_Count⟩ : BB) c_Turn c_Forward bd_Turn bd_Length bd_Slip bd_Range)))]))
  | _ => none
theorem c23 : COk Tryz.prog 23 g23 := by
  refine cok_q Tryz.func23 x23_ok (by kernel_rfl) (cok_tab (cok_cons c24 (cok_cons c28 (cok_cons c25 (cok_cons c27 cok_nil))))) ?_
  intro args_ E_ nn_ cr_ hg_
  unfold g23 at hg_
  split at hg_
  · rename_i b_X0 b_Y0 b_X1 b_Y1 b_From b_Count c_Turn c_Forward bd_Turn bd_Length bd_Slip bd_Range
    cases hg_
    refine ⟨_, _, rfl, 0, [], [.a [.v (.int .i64 b_X0), .v (.int .i64 b_Y0), .v (.int .i64 b_X1), .v (.int .i64 b_Y1), .v (.int .i64 b_From), .v (.int .i64 b_Count)], .a [.v (.int .i64 c_Turn), .v (.int .i64 c_Forward)], .a [.v (.int .i64 bd_Turn), .v (.int .i64 bd_Length), .v (.int .i64 bd_Slip), .v (.int .i64 bd_Range)]], [], .t [.a [.v (.int .i64 (imgV (⟨b_X0, b_Y0, b_X1, b_Y1, b_From, b_Count⟩ : BB) c_Turn c_Forward bd_Turn bd_Length bd_Slip bd_Range).X0), .v (.int .i64 (imgV (⟨b_X0, b_Y0, b_X1, b_Y1, b_From, b_Count⟩ : BB) c_Turn c_Forward bd_Turn bd_Length bd_Slip bd_Range).Y0), .v (.int .i64 (imgV (⟨b_X0, b_Y0, b_X1, b_Y1, b_From, b_Count⟩ : BB) c_Turn c_Forward bd_Turn bd_Length bd_Slip bd_Range).X1), .v (.int .i64 (imgV (⟨b_X0, b_Y0, b_X1, b_Y1, b_From, b_Count⟩ : BB) c_Turn c_Forward bd_Turn bd_Length bd_Slip bd_Range).Y1), .v (.int .i64 (imgV (⟨b_X0, b_Y0, b_X1, b_Y1, b_From, b_Count⟩ : BB) c_Turn c_Forward bd_Turn bd_Length bd_Slip bd_Range).F), .v (.int .i64 (imgV (⟨b_X0, b_Y0, b_X1, b_Y1, b_From, b_Count⟩ : BB) c_Turn c_Forward bd_Turn bd_Length bd_Slip bd_Range).N)], .c (.v (.int .i64 (imgE (⟨b_X0, b_Y0, b_X1, b_Y1, b_From, b_Count⟩ : BB) c_Turn c_Forward bd_Turn bd_Length bd_Slip bd_Range)))], rfl, rfl, by simp only [push_cast, Nat.reduceLT, Nat.reduceAdd], by simp only [push_cast, Nat.reduceLT, Nat.reduceAdd], by simp only [push_cast, Nat.reduceLT, Nat.reduceAdd], rfl, trivial, rfl, ?_⟩
    intro hpre hlen
    refine ⟨trivial, ?_⟩
    simp (config := {maxSteps := 10000000}) only [x23, push_cast, Nat.reduceAdd, Nat.reduceSub, Nat.reduceLeDiff, Nat.reduceEqDiff, Nat.reduceBEq, Nat.reduceMul, Nat.reduceLT, ↓reduceIte, reduceCtorEq, Int.reduceLE, Int.reduceLT, Int.reduceEq, Int.reduceMul, Int.reduceAdd, Int.reduceSub, Int.reduceNeg, Int.reduceToNat, Int.reduceNe, g24, g28, g25, g27]
    obtain ⟨h1, h2, h3, h4, h5, h6, h7⟩ := hpre
    have hp := box_parts h1
    have ha : arcB b_From b_Count = true := by unfold arcB; rw [decide_eq_true_eq]; omega
    refine ⟨fun h => ?_, ?_⟩
    · rw [h1, decide_eq_true (p := (-32 ≤ c_Turn ∧ c_Turn ≤ 32) ∧ 0 ≤ c_Forward ∧ c_Forward ≤ 32) ⟨h2, h3⟩, decide_eq_true (p := (0 ≤ bd_Turn ∧ bd_Turn ≤ 8) ∧ (0 ≤ bd_Length ∧ bd_Length ≤ 16) ∧ (0 ≤ bd_Slip ∧ bd_Slip ≤ 8) ∧ 1 ≤ bd_Range ∧ bd_Range ≤ 32) ⟨h4, h5, h6, h7⟩] at h; cases h
    intro k0 k1 k2 k3 k4 k5 k6 k7 k8 k9 k10 k11 k12
    exact ⟨⟨ha, h2, h4⟩, ⟨h2, h3, h4, h5, h6, h7.1, h7.2, (trnA_ok ha h4).1⟩, by rfl, ⟨rfl, rfl, rfl, rfl, rfl, rfl⟩, rfl⟩
  · cases hg_
def g10 : Con := fun args_ E_ nn_ => match args_ with
  | [.a [.v (.int .i64 b_X0), .v (.int .i64 b_Y0), .v (.int .i64 b_X1), .v (.int .i64 b_Y1), .v (.int .i64 b_From), .v (.int .i64 b_Count)], .a [.v (.int .i64 c_Turn), .v (.int .i64 c_Forward)], .a [.v (.int .i64 bd_Turn), .v (.int .i64 bd_Length), .v (.int .i64 bd_Slip), .v (.int .i64 bd_Range)]] => some (.q (boxB b_X0 b_Y0 b_X1 b_Y1 b_From b_Count = true ∧ (-32 ≤ c_Turn ∧ c_Turn ≤ 32) ∧ (0 ≤ c_Forward ∧ c_Forward ≤ 32) ∧ (0 ≤ bd_Turn ∧ bd_Turn ≤ 8) ∧ (0 ≤ bd_Length ∧ bd_Length ≤ 16) ∧ (0 ≤ bd_Slip ∧ bd_Slip ≤ 8) ∧ 1 ≤ bd_Range ∧ bd_Range ≤ 32) (.t [.a [.v (.int .i64 (rewV (⟨b_X0, b_Y0, b_X1, b_Y1, b_From, b_Count⟩ : BB) c_Turn c_Forward bd_Turn bd_Length bd_Slip bd_Range).X0), .v (.int .i64 (rewV (⟨b_X0, b_Y0, b_X1, b_Y1, b_From, b_Count⟩ : BB) c_Turn c_Forward bd_Turn bd_Length bd_Slip bd_Range).Y0), .v (.int .i64 (rewV (⟨b_X0, b_Y0, b_X1, b_Y1, b_From, b_Count⟩ : BB) c_Turn c_Forward bd_Turn bd_Length bd_Slip bd_Range).X1), .v (.int .i64 (rewV (⟨b_X0, b_Y0, b_X1, b_Y1, b_From, b_Count⟩ : BB) c_Turn c_Forward bd_Turn bd_Length bd_Slip bd_Range).Y1), .v (.int .i64 (rewV (⟨b_X0, b_Y0, b_X1, b_Y1, b_From, b_Count⟩ : BB) c_Turn c_Forward bd_Turn bd_Length bd_Slip bd_Range).F), .v (.int .i64 (rewV (⟨b_X0, b_Y0, b_X1, b_Y1, b_From, b_Count⟩ : BB) c_Turn c_Forward bd_Turn bd_Length bd_Slip bd_Range).N)], .c (.v (.int .i64 (rewE (⟨b_X0, b_Y0, b_X1, b_Y1, b_From, b_Count⟩ : BB) c_Turn c_Forward bd_Turn bd_Length bd_Slip bd_Range)))]))
  | _ => none
theorem c10 : COk Tryz.prog 10 g10 := by
  refine cok_q Tryz.func10 x10_ok (by kernel_rfl) (cok_tab (cok_cons c24 (cok_cons c28 (cok_cons c25 (cok_cons c27 (cok_cons c26 cok_nil)))))) ?_
  intro args_ E_ nn_ cr_ hg_
  unfold g10 at hg_
  split at hg_
  · rename_i b_X0 b_Y0 b_X1 b_Y1 b_From b_Count c_Turn c_Forward bd_Turn bd_Length bd_Slip bd_Range
    cases hg_
    refine ⟨_, _, rfl, 0, [], [.a [.v (.int .i64 b_X0), .v (.int .i64 b_Y0), .v (.int .i64 b_X1), .v (.int .i64 b_Y1), .v (.int .i64 b_From), .v (.int .i64 b_Count)], .a [.v (.int .i64 c_Turn), .v (.int .i64 c_Forward)], .a [.v (.int .i64 bd_Turn), .v (.int .i64 bd_Length), .v (.int .i64 bd_Slip), .v (.int .i64 bd_Range)]], [], .t [.a [.v (.int .i64 (rewV (⟨b_X0, b_Y0, b_X1, b_Y1, b_From, b_Count⟩ : BB) c_Turn c_Forward bd_Turn bd_Length bd_Slip bd_Range).X0), .v (.int .i64 (rewV (⟨b_X0, b_Y0, b_X1, b_Y1, b_From, b_Count⟩ : BB) c_Turn c_Forward bd_Turn bd_Length bd_Slip bd_Range).Y0), .v (.int .i64 (rewV (⟨b_X0, b_Y0, b_X1, b_Y1, b_From, b_Count⟩ : BB) c_Turn c_Forward bd_Turn bd_Length bd_Slip bd_Range).X1), .v (.int .i64 (rewV (⟨b_X0, b_Y0, b_X1, b_Y1, b_From, b_Count⟩ : BB) c_Turn c_Forward bd_Turn bd_Length bd_Slip bd_Range).Y1), .v (.int .i64 (rewV (⟨b_X0, b_Y0, b_X1, b_Y1, b_From, b_Count⟩ : BB) c_Turn c_Forward bd_Turn bd_Length bd_Slip bd_Range).F), .v (.int .i64 (rewV (⟨b_X0, b_Y0, b_X1, b_Y1, b_From, b_Count⟩ : BB) c_Turn c_Forward bd_Turn bd_Length bd_Slip bd_Range).N)], .c (.v (.int .i64 (rewE (⟨b_X0, b_Y0, b_X1, b_Y1, b_From, b_Count⟩ : BB) c_Turn c_Forward bd_Turn bd_Length bd_Slip bd_Range)))], rfl, rfl, by simp only [push_cast, Nat.reduceLT, Nat.reduceAdd], by simp only [push_cast, Nat.reduceLT, Nat.reduceAdd], by simp only [push_cast, Nat.reduceLT, Nat.reduceAdd], rfl, trivial, rfl, ?_⟩
    intro hpre hlen
    refine ⟨trivial, ?_⟩
    simp (config := {maxSteps := 10000000}) only [x10, push_cast, Nat.reduceAdd, Nat.reduceSub, Nat.reduceLeDiff, Nat.reduceEqDiff, Nat.reduceBEq, Nat.reduceMul, Nat.reduceLT, ↓reduceIte, reduceCtorEq, Int.reduceLE, Int.reduceLT, Int.reduceEq, Int.reduceMul, Int.reduceAdd, Int.reduceSub, Int.reduceNeg, Int.reduceToNat, Int.reduceNe, g24, g28, g25, g27, g26]
    obtain ⟨h1, h2, h3, h4, h5, h6, h7⟩ := hpre
    have hp := box_parts h1
    have ha : arcB b_From b_Count = true := by unfold arcB; rw [decide_eq_true_eq]; omega
    refine ⟨fun h => ?_, ?_⟩
    · rw [h1, decide_eq_true (p := (-32 ≤ c_Turn ∧ c_Turn ≤ 32) ∧ 0 ≤ c_Forward ∧ c_Forward ≤ 32) ⟨h2, h3⟩, decide_eq_true (p := (0 ≤ bd_Turn ∧ bd_Turn ≤ 8) ∧ (0 ≤ bd_Length ∧ bd_Length ≤ 16) ∧ (0 ≤ bd_Slip ∧ bd_Slip ≤ 8) ∧ 1 ≤ bd_Range ∧ bd_Range ≤ 32) ⟨h4, h5, h6, h7⟩] at h; cases h
    intro k0 k1 k2 k3 k4 k5 k6 k7 k8 k9 k10 k11 k12
    have hr := (rcL_ok (f := b_From) (n := b_Count) (T := c_Turn) (F := c_Forward) (show vBd bd_Turn bd_Length bd_Slip bd_Range by unfold vBd; omega) (show vCm c_Turn c_Forward by unfold vCm; omega)).1
    unfold rBd at hr
    rw [wrapI (n := -c_Turn) (by omega) (by omega), wrapI (n := -(rcL c_Turn c_Forward bd_Turn bd_Length bd_Slip bd_Range (arcL b_From b_Count)).2.2.1) (by omega) (by omega), wrapI (n := -(rcL c_Turn c_Forward bd_Turn bd_Length bd_Slip bd_Range (arcL b_From b_Count)).1) (by omega) (by omega), wrapI (n := -(rcL c_Turn c_Forward bd_Turn bd_Length bd_Slip bd_Range (arcL b_From b_Count)).2.2.2) (by omega) (by omega), wrapI (n := -(rcL c_Turn c_Forward bd_Turn bd_Length bd_Slip bd_Range (arcL b_From b_Count)).2.1) (by omega) (by omega)]
    exact ⟨⟨h2, h3, h4, h5, h6, h7.1, h7.2, ha⟩, by rfl, ⟨ha, by omega, h4⟩, by rfl, ⟨rfl, rfl, rfl, rfl, rfl, rfl⟩, rfl⟩
  · cases hg_
end Go.Proofs.YthmobbecockeoaaGreat
