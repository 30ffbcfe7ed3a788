/- A part of the proof of a statement about this seat: how a function is stepped through, and plain laws. No conditions. -/
import Derived.Test.YtjcpefnbongmaaaRows
import Derived.Test.YtjcpefnbongmaaaSz3
import Derived.Test.YtjcpefnbongmaaaV1
import Derived.KernelRfl
import Derived.Test.YtjcpefnbongmaaaP04
set_option linter.unusedVariables false
set_option linter.unusedSimpArgs false
set_option maxRecDepth 20000
namespace Go.Proofs.Ytjcpefnbongmaaa
open Go.Sx Go.Way
/-! ### Blocked ways -/
def cntV (W H : Int) (L : List Int) (v : Int) : Int := if planB W H L = true then cnt8 L v else 0
def buildB (W H : Int) (L : List Int) : Bool := planB W H L && L.all fun x => x != 0
theorem cnt8_pos {L : List Int} (hu : u8s L) : 0 < cnt8 L 0 ↔ (0 : Int) ∈ L := by
  have e : cnt8 L 0 = ((L.map fun x => UInt8.ofNat x.toNat).count 0 : Nat) := rfl
  rw [e]
  constructor
  · intro h
    have h2 : (0 : UInt8) ∈ L.map fun x => UInt8.ofNat x.toNat := List.count_pos_iff.1 (by omega)
    rw [List.mem_map] at h2
    obtain ⟨x, hx, hz⟩ := h2
    have b := hu x hx
    have : x.toNat % 256 = 0 := by
      have := congrArg UInt8.toNat hz
      simpa using this
    have hx0 : x = 0 := by omega
    rw [← hx0]; exact hx
  · intro h
    have h2 : (0 : UInt8) ∈ L.map fun x => UInt8.ofNat x.toNat := List.mem_map.2 ⟨0, h, rfl⟩
    have := List.count_pos_iff.2 h2
    omega
theorem build_iff {W H : Int} {L : List Int} (hu : u8s L) : buildB W H L = true ↔ planB W H L = true ∧ ¬ 0 < cntV W H L 0 := by
  unfold buildB cntV
  rw [Bool.and_eq_true, List.all_eq_true]
  constructor
  · rintro ⟨h1, h2⟩
    refine ⟨h1, ?_⟩
    rw [if_pos h1, cnt8_pos hu]
    intro h
    have := h2 0 h
    simp at this
  · rintro ⟨h1, h2⟩
    rw [if_pos h1, cnt8_pos hu] at h2
    refine ⟨h1, fun x hx => ?_⟩
    rw [bne_iff_ne]
    intro e
    subst e
    exact h2 hx
def wayB (fx fy tx ty : Int) : Bool := decide (((-1048576 ≤ fx ∧ fx ≤ 1048576) ∧ -1048576 ≤ fy ∧ fy ≤ 1048576) ∧ ((-1048576 ≤ tx ∧ tx ≤ 1048576) ∧ -1048576 ≤ ty ∧ ty ≤ 1048576) ∧ (-1024 ≤ tx - fx ∧ tx - fx ≤ 1024) ∧ -1024 ≤ ty - fy ∧ ty - fy ≤ 1024)
def hitW (W H : Int) (L : List Int) (fx fy tx ty x y : Int) : Bool := decide (atB W H L x y = 2) && touchB fx fy tx ty (x * 64) (y * 64) (x * 64 + 64) (y * 64 + 64) 20
noncomputable def blkB (W H : Int) (L : List Int) (fx fy tx ty : Int) : Bool := @decide (buildB W H L = false ∨ wayB fx fy tx ty = false ∨ ∃ x y, hitW W H L fx fy tx ty x y = true) (Classical.propDecidable _)
theorem blk_iff {W H : Int} {L : List Int} {fx fy tx ty : Int} : blkB W H L fx fy tx ty = true ↔ (buildB W H L = false ∨ wayB fx fy tx ty = false ∨ ∃ x y, hitW W H L fx fy tx ty x y = true) := by
  unfold blkB
  exact ⟨fun h => @of_decide_eq_true _ (Classical.propDecidable _) h, fun h => @decide_eq_true _ (Classical.propDecidable _) h⟩
theorem blk_no {W H : Int} {L : List Int} {fx fy tx ty : Int} (h1 : buildB W H L = true) (h2 : wayB fx fy tx ty = true) (h3 : ∀ x y, hitW W H L fx fy tx ty x y = false) : blkB W H L fx fy tx ty = false := by
  rw [Bool.eq_false_iff]
  intro h
  rcases blk_iff.1 h with h | h | ⟨x, y, h⟩
  · rw [h1] at h; cases h
  · rw [h2] at h; cases h
  · rw [h3] at h; cases h
theorem touch_rng {fx fy tx ty x y : Int} (h : touchB fx fy tx ty (x * 64) (y * 64) (x * 64 + 64) (y * 64 + 64) 20 = true) :
    (x * 64 - 20 ≤ max fx tx ∧ min fx tx ≤ x * 64 + 84) ∧ y * 64 - 20 ≤ max fy ty ∧ min fy ty ≤ y * 64 + 84 := by
  unfold touchB at h
  rw [Bool.and_eq_true] at h
  have := comes_bd (by omega) (by omega) (by omega) h.2
  omega
theorem hit_rng {W H : Int} {L : List Int} {fx fy tx ty x y : Int} (h : hitW W H L fx fy tx ty x y = true) :
    ((min fx tx - 20) / 64 - 1 ≤ x ∧ x ≤ (max fx tx + 20) / 64) ∧ ((min fy ty - 20) / 64 - 1 ≤ y ∧ y ≤ (max fy ty + 20) / 64) ∧ (min fx tx / 64 - 1 ≤ x ∧ x ≤ max fx tx / 64 + 1) ∧ min fy ty / 64 - 1 ≤ y ∧ y ≤ max fy ty / 64 + 1 := by
  unfold hitW at h
  rw [Bool.and_eq_true] at h
  have := touch_rng h.2
  omega
def g84 : Con := cntCon
theorem c84 : COk Try.prog 84 g84 := cok_count fun args w => run_callFunc_extern Try.func84 (by kernel_rfl) (by kernel_rfl) (by kernel_rfl) (e := Extern.BytealgCount.count) (by kernel_rfl) args w
def x71L0 : XC := (.block 1 (.seq (.reg false [O1 21 .mv 0, O1 22 .mv 1, O2 23 (.call 85) 21 22, O1 6 .mv 23]) (.seq (.seq (.reg false [O1 24 .mv 6, K2 25 (.bin .eql) 24 (iV (-1))]) (.cond (.t 25) (.seq (.reg false [O1 26 .mv 5, O1 4 .mv 26]) .ret) .skip)) (.seq (.reg false [O1 27 .mv 5, K2 28 (.bin .add) 27 (iV 1), O1 5 .mv 28]) (.reg false [O1 29 .mv 0, O1 30 .mv 6, O1 31 .mv 1, O1 32 .lenS 31, O2 33 (.bin .add) 30 32, O2 34 (.slc 1 true false false) 29 33, O1 0 .mv 34])))))
def x71 : XFn := ⟨35, (.seq (.reg false [K1 4 .mv (iV 0)]) (.seq (.seq (.reg false [O1 7 .mv 1, O1 8 .lenS 7, K2 9 (.bin .eql) 8 (iV 0)]) (.cond (.t 9) (.seq (.reg false [O1 10 .mv 0, O1 11 (.call 83) 10, K2 12 (.bin .add) 11 (iV 1), O1 4 .mv 12]) .ret) .skip)) (.seq (.seq (.reg false [O1 13 .mv 1, O1 14 .lenS 13, K2 15 (.bin .eql) 14 (iV 1)]) (.cond (.t 15) (.seq (.reg false [O1 16 .mv 0, O1 17 .mv 1, K2 18 (.ixS 1) 17 (iV 0), O1 19 .load1 18, O2 20 (.call 84) 16 19, O1 4 .mv 20]) .ret) .skip)) (.seq (.reg false [K1 5 .mv (iV 0)]) (.block 0 (.loop x71L0)))))), [(.s 4)]⟩
theorem x71_ok : xfn Try.prog Try.f71 = some x71.er := by kernel_rfl
def x55 : XFn := ⟨13, (.seq (.reg false [O1 2 (.box 55) 0, K1 4 .mv (iV 0)]) (.seq (.seq (.reg false [O1 5 (.loadN 3) 2, O1 6 (.call 54) 5, O1 7 (.un .not) 6]) (.cond (.t 7) (.seq (.reg false [K1 4 .mv (iV 0)]) .ret) .skip)) (.seq (.reg false [O1 8 (.fld 2) 2, O1 9 .load1 8, O1 10 .mv 1, ⟨(some 11), (.slit 5 1 1 [(.int .u8 0)] [(0, 1)]), [(.t 10)], none⟩, O2 12 (.call 71) 9 11, O1 4 .mv 12]) .ret))), [(.s 4)]⟩
theorem x55_ok : xfn Try.prog Try.f55 = some x55.er := by kernel_rfl
def x48L0 : XC := (.seq (.seq (.reg false [O1 7 .mv 3, O1 8 (.fld 2) 1, O1 9 .load1 8, O1 10 .lenS 9, O2 11 (.bin .lss) 7 10]) (.cond (.t 11) .skip (.exit 0))) (.seq (.block 1 (.seq (.reg false [O1 14 (.fld 2) 1, O1 15 .load1 14, O1 16 .mv 3, O2 17 (.ixS 1) 15 16, O1 18 .load1 17, K2 19 (.bin .eql) 18 (.int .u8 0)]) (.cond (.t 19) (.seq (.reg false [K1 2 .mv (.bool false)]) .ret) .skip))) (.reg false [O1 12 .mv 3, K2 13 (.bin .add) 12 (iV 1), O1 3 .mv 13])))
def x48 : XFn := ⟨20, (.seq (.reg false [O1 1 (.box 55) 0, K1 2 .mv (.bool false)]) (.seq (.seq (.reg false [O1 4 (.loadN 3) 1, O1 5 (.call 58) 4, O1 6 (.un .not) 5]) (.cond (.t 6) (.seq (.reg false [K1 2 .mv (.bool false)]) .ret) .skip)) (.seq (.seq (.reg false [K1 3 .mv (iV 0)]) (.block 0 (.loop x48L0))) (.seq (.reg false [K1 2 .mv (.bool true)]) .ret)))), [(.s 2)]⟩
theorem x48_ok : xfn Try.prog Try.f48 = some x48.er := by kernel_rfl
def x43 : XFn := ⟨15, (.seq (.reg false [K1 6 .mv (.bool false)]) (.seq (.reg false [O1 7 .mv 0, O1 8 .mv 1, O2 9 (.bin .geq) 7 8, O1 10 .mv 9, G1 11 .mv 0 10 true, G1 12 .mv 2 10 true, G2 13 (.bin .leq) 11 12 10 true, ⟨(some 14), .pick, [(.t 10), (.t 13), (.k (.bool false))], none⟩, O1 6 .mv 14]) .ret)), [(.s 6)]⟩
theorem x43_ok : xfn Try.prog Try.f43 = some x43.er := by kernel_rfl
def x34 : XFn := ⟨10, (.seq (.reg false [K1 4 .mv (.bool false)]) (.seq (.reg false [O1 5 .mv 0, O1 6 .mv 1, O1 7 (.un .neg) 6, O1 8 .mv 1, ⟨(some 9), (.call 43), [(.t 5), (.t 7), (.t 8)], none⟩, O1 4 .mv 9]) .ret)), [(.s 4)]⟩
theorem x34_ok : xfn Try.prog Try.f34 = some x34.er := by kernel_rfl
def x37 : XFn := ⟨11, (.seq (.reg false [O1 1 (.box 57) 0, K1 2 .mv (.bool false)]) (.seq (.reg false [O1 3 (.fld 0) 1, O1 4 .load1 3, K2 5 (.call 34) 4 (iV 1048576), O1 6 .mv 5, G1 7 (.fld 1) 1 6 true, G1 8 .load1 7 6 true, GK 9 (.call 34) 8 (iV 1048576) 6 true, ⟨(some 10), .pick, [(.t 6), (.t 9), (.k (.bool false))], none⟩, O1 2 .mv 10]) .ret)), [(.s 2)]⟩
theorem x37_ok : xfn Try.prog Try.f37 = some x37.er := by kernel_rfl
def x56 : XFn := ⟨16, (.seq (.reg false [K1 4 .mv (iV 0)]) (.seq (.reg false [O1 6 .mv 0, O1 7 .mv 1, O2 8 (.bin .quo) 6 7, O1 5 .mv 8]) (.seq (.seq (.reg false [O1 9 .mv 0, O1 10 .mv 1, O2 11 (.bin .rem) 9 10, K2 12 (.bin .lss) 11 (iV 0)]) (.cond (.t 12) (.reg false [O1 13 .mv 5, K2 14 (.bin .sub) 13 (iV 1), O1 5 .mv 14]) .skip)) (.seq (.reg false [O1 15 .mv 5, O1 4 .mv 15]) .ret)))), [(.s 4)]⟩
theorem x56_ok : xfn Try.prog Try.f56 = some x56.er := by kernel_rfl
def x28L0 : XC := (.seq (.seq (.reg false [O1 85 .mv 12, O1 86 .mv 8, O2 87 (.bin .leq) 85 86]) (.cond (.t 87) .skip (.exit 2))) (.seq (.block 3 (.seq (.seq (.reg false [O1 90 .mv 12, K2 91 (.bin .geq) 90 (iV 0), O1 92 .mv 91, G1 93 .mv 12 92 true, G1 94 (.fld 0) 3 92 true, G1 95 .load1 94 92 true, G2 96 (.bin .lss) 93 95 92 true, ⟨(some 97), .pick, [(.t 92), (.t 96), (.k (.bool false))], none⟩, O1 98 .mv 97, G1 99 .mv 11 98 true, GK 100 (.bin .geq) 99 (iV 0) 98 true, ⟨(some 101), .pick, [(.t 98), (.t 100), (.k (.bool false))], none⟩, O1 102 .mv 101, G1 103 .mv 11 102 true, G1 104 (.fld 1) 3 102 true, G1 105 .load1 104 102 true, G2 106 (.bin .lss) 103 105 102 true, ⟨(some 107), .pick, [(.t 102), (.t 106), (.k (.bool false))], none⟩, O1 108 .mv 107, G1 109 (.fld 2) 3 108 true, G1 110 .load1 109 108 true, G1 111 .mv 11 108 true, G1 112 (.fld 0) 3 108 true, G1 113 .load1 112 108 true, G2 114 (.bin .mul) 111 113 108 true, G1 115 .mv 12 108 true, G2 116 (.bin .add) 114 115 108 true, G2 117 (.ixS 1) 110 116 108 true, G1 118 .load1 117 108 true, GK 119 (.bin .neq) 118 (.int .u8 2) 108 true, ⟨(some 120), .pick, [(.t 108), (.t 119), (.k (.bool false))], none⟩]) (.cond (.t 120) (.exit 3) .skip)) (.seq (.reg false [O1 121 .mv 12, K2 122 (.bin .mul) 121 (iV 64), O1 123 .mv 11, K2 124 (.bin .mul) 123 (iV 64), O1 125 .mv 12, K2 126 (.bin .add) 125 (iV 1), K2 127 (.bin .mul) 126 (iV 64), O1 128 .mv 11, K2 129 (.bin .add) 128 (iV 1), K2 130 (.bin .mul) 129 (iV 64), ⟨(some 131), (.build [(iV 0), (iV 0), (iV 0), (iV 0)] [(0, 1), (1, 1), (2, 1), (3, 1)]), [(.t 122), (.t 124), (.t 127), (.t 130)], none⟩, ⟨(some 13), (.alloc 38 [(iV 0), (iV 0), (iV 0), (iV 0)]), [], none⟩, ⟨none, (.store 4), [(.t 13), (.t 131)], none⟩]) (.seq (.reg false [O1 132 (.loadN 2) 4, O1 133 (.loadN 2) 5, O1 134 (.loadN 4) 13, ⟨(some 135), (.call 57), [(.t 132), (.t 133), (.t 134), (.k (iV 20))], none⟩]) (.cond (.t 135) (.seq (.reg false [K1 6 .mv (.bool true)]) .ret) .skip))))) (.reg false [O1 88 .mv 12, K2 89 (.bin .add) 88 (iV 1), O1 12 .mv 89])))
def x28L1 : XC := (.seq (.seq (.reg false [O1 79 .mv 11, O1 80 .mv 10, O2 81 (.bin .leq) 79 80]) (.cond (.t 81) .skip (.exit 0))) (.seq (.block 1 (.seq (.reg false [O1 84 .mv 7, O1 12 .mv 84]) (.block 2 (.loop x28L0)))) (.reg false [O1 82 .mv 11, K2 83 (.bin .add) 82 (iV 1), O1 11 .mv 83])))
def x28 : XFn := ⟨136, (.seq (.reg false [O1 3 (.box 55) 0, O1 4 (.box 57) 1, O1 5 (.box 57) 2, K1 6 .mv (.bool false)]) (.seq (.seq (.reg false [O1 14 (.loadN 3) 3, O1 15 (.call 54) 14, O1 16 (.un .not) 15, O1 17 .mv 16, G1 18 (.loadN 3) 3 17 false, GK 19 (.call 55) 18 (.int .u8 0) 17 false, GK 20 (.bin .gtr) 19 (iV 0) 17 false, ⟨(some 21), .pick, [(.t 17), (.k (.bool true)), (.t 20)], none⟩, O1 22 .mv 21, G1 23 (.loadN 2) 4 22 false, G1 24 (.call 37) 23 22 false, G1 25 (.un .not) 24 22 false, ⟨(some 26), .pick, [(.t 22), (.k (.bool true)), (.t 25)], none⟩, O1 27 .mv 26, G1 28 (.loadN 2) 5 27 false, G1 29 (.call 37) 28 27 false, G1 30 (.un .not) 29 27 false, ⟨(some 31), .pick, [(.t 27), (.k (.bool true)), (.t 30)], none⟩]) (.cond (.t 31) (.seq (.reg false [K1 6 .mv (.bool true)]) .ret) .skip)) (.seq (.seq (.reg false [O1 32 (.fld 0) 5, O1 33 .load1 32, O1 34 (.fld 0) 4, O1 35 .load1 34, O2 36 (.bin .sub) 33 35, K2 37 (.call 34) 36 (iV 1024), O1 38 (.un .not) 37, O1 39 .mv 38, G1 40 (.fld 1) 5 39 false, G1 41 .load1 40 39 false, G1 42 (.fld 1) 4 39 false, G1 43 .load1 42 39 false, G2 44 (.bin .sub) 41 43 39 false, GK 45 (.call 34) 44 (iV 1024) 39 false, G1 46 (.un .not) 45 39 false, ⟨(some 47), .pick, [(.t 39), (.k (.bool true)), (.t 46)], none⟩]) (.cond (.t 47) (.seq (.reg false [K1 6 .mv (.bool true)]) .ret) .skip)) (.seq (.reg true [O1 48 (.fld 0) 4, O1 49 .load1 48, O1 50 (.fld 0) 5, O1 51 .load1 50, O2 52 .minI 49 51, K2 53 (.bin .sub) 52 (iV 20), K2 54 (.call 56) 53 (iV 64), K2 55 (.bin .sub) 54 (iV 1), O1 56 (.fld 0) 4, O1 57 .load1 56, O1 58 (.fld 0) 5, O1 59 .load1 58, O2 60 .maxI 57 59, K2 61 (.bin .add) 60 (iV 20), K2 62 (.call 56) 61 (iV 64), O1 7 .mv 55, O1 8 .mv 62]) (.seq (.reg true [O1 63 (.fld 1) 4, O1 64 .load1 63, O1 65 (.fld 1) 5, O1 66 .load1 65, O2 67 .minI 64 66, K2 68 (.bin .sub) 67 (iV 20), K2 69 (.call 56) 68 (iV 64), K2 70 (.bin .sub) 69 (iV 1), O1 71 (.fld 1) 4, O1 72 .load1 71, O1 73 (.fld 1) 5, O1 74 .load1 73, O2 75 .maxI 72 74, K2 76 (.bin .add) 75 (iV 20), K2 77 (.call 56) 76 (iV 64), O1 9 .mv 70, O1 10 .mv 77]) (.seq (.seq (.reg false [O1 78 .mv 9, O1 11 .mv 78]) (.block 0 (.loop x28L1))) (.seq (.reg false [K1 6 .mv (.bool false)]) .ret))))))), [(.s 6)]⟩
theorem x28_ok : xfn Try.prog Try.f28 = some x28.er := by kernel_rfl
def x27L0 : XC := (.seq (.seq (.reg false [O1 66 .mv 8, O1 67 (.fld 0) 4, O1 68 .load1 67, O1 69 (.fld 0) 5, O1 70 .load1 69, O2 71 .maxI 68 70, K2 72 (.call 50) 71 (iV 64), K2 73 (.bin .add) 72 (iV 1), O2 74 (.bin .leq) 66 73]) (.cond (.t 74) .skip (.exit 2))) (.seq (.block 3 (.seq (.reg false [O1 77 .mv 8, O1 78 .mv 7, ⟨(some 79), (.build [(iV 0), (iV 0)] [(0, 1), (1, 1)]), [(.t 77), (.t 78)], none⟩, ⟨(some 9), (.alloc 62 [(iV 0), (iV 0)]), [], none⟩, ⟨none, (.store 2), [(.t 9), (.t 79)], none⟩]) (.seq (.reg true [O1 80 (.loadN 3) 3, O1 81 (.loadN 2) 9, O2 82 (.call 51) 80 81, K2 83 (.bin .eql) 82 (.int .u8 2), O1 84 .mv 83, G1 85 (.loadN 2) 4 84 true, G1 86 (.loadN 2) 5 84 true, G1 87 (.loadN 2) 9 84 true, G1 88 (.call 53) 87 84 true, ⟨(some 89), (.call 52), [(.t 85), (.t 86), (.t 88), (.k (iV 20))], (some (84, true))⟩, ⟨(some 90), .pick, [(.t 84), (.t 89), (.k (.bool false))], none⟩]) (.cond (.t 90) (.seq (.reg false [K1 6 .mv (.bool true)]) .ret) .skip)))) (.reg false [O1 75 .mv 8, K2 76 (.bin .add) 75 (iV 1), O1 8 .mv 76])))
def x27L1 : XC := (.seq (.seq (.reg false [O1 48 .mv 7, O1 49 (.fld 1) 4, O1 50 .load1 49, O1 51 (.fld 1) 5, O1 52 .load1 51, O2 53 .maxI 50 52, K2 54 (.call 50) 53 (iV 64), K2 55 (.bin .add) 54 (iV 1), O2 56 (.bin .leq) 48 55]) (.cond (.t 56) .skip (.exit 0))) (.seq (.block 1 (.seq (.reg false [O1 59 (.fld 0) 4, O1 60 .load1 59, O1 61 (.fld 0) 5, O1 62 .load1 61, O2 63 .minI 60 62, K2 64 (.call 50) 63 (iV 64), K2 65 (.bin .sub) 64 (iV 1), O1 8 .mv 65]) (.block 2 (.loop x27L0)))) (.reg false [O1 57 .mv 7, K2 58 (.bin .add) 57 (iV 1), O1 7 .mv 58])))
def x27 : XFn := ⟨91, (.seq (.reg false [O1 3 (.box 55) 0, O1 4 (.box 57) 1, O1 5 (.box 57) 2, K1 6 .mv (.bool false)]) (.seq (.seq (.reg false [O1 10 (.loadN 3) 3, O1 11 (.call 48) 10, O1 12 (.un .not) 11, O1 13 .mv 12, G1 14 (.loadN 2) 4 13 false, G1 15 (.call 49) 14 13 false, G1 16 (.un .not) 15 13 false, ⟨(some 17), .pick, [(.t 13), (.k (.bool true)), (.t 16)], none⟩, O1 18 .mv 17, G1 19 (.loadN 2) 5 18 false, G1 20 (.call 49) 19 18 false, G1 21 (.un .not) 20 18 false, ⟨(some 22), .pick, [(.t 18), (.k (.bool true)), (.t 21)], none⟩, O1 23 .mv 22, G1 24 (.fld 0) 4 23 false, G1 25 .load1 24 23 false, G1 26 (.fld 0) 5 23 false, G1 27 .load1 26 23 false, G2 28 (.bin .sub) 25 27 23 false, GK 29 (.call 25) 28 (iV 1024) 23 false, G1 30 (.un .not) 29 23 false, ⟨(some 31), .pick, [(.t 23), (.k (.bool true)), (.t 30)], none⟩, O1 32 .mv 31, G1 33 (.fld 1) 4 32 false, G1 34 .load1 33 32 false, G1 35 (.fld 1) 5 32 false, G1 36 .load1 35 32 false, G2 37 (.bin .sub) 34 36 32 false, GK 38 (.call 25) 37 (iV 1024) 32 false, G1 39 (.un .not) 38 32 false, ⟨(some 40), .pick, [(.t 32), (.k (.bool true)), (.t 39)], none⟩]) (.cond (.t 40) (.seq (.reg false [K1 6 .mv (.bool true)]) .ret) .skip)) (.seq (.seq (.reg false [O1 41 (.fld 1) 4, O1 42 .load1 41, O1 43 (.fld 1) 5, O1 44 .load1 43, O2 45 .minI 42 44, K2 46 (.call 50) 45 (iV 64), K2 47 (.bin .sub) 46 (iV 1), O1 7 .mv 47]) (.block 0 (.loop x27L1))) (.seq (.reg false [K1 6 .mv (.bool false)]) .ret)))), [(.s 6)]⟩
theorem x27_ok : xfn Try.prog Try.f27 = some x27.er := by kernel_rfl
/-- bytes.Count -/
def g71 : Con := fun args_ E_ nn_ => match args_ with
  | [.c (.n s), .c (.n sep)] => (match rowOf E_ s with
    | some (s_n, s_s, s_f) => (match rowOf E_ sep with
    | some (sep_n, sep_s, sep_f) => some (.q (isRow eU8 s_n s_s s_f ∧ isRow eU8 sep_n sep_s sep_f ∧ ((decL eU8 sep_n sep_f)).length = 1) (.o (.c (.v (.int .i64 (cnt8 (decL eU8 s_n s_f) (((decL eU8 sep_n sep_f)).getD 0 eU8.dflt)))))))
    | none => none)
    | none => none)
  | _ => none
theorem c71 : COk Try.prog 71 g71 := by
  refine cok_q Try.func71 x71_ok (by kernel_rfl) (cok_tab (cok_cons c84 cok_nil)) ?_
  intro args_ E_ nn_ cr_ hg_
  unfold g71 at hg_
  split at hg_
  · rename_i s sep
    split at hg_
    · rename_i s_n s_s s_f h_s
      split at hg_
      · rename_i sep_n sep_s sep_f h_sep
        cases hg_
        refine ⟨_, _, rfl, 2, [s, sep], [.c (.n 0), .c (.n 1)], [(0, .ro (decL eU8 s_n s_f).length eU8.sz (rowF eU8 (decL eU8 s_n s_f))), (1, .ro (decL eU8 sep_n sep_f).length eU8.sz (rowF eU8 (decL eU8 sep_n sep_f)))], .o (.c (.v (.int .i64 (cnt8 (decL eU8 s_n s_f) (((decL eU8 sep_n sep_f)).getD 0 eU8.dflt))))), rfl, rfl, by simp only [push_cast, Nat.reduceLT, Nat.reduceAdd], by simp only [push_cast, Nat.reduceLT, Nat.reduceAdd], by simp only [push_cast, Nat.reduceLT, Nat.reduceAdd], rfl, ⟨inE0_row h_s, inE0_row h_sep, trivial⟩, rfl, ?_⟩
        intro hpre hlen
        obtain ⟨i_s, hpre⟩ := hpre
        obtain ⟨i_sep, hpre⟩ := hpre
        refine ⟨⟨inE_row h_s i_s, inE_row h_sep i_sep, trivial⟩, ?_⟩
        have z_s := lens_row (E := eU8) hlen h_s
        have z_sep := lens_row (E := eU8) hlen h_sep
        clear i_s
        generalize decL eU8 s_n s_f = sL at *
        clear i_sep
        generalize decL eU8 sep_n sep_f = sepL at *
        clear h_s
        clear h_sep
        simp (config := {maxSteps := 10000000}) only [x71, push_cast, Nat.reduceAdd, Nat.reduceSub, Nat.reduceLeDiff, Nat.reduceEqDiff, Nat.reduceBEq, Nat.reduceMul, Nat.reduceLT, reduceIte, reduceCtorEq, Int.reduceLE, Int.reduceLT, Int.reduceEq, Int.reduceMul, Int.reduceAdd, Int.reduceSub, Int.reduceNeg, Int.reduceToNat, Int.reduceNe, g84]
        exact ⟨by omega, fun _ => ⟨fun _ => ⟨by omega, by omega⟩, fun h => by omega⟩⟩
      · cases hg_
    · cases hg_
  · cases hg_
/-- wayfinder/plan.Count -/
def g55 : Con := fun args_ E_ nn_ => match args_ with
  | [.a [.v (.int .i64 p_W), .v (.int .i64 p_H), .n p_Cells], .c (.v (.int .u8 value))] => (match rowOf E_ p_Cells with
    | some (p_Cells_n, p_Cells_s, p_Cells_f) => some (.q (isRow eU8 p_Cells_n p_Cells_s p_Cells_f ∧ True) (.o (.c (.v (.int .i64 (cntV p_W p_H (decL eU8 p_Cells_n p_Cells_f) value))))))
    | none => none)
  | _ => none
theorem c55 : COk Try.prog 55 g55 := by
  refine cok_q Try.func55 x55_ok (by kernel_rfl) (cok_tab (cok_cons c54 (cok_cons c71 cok_nil))) ?_
  intro args_ E_ nn_ cr_ hg_
  unfold g55 at hg_
  split at hg_
  · rename_i p_W p_H p_Cells value
    split at hg_
    · rename_i p_Cells_n p_Cells_s p_Cells_f h_p_Cells
      cases hg_
      refine ⟨_, _, rfl, 1, [p_Cells], [.a [.v (.int .i64 p_W), .v (.int .i64 p_H), .n 0], .c (.v (.int .u8 value))], [(0, .ro (decL eU8 p_Cells_n p_Cells_f).length eU8.sz (rowF eU8 (decL eU8 p_Cells_n p_Cells_f)))], .o (.c (.v (.int .i64 (cntV p_W p_H (decL eU8 p_Cells_n p_Cells_f) value)))), rfl, rfl, by simp only [push_cast, Nat.reduceLT, Nat.reduceAdd], by simp only [push_cast, Nat.reduceLT, Nat.reduceAdd], by simp only [push_cast, Nat.reduceLT, Nat.reduceAdd], rfl, ⟨inE0_row h_p_Cells, trivial⟩, rfl, ?_⟩
      intro hpre hlen
      obtain ⟨i_p_Cells, hpre⟩ := hpre
      refine ⟨⟨inE_row h_p_Cells i_p_Cells, trivial⟩, ?_⟩
      have z_p_Cells := lens_row (E := eU8) hlen h_p_Cells
      clear i_p_Cells
      generalize decL eU8 p_Cells_n p_Cells_f = p_CellsL at *
      clear h_p_Cells
      have l1 : isRow eU8 1 1 (litF [SC.v (Value.int IntKind.u8 value)] 1) ↔ True := iff_true_intro (lits_row eU8 [value]).1
      have l2 : decL eU8 1 (litF [SC.v (Value.int IntKind.u8 value)] 1) = [value] := (lits_row eU8 [value]).2
      simp (config := {maxSteps := 10000000}) only [x55, push_cast, Nat.reduceAdd, Nat.reduceSub, Nat.reduceLeDiff, Nat.reduceEqDiff, Nat.reduceBEq, Nat.reduceMul, Nat.reduceLT, reduceIte, reduceCtorEq, Int.reduceLE, Int.reduceLT, Int.reduceEq, Int.reduceMul, Int.reduceAdd, Int.reduceSub, Int.reduceNeg, Int.reduceToNat, Int.reduceNe, g54, g71, l1, l2]
      unfold cntV
      exact ⟨fun h => by rw [h]; rfl, fun h => by rw [if_pos h]⟩
    · cases hg_
  · cases hg_
/-- wayfinder/wayfinderbase.Building -/
def g48 : Con := fun args_ E_ nn_ => match args_ with
  | [.a [.v (.int .i64 p_W), .v (.int .i64 p_H), .n p_Cells]] => (match rowOf E_ p_Cells with
    | some (p_Cells_n, p_Cells_s, p_Cells_f) => some (.q (isRow eU8 p_Cells_n p_Cells_s p_Cells_f ∧ True) (.o (.c (.v (.bool (buildB p_W p_H (decL eU8 p_Cells_n p_Cells_f)))))))
    | none => none)
  | _ => none
theorem c48 : COk Try.prog 48 g48 := by
  refine cok_q Try.func48 x48_ok (by kernel_rfl) (cok_tab (cok_cons c58 cok_nil)) ?_
  intro args_ E_ nn_ cr_ hg_
  unfold g48 at hg_
  split at hg_
  · rename_i p_W p_H p_Cells
    split at hg_
    · rename_i p_Cells_n p_Cells_s p_Cells_f h_p_Cells
      cases hg_
      refine ⟨_, _, rfl, 1, [p_Cells], [.a [.v (.int .i64 p_W), .v (.int .i64 p_H), .n 0]], [(0, .ro (decL eU8 p_Cells_n p_Cells_f).length eU8.sz (rowF eU8 (decL eU8 p_Cells_n p_Cells_f)))], .o (.c (.v (.bool (buildB p_W p_H (decL eU8 p_Cells_n p_Cells_f))))), rfl, rfl, by simp only [push_cast, Nat.reduceLT, Nat.reduceAdd], by simp only [push_cast, Nat.reduceLT, Nat.reduceAdd], by simp only [push_cast, Nat.reduceLT, Nat.reduceAdd], rfl, ⟨inE0_row h_p_Cells, trivial⟩, rfl, ?_⟩
      intro hpre hlen
      obtain ⟨i_p_Cells, hpre⟩ := hpre
      refine ⟨⟨inE_row h_p_Cells i_p_Cells, trivial⟩, ?_⟩
      have z_p_Cells := lens_row (E := eU8) hlen h_p_Cells
      clear i_p_Cells
      generalize decL eU8 p_Cells_n p_Cells_f = p_CellsL at *
      clear h_p_Cells
      simp (config := {maxSteps := 10000000}) only [x48, push_cast, Nat.reduceAdd, Nat.reduceSub, Nat.reduceLeDiff, Nat.reduceEqDiff, Nat.reduceBEq, Nat.reduceMul, Nat.reduceLT, reduceIte, reduceCtorEq, Int.reduceLE, Int.reduceLT, Int.reduceEq, Int.reduceMul, Int.reduceAdd, Int.reduceSub, Int.reduceNeg, Int.reduceToNat, Int.reduceNe, g58]
      refine ⟨fun h => by unfold buildB; rw [h]; rfl, fun h => ?_⟩
      refine vcLoop_upd (α := {k : Nat // k ≤ p_CellsL.length ∧ ∀ i, i < k → p_CellsL.getD i eU8.dflt ≠ 0}) [1] 0 (fun s => [(3, .o (.c (.v (.int .i64 (s.1 : Nat)))))]) (fun s => []) (fun s => p_CellsL.length - s.1) ⟨0, by omega, fun i hi => by omega⟩ ?_ ?_
      · simp only [push_cast, Nat.reduceAdd, Nat.reduceSub, Nat.reduceLeDiff, Nat.reduceEqDiff, Nat.reduceBEq, Nat.reduceMul, Nat.reduceLT, reduceIte, reduceCtorEq, Int.reduceLE, Int.reduceLT, Int.reduceEq, Int.reduceMul, Int.reduceAdd, Int.reduceSub, Int.reduceNeg, Int.reduceToNat, Int.reduceNe, g58]
      rintro ⟨k, hk, z⟩
      simp only [x48L0, push_cast, Nat.reduceAdd, Nat.reduceSub, Nat.reduceLeDiff, Nat.reduceEqDiff, Nat.reduceBEq, Nat.reduceMul, Nat.reduceLT, reduceIte, reduceCtorEq, Int.reduceLE, Int.reduceLT, Int.reduceEq, Int.reduceMul, Int.reduceAdd, Int.reduceSub, Int.reduceNeg, Int.reduceToNat, Int.reduceNe, g58]
      refine ⟨fun hlt => ⟨hlt, hlt, fun e => ?_, fun e => ⟨⟨k + 1, by omega, fun i hi => by rcases Nat.lt_succ_iff_lt_or_eq.1 hi with q | q; exact z i q; subst q; exact e⟩, wrapI (by omega) (by omega), by simp only; omega⟩⟩, fun hge => ?_⟩
      · symm; unfold buildB; rw [Bool.and_eq_false_iff]; right
        rw [Bool.eq_false_iff]; intro h2
        rw [List.all_eq_true] at h2
        have hm : p_CellsL.getD k eU8.dflt ∈ p_CellsL := by rw [List.getD_eq_getElem?_getD, List.getElem?_eq_getElem hlt, Option.getD_some]; exact List.getElem_mem hlt
        have := h2 _ hm
        rw [e] at this; simp at this
      · symm; unfold buildB; rw [h, Bool.true_and, List.all_eq_true]
        intro x hx
        obtain ⟨i, hi, rfl⟩ := List.getElem_of_mem hx
        have := z i (by omega)
        rw [List.getD_eq_getElem?_getD, List.getElem?_eq_getElem hi, Option.getD_some] at this
        exact bne_iff_ne.2 this
    · cases hg_
  · cases hg_
/-- wayfinder/drive.between -/
def g43 : Con := fun args_ E_ nn_ => match args_ with
  | [.c (.v (.int .i64 n)), .c (.v (.int .i64 lo)), .c (.v (.int .i64 hi))] => some (.q (True) (.o (.c (.v (.bool (decide (lo ≤ n ∧ n ≤ hi)))))))
  | _ => none
theorem c43 : COk Try.prog 43 g43 := by
  refine cok_q Try.func43 x43_ok (by kernel_rfl) (cok_tab cok_nil) ?_
  intro args_ E_ nn_ cr_ hg_
  unfold g43 at hg_
  split at hg_
  · rename_i n lo hi
    cases hg_
    refine ⟨_, _, rfl, 0, [], [.c (.v (.int .i64 n)), .c (.v (.int .i64 lo)), .c (.v (.int .i64 hi))], [], .o (.c (.v (.bool (decide (lo ≤ n ∧ n ≤ hi))))), rfl, rfl, by simp only [push_cast, Nat.reduceLT, Nat.reduceAdd], by simp only [push_cast, Nat.reduceLT, Nat.reduceAdd], by simp only [push_cast, Nat.reduceLT, Nat.reduceAdd], rfl, trivial, rfl, ?_⟩
    intro hpre hlen
    refine ⟨trivial, ?_⟩
    simp (config := {maxSteps := 10000000}) only [x43, push_cast, Nat.reduceAdd, Nat.reduceSub, Nat.reduceLeDiff, Nat.reduceEqDiff, Nat.reduceBEq, Nat.reduceMul, Nat.reduceLT, reduceIte, reduceCtorEq, Int.reduceLE, Int.reduceLT, Int.reduceEq, Int.reduceMul, Int.reduceAdd, Int.reduceSub, Int.reduceNeg, Int.reduceToNat, Int.reduceNe]
    rw [Bool.decide_and]
  · cases hg_
/-- wayfinder/drive.within -/
def g34 : Con := fun args_ E_ nn_ => match args_ with
  | [.c (.v (.int .i64 n)), .c (.v (.int .i64 k))] => some (.q (-9223372036854775807 ≤ k ∧ k ≤ 9223372036854775807) (.o (.c (.v (.bool (decide (-k ≤ n ∧ n ≤ k)))))))
  | _ => none
theorem c34 : COk Try.prog 34 g34 := by
  refine cok_q Try.func34 x34_ok (by kernel_rfl) (cok_tab (cok_cons c43 cok_nil)) ?_
  intro args_ E_ nn_ cr_ hg_
  unfold g34 at hg_
  split at hg_
  · rename_i n k
    cases hg_
    refine ⟨_, _, rfl, 0, [], [.c (.v (.int .i64 n)), .c (.v (.int .i64 k))], [], .o (.c (.v (.bool (decide (-k ≤ n ∧ n ≤ k))))), rfl, rfl, by simp only [push_cast, Nat.reduceLT, Nat.reduceAdd], by simp only [push_cast, Nat.reduceLT, Nat.reduceAdd], by simp only [push_cast, Nat.reduceLT, Nat.reduceAdd], rfl, trivial, rfl, ?_⟩
    intro hpre hlen
    refine ⟨trivial, ?_⟩
    simp (config := {maxSteps := 10000000}) only [x34, push_cast, Nat.reduceAdd, Nat.reduceSub, Nat.reduceLeDiff, Nat.reduceEqDiff, Nat.reduceBEq, Nat.reduceMul, Nat.reduceLT, reduceIte, reduceCtorEq, Int.reduceLE, Int.reduceLT, Int.reduceEq, Int.reduceMul, Int.reduceAdd, Int.reduceSub, Int.reduceNeg, Int.reduceToNat, Int.reduceNe, g43]
    rw [wrapI (by omega) (by omega)]
  · cases hg_
/-- wayfinder/drive.validPoint -/
def g37 : Con := fun args_ E_ nn_ => match args_ with
  | [.a [.v (.int .i64 p_X), .v (.int .i64 p_Y)]] => some (.q (True) (.o (.c (.v (.bool (decide ((-1048576 ≤ p_X ∧ p_X ≤ 1048576) ∧ -1048576 ≤ p_Y ∧ p_Y ≤ 1048576)))))))
  | _ => none
theorem c37 : COk Try.prog 37 g37 := by
  refine cok_q Try.func37 x37_ok (by kernel_rfl) (cok_tab (cok_cons c34 cok_nil)) ?_
  intro args_ E_ nn_ cr_ hg_
  unfold g37 at hg_
  split at hg_
  · rename_i p_X p_Y
    cases hg_
    refine ⟨_, _, rfl, 0, [], [.a [.v (.int .i64 p_X), .v (.int .i64 p_Y)]], [], .o (.c (.v (.bool (decide ((-1048576 ≤ p_X ∧ p_X ≤ 1048576) ∧ -1048576 ≤ p_Y ∧ p_Y ≤ 1048576))))), rfl, rfl, by simp only [push_cast, Nat.reduceLT, Nat.reduceAdd], by simp only [push_cast, Nat.reduceLT, Nat.reduceAdd], by simp only [push_cast, Nat.reduceLT, Nat.reduceAdd], rfl, trivial, rfl, ?_⟩
    intro hpre hlen
    refine ⟨trivial, ?_⟩
    simp (config := {maxSteps := 10000000}) only [x37, push_cast, Nat.reduceAdd, Nat.reduceSub, Nat.reduceLeDiff, Nat.reduceEqDiff, Nat.reduceBEq, Nat.reduceMul, Nat.reduceLT, reduceIte, reduceCtorEq, Int.reduceLE, Int.reduceLT, Int.reduceEq, Int.reduceMul, Int.reduceAdd, Int.reduceSub, Int.reduceNeg, Int.reduceToNat, Int.reduceNe, g34]
    rw [Bool.eq_iff_iff]
    simp []
    try omega
  · cases hg_
/-- wayfinder/drive.down -/
def g56 : Con := fun args_ E_ nn_ => match args_ with
  | [.c (.v (.int .i64 a)), .c (.v (.int .i64 b))] => some (.q (0 < b ∧ -9223372036854775808 ≤ a ∧ a ≤ 9223372036854775807) (.o (.c (.v (.int .i64 (a / b))))))
  | _ => none
theorem c56 : COk Try.prog 56 g56 := by
  refine cok_q Try.func56 x56_ok (by kernel_rfl) (cok_tab cok_nil) ?_
  intro args_ E_ nn_ cr_ hg_
  unfold g56 at hg_
  split at hg_
  · rename_i a b
    cases hg_
    refine ⟨_, _, rfl, 0, [], [.c (.v (.int .i64 a)), .c (.v (.int .i64 b))], [], .o (.c (.v (.int .i64 (a / b)))), rfl, rfl, by simp only [push_cast, Nat.reduceLT, Nat.reduceAdd], by simp only [push_cast, Nat.reduceLT, Nat.reduceAdd], by simp only [push_cast, Nat.reduceLT, Nat.reduceAdd], rfl, trivial, rfl, ?_⟩
    intro hpre hlen
    refine ⟨trivial, ?_⟩
    simp (config := {maxSteps := 10000000}) only [x56, push_cast, Nat.reduceAdd, Nat.reduceSub, Nat.reduceLeDiff, Nat.reduceEqDiff, Nat.reduceBEq, Nat.reduceMul, Nat.reduceLT, reduceIte, reduceCtorEq, Int.reduceLE, Int.reduceLT, Int.reduceEq, Int.reduceMul, Int.reduceAdd, Int.reduceSub, Int.reduceNeg, Int.reduceToNat, Int.reduceNe]
    have h1 := tdiv_range (a := a) (b := b) (by omega) (by omega) (by omega)
    have h2 := ediv_range (a := a) (b := b) (by omega) (by omega) (by omega)
    refine ⟨by omega, by omega, fun h => ?_, fun h => ?_⟩
    · have e := floor_neg (by omega) h
      rw [wrapI h1.1 h1.2, wrapI (by omega) (by omega), e]
    · rw [wrapI h1.1 h1.2, floor_pos (by omega) h]
  · cases hg_
/-- wayfinder/drive.Blocked -/
noncomputable def g28 : Con := fun args_ E_ nn_ => match args_ with
  | [.a [.v (.int .i64 p_W), .v (.int .i64 p_H), .n p_Cells], .a [.v (.int .i64 from_X), .v (.int .i64 from_Y)], .a [.v (.int .i64 to_X), .v (.int .i64 to_Y)]] => (match rowOf E_ p_Cells with
    | some (p_Cells_n, p_Cells_s, p_Cells_f) => some (.q (isRow eU8 p_Cells_n p_Cells_s p_Cells_f ∧ u8s (decL eU8 p_Cells_n p_Cells_f)) (.o (.c (.v (.bool (blkB p_W p_H (decL eU8 p_Cells_n p_Cells_f) from_X from_Y to_X to_Y))))))
    | none => none)
  | _ => none
theorem c28 : COk Try.prog 28 g28 := by
  refine cok_q Try.func28 x28_ok (by kernel_rfl) (cok_tab (cok_cons c54 (cok_cons c55 (cok_cons c37 (cok_cons c34 (cok_cons c56 (cok_cons c57 cok_nil))))))) ?_
  intro args_ E_ nn_ cr_ hg_
  unfold g28 at hg_
  split at hg_
  · rename_i p_W p_H p_Cells from_X from_Y to_X to_Y
    split at hg_
    · rename_i p_Cells_n p_Cells_s p_Cells_f h_p_Cells
      cases hg_
      refine ⟨_, _, rfl, 1, [p_Cells], [.a [.v (.int .i64 p_W), .v (.int .i64 p_H), .n 0], .a [.v (.int .i64 from_X), .v (.int .i64 from_Y)], .a [.v (.int .i64 to_X), .v (.int .i64 to_Y)]], [(0, .ro (decL eU8 p_Cells_n p_Cells_f).length eU8.sz (rowF eU8 (decL eU8 p_Cells_n p_Cells_f)))], .o (.c (.v (.bool (blkB p_W p_H (decL eU8 p_Cells_n p_Cells_f) from_X from_Y to_X to_Y)))), rfl, rfl, by simp only [push_cast, Nat.reduceLT, Nat.reduceAdd], by simp only [push_cast, Nat.reduceLT, Nat.reduceAdd], by simp only [push_cast, Nat.reduceLT, Nat.reduceAdd], rfl, ⟨inE0_row h_p_Cells, trivial⟩, rfl, ?_⟩
      intro hpre hlen
      obtain ⟨i_p_Cells, hpre⟩ := hpre
      refine ⟨⟨inE_row h_p_Cells i_p_Cells, trivial⟩, ?_⟩
      have z_p_Cells := lens_row (E := eU8) hlen h_p_Cells
      clear i_p_Cells
      generalize decL eU8 p_Cells_n p_Cells_f = p_CellsL at *
      clear h_p_Cells
      simp (config := {maxSteps := 10000000}) only [x28, push_cast, Nat.reduceAdd, Nat.reduceSub, Nat.reduceLeDiff, Nat.reduceEqDiff, Nat.reduceBEq, Nat.reduceMul, Nat.reduceLT, reduceIte, reduceCtorEq, Int.reduceLE, Int.reduceLT, Int.reduceEq, Int.reduceMul, Int.reduceAdd, Int.reduceSub, Int.reduceNeg, Int.reduceToNat, Int.reduceNe, g54, g55, g37, g34, g56, g57]
      refine ⟨fun h => ?_, fun h1 h2 a1 a2 a3 a4 a5 a6 a7 a8 => ?_⟩
      · symm; rw [blk_iff]
        rcases h with ((h | h) | h) | h
        · left; unfold buildB; rw [h]; rfl
        · left; rw [Bool.eq_false_iff]; exact fun q => ((build_iff hpre).1 q).2 h
        · right; left; unfold wayB; rw [decide_eq_false_iff_not]; omega
        · right; left; unfold wayB; rw [decide_eq_false_iff_not]; omega
      rw [wrapI (n := to_X - from_X) (by omega) (by omega), wrapI (n := to_Y - from_Y) (by omega) (by omega)]
      refine ⟨fun h => ?_, fun b1 b2 b3 b4 => ?_⟩
      · symm; rw [blk_iff]; right; left; unfold wayB; rw [decide_eq_false_iff_not]; omega
      have hw : wayB from_X from_Y to_X to_Y = true := by unfold wayB; rw [decide_eq_true_eq]; omega
      have hb : buildB p_W p_H p_CellsL = true := (build_iff hpre).2 ⟨h1, h2⟩
      have hlow : ∀ x y, (x < (min from_X to_X - 20) / 64 - 1 ∨ y < (min from_Y to_Y - 20) / 64 - 1 ∨ (max from_X to_X + 20) / 64 < x ∨ (max from_Y to_Y + 20) / 64 < y) → hitW p_W p_H p_CellsL from_X from_Y to_X to_Y x y = false := by
        intro x y h
        rw [Bool.eq_false_iff]; intro q
        have := hit_rng q
        omega
      rw [wrapI (n := min from_X to_X - 20) (by omega) (by omega), wrapI (n := min from_Y to_Y - 20) (by omega) (by omega), wrapI (n := max from_X to_X + 20) (by omega) (by omega), wrapI (n := max from_Y to_Y + 20) (by omega) (by omega), wrapI (n := (min from_X to_X - 20) / 64 - 1) (by omega) (by omega), wrapI (n := (min from_Y to_Y - 20) / 64 - 1) (by omega) (by omega)]
      refine ⟨by omega, by omega, by omega, by omega, ?_⟩
      have r1 : -20000 ≤ (min from_X to_X - 20) / 64 - 1 ∧ (min from_X to_X - 20) / 64 - 1 ≤ (max from_X to_X + 20) / 64 ∧ (max from_X to_X + 20) / 64 ≤ 20000 := by omega
      have r2 : -20000 ≤ (min from_Y to_Y - 20) / 64 - 1 ∧ (min from_Y to_Y - 20) / 64 - 1 ≤ (max from_Y to_Y + 20) / 64 ∧ (max from_Y to_Y + 20) / 64 ≤ 20000 := by omega
      generalize (min from_X to_X - 20) / 64 - 1 = X0 at *
      generalize (min from_Y to_Y - 20) / 64 - 1 = Y0 at *
      generalize (max from_X to_X + 20) / 64 = X1 at *
      generalize (max from_Y to_Y + 20) / 64 = Y1 at *
      refine vcLoop_upd (α := {k : Nat // Y0 + k ≤ Y1 + 1 ∧ ∀ x y, y < Y0 + k → hitW p_W p_H p_CellsL from_X from_Y to_X to_Y x y = false}) [3, 4, 5, 7, 8, 10] 0 (fun s => [(11, .o (.c (.v (.int .i64 (Y0 + (s.1 : Nat))))))]) (fun s => []) (fun s => (Y1 + 1 - Y0).toNat - s.1) ⟨0, by omega, fun x y h => hlow x y (.inr (.inl (by omega)))⟩ ?_ ?_
      · simp only [push_cast, Nat.reduceAdd, Nat.reduceSub, Nat.reduceLeDiff, Nat.reduceEqDiff, Nat.reduceBEq, Nat.reduceMul, Nat.reduceLT, reduceIte, reduceCtorEq, Int.reduceLE, Int.reduceLT, Int.reduceEq, Int.reduceMul, Int.reduceAdd, Int.reduceSub, Int.reduceNeg, Int.reduceToNat, Int.reduceNe, g54, g55, g37, g34, g56, g57, Int.add_zero]
      rintro ⟨k, hk, z⟩
      simp only [x28L1, push_cast, Nat.reduceAdd, Nat.reduceSub, Nat.reduceLeDiff, Nat.reduceEqDiff, Nat.reduceBEq, Nat.reduceMul, Nat.reduceLT, reduceIte, reduceCtorEq, Int.reduceLE, Int.reduceLT, Int.reduceEq, Int.reduceMul, Int.reduceAdd, Int.reduceSub, Int.reduceNeg, Int.reduceToNat, Int.reduceNe, g54, g55, g37, g34, g56, g57]
      refine ⟨fun hlt => ?_, fun hge => ?_⟩
      · refine vcLoop_upd (α := {i : Nat // X0 + i ≤ X1 + 1 ∧ ∀ x, x < X0 + i → hitW p_W p_H p_CellsL from_X from_Y to_X to_Y x (Y0 + k) = false}) [3, 4, 5, 7, 8, 10, 11] 0 (fun s => [(12, .o (.c (.v (.int .i64 (X0 + (s.1 : Nat))))))]) (fun s => []) (fun s => (X1 + 1 - X0).toNat - s.1) ⟨0, by omega, fun x h => hlow x _ (.inl (by omega))⟩ ?_ ?_
        · simp only [push_cast, Nat.reduceAdd, Nat.reduceSub, Nat.reduceLeDiff, Nat.reduceEqDiff, Nat.reduceBEq, Nat.reduceMul, Nat.reduceLT, reduceIte, reduceCtorEq, Int.reduceLE, Int.reduceLT, Int.reduceEq, Int.reduceMul, Int.reduceAdd, Int.reduceSub, Int.reduceNeg, Int.reduceToNat, Int.reduceNe, g54, g55, g37, g34, g56, g57, Int.add_zero]
        rintro ⟨i, hi, zi⟩
        simp only [x28L0, push_cast, Nat.reduceAdd, Nat.reduceSub, Nat.reduceLeDiff, Nat.reduceEqDiff, Nat.reduceBEq, Nat.reduceMul, Nat.reduceLT, reduceIte, reduceCtorEq, Int.reduceLE, Int.reduceLT, Int.reduceEq, Int.reduceMul, Int.reduceAdd, Int.reduceSub, Int.reduceNeg, Int.reduceToNat, Int.reduceNe, g54, g55, g37, g34, g56, g57]
        have hst : hitW p_W p_H p_CellsL from_X from_Y to_X to_Y (X0 + (i : Int)) (Y0 + (k : Int)) = false → ∃ y : {i : Nat // X0 + i ≤ X1 + 1 ∧ ∀ x, x < X0 + i → hitW p_W p_H p_CellsL from_X from_Y to_X to_Y x (Y0 + k) = false}, IntKind.i64.wrap (X0 + (i : Int) + 1) = X0 + (y.val : Nat) ∧ (X1 + 1 - X0).toNat - y.val < (X1 + 1 - X0).toNat - i ∨ ¬ X0 + (i : Int) ≤ X1 := fun hz => by
          by_cases hle : X0 + (i : Int) ≤ X1
          · exact ⟨⟨i + 1, by omega, fun x hx => by rcases (by omega : x < X0 + (i : Int) ∨ x = X0 + (i : Int)) with q | q; exact zi x q; rw [q]; exact hz⟩, .inl ⟨by rw [wrapI (by omega) (by omega)]; simp only; omega, by simp only; omega⟩⟩
          · exact ⟨⟨0, by omega, fun x hx => hlow x _ (.inl (by omega))⟩, .inr hle⟩
        refine ⟨fun hle => ?_, fun hgt => ⟨⟨k + 1, by omega, fun x y hy => ?_⟩, by rw [wrapI (by omega) (by omega)]; simp only; omega, by simp only; omega⟩⟩
        · have hs : hitW p_W p_H p_CellsL from_X from_Y to_X to_Y (X0 + (i : Int)) (Y0 + (k : Int)) = false → ∃ y : {i : Nat // X0 + i ≤ X1 + 1 ∧ ∀ x, x < X0 + i → hitW p_W p_H p_CellsL from_X from_Y to_X to_Y x (Y0 + k) = false}, IntKind.i64.wrap (X0 + (i : Int) + 1) = X0 + (y.val : Nat) ∧ (X1 + 1 - X0).toNat - y.val < (X1 + 1 - X0).toNat - i := fun hz => by
            obtain ⟨y, hy⟩ := hst hz
            exact ⟨y, hy.resolve_right fun h => h hle⟩
          have hin : 0 ≤ X0 + (i : Int) → X0 + (i : Int) < p_W → 0 ≤ Y0 + (k : Int) → Y0 + (k : Int) < p_H → insB p_W p_H (X0 + (i : Int)) (Y0 + (k : Int)) = true := fun a b c d => decide_eq_true ⟨⟨a, b⟩, c, d⟩
          have hix : insB p_W p_H (X0 + (i : Int)) (Y0 + (k : Int)) = true → IntKind.i64.wrap (IntKind.i64.wrap ((Y0 + (k : Int)) * p_W) + (X0 + (i : Int))) = (Y0 + (k : Int)) * p_W + (X0 + (i : Int)) ∧ 0 ≤ (Y0 + (k : Int)) * p_W + (X0 + (i : Int)) ∧ (Y0 + (k : Int)) * p_W + (X0 + (i : Int)) < p_CellsL.length := fun h => by
            have b := idx_bd h1 h
            rw [wrapI (n := (Y0 + (k : Int)) * p_W) (by omega) (by omega), wrapI (by omega) (by omega)]
            exact ⟨rfl, by omega, by omega⟩
          refine ⟨fun a b c d => ⟨⟨⟨⟨a, b⟩, c⟩, d⟩, ?_⟩, fun a b c d => ⟨⟨⟨⟨a, b⟩, c⟩, d⟩, ?_⟩, fun a b c d e => ?_, fun hc => ?_⟩
          · have q := hix (hin a b c d); rw [q.1]; exact q.2
          · have q := hix (hin a b c d); rw [q.1]; omega
          · have q := hix (hin a b c d)
            rw [q.1, ← at_in h1 (hin a b c d)] at e
            exact hs (by unfold hitW; rw [decide_eq_false e]; rfl)
          · have hat : atB p_W p_H p_CellsL (X0 + (i : Int)) (Y0 + (k : Int)) = 2 := by
              cases hi2 : insB p_W p_H (X0 + (i : Int)) (Y0 + (k : Int))
              · exact at_out h1 hi2
              · have q := hix hi2
                have hI := hi2
                unfold insB at hI
                rw [decide_eq_true_eq] at hI
                rw [at_in h1 hi2]
                rw [q.1, decide_eq_true hI.1.1, decide_eq_true hI.1.2, decide_eq_true hI.2.1, decide_eq_true hI.2.2] at hc
                simpa using hc
            have ht : hitW p_W p_H p_CellsL from_X from_Y to_X to_Y (X0 + (i : Int)) (Y0 + (k : Int)) = touchB from_X from_Y to_X to_Y ((X0 + (i : Int)) * 64) ((Y0 + (k : Int)) * 64) ((X0 + (i : Int)) * 64 + 64) ((Y0 + (k : Int)) * 64 + 64) 20 := by unfold hitW; rw [decide_eq_true hat]; rfl
            rw [wrapI (n := (X0 + (i : Int)) * 64) (by omega) (by omega), wrapI (n := (Y0 + (k : Int)) * 64) (by omega) (by omega), wrapI (n := Y0 + (k : Int) + 1) (by omega) (by omega), wrapI (n := (Y0 + (k : Int) + 1) * 64) (by omega) (by omega)]
            have ex : IntKind.i64.wrap (IntKind.i64.wrap (X0 + (i : Int) + 1) * 64) = (X0 + (i : Int)) * 64 + 64 := by rw [wrapI (n := X0 + (i : Int) + 1) (by omega) (by omega), wrapI (by omega) (by omega)]; omega
            rw [ex, show (Y0 + (k : Int) + 1) * 64 = (Y0 + (k : Int)) * 64 + 64 by omega, ← ht]
            exact ⟨fun h => by symm; rw [blk_iff]; exact .inr (.inr ⟨_, _, h⟩), hs⟩
        · rcases (by omega : y < Y0 + (k : Int) ∨ y = Y0 + (k : Int)) with q | q
          · exact z x y q
          · rcases (by omega : x < X0 + (i : Int) ∨ X1 < x) with q2 | q2
            · rw [q]; exact zi x q2
            · exact hlow x y (.inr (.inr (.inl q2)))
      exact (blk_no hb hw fun x y => by
        rcases (by omega : y < Y0 + (k : Int) ∨ Y1 < y) with q | q
        · exact z x y q
        · exact hlow x y (.inr (.inr (.inr q)))).symm
    · cases hg_
  · cases hg_
/-- wayfinder/wayfinderref11.Blocked -/
noncomputable def g27 : Con := fun args_ E_ nn_ => match args_ with
  | [.a [.v (.int .i64 p_W), .v (.int .i64 p_H), .n p_Cells], .a [.v (.int .i64 from_X), .v (.int .i64 from_Y)], .a [.v (.int .i64 to_X), .v (.int .i64 to_Y)]] => (match rowOf E_ p_Cells with
    | some (p_Cells_n, p_Cells_s, p_Cells_f) => some (.q (isRow eU8 p_Cells_n p_Cells_s p_Cells_f ∧ True) (.o (.c (.v (.bool (blkB p_W p_H (decL eU8 p_Cells_n p_Cells_f) from_X from_Y to_X to_Y))))))
    | none => none)
  | _ => none
theorem c27 : COk Try.prog 27 g27 := by
  refine cok_q Try.func27 x27_ok (by kernel_rfl) (cok_tab (cok_cons c48 (cok_cons c49 (cok_cons c25 (cok_cons c50 (cok_cons c51 (cok_cons c53 (cok_cons c52 cok_nil)))))))) ?_
  intro args_ E_ nn_ cr_ hg_
  unfold g27 at hg_
  split at hg_
  · rename_i p_W p_H p_Cells from_X from_Y to_X to_Y
    split at hg_
    · rename_i p_Cells_n p_Cells_s p_Cells_f h_p_Cells
      cases hg_
      refine ⟨_, _, rfl, 1, [p_Cells], [.a [.v (.int .i64 p_W), .v (.int .i64 p_H), .n 0], .a [.v (.int .i64 from_X), .v (.int .i64 from_Y)], .a [.v (.int .i64 to_X), .v (.int .i64 to_Y)]], [(0, .ro (decL eU8 p_Cells_n p_Cells_f).length eU8.sz (rowF eU8 (decL eU8 p_Cells_n p_Cells_f)))], .o (.c (.v (.bool (blkB p_W p_H (decL eU8 p_Cells_n p_Cells_f) from_X from_Y to_X to_Y)))), rfl, rfl, by simp only [push_cast, Nat.reduceLT, Nat.reduceAdd], by simp only [push_cast, Nat.reduceLT, Nat.reduceAdd], by simp only [push_cast, Nat.reduceLT, Nat.reduceAdd], rfl, ⟨inE0_row h_p_Cells, trivial⟩, rfl, ?_⟩
      intro hpre hlen
      obtain ⟨i_p_Cells, hpre⟩ := hpre
      refine ⟨⟨inE_row h_p_Cells i_p_Cells, trivial⟩, ?_⟩
      have z_p_Cells := lens_row (E := eU8) hlen h_p_Cells
      clear i_p_Cells
      generalize decL eU8 p_Cells_n p_Cells_f = p_CellsL at *
      clear h_p_Cells
      simp (config := {maxSteps := 10000000}) only [x27, push_cast, Nat.reduceAdd, Nat.reduceSub, Nat.reduceLeDiff, Nat.reduceEqDiff, Nat.reduceBEq, Nat.reduceMul, Nat.reduceLT, reduceIte, reduceCtorEq, Int.reduceLE, Int.reduceLT, Int.reduceEq, Int.reduceMul, Int.reduceAdd, Int.reduceSub, Int.reduceNeg, Int.reduceToNat, Int.reduceNe, g48, g49, g25, g50, g51, g53, g52]
      refine ⟨fun h => ?_, fun hb p1 p2 w1 w2 w3 w4 => ?_⟩
      · symm; rw [blk_iff]
        cases hw : wayB from_X from_Y to_X to_Y
        · exact .inr (.inl rfl)
        · unfold wayB at hw
          rw [decide_eq_true_eq] at hw
          left
          rcases h with (((h | h) | h) | h) | h
          · exact h
          · unfold pPtB at h; rw [decide_eq_false_iff_not] at h; omega
          · unfold pPtB at h; rw [decide_eq_false_iff_not] at h; omega
          · rw [wrapI (by omega) (by omega)] at h; omega
          · rw [wrapI (by omega) (by omega)] at h; omega
      unfold pPtB at p1 p2
      rw [decide_eq_true_eq] at p1 p2
      rw [wrapI (by omega) (by omega)] at w1 w2 w3 w4
      have hw : wayB from_X from_Y to_X to_Y = true := by unfold wayB; rw [decide_eq_true_eq]; omega
      have h1 : planB p_W p_H p_CellsL = true := by unfold buildB at hb; rw [Bool.and_eq_true] at hb; exact hb.1
      have hlow : ∀ x y, (x < min from_X to_X / 64 - 1 ∨ y < min from_Y to_Y / 64 - 1 ∨ max from_X to_X / 64 + 1 < x ∨ max from_Y to_Y / 64 + 1 < y) → hitW p_W p_H p_CellsL from_X from_Y to_X to_Y x y = false := by
        intro x y h
        rw [Bool.eq_false_iff]; intro q
        have := hit_rng q
        omega
      rw [wrapI (n := min from_Y to_Y / 64 - 1) (by omega) (by omega)]
      refine ⟨by omega, ?_⟩
      refine vcLoop_upd (α := {k : Nat // (min from_Y to_Y / 64 - 1) + k ≤ (max from_Y to_Y / 64 + 1) + 1 ∧ ∀ x y, y < (min from_Y to_Y / 64 - 1) + k → hitW p_W p_H p_CellsL from_X from_Y to_X to_Y x y = false}) [3, 4, 5] 0 (fun s => [(7, .o (.c (.v (.int .i64 ((min from_Y to_Y / 64 - 1) + (s.1 : Nat))))))]) (fun s => []) (fun s => ((max from_Y to_Y / 64 + 1) + 1 - (min from_Y to_Y / 64 - 1)).toNat - s.1) ⟨0, by omega, fun x y h => hlow x y (.inr (.inl (by omega)))⟩ ?_ ?_
      · simp only [push_cast, Nat.reduceAdd, Nat.reduceSub, Nat.reduceLeDiff, Nat.reduceEqDiff, Nat.reduceBEq, Nat.reduceMul, Nat.reduceLT, reduceIte, reduceCtorEq, Int.reduceLE, Int.reduceLT, Int.reduceEq, Int.reduceMul, Int.reduceAdd, Int.reduceSub, Int.reduceNeg, Int.reduceToNat, Int.reduceNe, g48, g49, g25, g50, g51, g53, g52, Int.add_zero]
      rintro ⟨k, hk, z⟩
      simp only [x27L1, push_cast, Nat.reduceAdd, Nat.reduceSub, Nat.reduceLeDiff, Nat.reduceEqDiff, Nat.reduceBEq, Nat.reduceMul, Nat.reduceLT, reduceIte, reduceCtorEq, Int.reduceLE, Int.reduceLT, Int.reduceEq, Int.reduceMul, Int.reduceAdd, Int.reduceSub, Int.reduceNeg, Int.reduceToNat, Int.reduceNe, g48, g49, g25, g50, g51, g53, g52]
      rw [wrapI (n := max from_Y to_Y / 64 + 1) (by omega) (by omega), wrapI (n := min from_X to_X / 64 - 1) (by omega) (by omega)]
      refine ⟨by omega, fun hlt => ⟨by omega, ?_⟩, fun hge => ?_⟩
      · refine vcLoop_upd (α := {i : Nat // (min from_X to_X / 64 - 1) + i ≤ (max from_X to_X / 64 + 1) + 1 ∧ ∀ x, x < (min from_X to_X / 64 - 1) + i → hitW p_W p_H p_CellsL from_X from_Y to_X to_Y x ((min from_Y to_Y / 64 - 1) + k) = false}) [3, 4, 5, 7] 0 (fun s => [(8, .o (.c (.v (.int .i64 ((min from_X to_X / 64 - 1) + (s.1 : Nat))))))]) (fun s => []) (fun s => ((max from_X to_X / 64 + 1) + 1 - (min from_X to_X / 64 - 1)).toNat - s.1) ⟨0, by omega, fun x h => hlow x _ (.inl (by omega))⟩ ?_ ?_
        · simp only [push_cast, Nat.reduceAdd, Nat.reduceSub, Nat.reduceLeDiff, Nat.reduceEqDiff, Nat.reduceBEq, Nat.reduceMul, Nat.reduceLT, reduceIte, reduceCtorEq, Int.reduceLE, Int.reduceLT, Int.reduceEq, Int.reduceMul, Int.reduceAdd, Int.reduceSub, Int.reduceNeg, Int.reduceToNat, Int.reduceNe, g48, g49, g25, g50, g51, g53, g52, Int.add_zero]
        rintro ⟨i, hi, zi⟩
        simp only [x27L0, push_cast, Nat.reduceAdd, Nat.reduceSub, Nat.reduceLeDiff, Nat.reduceEqDiff, Nat.reduceBEq, Nat.reduceMul, Nat.reduceLT, reduceIte, reduceCtorEq, Int.reduceLE, Int.reduceLT, Int.reduceEq, Int.reduceMul, Int.reduceAdd, Int.reduceSub, Int.reduceNeg, Int.reduceToNat, Int.reduceNe, g48, g49, g25, g50, g51, g53, g52]
        rw [wrapI (n := max from_X to_X / 64 + 1) (by omega) (by omega)]
        refine ⟨by omega, ?_⟩
        have r1 : -20000 ≤ min from_X to_X / 64 - 1 ∧ max from_X to_X / 64 + 1 ≤ 20000 := by omega
        have r2 : -20000 ≤ min from_Y to_Y / 64 - 1 ∧ max from_Y to_Y / 64 + 1 ≤ 20000 := by omega
        generalize min from_X to_X / 64 - 1 = X0 at *
        generalize min from_Y to_Y / 64 - 1 = Y0 at *
        generalize max from_X to_X / 64 + 1 = X1 at *
        generalize max from_Y to_Y / 64 + 1 = Y1 at *
        refine ⟨fun hle => ⟨h1, fun e => ⟨e, by omega, by omega⟩, fun e ht => ?_, fun hc => ?_⟩, fun hgt => ⟨⟨k + 1, by omega, fun x y hy => ?_⟩, by rw [wrapI (by omega) (by omega)]; simp only; omega, by simp only; omega⟩⟩
        · symm; rw [blk_iff]; exact .inr (.inr ⟨X0 + (i : Int), Y0 + (k : Int), by unfold hitW; rw [decide_eq_true e, ht]; rfl⟩)
        · have hz : hitW p_W p_H p_CellsL from_X from_Y to_X to_Y (X0 + (i : Int)) (Y0 + (k : Int)) = false := by unfold hitW; exact hc
          exact ⟨⟨i + 1, by omega, fun x hx => by rcases (by omega : x < X0 + (i : Int) ∨ x = X0 + (i : Int)) with q | q; exact zi x q; rw [q]; exact hz⟩, by rw [wrapI (by omega) (by omega)]; simp only; omega, by simp only; omega⟩
        · rcases (by omega : y < Y0 + (k : Int) ∨ y = Y0 + (k : Int)) with q | q
          · exact z x y q
          · rcases (by omega : x < X0 + (i : Int) ∨ X1 < x) with q2 | q2
            · rw [q]; exact zi x q2
            · exact hlow x y (.inr (.inr (.inl q2)))
      exact (blk_no hb hw fun x y => by
        rcases (by omega : y < min from_Y to_Y / 64 - 1 + (k : Int) ∨ max from_Y to_Y / 64 + 1 < y) with q | q
        · exact z x y q
        · exact hlow x y (.inr (.inr (.inr q)))).symm
    · cases hg_
  · cases hg_
end Go.Proofs.Ytjcpefnbongmaaa
set_option linter.unusedVariables false
set_option linter.unusedSimpArgs false
set_option maxRecDepth 20000
namespace Go.Proofs.Ytjcpefnbongmaaa
open Go.Sx Go.Way
def x38 : XFn := ⟨8, (.seq (.reg false [O1 1 (.box 23) 0, ⟨(some 2), (.alloc 57 [(iV 0), (iV 0)]), [], none⟩]) (.seq (.reg false [O1 3 (.fld 0) 1, O1 4 .load1 3, O1 5 (.fld 1) 1, O1 6 .load1 5, ⟨(some 7), (.build [(iV 0), (iV 0)] [(0, 1), (1, 1)]), [(.t 4), (.t 6)], none⟩, ⟨none, (.store 2), [(.t 2), (.t 7)], none⟩]) .ret)), [(.bn 2 2)]⟩
theorem x38_ok : xfn Try.prog Try.f38 = some x38.er := by kernel_rfl
def x33 : XFn := ⟨11, (.seq (.reg false [O1 1 (.box 23) 0, K1 2 .mv (.bool false)]) (.seq (.reg false [O1 3 (.loadN 3) 1, O1 4 (.call 38) 3, O1 5 (.call 37) 4, O1 6 .mv 5, G1 7 (.fld 2) 1 6 true, G1 8 .load1 7 6 true, ⟨(some 9), (.call 43), [(.t 8), (.k (iV 0)), (.k (iV 255))], (some (6, true))⟩, ⟨(some 10), .pick, [(.t 6), (.t 9), (.k (.bool false))], none⟩, O1 2 .mv 10]) .ret)), [(.s 2)]⟩
theorem x33_ok : xfn Try.prog Try.f33 = some x33.er := by kernel_rfl
def x21 : XFn := ⟨11, (.seq (.reg false [O1 1 (.box 25) 0, K1 2 .mv (.bool false)]) (.seq (.reg false [O1 3 (.fld 0) 1, O1 4 .load1 3, K2 5 (.call 34) 4 (iV 32), O1 6 .mv 5, G1 7 (.fld 1) 1 6 true, G1 8 .load1 7 6 true, ⟨(some 9), (.call 43), [(.t 8), (.k (iV 0)), (.k (iV 32))], (some (6, true))⟩, ⟨(some 10), .pick, [(.t 6), (.t 9), (.k (.bool false))], none⟩, O1 2 .mv 10]) .ret)), [(.s 2)]⟩
theorem x21_ok : xfn Try.prog Try.f21 = some x21.er := by kernel_rfl
def x19 : XFn := ⟨21, (.seq (.reg false [O1 1 (.box 36) 0, K1 2 .mv (.bool false)]) (.seq (.reg false [O1 3 (.fld 0) 1, O1 4 .load1 3, ⟨(some 5), (.call 43), [(.t 4), (.k (iV 0)), (.k (iV 8))], none⟩, O1 6 .mv 5, G1 7 (.fld 1) 1 6 true, G1 8 .load1 7 6 true, ⟨(some 9), (.call 43), [(.t 8), (.k (iV 0)), (.k (iV 16))], (some (6, true))⟩, ⟨(some 10), .pick, [(.t 6), (.t 9), (.k (.bool false))], none⟩, O1 11 .mv 10, G1 12 (.fld 2) 1 11 true, G1 13 .load1 12 11 true, ⟨(some 14), (.call 43), [(.t 13), (.k (iV 0)), (.k (iV 8))], (some (11, true))⟩, ⟨(some 15), .pick, [(.t 11), (.t 14), (.k (.bool false))], none⟩, O1 16 .mv 15, G1 17 (.fld 3) 1 16 true, G1 18 .load1 17 16 true, ⟨(some 19), (.call 43), [(.t 18), (.k (iV 1)), (.k (iV 32))], (some (16, true))⟩, ⟨(some 20), .pick, [(.t 16), (.t 19), (.k (.bool false))], none⟩, O1 2 .mv 20]) .ret)), [(.s 2)]⟩
theorem x19_ok : xfn Try.prog Try.f19 = some x19.er := by kernel_rfl
def x35 : XFn := ⟨7, (.seq (.reg false [K1 2 .mv (iV 0)]) (.seq (.reg false [O1 3 .mv 0, K2 4 (.bin .rem) 3 (iV 256), K2 5 (.bin .add) 4 (iV 256), K2 6 (.bin .rem) 5 (iV 256), O1 2 .mv 6]) .ret)), [(.s 2)]⟩
theorem x35_ok : xfn Try.prog Try.f35 = some x35.er := by kernel_rfl
def x36 : XFn := ⟨26, (.seq (.reg false [⟨(some 4), (.alloc 57 [(iV 0), (iV 0)]), [], none⟩]) (.seq (.reg false [O1 7 .mv 0, O1 8 (.call 59) 7, O1 9 .mv 1, ⟨(some 10), .maxI, [(.k (iV 0)), (.t 9)], none⟩, ⟨(some 5), (.alloc 81 [(iV 0), (iV 0), (iV 0)]), [], none⟩, ⟨none, (.store 3), [(.t 5), (.t 8)], none⟩, O1 6 .mv 10]) (.seq (.regD [O1 11 .mv 6, O1 12 (.fld 0) 5, O1 13 .load1 12, O2 14 (.bin .mul) 11 13, O1 15 (.fld 2) 5, O1 16 .load1 15, O2 17 (.call 56) 14 16, O1 18 .mv 6, O1 19 (.fld 1) 5, O1 20 .load1 19, O2 21 (.bin .mul) 18 20, O1 22 (.fld 2) 5, O1 23 .load1 22, O2 24 (.call 56) 21 23, ⟨(some 25), (.build [(iV 0), (iV 0)] [(0, 1), (1, 1)]), [(.t 17), (.t 24)], none⟩, ⟨none, (.store 2), [(.t 4), (.t 25)], none⟩] [[], [], [1], [0, 2, 1], [], [4], [3, 0, 2, 1, 5, 4], [], [], [8], [7, 9, 8], [], [11], [10, 7, 9, 8, 12, 11, 6, 3, 0, 2, 1, 5, 4], [6, 3, 0, 2, 1, 5, 4, 13, 10, 7, 9, 8, 12, 11], [14, 6, 3, 0, 2, 1, 5, 4, 13, 10, 7, 9, 8, 12, 11]]) .ret))), [(.bn 4 2)]⟩
theorem x36_ok : xfn Try.prog Try.f36 = some x36.er := by kernel_rfl
def x13 : XFn := ⟨87, (.seq (.reg false [O1 3 (.box 23) 0, O1 4 (.box 25) 1, O1 5 (.box 27) 2, ⟨(some 6), (.alloc 23 [(iV 0), (iV 0), (iV 0)]), [], none⟩, K1 7 .mv (iV 0)]) (.seq (.seq (.reg false [O1 9 (.loadN 3) 3, O1 10 (.call 33) 9, O1 11 (.un .not) 10, O1 12 .mv 11, G1 13 (.loadN 2) 4 12 false, G1 14 (.call 21) 13 12 false, G1 15 (.un .not) 14 12 false, ⟨(some 16), .pick, [(.t 12), (.k (.bool true)), (.t 15)], none⟩]) (.cond (.t 16) (.seq (.reg false [⟨(some 17), (.build [(iV 0), (iV 0), (iV 0)] []), [], none⟩, ⟨none, (.store 3), [(.t 6), (.t 17)], none⟩, K1 7 .mv (iV 1)]) .ret) .skip)) (.seq (.seq (.reg false [O1 18 (.fld 0) 5, O1 19 .load1 18, K2 20 (.call 34) 19 (iV 64), O1 21 (.un .not) 20, O1 22 .mv 21, G1 23 (.fld 1) 5 22 false, G1 24 .load1 23 22 false, GK 25 (.call 34) 24 (iV 64) 22 false, G1 26 (.un .not) 25 22 false, ⟨(some 27), .pick, [(.t 22), (.k (.bool true)), (.t 26)], none⟩, O1 28 .mv 27, G1 29 (.fld 2) 5 28 false, G1 30 .load1 29 28 false, GK 31 (.call 34) 30 (iV 64) 28 false, G1 32 (.un .not) 31 28 false, ⟨(some 33), .pick, [(.t 28), (.k (.bool true)), (.t 32)], none⟩, O1 34 .mv 33, G1 35 (.fld 3) 5 34 false, G1 36 .load1 35 34 false, GK 37 (.call 34) 36 (iV 64) 34 false, G1 38 (.un .not) 37 34 false, ⟨(some 39), .pick, [(.t 34), (.k (.bool true)), (.t 38)], none⟩]) (.cond (.t 39) (.seq (.reg false [⟨(some 40), (.build [(iV 0), (iV 0), (iV 0)] []), [], none⟩, ⟨none, (.store 3), [(.t 6), (.t 40)], none⟩, K1 7 .mv (iV 2)]) .ret) .skip)) (.seq (.reg false [O1 41 (.fld 2) 3, O1 42 .load1 41, O1 43 (.fld 0) 4, O1 44 .load1 43, O2 45 (.bin .add) 42 44, O1 46 (.fld 0) 5, O1 47 .load1 46, O2 48 (.bin .add) 45 47, O1 49 (.call 35) 48, O1 50 (.fld 2) 3, ⟨none, (.store 1), [(.t 50), (.t 49)], none⟩]) (.seq (.seq (.reg false [O1 51 (.fld 1) 4, O1 52 .load1 51, K2 53 (.bin .eql) 52 (iV 0)]) (.cond (.t 53) (.seq (.reg false [O1 54 (.loadN 3) 3, ⟨none, (.store 3), [(.t 6), (.t 54)], none⟩, K1 7 .mv (iV 0)]) .ret) .skip)) (.seq (.reg false [O1 55 (.fld 2) 3, O1 56 .load1 55, O1 57 (.fld 1) 4, O1 58 .load1 57, O1 59 (.fld 1) 5, O1 60 .load1 59, O2 61 (.bin .add) 58 60, O2 62 (.call 36) 56 61, ⟨(some 8), (.alloc 57 [(iV 0), (iV 0)]), [], none⟩, ⟨none, (.store 2), [(.t 8), (.t 62)], none⟩]) (.seq (.reg false [O1 63 (.fld 0) 3, O1 64 .load1 63, O1 65 (.fld 0) 8, O1 66 .load1 65, O1 67 (.fld 2) 5, O1 68 .load1 67, O2 69 (.bin .add) 66 68, O2 70 (.bin .add) 64 69, O1 71 (.fld 0) 3, ⟨none, (.store 1), [(.t 71), (.t 70)], none⟩]) (.seq (.reg false [O1 72 (.fld 1) 3, O1 73 .load1 72, O1 74 (.fld 1) 8, O1 75 .load1 74, O1 76 (.fld 3) 5, O1 77 .load1 76, O2 78 (.bin .add) 75 77, O2 79 (.bin .add) 73 78, O1 80 (.fld 1) 3, ⟨none, (.store 1), [(.t 80), (.t 79)], none⟩]) (.seq (.seq (.reg false [O1 81 (.loadN 3) 3, O1 82 (.call 38) 81, O1 83 (.call 37) 82, O1 84 (.un .not) 83]) (.cond (.t 84) (.seq (.reg false [⟨(some 85), (.build [(iV 0), (iV 0), (iV 0)] []), [], none⟩, ⟨none, (.store 3), [(.t 6), (.t 85)], none⟩, K1 7 .mv (iV 2)]) .ret) .skip)) (.seq (.reg false [O1 86 (.loadN 3) 3, ⟨none, (.store 3), [(.t 6), (.t 86)], none⟩, K1 7 .mv (iV 0)]) .ret)))))))))), [(.bn 6 3), (.s 7)]⟩
theorem x13_ok : xfn Try.prog Try.f13 = some x13.er := by kernel_rfl
def x15 : XFn := ⟨74, (.seq (.reg false [O1 3 (.box 25) 0, O1 4 (.box 36) 1, ⟨(some 6), (.alloc 38 [(iV 0), (iV 0), (iV 0), (iV 0)]), [], none⟩, K1 7 .mv (iV 0)]) (.seq (.seq (.reg false [O1 10 (.loadN 2) 3, O1 11 (.call 21) 10, O1 12 (.un .not) 11, O1 13 .mv 12, G1 14 (.loadN 4) 4 13 false, G1 15 (.call 19) 14 13 false, G1 16 (.un .not) 15 13 false, ⟨(some 17), .pick, [(.t 13), (.k (.bool true)), (.t 16)], none⟩]) (.cond (.t 17) (.seq (.reg false [⟨(some 18), (.build [(iV 0), (iV 0), (iV 0), (iV 0)] []), [], none⟩, ⟨none, (.store 4), [(.t 6), (.t 18)], none⟩, K1 7 .mv (iV 1)]) .ret) .skip)) (.seq (.seq (.reg false [O1 19 .mv 2, ⟨(some 20), (.call 43), [(.t 19), (.k (iV 0)), (.k (iV 255))], none⟩, O1 21 (.un .not) 20]) (.cond (.t 21) (.seq (.reg false [⟨(some 22), (.build [(iV 0), (iV 0), (iV 0), (iV 0)] []), [], none⟩, ⟨none, (.store 4), [(.t 6), (.t 22)], none⟩, K1 7 .mv (iV 2)]) .ret) .skip)) (.seq (.seq (.reg false [O1 23 (.fld 1) 3, O1 24 .load1 23, K2 25 (.bin .eql) 24 (iV 0)]) (.cond (.t 25) (.seq (.reg false [⟨(some 26), (.build [(iV 0), (iV 0), (iV 0), (iV 0)] []), [], none⟩, ⟨none, (.store 4), [(.t 6), (.t 26)], none⟩, K1 7 .mv (iV 0)]) .ret) .skip)) (.seq (.regD [O1 27 .mv 2, O1 28 (.fld 1) 3, O1 29 .load1 28, O1 30 (.fld 1) 4, O1 31 .load1 30, O2 32 (.bin .sub) 29 31, O2 33 (.call 36) 27 32, O1 34 .mv 2, O1 35 (.fld 1) 3, O1 36 .load1 35, O1 37 (.fld 1) 4, O1 38 .load1 37, O2 39 (.bin .add) 36 38, O2 40 (.call 36) 34 39, ⟨(some 8), (.alloc 57 [(iV 0), (iV 0)]), [], none⟩, ⟨(some 9), (.alloc 57 [(iV 0), (iV 0)]), [], none⟩, ⟨none, (.store 2), [(.t 8), (.t 33)], none⟩, ⟨none, (.store 2), [(.t 9), (.t 40)], none⟩] [[], [], [1], [], [3], [2, 1, 4, 3], [0, 5, 2, 1, 4, 3], [], [], [8], [], [10], [9, 8, 11, 10], [7, 12, 9, 8, 11, 10, 6, 0, 5, 2, 1, 4, 3], [], [], [14, 6, 0, 5, 2, 1, 4, 3, 13, 7, 12, 9, 8, 11, 10, 15], [15, 13, 7, 12, 9, 8, 11, 10, 6, 0, 5, 2, 1, 4, 3, 16, 14]]) (.seq (.reg false [O1 41 (.fld 0) 8, O1 42 .load1 41, O1 43 (.fld 0) 9, O1 44 .load1 43, O2 45 .minI 42 44, O1 46 (.fld 2) 4, O1 47 .load1 46, O2 48 (.bin .sub) 45 47, O1 49 (.fld 1) 8, O1 50 .load1 49, O1 51 (.fld 1) 9, O1 52 .load1 51, O2 53 .minI 50 52, O1 54 (.fld 2) 4, O1 55 .load1 54, O2 56 (.bin .sub) 53 55, O1 57 (.fld 0) 8, O1 58 .load1 57, O1 59 (.fld 0) 9, O1 60 .load1 59, O2 61 .maxI 58 60, O1 62 (.fld 2) 4, O1 63 .load1 62, O2 64 (.bin .add) 61 63, O1 65 (.fld 1) 8, O1 66 .load1 65, O1 67 (.fld 1) 9, O1 68 .load1 67, O2 69 .maxI 66 68, O1 70 (.fld 2) 4, O1 71 .load1 70, O2 72 (.bin .add) 69 71, ⟨(some 73), (.build [(iV 0), (iV 0), (iV 0), (iV 0)] [(0, 1), (1, 1), (2, 1), (3, 1)]), [(.t 48), (.t 56), (.t 64), (.t 72)], none⟩, ⟨none, (.store 4), [(.t 6), (.t 73)], none⟩, K1 7 .mv (iV 0)]) .ret)))))), [(.bn 6 4), (.s 7)]⟩
theorem x15_ok : xfn Try.prog Try.f15 = some x15.er := by kernel_rfl
def x45 : XFn := ⟨11, (.seq (.reg false [K1 4 .mv (iV 0)]) (.seq (.reg false [O1 5 .mv 1, O1 6 (.un .neg) 5, O1 7 .mv 0, O1 8 .mv 1, O2 9 .minI 7 8, O2 10 .maxI 6 9, O1 4 .mv 10]) .ret)), [(.s 4)]⟩
theorem x45_ok : xfn Try.prog Try.f45 = some x45.er := by kernel_rfl
def x17 : XFn := ⟨36, (.seq (.reg false [O1 2 (.box 36) 0, O1 3 (.box 27) 1, ⟨(some 4), (.alloc 27 [(iV 0), (iV 0), (iV 0), (iV 0)]), [], none⟩, K1 5 .mv (iV 0)]) (.seq (.seq (.reg false [O1 7 (.loadN 4) 2, O1 8 (.call 19) 7, O1 9 (.un .not) 8]) (.cond (.t 9) (.seq (.reg false [⟨(some 10), (.build [(iV 0), (iV 0), (iV 0), (iV 0)] []), [], none⟩, ⟨none, (.store 4), [(.t 4), (.t 10)], none⟩, K1 5 .mv (iV 1)]) .ret) .skip)) (.seq (.reg false [⟨(some 6), .mv, [(.k (.func (.func 45) #[] #[]))], none⟩]) (.seq (.regD [O1 11 .mv 6, O1 12 (.fld 0) 3, O1 13 .load1 12, O1 14 (.fld 0) 2, O1 15 .load1 14, ⟨(some 16), .callv, [(.t 11), (.t 13), (.t 15)], none⟩, O1 17 .mv 6, O1 18 (.fld 1) 3, O1 19 .load1 18, O1 20 (.fld 1) 2, O1 21 .load1 20, ⟨(some 22), .callv, [(.t 17), (.t 19), (.t 21)], none⟩, O1 23 .mv 6, O1 24 (.fld 2) 3, O1 25 .load1 24, O1 26 (.fld 2) 2, O1 27 .load1 26, ⟨(some 28), .callv, [(.t 23), (.t 25), (.t 27)], none⟩, O1 29 .mv 6, O1 30 (.fld 3) 3, O1 31 .load1 30, O1 32 (.fld 2) 2, O1 33 .load1 32, ⟨(some 34), .callv, [(.t 29), (.t 31), (.t 33)], none⟩, ⟨(some 35), (.build [(iV 0), (iV 0), (iV 0), (iV 0)] [(0, 1), (1, 1), (2, 1), (3, 1)]), [(.t 16), (.t 22), (.t 28), (.t 34)], none⟩, ⟨none, (.store 4), [(.t 4), (.t 35)], none⟩, K1 5 .mv (iV 0)] [[], [], [1], [], [3], [0, 2, 1, 4, 3], [], [], [7], [], [9], [6, 8, 7, 10, 9, 5, 0, 2, 1, 4, 3], [], [], [13], [], [15], [12, 14, 13, 16, 15, 11, 6, 8, 7, 10, 9, 5, 0, 2, 1, 4, 3], [], [], [19], [], [21], [18, 20, 19, 22, 21, 17, 12, 14, 13, 16, 15, 11, 6, 8, 7, 10, 9, 5, 0, 2, 1, 4, 3], [5, 0, 2, 1, 4, 3, 11, 6, 8, 7, 10, 9, 17, 12, 14, 13, 16, 15, 23, 18, 20, 19, 22, 21], [24, 5, 0, 2, 1, 4, 3, 11, 6, 8, 7, 10, 9, 17, 12, 14, 13, 16, 15, 23, 18, 20, 19, 22, 21], [25, 24, 5, 0, 2, 1, 4, 3, 11, 6, 8, 7, 10, 9, 17, 12, 14, 13, 16, 15, 23, 18, 20, 19, 22, 21]]) .ret)))), [(.bn 4 4), (.s 5)]⟩
theorem x17_ok : xfn Try.prog Try.f17 = some x17.er := by kernel_rfl
def x23L0 : XC := (.seq (.seq (.reg false [O1 71 .mv 13, O1 72 (.fld 1) 5, O1 73 .load1 72, O2 74 (.bin .leq) 71 73]) (.cond (.t 74) .skip (.exit 0))) (.seq (.block 1 (.seq (.reg false [O1 77 (.fld 2) 8, O1 78 .load1 77, O1 79 (.fld 1) 7, O1 80 .load1 79, O1 81 .mv 13, O2 82 (.bin .add) 80 81, O2 83 (.call 36) 78 82, ⟨(some 14), (.alloc 57 [(iV 0), (iV 0)]), [], none⟩, ⟨none, (.store 2), [(.t 14), (.t 83)], none⟩]) (.seq (.reg false [O1 84 .mv 11, O1 85 (.fld 0) 14, O1 86 .load1 85, O2 87 (.bin .sub) 84 86, O1 88 (.fld 2) 5, O1 89 .load1 88, O2 90 (.call 34) 87 89, O1 91 .mv 90, G1 92 .mv 12 91 true, G1 93 (.fld 1) 14 91 true, G1 94 .load1 93 91 true, G2 95 (.bin .sub) 92 94 91 true, G1 96 (.fld 2) 5 91 true, G1 97 .load1 96 91 true, G2 98 (.call 34) 95 97 91 true, ⟨(some 99), .pick, [(.t 91), (.t 98), (.k (.bool false))], none⟩]) (.cond (.t 99) (.seq (.reg false [K1 10 .mv (.bool true)]) .ret) .skip)))) (.reg false [O1 75 .mv 13, K2 76 (.bin .add) 75 (iV 1), O1 13 .mv 76])))
def x23 : XFn := ⟨100, (.seq (.reg false [O1 5 (.box 36) 0, O1 6 (.box 23) 1, O1 7 (.box 25) 2, O1 8 (.box 23) 3, K1 10 .mv (.bool false)]) (.seq (.seq (.reg false [O1 15 (.loadN 4) 5, O1 16 (.call 19) 15, O1 17 (.un .not) 16, O1 18 .mv 17, G1 19 (.loadN 3) 6 18 false, G1 20 (.call 33) 19 18 false, G1 21 (.un .not) 20 18 false, ⟨(some 22), .pick, [(.t 18), (.k (.bool true)), (.t 21)], none⟩, O1 23 .mv 22, G1 24 (.loadN 2) 7 23 false, G1 25 (.call 21) 24 23 false, G1 26 (.un .not) 25 23 false, ⟨(some 27), .pick, [(.t 23), (.k (.bool true)), (.t 26)], none⟩, O1 28 .mv 27, G1 29 (.loadN 3) 8 28 false, G1 30 (.call 33) 29 28 false, G1 31 (.un .not) 30 28 false, ⟨(some 32), .pick, [(.t 28), (.k (.bool true)), (.t 31)], none⟩]) (.cond (.t 32) (.seq (.reg false [K1 10 .mv (.bool false)]) .ret) .skip)) (.seq (.seq (.reg true [O1 33 (.fld 2) 6, O1 34 .load1 33, O1 35 (.fld 0) 7, O1 36 .load1 35, O2 37 (.bin .add) 34 36, O1 38 (.call 35) 37, O1 39 (.fld 2) 8, O1 40 .load1 39, O2 41 (.call 47) 38 40, O1 42 (.fld 0) 5, O1 43 .load1 42, O2 44 (.call 34) 41 43, O1 45 (.un .not) 44]) (.cond (.t 45) (.seq (.reg false [K1 10 .mv (.bool false)]) .ret) .skip)) (.seq (.reg true [O1 46 (.fld 0) 8, O1 47 .load1 46, O1 48 (.fld 0) 6, O1 49 .load1 48, O2 50 (.bin .sub) 47 49, O1 51 (.fld 1) 8, O1 52 .load1 51, O1 53 (.fld 1) 6, O1 54 .load1 53, O2 55 (.bin .sub) 52 54, O1 11 .mv 50, O1 12 .mv 55]) (.seq (.seq (.reg false [O1 56 .mv 4, O1 57 .mv 56, G1 58 (.fld 1) 7 57 false, G1 59 .load1 58 57 false, GK 60 (.bin .eql) 59 (iV 0) 57 false, ⟨(some 61), .pick, [(.t 57), (.k (.bool true)), (.t 60)], none⟩]) (.cond (.t 61) (.seq (.reg false [O1 62 .mv 11, K2 63 (.bin .eql) 62 (iV 0), O1 64 .mv 63, G1 65 .mv 12 64 true, GK 66 (.bin .eql) 65 (iV 0) 64 true, ⟨(some 67), .pick, [(.t 64), (.t 66), (.k (.bool false))], none⟩, O1 10 .mv 67]) .ret) .skip)) (.seq (.seq (.reg false [O1 68 (.fld 1) 5, O1 69 .load1 68, O1 70 (.un .neg) 69, O1 13 .mv 70]) (.block 0 (.loop x23L0))) (.seq (.reg false [K1 10 .mv (.bool false)]) .ret))))))), [(.s 10)]⟩
theorem x23_ok : xfn Try.prog Try.f23 = some x23.er := by kernel_rfl
def x40 : XFn := ⟨16, (.seq (.reg false [O1 1 (.box 25) 0, K1 2 .mv (.bool false)]) (.seq (.reg false [O1 3 (.fld 0) 1, O1 4 .load1 3, K2 5 (.call 25) 4 (iV 32), O1 6 .mv 5, G1 7 (.fld 1) 1 6 true, G1 8 .load1 7 6 true, GK 9 (.bin .geq) 8 (iV 0) 6 true, ⟨(some 10), .pick, [(.t 6), (.t 9), (.k (.bool false))], none⟩, O1 11 .mv 10, G1 12 (.fld 1) 1 11 true, G1 13 .load1 12 11 true, GK 14 (.bin .leq) 13 (iV 32) 11 true, ⟨(some 15), .pick, [(.t 11), (.t 14), (.k (.bool false))], none⟩, O1 2 .mv 15]) .ret)), [(.s 2)]⟩
theorem x40_ok : xfn Try.prog Try.f40 = some x40.er := by kernel_rfl
def x42 : XFn := ⟨23, (.seq (.reg false [⟨(some 4), (.alloc 57 [(iV 0), (iV 0)]), [], none⟩]) (.seq (.reg false [O1 6 .mv 1, O1 7 (.call 60) 6, ⟨(some 5), (.alloc 81 [(iV 0), (iV 0), (iV 0)]), [], none⟩, ⟨none, (.store 3), [(.t 5), (.t 7)], none⟩]) (.seq (.regD [O1 8 .mv 0, O1 9 (.fld 0) 5, O1 10 .load1 9, O2 11 (.bin .mul) 8 10, O1 12 (.fld 2) 5, O1 13 .load1 12, O2 14 (.call 50) 11 13, O1 15 .mv 0, O1 16 (.fld 1) 5, O1 17 .load1 16, O2 18 (.bin .mul) 15 17, O1 19 (.fld 2) 5, O1 20 .load1 19, O2 21 (.call 50) 18 20, ⟨(some 22), (.build [(iV 0), (iV 0)] [(0, 1), (1, 1)]), [(.t 14), (.t 21)], none⟩, ⟨none, (.store 2), [(.t 4), (.t 22)], none⟩] [[], [], [1], [0, 2, 1], [], [4], [3, 0, 2, 1, 5, 4], [], [], [8], [7, 9, 8], [], [11], [10, 7, 9, 8, 12, 11, 6, 3, 0, 2, 1, 5, 4], [6, 3, 0, 2, 1, 5, 4, 13, 10, 7, 9, 8, 12, 11], [14, 6, 3, 0, 2, 1, 5, 4, 13, 10, 7, 9, 8, 12, 11]]) .ret))), [(.bn 4 2)]⟩
theorem x42_ok : xfn Try.prog Try.f42 = some x42.er := by kernel_rfl
def x14 : XFn := ⟨92, (.seq (.reg false [O1 3 (.box 23) 0, O1 4 (.box 25) 1, O1 5 (.box 27) 2, ⟨(some 6), (.alloc 23 [(iV 0), (iV 0), (iV 0)]), [], none⟩, K1 7 .mv (iV 0)]) (.seq (.seq (.reg false [O1 10 (.loadN 3) 3, O1 11 (.call 39) 10, O1 12 (.un .not) 11, O1 13 .mv 12, G1 14 (.loadN 2) 4 13 false, G1 15 (.call 40) 14 13 false, G1 16 (.un .not) 15 13 false, ⟨(some 17), .pick, [(.t 13), (.k (.bool true)), (.t 16)], none⟩]) (.cond (.t 17) (.seq (.reg false [⟨(some 18), (.build [(iV 0), (iV 0), (iV 0)] []), [], none⟩, ⟨none, (.store 3), [(.t 6), (.t 18)], none⟩, K1 7 .mv (iV 1)]) .ret) .skip)) (.seq (.seq (.reg false [O1 19 (.fld 0) 5, O1 20 .load1 19, K2 21 (.call 25) 20 (iV 64), O1 22 (.un .not) 21, O1 23 .mv 22, G1 24 (.fld 1) 5 23 false, G1 25 .load1 24 23 false, GK 26 (.call 25) 25 (iV 64) 23 false, G1 27 (.un .not) 26 23 false, ⟨(some 28), .pick, [(.t 23), (.k (.bool true)), (.t 27)], none⟩, O1 29 .mv 28, G1 30 (.fld 2) 5 29 false, G1 31 .load1 30 29 false, GK 32 (.call 25) 31 (iV 64) 29 false, G1 33 (.un .not) 32 29 false, ⟨(some 34), .pick, [(.t 29), (.k (.bool true)), (.t 33)], none⟩, O1 35 .mv 34, G1 36 (.fld 3) 5 35 false, G1 37 .load1 36 35 false, GK 38 (.call 25) 37 (iV 64) 35 false, G1 39 (.un .not) 38 35 false, ⟨(some 40), .pick, [(.t 35), (.k (.bool true)), (.t 39)], none⟩]) (.cond (.t 40) (.seq (.reg false [⟨(some 41), (.build [(iV 0), (iV 0), (iV 0)] []), [], none⟩, ⟨none, (.store 3), [(.t 6), (.t 41)], none⟩, K1 7 .mv (iV 2)]) .ret) .skip)) (.seq (.regD [O1 42 (.fld 0) 3, O1 43 .load1 42, O1 44 (.fld 1) 3, O1 45 .load1 44, O1 46 (.fld 2) 3, O1 47 .load1 46, O1 48 (.fld 0) 4, O1 49 .load1 48, O2 50 (.bin .add) 47 49, O1 51 (.fld 0) 5, O1 52 .load1 51, O2 53 (.bin .add) 50 52, K2 54 (.call 41) 53 (iV 256), ⟨(some 55), (.build [(iV 0), (iV 0), (iV 0)] [(0, 1), (1, 1), (2, 1)]), [(.t 43), (.t 45), (.t 54)], none⟩, ⟨(some 8), (.alloc 23 [(iV 0), (iV 0), (iV 0)]), [], none⟩, ⟨none, (.store 3), [(.t 8), (.t 55)], none⟩] [[], [0], [], [2], [], [4], [], [6], [5, 4, 7, 6], [], [9], [8, 5, 4, 7, 6, 10, 9], [11, 8, 5, 4, 7, 6, 10, 9], [1, 0, 3, 2, 12, 11, 8, 5, 4, 7, 6, 10, 9], [], [14, 13, 1, 0, 3, 2, 12, 11, 8, 5, 4, 7, 6, 10, 9]]) (.seq (.seq (.reg false [O1 56 (.fld 1) 4, O1 57 .load1 56, K2 58 (.bin .eql) 57 (iV 0)]) (.cond (.t 58) (.seq (.reg false [O1 59 (.loadN 3) 8, ⟨none, (.store 3), [(.t 6), (.t 59)], none⟩, K1 7 .mv (iV 0)]) .ret) .skip)) (.seq (.reg false [O1 60 (.fld 1) 4, O1 61 .load1 60, O1 62 (.fld 1) 5, O1 63 .load1 62, O2 64 (.bin .add) 61 63, K2 65 .maxI 64 (iV 0), O1 66 (.fld 2) 8, O1 67 .load1 66, O2 68 (.call 42) 65 67, ⟨(some 9), (.alloc 57 [(iV 0), (iV 0)]), [], none⟩, ⟨none, (.store 2), [(.t 9), (.t 68)], none⟩]) (.seq (.reg false [O1 69 (.fld 0) 8, O1 70 .load1 69, O1 71 (.fld 0) 9, O1 72 .load1 71, O1 73 (.fld 2) 5, O1 74 .load1 73, O2 75 (.bin .add) 72 74, O2 76 (.bin .add) 70 75, O1 77 (.fld 0) 8, ⟨none, (.store 1), [(.t 77), (.t 76)], none⟩]) (.seq (.reg false [O1 78 (.fld 1) 8, O1 79 .load1 78, O1 80 (.fld 1) 9, O1 81 .load1 80, O1 82 (.fld 3) 5, O1 83 .load1 82, O2 84 (.bin .add) 81 83, O2 85 (.bin .add) 79 84, O1 86 (.fld 1) 8, ⟨none, (.store 1), [(.t 86), (.t 85)], none⟩]) (.seq (.seq (.reg false [O1 87 (.loadN 3) 8, O1 88 (.call 39) 87, O1 89 (.un .not) 88]) (.cond (.t 89) (.seq (.reg false [⟨(some 90), (.build [(iV 0), (iV 0), (iV 0)] []), [], none⟩, ⟨none, (.store 3), [(.t 6), (.t 90)], none⟩, K1 7 .mv (iV 2)]) .ret) .skip)) (.seq (.reg false [O1 91 (.loadN 3) 8, ⟨none, (.store 3), [(.t 6), (.t 91)], none⟩, K1 7 .mv (iV 0)]) .ret)))))))))), [(.bn 6 3), (.s 7)]⟩
theorem x14_ok : xfn Try.prog Try.f14 = some x14.er := by kernel_rfl
def x47 : XFn := ⟨15, (.seq (.reg false [K1 4 .mv (iV 0)]) (.seq (.reg false [O1 6 .mv 1, O1 7 .mv 0, O2 8 (.bin .sub) 6 7, O1 9 (.call 61) 8, O1 5 .mv 9]) (.seq (.seq (.reg false [O1 10 .mv 5, K2 11 (.bin .geq) 10 (iV 128)]) (.cond (.t 11) (.reg false [O1 12 .mv 5, K2 13 (.bin .sub) 12 (iV 256), O1 5 .mv 13]) .skip)) (.seq (.reg false [O1 14 .mv 5, O1 4 .mv 14]) .ret)))), [(.s 4)]⟩
theorem x47_ok : xfn Try.prog Try.f47 = some x47.er := by kernel_rfl
/-- wayfinder/drive.place -/
def g38 : Con := fun args_ E_ nn_ => match args_ with
  | [.a [.v (.int .i64 p_X), .v (.int .i64 p_Y), .v (.int .i64 p_H)]] => some (.q (True) (.o (.a [.v (.int .i64 (p_X)), .v (.int .i64 (p_Y))])))
  | _ => none
theorem c38 : COk Try.prog 38 g38 := by
  refine cok_q Try.func38 x38_ok (by kernel_rfl) (cok_tab cok_nil) ?_
  intro args_ E_ nn_ cr_ hg_
  unfold g38 at hg_
  split at hg_
  · rename_i p_X p_Y p_H
    cases hg_
    refine ⟨_, _, rfl, 0, [], [.a [.v (.int .i64 p_X), .v (.int .i64 p_Y), .v (.int .i64 p_H)]], [], .o (.a [.v (.int .i64 (p_X)), .v (.int .i64 (p_Y))]), rfl, rfl, by simp only [push_cast, Nat.reduceLT, Nat.reduceAdd], by simp only [push_cast, Nat.reduceLT, Nat.reduceAdd], by simp only [push_cast, Nat.reduceLT, Nat.reduceAdd], rfl, trivial, rfl, ?_⟩
    intro hpre hlen
    refine ⟨trivial, ?_⟩
    simp (config := {maxSteps := 10000000}) only [x38, push_cast, Nat.reduceAdd, Nat.reduceSub, Nat.reduceLeDiff, Nat.reduceEqDiff, Nat.reduceBEq, Nat.reduceMul, Nat.reduceLT, reduceIte, reduceCtorEq, Int.reduceLE, Int.reduceLT, Int.reduceEq, Int.reduceMul, Int.reduceAdd, Int.reduceSub, Int.reduceNeg, Int.reduceToNat, Int.reduceNe]
  · cases hg_
/-- wayfinder/drive.validPose -/
def g33 : Con := fun args_ E_ nn_ => match args_ with
  | [.a [.v (.int .i64 p_X), .v (.int .i64 p_Y), .v (.int .i64 p_H)]] => some (.q (True) (.o (.c (.v (.bool (decide (((-1048576 ≤ p_X ∧ p_X ≤ 1048576) ∧ -1048576 ≤ p_Y ∧ p_Y ≤ 1048576) ∧ 0 ≤ p_H ∧ p_H ≤ 255)))))))
  | _ => none
theorem c33 : COk Try.prog 33 g33 := by
  refine cok_q Try.func33 x33_ok (by kernel_rfl) (cok_tab (cok_cons c37 (cok_cons c38 (cok_cons c43 cok_nil)))) ?_
  intro args_ E_ nn_ cr_ hg_
  unfold g33 at hg_
  split at hg_
  · rename_i p_X p_Y p_H
    cases hg_
    refine ⟨_, _, rfl, 0, [], [.a [.v (.int .i64 p_X), .v (.int .i64 p_Y), .v (.int .i64 p_H)]], [], .o (.c (.v (.bool (decide (((-1048576 ≤ p_X ∧ p_X ≤ 1048576) ∧ -1048576 ≤ p_Y ∧ p_Y ≤ 1048576) ∧ 0 ≤ p_H ∧ p_H ≤ 255))))), rfl, rfl, by simp only [push_cast, Nat.reduceLT, Nat.reduceAdd], by simp only [push_cast, Nat.reduceLT, Nat.reduceAdd], by simp only [push_cast, Nat.reduceLT, Nat.reduceAdd], rfl, trivial, rfl, ?_⟩
    intro hpre hlen
    refine ⟨trivial, ?_⟩
    simp (config := {maxSteps := 10000000}) only [x33, push_cast, Nat.reduceAdd, Nat.reduceSub, Nat.reduceLeDiff, Nat.reduceEqDiff, Nat.reduceBEq, Nat.reduceMul, Nat.reduceLT, reduceIte, reduceCtorEq, Int.reduceLE, Int.reduceLT, Int.reduceEq, Int.reduceMul, Int.reduceAdd, Int.reduceSub, Int.reduceNeg, Int.reduceToNat, Int.reduceNe, g37, g38, g43]
    rw [Bool.eq_iff_iff]
    simp []
    try omega
  · cases hg_
/-- wayfinder/drive.ValidCommand -/
def g21 : Con := fun args_ E_ nn_ => match args_ with
  | [.a [.v (.int .i64 c_Turn), .v (.int .i64 c_Forward)]] => some (.q (True) (.o (.c (.v (.bool (decide ((-32 ≤ c_Turn ∧ c_Turn ≤ 32) ∧ 0 ≤ c_Forward ∧ c_Forward ≤ 32)))))))
  | _ => none
theorem c21 : COk Try.prog 21 g21 := by
  refine cok_q Try.func21 x21_ok (by kernel_rfl) (cok_tab (cok_cons c34 (cok_cons c43 cok_nil))) ?_
  intro args_ E_ nn_ cr_ hg_
  unfold g21 at hg_
  split at hg_
  · rename_i c_Turn c_Forward
    cases hg_
    refine ⟨_, _, rfl, 0, [], [.a [.v (.int .i64 c_Turn), .v (.int .i64 c_Forward)]], [], .o (.c (.v (.bool (decide ((-32 ≤ c_Turn ∧ c_Turn ≤ 32) ∧ 0 ≤ c_Forward ∧ c_Forward ≤ 32))))), rfl, rfl, by simp only [push_cast, Nat.reduceLT, Nat.reduceAdd], by simp only [push_cast, Nat.reduceLT, Nat.reduceAdd], by simp only [push_cast, Nat.reduceLT, Nat.reduceAdd], rfl, trivial, rfl, ?_⟩
    intro hpre hlen
    refine ⟨trivial, ?_⟩
    simp (config := {maxSteps := 10000000}) only [x21, push_cast, Nat.reduceAdd, Nat.reduceSub, Nat.reduceLeDiff, Nat.reduceEqDiff, Nat.reduceBEq, Nat.reduceMul, Nat.reduceLT, reduceIte, reduceCtorEq, Int.reduceLE, Int.reduceLT, Int.reduceEq, Int.reduceMul, Int.reduceAdd, Int.reduceSub, Int.reduceNeg, Int.reduceToNat, Int.reduceNe, g34, g43]
    rw [Bool.eq_iff_iff]
    simp []
    try omega
  · cases hg_
/-- wayfinder/drive.ValidBounds -/
def g19 : Con := fun args_ E_ nn_ => match args_ with
  | [.a [.v (.int .i64 b_Turn), .v (.int .i64 b_Length), .v (.int .i64 b_Slip), .v (.int .i64 b_Range)]] => some (.q (True) (.o (.c (.v (.bool (decide ((0 ≤ b_Turn ∧ b_Turn ≤ 8) ∧ (0 ≤ b_Length ∧ b_Length ≤ 16) ∧ (0 ≤ b_Slip ∧ b_Slip ≤ 8) ∧ 1 ≤ b_Range ∧ b_Range ≤ 32)))))))
  | _ => none
theorem c19 : COk Try.prog 19 g19 := by
  refine cok_q Try.func19 x19_ok (by kernel_rfl) (cok_tab (cok_cons c43 cok_nil)) ?_
  intro args_ E_ nn_ cr_ hg_
  unfold g19 at hg_
  split at hg_
  · rename_i b_Turn b_Length b_Slip b_Range
    cases hg_
    refine ⟨_, _, rfl, 0, [], [.a [.v (.int .i64 b_Turn), .v (.int .i64 b_Length), .v (.int .i64 b_Slip), .v (.int .i64 b_Range)]], [], .o (.c (.v (.bool (decide ((0 ≤ b_Turn ∧ b_Turn ≤ 8) ∧ (0 ≤ b_Length ∧ b_Length ≤ 16) ∧ (0 ≤ b_Slip ∧ b_Slip ≤ 8) ∧ 1 ≤ b_Range ∧ b_Range ≤ 32))))), rfl, rfl, by simp only [push_cast, Nat.reduceLT, Nat.reduceAdd], by simp only [push_cast, Nat.reduceLT, Nat.reduceAdd], by simp only [push_cast, Nat.reduceLT, Nat.reduceAdd], rfl, trivial, rfl, ?_⟩
    intro hpre hlen
    refine ⟨trivial, ?_⟩
    simp (config := {maxSteps := 10000000}) only [x19, push_cast, Nat.reduceAdd, Nat.reduceSub, Nat.reduceLeDiff, Nat.reduceEqDiff, Nat.reduceBEq, Nat.reduceMul, Nat.reduceLT, reduceIte, reduceCtorEq, Int.reduceLE, Int.reduceLT, Int.reduceEq, Int.reduceMul, Int.reduceAdd, Int.reduceSub, Int.reduceNeg, Int.reduceToNat, Int.reduceNe, g43]
    rw [Bool.eq_iff_iff]
    simp []
    try omega
  · cases hg_
/-- wayfinder/wayfinderbase.Command -/
def g40 : Con := fun args_ E_ nn_ => match args_ with
  | [.a [.v (.int .i64 c_Turn), .v (.int .i64 c_Forward)]] => some (.q (True) (.o (.c (.v (.bool (decide ((-32 ≤ c_Turn ∧ c_Turn ≤ 32) ∧ 0 ≤ c_Forward ∧ c_Forward ≤ 32)))))))
  | _ => none
theorem c40 : COk Try.prog 40 g40 := by
  refine cok_q Try.func40 x40_ok (by kernel_rfl) (cok_tab (cok_cons c25 cok_nil)) ?_
  intro args_ E_ nn_ cr_ hg_
  unfold g40 at hg_
  split at hg_
  · rename_i c_Turn c_Forward
    cases hg_
    refine ⟨_, _, rfl, 0, [], [.a [.v (.int .i64 c_Turn), .v (.int .i64 c_Forward)]], [], .o (.c (.v (.bool (decide ((-32 ≤ c_Turn ∧ c_Turn ≤ 32) ∧ 0 ≤ c_Forward ∧ c_Forward ≤ 32))))), rfl, rfl, by simp only [push_cast, Nat.reduceLT, Nat.reduceAdd], by simp only [push_cast, Nat.reduceLT, Nat.reduceAdd], by simp only [push_cast, Nat.reduceLT, Nat.reduceAdd], rfl, trivial, rfl, ?_⟩
    intro hpre hlen
    refine ⟨trivial, ?_⟩
    simp (config := {maxSteps := 10000000}) only [x40, push_cast, Nat.reduceAdd, Nat.reduceSub, Nat.reduceLeDiff, Nat.reduceEqDiff, Nat.reduceBEq, Nat.reduceMul, Nat.reduceLT, reduceIte, reduceCtorEq, Int.reduceLE, Int.reduceLT, Int.reduceEq, Int.reduceMul, Int.reduceAdd, Int.reduceSub, Int.reduceNeg, Int.reduceToNat, Int.reduceNe, g25]
    rw [Bool.eq_iff_iff]
    simp []
    try omega
  · cases hg_
/-- wayfinder/drive.turned -/
def g35 : Con := fun args_ E_ nn_ => match args_ with
  | [.c (.v (.int .i64 h))] => some (.q (-1000000 ≤ h ∧ h ≤ 1000000) (.o (.c (.v (.int .i64 (h % 256))))))
  | _ => none
theorem c35 : COk Try.prog 35 g35 := by
  refine cok_q Try.func35 x35_ok (by kernel_rfl) (cok_tab cok_nil) ?_
  intro args_ E_ nn_ cr_ hg_
  unfold g35 at hg_
  split at hg_
  · rename_i h
    cases hg_
    refine ⟨_, _, rfl, 0, [], [.c (.v (.int .i64 h))], [], .o (.c (.v (.int .i64 (h % 256)))), rfl, rfl, by simp only [push_cast, Nat.reduceLT, Nat.reduceAdd], by simp only [push_cast, Nat.reduceLT, Nat.reduceAdd], by simp only [push_cast, Nat.reduceLT, Nat.reduceAdd], rfl, trivial, rfl, ?_⟩
    intro hpre hlen
    refine ⟨trivial, ?_⟩
    simp (config := {maxSteps := 10000000}) only [x35, push_cast, Nat.reduceAdd, Nat.reduceSub, Nat.reduceLeDiff, Nat.reduceEqDiff, Nat.reduceBEq, Nat.reduceMul, Nat.reduceLT, reduceIte, reduceCtorEq, Int.reduceLE, Int.reduceLT, Int.reduceEq, Int.reduceMul, Int.reduceAdd, Int.reduceSub, Int.reduceNeg, Int.reduceToNat, Int.reduceNe]
    have e := Int.tmod_add_mul_tdiv h 256
    have h1 : -256 < h.tmod 256 ∧ h.tmod 256 < 256 := by rw [tmod_lit h 256 (by omega)]; split <;> omega
    rw [wrapI (by omega) (by omega), tmod_pos (by omega)]
    omega
  · cases hg_
/-- wayfinder/drive.ahead -/
def g36 : Con := fun args_ E_ nn_ => match args_ with
  | [.c (.v (.int .i64 h)), .c (.v (.int .i64 length))] => some (.q (-900000 ≤ length ∧ length ≤ 900000) (.o (.a [.v (.int .i64 (max 0 length * (dirV h).1 / (dirV h).2.2)), .v (.int .i64 (max 0 length * (dirV h).2.1 / (dirV h).2.2))])))
  | _ => none
theorem c36 : COk Try.prog 36 g36 := by
  refine cok_q Try.func36 x36_ok (by kernel_rfl) (cok_tab (cok_cons c59 (cok_cons c56 cok_nil))) ?_
  intro args_ E_ nn_ cr_ hg_
  unfold g36 at hg_
  split at hg_
  · rename_i h length
    cases hg_
    refine ⟨_, _, rfl, 0, [], [.c (.v (.int .i64 h)), .c (.v (.int .i64 length))], [], .o (.a [.v (.int .i64 (max 0 length * (dirV h).1 / (dirV h).2.2)), .v (.int .i64 (max 0 length * (dirV h).2.1 / (dirV h).2.2))]), rfl, rfl, by simp only [push_cast, Nat.reduceLT, Nat.reduceAdd], by simp only [push_cast, Nat.reduceLT, Nat.reduceAdd], by simp only [push_cast, Nat.reduceLT, Nat.reduceAdd], rfl, trivial, rfl, ?_⟩
    intro hpre hlen
    refine ⟨trivial, ?_⟩
    simp (config := {maxSteps := 10000000}) only [x36, push_cast, Nat.reduceAdd, Nat.reduceSub, Nat.reduceLeDiff, Nat.reduceEqDiff, Nat.reduceBEq, Nat.reduceMul, Nat.reduceLT, reduceIte, reduceCtorEq, Int.reduceLE, Int.reduceLT, Int.reduceEq, Int.reduceMul, Int.reduceAdd, Int.reduceSub, Int.reduceNeg, Int.reduceToNat, Int.reduceNe, g59, g56]
    have hb := dir_mul_bd h (max 0 length) (by omega) (by omega)
    have hd := (dirV_bd h).1
    rw [wrapI (by omega) (by omega), wrapI (by omega) (by omega)]
    exact ⟨by omega, by omega, by rfl, rfl, rfl⟩
  · cases hg_
/-- wayfinder/wayfinderref11.moved -/
def g42 : Con := fun args_ E_ nn_ => match args_ with
  | [.c (.v (.int .i64 n)), .c (.v (.int .i64 h))] => some (.q (0 ≤ n ∧ n ≤ 900000 ∧ -9223372036854775808 ≤ h ∧ h ≤ 9223372036854775807) (.o (.a [.v (.int .i64 (n * (dirV h).1 / (dirV h).2.2)), .v (.int .i64 (n * (dirV h).2.1 / (dirV h).2.2))])))
  | _ => none
theorem c42 : COk Try.prog 42 g42 := by
  refine cok_q Try.func42 x42_ok (by kernel_rfl) (cok_tab (cok_cons c60 (cok_cons c50 cok_nil))) ?_
  intro args_ E_ nn_ cr_ hg_
  unfold g42 at hg_
  split at hg_
  · rename_i n h
    cases hg_
    refine ⟨_, _, rfl, 0, [], [.c (.v (.int .i64 n)), .c (.v (.int .i64 h))], [], .o (.a [.v (.int .i64 (n * (dirV h).1 / (dirV h).2.2)), .v (.int .i64 (n * (dirV h).2.1 / (dirV h).2.2))]), rfl, rfl, by simp only [push_cast, Nat.reduceLT, Nat.reduceAdd], by simp only [push_cast, Nat.reduceLT, Nat.reduceAdd], by simp only [push_cast, Nat.reduceLT, Nat.reduceAdd], rfl, trivial, rfl, ?_⟩
    intro hpre hlen
    refine ⟨trivial, ?_⟩
    simp (config := {maxSteps := 10000000}) only [x42, push_cast, Nat.reduceAdd, Nat.reduceSub, Nat.reduceLeDiff, Nat.reduceEqDiff, Nat.reduceBEq, Nat.reduceMul, Nat.reduceLT, reduceIte, reduceCtorEq, Int.reduceLE, Int.reduceLT, Int.reduceEq, Int.reduceMul, Int.reduceAdd, Int.reduceSub, Int.reduceNeg, Int.reduceToNat, Int.reduceNe, g60, g50]
    have hb := dir_mul_bd h (n) (by omega) (by omega)
    have hd2 := (dirV_bd h).2.1
    have hd := (dirV_bd h).1
    rw [wrapI (by omega) (by omega), wrapI (by omega) (by omega)]
    exact ⟨by omega, by omega, by omega, by rfl, rfl, rfl⟩
  · cases hg_
/-- wayfinder/drive.Next -/
def g13 : Con := fun args_ E_ nn_ => match args_ with
  | [.a [.v (.int .i64 at_X), .v (.int .i64 at_Y), .v (.int .i64 at_H)], .a [.v (.int .i64 c_Turn), .v (.int .i64 c_Forward)], .a [.v (.int .i64 e_Turn), .v (.int .i64 e_Length), .v (.int .i64 e_X), .v (.int .i64 e_Y)]] => some (.q (True) (.t [.a [.v (.int .i64 (nextS at_X at_Y at_H c_Turn c_Forward e_Turn e_Length e_X e_Y).1), .v (.int .i64 (nextS at_X at_Y at_H c_Turn c_Forward e_Turn e_Length e_X e_Y).2.1), .v (.int .i64 (nextS at_X at_Y at_H c_Turn c_Forward e_Turn e_Length e_X e_Y).2.2.1)], .c (.v (.int .i64 ((nextS at_X at_Y at_H c_Turn c_Forward e_Turn e_Length e_X e_Y).2.2.2)))]))
  | _ => none
theorem c13 : COk Try.prog 13 g13 := by
  refine cok_q Try.func13 x13_ok (by kernel_rfl) (cok_tab (cok_cons c33 (cok_cons c21 (cok_cons c34 (cok_cons c35 (cok_cons c36 (cok_cons c37 (cok_cons c38 cok_nil)))))))) ?_
  intro args_ E_ nn_ cr_ hg_
  unfold g13 at hg_
  split at hg_
  · rename_i at_X at_Y at_H c_Turn c_Forward e_Turn e_Length e_X e_Y
    cases hg_
    refine ⟨_, _, rfl, 0, [], [.a [.v (.int .i64 at_X), .v (.int .i64 at_Y), .v (.int .i64 at_H)], .a [.v (.int .i64 c_Turn), .v (.int .i64 c_Forward)], .a [.v (.int .i64 e_Turn), .v (.int .i64 e_Length), .v (.int .i64 e_X), .v (.int .i64 e_Y)]], [], .t [.a [.v (.int .i64 (nextS at_X at_Y at_H c_Turn c_Forward e_Turn e_Length e_X e_Y).1), .v (.int .i64 (nextS at_X at_Y at_H c_Turn c_Forward e_Turn e_Length e_X e_Y).2.1), .v (.int .i64 (nextS at_X at_Y at_H c_Turn c_Forward e_Turn e_Length e_X e_Y).2.2.1)], .c (.v (.int .i64 ((nextS at_X at_Y at_H c_Turn c_Forward e_Turn e_Length e_X e_Y).2.2.2)))], rfl, rfl, by simp only [push_cast, Nat.reduceLT, Nat.reduceAdd], by simp only [push_cast, Nat.reduceLT, Nat.reduceAdd], by simp only [push_cast, Nat.reduceLT, Nat.reduceAdd], rfl, trivial, rfl, ?_⟩
    intro hpre hlen
    refine ⟨trivial, ?_⟩
    simp (config := {maxSteps := 10000000}) only [x13, push_cast, Nat.reduceAdd, Nat.reduceSub, Nat.reduceLeDiff, Nat.reduceEqDiff, Nat.reduceBEq, Nat.reduceMul, Nat.reduceLT, reduceIte, reduceCtorEq, Int.reduceLE, Int.reduceLT, Int.reduceEq, Int.reduceMul, Int.reduceAdd, Int.reduceSub, Int.reduceNeg, Int.reduceToNat, Int.reduceNe, g33, g21, g34, g35, g36, g37, g38]
    refine ⟨fun h => ?_, fun a1 a2 a3 a4 a5 a6 a7 a8 a9 a10 => ⟨fun h => ?_, fun b1 b2 b3 b4 b5 b6 b7 b8 => ?_⟩⟩
    · rw [nextS_arg (by omega)]; exact ⟨⟨rfl, rfl, rfl⟩, rfl⟩
    · rw [nextS_range (by omega) (by omega)]; exact ⟨⟨rfl, rfl, rfl⟩, rfl⟩
    rw [wrapI (n := at_H + c_Turn) (by omega) (by omega), wrapI (n := at_H + c_Turn + e_Turn) (by omega) (by omega)]
    refine ⟨by omega, fun h3 => ?_, fun h3 => ?_⟩
    · rw [nextS_stay (by omega) (by omega) h3]; exact ⟨⟨rfl, rfl, rfl⟩, rfl⟩
    rw [wrapI (n := c_Forward + e_Length) (by omega) (by omega)]
    obtain ⟨hx, hy⟩ := dir_div_bd ((at_H + c_Turn + e_Turn) % 256) (max 0 (c_Forward + e_Length)) (by omega)
    generalize ex : max 0 (c_Forward + e_Length) * (dirV ((at_H + c_Turn + e_Turn) % 256)).1 / (dirV ((at_H + c_Turn + e_Turn) % 256)).2.2 = dx at *
    generalize ey : max 0 (c_Forward + e_Length) * (dirV ((at_H + c_Turn + e_Turn) % 256)).2.1 / (dirV ((at_H + c_Turn + e_Turn) % 256)).2.2 = dy at *
    rw [nextS_go (by omega) (by omega) h3 ex ey]
    rw [wrapI (n := dx + e_X) (by omega) (by omega), wrapI (n := dy + e_Y) (by omega) (by omega), wrapI (n := at_X + (dx + e_X)) (by omega) (by omega), wrapI (n := at_Y + (dy + e_Y)) (by omega) (by omega)]
    refine ⟨by omega, fun h4 => ?_, ?_⟩
    · rw [if_neg (by omega)]; exact ⟨⟨rfl, rfl, rfl⟩, rfl⟩
    · intros
      rw [if_pos (by omega)]; exact ⟨⟨rfl, rfl, rfl⟩, rfl⟩
  · cases hg_
/-- wayfinder/wayfinderref11.Next -/
def g14 : Con := fun args_ E_ nn_ => match args_ with
  | [.a [.v (.int .i64 at_X), .v (.int .i64 at_Y), .v (.int .i64 at_H)], .a [.v (.int .i64 c_Turn), .v (.int .i64 c_Forward)], .a [.v (.int .i64 e_Turn), .v (.int .i64 e_Length), .v (.int .i64 e_X), .v (.int .i64 e_Y)]] => some (.q (True) (.t [.a [.v (.int .i64 (nextS at_X at_Y at_H c_Turn c_Forward e_Turn e_Length e_X e_Y).1), .v (.int .i64 (nextS at_X at_Y at_H c_Turn c_Forward e_Turn e_Length e_X e_Y).2.1), .v (.int .i64 (nextS at_X at_Y at_H c_Turn c_Forward e_Turn e_Length e_X e_Y).2.2.1)], .c (.v (.int .i64 ((nextS at_X at_Y at_H c_Turn c_Forward e_Turn e_Length e_X e_Y).2.2.2)))]))
  | _ => none
theorem c14 : COk Try.prog 14 g14 := by
  refine cok_q Try.func14 x14_ok (by kernel_rfl) (cok_tab (cok_cons c39 (cok_cons c40 (cok_cons c25 (cok_cons c41 (cok_cons c42 cok_nil)))))) ?_
  intro args_ E_ nn_ cr_ hg_
  unfold g14 at hg_
  split at hg_
  · rename_i at_X at_Y at_H c_Turn c_Forward e_Turn e_Length e_X e_Y
    cases hg_
    refine ⟨_, _, rfl, 0, [], [.a [.v (.int .i64 at_X), .v (.int .i64 at_Y), .v (.int .i64 at_H)], .a [.v (.int .i64 c_Turn), .v (.int .i64 c_Forward)], .a [.v (.int .i64 e_Turn), .v (.int .i64 e_Length), .v (.int .i64 e_X), .v (.int .i64 e_Y)]], [], .t [.a [.v (.int .i64 (nextS at_X at_Y at_H c_Turn c_Forward e_Turn e_Length e_X e_Y).1), .v (.int .i64 (nextS at_X at_Y at_H c_Turn c_Forward e_Turn e_Length e_X e_Y).2.1), .v (.int .i64 (nextS at_X at_Y at_H c_Turn c_Forward e_Turn e_Length e_X e_Y).2.2.1)], .c (.v (.int .i64 ((nextS at_X at_Y at_H c_Turn c_Forward e_Turn e_Length e_X e_Y).2.2.2)))], rfl, rfl, by simp only [push_cast, Nat.reduceLT, Nat.reduceAdd], by simp only [push_cast, Nat.reduceLT, Nat.reduceAdd], by simp only [push_cast, Nat.reduceLT, Nat.reduceAdd], rfl, trivial, rfl, ?_⟩
    intro hpre hlen
    refine ⟨trivial, ?_⟩
    simp (config := {maxSteps := 10000000}) only [x14, push_cast, Nat.reduceAdd, Nat.reduceSub, Nat.reduceLeDiff, Nat.reduceEqDiff, Nat.reduceBEq, Nat.reduceMul, Nat.reduceLT, reduceIte, reduceCtorEq, Int.reduceLE, Int.reduceLT, Int.reduceEq, Int.reduceMul, Int.reduceAdd, Int.reduceSub, Int.reduceNeg, Int.reduceToNat, Int.reduceNe, g39, g40, g25, g41, g42]
    refine ⟨fun h => ?_, fun a1 a2 a3 a4 a5 a6 a7 a8 a9 a10 => ⟨fun h => ?_, fun b1 b2 b3 b4 b5 b6 b7 b8 => ?_⟩⟩
    · rw [nextS_arg (by omega)]; exact ⟨⟨rfl, rfl, rfl⟩, rfl⟩
    · rw [nextS_range (by omega) (by omega)]; exact ⟨⟨rfl, rfl, rfl⟩, rfl⟩
    rw [wrapI (n := at_H + c_Turn) (by omega) (by omega), wrapI (n := at_H + c_Turn + e_Turn) (by omega) (by omega)]
    refine ⟨by omega, by rfl, fun h3 => ?_, fun h3 => ?_⟩
    · rw [nextS_stay (by omega) (by omega) h3]; exact ⟨⟨rfl, rfl, rfl⟩, rfl⟩
    rw [wrapI (n := c_Forward + e_Length) (by omega) (by omega), Int.max_comm (c_Forward + e_Length) 0]
    obtain ⟨hx, hy⟩ := dir_div_bd ((at_H + c_Turn + e_Turn) % 256) (max 0 (c_Forward + e_Length)) (by omega)
    generalize ex : max 0 (c_Forward + e_Length) * (dirV ((at_H + c_Turn + e_Turn) % 256)).1 / (dirV ((at_H + c_Turn + e_Turn) % 256)).2.2 = dx at *
    generalize ey : max 0 (c_Forward + e_Length) * (dirV ((at_H + c_Turn + e_Turn) % 256)).2.1 / (dirV ((at_H + c_Turn + e_Turn) % 256)).2.2 = dy at *
    rw [nextS_go (by omega) (by omega) h3 ex ey]
    rw [wrapI (n := dx + e_X) (by omega) (by omega), wrapI (n := dy + e_Y) (by omega) (by omega), wrapI (n := at_X + (dx + e_X)) (by omega) (by omega), wrapI (n := at_Y + (dy + e_Y)) (by omega) (by omega)]
    refine ⟨by omega, fun h4 => ?_, ?_⟩
    · rw [if_neg (by omega)]; exact ⟨⟨rfl, rfl, rfl⟩, rfl⟩
    · intros
      rw [if_pos (by omega)]; exact ⟨⟨rfl, rfl, rfl⟩, rfl⟩
  · cases hg_
/-- wayfinder/drive.Reach -/
def g15 : Con := fun args_ E_ nn_ => match args_ with
  | [.a [.v (.int .i64 c_Turn), .v (.int .i64 c_Forward)], .a [.v (.int .i64 b_Turn), .v (.int .i64 b_Length), .v (.int .i64 b_Slip), .v (.int .i64 b_Range)], .c (.v (.int .i64 h))] => some (.q (True) (.t [.a [.v (.int .i64 (reachS c_Turn c_Forward b_Turn b_Length b_Slip b_Range h).1), .v (.int .i64 (reachS c_Turn c_Forward b_Turn b_Length b_Slip b_Range h).2.1), .v (.int .i64 (reachS c_Turn c_Forward b_Turn b_Length b_Slip b_Range h).2.2.1), .v (.int .i64 (reachS c_Turn c_Forward b_Turn b_Length b_Slip b_Range h).2.2.2.1)], .c (.v (.int .i64 ((reachS c_Turn c_Forward b_Turn b_Length b_Slip b_Range h).2.2.2.2)))]))
  | _ => none
theorem c15 : COk Try.prog 15 g15 := by
  refine cok_q Try.func15 x15_ok (by kernel_rfl) (cok_tab (cok_cons c21 (cok_cons c19 (cok_cons c43 (cok_cons c36 cok_nil))))) ?_
  intro args_ E_ nn_ cr_ hg_
  unfold g15 at hg_
  split at hg_
  · rename_i c_Turn c_Forward b_Turn b_Length b_Slip b_Range h
    cases hg_
    refine ⟨_, _, rfl, 0, [], [.a [.v (.int .i64 c_Turn), .v (.int .i64 c_Forward)], .a [.v (.int .i64 b_Turn), .v (.int .i64 b_Length), .v (.int .i64 b_Slip), .v (.int .i64 b_Range)], .c (.v (.int .i64 h))], [], .t [.a [.v (.int .i64 (reachS c_Turn c_Forward b_Turn b_Length b_Slip b_Range h).1), .v (.int .i64 (reachS c_Turn c_Forward b_Turn b_Length b_Slip b_Range h).2.1), .v (.int .i64 (reachS c_Turn c_Forward b_Turn b_Length b_Slip b_Range h).2.2.1), .v (.int .i64 (reachS c_Turn c_Forward b_Turn b_Length b_Slip b_Range h).2.2.2.1)], .c (.v (.int .i64 ((reachS c_Turn c_Forward b_Turn b_Length b_Slip b_Range h).2.2.2.2)))], rfl, rfl, by simp only [push_cast, Nat.reduceLT, Nat.reduceAdd], by simp only [push_cast, Nat.reduceLT, Nat.reduceAdd], by simp only [push_cast, Nat.reduceLT, Nat.reduceAdd], rfl, trivial, rfl, ?_⟩
    intro hpre hlen
    refine ⟨trivial, ?_⟩
    simp (config := {maxSteps := 10000000}) only [x15, push_cast, Nat.reduceAdd, Nat.reduceSub, Nat.reduceLeDiff, Nat.reduceEqDiff, Nat.reduceBEq, Nat.reduceMul, Nat.reduceLT, reduceIte, reduceCtorEq, Int.reduceLE, Int.reduceLT, Int.reduceEq, Int.reduceMul, Int.reduceAdd, Int.reduceSub, Int.reduceNeg, Int.reduceToNat, Int.reduceNe, g21, g19, g43, g36]
    refine ⟨fun h1 => ?_, fun a1 a2 a3 a4 b1 b2 b3 b4 b5 b6 b7 b8 => ⟨fun h2 => ?_, fun c1 c2 => ⟨fun h3 => ?_, fun h3 => ?_⟩⟩⟩
    · rw [reachS_arg (by omega)]; exact ⟨⟨rfl, rfl, rfl, rfl⟩, rfl⟩
    · rw [reachS_range (by omega) (by omega)]; exact ⟨⟨rfl, rfl, rfl, rfl⟩, rfl⟩
    · rw [reachS_zero (by omega) (by omega) h3]; exact ⟨⟨rfl, rfl, rfl, rfl⟩, rfl⟩
    rw [reachS_go (by omega) (by omega) h3]
    rw [wrapI (n := c_Forward - b_Length) (by omega) (by omega), wrapI (n := c_Forward + b_Length) (by omega) (by omega)]
    simp only [mvx_def, mvy_def]
    have b1 := mv_bd h (c_Forward - b_Length) (by omega)
    have b2 := mv_bd h (c_Forward + b_Length) (by omega)
    exact ⟨by omega, by omega, by rfl, ⟨wrapI (by omega) (by omega), wrapI (by omega) (by omega), wrapI (by omega) (by omega), wrapI (by omega) (by omega)⟩, trivial⟩
  · cases hg_
/-- wayfinder/heading.Delta -/
def g47 : Con := fun args_ E_ nn_ => match args_ with
  | [.c (.v (.int .i64 a)), .c (.v (.int .i64 b))] => some (.q (-1000000 ≤ a ∧ a ≤ 1000000 ∧ -1000000 ≤ b ∧ b ≤ 1000000) (.o (.c (.v (.int .i64 (dlt a b))))))
  | _ => none
theorem c47 : COk Try.prog 47 g47 := by
  refine cok_q Try.func47 x47_ok (by kernel_rfl) (cok_tab (cok_cons c61 cok_nil)) ?_
  intro args_ E_ nn_ cr_ hg_
  unfold g47 at hg_
  split at hg_
  · rename_i a b
    cases hg_
    refine ⟨_, _, rfl, 0, [], [.c (.v (.int .i64 a)), .c (.v (.int .i64 b))], [], .o (.c (.v (.int .i64 (dlt a b)))), rfl, rfl, by simp only [push_cast, Nat.reduceLT, Nat.reduceAdd], by simp only [push_cast, Nat.reduceLT, Nat.reduceAdd], by simp only [push_cast, Nat.reduceLT, Nat.reduceAdd], rfl, trivial, rfl, ?_⟩
    intro hpre hlen
    refine ⟨trivial, ?_⟩
    simp (config := {maxSteps := 10000000}) only [x47, push_cast, Nat.reduceAdd, Nat.reduceSub, Nat.reduceLeDiff, Nat.reduceEqDiff, Nat.reduceBEq, Nat.reduceMul, Nat.reduceLT, reduceIte, reduceCtorEq, Int.reduceLE, Int.reduceLT, Int.reduceEq, Int.reduceMul, Int.reduceAdd, Int.reduceSub, Int.reduceNeg, Int.reduceToNat, Int.reduceNe, g61]
    rw [wrapI (n := b - a) (by omega) (by omega)]
    unfold dlt
    refine ⟨fun h => ?_, fun h => ?_⟩
    · rw [if_pos (by omega), wrapI (by omega) (by omega)]
    · rw [if_neg (by omega)]
  · cases hg_
/-- wayfinder/drive.Clip$1 -/
def g45 : Con := fun args_ E_ nn_ => match args_ with
  | [.c (.v (.int .i64 n)), .c (.v (.int .i64 k))] => some (.q (-9223372036854775807 ≤ k ∧ k ≤ 9223372036854775807) (.o (.c (.v (.int .i64 (clp n k))))))
  | _ => none
theorem c45 : COk Try.prog 45 g45 := by
  refine cok_q Try.func45 x45_ok (by kernel_rfl) (cok_tab cok_nil) ?_
  intro args_ E_ nn_ cr_ hg_
  unfold g45 at hg_
  split at hg_
  · rename_i n k
    cases hg_
    refine ⟨_, _, rfl, 0, [], [.c (.v (.int .i64 n)), .c (.v (.int .i64 k))], [], .o (.c (.v (.int .i64 (clp n k)))), rfl, rfl, by simp only [push_cast, Nat.reduceLT, Nat.reduceAdd], by simp only [push_cast, Nat.reduceLT, Nat.reduceAdd], by simp only [push_cast, Nat.reduceLT, Nat.reduceAdd], rfl, trivial, rfl, ?_⟩
    intro hpre hlen
    refine ⟨trivial, ?_⟩
    simp (config := {maxSteps := 10000000}) only [x45, push_cast, Nat.reduceAdd, Nat.reduceSub, Nat.reduceLeDiff, Nat.reduceEqDiff, Nat.reduceBEq, Nat.reduceMul, Nat.reduceLT, reduceIte, reduceCtorEq, Int.reduceLE, Int.reduceLT, Int.reduceEq, Int.reduceMul, Int.reduceAdd, Int.reduceSub, Int.reduceNeg, Int.reduceToNat, Int.reduceNe]
    rw [wrapI (by omega) (by omega)]
    rfl
  · cases hg_
/-- wayfinder/drive.Clip -/
def g17 : Con := fun args_ E_ nn_ => match args_ with
  | [.a [.v (.int .i64 b_Turn), .v (.int .i64 b_Length), .v (.int .i64 b_Slip), .v (.int .i64 b_Range)], .a [.v (.int .i64 e_Turn), .v (.int .i64 e_Length), .v (.int .i64 e_X), .v (.int .i64 e_Y)]] => some (.q (True) (.t [.a [.v (.int .i64 (clipS b_Turn b_Length b_Slip b_Range e_Turn e_Length e_X e_Y).1), .v (.int .i64 (clipS b_Turn b_Length b_Slip b_Range e_Turn e_Length e_X e_Y).2.1), .v (.int .i64 (clipS b_Turn b_Length b_Slip b_Range e_Turn e_Length e_X e_Y).2.2.1), .v (.int .i64 (clipS b_Turn b_Length b_Slip b_Range e_Turn e_Length e_X e_Y).2.2.2.1)], .c (.v (.int .i64 ((clipS b_Turn b_Length b_Slip b_Range e_Turn e_Length e_X e_Y).2.2.2.2)))]))
  | _ => none
theorem c17 : COk Try.prog 17 g17 := by
  refine cok_q Try.func17 x17_ok (by kernel_rfl) (cok_tab (cok_cons c19 (cok_cons c45 cok_nil))) ?_
  intro args_ E_ nn_ cr_ hg_
  unfold g17 at hg_
  split at hg_
  · rename_i b_Turn b_Length b_Slip b_Range e_Turn e_Length e_X e_Y
    cases hg_
    refine ⟨_, _, rfl, 0, [], [.a [.v (.int .i64 b_Turn), .v (.int .i64 b_Length), .v (.int .i64 b_Slip), .v (.int .i64 b_Range)], .a [.v (.int .i64 e_Turn), .v (.int .i64 e_Length), .v (.int .i64 e_X), .v (.int .i64 e_Y)]], [], .t [.a [.v (.int .i64 (clipS b_Turn b_Length b_Slip b_Range e_Turn e_Length e_X e_Y).1), .v (.int .i64 (clipS b_Turn b_Length b_Slip b_Range e_Turn e_Length e_X e_Y).2.1), .v (.int .i64 (clipS b_Turn b_Length b_Slip b_Range e_Turn e_Length e_X e_Y).2.2.1), .v (.int .i64 (clipS b_Turn b_Length b_Slip b_Range e_Turn e_Length e_X e_Y).2.2.2.1)], .c (.v (.int .i64 ((clipS b_Turn b_Length b_Slip b_Range e_Turn e_Length e_X e_Y).2.2.2.2)))], rfl, rfl, by simp only [push_cast, Nat.reduceLT, Nat.reduceAdd], by simp only [push_cast, Nat.reduceLT, Nat.reduceAdd], by simp only [push_cast, Nat.reduceLT, Nat.reduceAdd], rfl, trivial, rfl, ?_⟩
    intro hpre hlen
    refine ⟨trivial, ?_⟩
    simp (config := {maxSteps := 10000000}) only [x17, push_cast, Nat.reduceAdd, Nat.reduceSub, Nat.reduceLeDiff, Nat.reduceEqDiff, Nat.reduceBEq, Nat.reduceMul, Nat.reduceLT, reduceIte, reduceCtorEq, Int.reduceLE, Int.reduceLT, Int.reduceEq, Int.reduceMul, Int.reduceAdd, Int.reduceSub, Int.reduceNeg, Int.reduceToNat, Int.reduceNe, g19, g45]
    refine ⟨fun h => ?_, fun b1 b2 b3 b4 b5 b6 b7 b8 => ?_⟩
    · rw [clipS_arg (by omega)]; exact ⟨⟨rfl, rfl, rfl, rfl⟩, rfl⟩
    · rw [clipS_go (by omega)]
      exact ⟨by omega, by omega, by omega, by omega, by rfl, ⟨rfl, rfl, rfl, rfl⟩, rfl⟩
  · cases hg_
/-- wayfinder/drive.Within -/
noncomputable def g23 : Con := fun args_ E_ nn_ => match args_ with
  | [.a [.v (.int .i64 b_Turn), .v (.int .i64 b_Length), .v (.int .i64 b_Slip), .v (.int .i64 b_Range)], .a [.v (.int .i64 from_X), .v (.int .i64 from_Y), .v (.int .i64 from_H)], .a [.v (.int .i64 c_Turn), .v (.int .i64 c_Forward)], .a [.v (.int .i64 to_X), .v (.int .i64 to_Y), .v (.int .i64 to_H)], .c (.v (.bool bump))] => some (.q (True) (.o (.c (.v (.bool (withinS b_Turn b_Length b_Slip b_Range from_X from_Y from_H c_Turn c_Forward to_X to_Y to_H bump))))))
  | _ => none
theorem c23 : COk Try.prog 23 g23 := by
  refine cok_q Try.func23 x23_ok (by kernel_rfl) (cok_tab (cok_cons c19 (cok_cons c33 (cok_cons c21 (cok_cons c34 (cok_cons c35 (cok_cons c36 (cok_cons c47 cok_nil)))))))) ?_
  intro args_ E_ nn_ cr_ hg_
  unfold g23 at hg_
  split at hg_
  · rename_i b_Turn b_Length b_Slip b_Range from_X from_Y from_H c_Turn c_Forward to_X to_Y to_H bump
    cases hg_
    refine ⟨_, _, rfl, 0, [], [.a [.v (.int .i64 b_Turn), .v (.int .i64 b_Length), .v (.int .i64 b_Slip), .v (.int .i64 b_Range)], .a [.v (.int .i64 from_X), .v (.int .i64 from_Y), .v (.int .i64 from_H)], .a [.v (.int .i64 c_Turn), .v (.int .i64 c_Forward)], .a [.v (.int .i64 to_X), .v (.int .i64 to_Y), .v (.int .i64 to_H)], .c (.v (.bool bump))], [], .o (.c (.v (.bool (withinS b_Turn b_Length b_Slip b_Range from_X from_Y from_H c_Turn c_Forward to_X to_Y to_H bump)))), rfl, rfl, by simp only [push_cast, Nat.reduceLT, Nat.reduceAdd], by simp only [push_cast, Nat.reduceLT, Nat.reduceAdd], by simp only [push_cast, Nat.reduceLT, Nat.reduceAdd], rfl, trivial, rfl, ?_⟩
    intro hpre hlen
    refine ⟨trivial, ?_⟩
    simp (config := {maxSteps := 10000000}) only [x23, push_cast, Nat.reduceAdd, Nat.reduceSub, Nat.reduceLeDiff, Nat.reduceEqDiff, Nat.reduceBEq, Nat.reduceMul, Nat.reduceLT, reduceIte, reduceCtorEq, Int.reduceLE, Int.reduceLT, Int.reduceEq, Int.reduceMul, Int.reduceAdd, Int.reduceSub, Int.reduceNeg, Int.reduceToNat, Int.reduceNe, g19, g33, g21, g34, g35, g36, g47]
    refine ⟨fun h => ?_, fun b1 b2 b3 b4 b5 b6 b7 b8 f1 f2 f3 f4 f5 f6 c1 c2 c3 c4 t1 t2 t3 t4 t5 t6 => ?_⟩
    · exact (withinS_false (fun hp => by obtain ⟨h1, h2, h3, h4, _⟩ := hp; unfold vBd at h1; unfold vPs at h2 h4; unfold vCm at h3; omega)).symm
    have hb : vBd b_Turn b_Length b_Slip b_Range := by unfold vBd; omega
    have hf : vPs from_X from_Y from_H := by unfold vPs; omega
    have hc : vCm c_Turn c_Forward := by unfold vCm; omega
    have ht : vPs to_X to_Y to_H := by unfold vPs; omega
    rw [wrapI (n := from_H + c_Turn) (by omega) (by omega), wrapI (n := to_X - from_X) (by omega) (by omega), wrapI (n := to_Y - from_Y) (by omega) (by omega), wrapI (n := -b_Length) (by omega) (by omega)]
    have hd := dlt_iff (a := from_H + c_Turn) (tH := to_H) (bT := b_Turn) (by omega) (by omega) (by omega) (by omega)
    refine ⟨by omega, by omega, by omega, fun h => ?_, fun d1 d2 => ⟨fun h2 => ?_, fun h2 h2b => ?_⟩⟩
    · exact (withinS_false (fun hp => by have := hd.2 hp.2.2.2.2.1; omega)).symm
    · refine withinS_eq ?_
      unfold WithinP
      rw [if_pos h2]
      simp only [Bool.and_eq_true, beq_iff_eq]
      exact ⟨fun h3 => ⟨hb, hf, hc, ht, hd.1 ⟨d1, d2⟩, h3⟩, fun h3 => h3.2.2.2.2.2⟩
    have h2' : ¬ (bump = true ∨ c_Forward = 0) := by
      rintro (h3 | h3)
      · rw [h3] at h2; cases h2
      · exact h2b h3
    have hiff : WithinP b_Turn b_Length b_Slip b_Range from_X from_Y from_H c_Turn c_Forward to_X to_Y to_H bump ↔ anyE (fitE (to_X - from_X) (to_Y - from_Y) to_H c_Forward b_Slip) b_Length := by
      unfold WithinP
      rw [if_neg h2']
      exact ⟨fun h3 => h3.2.2.2.2.2, fun h3 => ⟨hb, hf, hc, ht, hd.1 ⟨d1, d2⟩, h3⟩⟩
    refine vcLoop_upd (α := {e : Int // -b_Length ≤ e ∧ e ≤ b_Length + 1 ∧ ∀ e2, -b_Length ≤ e2 → e2 < e → ¬ fitE (to_X - from_X) (to_Y - from_Y) to_H c_Forward b_Slip e2}) [5, 7, 8, 11, 12] 0 (fun s => [(13, .o (.c (.v (.int .i64 (s.1)))))]) (fun s => []) (fun s => (b_Length + 1 - s.1).toNat) ⟨-b_Length, by omega, by omega, fun e2 h3 h4 => by omega⟩ ?_ ?_
    · simp only [push_cast, Nat.reduceAdd, Nat.reduceSub, Nat.reduceLeDiff, Nat.reduceEqDiff, Nat.reduceBEq, Nat.reduceMul, Nat.reduceLT, reduceIte, reduceCtorEq, Int.reduceLE, Int.reduceLT, Int.reduceEq, Int.reduceMul, Int.reduceAdd, Int.reduceSub, Int.reduceNeg, Int.reduceToNat, Int.reduceNe, g19, g33, g21, g34, g35, g36, g47]
    rintro ⟨e, he1, he2, he3⟩
    simp only [x23L0, push_cast, Nat.reduceAdd, Nat.reduceSub, Nat.reduceLeDiff, Nat.reduceEqDiff, Nat.reduceBEq, Nat.reduceMul, Nat.reduceLT, reduceIte, reduceCtorEq, Int.reduceLE, Int.reduceLT, Int.reduceEq, Int.reduceMul, Int.reduceAdd, Int.reduceSub, Int.reduceNeg, Int.reduceToNat, Int.reduceNe, g19, g33, g21, g34, g35, g36, g47]
    have b1 := mv_bd to_H (c_Forward + e)
    refine ⟨fun h3 => ?_, fun h3 => ?_⟩
    · have b1 := b1 (by omega)
      rw [wrapI (n := c_Forward + e) (by omega) (by omega)]
      simp only [Bool.and_eq_false_iff, decide_eq_false_iff_not]
      simp only [mvx_def, mvy_def]
      rw [wrapI (n := to_X - from_X - mvx to_H (c_Forward + e)) (by omega) (by omega), wrapI (n := to_Y - from_Y - mvy to_H (c_Forward + e)) (by omega) (by omega), wrapI (n := e + 1) (by omega) (by omega)]
      refine ⟨by omega, by omega, fun q1 q2 => ⟨⟨q1, q2⟩, by omega⟩, fun q1 q2 q3 q4 => ?_, fun h4 => ?_⟩
      · exact (withinS_true (hiff.2 ⟨e, he1, h3, ⟨q1, q2⟩, q3, q4⟩)).symm
      · refine ⟨⟨e + 1, by omega, by omega, fun e2 h5 h6 => ?_⟩, rfl, by simp only; omega⟩
        by_cases h7 : e2 = e
        · subst h7
          intro h8
          unfold fitE at h8
          rcases h4 with q | q
          · exact q h8.1
          · exact q h8.2
        · exact he3 e2 h5 (by omega)
    · exact (withinS_false (fun hp => by
        obtain ⟨e2, h4, h5, h6⟩ := hiff.1 hp
        exact he3 e2 h4 (by omega) h6)).symm
  · cases hg_
end Go.Proofs.Ytjcpefnbongmaaa
