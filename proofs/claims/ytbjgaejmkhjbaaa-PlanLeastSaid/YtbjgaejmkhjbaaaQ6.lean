/- A part of the proof of a statement about this seat: how a function is stepped through, and plain laws. No conditions. -/
import Derived.Test.YtbjgaejmkhjbaaaRows
import Derived.Test.YtbjgaejmkhjbaaaSz3
import Derived.Test.YtbjgaejmkhjbaaaQ5
import Derived.KernelRfl
set_option linter.unusedVariables false
set_option linter.unusedSimpArgs false
set_option maxRecDepth 20000
namespace Go.Proofs.Ytbjgaejmkhjbaaa
open Go.Sx
/-! ### Plans with another value of a cell -/
def insB (W H x y : Int) : Bool := decide ((0 ≤ x ∧ x < W) ∧ 0 ≤ y ∧ y < H)
def atB (W H : Int) (L : List Int) (x y : Int) : Int := if planB W H L = false then 0 else if insB W H x y = false then 2 else L.getD (y * W + x).toNat eU8.dflt
def puE (W H : Int) (L : List Int) (x y v : Int) : Int := if planB W H L = false ∨ 2 < v then 1 else if insB W H x y = false then 7 else 0
def puL (W H : Int) (L : List Int) (x y v : Int) : List Int := if puE W H L x y v = 0 then L.set (y * W + x).toNat v else []
theorem idx_bd {W H : Int} {L : List Int} {x y : Int} (h : planB W H L = true) (hi : insB W H x y = true) : (0 ≤ y * W ∧ y * W ≤ 4096) ∧ 0 ≤ y * W + x ∧ y * W + x < L.length ∧ (1 ≤ L.length ∧ L.length ≤ 4096) := by
  have hp := planB_at h
  simp only [insB, decide_eq_true_eq] at hi
  have e : (y + 1) * W ≤ H * W := Int.mul_le_mul_of_nonneg_right (by omega) (by omega)
  have e2 : 0 ≤ y * W := Int.mul_nonneg (by omega) (by omega)
  have e3 : H * W = W * H := Int.mul_comm _ _
  rw [Int.add_mul] at e
  omega
theorem idx_inj {W x y x' y' : Int} (hx : 0 ≤ x ∧ x < W) (hx' : 0 ≤ x' ∧ x' < W) (h : y * W + x = y' * W + x') : x = x' ∧ y = y' := by
  have e : (y * W + x) % W = x := by rw [Int.mul_comm, Int.add_comm, Int.add_mul_emod_self_left]; exact Int.emod_eq_of_lt hx.1 hx.2
  have e' : (y' * W + x') % W = x' := by rw [Int.mul_comm, Int.add_comm, Int.add_mul_emod_self_left]; exact Int.emod_eq_of_lt hx'.1 hx'.2
  have d : (y * W + x) / W = y := by rw [Int.mul_comm, Int.add_comm, Int.add_mul_ediv_left _ _ (by omega), Int.ediv_eq_zero_of_lt hx.1 hx.2]; omega
  have d' : (y' * W + x') / W = y' := by rw [Int.mul_comm, Int.add_comm, Int.add_mul_ediv_left _ _ (by omega), Int.ediv_eq_zero_of_lt hx'.1 hx'.2]; omega
  rw [h] at e d
  exact ⟨e.symm.trans e', d.symm.trans d'⟩
theorem planB_set {W H : Int} {L : List Int} {i : Nat} {v : Int} (h : planB W H L = true) (hv : v ≤ 2) : planB W H (L.set i v) = true := by
  simp only [planB, Bool.and_eq_true, decide_eq_true_eq, List.length_set] at h ⊢
  refine ⟨h.1, fun x hx => ?_⟩
  rcases List.mem_or_eq_of_mem_set hx with h1 | h1
  · exact h.2 x h1
  · omega
theorem strB_inj {a b : List Int} (ha : u8s a) (hb : u8s b) : strB a = strB b ↔ a = b := by
  constructor
  · intro h
    unfold strB at h
    have h1 : a.map (fun n => UInt8.ofNat n.toNat) = b.map (fun n => UInt8.ofNat n.toNat) := by
      have := congrArg ByteArray.data h
      simpa using this
    have hl : a.length = b.length := by simpa using congrArg List.length h1
    refine List.ext_getElem hl fun i hi hj => ?_
    have h2 : (a.map (fun n => UInt8.ofNat n.toNat))[i]'(by simpa using hi) = (b.map (fun n => UInt8.ofNat n.toNat))[i]'(by simpa using hj) := by simp only [h1]
    simp only [List.getElem_map] at h2
    have h3 := congrArg UInt8.toNat h2
    simp only [UInt8.toNat_ofNat'] at h3
    have g1 := ha _ (List.getElem_mem hi)
    have g2 := hb _ (List.getElem_mem hj)
    omega
  · rintro rfl; rfl
theorem getD_set {L : List Int} {i j : Nat} {v : Int} (hi : i < L.length) : (L.set i v).getD j eU8.dflt = if j = i then v else L.getD j eU8.dflt := by
  rw [List.getD_eq_getElem?_getD, List.getD_eq_getElem?_getD, List.getElem?_set]
  by_cases h : i = j
  · subst h; simp [hi]
  · rw [if_neg h, if_neg (fun e => h e.symm)]
theorem cat0 (g f : Nat → Nat → SC) : catF 0 g f = f := by funext e j; simp [catF]
theorem upd8 {L : List Int} {i : Nat} {v : Int} (h : i < L.length) : updF (rowF eU8 L) i 0 [.v (.int .u8 v)] = rowF eU8 (L.set i v) := updF_row (E := eU8) (x := v) h rfl (show 0 + 1 ≤ 1 by omega)
theorem planB_no {W H : Int} {L : List Int} {k : Nat} (hk : k < L.length) (h : 2 < L.getD k eU8.dflt) : planB W H L = false := by
  rw [Bool.eq_false_iff]
  intro h2
  have := (planB_at h2).2.2.2.2 k hk
  omega
theorem planB_yes {W H : Int} {L : List Int} (h1 : 1 ≤ W ∧ W ≤ 64) (h2 : 1 ≤ H ∧ H ≤ 64) (h3 : (L.length : Int) = W * H) (h : ∀ i, i < L.length → L.getD i eU8.dflt ≤ 2) : planB W H L = true := by
  simp only [planB, Bool.and_eq_true, decide_eq_true_eq]
  exact ⟨⟨h1, h2, h3⟩, (getD_all (p := fun x => x ≤ 2) eU8.dflt).1 h⟩
theorem pu0 {W H : Int} {L : List Int} {x y v : Int} (h : puE W H L x y v = 0) : planB W H L = true ∧ v ≤ 2 ∧ insB W H x y = true ∧ puL W H L x y v = L.set (y * W + x).toNat v := by
  have h' := h
  unfold puE at h
  split at h
  · omega
  · rename_i h1
    split at h
    · omega
    · rename_i h2
      simp only [not_or, Bool.not_eq_false] at h1 h2
      exact ⟨h1.1, by omega, h2, by unfold puL; rw [if_pos h']⟩
theorem puL_u8 {W H : Int} {L : List Int} {x y v : Int} (hL : u8s L) (hv : 0 ≤ v ∧ v ≤ 255) : u8s (puL W H L x y v) := by
  unfold puL
  split
  · intro z hz
    rcases List.mem_or_eq_of_mem_set hz with h1 | h1
    · exact hL z h1
    · subst h1; exact hv
  · intro z hz; cases hz
theorem at_out {W H : Int} {L : List Int} {x y : Int} (h : planB W H L = true) (hi : insB W H x y = false) : atB W H L x y = 2 := by simp [atB, h, hi]
theorem at_in {W H : Int} {L : List Int} {x y : Int} (h : planB W H L = true) (hi : insB W H x y = true) : atB W H L x y = L.getD (y * W + x).toNat eU8.dflt := by simp [atB, h, hi]
theorem put_at {W H : Int} {L : List Int} {x y v : Int} (h : puE W H L x y v = 0) (x' y' : Int) :
    atB (mE (puE W H L x y v) W) (mE (puE W H L x y v) H) (puL W H L x y v) x' y' = if x' = x ∧ y' = y then v else atB W H L x' y' := by
  obtain ⟨h1, h2, h3, h4⟩ := pu0 h
  rw [h, h4]
  have k := idx_bd h1 h3
  simp only [mE, if_true]
  cases hi : insB W H x' y'
  · have hn : ¬ (x' = x ∧ y' = y) := by rintro ⟨rfl, rfl⟩; rw [h3] at hi; cases hi
    rw [if_neg hn, at_out (planB_set h1 h2) hi, at_out h1 hi]
  · have k' := idx_bd h1 hi
    rw [at_in (planB_set h1 h2) hi, at_in h1 hi, getD_set (by omega)]
    simp only [insB, decide_eq_true_eq] at h3 hi
    by_cases e : x' = x ∧ y' = y
    · rw [if_pos e, if_pos (by rw [e.1, e.2])]
    · rw [if_neg e, if_neg]
      intro e2
      refine e (idx_inj (W := W) ?_ ?_ ?_) <;> omega
def x65 : XFn := ⟨8, (.seq (.reg false [K1 2 .mv (.slice none 0 0)]) (.seq (.seq (.reg false [O1 3 .mv 0, O1 4 (.isnil false) 3]) (.cond (.t 4) (.seq (.reg false [K1 2 .mv (.slice none 0 0)]) .ret) .skip)) (.seq (.reg false [⟨(some 5), (.slit 5 0 1 [] []), [], none⟩, O1 6 .mv 0, O2 7 (.app 5 1 1) 5 6, O1 2 .mv 7]) .ret))), [(.s 2)]⟩
theorem x65_ok : xfn Try.prog Try.f65 = some x65.er := by kernel_rfl
def x64 : XFn := ⟨27, (.seq (.reg false [O1 2 (.box 46) 0, O1 3 (.box 47) 1, K1 4 .mv (.bool false)]) (.seq (.reg false [O1 5 (.fld 0) 3, O1 6 .load1 5, K2 7 (.bin .geq) 6 (iV 0), O1 8 .mv 7, G1 9 (.fld 0) 3 8 true, G1 10 .load1 9 8 true, G1 11 (.fld 0) 2 8 true, G1 12 .load1 11 8 true, G2 13 (.bin .lss) 10 12 8 true, ⟨(some 14), .pick, [(.t 8), (.t 13), (.k (.bool false))], none⟩, O1 15 .mv 14, G1 16 (.fld 1) 3 15 true, G1 17 .load1 16 15 true, GK 18 (.bin .geq) 17 (iV 0) 15 true, ⟨(some 19), .pick, [(.t 15), (.t 18), (.k (.bool false))], none⟩, O1 20 .mv 19, G1 21 (.fld 1) 3 20 true, G1 22 .load1 21 20 true, G1 23 (.fld 1) 2 20 true, G1 24 .load1 23 20 true, G2 25 (.bin .lss) 22 24 20 true, ⟨(some 26), .pick, [(.t 20), (.t 25), (.k (.bool false))], none⟩, O1 4 .mv 26]) .ret)), [(.s 4)]⟩
theorem x64_ok : xfn Try.prog Try.f64 = some x64.er := by kernel_rfl
def x28 : XFn := ⟨26, (.seq (.reg false [O1 2 (.box 46) 0, O1 3 (.box 47) 1, K1 4 .mv (.int .u8 0)]) (.seq (.block 0 (.seq (.reg false [O1 6 (.loadN 3) 2, O1 7 (.call 45) 6, O1 8 (.un .not) 7, O1 5 .mv 8]) (.cond (.t 5) (.seq (.reg false [K1 4 .mv (.int .u8 0)]) .ret) (.seq (.reg false [O1 10 (.loadN 3) 2, O1 11 (.loadN 2) 3, O2 12 (.call 64) 10 11, O1 13 (.un .not) 12, O1 9 .mv 13]) (.cond (.t 9) (.seq (.reg false [K1 4 .mv (.int .u8 2)]) .ret) .skip))))) (.seq (.reg false [O1 14 (.fld 2) 2, O1 15 .load1 14, O1 16 (.fld 1) 3, O1 17 .load1 16, O1 18 (.fld 0) 2, O1 19 .load1 18, O2 20 (.bin .mul) 17 19, O1 21 (.fld 0) 3, O1 22 .load1 21, O2 23 (.bin .add) 20 22, O2 24 (.ixS 1) 15 23, O1 25 .load1 24, O1 4 .mv 25]) .ret))), [(.s 4)]⟩
theorem x28_ok : xfn Try.prog Try.f28 = some x28.er := by kernel_rfl
def x25 : XFn := ⟨38, (.seq (.reg false [O1 3 (.box 46) 0, O1 4 (.box 47) 1, ⟨(some 6), (.alloc 46 [(iV 0), (iV 0), (.slice none 0 0)]), [], none⟩, K1 7 .mv (iV 0)]) (.seq (.seq (.reg false [O1 8 (.loadN 3) 3, O1 9 (.call 45) 8, O1 10 (.un .not) 9, O1 11 .mv 10, G1 12 .mv 2 11 false, GK 13 (.bin .gtr) 12 (.int .u8 2) 11 false, ⟨(some 14), .pick, [(.t 11), (.k (.bool true)), (.t 13)], none⟩]) (.cond (.t 14) (.seq (.reg false [⟨(some 15), (.build [(iV 0), (iV 0), (.slice none 0 0)] []), [], none⟩, ⟨none, (.store 3), [(.t 6), (.t 15)], none⟩, K1 7 .mv (iV 1)]) .ret) .skip)) (.seq (.seq (.reg false [O1 16 (.loadN 3) 3, O1 17 (.loadN 2) 4, O2 18 (.call 64) 16 17, O1 19 (.un .not) 18]) (.cond (.t 19) (.seq (.reg false [⟨(some 20), (.build [(iV 0), (iV 0), (.slice none 0 0)] []), [], none⟩, ⟨none, (.store 3), [(.t 6), (.t 20)], none⟩, K1 7 .mv (iV 7)]) .ret) .skip)) (.seq (.reg false [O1 21 (.fld 2) 3, O1 22 .load1 21, O1 23 (.call 65) 22, O1 24 (.fld 2) 3, ⟨none, (.store 1), [(.t 24), (.t 23)], none⟩]) (.seq (.reg false [O1 25 (.fld 2) 3, O1 26 .load1 25, O1 27 (.fld 1) 4, O1 28 .load1 27, O1 29 (.fld 0) 3, O1 30 .load1 29, O2 31 (.bin .mul) 28 30, O1 32 (.fld 0) 4, O1 33 .load1 32, O2 34 (.bin .add) 31 33, O1 35 .mv 2, O2 36 (.ixS 1) 26 34, ⟨none, (.store 1), [(.t 36), (.t 35)], none⟩]) (.seq (.reg false [O1 37 (.loadN 3) 3, ⟨none, (.store 3), [(.t 6), (.t 37)], none⟩, K1 7 .mv (iV 0)]) .ret)))))), [(.bn 6 3), (.s 7)]⟩
theorem x25_ok : xfn Try.prog Try.f25 = some x25.er := by kernel_rfl
def x79L0 : XC := (.seq (.seq (.reg false [O1 33 .mv 3, O1 34 (.fld 2) 1, O1 35 .load1 34, O1 36 .lenS 35, O2 37 (.bin .lss) 33 36]) (.cond (.t 37) .skip (.exit 0))) (.seq (.block 1 (.seq (.reg false [O1 40 (.fld 2) 1, O1 41 .load1 40, O1 42 .mv 3, O2 43 (.ixS 1) 41 42, O1 44 .load1 43, K2 45 (.bin .gtr) 44 (.int .u8 2)]) (.cond (.t 45) (.seq (.reg false [K1 2 .mv (.bool false)]) .ret) .skip))) (.reg false [O1 38 .mv 3, K2 39 (.bin .add) 38 (iV 1), O1 3 .mv 39])))
def x79 : XFn := ⟨46, (.seq (.reg false [O1 1 (.box 46) 0, K1 2 .mv (.bool false)]) (.seq (.seq (.reg false [O1 4 (.fld 0) 1, O1 5 .load1 4, K2 6 (.bin .lss) 5 (iV 1), O1 7 .mv 6, G1 8 (.fld 0) 1 7 false, G1 9 .load1 8 7 false, GK 10 (.bin .gtr) 9 (iV 64) 7 false, ⟨(some 11), .pick, [(.t 7), (.k (.bool true)), (.t 10)], none⟩, O1 12 .mv 11, G1 13 (.fld 1) 1 12 false, G1 14 .load1 13 12 false, GK 15 (.bin .lss) 14 (iV 1) 12 false, ⟨(some 16), .pick, [(.t 12), (.k (.bool true)), (.t 15)], none⟩, O1 17 .mv 16, G1 18 (.fld 1) 1 17 false, G1 19 .load1 18 17 false, GK 20 (.bin .gtr) 19 (iV 64) 17 false, ⟨(some 21), .pick, [(.t 17), (.k (.bool true)), (.t 20)], none⟩, O1 22 .mv 21, G1 23 (.fld 2) 1 22 false, G1 24 .load1 23 22 false, G1 25 .lenS 24 22 false, G1 26 (.fld 0) 1 22 false, G1 27 .load1 26 22 false, G1 28 (.fld 1) 1 22 false, G1 29 .load1 28 22 false, G2 30 (.bin .mul) 27 29 22 false, G2 31 (.bin .neq) 25 30 22 false, ⟨(some 32), .pick, [(.t 22), (.k (.bool true)), (.t 31)], none⟩]) (.cond (.t 32) (.seq (.reg false [K1 2 .mv (.bool false)]) .ret) .skip)) (.seq (.seq (.reg false [K1 3 .mv (iV 0)]) (.block 0 (.loop x79L0))) (.seq (.reg false [K1 2 .mv (.bool true)]) .ret)))), [(.s 2)]⟩
theorem x79_ok : xfn Try.prog Try.f79 = some x79.er := by kernel_rfl
def x66 : XFn := ⟨27, (.seq (.reg false [O1 2 (.box 46) 0, O1 3 (.box 47) 1, K1 4 .mv (.bool false)]) (.seq (.reg false [O1 5 (.fld 0) 3, O1 6 .load1 5, K2 7 (.bin .geq) 6 (iV 0), O1 8 .mv 7, G1 9 (.fld 0) 3 8 true, G1 10 .load1 9 8 true, G1 11 (.fld 0) 2 8 true, G1 12 .load1 11 8 true, G2 13 (.bin .lss) 10 12 8 true, ⟨(some 14), .pick, [(.t 8), (.t 13), (.k (.bool false))], none⟩, O1 15 .mv 14, G1 16 (.fld 1) 3 15 true, G1 17 .load1 16 15 true, GK 18 (.bin .geq) 17 (iV 0) 15 true, ⟨(some 19), .pick, [(.t 15), (.t 18), (.k (.bool false))], none⟩, O1 20 .mv 19, G1 21 (.fld 1) 3 20 true, G1 22 .load1 21 20 true, G1 23 (.fld 1) 2 20 true, G1 24 .load1 23 20 true, G2 25 (.bin .lss) 22 24 20 true, ⟨(some 26), .pick, [(.t 20), (.t 25), (.k (.bool false))], none⟩, O1 4 .mv 26]) .ret)), [(.s 4)]⟩
theorem x66_ok : xfn Try.prog Try.f66 = some x66.er := by kernel_rfl
def x67 : XFn := ⟨21, (.seq (.reg false [O1 2 (.box 46) 0, O1 3 (.box 47) 1, K1 4 .mv (.int .u8 0)]) (.seq (.seq (.reg false [O1 5 (.loadN 3) 2, O1 6 (.loadN 2) 3, O2 7 (.call 66) 5 6, O1 8 (.un .not) 7]) (.cond (.t 8) (.seq (.reg false [K1 4 .mv (.int .u8 2)]) .ret) .skip)) (.seq (.reg false [O1 9 (.fld 2) 2, O1 10 .load1 9, O1 11 (.fld 1) 3, O1 12 .load1 11, O1 13 (.fld 0) 2, O1 14 .load1 13, O2 15 (.bin .mul) 12 14, O1 16 (.fld 0) 3, O1 17 .load1 16, O2 18 (.bin .add) 15 17, O2 19 (.ixS 1) 10 18, O1 20 .load1 19, O1 4 .mv 20]) .ret))), [(.s 4)]⟩
theorem x67_ok : xfn Try.prog Try.f67 = some x67.er := by kernel_rfl
def x46 : XFn := ⟨5, (.seq (.reg false [O1 1 (.box 46) 0, K1 2 .mv (.bool false)]) (.seq (.reg false [O1 3 (.loadN 3) 1, O1 4 (.call 79) 3, O1 2 .mv 4]) .ret)), [(.s 2)]⟩
theorem x46_ok : xfn Try.prog Try.f46 = some x46.er := by kernel_rfl
def x29 : XFn := ⟨11, (.seq (.reg false [O1 2 (.box 46) 0, O1 3 (.box 47) 1, K1 4 .mv (.int .u8 0)]) (.seq (.seq (.reg false [O1 5 (.loadN 3) 2, O1 6 (.call 46) 5, O1 7 (.un .not) 6]) (.cond (.t 7) (.seq (.reg false [K1 4 .mv (.int .u8 0)]) .ret) .skip)) (.seq (.reg false [O1 8 (.loadN 3) 2, O1 9 (.loadN 2) 3, O2 10 (.call 67) 8 9, O1 4 .mv 10]) .ret))), [(.s 4)]⟩
theorem x29_ok : xfn Try.prog Try.f29 = some x29.er := by kernel_rfl
def x26 : XFn := ⟨44, (.seq (.reg false [O1 3 (.box 46) 0, O1 4 (.box 47) 1, ⟨(some 6), (.alloc 46 [(iV 0), (iV 0), (.slice none 0 0)]), [], none⟩, K1 7 .mv (iV 0)]) (.seq (.seq (.reg false [O1 9 (.loadN 3) 3, O1 10 (.call 46) 9, O1 11 (.un .not) 10, O1 12 .mv 11, G1 13 .mv 2 12 false, GK 14 (.bin .gtr) 13 (.int .u8 2) 12 false, ⟨(some 15), .pick, [(.t 12), (.k (.bool true)), (.t 14)], none⟩]) (.cond (.t 15) (.seq (.reg false [⟨(some 16), (.build [(iV 0), (iV 0), (.slice none 0 0)] []), [], none⟩, ⟨none, (.store 3), [(.t 6), (.t 16)], none⟩, K1 7 .mv (iV 1)]) .ret) .skip)) (.seq (.seq (.reg false [O1 17 (.loadN 3) 3, O1 18 (.loadN 2) 4, O2 19 (.call 66) 17 18, O1 20 (.un .not) 19]) (.cond (.t 20) (.seq (.reg false [⟨(some 21), (.build [(iV 0), (iV 0), (.slice none 0 0)] []), [], none⟩, ⟨none, (.store 3), [(.t 6), (.t 21)], none⟩, K1 7 .mv (iV 7)]) .ret) .skip)) (.seq (.regD [O1 22 (.fld 0) 3, O1 23 .load1 22, O1 24 (.fld 1) 3, O1 25 .load1 24, ⟨(some 26), (.slit 5 0 1 [] []), [], none⟩, O1 27 (.fld 2) 3, O1 28 .load1 27, O2 29 (.app 5 1 1) 26 28, ⟨(some 30), (.build [(iV 0), (iV 0), (.slice none 0 0)] [(0, 1), (1, 1), (2, 1)]), [(.t 23), (.t 25), (.t 29)], none⟩, ⟨(some 8), (.alloc 46 [(iV 0), (iV 0), (.slice none 0 0)]), [], none⟩, ⟨none, (.store 3), [(.t 8), (.t 30)], none⟩] [[], [0], [], [2], [], [], [5], [4, 6, 5], [1, 0, 3, 2, 7, 4, 6, 5], [], [9, 8, 1, 0, 3, 2, 7, 4, 6, 5]]) (.seq (.reg false [O1 31 (.fld 2) 8, O1 32 .load1 31, O1 33 (.fld 1) 4, O1 34 .load1 33, O1 35 (.fld 0) 3, O1 36 .load1 35, O2 37 (.bin .mul) 34 36, O1 38 (.fld 0) 4, O1 39 .load1 38, O2 40 (.bin .add) 37 39, O1 41 .mv 2, O2 42 (.ixS 1) 32 40, ⟨none, (.store 1), [(.t 42), (.t 41)], none⟩]) (.seq (.reg false [O1 43 (.loadN 3) 8, ⟨none, (.store 3), [(.t 6), (.t 43)], none⟩, K1 7 .mv (iV 0)]) .ret)))))), [(.bn 6 3), (.s 7)]⟩
theorem x26_ok : xfn Try.prog Try.f26 = some x26.er := by kernel_rfl
def x23 : XFn := ⟨7, (.seq (.reg false [O1 1 (.box 46) 0, K1 2 .mv (.bool false)]) (.seq (.reg false [O1 3 (.fld 2) 1, O1 4 .load1 3, O1 5 .lenS 4, K2 6 (.bin .leq) 5 (iV 5000), O1 2 .mv 6]) .ret)), [(.s 2)]⟩
theorem x23_ok : xfn Try.prog Try.f23 = some x23.er := by kernel_rfl
def x24 : XFn := ⟨12, (.seq (.reg false [O1 1 (.box 46) 0, ⟨(some 2), (.alloc 46 [(iV 0), (iV 0), (.slice none 0 0)]), [], none⟩]) (.seq (.regD [O1 3 (.fld 0) 1, O1 4 .load1 3, O1 5 (.fld 1) 1, O1 6 .load1 5, ⟨(some 7), (.slit 5 0 1 [] []), [], none⟩, O1 8 (.fld 2) 1, O1 9 .load1 8, O2 10 (.app 5 1 1) 7 9, ⟨(some 11), (.build [(iV 0), (iV 0), (.slice none 0 0)] [(0, 1), (1, 1), (2, 1)]), [(.t 4), (.t 6), (.t 10)], none⟩, ⟨none, (.store 3), [(.t 2), (.t 11)], none⟩] [[], [0], [], [2], [], [], [5], [4, 6, 5], [1, 0, 3, 2, 7, 4, 6, 5], [8, 1, 0, 3, 2, 7, 4, 6, 5]]) .ret)), [(.bn 2 3)]⟩
theorem x24_ok : xfn Try.prog Try.f24 = some x24.er := by kernel_rfl
def x27 : XFn := ⟨26, (.seq (.reg false [O1 2 (.box 46) 0, O1 3 (.box 46) 1, K1 4 .mv (.bool false)]) (.seq (.reg false [O1 5 (.fld 0) 2, O1 6 .load1 5, O1 7 (.fld 0) 3, O1 8 .load1 7, O2 9 (.bin .eql) 6 8, O1 10 .mv 9, G1 11 (.fld 1) 2 10 true, G1 12 .load1 11 10 true, G1 13 (.fld 1) 3 10 true, G1 14 .load1 13 10 true, G2 15 (.bin .eql) 12 14 10 true, ⟨(some 16), .pick, [(.t 10), (.t 15), (.k (.bool false))], none⟩, O1 17 .mv 16, G1 18 (.fld 2) 2 17 true, G1 19 .load1 18 17 true, G1 20 (.x .str) 19 17 true, G1 21 (.fld 2) 3 17 true, G1 22 .load1 21 17 true, G1 23 (.x .str) 22 17 true, ⟨(some 24), (.x (.sbin .eql)), [(.t 20), (.t 23)], (some (17, true))⟩, ⟨(some 25), .pick, [(.t 17), (.t 24), (.k (.bool false))], none⟩, O1 4 .mv 25]) .ret)), [(.s 4)]⟩
theorem x27_ok : xfn Try.prog Try.f27 = some x27.er := by kernel_rfl
/-- bytes.Clone -/
def g65 : Con := fun args_ E_ nn_ => match args_ with
  | [.c (.n b)] => (match rowOf E_ b with
    | some (b_n, b_s, b_f) => some (.e (isRow eU8 b_n b_s b_f ∧ ((decL eU8 b_n b_f)).length ≤ 100000) (.o (.c (.n (nn_ + 0)))) [((nn_ + 0), .own ((decL eU8 b_n b_f)).length 1 (rowF eU8 ((decL eU8 b_n b_f))) 5)] (nn_ + 1))
    | none => none)
  | _ => none
theorem c65 : COk Try.prog 65 g65 := by
  refine cok_e Try.func65 x65_ok (by kernel_rfl) (cok_tab cok_nil) ?_
  intro args_ E_ nn_ cr_ hg_
  unfold g65 at hg_
  split at hg_
  · rename_i b
    split at hg_
    · rename_i b_n b_s b_f h_b
      cases hg_
      refine ⟨_, _, _, _, rfl, 1, [b], [.c (.n 0)], [(0, .ro (decL eU8 b_n b_f).length eU8.sz (rowF eU8 (decL eU8 b_n b_f)))], .o (.c (.n 1)), [(1, .own ((decL eU8 b_n b_f)).length 1 (rowF eU8 ((decL eU8 b_n b_f))) 5)], 2, rfl, rfl, by simp only [renE, Ent.ren, rowF_renf] <;> rfl, rfl, by decide, by simp only [push_cast, Nat.reduceLT, Nat.reduceAdd], by simp only [push_cast, Nat.reduceLT, Nat.reduceAdd], by simp only [push_cast, Nat.reduceLT, Nat.reduceAdd], by simp only [push_cast, Nat.reduceLT, Nat.reduceAdd], rfl, ⟨inE0_row h_b, trivial⟩, by simp only [keysNodup, outN, keys] <;> decide, rfl, rfl, ?_⟩
      intro hpre hlen
      obtain ⟨i_b, hpre⟩ := hpre
      refine ⟨⟨inE_row h_b i_b, trivial⟩, by simp only [apartE] <;> (first | trivial | (simp [Ent.mut]; done)), ?_⟩
      have z_b := lens_row (E := eU8) hlen h_b
      clear i_b
      generalize decL eU8 b_n b_f = bL at *
      clear h_b
      simp (config := {maxSteps := 10000000}) only [x65, push_cast, Nat.reduceAdd, Nat.reduceSub, Nat.reduceLeDiff, Nat.reduceEqDiff, Nat.reduceBEq, Nat.reduceMul, Nat.reduceLT, reduceIte, reduceCtorEq, Int.reduceLE, Int.reduceLT, Int.reduceEq, Int.reduceMul, Int.reduceAdd, Int.reduceSub, Int.reduceNeg, Int.reduceToNat, Int.reduceNe]
      intro b
      exact fun h => ⟨h, fun _ => ⟨by omega, fun e j he hj => by rw [rowF_sub]; simp [catF]⟩⟩
    · cases hg_
  · cases hg_
/-- wayfinder/plan.inside -/
def g64 : Con := fun args_ E_ nn_ => match args_ with
  | [.a [.v (.int .i64 p_W), .v (.int .i64 p_H), .n p_Cells], .a [.v (.int .i64 c_X), .v (.int .i64 c_Y)]] => (match rowOf E_ p_Cells with
    | some (p_Cells_n, p_Cells_s, p_Cells_f) => some (.q (isRow eU8 p_Cells_n p_Cells_s p_Cells_f ∧ True) (.o (.c (.v (.bool (insB p_W p_H c_X c_Y))))))
    | none => none)
  | _ => none
theorem c64 : COk Try.prog 64 g64 := by
  refine cok_q Try.func64 x64_ok (by kernel_rfl) (cok_tab cok_nil) ?_
  intro args_ E_ nn_ cr_ hg_
  unfold g64 at hg_
  split at hg_
  · rename_i p_W p_H p_Cells c_X c_Y
    split at hg_
    · rename_i p_Cells_n p_Cells_s p_Cells_f h_p_Cells
      cases hg_
      refine ⟨_, _, rfl, 1, [p_Cells], [.a [.v (.int .i64 p_W), .v (.int .i64 p_H), .n 0], .a [.v (.int .i64 c_X), .v (.int .i64 c_Y)]], [(0, .ro (decL eU8 p_Cells_n p_Cells_f).length eU8.sz (rowF eU8 (decL eU8 p_Cells_n p_Cells_f)))], .o (.c (.v (.bool (insB p_W p_H c_X c_Y)))), rfl, rfl, by simp only [push_cast, Nat.reduceLT, Nat.reduceAdd], by simp only [push_cast, Nat.reduceLT, Nat.reduceAdd], by simp only [push_cast, Nat.reduceLT, Nat.reduceAdd], rfl, ⟨inE0_row h_p_Cells, trivial⟩, rfl, ?_⟩
      intro hpre hlen
      obtain ⟨i_p_Cells, hpre⟩ := hpre
      refine ⟨⟨inE_row h_p_Cells i_p_Cells, trivial⟩, ?_⟩
      have z_p_Cells := lens_row (E := eU8) hlen h_p_Cells
      clear i_p_Cells
      generalize decL eU8 p_Cells_n p_Cells_f = p_CellsL at *
      clear h_p_Cells
      simp (config := {maxSteps := 10000000}) only [x64, push_cast, Nat.reduceAdd, Nat.reduceSub, Nat.reduceLeDiff, Nat.reduceEqDiff, Nat.reduceBEq, Nat.reduceMul, Nat.reduceLT, reduceIte, reduceCtorEq, Int.reduceLE, Int.reduceLT, Int.reduceEq, Int.reduceMul, Int.reduceAdd, Int.reduceSub, Int.reduceNeg, Int.reduceToNat, Int.reduceNe]
      rw [Bool.eq_iff_iff]
      simp [insB]
      try omega
    · cases hg_
  · cases hg_
/-- wayfinder/plan.At -/
def g28 : Con := fun args_ E_ nn_ => match args_ with
  | [.a [.v (.int .i64 p_W), .v (.int .i64 p_H), .n p_Cells], .a [.v (.int .i64 c_X), .v (.int .i64 c_Y)]] => (match rowOf E_ p_Cells with
    | some (p_Cells_n, p_Cells_s, p_Cells_f) => some (.q (isRow eU8 p_Cells_n p_Cells_s p_Cells_f ∧ True) (.o (.c (.v (.int .u8 (atB p_W p_H (decL eU8 p_Cells_n p_Cells_f) c_X c_Y))))))
    | none => none)
  | _ => none
theorem c28 : COk Try.prog 28 g28 := by
  refine cok_q Try.func28 x28_ok (by kernel_rfl) (cok_tab (cok_cons c45 (cok_cons c64 cok_nil))) ?_
  intro args_ E_ nn_ cr_ hg_
  unfold g28 at hg_
  split at hg_
  · rename_i p_W p_H p_Cells c_X c_Y
    split at hg_
    · rename_i p_Cells_n p_Cells_s p_Cells_f h_p_Cells
      cases hg_
      refine ⟨_, _, rfl, 1, [p_Cells], [.a [.v (.int .i64 p_W), .v (.int .i64 p_H), .n 0], .a [.v (.int .i64 c_X), .v (.int .i64 c_Y)]], [(0, .ro (decL eU8 p_Cells_n p_Cells_f).length eU8.sz (rowF eU8 (decL eU8 p_Cells_n p_Cells_f)))], .o (.c (.v (.int .u8 (atB p_W p_H (decL eU8 p_Cells_n p_Cells_f) c_X c_Y)))), rfl, rfl, by simp only [push_cast, Nat.reduceLT, Nat.reduceAdd], by simp only [push_cast, Nat.reduceLT, Nat.reduceAdd], by simp only [push_cast, Nat.reduceLT, Nat.reduceAdd], rfl, ⟨inE0_row h_p_Cells, trivial⟩, rfl, ?_⟩
      intro hpre hlen
      obtain ⟨i_p_Cells, hpre⟩ := hpre
      refine ⟨⟨inE_row h_p_Cells i_p_Cells, trivial⟩, ?_⟩
      have z_p_Cells := lens_row (E := eU8) hlen h_p_Cells
      clear i_p_Cells
      generalize decL eU8 p_Cells_n p_Cells_f = p_CellsL at *
      clear h_p_Cells
      simp (config := {maxSteps := 10000000}) only [x28, push_cast, Nat.reduceAdd, Nat.reduceSub, Nat.reduceLeDiff, Nat.reduceEqDiff, Nat.reduceBEq, Nat.reduceMul, Nat.reduceLT, reduceIte, reduceCtorEq, Int.reduceLE, Int.reduceLT, Int.reduceEq, Int.reduceMul, Int.reduceAdd, Int.reduceSub, Int.reduceNeg, Int.reduceToNat, Int.reduceNe, g45, g64]
      refine ⟨fun h => by simp [atB, h], fun h => ⟨fun g => by simp [atB, h, g], fun g => ?_⟩⟩
      have k := idx_bd h g
      have hi := g
      simp only [insB, decide_eq_true_eq] at hi
      rw [wrapI (n := c_Y * p_W) (by omega) (by omega), wrapI (by omega) (by omega)]
      exact ⟨⟨by omega, by omega⟩, by omega, by simp [atB, h, g]⟩
    · cases hg_
  · cases hg_
/-- wayfinder/plan.Put -/
def g25 : Con := fun args_ E_ nn_ => match args_ with
  | [.a [.v (.int .i64 p_W), .v (.int .i64 p_H), .n p_Cells], .a [.v (.int .i64 c_X), .v (.int .i64 c_Y)], .c (.v (.int .u8 value))] => (match rowOf E_ p_Cells with
    | some (p_Cells_n, p_Cells_s, p_Cells_f) => some (.e (isRow eU8 p_Cells_n p_Cells_s p_Cells_f ∧ 0 ≤ value ∧ value ≤ 255) (.t [.a [.v (.int .i64 (mE (puE p_W p_H (decL eU8 p_Cells_n p_Cells_f) c_X c_Y value) p_W)), .v (.int .i64 (mE (puE p_W p_H (decL eU8 p_Cells_n p_Cells_f) c_X c_Y value) p_H)), .n (nn_ + 0)], .c (.v (.int .i64 (puE p_W p_H (decL eU8 p_Cells_n p_Cells_f) c_X c_Y value)))]) [((nn_ + 0), .own (puL p_W p_H (decL eU8 p_Cells_n p_Cells_f) c_X c_Y value).length 1 (rowF eU8 (puL p_W p_H (decL eU8 p_Cells_n p_Cells_f) c_X c_Y value)) 5)] (nn_ + 1))
    | none => none)
  | _ => none
theorem c25 : COk Try.prog 25 g25 := by
  refine cok_e Try.func25 x25_ok (by kernel_rfl) (cok_tab (cok_cons c45 (cok_cons c64 (cok_cons c65 cok_nil)))) ?_
  intro args_ E_ nn_ cr_ hg_
  unfold g25 at hg_
  split at hg_
  · rename_i p_W p_H p_Cells c_X c_Y value
    split at hg_
    · rename_i p_Cells_n p_Cells_s p_Cells_f h_p_Cells
      cases hg_
      refine ⟨_, _, _, _, rfl, 1, [p_Cells], [.a [.v (.int .i64 p_W), .v (.int .i64 p_H), .n 0], .a [.v (.int .i64 c_X), .v (.int .i64 c_Y)], .c (.v (.int .u8 value))], [(0, .ro (decL eU8 p_Cells_n p_Cells_f).length eU8.sz (rowF eU8 (decL eU8 p_Cells_n p_Cells_f)))], .t [.a [.v (.int .i64 (mE (puE p_W p_H (decL eU8 p_Cells_n p_Cells_f) c_X c_Y value) p_W)), .v (.int .i64 (mE (puE p_W p_H (decL eU8 p_Cells_n p_Cells_f) c_X c_Y value) p_H)), .n 1], .c (.v (.int .i64 (puE p_W p_H (decL eU8 p_Cells_n p_Cells_f) c_X c_Y value)))], [(1, .own (puL p_W p_H (decL eU8 p_Cells_n p_Cells_f) c_X c_Y value).length 1 (rowF eU8 (puL p_W p_H (decL eU8 p_Cells_n p_Cells_f) c_X c_Y value)) 5)], 2, rfl, rfl, by simp only [renE, Ent.ren, rowF_renf] <;> rfl, rfl, by decide, by simp only [push_cast, Nat.reduceLT, Nat.reduceAdd], by simp only [push_cast, Nat.reduceLT, Nat.reduceAdd], by simp only [push_cast, Nat.reduceLT, Nat.reduceAdd], by simp only [push_cast, Nat.reduceLT, Nat.reduceAdd], rfl, ⟨inE0_row h_p_Cells, trivial⟩, by simp only [keysNodup, outN, keys] <;> decide, rfl, rfl, ?_⟩
      intro hpre hlen
      obtain ⟨i_p_Cells, hpre⟩ := hpre
      refine ⟨⟨inE_row h_p_Cells i_p_Cells, trivial⟩, by simp only [apartE] <;> (first | trivial | (simp [Ent.mut]; done)), ?_⟩
      have z_p_Cells := lens_row (E := eU8) hlen h_p_Cells
      clear i_p_Cells
      generalize decL eU8 p_Cells_n p_Cells_f = p_CellsL at *
      clear h_p_Cells
      simp (config := {maxSteps := 10000000}) only [x25, push_cast, Nat.reduceAdd, Nat.reduceSub, Nat.reduceLeDiff, Nat.reduceEqDiff, Nat.reduceBEq, Nat.reduceMul, Nat.reduceLT, reduceIte, reduceCtorEq, Int.reduceLE, Int.reduceLT, Int.reduceEq, Int.reduceMul, Int.reduceAdd, Int.reduceSub, Int.reduceNeg, Int.reduceToNat, Int.reduceNe, g45, g64, g65]
      refine ⟨fun h => by simp [puL, puE, mE, h], fun h h2 => ⟨fun g => by simp [puL, puE, mE, h, h2, g], fun g => ?_⟩⟩
      have e0 : puE p_W p_H p_CellsL c_X c_Y value = 0 := by simp [puE, h, h2, g]
      have k := idx_bd h g
      have hi := g
      simp only [insB, decide_eq_true_eq] at hi
      rw [wrapI (n := c_Y * p_W) (by omega) (by omega), wrapI (by omega) (by omega)]
      refine ⟨by omega, ⟨by omega, by omega⟩, by omega, by simp [e0, mE], ?_⟩
      unfold puL
      rw [if_pos e0, upd8 (by omega)]
      exact ⟨by simp, fun e j he hj => (rowF_sub _ _ _ _).symm⟩
    · cases hg_
  · cases hg_
/-- wayfinder/wayfinderbase.Plan -/
def g79 : Con := fun args_ E_ nn_ => match args_ with
  | [.a [.v (.int .i64 p_W), .v (.int .i64 p_H), .n p_Cells]] => (match rowOf E_ p_Cells with
    | some (p_Cells_n, p_Cells_s, p_Cells_f) => some (.q (isRow eU8 p_Cells_n p_Cells_s p_Cells_f ∧ True) (.o (.c (.v (.bool (planB p_W p_H (decL eU8 p_Cells_n p_Cells_f)))))))
    | none => none)
  | _ => none
theorem c79 : COk Try.prog 79 g79 := by
  refine cok_q Try.func79 x79_ok (by kernel_rfl) (cok_tab cok_nil) ?_
  intro args_ E_ nn_ cr_ hg_
  unfold g79 at hg_
  split at hg_
  · rename_i p_W p_H p_Cells
    split at hg_
    · rename_i p_Cells_n p_Cells_s p_Cells_f h_p_Cells
      cases hg_
      refine ⟨_, _, rfl, 1, [p_Cells], [.a [.v (.int .i64 p_W), .v (.int .i64 p_H), .n 0]], [(0, .ro (decL eU8 p_Cells_n p_Cells_f).length eU8.sz (rowF eU8 (decL eU8 p_Cells_n p_Cells_f)))], .o (.c (.v (.bool (planB p_W p_H (decL eU8 p_Cells_n p_Cells_f))))), rfl, rfl, by simp only [push_cast, Nat.reduceLT, Nat.reduceAdd], by simp only [push_cast, Nat.reduceLT, Nat.reduceAdd], by simp only [push_cast, Nat.reduceLT, Nat.reduceAdd], rfl, ⟨inE0_row h_p_Cells, trivial⟩, rfl, ?_⟩
      intro hpre hlen
      obtain ⟨i_p_Cells, hpre⟩ := hpre
      refine ⟨⟨inE_row h_p_Cells i_p_Cells, trivial⟩, ?_⟩
      have z_p_Cells := lens_row (E := eU8) hlen h_p_Cells
      clear i_p_Cells
      generalize decL eU8 p_Cells_n p_Cells_f = p_CellsL at *
      clear h_p_Cells
      simp (config := {maxSteps := 10000000}) only [x79, push_cast, Nat.reduceAdd, Nat.reduceSub, Nat.reduceLeDiff, Nat.reduceEqDiff, Nat.reduceBEq, Nat.reduceMul, Nat.reduceLT, reduceIte, reduceCtorEq, Int.reduceLE, Int.reduceLT, Int.reduceEq, Int.reduceMul, Int.reduceAdd, Int.reduceSub, Int.reduceNeg, Int.reduceToNat, Int.reduceNe]
      refine ⟨fun h => ?_, fun a1 a2 a3 a4 h3 => ?_⟩
      · symm
        unfold planB
        rw [Bool.and_eq_false_iff, decide_eq_false_iff_not]
        refine .inl fun ⟨k1, k2, k3⟩ => ?_
        have := mulWH k1 k2
        rw [wrapI (n := p_W * p_H) (by omega) (by omega)] at h
        omega
      have hm := mulWH (W := p_W) (H := p_H) (by omega) (by omega)
      rw [wrapI (n := p_W * p_H) (by omega) (by omega)] at h3
      refine vcLoop_upd (α := {k : Nat // k ≤ p_CellsL.length ∧ ∀ i, i < k → p_CellsL.getD i eU8.dflt ≤ 2}) [1] 0 (fun s => [(3, .o (.c (.v (.int .i64 (s.1 : Nat)))))]) (fun s => []) (fun s => p_CellsL.length - s.1) ⟨0, by omega, fun i hi => by omega⟩ ?_ ?_
      · simp only [push_cast, Nat.reduceAdd, Nat.reduceSub, Nat.reduceLeDiff, Nat.reduceEqDiff, Nat.reduceBEq, Nat.reduceMul, Nat.reduceLT, reduceIte, reduceCtorEq, Int.reduceLE, Int.reduceLT, Int.reduceEq, Int.reduceMul, Int.reduceAdd, Int.reduceSub, Int.reduceNeg, Int.reduceToNat, Int.reduceNe]
      · rintro ⟨k, hk, hall⟩
        simp only [x79L0, push_cast, Nat.reduceAdd, Nat.reduceSub, Nat.reduceLeDiff, Nat.reduceEqDiff, Nat.reduceBEq, Nat.reduceMul, Nat.reduceLT, reduceIte, reduceCtorEq, Int.reduceLE, Int.reduceLT, Int.reduceEq, Int.reduceMul, Int.reduceAdd, Int.reduceSub, Int.reduceNeg, Int.reduceToNat, Int.reduceNe]
        refine ⟨fun h => ⟨h, h, fun g => (planB_no h g).symm, fun g => ⟨⟨k + 1, by omega, fun i hi => ?_⟩, wrapI (by omega) (by omega), by simp only; omega⟩⟩, fun h => (planB_yes (by omega) (by omega) h3 fun i hi => hall i (by omega)).symm⟩
        by_cases e : i = k
        · subst e; omega
        · exact hall i (by omega)
    · cases hg_
  · cases hg_
/-- wayfinder/wayfinderref08.Valid -/
def g46 : Con := fun args_ E_ nn_ => match args_ with
  | [.a [.v (.int .i64 p_W), .v (.int .i64 p_H), .n p_Cells]] => (match rowOf E_ p_Cells with
    | some (p_Cells_n, p_Cells_s, p_Cells_f) => some (.q (isRow eU8 p_Cells_n p_Cells_s p_Cells_f ∧ True) (.o (.c (.v (.bool (planB p_W p_H (decL eU8 p_Cells_n p_Cells_f)))))))
    | none => none)
  | _ => none
theorem c46 : COk Try.prog 46 g46 := by
  refine cok_q Try.func46 x46_ok (by kernel_rfl) (cok_tab (cok_cons c79 cok_nil)) ?_
  intro args_ E_ nn_ cr_ hg_
  unfold g46 at hg_
  split at hg_
  · rename_i p_W p_H p_Cells
    split at hg_
    · rename_i p_Cells_n p_Cells_s p_Cells_f h_p_Cells
      cases hg_
      refine ⟨_, _, rfl, 1, [p_Cells], [.a [.v (.int .i64 p_W), .v (.int .i64 p_H), .n 0]], [(0, .ro (decL eU8 p_Cells_n p_Cells_f).length eU8.sz (rowF eU8 (decL eU8 p_Cells_n p_Cells_f)))], .o (.c (.v (.bool (planB p_W p_H (decL eU8 p_Cells_n p_Cells_f))))), rfl, rfl, by simp only [push_cast, Nat.reduceLT, Nat.reduceAdd], by simp only [push_cast, Nat.reduceLT, Nat.reduceAdd], by simp only [push_cast, Nat.reduceLT, Nat.reduceAdd], rfl, ⟨inE0_row h_p_Cells, trivial⟩, rfl, ?_⟩
      intro hpre hlen
      obtain ⟨i_p_Cells, hpre⟩ := hpre
      refine ⟨⟨inE_row h_p_Cells i_p_Cells, trivial⟩, ?_⟩
      have z_p_Cells := lens_row (E := eU8) hlen h_p_Cells
      clear i_p_Cells
      generalize decL eU8 p_Cells_n p_Cells_f = p_CellsL at *
      clear h_p_Cells
      simp (config := {maxSteps := 10000000}) only [x46, push_cast, Nat.reduceAdd, Nat.reduceSub, Nat.reduceLeDiff, Nat.reduceEqDiff, Nat.reduceBEq, Nat.reduceMul, Nat.reduceLT, reduceIte, reduceCtorEq, Int.reduceLE, Int.reduceLT, Int.reduceEq, Int.reduceMul, Int.reduceAdd, Int.reduceSub, Int.reduceNeg, Int.reduceToNat, Int.reduceNe, g79]
    · cases hg_
  · cases hg_
/-- wayfinder/wayfinderbase.Inside -/
def g66 : Con := fun args_ E_ nn_ => match args_ with
  | [.a [.v (.int .i64 p_W), .v (.int .i64 p_H), .n p_Cells], .a [.v (.int .i64 c_X), .v (.int .i64 c_Y)]] => (match rowOf E_ p_Cells with
    | some (p_Cells_n, p_Cells_s, p_Cells_f) => some (.q (isRow eU8 p_Cells_n p_Cells_s p_Cells_f ∧ True) (.o (.c (.v (.bool (insB p_W p_H c_X c_Y))))))
    | none => none)
  | _ => none
theorem c66 : COk Try.prog 66 g66 := by
  refine cok_q Try.func66 x66_ok (by kernel_rfl) (cok_tab cok_nil) ?_
  intro args_ E_ nn_ cr_ hg_
  unfold g66 at hg_
  split at hg_
  · rename_i p_W p_H p_Cells c_X c_Y
    split at hg_
    · rename_i p_Cells_n p_Cells_s p_Cells_f h_p_Cells
      cases hg_
      refine ⟨_, _, rfl, 1, [p_Cells], [.a [.v (.int .i64 p_W), .v (.int .i64 p_H), .n 0], .a [.v (.int .i64 c_X), .v (.int .i64 c_Y)]], [(0, .ro (decL eU8 p_Cells_n p_Cells_f).length eU8.sz (rowF eU8 (decL eU8 p_Cells_n p_Cells_f)))], .o (.c (.v (.bool (insB p_W p_H c_X c_Y)))), rfl, rfl, by simp only [push_cast, Nat.reduceLT, Nat.reduceAdd], by simp only [push_cast, Nat.reduceLT, Nat.reduceAdd], by simp only [push_cast, Nat.reduceLT, Nat.reduceAdd], rfl, ⟨inE0_row h_p_Cells, trivial⟩, rfl, ?_⟩
      intro hpre hlen
      obtain ⟨i_p_Cells, hpre⟩ := hpre
      refine ⟨⟨inE_row h_p_Cells i_p_Cells, trivial⟩, ?_⟩
      have z_p_Cells := lens_row (E := eU8) hlen h_p_Cells
      clear i_p_Cells
      generalize decL eU8 p_Cells_n p_Cells_f = p_CellsL at *
      clear h_p_Cells
      simp (config := {maxSteps := 10000000}) only [x66, push_cast, Nat.reduceAdd, Nat.reduceSub, Nat.reduceLeDiff, Nat.reduceEqDiff, Nat.reduceBEq, Nat.reduceMul, Nat.reduceLT, reduceIte, reduceCtorEq, Int.reduceLE, Int.reduceLT, Int.reduceEq, Int.reduceMul, Int.reduceAdd, Int.reduceSub, Int.reduceNeg, Int.reduceToNat, Int.reduceNe]
      rw [Bool.eq_iff_iff]
      simp [insB]
      try omega
    · cases hg_
  · cases hg_
/-- wayfinder/wayfinderbase.At -/
def g67 : Con := fun args_ E_ nn_ => match args_ with
  | [.a [.v (.int .i64 p_W), .v (.int .i64 p_H), .n p_Cells], .a [.v (.int .i64 c_X), .v (.int .i64 c_Y)]] => (match rowOf E_ p_Cells with
    | some (p_Cells_n, p_Cells_s, p_Cells_f) => some (.q (isRow eU8 p_Cells_n p_Cells_s p_Cells_f ∧ planB p_W p_H (decL eU8 p_Cells_n p_Cells_f) = true) (.o (.c (.v (.int .u8 (atB p_W p_H (decL eU8 p_Cells_n p_Cells_f) c_X c_Y))))))
    | none => none)
  | _ => none
theorem c67 : COk Try.prog 67 g67 := by
  refine cok_q Try.func67 x67_ok (by kernel_rfl) (cok_tab (cok_cons c66 cok_nil)) ?_
  intro args_ E_ nn_ cr_ hg_
  unfold g67 at hg_
  split at hg_
  · rename_i p_W p_H p_Cells c_X c_Y
    split at hg_
    · rename_i p_Cells_n p_Cells_s p_Cells_f h_p_Cells
      cases hg_
      refine ⟨_, _, rfl, 1, [p_Cells], [.a [.v (.int .i64 p_W), .v (.int .i64 p_H), .n 0], .a [.v (.int .i64 c_X), .v (.int .i64 c_Y)]], [(0, .ro (decL eU8 p_Cells_n p_Cells_f).length eU8.sz (rowF eU8 (decL eU8 p_Cells_n p_Cells_f)))], .o (.c (.v (.int .u8 (atB p_W p_H (decL eU8 p_Cells_n p_Cells_f) c_X c_Y)))), rfl, rfl, by simp only [push_cast, Nat.reduceLT, Nat.reduceAdd], by simp only [push_cast, Nat.reduceLT, Nat.reduceAdd], by simp only [push_cast, Nat.reduceLT, Nat.reduceAdd], rfl, ⟨inE0_row h_p_Cells, trivial⟩, rfl, ?_⟩
      intro hpre hlen
      obtain ⟨i_p_Cells, hpre⟩ := hpre
      refine ⟨⟨inE_row h_p_Cells i_p_Cells, trivial⟩, ?_⟩
      have z_p_Cells := lens_row (E := eU8) hlen h_p_Cells
      clear i_p_Cells
      generalize decL eU8 p_Cells_n p_Cells_f = p_CellsL at *
      clear h_p_Cells
      simp (config := {maxSteps := 10000000}) only [x67, push_cast, Nat.reduceAdd, Nat.reduceSub, Nat.reduceLeDiff, Nat.reduceEqDiff, Nat.reduceBEq, Nat.reduceMul, Nat.reduceLT, reduceIte, reduceCtorEq, Int.reduceLE, Int.reduceLT, Int.reduceEq, Int.reduceMul, Int.reduceAdd, Int.reduceSub, Int.reduceNeg, Int.reduceToNat, Int.reduceNe, g66]
      refine ⟨fun g => by simp [atB, hpre, g], fun g => ?_⟩
      have h := hpre
      have k := idx_bd h g
      have hi := g
      simp only [insB, decide_eq_true_eq] at hi
      rw [wrapI (n := c_Y * p_W) (by omega) (by omega), wrapI (by omega) (by omega)]
      exact ⟨⟨by omega, by omega⟩, by omega, by simp [atB, h, g]⟩
    · cases hg_
  · cases hg_
/-- wayfinder/wayfinderref08.At -/
def g29 : Con := fun args_ E_ nn_ => match args_ with
  | [.a [.v (.int .i64 p_W), .v (.int .i64 p_H), .n p_Cells], .a [.v (.int .i64 c_X), .v (.int .i64 c_Y)]] => (match rowOf E_ p_Cells with
    | some (p_Cells_n, p_Cells_s, p_Cells_f) => some (.q (isRow eU8 p_Cells_n p_Cells_s p_Cells_f ∧ True) (.o (.c (.v (.int .u8 (atB p_W p_H (decL eU8 p_Cells_n p_Cells_f) c_X c_Y))))))
    | none => none)
  | _ => none
theorem c29 : COk Try.prog 29 g29 := by
  refine cok_q Try.func29 x29_ok (by kernel_rfl) (cok_tab (cok_cons c46 (cok_cons c67 cok_nil))) ?_
  intro args_ E_ nn_ cr_ hg_
  unfold g29 at hg_
  split at hg_
  · rename_i p_W p_H p_Cells c_X c_Y
    split at hg_
    · rename_i p_Cells_n p_Cells_s p_Cells_f h_p_Cells
      cases hg_
      refine ⟨_, _, rfl, 1, [p_Cells], [.a [.v (.int .i64 p_W), .v (.int .i64 p_H), .n 0], .a [.v (.int .i64 c_X), .v (.int .i64 c_Y)]], [(0, .ro (decL eU8 p_Cells_n p_Cells_f).length eU8.sz (rowF eU8 (decL eU8 p_Cells_n p_Cells_f)))], .o (.c (.v (.int .u8 (atB p_W p_H (decL eU8 p_Cells_n p_Cells_f) c_X c_Y)))), rfl, rfl, by simp only [push_cast, Nat.reduceLT, Nat.reduceAdd], by simp only [push_cast, Nat.reduceLT, Nat.reduceAdd], by simp only [push_cast, Nat.reduceLT, Nat.reduceAdd], rfl, ⟨inE0_row h_p_Cells, trivial⟩, rfl, ?_⟩
      intro hpre hlen
      obtain ⟨i_p_Cells, hpre⟩ := hpre
      refine ⟨⟨inE_row h_p_Cells i_p_Cells, trivial⟩, ?_⟩
      have z_p_Cells := lens_row (E := eU8) hlen h_p_Cells
      clear i_p_Cells
      generalize decL eU8 p_Cells_n p_Cells_f = p_CellsL at *
      clear h_p_Cells
      simp (config := {maxSteps := 10000000}) only [x29, push_cast, Nat.reduceAdd, Nat.reduceSub, Nat.reduceLeDiff, Nat.reduceEqDiff, Nat.reduceBEq, Nat.reduceMul, Nat.reduceLT, reduceIte, reduceCtorEq, Int.reduceLE, Int.reduceLT, Int.reduceEq, Int.reduceMul, Int.reduceAdd, Int.reduceSub, Int.reduceNeg, Int.reduceToNat, Int.reduceNe, g46, g67]
      intro h; simp [atB, h]
    · cases hg_
  · cases hg_
/-- wayfinder/wayfinderref08.Put -/
def g26 : Con := fun args_ E_ nn_ => match args_ with
  | [.a [.v (.int .i64 p_W), .v (.int .i64 p_H), .n p_Cells], .a [.v (.int .i64 c_X), .v (.int .i64 c_Y)], .c (.v (.int .u8 value))] => (match rowOf E_ p_Cells with
    | some (p_Cells_n, p_Cells_s, p_Cells_f) => some (.e (isRow eU8 p_Cells_n p_Cells_s p_Cells_f ∧ 0 ≤ value ∧ value ≤ 255) (.t [.a [.v (.int .i64 (mE (puE p_W p_H (decL eU8 p_Cells_n p_Cells_f) c_X c_Y value) p_W)), .v (.int .i64 (mE (puE p_W p_H (decL eU8 p_Cells_n p_Cells_f) c_X c_Y value) p_H)), .n (nn_ + 0)], .c (.v (.int .i64 (puE p_W p_H (decL eU8 p_Cells_n p_Cells_f) c_X c_Y value)))]) [((nn_ + 0), .own (puL p_W p_H (decL eU8 p_Cells_n p_Cells_f) c_X c_Y value).length 1 (rowF eU8 (puL p_W p_H (decL eU8 p_Cells_n p_Cells_f) c_X c_Y value)) 5)] (nn_ + 1))
    | none => none)
  | _ => none
theorem c26 : COk Try.prog 26 g26 := by
  refine cok_e Try.func26 x26_ok (by kernel_rfl) (cok_tab (cok_cons c46 (cok_cons c66 cok_nil))) ?_
  intro args_ E_ nn_ cr_ hg_
  unfold g26 at hg_
  split at hg_
  · rename_i p_W p_H p_Cells c_X c_Y value
    split at hg_
    · rename_i p_Cells_n p_Cells_s p_Cells_f h_p_Cells
      cases hg_
      refine ⟨_, _, _, _, rfl, 1, [p_Cells], [.a [.v (.int .i64 p_W), .v (.int .i64 p_H), .n 0], .a [.v (.int .i64 c_X), .v (.int .i64 c_Y)], .c (.v (.int .u8 value))], [(0, .ro (decL eU8 p_Cells_n p_Cells_f).length eU8.sz (rowF eU8 (decL eU8 p_Cells_n p_Cells_f)))], .t [.a [.v (.int .i64 (mE (puE p_W p_H (decL eU8 p_Cells_n p_Cells_f) c_X c_Y value) p_W)), .v (.int .i64 (mE (puE p_W p_H (decL eU8 p_Cells_n p_Cells_f) c_X c_Y value) p_H)), .n 1], .c (.v (.int .i64 (puE p_W p_H (decL eU8 p_Cells_n p_Cells_f) c_X c_Y value)))], [(1, .own (puL p_W p_H (decL eU8 p_Cells_n p_Cells_f) c_X c_Y value).length 1 (rowF eU8 (puL p_W p_H (decL eU8 p_Cells_n p_Cells_f) c_X c_Y value)) 5)], 2, rfl, rfl, by simp only [renE, Ent.ren, rowF_renf] <;> rfl, rfl, by decide, by simp only [push_cast, Nat.reduceLT, Nat.reduceAdd], by simp only [push_cast, Nat.reduceLT, Nat.reduceAdd], by simp only [push_cast, Nat.reduceLT, Nat.reduceAdd], by simp only [push_cast, Nat.reduceLT, Nat.reduceAdd], rfl, ⟨inE0_row h_p_Cells, trivial⟩, by simp only [keysNodup, outN, keys] <;> decide, rfl, rfl, ?_⟩
      intro hpre hlen
      obtain ⟨i_p_Cells, hpre⟩ := hpre
      refine ⟨⟨inE_row h_p_Cells i_p_Cells, trivial⟩, by simp only [apartE] <;> (first | trivial | (simp [Ent.mut]; done)), ?_⟩
      have z_p_Cells := lens_row (E := eU8) hlen h_p_Cells
      clear i_p_Cells
      generalize decL eU8 p_Cells_n p_Cells_f = p_CellsL at *
      clear h_p_Cells
      simp (config := {maxSteps := 10000000}) only [x26, push_cast, Nat.reduceAdd, Nat.reduceSub, Nat.reduceLeDiff, Nat.reduceEqDiff, Nat.reduceBEq, Nat.reduceMul, Nat.reduceLT, reduceIte, reduceCtorEq, Int.reduceLE, Int.reduceLT, Int.reduceEq, Int.reduceMul, Int.reduceAdd, Int.reduceSub, Int.reduceNeg, Int.reduceToNat, Int.reduceNe, g46, g66]
      refine ⟨fun h => by simp [puL, puE, mE, h], fun h h2 => ⟨fun g => by simp [puL, puE, mE, h, h2, g], fun g => ?_⟩⟩
      have e0 : puE p_W p_H p_CellsL c_X c_Y value = 0 := by simp [puE, h, h2, g]
      have k := idx_bd h g
      have hi := g
      simp only [insB, decide_eq_true_eq] at hi
      rw [wrapI (n := c_Y * p_W) (by omega) (by omega), wrapI (by omega) (by omega)]
      refine ⟨by omega, by rfl, ⟨by omega, by omega⟩, by omega, by simp [e0, mE], ?_⟩
      unfold puL
      rw [if_pos e0, cat0, upd8 (by omega)]
      exact ⟨by simp, fun e j he hj => (rowF_sub _ _ _ _).symm⟩
    · cases hg_
  · cases hg_
/-- wayfinder/wayfinderlaw08.few -/
def g23 : Con := fun args_ E_ nn_ => match args_ with
  | [.a [.v (.int .i64 p_W), .v (.int .i64 p_H), .n p_Cells]] => (match rowOf E_ p_Cells with
    | some (p_Cells_n, p_Cells_s, p_Cells_f) => some (.q (isRow eU8 p_Cells_n p_Cells_s p_Cells_f ∧ True) (.o (.c (.v (.bool (decide (((decL eU8 p_Cells_n p_Cells_f)).length ≤ 5000)))))))
    | none => none)
  | _ => none
theorem c23 : COk Try.prog 23 g23 := by
  refine cok_q Try.func23 x23_ok (by kernel_rfl) (cok_tab cok_nil) ?_
  intro args_ E_ nn_ cr_ hg_
  unfold g23 at hg_
  split at hg_
  · rename_i p_W p_H p_Cells
    split at hg_
    · rename_i p_Cells_n p_Cells_s p_Cells_f h_p_Cells
      cases hg_
      refine ⟨_, _, rfl, 1, [p_Cells], [.a [.v (.int .i64 p_W), .v (.int .i64 p_H), .n 0]], [(0, .ro (decL eU8 p_Cells_n p_Cells_f).length eU8.sz (rowF eU8 (decL eU8 p_Cells_n p_Cells_f)))], .o (.c (.v (.bool (decide (((decL eU8 p_Cells_n p_Cells_f)).length ≤ 5000))))), rfl, rfl, by simp only [push_cast, Nat.reduceLT, Nat.reduceAdd], by simp only [push_cast, Nat.reduceLT, Nat.reduceAdd], by simp only [push_cast, Nat.reduceLT, Nat.reduceAdd], rfl, ⟨inE0_row h_p_Cells, trivial⟩, rfl, ?_⟩
      intro hpre hlen
      obtain ⟨i_p_Cells, hpre⟩ := hpre
      refine ⟨⟨inE_row h_p_Cells i_p_Cells, trivial⟩, ?_⟩
      have z_p_Cells := lens_row (E := eU8) hlen h_p_Cells
      clear i_p_Cells
      generalize decL eU8 p_Cells_n p_Cells_f = p_CellsL at *
      clear h_p_Cells
      simp (config := {maxSteps := 10000000}) only [x23, push_cast, Nat.reduceAdd, Nat.reduceSub, Nat.reduceLeDiff, Nat.reduceEqDiff, Nat.reduceBEq, Nat.reduceMul, Nat.reduceLT, reduceIte, reduceCtorEq, Int.reduceLE, Int.reduceLT, Int.reduceEq, Int.reduceMul, Int.reduceAdd, Int.reduceSub, Int.reduceNeg, Int.reduceToNat, Int.reduceNe]
      rw [decide_eq_decide]; omega
    · cases hg_
  · cases hg_
/-- wayfinder/wayfinderlaw08.clone -/
def g24 : Con := fun args_ E_ nn_ => match args_ with
  | [.a [.v (.int .i64 p_W), .v (.int .i64 p_H), .n p_Cells]] => (match rowOf E_ p_Cells with
    | some (p_Cells_n, p_Cells_s, p_Cells_f) => some (.e (isRow eU8 p_Cells_n p_Cells_s p_Cells_f ∧ ((decL eU8 p_Cells_n p_Cells_f)).length ≤ 100000) (.o (.a [.v (.int .i64 p_W), .v (.int .i64 p_H), .n (nn_ + 0)])) [((nn_ + 0), .own ((decL eU8 p_Cells_n p_Cells_f)).length 1 (rowF eU8 ((decL eU8 p_Cells_n p_Cells_f))) 5)] (nn_ + 1))
    | none => none)
  | _ => none
theorem c24 : COk Try.prog 24 g24 := by
  refine cok_e Try.func24 x24_ok (by kernel_rfl) (cok_tab cok_nil) ?_
  intro args_ E_ nn_ cr_ hg_
  unfold g24 at hg_
  split at hg_
  · rename_i p_W p_H p_Cells
    split at hg_
    · rename_i p_Cells_n p_Cells_s p_Cells_f h_p_Cells
      cases hg_
      refine ⟨_, _, _, _, rfl, 1, [p_Cells], [.a [.v (.int .i64 p_W), .v (.int .i64 p_H), .n 0]], [(0, .ro (decL eU8 p_Cells_n p_Cells_f).length eU8.sz (rowF eU8 (decL eU8 p_Cells_n p_Cells_f)))], .o (.a [.v (.int .i64 p_W), .v (.int .i64 p_H), .n 1]), [(1, .own ((decL eU8 p_Cells_n p_Cells_f)).length 1 (rowF eU8 ((decL eU8 p_Cells_n p_Cells_f))) 5)], 2, rfl, rfl, by simp only [renE, Ent.ren, rowF_renf] <;> rfl, rfl, by decide, by simp only [push_cast, Nat.reduceLT, Nat.reduceAdd], by simp only [push_cast, Nat.reduceLT, Nat.reduceAdd], by simp only [push_cast, Nat.reduceLT, Nat.reduceAdd], by simp only [push_cast, Nat.reduceLT, Nat.reduceAdd], rfl, ⟨inE0_row h_p_Cells, trivial⟩, by simp only [keysNodup, outN, keys] <;> decide, rfl, rfl, ?_⟩
      intro hpre hlen
      obtain ⟨i_p_Cells, hpre⟩ := hpre
      refine ⟨⟨inE_row h_p_Cells i_p_Cells, trivial⟩, by simp only [apartE] <;> (first | trivial | (simp [Ent.mut]; done)), ?_⟩
      have z_p_Cells := lens_row (E := eU8) hlen h_p_Cells
      clear i_p_Cells
      generalize decL eU8 p_Cells_n p_Cells_f = p_CellsL at *
      clear h_p_Cells
      simp (config := {maxSteps := 10000000}) only [x24, push_cast, Nat.reduceAdd, Nat.reduceSub, Nat.reduceLeDiff, Nat.reduceEqDiff, Nat.reduceBEq, Nat.reduceMul, Nat.reduceLT, reduceIte, reduceCtorEq, Int.reduceLE, Int.reduceLT, Int.reduceEq, Int.reduceMul, Int.reduceAdd, Int.reduceSub, Int.reduceNeg, Int.reduceToNat, Int.reduceNe]
      refine ⟨by omega, by rfl, ?_⟩
      rw [cat0]
      exact fun e j he hj => (rowF_sub _ _ _ _).symm
    · cases hg_
  · cases hg_
/-- wayfinder/wayfinderbase.Plans -/
def g27 : Con := fun args_ E_ nn_ => match args_ with
  | [.a [.v (.int .i64 a_W), .v (.int .i64 a_H), .n a_Cells], .a [.v (.int .i64 b_W), .v (.int .i64 b_H), .n b_Cells]] => (match rowOf E_ a_Cells with
    | some (a_Cells_n, a_Cells_s, a_Cells_f) => (match rowOf E_ b_Cells with
    | some (b_Cells_n, b_Cells_s, b_Cells_f) => some (.q (isRow eU8 a_Cells_n a_Cells_s a_Cells_f ∧ isRow eU8 b_Cells_n b_Cells_s b_Cells_f ∧ u8s (decL eU8 a_Cells_n a_Cells_f) ∧ u8s (decL eU8 b_Cells_n b_Cells_f)) (.o (.c (.v (.bool (decide (a_W = b_W ∧ a_H = b_H ∧ (decL eU8 a_Cells_n a_Cells_f) = (decL eU8 b_Cells_n b_Cells_f))))))))
    | none => none)
    | none => none)
  | _ => none
theorem c27 : COk Try.prog 27 g27 := by
  refine cok_q Try.func27 x27_ok (by kernel_rfl) (cok_tab cok_nil) ?_
  intro args_ E_ nn_ cr_ hg_
  unfold g27 at hg_
  split at hg_
  · rename_i a_W a_H a_Cells b_W b_H b_Cells
    split at hg_
    · rename_i a_Cells_n a_Cells_s a_Cells_f h_a_Cells
      split at hg_
      · rename_i b_Cells_n b_Cells_s b_Cells_f h_b_Cells
        cases hg_
        refine ⟨_, _, rfl, 2, [a_Cells, b_Cells], [.a [.v (.int .i64 a_W), .v (.int .i64 a_H), .n 0], .a [.v (.int .i64 b_W), .v (.int .i64 b_H), .n 1]], [(0, .ro (decL eU8 a_Cells_n a_Cells_f).length eU8.sz (rowF eU8 (decL eU8 a_Cells_n a_Cells_f))), (1, .ro (decL eU8 b_Cells_n b_Cells_f).length eU8.sz (rowF eU8 (decL eU8 b_Cells_n b_Cells_f)))], .o (.c (.v (.bool (decide (a_W = b_W ∧ a_H = b_H ∧ (decL eU8 a_Cells_n a_Cells_f) = (decL eU8 b_Cells_n b_Cells_f)))))), rfl, rfl, by simp only [push_cast, Nat.reduceLT, Nat.reduceAdd], by simp only [push_cast, Nat.reduceLT, Nat.reduceAdd], by simp only [push_cast, Nat.reduceLT, Nat.reduceAdd], rfl, ⟨inE0_row h_a_Cells, inE0_row h_b_Cells, trivial⟩, rfl, ?_⟩
        intro hpre hlen
        obtain ⟨i_a_Cells, hpre⟩ := hpre
        obtain ⟨i_b_Cells, hpre⟩ := hpre
        refine ⟨⟨inE_row h_a_Cells i_a_Cells, inE_row h_b_Cells i_b_Cells, trivial⟩, ?_⟩
        have z_a_Cells := lens_row (E := eU8) hlen h_a_Cells
        have z_b_Cells := lens_row (E := eU8) hlen h_b_Cells
        clear i_a_Cells
        generalize decL eU8 a_Cells_n a_Cells_f = a_CellsL at *
        clear i_b_Cells
        generalize decL eU8 b_Cells_n b_Cells_f = b_CellsL at *
        clear h_a_Cells
        clear h_b_Cells
        simp (config := {maxSteps := 10000000}) only [x27, push_cast, Nat.reduceAdd, Nat.reduceSub, Nat.reduceLeDiff, Nat.reduceEqDiff, Nat.reduceBEq, Nat.reduceMul, Nat.reduceLT, reduceIte, reduceCtorEq, Int.reduceLE, Int.reduceLT, Int.reduceEq, Int.reduceMul, Int.reduceAdd, Int.reduceSub, Int.reduceNeg, Int.reduceToNat, Int.reduceNe]
        rw [Bool.eq_iff_iff]
        simp only [Bool.and_eq_true, beq_iff_eq, decide_eq_true_eq, strB_inj hpre.1 hpre.2, and_assoc]
      · cases hg_
    · cases hg_
  · cases hg_
def x7 : XFn := ⟨88, (.seq (.reg false [O1 3 (.box 46) 0, O1 4 (.box 48) 1, K1 6 .mv (.bool false)]) (.seq (.seq (.reg false [⟨(some 15), (.call 13), [], none⟩, O1 16 (.un .not) 15, O1 17 .mv 16, G1 18 (.loadN 3) 3 17 false, G1 19 (.call 23) 18 17 false, G1 20 (.un .not) 19 17 false, ⟨(some 21), .pick, [(.t 17), (.k (.bool true)), (.t 20)], none⟩]) (.cond (.t 21) (.seq (.reg false [⟨(some 22), (.call 13), [], none⟩, O1 6 .mv 22]) .ret) .skip)) (.seq (.reg false [O1 23 (.loadN 3) 3, O1 24 (.call 24) 23, ⟨(some 7), (.alloc 46 [(iV 0), (iV 0), (.slice none 0 0)]), [], none⟩, ⟨none, (.store 3), [(.t 7), (.t 24)], none⟩]) (.seq (.regD [K2 25 (.ixA 2 2) 4 (iV 0), O1 26 (.loadN 2) 25, K2 27 (.ixA 2 2) 4 (iV 1), O1 28 (.loadN 2) 27, ⟨(some 8), (.alloc 47 [(iV 0), (iV 0)]), [], none⟩, ⟨(some 9), (.alloc 47 [(iV 0), (iV 0)]), [], none⟩, ⟨none, (.store 2), [(.t 8), (.t 26)], none⟩, ⟨none, (.store 2), [(.t 9), (.t 28)], none⟩] [[], [0], [], [2], [], [], [4, 1, 0, 5], [5, 3, 2, 6, 4, 1, 0]]) (.seq (.reg false [O1 30 (.loadN 3) 7, O1 31 (.loadN 2) 8, O1 32 .mv 2, ⟨(some 33), (.call 25), [(.t 30), (.t 31), (.t 32)], none⟩, O1 29 .mv 33, O1 34 (.ext 0) 29, O1 35 (.ext 1) 29, ⟨(some 10), (.alloc 46 [(iV 0), (iV 0), (.slice none 0 0)]), [], none⟩, ⟨none, (.store 3), [(.t 10), (.t 34)], none⟩, O1 11 .mv 35]) (.seq (.reg false [O1 37 (.loadN 3) 3, O1 38 (.loadN 2) 8, O1 39 .mv 2, ⟨(some 40), (.call 26), [(.t 37), (.t 38), (.t 39)], none⟩, O1 36 .mv 40, O1 41 (.ext 0) 36, O1 42 (.ext 1) 36, ⟨(some 12), (.alloc 46 [(iV 0), (iV 0), (.slice none 0 0)]), [], none⟩, ⟨none, (.store 3), [(.t 12), (.t 41)], none⟩, O1 13 .mv 42]) (.seq (.seq (.reg true [O1 43 .mv 11, O1 44 .mv 13, O2 45 (.bin .neq) 43 44, O1 46 .mv 45, G1 47 (.loadN 3) 10 46 false, G1 48 (.loadN 3) 12 46 false, G2 49 (.call 27) 47 48 46 false, G1 50 (.un .not) 49 46 false, ⟨(some 51), .pick, [(.t 46), (.k (.bool true)), (.t 50)], none⟩, O1 52 .mv 51, G1 53 (.loadN 3) 7 52 false, G1 54 (.loadN 3) 3 52 false, G2 55 (.call 27) 53 54 52 false, G1 56 (.un .not) 55 52 false, ⟨(some 57), .pick, [(.t 52), (.k (.bool true)), (.t 56)], none⟩, O1 58 .mv 57, G1 59 (.loadN 3) 3 58 false, G1 60 (.loadN 2) 8 58 false, G2 61 (.call 28) 59 60 58 false, G1 62 (.loadN 3) 3 58 false, G1 63 (.loadN 2) 8 58 false, G2 64 (.call 29) 62 63 58 false, G2 65 (.bin .neq) 61 64 58 false, ⟨(some 66), .pick, [(.t 58), (.k (.bool true)), (.t 65)], none⟩]) (.cond (.t 66) (.seq (.reg false [K1 6 .mv (.bool false)]) .ret) .skip)) (.seq (.seq (.reg false [O1 67 .mv 11, K2 68 (.bin .neq) 67 (iV 0)]) (.cond (.t 68) (.seq (.reg false [K1 6 .mv (.bool true)]) .ret) .skip)) (.seq (.reg false [O1 69 (.loadN 3) 3, O1 70 (.loadN 2) 9, O2 71 (.call 28) 69 70, O1 14 .mv 71]) (.seq (.seq (.reg false [O1 72 (.loadN 2) 9, O1 73 (.loadN 2) 8, ⟨(some 74), (.eqA false [(.i .i64), (.i .i64)]), [(.t 72), (.t 73)], none⟩]) (.cond (.t 74) (.reg false [O1 75 .mv 2, O1 14 .mv 75]) .skip)) (.seq (.reg false [O1 76 (.loadN 3) 10, O1 77 (.loadN 2) 9, O2 78 (.call 28) 76 77, O1 79 .mv 14, O2 80 (.bin .eql) 78 79, O1 81 .mv 80, G1 82 (.loadN 3) 10 81 true, G1 83 (.loadN 2) 8 81 true, G2 84 (.call 28) 82 83 81 true, G1 85 .mv 2 81 true, G2 86 (.bin .eql) 84 85 81 true, ⟨(some 87), .pick, [(.t 81), (.t 86), (.k (.bool false))], none⟩, O1 6 .mv 87]) .ret))))))))))), [(.s 6)]⟩
theorem x7_ok : xfn Try.prog Try.f7 = some x7.er := by kernel_rfl
/-- wayfinder/wayfinderlaw08.PlanPuts -/
def g7 : Con := fun args_ E_ nn_ => match args_ with
  | [.a [.v (.int .i64 p_W), .v (.int .i64 p_H), .n p_Cells], .a [.v (.int .i64 l_0_X), .v (.int .i64 l_0_Y), .v (.int .i64 l_1_X), .v (.int .i64 l_1_Y)], .c (.v (.int .u8 value))] => (match rowOf E_ p_Cells with
    | some (p_Cells_n, p_Cells_s, p_Cells_f) => some (.q (isRow eU8 p_Cells_n p_Cells_s p_Cells_f ∧ u8s (decL eU8 p_Cells_n p_Cells_f) ∧ 0 ≤ value ∧ value ≤ 255) (.o (.c (.v (.bool (true))))))
    | none => none)
  | _ => none
theorem c7 : COk Try.prog 7 g7 := by
  refine cok_q Try.func7 x7_ok (by kernel_rfl) (cok_tab (cok_cons c13 (cok_cons c23 (cok_cons c24 (cok_cons c25 (cok_cons c26 (cok_cons c27 (cok_cons c28 (cok_cons c29 cok_nil))))))))) ?_
  intro args_ E_ nn_ cr_ hg_
  unfold g7 at hg_
  split at hg_
  · rename_i p_W p_H p_Cells l_0_X l_0_Y l_1_X l_1_Y value
    split at hg_
    · rename_i p_Cells_n p_Cells_s p_Cells_f h_p_Cells
      cases hg_
      refine ⟨_, _, rfl, 1, [p_Cells], [.a [.v (.int .i64 p_W), .v (.int .i64 p_H), .n 0], .a [.v (.int .i64 l_0_X), .v (.int .i64 l_0_Y), .v (.int .i64 l_1_X), .v (.int .i64 l_1_Y)], .c (.v (.int .u8 value))], [(0, .ro (decL eU8 p_Cells_n p_Cells_f).length eU8.sz (rowF eU8 (decL eU8 p_Cells_n p_Cells_f)))], .o (.c (.v (.bool (true)))), rfl, rfl, by simp only [push_cast, Nat.reduceLT, Nat.reduceAdd], by simp only [push_cast, Nat.reduceLT, Nat.reduceAdd], by simp only [push_cast, Nat.reduceLT, Nat.reduceAdd], rfl, ⟨inE0_row h_p_Cells, trivial⟩, rfl, ?_⟩
      intro hpre hlen
      obtain ⟨i_p_Cells, hpre⟩ := hpre
      refine ⟨⟨inE_row h_p_Cells i_p_Cells, trivial⟩, ?_⟩
      have z_p_Cells := lens_row (E := eU8) hlen h_p_Cells
      clear i_p_Cells
      generalize decL eU8 p_Cells_n p_Cells_f = p_CellsL at *
      clear h_p_Cells
      simp (config := {maxSteps := 10000000}) only [x7, push_cast, Nat.reduceAdd, Nat.reduceSub, Nat.reduceLeDiff, Nat.reduceEqDiff, Nat.reduceBEq, Nat.reduceMul, Nat.reduceLT, reduceIte, reduceCtorEq, Int.reduceLE, Int.reduceLT, Int.reduceEq, Int.reduceMul, Int.reduceAdd, Int.reduceSub, Int.reduceNeg, Int.reduceToNat, Int.reduceNe, g13, g23, g24, g25, g26, g27, g28, g29]
      intro h
      refine ⟨by omega, by rfl, hpre.2, hpre.2, puL_u8 hpre.1 hpre.2, hpre.1, fun g => ?_⟩
      rw [put_at g, put_at g, if_pos (And.intro rfl rfl)]
      refine ⟨fun e1 e2 => ⟨by rw [if_pos (And.intro e1 e2)], rfl⟩, fun e => ⟨?_, rfl⟩⟩
      rw [if_neg]
      rintro ⟨rfl, rfl⟩
      simp at e
    · cases hg_
  · cases hg_
end Go.Proofs.Ytbjgaejmkhjbaaa
set_option linter.unusedVariables false
set_option linter.unusedSimpArgs false
set_option maxRecDepth 20000
namespace Go.Proofs.Ytbjgaejmkhjbaaa
open Go.Sx
/-! ### Plans together -/
def d8 (L : List Int) (i : Nat) : Int := L.getD i eU8.dflt
def confB (a b : Int) : Bool := decide (a ≠ 0 ∧ b ≠ 0 ∧ a ≠ b)
def clashB (L M : List Int) : Bool := (List.range L.length).any fun i => confB (d8 L i) (d8 M i)
theorem clash_iff {L M : List Int} : clashB L M = true ↔ ∃ i, i < L.length ∧ (d8 L i ≠ 0 ∧ d8 M i ≠ 0 ∧ d8 L i ≠ d8 M i) := by
  simp only [clashB, confB, List.any_eq_true, List.mem_range, decide_eq_true_eq]
theorem clash_no {L M : List Int} : clashB L M = false ↔ ∀ i, i < L.length → (d8 L i = 0 ∨ d8 M i = 0 ∨ d8 L i = d8 M i) := by
  rw [Bool.eq_false_iff]
  show ¬ (clashB L M = true) ↔ _
  rw [clash_iff]
  constructor
  · intro h i hi
    rcases Classical.em (d8 L i = 0) with h1 | h1
    · exact .inl h1
    · rcases Classical.em (d8 M i = 0) with h2 | h2
      · exact .inr (.inl h2)
      · rcases Classical.em (d8 L i = d8 M i) with h3 | h3
        · exact .inr (.inr h3)
        · exact absurd ⟨i, hi, h1, h2, h3⟩ h
  · rintro h ⟨i, hi, h1, h2, h3⟩
    rcases h i hi with h | h | h
    · exact h1 h
    · exact h2 h
    · exact h3 h
def okM (W H : Int) (L : List Int) (W2 H2 : Int) (M : List Int) : Bool := planB W H L && planB W2 H2 M && decide (W = W2 ∧ H = H2)
def mgE (W H : Int) (L : List Int) (W2 H2 : Int) (M : List Int) : Int := if okM W H L W2 H2 M = false then 1 else if clashB L M = true then 11 else 0
def mixL (L M : List Int) : List Int := (List.range L.length).map fun i => max (d8 L i) (d8 M i)
def mgL (W H : Int) (L : List Int) (W2 H2 : Int) (M : List Int) : List Int := if mgE W H L W2 H2 M = 0 then mixL L M else []
/-- The first `s` numbers are mixed. -/
def mixS (L M : List Int) (s : Nat) : List Int := (List.range L.length).map fun i => if i < s then max (d8 L i) (d8 M i) else d8 L i
def mixK (L M : List Int) (s : Nat) : List Int := (List.range s).map fun i => max (d8 L i) (d8 M i)
theorem list8_ext {a b : List Int} (hl : a.length = b.length) (h : ∀ i, i < a.length → d8 a i = d8 b i) : a = b := getD_ext eU8.dflt hl h
theorem d8_map {f : Nat → Int} {n i : Nat} (h : i < n) : d8 ((List.range n).map f) i = f i := by
  unfold d8
  rw [List.getD_eq_getElem?_getD, List.getElem?_map, List.getElem?_range h]
  rfl
theorem mixS_len (L M : List Int) (s : Nat) : (mixS L M s).length = L.length := by simp [mixS]
theorem mixL_len (L M : List Int) : (mixL L M).length = L.length := by simp [mixL]
theorem mixS_at {L M : List Int} {s i : Nat} (h : i < L.length) : d8 (mixS L M s) i = if i < s then max (d8 L i) (d8 M i) else d8 L i := d8_map h
theorem mixL_at {L M : List Int} {i : Nat} (h : i < L.length) : d8 (mixL L M) i = max (d8 L i) (d8 M i) := d8_map h
theorem mixS_zero (L M : List Int) : mixS L M 0 = L := list8_ext (mixS_len _ _ _) fun i hi => by rw [mixS_len] at hi; rw [mixS_at hi]; simp
theorem mixS_all {L M : List Int} {s : Nat} (h : L.length ≤ s) : mixS L M s = mixL L M := list8_ext (by rw [mixS_len, mixL_len]) fun i hi => by
  rw [mixS_len] at hi; rw [mixS_at hi, mixL_at hi, if_pos (by omega)]
theorem mixS_keep {L M : List Int} {s : Nat} (h : max (d8 L s) (d8 M s) = d8 L s) : mixS L M (s + 1) = mixS L M s := list8_ext (by rw [mixS_len, mixS_len]) fun i hi => by
  rw [mixS_len] at hi
  rw [mixS_at hi, mixS_at hi]
  by_cases e : i = s
  · subst e; rw [if_pos (by omega), if_neg (by omega), h]
  · by_cases g : i < s
    · rw [if_pos (by omega), if_pos g]
    · rw [if_neg (by omega), if_neg g]
theorem d8_set {L : List Int} {i j : Nat} {v : Int} (hi : i < L.length) : d8 (L.set i v) j = if j = i then v else d8 L j := getD_set hi
theorem mixS_set {L M : List Int} {s : Nat} {v : Int} (hs : s < L.length) (h : max (d8 L s) (d8 M s) = v) : mixS L M (s + 1) = (mixS L M s).set s v := list8_ext (by rw [List.length_set, mixS_len, mixS_len]) fun i hi => by
  rw [mixS_len] at hi
  rw [d8_set (by rw [mixS_len]; exact hs), mixS_at hi, mixS_at hi]
  by_cases e : i = s
  · subst e; rw [if_pos (by omega), if_pos rfl, h]
  · rw [if_neg e]
    by_cases g : i < s
    · rw [if_pos (by omega), if_pos g]
    · rw [if_neg (by omega), if_neg g]
theorem mixK_succ (L M : List Int) (s : Nat) : mixK L M (s + 1) = mixK L M s ++ [max (d8 L s) (d8 M s)] := by simp [mixK, List.range_succ]
theorem mixK_len (L M : List Int) (s : Nat) : (mixK L M s).length = s := by simp [mixK]
theorem mixK_all (L M : List Int) : mixK L M L.length = mixL L M := rfl
def belB (L M : List Int) : Bool := (List.range L.length).all fun i => decide (d8 L i = 0 ∨ d8 L i = d8 M i)
theorem bel_iff {L M : List Int} : belB L M = true ↔ ∀ i, i < L.length → (d8 L i = 0 ∨ d8 L i = d8 M i) := by
  simp only [belB, List.all_eq_true, List.mem_range, decide_eq_true_eq]
def blB (W H : Int) (L : List Int) (W2 H2 : Int) (M : List Int) : Bool := okM W H L W2 H2 M && belB L M
theorem okM_iff {W H : Int} {L : List Int} {W2 H2 : Int} {M : List Int} : okM W H L W2 H2 M = true ↔ planB W H L = true ∧ planB W2 H2 M = true ∧ W = W2 ∧ H = H2 := by
  simp only [okM, Bool.and_eq_true, decide_eq_true_eq, and_assoc]
theorem okM_len {W H : Int} {L : List Int} {W2 H2 : Int} {M : List Int} (h : okM W H L W2 H2 M = true) : L.length = M.length ∧ (1 ≤ L.length ∧ L.length ≤ 4096) := by
  rw [okM_iff] at h
  obtain ⟨h1, h2, rfl, rfl⟩ := h
  have a := planB_at h1
  have b := planB_at h2
  omega
theorem mgE1 {W H : Int} {L : List Int} {W2 H2 : Int} {M : List Int} (h : okM W H L W2 H2 M = false) : mgE W H L W2 H2 M = 1 ∧ mgL W H L W2 H2 M = [] := by simp [mgL, mgE, h]
theorem mgE11 {W H : Int} {L : List Int} {W2 H2 : Int} {M : List Int} (h : okM W H L W2 H2 M = true) (h2 : clashB L M = true) : mgE W H L W2 H2 M = 11 ∧ mgL W H L W2 H2 M = [] := by simp [mgL, mgE, h, h2]
theorem mgE0 {W H : Int} {L : List Int} {W2 H2 : Int} {M : List Int} (h : okM W H L W2 H2 M = true) (h2 : clashB L M = false) : mgE W H L W2 H2 M = 0 ∧ mgL W H L W2 H2 M = mixL L M := by simp [mgL, mgE, h, h2]
theorem okM_no {W H : Int} {L : List Int} {W2 H2 : Int} {M : List Int} (h : ((planB W H L = false ∨ planB W2 H2 M = false) ∨ ¬ W = W2) ∨ ¬ H = H2) : okM W H L W2 H2 M = false := by
  rw [Bool.eq_false_iff]
  intro k
  rw [okM_iff] at k
  rcases h with ((h | h) | h) | h
  · rw [k.1] at h; cases h
  · rw [k.2.1] at h; cases h
  · exact h k.2.2.1
  · exact h k.2.2.2
theorem bel_no {L M : List Int} {k : Nat} (hk : k < L.length) (h1 : ¬ d8 L k = 0) (h2 : ¬ d8 M k = d8 L k) : belB L M = false := by
  rw [Bool.eq_false_iff]
  intro h
  rcases bel_iff.1 h k hk with g | g
  · exact h1 g
  · exact h2 g.symm
def x30L0 : XC := (.seq (.reg false [O2 39 (.bin .lss) 38 37]) (.seq (.cond (.t 39) .skip (.exit 0)) (.seq (.block 1 (.seq (.reg false [O1 40 .mv 38, O2 41 (.ixS 1) 36 38, O1 42 .load1 41, O1 6 .mv 40, O1 7 .mv 42]) (.block 2 (.seq (.reg false [O1 45 .mv 7, K2 46 (.bin .eql) 45 (.int .u8 0), O1 47 .mv 46, G1 48 (.fld 2) 2 47 false, G1 49 .load1 48 47 false, G1 50 .mv 6 47 false, G2 51 (.ixS 1) 49 50 47 false, G1 52 .load1 51 47 false, G1 53 .mv 7 47 false, G2 54 (.bin .eql) 52 53 47 false, ⟨(some 55), .pick, [(.t 47), (.k (.bool true)), (.t 54)], none⟩, O1 44 .mv 55]) (.cond (.t 44) .skip (.seq (.reg false [O1 57 (.fld 2) 2, O1 58 .load1 57, O1 59 .mv 6, O2 60 (.ixS 1) 58 59, O1 61 .load1 60, K2 62 (.bin .eql) 61 (.int .u8 0), O1 56 .mv 62]) (.cond (.t 56) (.reg false [O1 63 (.fld 2) 2, O1 64 .load1 63, O1 65 .mv 6, O1 66 .mv 7, O2 67 (.ixS 1) 64 65, ⟨none, (.store 1), [(.t 67), (.t 66)], none⟩]) (.seq (.reg false [⟨(some 43), (.build [(iV 0), (iV 0), (.slice none 0 0)] []), [], none⟩, ⟨none, (.store 3), [(.t 4), (.t 43)], none⟩, K1 5 .mv (iV 11)]) .ret)))))))) (.reg false [K2 68 (.bin .add) 38 (iV 1), O1 38 .mv 68]))))
def x30 : XFn := ⟨70, (.seq (.reg false [O1 2 (.box 46) 0, O1 3 (.box 46) 1, ⟨(some 4), (.alloc 46 [(iV 0), (iV 0), (.slice none 0 0)]), [], none⟩, K1 5 .mv (iV 0)]) (.seq (.seq (.reg false [O1 8 (.loadN 3) 2, O1 9 (.call 45) 8, O1 10 (.un .not) 9, O1 11 .mv 10, G1 12 (.loadN 3) 3 11 false, G1 13 (.call 45) 12 11 false, G1 14 (.un .not) 13 11 false, ⟨(some 15), .pick, [(.t 11), (.k (.bool true)), (.t 14)], none⟩, O1 16 .mv 15, G1 17 (.fld 0) 2 16 false, G1 18 .load1 17 16 false, G1 19 (.fld 0) 3 16 false, G1 20 .load1 19 16 false, G2 21 (.bin .neq) 18 20 16 false, ⟨(some 22), .pick, [(.t 16), (.k (.bool true)), (.t 21)], none⟩, O1 23 .mv 22, G1 24 (.fld 1) 2 23 false, G1 25 .load1 24 23 false, G1 26 (.fld 1) 3 23 false, G1 27 .load1 26 23 false, G2 28 (.bin .neq) 25 27 23 false, ⟨(some 29), .pick, [(.t 23), (.k (.bool true)), (.t 28)], none⟩]) (.cond (.t 29) (.seq (.reg false [⟨(some 30), (.build [(iV 0), (iV 0), (.slice none 0 0)] []), [], none⟩, ⟨none, (.store 3), [(.t 4), (.t 30)], none⟩, K1 5 .mv (iV 1)]) .ret) .skip)) (.seq (.reg false [O1 31 (.fld 2) 2, O1 32 .load1 31, O1 33 (.call 65) 32, O1 34 (.fld 2) 2, ⟨none, (.store 1), [(.t 34), (.t 33)], none⟩]) (.seq (.seq (.reg false [O1 35 (.fld 2) 3, O1 36 .load1 35, O1 37 .lenS 36, K1 38 .mv (iV 0)]) (.block 0 (.loop x30L0))) (.seq (.reg false [O1 69 (.loadN 3) 2, ⟨none, (.store 3), [(.t 4), (.t 69)], none⟩, K1 5 .mv (iV 0)]) .ret))))), [(.bn 4 3), (.s 5)]⟩
theorem x30_ok : xfn Try.prog Try.f30 = some x30.er := by kernel_rfl
def x32L0 : XC := (.seq (.reg false [O2 33 (.bin .lss) 32 31]) (.seq (.cond (.t 33) .skip (.exit 0)) (.seq (.block 1 (.seq (.reg false [O1 34 .mv 32, O2 35 (.ixS 1) 30 32, O1 36 .load1 35, O1 5 .mv 34, O1 6 .mv 36]) (.seq (.reg false [O1 37 .mv 6, K2 38 (.bin .neq) 37 (.int .u8 0), O1 39 .mv 38, G1 40 (.fld 2) 3 39 true, G1 41 .load1 40 39 true, G1 42 .mv 5 39 true, G2 43 (.ixS 1) 41 42 39 true, G1 44 .load1 43 39 true, G1 45 .mv 6 39 true, G2 46 (.bin .neq) 44 45 39 true, ⟨(some 47), .pick, [(.t 39), (.t 46), (.k (.bool false))], none⟩]) (.cond (.t 47) (.seq (.reg false [K1 4 .mv (.bool false)]) .ret) .skip)))) (.reg false [K2 48 (.bin .add) 32 (iV 1), O1 32 .mv 48]))))
def x32 : XFn := ⟨49, (.seq (.reg false [O1 2 (.box 46) 0, O1 3 (.box 46) 1, K1 4 .mv (.bool false)]) (.seq (.seq (.reg false [O1 7 (.loadN 3) 2, O1 8 (.call 45) 7, O1 9 (.un .not) 8, O1 10 .mv 9, G1 11 (.loadN 3) 3 10 false, G1 12 (.call 45) 11 10 false, G1 13 (.un .not) 12 10 false, ⟨(some 14), .pick, [(.t 10), (.k (.bool true)), (.t 13)], none⟩, O1 15 .mv 14, G1 16 (.fld 0) 2 15 false, G1 17 .load1 16 15 false, G1 18 (.fld 0) 3 15 false, G1 19 .load1 18 15 false, G2 20 (.bin .neq) 17 19 15 false, ⟨(some 21), .pick, [(.t 15), (.k (.bool true)), (.t 20)], none⟩, O1 22 .mv 21, G1 23 (.fld 1) 2 22 false, G1 24 .load1 23 22 false, G1 25 (.fld 1) 3 22 false, G1 26 .load1 25 22 false, G2 27 (.bin .neq) 24 26 22 false, ⟨(some 28), .pick, [(.t 22), (.k (.bool true)), (.t 27)], none⟩]) (.cond (.t 28) (.seq (.reg false [K1 4 .mv (.bool false)]) .ret) .skip)) (.seq (.seq (.reg false [O1 29 (.fld 2) 2, O1 30 .load1 29, O1 31 .lenS 30, K1 32 .mv (iV 0)]) (.block 0 (.loop x32L0))) (.seq (.reg false [K1 4 .mv (.bool true)]) .ret)))), [(.s 4)]⟩
theorem x32_ok : xfn Try.prog Try.f32 = some x32.er := by kernel_rfl
def x31L0 : XC := (.seq (.seq (.reg false [O1 38 .mv 7, O1 39 (.fld 2) 2, O1 40 .load1 39, O1 41 .lenS 40, O2 42 (.bin .lss) 38 41]) (.cond (.t 42) .skip (.exit 0))) (.seq (.block 1 (.seq (.reg true [O1 45 (.fld 2) 2, O1 46 .load1 45, O1 47 .mv 7, O2 48 (.ixS 1) 46 47, O1 49 .load1 48, O1 50 (.fld 2) 3, O1 51 .load1 50, O1 52 .mv 7, O2 53 (.ixS 1) 51 52, O1 54 .load1 53, O1 8 .mv 49, O1 9 .mv 54]) (.seq (.seq (.reg false [O1 55 .mv 8, O1 56 .mv 9, O2 57 (.bin .neq) 55 56, O1 58 .mv 57, G1 59 .mv 8 58 true, GK 60 (.bin .neq) 59 (.int .u8 0) 58 true, ⟨(some 61), .pick, [(.t 58), (.t 60), (.k (.bool false))], none⟩, O1 62 .mv 61, G1 63 .mv 9 62 true, GK 64 (.bin .neq) 63 (.int .u8 0) 62 true, ⟨(some 65), .pick, [(.t 62), (.t 64), (.k (.bool false))], none⟩]) (.cond (.t 65) (.seq (.reg false [⟨(some 66), (.build [(iV 0), (iV 0), (.slice none 0 0)] []), [], none⟩, ⟨none, (.store 3), [(.t 4), (.t 66)], none⟩, K1 5 .mv (iV 11)]) .ret) .skip)) (.reg false [O1 67 (.fld 2) 6, O1 68 .load1 67, O1 69 .mv 8, O1 70 .mv 9, O2 71 .maxI 69 70, ⟨(some 72), (.slit 5 1 1 [(.int .u8 0)] [(0, 1)]), [(.t 71)], none⟩, O2 73 (.app 5 1 1) 68 72, O1 74 (.fld 2) 6, ⟨none, (.store 1), [(.t 74), (.t 73)], none⟩])))) (.reg false [O1 43 .mv 7, K2 44 (.bin .add) 43 (iV 1), O1 7 .mv 44])))
def x31 : XFn := ⟨76, (.seq (.reg false [O1 2 (.box 46) 0, O1 3 (.box 46) 1, ⟨(some 4), (.alloc 46 [(iV 0), (iV 0), (.slice none 0 0)]), [], none⟩, K1 5 .mv (iV 0)]) (.seq (.seq (.reg false [O1 10 (.loadN 3) 2, O1 11 (.call 46) 10, O1 12 (.un .not) 11, O1 13 .mv 12, G1 14 (.loadN 3) 3 13 false, G1 15 (.call 46) 14 13 false, G1 16 (.un .not) 15 13 false, ⟨(some 17), .pick, [(.t 13), (.k (.bool true)), (.t 16)], none⟩, O1 18 .mv 17, G1 19 (.fld 0) 2 18 false, G1 20 .load1 19 18 false, G1 21 (.fld 0) 3 18 false, G1 22 .load1 21 18 false, G2 23 (.bin .neq) 20 22 18 false, ⟨(some 24), .pick, [(.t 18), (.k (.bool true)), (.t 23)], none⟩, O1 25 .mv 24, G1 26 (.fld 1) 2 25 false, G1 27 .load1 26 25 false, G1 28 (.fld 1) 3 25 false, G1 29 .load1 28 25 false, G2 30 (.bin .neq) 27 29 25 false, ⟨(some 31), .pick, [(.t 25), (.k (.bool true)), (.t 30)], none⟩]) (.cond (.t 31) (.seq (.reg false [⟨(some 32), (.build [(iV 0), (iV 0), (.slice none 0 0)] []), [], none⟩, ⟨none, (.store 3), [(.t 4), (.t 32)], none⟩, K1 5 .mv (iV 1)]) .ret) .skip)) (.seq (.reg false [O1 33 (.fld 0) 2, O1 34 .load1 33, O1 35 (.fld 1) 2, O1 36 .load1 35, ⟨(some 37), (.build [(iV 0), (iV 0), (.slice none 0 0)] [(0, 1), (1, 1)]), [(.t 34), (.t 36)], none⟩, ⟨(some 6), (.alloc 46 [(iV 0), (iV 0), (.slice none 0 0)]), [], none⟩, ⟨none, (.store 3), [(.t 6), (.t 37)], none⟩]) (.seq (.seq (.reg false [K1 7 .mv (iV 0)]) (.block 0 (.loop x31L0))) (.seq (.reg false [O1 75 (.loadN 3) 6, ⟨none, (.store 3), [(.t 4), (.t 75)], none⟩, K1 5 .mv (iV 0)]) .ret))))), [(.bn 4 3), (.s 5)]⟩
theorem x31_ok : xfn Try.prog Try.f31 = some x31.er := by kernel_rfl
def x33L0 : XC := (.seq (.seq (.reg false [O1 28 .mv 5, O1 29 (.fld 2) 2, O1 30 .load1 29, O1 31 .lenS 30, O2 32 (.bin .lss) 28 31]) (.cond (.t 32) .skip (.exit 0))) (.seq (.block 1 (.seq (.reg true [O1 35 (.fld 2) 2, O1 36 .load1 35, O1 37 .mv 5, O2 38 (.ixS 1) 36 37, O1 39 .load1 38, K2 40 (.bin .neq) 39 (.int .u8 0), O1 41 .mv 40, G1 42 (.fld 2) 2 41 true, G1 43 .load1 42 41 true, G1 44 .mv 5 41 true, G2 45 (.ixS 1) 43 44 41 true, G1 46 .load1 45 41 true, G1 47 (.fld 2) 3 41 true, G1 48 .load1 47 41 true, G1 49 .mv 5 41 true, G2 50 (.ixS 1) 48 49 41 true, G1 51 .load1 50 41 true, G2 52 (.bin .neq) 46 51 41 true, ⟨(some 53), .pick, [(.t 41), (.t 52), (.k (.bool false))], none⟩]) (.cond (.t 53) (.seq (.reg false [K1 4 .mv (.bool false)]) .ret) .skip))) (.reg false [O1 33 .mv 5, K2 34 (.bin .add) 33 (iV 1), O1 5 .mv 34])))
def x33 : XFn := ⟨54, (.seq (.reg false [O1 2 (.box 46) 0, O1 3 (.box 46) 1, K1 4 .mv (.bool false)]) (.seq (.seq (.reg false [O1 6 (.loadN 3) 2, O1 7 (.call 46) 6, O1 8 (.un .not) 7, O1 9 .mv 8, G1 10 (.loadN 3) 3 9 false, G1 11 (.call 46) 10 9 false, G1 12 (.un .not) 11 9 false, ⟨(some 13), .pick, [(.t 9), (.k (.bool true)), (.t 12)], none⟩, O1 14 .mv 13, G1 15 (.fld 0) 2 14 false, G1 16 .load1 15 14 false, G1 17 (.fld 0) 3 14 false, G1 18 .load1 17 14 false, G2 19 (.bin .neq) 16 18 14 false, ⟨(some 20), .pick, [(.t 14), (.k (.bool true)), (.t 19)], none⟩, O1 21 .mv 20, G1 22 (.fld 1) 2 21 false, G1 23 .load1 22 21 false, G1 24 (.fld 1) 3 21 false, G1 25 .load1 24 21 false, G2 26 (.bin .neq) 23 25 21 false, ⟨(some 27), .pick, [(.t 21), (.k (.bool true)), (.t 26)], none⟩]) (.cond (.t 27) (.seq (.reg false [K1 4 .mv (.bool false)]) .ret) .skip)) (.seq (.seq (.reg false [K1 5 .mv (iV 0)]) (.block 0 (.loop x33L0))) (.seq (.reg false [K1 4 .mv (.bool true)]) .ret)))), [(.s 4)]⟩
theorem x33_ok : xfn Try.prog Try.f33 = some x33.er := by kernel_rfl
/-- wayfinder/plan.Merge -/
def g30 : Con := fun args_ E_ nn_ => match args_ with
  | [.a [.v (.int .i64 a_W), .v (.int .i64 a_H), .n a_Cells], .a [.v (.int .i64 b_W), .v (.int .i64 b_H), .n b_Cells]] => (match rowOf E_ a_Cells with
    | some (a_Cells_n, a_Cells_s, a_Cells_f) => (match rowOf E_ b_Cells with
    | some (b_Cells_n, b_Cells_s, b_Cells_f) => some (.e (isRow eU8 a_Cells_n a_Cells_s a_Cells_f ∧ isRow eU8 b_Cells_n b_Cells_s b_Cells_f ∧ u8s (decL eU8 a_Cells_n a_Cells_f) ∧ u8s (decL eU8 b_Cells_n b_Cells_f)) (.t [.a [.v (.int .i64 (mE (mgE a_W a_H (decL eU8 a_Cells_n a_Cells_f) b_W b_H (decL eU8 b_Cells_n b_Cells_f)) a_W)), .v (.int .i64 (mE (mgE a_W a_H (decL eU8 a_Cells_n a_Cells_f) b_W b_H (decL eU8 b_Cells_n b_Cells_f)) a_H)), .n (nn_ + 0)], .c (.v (.int .i64 (mgE a_W a_H (decL eU8 a_Cells_n a_Cells_f) b_W b_H (decL eU8 b_Cells_n b_Cells_f))))]) [((nn_ + 0), .own (mgL a_W a_H (decL eU8 a_Cells_n a_Cells_f) b_W b_H (decL eU8 b_Cells_n b_Cells_f)).length 1 (rowF eU8 (mgL a_W a_H (decL eU8 a_Cells_n a_Cells_f) b_W b_H (decL eU8 b_Cells_n b_Cells_f))) 5)] (nn_ + 1))
    | none => none)
    | none => none)
  | _ => none
theorem c30 : COk Try.prog 30 g30 := by
  refine cok_e Try.func30 x30_ok (by kernel_rfl) (cok_tab (cok_cons c45 (cok_cons c65 cok_nil))) ?_
  intro args_ E_ nn_ cr_ hg_
  unfold g30 at hg_
  split at hg_
  · rename_i a_W a_H a_Cells b_W b_H b_Cells
    split at hg_
    · rename_i a_Cells_n a_Cells_s a_Cells_f h_a_Cells
      split at hg_
      · rename_i b_Cells_n b_Cells_s b_Cells_f h_b_Cells
        cases hg_
        refine ⟨_, _, _, _, rfl, 2, [a_Cells, b_Cells], [.a [.v (.int .i64 a_W), .v (.int .i64 a_H), .n 0], .a [.v (.int .i64 b_W), .v (.int .i64 b_H), .n 1]], [(0, .ro (decL eU8 a_Cells_n a_Cells_f).length eU8.sz (rowF eU8 (decL eU8 a_Cells_n a_Cells_f))), (1, .ro (decL eU8 b_Cells_n b_Cells_f).length eU8.sz (rowF eU8 (decL eU8 b_Cells_n b_Cells_f)))], .t [.a [.v (.int .i64 (mE (mgE a_W a_H (decL eU8 a_Cells_n a_Cells_f) b_W b_H (decL eU8 b_Cells_n b_Cells_f)) a_W)), .v (.int .i64 (mE (mgE a_W a_H (decL eU8 a_Cells_n a_Cells_f) b_W b_H (decL eU8 b_Cells_n b_Cells_f)) a_H)), .n 2], .c (.v (.int .i64 (mgE a_W a_H (decL eU8 a_Cells_n a_Cells_f) b_W b_H (decL eU8 b_Cells_n b_Cells_f))))], [(2, .own (mgL a_W a_H (decL eU8 a_Cells_n a_Cells_f) b_W b_H (decL eU8 b_Cells_n b_Cells_f)).length 1 (rowF eU8 (mgL a_W a_H (decL eU8 a_Cells_n a_Cells_f) b_W b_H (decL eU8 b_Cells_n b_Cells_f))) 5)], 3, rfl, rfl, by simp only [renE, Ent.ren, rowF_renf] <;> rfl, rfl, by decide, by simp only [push_cast, Nat.reduceLT, Nat.reduceAdd], by simp only [push_cast, Nat.reduceLT, Nat.reduceAdd], by simp only [push_cast, Nat.reduceLT, Nat.reduceAdd], by simp only [push_cast, Nat.reduceLT, Nat.reduceAdd], rfl, ⟨inE0_row h_a_Cells, inE0_row h_b_Cells, trivial⟩, by simp only [keysNodup, outN, keys] <;> decide, rfl, rfl, ?_⟩
        intro hpre hlen
        obtain ⟨i_a_Cells, hpre⟩ := hpre
        obtain ⟨i_b_Cells, hpre⟩ := hpre
        refine ⟨⟨inE_row h_a_Cells i_a_Cells, inE_row h_b_Cells i_b_Cells, trivial⟩, by simp only [apartE] <;> (first | trivial | (simp [Ent.mut]; done)), ?_⟩
        have z_a_Cells := lens_row (E := eU8) hlen h_a_Cells
        have z_b_Cells := lens_row (E := eU8) hlen h_b_Cells
        clear i_a_Cells
        generalize decL eU8 a_Cells_n a_Cells_f = a_CellsL at *
        clear i_b_Cells
        generalize decL eU8 b_Cells_n b_Cells_f = b_CellsL at *
        clear h_a_Cells
        clear h_b_Cells
        simp (config := {maxSteps := 10000000}) only [x30, push_cast, Nat.reduceAdd, Nat.reduceSub, Nat.reduceLeDiff, Nat.reduceEqDiff, Nat.reduceBEq, Nat.reduceMul, Nat.reduceLT, reduceIte, reduceCtorEq, Int.reduceLE, Int.reduceLT, Int.reduceEq, Int.reduceMul, Int.reduceAdd, Int.reduceSub, Int.reduceNeg, Int.reduceToNat, Int.reduceNe, g45, g65]
        refine ⟨fun h => ?_, fun h1 h2 h3 h4 => ?_⟩
        · have e := mgE1 (okM_no h)
          rw [e.1, e.2]
          simp [mE]
        have hok : okM a_W a_H a_CellsL b_W b_H b_CellsL = true := okM_iff.2 ⟨h1, h2, h3, h4⟩
        have hl := okM_len hok
        refine ⟨by omega, ?_⟩
        refine vcLoop_upd (α := {s : Nat // s ≤ b_CellsL.length ∧ ∀ i, i < s → (d8 a_CellsL i = 0 ∨ d8 b_CellsL i = 0 ∨ d8 a_CellsL i = d8 b_CellsL i)}) [2, 4, 36, 37] 0 (fun s => [(38, .o (.c (.v (.int .i64 (s.1 : Nat)))))]) (fun s => [(5, .own (mixS a_CellsL b_CellsL s.1).length 1 (rowF eU8 (mixS a_CellsL b_CellsL s.1)) 5)]) (fun s => b_CellsL.length - s.1) ⟨0, by omega, fun i hi => by omega⟩ ?_ ?_
        · simp only [push_cast, Nat.reduceAdd, Nat.reduceSub, Nat.reduceLeDiff, Nat.reduceEqDiff, Nat.reduceBEq, Nat.reduceMul, Nat.reduceLT, reduceIte, reduceCtorEq, Int.reduceLE, Int.reduceLT, Int.reduceEq, Int.reduceMul, Int.reduceAdd, Int.reduceSub, Int.reduceNeg, Int.reduceToNat, Int.reduceNe, g45, g65]
          rw [mixS_zero]
          exact same_eq rfl
        · rintro ⟨k, hk, hall⟩
          simp only [x30L0, push_cast, Nat.reduceAdd, Nat.reduceSub, Nat.reduceLeDiff, Nat.reduceEqDiff, Nat.reduceBEq, Nat.reduceMul, Nat.reduceLT, reduceIte, reduceCtorEq, Int.reduceLE, Int.reduceLT, Int.reduceEq, Int.reduceMul, Int.reduceAdd, Int.reduceSub, Int.reduceNeg, Int.reduceToNat, Int.reduceNe, g45, g65]
          have zl := mixS_len a_CellsL b_CellsL k
          refine ⟨fun hlt => ?_, fun hge => ?_⟩
          · have e1 : (mixS a_CellsL b_CellsL k).getD k eU8.dflt = d8 a_CellsL k := (mixS_at (by omega)).trans (if_neg (by omega))
            have ua : 0 ≤ d8 a_CellsL k ∧ d8 a_CellsL k ≤ 255 := u8_at hpre.1 (by omega)
            have ub : 0 ≤ d8 b_CellsL k ∧ d8 b_CellsL k ≤ 255 := u8_at hpre.2 (by omega)
            rw [e1]
            change _ ∧ _ ∧ (¬ d8 b_CellsL k = 0 → _) ∧ (¬ d8 b_CellsL k = 0 → _) ∧ (d8 b_CellsL k = 0 ∨ d8 a_CellsL k = d8 b_CellsL k → _) ∧ (¬ d8 b_CellsL k = 0 → ¬ d8 a_CellsL k = d8 b_CellsL k → _)
            refine ⟨hlt, hlt, fun g => ⟨g, by omega⟩, fun g => ⟨g, by omega⟩, fun g => ⟨⟨k + 1, by omega, fun i hi => ?_⟩, ⟨wrapI (by omega) (by omega), same_eq (mixS_keep (L := a_CellsL) (M := b_CellsL) (s := k) (by omega))⟩, by simp only; omega⟩, fun g1 g2 => ⟨by omega, by omega, fun g3 => ⟨by omega, by omega, ⟨k + 1, by omega, fun i hi => ?_⟩, ⟨wrapI (by omega) (by omega), by simp only [mixS_len], ?_⟩, by simp only; omega⟩, fun g3 => ?_⟩⟩
            · by_cases e : i = k
              · subst e; omega
              · exact hall i (by omega)
            · by_cases e : i = k
              · subst e; omega
              · exact hall i (by omega)
            · simp only
              rw [mixS_set (v := d8 b_CellsL k) (by omega) (by omega)]
              intro e j _ _
              rw [rowF_sub]
              exact congrFun (congrFun (upd8 (by omega)) e) j
            · have e := mgE11 hok (clash_iff.2 ⟨k, by omega, g3, g1, g2⟩)
              rw [e.1, e.2]
              simp [mE]
          · have e := mgE0 hok (clash_no.2 fun i hi => hall i (by omega))
            rw [e.1, e.2]
            refine ⟨by simp [mE], same_eq (mixS_all (by omega)).symm⟩
      · cases hg_
    · cases hg_
  · cases hg_
/-- wayfinder/plan.Below -/
def g32 : Con := fun args_ E_ nn_ => match args_ with
  | [.a [.v (.int .i64 a_W), .v (.int .i64 a_H), .n a_Cells], .a [.v (.int .i64 b_W), .v (.int .i64 b_H), .n b_Cells]] => (match rowOf E_ a_Cells with
    | some (a_Cells_n, a_Cells_s, a_Cells_f) => (match rowOf E_ b_Cells with
    | some (b_Cells_n, b_Cells_s, b_Cells_f) => some (.q (isRow eU8 a_Cells_n a_Cells_s a_Cells_f ∧ isRow eU8 b_Cells_n b_Cells_s b_Cells_f ∧ True) (.o (.c (.v (.bool (blB a_W a_H (decL eU8 a_Cells_n a_Cells_f) b_W b_H (decL eU8 b_Cells_n b_Cells_f)))))))
    | none => none)
    | none => none)
  | _ => none
theorem c32 : COk Try.prog 32 g32 := by
  refine cok_q Try.func32 x32_ok (by kernel_rfl) (cok_tab (cok_cons c45 cok_nil)) ?_
  intro args_ E_ nn_ cr_ hg_
  unfold g32 at hg_
  split at hg_
  · rename_i a_W a_H a_Cells b_W b_H b_Cells
    split at hg_
    · rename_i a_Cells_n a_Cells_s a_Cells_f h_a_Cells
      split at hg_
      · rename_i b_Cells_n b_Cells_s b_Cells_f h_b_Cells
        cases hg_
        refine ⟨_, _, rfl, 2, [a_Cells, b_Cells], [.a [.v (.int .i64 a_W), .v (.int .i64 a_H), .n 0], .a [.v (.int .i64 b_W), .v (.int .i64 b_H), .n 1]], [(0, .ro (decL eU8 a_Cells_n a_Cells_f).length eU8.sz (rowF eU8 (decL eU8 a_Cells_n a_Cells_f))), (1, .ro (decL eU8 b_Cells_n b_Cells_f).length eU8.sz (rowF eU8 (decL eU8 b_Cells_n b_Cells_f)))], .o (.c (.v (.bool (blB a_W a_H (decL eU8 a_Cells_n a_Cells_f) b_W b_H (decL eU8 b_Cells_n b_Cells_f))))), rfl, rfl, by simp only [push_cast, Nat.reduceLT, Nat.reduceAdd], by simp only [push_cast, Nat.reduceLT, Nat.reduceAdd], by simp only [push_cast, Nat.reduceLT, Nat.reduceAdd], rfl, ⟨inE0_row h_a_Cells, inE0_row h_b_Cells, trivial⟩, rfl, ?_⟩
        intro hpre hlen
        obtain ⟨i_a_Cells, hpre⟩ := hpre
        obtain ⟨i_b_Cells, hpre⟩ := hpre
        refine ⟨⟨inE_row h_a_Cells i_a_Cells, inE_row h_b_Cells i_b_Cells, trivial⟩, ?_⟩
        have z_a_Cells := lens_row (E := eU8) hlen h_a_Cells
        have z_b_Cells := lens_row (E := eU8) hlen h_b_Cells
        clear i_a_Cells
        generalize decL eU8 a_Cells_n a_Cells_f = a_CellsL at *
        clear i_b_Cells
        generalize decL eU8 b_Cells_n b_Cells_f = b_CellsL at *
        clear h_a_Cells
        clear h_b_Cells
        simp (config := {maxSteps := 10000000}) only [x32, push_cast, Nat.reduceAdd, Nat.reduceSub, Nat.reduceLeDiff, Nat.reduceEqDiff, Nat.reduceBEq, Nat.reduceMul, Nat.reduceLT, reduceIte, reduceCtorEq, Int.reduceLE, Int.reduceLT, Int.reduceEq, Int.reduceMul, Int.reduceAdd, Int.reduceSub, Int.reduceNeg, Int.reduceToNat, Int.reduceNe, g45]
        refine ⟨fun h => ?_, fun h1 h2 h3 h4 => ?_⟩
        · unfold blB
          rw [okM_no h]
          rfl
        have hok : okM a_W a_H a_CellsL b_W b_H b_CellsL = true := okM_iff.2 ⟨h1, h2, h3, h4⟩
        have hl := okM_len hok
        unfold blB
        rw [hok, Bool.true_and]
        refine vcLoop_upd (α := {s : Nat // s ≤ a_CellsL.length ∧ ∀ i, i < s → (d8 a_CellsL i = 0 ∨ d8 a_CellsL i = d8 b_CellsL i)}) [3, 30, 31] 0 (fun s => [(32, .o (.c (.v (.int .i64 (s.1 : Nat)))))]) (fun s => []) (fun s => a_CellsL.length - s.1) ⟨0, by omega, fun i hi => by omega⟩ ?_ ?_
        · simp only [push_cast, Nat.reduceAdd, Nat.reduceSub, Nat.reduceLeDiff, Nat.reduceEqDiff, Nat.reduceBEq, Nat.reduceMul, Nat.reduceLT, reduceIte, reduceCtorEq, Int.reduceLE, Int.reduceLT, Int.reduceEq, Int.reduceMul, Int.reduceAdd, Int.reduceSub, Int.reduceNeg, Int.reduceToNat, Int.reduceNe, g45]
        · rintro ⟨k, hk, hall⟩
          simp only [x32L0, push_cast, Nat.reduceAdd, Nat.reduceSub, Nat.reduceLeDiff, Nat.reduceEqDiff, Nat.reduceBEq, Nat.reduceMul, Nat.reduceLT, reduceIte, reduceCtorEq, Int.reduceLE, Int.reduceLT, Int.reduceEq, Int.reduceMul, Int.reduceAdd, Int.reduceSub, Int.reduceNeg, Int.reduceToNat, Int.reduceNe, g45]
          refine ⟨fun h => ⟨h, h, fun g => ⟨g, by omega⟩, fun g => ⟨g, by omega⟩, fun g g2 => (bel_no h g g2).symm, fun g => ⟨⟨k + 1, by omega, fun i hi => ?_⟩, wrapI (by omega) (by omega), by simp only; omega⟩⟩, fun h => (bel_iff.2 fun i hi => hall i (by omega)).symm⟩
          by_cases e : i = k
          · subst e
            simp only [Bool.and_eq_false_iff, bne_eq_false_iff_eq] at g
            exact g.imp id fun e => e.symm
          · exact hall i (by omega)
      · cases hg_
    · cases hg_
  · cases hg_
/-- wayfinder/wayfinderref08.Below -/
def g33 : Con := fun args_ E_ nn_ => match args_ with
  | [.a [.v (.int .i64 a_W), .v (.int .i64 a_H), .n a_Cells], .a [.v (.int .i64 b_W), .v (.int .i64 b_H), .n b_Cells]] => (match rowOf E_ a_Cells with
    | some (a_Cells_n, a_Cells_s, a_Cells_f) => (match rowOf E_ b_Cells with
    | some (b_Cells_n, b_Cells_s, b_Cells_f) => some (.q (isRow eU8 a_Cells_n a_Cells_s a_Cells_f ∧ isRow eU8 b_Cells_n b_Cells_s b_Cells_f ∧ True) (.o (.c (.v (.bool (blB a_W a_H (decL eU8 a_Cells_n a_Cells_f) b_W b_H (decL eU8 b_Cells_n b_Cells_f)))))))
    | none => none)
    | none => none)
  | _ => none
theorem c33 : COk Try.prog 33 g33 := by
  refine cok_q Try.func33 x33_ok (by kernel_rfl) (cok_tab (cok_cons c46 cok_nil)) ?_
  intro args_ E_ nn_ cr_ hg_
  unfold g33 at hg_
  split at hg_
  · rename_i a_W a_H a_Cells b_W b_H b_Cells
    split at hg_
    · rename_i a_Cells_n a_Cells_s a_Cells_f h_a_Cells
      split at hg_
      · rename_i b_Cells_n b_Cells_s b_Cells_f h_b_Cells
        cases hg_
        refine ⟨_, _, rfl, 2, [a_Cells, b_Cells], [.a [.v (.int .i64 a_W), .v (.int .i64 a_H), .n 0], .a [.v (.int .i64 b_W), .v (.int .i64 b_H), .n 1]], [(0, .ro (decL eU8 a_Cells_n a_Cells_f).length eU8.sz (rowF eU8 (decL eU8 a_Cells_n a_Cells_f))), (1, .ro (decL eU8 b_Cells_n b_Cells_f).length eU8.sz (rowF eU8 (decL eU8 b_Cells_n b_Cells_f)))], .o (.c (.v (.bool (blB a_W a_H (decL eU8 a_Cells_n a_Cells_f) b_W b_H (decL eU8 b_Cells_n b_Cells_f))))), rfl, rfl, by simp only [push_cast, Nat.reduceLT, Nat.reduceAdd], by simp only [push_cast, Nat.reduceLT, Nat.reduceAdd], by simp only [push_cast, Nat.reduceLT, Nat.reduceAdd], rfl, ⟨inE0_row h_a_Cells, inE0_row h_b_Cells, trivial⟩, rfl, ?_⟩
        intro hpre hlen
        obtain ⟨i_a_Cells, hpre⟩ := hpre
        obtain ⟨i_b_Cells, hpre⟩ := hpre
        refine ⟨⟨inE_row h_a_Cells i_a_Cells, inE_row h_b_Cells i_b_Cells, trivial⟩, ?_⟩
        have z_a_Cells := lens_row (E := eU8) hlen h_a_Cells
        have z_b_Cells := lens_row (E := eU8) hlen h_b_Cells
        clear i_a_Cells
        generalize decL eU8 a_Cells_n a_Cells_f = a_CellsL at *
        clear i_b_Cells
        generalize decL eU8 b_Cells_n b_Cells_f = b_CellsL at *
        clear h_a_Cells
        clear h_b_Cells
        simp (config := {maxSteps := 10000000}) only [x33, push_cast, Nat.reduceAdd, Nat.reduceSub, Nat.reduceLeDiff, Nat.reduceEqDiff, Nat.reduceBEq, Nat.reduceMul, Nat.reduceLT, reduceIte, reduceCtorEq, Int.reduceLE, Int.reduceLT, Int.reduceEq, Int.reduceMul, Int.reduceAdd, Int.reduceSub, Int.reduceNeg, Int.reduceToNat, Int.reduceNe, g46]
        refine ⟨fun h => ?_, fun h1 h2 h3 h4 => ?_⟩
        · unfold blB
          rw [okM_no h]
          rfl
        have hok : okM a_W a_H a_CellsL b_W b_H b_CellsL = true := okM_iff.2 ⟨h1, h2, h3, h4⟩
        have hl := okM_len hok
        unfold blB
        rw [hok, Bool.true_and]
        refine vcLoop_upd (α := {s : Nat // s ≤ a_CellsL.length ∧ ∀ i, i < s → (d8 a_CellsL i = 0 ∨ d8 a_CellsL i = d8 b_CellsL i)}) [2, 3] 0 (fun s => [(5, .o (.c (.v (.int .i64 (s.1 : Nat)))))]) (fun s => []) (fun s => a_CellsL.length - s.1) ⟨0, by omega, fun i hi => by omega⟩ ?_ ?_
        · simp only [push_cast, Nat.reduceAdd, Nat.reduceSub, Nat.reduceLeDiff, Nat.reduceEqDiff, Nat.reduceBEq, Nat.reduceMul, Nat.reduceLT, reduceIte, reduceCtorEq, Int.reduceLE, Int.reduceLT, Int.reduceEq, Int.reduceMul, Int.reduceAdd, Int.reduceSub, Int.reduceNeg, Int.reduceToNat, Int.reduceNe, g46]
        · rintro ⟨k, hk, hall⟩
          simp only [x33L0, push_cast, Nat.reduceAdd, Nat.reduceSub, Nat.reduceLeDiff, Nat.reduceEqDiff, Nat.reduceBEq, Nat.reduceMul, Nat.reduceLT, reduceIte, reduceCtorEq, Int.reduceLE, Int.reduceLT, Int.reduceEq, Int.reduceMul, Int.reduceAdd, Int.reduceSub, Int.reduceNeg, Int.reduceToNat, Int.reduceNe, g46]
          refine ⟨fun h => ⟨h, h, fun g => ⟨g, h⟩, fun g => ⟨g, h⟩, fun g => ⟨g, by omega⟩, fun g => ⟨g, by omega⟩, fun g g2 => (bel_no h g fun e => g2 e.symm).symm, fun g => ⟨⟨k + 1, by omega, fun i hi => ?_⟩, wrapI (by omega) (by omega), by simp only; omega⟩⟩, fun h => (bel_iff.2 fun i hi => hall i (by omega)).symm⟩
          by_cases e : i = k
          · subst e
            simp only [Bool.and_eq_false_iff, bne_eq_false_iff_eq] at g
            exact g
          · exact hall i (by omega)
      · cases hg_
    · cases hg_
  · cases hg_
/-- wayfinder/wayfinderref08.Merge -/
def g31 : Con := fun args_ E_ nn_ => match args_ with
  | [.a [.v (.int .i64 a_W), .v (.int .i64 a_H), .n a_Cells], .a [.v (.int .i64 b_W), .v (.int .i64 b_H), .n b_Cells]] => (match rowOf E_ a_Cells with
    | some (a_Cells_n, a_Cells_s, a_Cells_f) => (match rowOf E_ b_Cells with
    | some (b_Cells_n, b_Cells_s, b_Cells_f) => some (.e (isRow eU8 a_Cells_n a_Cells_s a_Cells_f ∧ isRow eU8 b_Cells_n b_Cells_s b_Cells_f ∧ u8s (decL eU8 a_Cells_n a_Cells_f) ∧ u8s (decL eU8 b_Cells_n b_Cells_f)) (.t [.a [.v (.int .i64 (mE (mgE a_W a_H (decL eU8 a_Cells_n a_Cells_f) b_W b_H (decL eU8 b_Cells_n b_Cells_f)) a_W)), .v (.int .i64 (mE (mgE a_W a_H (decL eU8 a_Cells_n a_Cells_f) b_W b_H (decL eU8 b_Cells_n b_Cells_f)) a_H)), .n (nn_ + 0)], .c (.v (.int .i64 (mgE a_W a_H (decL eU8 a_Cells_n a_Cells_f) b_W b_H (decL eU8 b_Cells_n b_Cells_f))))]) [((nn_ + 0), .own (mgL a_W a_H (decL eU8 a_Cells_n a_Cells_f) b_W b_H (decL eU8 b_Cells_n b_Cells_f)).length 1 (rowF eU8 (mgL a_W a_H (decL eU8 a_Cells_n a_Cells_f) b_W b_H (decL eU8 b_Cells_n b_Cells_f))) 5)] (nn_ + 1))
    | none => none)
    | none => none)
  | _ => none
theorem c31 : COk Try.prog 31 g31 := by
  refine cok_e Try.func31 x31_ok (by kernel_rfl) (cok_tab (cok_cons c46 cok_nil)) ?_
  intro args_ E_ nn_ cr_ hg_
  unfold g31 at hg_
  split at hg_
  · rename_i a_W a_H a_Cells b_W b_H b_Cells
    split at hg_
    · rename_i a_Cells_n a_Cells_s a_Cells_f h_a_Cells
      split at hg_
      · rename_i b_Cells_n b_Cells_s b_Cells_f h_b_Cells
        cases hg_
        refine ⟨_, _, _, _, rfl, 2, [a_Cells, b_Cells], [.a [.v (.int .i64 a_W), .v (.int .i64 a_H), .n 0], .a [.v (.int .i64 b_W), .v (.int .i64 b_H), .n 1]], [(0, .ro (decL eU8 a_Cells_n a_Cells_f).length eU8.sz (rowF eU8 (decL eU8 a_Cells_n a_Cells_f))), (1, .ro (decL eU8 b_Cells_n b_Cells_f).length eU8.sz (rowF eU8 (decL eU8 b_Cells_n b_Cells_f)))], .t [.a [.v (.int .i64 (mE (mgE a_W a_H (decL eU8 a_Cells_n a_Cells_f) b_W b_H (decL eU8 b_Cells_n b_Cells_f)) a_W)), .v (.int .i64 (mE (mgE a_W a_H (decL eU8 a_Cells_n a_Cells_f) b_W b_H (decL eU8 b_Cells_n b_Cells_f)) a_H)), .n 2], .c (.v (.int .i64 (mgE a_W a_H (decL eU8 a_Cells_n a_Cells_f) b_W b_H (decL eU8 b_Cells_n b_Cells_f))))], [(2, .own (mgL a_W a_H (decL eU8 a_Cells_n a_Cells_f) b_W b_H (decL eU8 b_Cells_n b_Cells_f)).length 1 (rowF eU8 (mgL a_W a_H (decL eU8 a_Cells_n a_Cells_f) b_W b_H (decL eU8 b_Cells_n b_Cells_f))) 5)], 3, rfl, rfl, by simp only [renE, Ent.ren, rowF_renf] <;> rfl, rfl, by decide, by simp only [push_cast, Nat.reduceLT, Nat.reduceAdd], by simp only [push_cast, Nat.reduceLT, Nat.reduceAdd], by simp only [push_cast, Nat.reduceLT, Nat.reduceAdd], by simp only [push_cast, Nat.reduceLT, Nat.reduceAdd], rfl, ⟨inE0_row h_a_Cells, inE0_row h_b_Cells, trivial⟩, by simp only [keysNodup, outN, keys] <;> decide, rfl, rfl, ?_⟩
        intro hpre hlen
        obtain ⟨i_a_Cells, hpre⟩ := hpre
        obtain ⟨i_b_Cells, hpre⟩ := hpre
        refine ⟨⟨inE_row h_a_Cells i_a_Cells, inE_row h_b_Cells i_b_Cells, trivial⟩, by simp only [apartE] <;> (first | trivial | (simp [Ent.mut]; done)), ?_⟩
        have z_a_Cells := lens_row (E := eU8) hlen h_a_Cells
        have z_b_Cells := lens_row (E := eU8) hlen h_b_Cells
        clear i_a_Cells
        generalize decL eU8 a_Cells_n a_Cells_f = a_CellsL at *
        clear i_b_Cells
        generalize decL eU8 b_Cells_n b_Cells_f = b_CellsL at *
        clear h_a_Cells
        clear h_b_Cells
        simp (config := {maxSteps := 10000000}) only [x31, push_cast, Nat.reduceAdd, Nat.reduceSub, Nat.reduceLeDiff, Nat.reduceEqDiff, Nat.reduceBEq, Nat.reduceMul, Nat.reduceLT, reduceIte, reduceCtorEq, Int.reduceLE, Int.reduceLT, Int.reduceEq, Int.reduceMul, Int.reduceAdd, Int.reduceSub, Int.reduceNeg, Int.reduceToNat, Int.reduceNe, g46]
        refine ⟨fun h => ?_, fun h1 h2 h3 h4 => ?_⟩
        · have e := mgE1 (okM_no h)
          rw [e.1, e.2]
          simp [mE]
        have hok : okM a_W a_H a_CellsL b_W b_H b_CellsL = true := okM_iff.2 ⟨h1, h2, h3, h4⟩
        have hl := okM_len hok
        refine vcLoop_upd (α := {s : Nat // s ≤ a_CellsL.length ∧ ∀ i, i < s → (d8 a_CellsL i = 0 ∨ d8 b_CellsL i = 0 ∨ d8 a_CellsL i = d8 b_CellsL i)}) [2, 3, 4, 6] 1 (fun s => [(7, .o (.c (.v (.int .i64 (s.1 : Nat)))))]) (fun s => [(5, .box [.v (.int .i64 a_W), .v (.int .i64 a_H), .n 6] 46), (6, .own (mixK a_CellsL b_CellsL s.1).length 1 (rowF eU8 (mixK a_CellsL b_CellsL s.1)) 5)]) (fun s => a_CellsL.length - s.1) ⟨0, by omega, fun i hi => by omega⟩ ?_ ?_
        · simp only [push_cast, Nat.reduceAdd, Nat.reduceSub, Nat.reduceLeDiff, Nat.reduceEqDiff, Nat.reduceBEq, Nat.reduceMul, Nat.reduceLT, reduceIte, reduceCtorEq, Int.reduceLE, Int.reduceLT, Int.reduceEq, Int.reduceMul, Int.reduceAdd, Int.reduceSub, Int.reduceNeg, Int.reduceToNat, Int.reduceNe, g46]
          rfl
        · rintro ⟨k, hk, hall⟩
          simp only [x31L0, push_cast, Nat.reduceAdd, Nat.reduceSub, Nat.reduceLeDiff, Nat.reduceEqDiff, Nat.reduceBEq, Nat.reduceMul, Nat.reduceLT, reduceIte, reduceCtorEq, Int.reduceLE, Int.reduceLT, Int.reduceEq, Int.reduceMul, Int.reduceAdd, Int.reduceSub, Int.reduceNeg, Int.reduceToNat, Int.reduceNe, g46]
          have zk := mixK_len a_CellsL b_CellsL k
          refine ⟨fun hlt => ?_, fun hge => ?_⟩
          · change _ ∧ _ ∧ _ ∧ _ ∧ (¬ d8 a_CellsL k = d8 b_CellsL k → ¬ d8 a_CellsL k = 0 → ¬ d8 b_CellsL k = 0 → _) ∧ ((d8 a_CellsL k != d8 b_CellsL k && d8 a_CellsL k != 0 && d8 b_CellsL k != 0) = false → _)
            refine ⟨hlt, hlt, by omega, by omega, fun g1 g2 g3 => ?_, fun g => ⟨by omega, ⟨k + 1, by omega, fun i hi => ?_⟩, ⟨wrapI (by omega) (by omega), push_eq (E := eU8) (x := max (d8 a_CellsL k) (d8 b_CellsL k)) (mixK_succ _ _ _)⟩, by simp only; omega⟩⟩
            · have e := mgE11 hok (clash_iff.2 ⟨k, by omega, g2, g3, g1⟩)
              rw [e.1, e.2]
              simp [mE]
            · by_cases e : i = k
              · subst e
                simp only [Bool.and_eq_false_iff, bne_eq_false_iff_eq] at g
                omega
              · exact hall i (by omega)
          · have e := mgE0 hok (clash_no.2 fun i hi => hall i (by omega))
            rw [e.1, e.2]
            obtain rfl : k = a_CellsL.length := by omega
            refine ⟨by simp [mE], same_eq (mixK_all _ _).symm⟩
      · cases hg_
    · cases hg_
  · cases hg_
end Go.Proofs.Ytbjgaejmkhjbaaa
set_option linter.unusedVariables false
set_option linter.unusedSimpArgs false
set_option maxRecDepth 20000
namespace Go.Proofs.Ytbjgaejmkhjbaaa
open Go.Sx
/-! ### The laws of plans together -/
theorem mixL_comm {L M : List Int} (h : L.length = M.length) : mixL L M = mixL M L := list8_ext (by rw [mixL_len, mixL_len, h]) fun i hi => by
  rw [mixL_len] at hi
  rw [mixL_at hi, mixL_at (by omega)]
  omega
theorem clash_comm {L M : List Int} (h : L.length = M.length) : clashB L M = clashB M L := by
  rw [Bool.eq_iff_iff, clash_iff, clash_iff]
  constructor
  · rintro ⟨i, h1, h2, h3, h4⟩; exact ⟨i, by omega, h3, h2, fun e => h4 e.symm⟩
  · rintro ⟨i, h1, h2, h3, h4⟩; exact ⟨i, by omega, h3, h2, fun e => h4 e.symm⟩
theorem okM_comm {W H : Int} {L : List Int} {W2 H2 : Int} {M : List Int} : okM W H L W2 H2 M = okM W2 H2 M W H L := by
  rw [Bool.eq_iff_iff, okM_iff, okM_iff]
  constructor
  · rintro ⟨h1, h2, h3, h4⟩; exact ⟨h2, h1, h3.symm, h4.symm⟩
  · rintro ⟨h1, h2, h3, h4⟩; exact ⟨h2, h1, h3.symm, h4.symm⟩
theorem mg_comm (W H : Int) (L : List Int) (W2 H2 : Int) (M : List Int) : mgE W2 H2 M W H L = mgE W H L W2 H2 M ∧ mgL W2 H2 M W H L = mgL W H L W2 H2 M ∧ mE (mgE W2 H2 M W H L) W2 = mE (mgE W H L W2 H2 M) W ∧ mE (mgE W2 H2 M W H L) H2 = mE (mgE W H L W2 H2 M) H := by
  have e : mgE W2 H2 M W H L = mgE W H L W2 H2 M := by
    unfold mgE
    rw [okM_comm]
    cases h : okM W H L W2 H2 M
    · rfl
    · rw [clash_comm (okM_len h).1]
  have k : mgE W H L W2 H2 M = 0 → okM W H L W2 H2 M = true := by
    intro h
    cases h2 : okM W H L W2 H2 M
    · rw [(mgE1 h2).1] at h; cases h
    · rfl
  refine ⟨e, ?_, ?_, ?_⟩
  · unfold mgL
    rw [e]
    split
    · rename_i h; rw [mixL_comm (okM_len (k h)).1]
    · rfl
  · rw [e]; unfold mE
    split
    · rename_i h; exact (okM_iff.1 (k h)).2.2.1.symm
    · rfl
  · rw [e]; unfold mE
    split
    · rename_i h; exact (okM_iff.1 (k h)).2.2.2.symm
    · rfl
theorem mgL_u8 {W H : Int} {L : List Int} {W2 H2 : Int} {M : List Int} (h1 : u8s L) (h2 : u8s M) : u8s (mgL W H L W2 H2 M) := by
  cases h : okM W H L W2 H2 M
  · rw [(mgE1 h).2]; intro x hx; cases hx
  · cases hc : clashB L M
    · rw [(mgE0 h hc).2]
      have hl := okM_len h
      refine (getD_all (p := fun x => 0 ≤ x ∧ x ≤ 255) eU8.dflt).1 fun i hi => ?_
      rw [mixL_len] at hi
      have e := mixL_at (L := L) (M := M) hi
      have a : 0 ≤ d8 L i ∧ d8 L i ≤ 255 := u8_at h1 hi
      have b : 0 ≤ d8 M i ∧ d8 M i ≤ 255 := u8_at h2 (by omega)
      change 0 ≤ d8 (mixL L M) i ∧ d8 (mixL L M) i ≤ 255
      omega
    · rw [(mgE11 h hc).2]; intro x hx; cases hx
theorem planB_mix {W H : Int} {L M : List Int} (h : planB W H L = true) (h2 : planB W H M = true) : planB W H (mixL L M) = true := by
  have a := planB_at h
  have b := planB_at h2
  refine planB_yes a.1 a.2.1 (by rw [mixL_len]; exact a.2.2.1) fun i hi => ?_
  rw [mixL_len] at hi
  have e := mixL_at (L := L) (M := M) hi
  have a4 : d8 L i ≤ 2 := a.2.2.2.2 i hi
  have b4 : d8 M i ≤ 2 := b.2.2.2.2 i (by omega)
  change d8 (mixL L M) i ≤ 2
  omega
theorem mg_ok {W H : Int} {L : List Int} {W2 H2 : Int} {M : List Int} (h : mgE W H L W2 H2 M = 0) : okM W H L W2 H2 M = true ∧ clashB L M = false ∧ mgL W H L W2 H2 M = mixL L M := by
  cases h1 : okM W H L W2 H2 M
  · rw [(mgE1 h1).1] at h; cases h
  · cases h2 : clashB L M
    · exact ⟨rfl, rfl, (mgE0 h1 h2).2⟩
    · rw [(mgE11 h1 h2).1] at h; cases h
theorem mgL_no {W H : Int} {L : List Int} {W2 H2 : Int} {M : List Int} (h : mgE W H L W2 H2 M ≠ 0) : mgL W H L W2 H2 M = [] := if_neg h
theorem bl_iff {W H : Int} {L : List Int} {W2 H2 : Int} {M : List Int} : blB W H L W2 H2 M = true ↔ okM W H L W2 H2 M = true ∧ ∀ i, i < L.length → (d8 L i = 0 ∨ d8 L i = d8 M i) := by
  unfold blB
  rw [Bool.and_eq_true, bel_iff]
/-- What stands below a third plan can be merged. -/
theorem least_no {aW aH bW bH cW cH : Int} {a b c : List Int} (h : mgE aW aH a bW bH b ≠ 0) : blB aW aH a cW cH c = false ∨ blB bW bH b cW cH c = false := by
  rcases Classical.em (blB aW aH a cW cH c = true ∧ blB bW bH b cW cH c = true) with ⟨h1, h2⟩ | h1
  · exfalso
    rw [bl_iff] at h1 h2
    obtain ⟨k1, b1⟩ := h1
    obtain ⟨k2, b2⟩ := h2
    have l1 := okM_len k1
    have l2 := okM_len k2
    rw [okM_iff] at k1 k2
    obtain ⟨p1, p2, rfl, rfl⟩ := k1
    obtain ⟨q1, q2, rfl, rfl⟩ := k2
    have ok : okM bW bH a bW bH b = true := okM_iff.2 ⟨p1, q1, rfl, rfl⟩
    refine h (mgE0 ok (clash_no.2 fun i hi => ?_)).1
    have := b1 i hi
    have := b2 i (by omega)
    omega
  · cases h3 : blB aW aH a cW cH c
    · exact .inl rfl
    · cases h4 : blB bW bH b cW cH c
      · exact .inr rfl
      · exact absurd ⟨h3, h4⟩ h1
/-- A merge is the least plan that both are below. -/
theorem least_yes {aW aH bW bH : Int} {a b : List Int} (ua : u8s a) (ub : u8s b) (h : mgE aW aH a bW bH b = 0) :
    blB aW aH a aW aH (mgL aW aH a bW bH b) = true ∧ blB bW bH b aW aH (mgL aW aH a bW bH b) = true ∧ blB aW aH (mgL aW aH a bW bH b) aW aH (mgL aW aH a bW bH b) = true ∧
    ∀ {cW cH : Int} {c : List Int}, blB aW aH a cW cH c = true → blB bW bH b cW cH c = true → blB aW aH (mgL aW aH a bW bH b) cW cH c = true := by
  obtain ⟨k, hc, e⟩ := mg_ok h
  have hl := okM_len k
  rw [e]
  rw [okM_iff] at k
  obtain ⟨p1, p2, rfl, rfl⟩ := k
  have pm := planB_mix p1 p2
  rw [clash_no] at hc
  have m : ∀ i, i < a.length → 0 ≤ d8 a i ∧ 0 ≤ d8 b i ∧ d8 (mixL a b) i = max (d8 a i) (d8 b i) ∧ (d8 a i = 0 ∨ d8 b i = 0 ∨ d8 a i = d8 b i) := fun i hi =>
    ⟨(u8_at ua hi).1, (u8_at ub (by omega)).1, mixL_at hi, hc i hi⟩
  refine ⟨bl_iff.2 ⟨okM_iff.2 ⟨p1, pm, rfl, rfl⟩, fun i hi => ?_⟩, bl_iff.2 ⟨okM_iff.2 ⟨p2, pm, rfl, rfl⟩, fun i hi => ?_⟩, bl_iff.2 ⟨okM_iff.2 ⟨pm, pm, rfl, rfl⟩, fun i hi => .inr rfl⟩, ?_⟩
  · have := m i hi; omega
  · have := m i (by omega); omega
  · intro cW cH c h1 h2
    rw [bl_iff] at h1 h2 ⊢
    obtain ⟨k1, b1⟩ := h1
    obtain ⟨k2, b2⟩ := h2
    rw [okM_iff] at k1
    refine ⟨okM_iff.2 ⟨pm, k1.2⟩, fun i hi => ?_⟩
    rw [mixL_len] at hi
    have := m i hi
    have := b1 i hi
    have := b2 i (by omega)
    omega
/-- Merging does not depend on the grouping. -/
theorem mg_assoc {aW aH bW bH cW cH : Int} {a b c : List Int} (ua : u8s a) (ub : u8s b) (uc : u8s c) (h : mgE aW aH a bW bH b = 0) (h2 : mgE bW bH b cW cH c = 0) :
    mgE aW aH (mgL aW aH a bW bH b) cW cH c = mgE aW aH a bW bH (mgL bW bH b cW cH c) ∧ mgL aW aH (mgL aW aH a bW bH b) cW cH c = mgL aW aH a bW bH (mgL bW bH b cW cH c) ∧ aW = bW ∧ aH = bH := by
  obtain ⟨k, hc, e⟩ := mg_ok h
  obtain ⟨k2, hc2, e2⟩ := mg_ok h2
  have hl := okM_len k
  have hl2 := okM_len k2
  rw [e, e2]
  rw [okM_iff] at k k2
  obtain ⟨p1, p2, rfl, rfl⟩ := k
  obtain ⟨q1, q2, rfl, rfl⟩ := k2
  have o1 : okM aW aH (mixL a b) aW aH c = true := okM_iff.2 ⟨planB_mix p1 p2, q2, rfl, rfl⟩
  have o2 : okM aW aH a aW aH (mixL b c) = true := okM_iff.2 ⟨p1, planB_mix q1 q2, rfl, rfl⟩
  rw [clash_no] at hc hc2
  have m : ∀ i, i < a.length → (0 ≤ d8 a i ∧ 0 ≤ d8 b i ∧ 0 ≤ d8 c i) ∧ (d8 (mixL a b) i = max (d8 a i) (d8 b i) ∧ d8 (mixL b c) i = max (d8 b i) (d8 c i)) ∧ (d8 a i = 0 ∨ d8 b i = 0 ∨ d8 a i = d8 b i) ∧ (d8 b i = 0 ∨ d8 c i = 0 ∨ d8 b i = d8 c i) := fun i hi =>
    ⟨⟨(u8_at ua hi).1, (u8_at ub (by omega)).1, (u8_at uc (by omega)).1⟩, ⟨mixL_at hi, mixL_at (by omega)⟩, hc i hi, hc2 i (by omega)⟩
  have cl : clashB (mixL a b) c = clashB a (mixL b c) := by
    rw [Bool.eq_iff_iff, clash_iff, clash_iff, mixL_len]
    constructor
    · rintro ⟨i, hi, g1, g2, g3⟩
      have := m i hi
      exact ⟨i, hi, by omega, by omega, by omega⟩
    · rintro ⟨i, hi, g1, g2, g3⟩
      have := m i hi
      exact ⟨i, hi, by omega, by omega, by omega⟩
  have ml : mixL (mixL a b) c = mixL a (mixL b c) := list8_ext (by rw [mixL_len, mixL_len, mixL_len]) fun i hi => by
    rw [mixL_len, mixL_len] at hi
    have := m i hi
    have e1 := mixL_at (L := mixL a b) (M := c) (i := i) (by rw [mixL_len]; exact hi)
    have e2 := mixL_at (L := a) (M := mixL b c) hi
    omega
  have em : mgE aW aH (mixL a b) aW aH c = mgE aW aH a aW aH (mixL b c) := by unfold mgE; rw [o1, o2, cl]
  refine ⟨em, ?_, rfl, rfl⟩
  unfold mgL
  rw [em, ml]
def x8 : XFn := ⟨69, (.seq (.reg false [O1 2 (.box 46) 0, O1 3 (.box 46) 1, K1 4 .mv (.bool false)]) (.seq (.seq (.reg false [⟨(some 11), (.call 13), [], none⟩, O1 12 (.un .not) 11, O1 13 .mv 12, G1 14 (.loadN 3) 2 13 false, G1 15 (.call 23) 14 13 false, G1 16 (.un .not) 15 13 false, ⟨(some 17), .pick, [(.t 13), (.k (.bool true)), (.t 16)], none⟩, O1 18 .mv 17, G1 19 (.loadN 3) 3 18 false, G1 20 (.call 23) 19 18 false, G1 21 (.un .not) 20 18 false, ⟨(some 22), .pick, [(.t 18), (.k (.bool true)), (.t 21)], none⟩]) (.cond (.t 22) (.seq (.reg false [⟨(some 23), (.call 13), [], none⟩, O1 4 .mv 23]) .ret) .skip)) (.seq (.reg false [O1 25 (.loadN 3) 2, O1 26 (.loadN 3) 3, O2 27 (.call 30) 25 26, O1 24 .mv 27, O1 28 (.ext 0) 24, O1 29 (.ext 1) 24, ⟨(some 5), (.alloc 46 [(iV 0), (iV 0), (.slice none 0 0)]), [], none⟩, ⟨none, (.store 3), [(.t 5), (.t 28)], none⟩, O1 6 .mv 29]) (.seq (.reg false [O1 31 (.loadN 3) 3, O1 32 (.loadN 3) 2, O2 33 (.call 30) 31 32, O1 30 .mv 33, O1 34 (.ext 0) 30, O1 35 (.ext 1) 30, ⟨(some 7), (.alloc 46 [(iV 0), (iV 0), (.slice none 0 0)]), [], none⟩, ⟨none, (.store 3), [(.t 7), (.t 34)], none⟩, O1 8 .mv 35]) (.seq (.reg false [O1 37 (.loadN 3) 2, O1 38 (.loadN 3) 3, O2 39 (.call 31) 37 38, O1 36 .mv 39, O1 40 (.ext 0) 36, O1 41 (.ext 1) 36, ⟨(some 9), (.alloc 46 [(iV 0), (iV 0), (.slice none 0 0)]), [], none⟩, ⟨none, (.store 3), [(.t 9), (.t 40)], none⟩, O1 10 .mv 41]) (.seq (.reg true [O1 42 .mv 6, O1 43 .mv 10, O2 44 (.bin .eql) 42 43, O1 45 .mv 44, G1 46 .mv 8 45 true, G1 47 .mv 10 45 true, G2 48 (.bin .eql) 46 47 45 true, ⟨(some 49), .pick, [(.t 45), (.t 48), (.k (.bool false))], none⟩, O1 50 .mv 49, G1 51 (.loadN 3) 5 50 true, G1 52 (.loadN 3) 9 50 true, G2 53 (.call 27) 51 52 50 true, ⟨(some 54), .pick, [(.t 50), (.t 53), (.k (.bool false))], none⟩, O1 55 .mv 54, G1 56 (.loadN 3) 7 55 true, G1 57 (.loadN 3) 9 55 true, G2 58 (.call 27) 56 57 55 true, ⟨(some 59), .pick, [(.t 55), (.t 58), (.k (.bool false))], none⟩, O1 60 .mv 59, G1 61 (.loadN 3) 2 60 true, G1 62 (.loadN 3) 3 60 true, G2 63 (.call 32) 61 62 60 true, G1 64 (.loadN 3) 2 60 true, G1 65 (.loadN 3) 3 60 true, G2 66 (.call 33) 64 65 60 true, G2 67 (.binb .eql) 63 66 60 true, ⟨(some 68), .pick, [(.t 60), (.t 67), (.k (.bool false))], none⟩, O1 4 .mv 68]) .ret)))))), [(.s 4)]⟩
theorem x8_ok : xfn Try.prog Try.f8 = some x8.er := by kernel_rfl
def x9 : XFn := ⟨121, (.seq (.reg false [O1 3 (.box 46) 0, O1 4 (.box 46) 1, O1 5 (.box 46) 2, K1 6 .mv (.bool false)]) (.seq (.seq (.reg false [⟨(some 15), (.call 13), [], none⟩, O1 16 (.un .not) 15, O1 17 .mv 16, G1 18 (.loadN 3) 3 17 false, G1 19 (.call 23) 18 17 false, G1 20 (.un .not) 19 17 false, ⟨(some 21), .pick, [(.t 17), (.k (.bool true)), (.t 20)], none⟩, O1 22 .mv 21, G1 23 (.loadN 3) 4 22 false, G1 24 (.call 23) 23 22 false, G1 25 (.un .not) 24 22 false, ⟨(some 26), .pick, [(.t 22), (.k (.bool true)), (.t 25)], none⟩, O1 27 .mv 26, G1 28 (.loadN 3) 5 27 false, G1 29 (.call 23) 28 27 false, G1 30 (.un .not) 29 27 false, ⟨(some 31), .pick, [(.t 27), (.k (.bool true)), (.t 30)], none⟩]) (.cond (.t 31) (.seq (.reg false [⟨(some 32), (.call 13), [], none⟩, O1 6 .mv 32]) .ret) .skip)) (.seq (.reg false [O1 34 (.loadN 3) 3, O1 35 (.loadN 3) 4, O2 36 (.call 30) 34 35, O1 33 .mv 36, O1 37 (.ext 0) 33, O1 38 (.ext 1) 33, ⟨(some 7), (.alloc 46 [(iV 0), (iV 0), (.slice none 0 0)]), [], none⟩, ⟨none, (.store 3), [(.t 7), (.t 37)], none⟩, O1 8 .mv 38]) (.seq (.seq (.reg false [O1 39 .mv 8, K2 40 (.bin .neq) 39 (iV 0)]) (.cond (.t 40) (.seq (.reg false [O1 41 (.fld 2) 7, O1 42 .load1 41, O1 43 .lenS 42, K2 44 (.bin .eql) 43 (iV 0), O1 45 .mv 44, G1 46 (.loadN 3) 3 45 true, G1 47 (.loadN 3) 5 45 true, G2 48 (.call 32) 46 47 45 true, G1 49 (.un .not) 48 45 true, G1 50 .mv 49 45 true, G1 51 (.loadN 3) 4 50 false, G1 52 (.loadN 3) 5 50 false, G2 53 (.call 32) 51 52 50 false, G1 54 (.un .not) 53 50 false, ⟨(some 55), .pick, [(.t 50), (.k (.bool true)), (.t 54)], (some (45, true))⟩, ⟨(some 56), .pick, [(.t 45), (.t 55), (.k (.bool false))], none⟩, O1 6 .mv 56]) .ret) .skip)) (.seq (.seq (.reg false [O1 57 (.loadN 3) 3, O1 58 (.loadN 3) 7, O2 59 (.call 32) 57 58, O1 60 (.un .not) 59, O1 61 .mv 60, G1 62 (.loadN 3) 4 61 false, G1 63 (.loadN 3) 7 61 false, G2 64 (.call 32) 62 63 61 false, G1 65 (.un .not) 64 61 false, ⟨(some 66), .pick, [(.t 61), (.k (.bool true)), (.t 65)], none⟩, O1 67 .mv 66, G1 68 (.loadN 3) 7 67 false, G1 69 (.loadN 3) 7 67 false, G2 70 (.call 32) 68 69 67 false, G1 71 (.un .not) 70 67 false, ⟨(some 72), .pick, [(.t 67), (.k (.bool true)), (.t 71)], none⟩, O1 73 .mv 72, G1 74 (.loadN 3) 3 73 false, G1 75 (.loadN 3) 5 73 false, G2 76 (.call 32) 74 75 73 false, G1 77 .mv 76 73 false, G1 78 (.loadN 3) 4 77 true, G1 79 (.loadN 3) 5 77 true, G2 80 (.call 32) 78 79 77 true, ⟨(some 81), .pick, [(.t 77), (.t 80), (.k (.bool false))], (some (73, false))⟩, G1 82 .mv 81 73 false, G1 83 (.loadN 3) 7 82 true, G1 84 (.loadN 3) 5 82 true, G2 85 (.call 32) 83 84 82 true, G1 86 (.un .not) 85 82 true, ⟨(some 87), .pick, [(.t 82), (.t 86), (.k (.bool false))], (some (73, false))⟩, ⟨(some 88), .pick, [(.t 73), (.k (.bool true)), (.t 87)], none⟩]) (.cond (.t 88) (.seq (.reg false [K1 6 .mv (.bool false)]) .ret) .skip)) (.seq (.reg false [O1 90 (.loadN 3) 4, O1 91 (.loadN 3) 5, O2 92 (.call 30) 90 91, O1 89 .mv 92, O1 93 (.ext 0) 89, O1 94 (.ext 1) 89, ⟨(some 9), (.alloc 46 [(iV 0), (iV 0), (.slice none 0 0)]), [], none⟩, ⟨none, (.store 3), [(.t 9), (.t 93)], none⟩, O1 10 .mv 94]) (.seq (.seq (.reg false [O1 95 .mv 10, K2 96 (.bin .neq) 95 (iV 0)]) (.cond (.t 96) (.seq (.reg false [O1 97 (.fld 2) 9, O1 98 .load1 97, O1 99 .lenS 98, K2 100 (.bin .eql) 99 (iV 0), O1 6 .mv 100]) .ret) .skip)) (.seq (.reg false [O1 102 (.loadN 3) 7, O1 103 (.loadN 3) 5, O2 104 (.call 30) 102 103, O1 101 .mv 104, O1 105 (.ext 0) 101, O1 106 (.ext 1) 101, ⟨(some 11), (.alloc 46 [(iV 0), (iV 0), (.slice none 0 0)]), [], none⟩, ⟨none, (.store 3), [(.t 11), (.t 105)], none⟩, O1 12 .mv 106]) (.seq (.reg false [O1 108 (.loadN 3) 3, O1 109 (.loadN 3) 9, O2 110 (.call 30) 108 109, O1 107 .mv 110, O1 111 (.ext 0) 107, O1 112 (.ext 1) 107, ⟨(some 13), (.alloc 46 [(iV 0), (iV 0), (.slice none 0 0)]), [], none⟩, ⟨none, (.store 3), [(.t 13), (.t 111)], none⟩, O1 14 .mv 112]) (.seq (.reg false [O1 113 .mv 12, O1 114 .mv 14, O2 115 (.bin .eql) 113 114, O1 116 .mv 115, G1 117 (.loadN 3) 11 116 true, G1 118 (.loadN 3) 13 116 true, G2 119 (.call 27) 117 118 116 true, ⟨(some 120), .pick, [(.t 116), (.t 119), (.k (.bool false))], none⟩, O1 6 .mv 120]) .ret)))))))))), [(.s 6)]⟩
theorem x9_ok : xfn Try.prog Try.f9 = some x9.er := by kernel_rfl
/-- wayfinder/wayfinderlaw08.PlanMerges -/
def g8 : Con := fun args_ E_ nn_ => match args_ with
  | [.a [.v (.int .i64 a_W), .v (.int .i64 a_H), .n a_Cells], .a [.v (.int .i64 b_W), .v (.int .i64 b_H), .n b_Cells]] => (match rowOf E_ a_Cells with
    | some (a_Cells_n, a_Cells_s, a_Cells_f) => (match rowOf E_ b_Cells with
    | some (b_Cells_n, b_Cells_s, b_Cells_f) => some (.q (isRow eU8 a_Cells_n a_Cells_s a_Cells_f ∧ isRow eU8 b_Cells_n b_Cells_s b_Cells_f ∧ u8s (decL eU8 a_Cells_n a_Cells_f) ∧ u8s (decL eU8 b_Cells_n b_Cells_f)) (.o (.c (.v (.bool (true))))))
    | none => none)
    | none => none)
  | _ => none
theorem c8 : COk Try.prog 8 g8 := by
  refine cok_q Try.func8 x8_ok (by kernel_rfl) (cok_tab (cok_cons c13 (cok_cons c23 (cok_cons c30 (cok_cons c31 (cok_cons c27 (cok_cons c32 (cok_cons c33 cok_nil)))))))) ?_
  intro args_ E_ nn_ cr_ hg_
  unfold g8 at hg_
  split at hg_
  · rename_i a_W a_H a_Cells b_W b_H b_Cells
    split at hg_
    · rename_i a_Cells_n a_Cells_s a_Cells_f h_a_Cells
      split at hg_
      · rename_i b_Cells_n b_Cells_s b_Cells_f h_b_Cells
        cases hg_
        refine ⟨_, _, rfl, 2, [a_Cells, b_Cells], [.a [.v (.int .i64 a_W), .v (.int .i64 a_H), .n 0], .a [.v (.int .i64 b_W), .v (.int .i64 b_H), .n 1]], [(0, .ro (decL eU8 a_Cells_n a_Cells_f).length eU8.sz (rowF eU8 (decL eU8 a_Cells_n a_Cells_f))), (1, .ro (decL eU8 b_Cells_n b_Cells_f).length eU8.sz (rowF eU8 (decL eU8 b_Cells_n b_Cells_f)))], .o (.c (.v (.bool (true)))), rfl, rfl, by simp only [push_cast, Nat.reduceLT, Nat.reduceAdd], by simp only [push_cast, Nat.reduceLT, Nat.reduceAdd], by simp only [push_cast, Nat.reduceLT, Nat.reduceAdd], rfl, ⟨inE0_row h_a_Cells, inE0_row h_b_Cells, trivial⟩, rfl, ?_⟩
        intro hpre hlen
        obtain ⟨i_a_Cells, hpre⟩ := hpre
        obtain ⟨i_b_Cells, hpre⟩ := hpre
        refine ⟨⟨inE_row h_a_Cells i_a_Cells, inE_row h_b_Cells i_b_Cells, trivial⟩, ?_⟩
        have z_a_Cells := lens_row (E := eU8) hlen h_a_Cells
        have z_b_Cells := lens_row (E := eU8) hlen h_b_Cells
        clear i_a_Cells
        generalize decL eU8 a_Cells_n a_Cells_f = a_CellsL at *
        clear i_b_Cells
        generalize decL eU8 b_Cells_n b_Cells_f = b_CellsL at *
        clear h_a_Cells
        clear h_b_Cells
        simp (config := {maxSteps := 10000000}) only [x8, push_cast, Nat.reduceAdd, Nat.reduceSub, Nat.reduceLeDiff, Nat.reduceEqDiff, Nat.reduceBEq, Nat.reduceMul, Nat.reduceLT, reduceIte, reduceCtorEq, Int.reduceLE, Int.reduceLT, Int.reduceEq, Int.reduceMul, Int.reduceAdd, Int.reduceSub, Int.reduceNeg, Int.reduceToNat, Int.reduceNe, g13, g23, g30, g31, g27, g32, g33]
        obtain ⟨ua, ub⟩ := hpre
        intro _ _
        have k := mg_comm a_W a_H a_CellsL b_W b_H b_CellsL
        exact ⟨⟨ua, ub⟩, ⟨ub, ua⟩, ⟨ua, ub⟩, fun h => ⟨h, mgL_u8 ua ub⟩, fun h => ⟨h, mgL_u8 ub ua, mgL_u8 ua ub⟩, k.1, k.2.2.1, k.2.2.2, k.2.1⟩
      · cases hg_
    · cases hg_
  · cases hg_
/-- wayfinder/wayfinderlaw08.PlanLeast -/
def g9 : Con := fun args_ E_ nn_ => match args_ with
  | [.a [.v (.int .i64 a_W), .v (.int .i64 a_H), .n a_Cells], .a [.v (.int .i64 b_W), .v (.int .i64 b_H), .n b_Cells], .a [.v (.int .i64 c_W), .v (.int .i64 c_H), .n c_Cells]] => (match rowOf E_ a_Cells with
    | some (a_Cells_n, a_Cells_s, a_Cells_f) => (match rowOf E_ b_Cells with
    | some (b_Cells_n, b_Cells_s, b_Cells_f) => (match rowOf E_ c_Cells with
    | some (c_Cells_n, c_Cells_s, c_Cells_f) => some (.q (isRow eU8 a_Cells_n a_Cells_s a_Cells_f ∧ isRow eU8 b_Cells_n b_Cells_s b_Cells_f ∧ isRow eU8 c_Cells_n c_Cells_s c_Cells_f ∧ u8s (decL eU8 a_Cells_n a_Cells_f) ∧ u8s (decL eU8 b_Cells_n b_Cells_f) ∧ u8s (decL eU8 c_Cells_n c_Cells_f)) (.o (.c (.v (.bool (true))))))
    | none => none)
    | none => none)
    | none => none)
  | _ => none
theorem c9 : COk Try.prog 9 g9 := by
  refine cok_q Try.func9 x9_ok (by kernel_rfl) (cok_tab (cok_cons c13 (cok_cons c23 (cok_cons c30 (cok_cons c27 (cok_cons c32 cok_nil)))))) ?_
  intro args_ E_ nn_ cr_ hg_
  unfold g9 at hg_
  split at hg_
  · rename_i a_W a_H a_Cells b_W b_H b_Cells c_W c_H c_Cells
    split at hg_
    · rename_i a_Cells_n a_Cells_s a_Cells_f h_a_Cells
      split at hg_
      · rename_i b_Cells_n b_Cells_s b_Cells_f h_b_Cells
        split at hg_
        · rename_i c_Cells_n c_Cells_s c_Cells_f h_c_Cells
          cases hg_
          refine ⟨_, _, rfl, 3, [a_Cells, b_Cells, c_Cells], [.a [.v (.int .i64 a_W), .v (.int .i64 a_H), .n 0], .a [.v (.int .i64 b_W), .v (.int .i64 b_H), .n 1], .a [.v (.int .i64 c_W), .v (.int .i64 c_H), .n 2]], [(0, .ro (decL eU8 a_Cells_n a_Cells_f).length eU8.sz (rowF eU8 (decL eU8 a_Cells_n a_Cells_f))), (1, .ro (decL eU8 b_Cells_n b_Cells_f).length eU8.sz (rowF eU8 (decL eU8 b_Cells_n b_Cells_f))), (2, .ro (decL eU8 c_Cells_n c_Cells_f).length eU8.sz (rowF eU8 (decL eU8 c_Cells_n c_Cells_f)))], .o (.c (.v (.bool (true)))), rfl, rfl, by simp only [push_cast, Nat.reduceLT, Nat.reduceAdd], by simp only [push_cast, Nat.reduceLT, Nat.reduceAdd], by simp only [push_cast, Nat.reduceLT, Nat.reduceAdd], rfl, ⟨inE0_row h_a_Cells, inE0_row h_b_Cells, inE0_row h_c_Cells, trivial⟩, rfl, ?_⟩
          intro hpre hlen
          obtain ⟨i_a_Cells, hpre⟩ := hpre
          obtain ⟨i_b_Cells, hpre⟩ := hpre
          obtain ⟨i_c_Cells, hpre⟩ := hpre
          refine ⟨⟨inE_row h_a_Cells i_a_Cells, inE_row h_b_Cells i_b_Cells, inE_row h_c_Cells i_c_Cells, trivial⟩, ?_⟩
          have z_a_Cells := lens_row (E := eU8) hlen h_a_Cells
          have z_b_Cells := lens_row (E := eU8) hlen h_b_Cells
          have z_c_Cells := lens_row (E := eU8) hlen h_c_Cells
          clear i_a_Cells
          generalize decL eU8 a_Cells_n a_Cells_f = a_CellsL at *
          clear i_b_Cells
          generalize decL eU8 b_Cells_n b_Cells_f = b_CellsL at *
          clear i_c_Cells
          generalize decL eU8 c_Cells_n c_Cells_f = c_CellsL at *
          clear h_a_Cells
          clear h_b_Cells
          clear h_c_Cells
          simp (config := {maxSteps := 10000000}) only [x9, push_cast, Nat.reduceAdd, Nat.reduceSub, Nat.reduceLeDiff, Nat.reduceEqDiff, Nat.reduceBEq, Nat.reduceMul, Nat.reduceLT, reduceIte, reduceCtorEq, Int.reduceLE, Int.reduceLT, Int.reduceEq, Int.reduceMul, Int.reduceAdd, Int.reduceSub, Int.reduceNeg, Int.reduceToNat, Int.reduceNe, g13, g23, g30, g27, g32]
          obtain ⟨ua, ub, uc⟩ := hpre
          intro _ _ _
          refine ⟨⟨ua, ub⟩, fun h => ?_, fun h => ?_⟩
          · rw [mgL_no h]
            have := least_no (cW := c_W) (cH := c_H) (c := c_CellsL) h
            exact ⟨fun _ => ⟨rfl, fun g => ⟨rfl, g⟩⟩, rfl, this⟩
          have y := least_yes ua ub h
          have up := mgL_u8 (W := a_W) (H := a_H) (W2 := b_W) (H2 := b_H) ua ub
          have uq := mgL_u8 (W := b_W) (H := b_H) (W2 := c_W) (H2 := c_H) ub uc
          simp only [h, mE, if_true, y.1, y.2.1, y.2.2.1]
          refine ⟨fun _ _ _ => ⟨⟨⟨trivial, trivial⟩, trivial⟩, fun g => ⟨⟨⟨trivial, trivial⟩, trivial⟩, g⟩⟩, fun _ _ _ => ⟨⟨⟨trivial, trivial⟩, trivial⟩, fun g g2 => ⟨⟨⟨trivial, trivial⟩, trivial⟩, g, g2⟩⟩, ?_, ?_⟩
          · rintro (h1 | ⟨⟨g1, g2⟩, g3⟩)
            · simp at h1
            · rw [y.2.2.2 g1 g2] at g3; cases g3
          · intro _ _ _ _
            refine ⟨⟨ub, uc⟩, fun g => by rw [mgL_no g]; rfl, fun g => ?_⟩
            have z := mg_assoc ua ub uc h g
            simp only [g, if_true]
            rw [z.1, z.2.1]
            exact ⟨⟨up, uc⟩, ⟨ua, uq⟩, fun _ => ⟨rfl, mgL_u8 ua uq, mgL_u8 ua uq⟩, rfl, rfl, rfl, rfl⟩
        · cases hg_
      · cases hg_
    · cases hg_
  · cases hg_
end Go.Proofs.Ytbjgaejmkhjbaaa
