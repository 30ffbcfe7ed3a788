/- A part of the proof of a statement about this seat: how a function is stepped through, and plain laws. No conditions. -/
import Derived.Test.YtkpdofgmmpbknaaGreatRows
import Derived.Test.YtkpdofgmmpbknaaGreatWJSz4
import Derived.Test.YtkpdofgmmpbknaaGreatWJQ1
import Derived.KernelRfl
set_option linter.unusedVariables false
set_option linter.unusedSimpArgs false
set_option maxRecDepth 20000
namespace Go.Proofs.YtkpdofgmmpbknaaGreat
open Go.Sx
def x85 : XFn := ⟨9, (.seq (.reg false [K1 2 .mv (.bool false)]) (.seq (.reg false [O1 3 .mv 0, K2 4 (.bin .geq) 3 (iV 1), O1 5 .mv 4, G1 6 .mv 0 5 true, GK 7 (.bin .leq) 6 (iV 64) 5 true, ⟨(some 8), .pick, [(.t 5), (.t 7), (.k (.bool false))], none⟩, O1 2 .mv 8]) .ret)), [(.s 2)]⟩
theorem x85_ok : xfn Tryz.prog Tryz.f85 = some x85.er := by kernel_rfl
def x86L0 : XC := (.seq (.seq (.reg false [O1 12 .mv 4, O1 13 .mv 0, O1 14 .lenS 13, O2 15 (.bin .lss) 12 14]) (.cond (.t 15) .skip (.exit 0))) (.seq (.block 1 (.reg false [O1 18 .mv 3, O1 19 .mv 0, O1 20 .mv 4, O2 21 (.ixS 1) 19 20, O1 22 .load1 21, O2 23 .maxI 18 22, O1 3 .mv 23])) (.reg false [O1 16 .mv 4, K2 17 (.bin .add) 16 (iV 1), O1 4 .mv 17])))
def x86 : XFn := ⟨25, (.seq (.reg false [K1 2 .mv (.int .u8 0)]) (.seq (.seq (.reg false [O1 5 .mv 0, O1 6 .lenS 5, K2 7 (.bin .lss) 6 (iV 1)]) (.cond (.t 7) (.reg false [⟨(some 8), .other, [], none⟩, ⟨none, .other, [], none⟩]) .skip)) (.seq (.reg false [O1 9 .mv 0, K2 10 (.ixS 1) 9 (iV 0), O1 11 .load1 10, O1 3 .mv 11]) (.seq (.seq (.reg false [K1 4 .mv (iV 1)]) (.block 0 (.loop x86L0))) (.seq (.reg false [O1 24 .mv 3, O1 2 .mv 24]) .ret))))), [(.s 2)]⟩
theorem x86_ok : xfn Tryz.prog Tryz.f86 = some x86.er := by kernel_rfl
def x67 : XFn := ⟨34, (.seq (.reg false [O1 1 (.box 24) 0, K1 2 .mv (.bool false)]) (.seq (.seq (.reg false [O1 3 (.fld 0) 1, O1 4 .load1 3, O1 5 (.call 85) 4, O1 6 (.un .not) 5, O1 7 .mv 6, G1 8 (.fld 1) 1 7 false, G1 9 .load1 8 7 false, G1 10 (.call 85) 9 7 false, G1 11 (.un .not) 10 7 false, ⟨(some 12), .pick, [(.t 7), (.k (.bool true)), (.t 11)], none⟩, O1 13 .mv 12, G1 14 (.fld 2) 1 13 false, G1 15 .load1 14 13 false, G1 16 .lenS 15 13 false, G1 17 (.fld 0) 1 13 false, G1 18 .load1 17 13 false, G1 19 (.fld 1) 1 13 false, G1 20 .load1 19 13 false, G2 21 (.bin .mul) 18 20 13 false, G2 22 (.bin .neq) 16 21 13 false, ⟨(some 23), .pick, [(.t 13), (.k (.bool true)), (.t 22)], none⟩]) (.cond (.t 23) (.seq (.reg false [K1 2 .mv (.bool false)]) .ret) .skip)) (.seq (.reg false [O1 24 (.fld 2) 1, O1 25 .load1 24, O1 26 .lenS 25, K2 27 (.bin .eql) 26 (iV 0), O1 28 .mv 27, G1 29 (.fld 2) 1 28 false, G1 30 .load1 29 28 false, G1 31 (.call 86) 30 28 false, GK 32 (.bin .leq) 31 (.int .u8 2) 28 false, ⟨(some 33), .pick, [(.t 28), (.k (.bool true)), (.t 32)], none⟩, O1 2 .mv 33]) .ret))), [(.s 2)]⟩
theorem x67_ok : xfn Tryz.prog Tryz.f67 = some x67.er := by kernel_rfl
def maxK (L : List Int) : Nat → Int
  | 0 => L.getD 0 eU8.dflt
  | k + 1 => max (maxK L k) (L.getD k eU8.dflt)
theorem maxK_le {L : List Int} {m : Int} : ∀ {k : Nat}, 1 ≤ k → k ≤ L.length → (maxK L k ≤ m ↔ ∀ i, i < k → L.getD i eU8.dflt ≤ m)
  | 1, _, h => by
    simp only [maxK]
    constructor
    · intro h1 i hi; obtain rfl : i = 0 := by omega
      omega
    · intro h1; have := h1 0 (by omega); omega
  | k + 2, _, h => by
    have ih := maxK_le (L := L) (m := m) (k := k + 1) (by omega) (by omega)
    have e : maxK L (k + 2) = max (maxK L (k + 1)) (L.getD (k + 1) eU8.dflt) := rfl
    rw [e]
    constructor
    · intro h1 i hi
      by_cases hik : i = k + 1
      · subst hik; omega
      · exact ih.1 (by omega) i (by omega)
    · intro h1
      have := ih.2 (fun i hi => h1 i (by omega))
      have := h1 (k + 1) (by omega)
      omega
theorem getD_all {L : List Int} {p : Int → Prop} (d : Int) : (∀ i, i < L.length → p (L.getD i d)) ↔ ∀ x ∈ L, p x := by
  constructor
  · intro h x hx
    obtain ⟨i, hi, rfl⟩ := List.getElem_of_mem hx
    have := h i hi
    rwa [List.getD_eq_getElem?_getD, List.getElem?_eq_getElem hi] at this
  · intro h i hi
    rw [List.getD_eq_getElem?_getD, List.getElem?_eq_getElem hi]
    exact h _ (List.getElem_mem hi)
def planB (W H : Int) (L : List Int) : Bool := decide ((1 ≤ W ∧ W ≤ 64) ∧ (1 ≤ H ∧ H ≤ 64) ∧ (L.length : Int) = W * H) && decide (∀ x ∈ L, x ≤ 2)
def sizeB (n : Int) : Bool := decide (1 ≤ n ∧ n ≤ 64)
def u8s (L : List Int) : Prop := ∀ x ∈ L, 0 ≤ x ∧ x ≤ 255
theorem mulWH {W H : Int} (h1 : 1 ≤ W ∧ W ≤ 64) (h2 : 1 ≤ H ∧ H ≤ 64) : 1 ≤ W * H ∧ W * H ≤ 4096 := by
  have e1 : 1 * 1 ≤ W * H := Int.mul_le_mul h1.1 h2.1 (by omega) (by omega)
  have e2 : W * H ≤ 64 * 64 := Int.mul_le_mul h1.2 h2.2 (by omega) (by omega)
  omega
def g85 : Con := fun args_ E_ nn_ => match args_ with
  | [.c (.v (.int .i64 n))] => some (.q (True) (.o (.c (.v (.bool (sizeB n))))))
  | _ => none
theorem c85 : COk Tryz.prog 85 g85 := by
  refine cok_q Tryz.func85 x85_ok (by kernel_rfl) (cok_tab cok_nil) ?_
  intro args_ E_ nn_ cr_ hg_
  unfold g85 at hg_
  split at hg_
  · rename_i n
    cases hg_
    refine ⟨_, _, rfl, 0, [], [.c (.v (.int .i64 n))], [], .o (.c (.v (.bool (sizeB n)))), rfl, rfl, and3 (by simp only [push_cast, Nat.reduceLT, Nat.reduceAdd]) ⟨rfl, trivial, rfl, ?_⟩⟩
    intro hpre hlen
    refine ⟨trivial, ?_⟩
    simp (maxSteps := 9999999) only [x85, push_cast, simprocAttr]
    rw [Bool.eq_iff_iff]
    simp [sizeB]
    try omega
  · cases hg_
def g86 : Con := fun args_ E_ nn_ => match args_ with
  | [.c (.n x)] => (match rowOf E_ x with
    | some (x_n, x_s, x_f) => some (.q (isRow eU8 x_n x_s x_f ∧ 0 < ((decL eU8 x_n x_f)).length ∧ ((decL eU8 x_n x_f)).length ≤ 281474976709) (.o (.c (.v (.int .u8 (maxK (decL eU8 x_n x_f) ((decL eU8 x_n x_f)).length))))))
    | none => none)
  | _ => none
theorem c86 : COk Tryz.prog 86 g86 := by
  refine cok_q Tryz.func86 x86_ok (by kernel_rfl) (cok_tab cok_nil) ?_
  intro args_ E_ nn_ cr_ hg_
  unfold g86 at hg_
  split at hg_
  · rename_i x
    split at hg_
    · rename_i x_n x_s x_f h_x
      cases hg_
      refine ⟨_, _, rfl, 1, [x], [.c (.n 0)], [(0, .ro (decL eU8 x_n x_f).length eU8.sz (rowF eU8 (decL eU8 x_n x_f)))], .o (.c (.v (.int .u8 (maxK (decL eU8 x_n x_f) ((decL eU8 x_n x_f)).length)))), rfl, rfl, and3 (by simp only [push_cast, Nat.reduceLT, Nat.reduceAdd]) ⟨rfl, ⟨inE0_row h_x, trivial⟩, rfl, ?_⟩⟩
      intro hpre hlen
      obtain ⟨i_x, hpre⟩ := hpre
      refine ⟨⟨inE_row h_x i_x, trivial⟩, ?_⟩
      have z_x := lens_row (E := eU8) hlen h_x
      clear i_x
      generalize decL eU8 x_n x_f = xL at *
      clear h_x
      simp (maxSteps := 9999999) only [x86, push_cast, simprocAttr]
      refine ⟨by omega, fun _ => ⟨by omega, by omega, ?_⟩⟩
      refine vcLoop_upd (α := {k : Nat // 1 ≤ k ∧ k ≤ xL.length}) [0] 0 (fun s => [(3, .o (.c (.v (.int .u8 (maxK xL s.1))))), (4, .o (.c (.v (.int .i64 (s.1 : Nat)))))]) (fun s => []) (fun s => xL.length - s.1) ⟨1, by omega, by omega⟩ ?_ ?_
      · simp only [push_cast, simprocAttr, maxK]
        omega
      · rintro ⟨k, hk1, hk2⟩
        simp only [x86L0, push_cast, simprocAttr]
        refine ⟨fun hlt => ⟨hlt, hlt, ⟨k + 1, by omega, by omega⟩, ⟨rfl, by rw [wrapI (by omega) (by omega)]; rfl⟩, by simp only; omega⟩, fun hge => ?_⟩
        obtain rfl : k = xL.length := by omega
        rfl
    · cases hg_
  · cases hg_
def g67 : Con := fun args_ E_ nn_ => match args_ with
  | [.a [.v (.int .i64 p_W), .v (.int .i64 p_H), .n p_Cells]] => (match rowOf E_ p_Cells with
    | some (p_Cells_n, p_Cells_s, p_Cells_f) => some (.q (isRow eU8 p_Cells_n p_Cells_s p_Cells_f ∧ True) (.o (.c (.v (.bool (planB p_W p_H (decL eU8 p_Cells_n p_Cells_f)))))))
    | none => none)
  | _ => none
theorem c67 : COk Tryz.prog 67 g67 := by
  refine cok_q Tryz.func67 x67_ok (by kernel_rfl) (cok_tab (cok_cons c85 (cok_cons c86 cok_nil))) ?_
  intro args_ E_ nn_ cr_ hg_
  unfold g67 at hg_
  split at hg_
  · rename_i p_W p_H p_Cells
    split at hg_
    · rename_i p_Cells_n p_Cells_s p_Cells_f h_p_Cells
      cases hg_
      refine ⟨_, _, rfl, 1, [p_Cells], [.a [.v (.int .i64 p_W), .v (.int .i64 p_H), .n 0]], [(0, .ro (decL eU8 p_Cells_n p_Cells_f).length eU8.sz (rowF eU8 (decL eU8 p_Cells_n p_Cells_f)))], .o (.c (.v (.bool (planB p_W p_H (decL eU8 p_Cells_n p_Cells_f))))), rfl, rfl, and3 (by simp only [push_cast, Nat.reduceLT, Nat.reduceAdd]) ⟨rfl, ⟨inE0_row h_p_Cells, trivial⟩, rfl, ?_⟩⟩
      intro hpre hlen
      obtain ⟨i_p_Cells, hpre⟩ := hpre
      refine ⟨⟨inE_row h_p_Cells i_p_Cells, trivial⟩, ?_⟩
      have z_p_Cells := lens_row (E := eU8) hlen h_p_Cells
      clear i_p_Cells
      generalize decL eU8 p_Cells_n p_Cells_f = p_CellsL at *
      clear h_p_Cells
      simp (maxSteps := 9999999) only [x67, push_cast, simprocAttr, g85, g86]
      refine ⟨fun h => ?_, fun h1 h2 h3 => ?_⟩
      · symm
        unfold planB
        rw [Bool.and_eq_false_iff, decide_eq_false_iff_not]
        refine .inl fun ⟨k1, k2, k3⟩ => ?_
        have := mulWH k1 k2
        rw [wrapI (n := p_W * p_H) (by omega) (by omega)] at h
        unfold sizeB at h
        rw [decide_eq_false_iff_not, decide_eq_false_iff_not] at h
        omega
      · simp only [sizeB, decide_eq_true_eq] at h1 h2
        have hm := mulWH h1 h2
        rw [wrapI (n := p_W * p_H) (by omega) (by omega)] at h3
        refine ⟨fun _ => ⟨by omega, by omega, by omega⟩, ?_⟩
        unfold planB
        rw [decide_eq_true (p := (1 ≤ p_W ∧ p_W ≤ 64) ∧ (1 ≤ p_H ∧ p_H ≤ 64) ∧ (p_CellsL.length : Int) = p_W * p_H) ⟨h1, h2, h3⟩, Bool.true_and]
        have : ((p_CellsL.length : Int) == 0) = false := by rw [beq_eq_false_iff_ne]; omega
        rw [this, Bool.false_or, decide_eq_decide, maxK_le (by omega) (Nat.le_refl _)]
        exact getD_all (p := fun x => x ≤ 2) eU8.dflt
    · cases hg_
  · cases hg_
end Go.Proofs.YtkpdofgmmpbknaaGreat
namespace Go.Proofs.YtkpdofgmmpbknaaGreat
open Go.Sx
theorem planB_at {W H : Int} {L : List Int} (h : planB W H L = true) : (1 ≤ W ∧ W ≤ 64) ∧ (1 ≤ H ∧ H ≤ 64) ∧ (L.length : Int) = W * H ∧ (1 ≤ L.length ∧ L.length ≤ 4096) ∧ ∀ i, i < L.length → L.getD i eU8.dflt ≤ 2 := by
  simp only [planB, Bool.and_eq_true, decide_eq_true_eq] at h
  obtain ⟨⟨h1, h2, h3⟩, h4⟩ := h
  have := mulWH h1 h2
  exact ⟨h1, h2, h3, by omega, (getD_all (p := fun x => x ≤ 2) eU8.dflt).2 h4⟩
end Go.Proofs.YtkpdofgmmpbknaaGreat
namespace Go.Proofs.YtkpdofgmmpbknaaGreat
open Go.Sx
theorem swL_mem {x0 y0 x1 y1 vx vy vd lo hi : Int} {c : CC} : c ∈ swL x0 y0 x1 y1 vx vy vd lo hi ↔ swP x0 y0 x1 y1 vx vy vd lo hi c.X c.Y = true := by
  unfold swL
  rw [gridL_mem]
  constructor
  · exact fun h => h.1
  · intro h
    have := sw_rng h
    unfold rLo rHi
    exact ⟨h, by omega⟩
theorem swL_sorted (x0 y0 x1 y1 vx vy vd lo hi : Int) : (swL x0 y0 x1 y1 vx vy vd lo hi).Pairwise ltC := gridL_sorted _ _ _ _ _
theorem getD_in {l : List CC} {i : Nat} (h : i < l.length) : l.getD i eC.dflt ∈ l := by rw [List.getD_eq_getElem?_getD, List.getElem?_eq_getElem h, Option.getD_some]; exact List.getElem_mem h
end Go.Proofs.YtkpdofgmmpbknaaGreat
namespace Go.Proofs.YtkpdofgmmpbknaaGreat
open Go.Sx
end Go.Proofs.YtkpdofgmmpbknaaGreat
namespace Go.Proofs.YtkpdofgmmpbknaaGreat
open Go.Sx
def insB (W H x y : Int) : Bool := decide ((0 ≤ x ∧ x < W) ∧ 0 ≤ y ∧ y < H)
def atB (W H : Int) (L : List Int) (x y : Int) : Int := if planB W H L = false then 0 else if insB W H x y = false then 2 else L.getD (y * W + x).toNat eU8.dflt
theorem idx_bd {W H : Int} {L : List Int} {x y : Int} (h : planB W H L = true) (hi : insB W H x y = true) : (0 ≤ y * W ∧ y * W ≤ 4096) ∧ 0 ≤ y * W + x ∧ y * W + x < L.length ∧ (1 ≤ L.length ∧ L.length ≤ 4096) := by
  have hp := planB_at h
  simp only [insB, decide_eq_true_eq] at hi
  have e : (y + 1) * W ≤ H * W := Int.mul_le_mul_of_nonneg_right (by omega) (by omega)
  have e2 : 0 ≤ y * W := Int.mul_nonneg (by omega) (by omega)
  have e3 : H * W = W * H := Int.mul_comm _ _
  rw [Int.add_mul] at e
  omega
theorem strB_inj {a b : List Int} (ha : u8s a) (hb : u8s b) : strB a = strB b ↔ a = b := by
  constructor
  · intro h
    unfold strB at h
    have h1 : a.map (fun n => UInt8.ofNat n.toNat) = b.map (fun n => UInt8.ofNat n.toNat) := by
      have := congrArg ByteArray.data h
      simpa using this
    have hl : a.length = b.length := by simpa using congrArg List.length h1
    refine List.ext_getElem hl fun i hi hj => ?_
    have h2 : (a.map (fun n => UInt8.ofNat n.toNat))[i]'(by simpa using hi) = (b.map (fun n => UInt8.ofNat n.toNat))[i]'(by simpa using hj) := by simp only [h1]
    simp only [List.getElem_map] at h2
    have h3 := congrArg UInt8.toNat h2
    simp only [UInt8.toNat_ofNat'] at h3
    have g1 := ha _ (List.getElem_mem hi)
    have g2 := hb _ (List.getElem_mem hj)
    omega
  · rintro rfl; rfl
theorem at_out {W H : Int} {L : List Int} {x y : Int} (h : planB W H L = true) (hi : insB W H x y = false) : atB W H L x y = 2 := by simp [atB, h, hi]
theorem at_in {W H : Int} {L : List Int} {x y : Int} (h : planB W H L = true) (hi : insB W H x y = true) : atB W H L x y = L.getD (y * W + x).toNat eU8.dflt := by simp [atB, h, hi]
def x125 : XFn := ⟨27, (.seq (.reg false [O1 2 (.box 24) 0, O1 3 (.box 128) 1, K1 4 .mv (.bool false)]) (.seq (.reg false [O1 5 (.fld 0) 3, O1 6 .load1 5, K2 7 (.bin .geq) 6 (iV 0), O1 8 .mv 7, G1 9 (.fld 0) 3 8 true, G1 10 .load1 9 8 true, G1 11 (.fld 0) 2 8 true, G1 12 .load1 11 8 true, G2 13 (.bin .lss) 10 12 8 true, ⟨(some 14), .pick, [(.t 8), (.t 13), (.k (.bool false))], none⟩, O1 15 .mv 14, G1 16 (.fld 1) 3 15 true, G1 17 .load1 16 15 true, GK 18 (.bin .geq) 17 (iV 0) 15 true, ⟨(some 19), .pick, [(.t 15), (.t 18), (.k (.bool false))], none⟩, O1 20 .mv 19, G1 21 (.fld 1) 3 20 true, G1 22 .load1 21 20 true, G1 23 (.fld 1) 2 20 true, G1 24 .load1 23 20 true, G2 25 (.bin .lss) 22 24 20 true, ⟨(some 26), .pick, [(.t 20), (.t 25), (.k (.bool false))], none⟩, O1 4 .mv 26]) .ret)), [(.s 4)]⟩
theorem x125_ok : xfn Tryz.prog Tryz.f125 = some x125.er := by kernel_rfl
def x119 : XFn := ⟨26, (.seq (.reg false [O1 2 (.box 24) 0, O1 3 (.box 128) 1, K1 4 .mv (.int .u8 0)]) (.seq (.block 0 (.seq (.reg false [O1 6 (.loadN 3) 2, O1 7 (.call 67) 6, O1 8 (.un .not) 7, O1 5 .mv 8]) (.cond (.t 5) (.seq (.reg false [K1 4 .mv (.int .u8 0)]) .ret) (.seq (.reg false [O1 10 (.loadN 3) 2, O1 11 (.loadN 2) 3, O2 12 (.call 125) 10 11, O1 13 (.un .not) 12, O1 9 .mv 13]) (.cond (.t 9) (.seq (.reg false [K1 4 .mv (.int .u8 2)]) .ret) .skip))))) (.seq (.reg false [O1 14 (.fld 2) 2, O1 15 .load1 14, O1 16 (.fld 1) 3, O1 17 .load1 16, O1 18 (.fld 0) 2, O1 19 .load1 18, O2 20 (.bin .mul) 17 19, O1 21 (.fld 0) 3, O1 22 .load1 21, O2 23 (.bin .add) 20 22, O2 24 (.ixS 1) 15 23, O1 25 .load1 24, O1 4 .mv 25]) .ret))), [(.s 4)]⟩
theorem x119_ok : xfn Tryz.prog Tryz.f119 = some x119.er := by kernel_rfl
def g125 : Con := fun args_ E_ nn_ => match args_ with
  | [.a [.v (.int .i64 p_W), .v (.int .i64 p_H), .n p_Cells], .a [.v (.int .i64 c_X), .v (.int .i64 c_Y)]] => (match rowOf E_ p_Cells with
    | some (p_Cells_n, p_Cells_s, p_Cells_f) => some (.q (isRow eU8 p_Cells_n p_Cells_s p_Cells_f ∧ True) (.o (.c (.v (.bool (insB p_W p_H c_X c_Y))))))
    | none => none)
  | _ => none
theorem c125 : COk Tryz.prog 125 g125 := by
  refine cok_q Tryz.func125 x125_ok (by kernel_rfl) (cok_tab cok_nil) ?_
  intro args_ E_ nn_ cr_ hg_
  unfold g125 at hg_
  split at hg_
  · rename_i p_W p_H p_Cells c_X c_Y
    split at hg_
    · rename_i p_Cells_n p_Cells_s p_Cells_f h_p_Cells
      cases hg_
      refine ⟨_, _, rfl, 1, [p_Cells], [.a [.v (.int .i64 p_W), .v (.int .i64 p_H), .n 0], .a [.v (.int .i64 c_X), .v (.int .i64 c_Y)]], [(0, .ro (decL eU8 p_Cells_n p_Cells_f).length eU8.sz (rowF eU8 (decL eU8 p_Cells_n p_Cells_f)))], .o (.c (.v (.bool (insB p_W p_H c_X c_Y)))), rfl, rfl, and3 (by simp only [push_cast, Nat.reduceLT, Nat.reduceAdd]) ⟨rfl, ⟨inE0_row h_p_Cells, trivial⟩, rfl, ?_⟩⟩
      intro hpre hlen
      obtain ⟨i_p_Cells, hpre⟩ := hpre
      refine ⟨⟨inE_row h_p_Cells i_p_Cells, trivial⟩, ?_⟩
      have z_p_Cells := lens_row (E := eU8) hlen h_p_Cells
      clear i_p_Cells
      generalize decL eU8 p_Cells_n p_Cells_f = p_CellsL at *
      clear h_p_Cells
      simp (maxSteps := 9999999) only [x125, push_cast, simprocAttr]
      rw [Bool.eq_iff_iff]
      simp [insB]
      try omega
    · cases hg_
  · cases hg_
def g119 : Con := fun args_ E_ nn_ => match args_ with
  | [.a [.v (.int .i64 p_W), .v (.int .i64 p_H), .n p_Cells], .a [.v (.int .i64 c_X), .v (.int .i64 c_Y)]] => (match rowOf E_ p_Cells with
    | some (p_Cells_n, p_Cells_s, p_Cells_f) => some (.q (isRow eU8 p_Cells_n p_Cells_s p_Cells_f ∧ True) (.o (.c (.v (.int .u8 (atB p_W p_H (decL eU8 p_Cells_n p_Cells_f) c_X c_Y))))))
    | none => none)
  | _ => none
theorem c119 : COk Tryz.prog 119 g119 := by
  refine cok_q Tryz.func119 x119_ok (by kernel_rfl) (cok_tab (cok_cons c67 (cok_cons c125 cok_nil))) ?_
  intro args_ E_ nn_ cr_ hg_
  unfold g119 at hg_
  split at hg_
  · rename_i p_W p_H p_Cells c_X c_Y
    split at hg_
    · rename_i p_Cells_n p_Cells_s p_Cells_f h_p_Cells
      cases hg_
      refine ⟨_, _, rfl, 1, [p_Cells], [.a [.v (.int .i64 p_W), .v (.int .i64 p_H), .n 0], .a [.v (.int .i64 c_X), .v (.int .i64 c_Y)]], [(0, .ro (decL eU8 p_Cells_n p_Cells_f).length eU8.sz (rowF eU8 (decL eU8 p_Cells_n p_Cells_f)))], .o (.c (.v (.int .u8 (atB p_W p_H (decL eU8 p_Cells_n p_Cells_f) c_X c_Y)))), rfl, rfl, and3 (by simp only [push_cast, Nat.reduceLT, Nat.reduceAdd]) ⟨rfl, ⟨inE0_row h_p_Cells, trivial⟩, rfl, ?_⟩⟩
      intro hpre hlen
      obtain ⟨i_p_Cells, hpre⟩ := hpre
      refine ⟨⟨inE_row h_p_Cells i_p_Cells, trivial⟩, ?_⟩
      have z_p_Cells := lens_row (E := eU8) hlen h_p_Cells
      clear i_p_Cells
      generalize decL eU8 p_Cells_n p_Cells_f = p_CellsL at *
      clear h_p_Cells
      simp (maxSteps := 9999999) only [x119, push_cast, simprocAttr, g67, g125]
      refine ⟨fun h => by simp [atB, h], fun h => ⟨fun g => by simp [atB, h, g], fun g => ?_⟩⟩
      have k := idx_bd h g
      have hi := g
      simp only [insB, decide_eq_true_eq] at hi
      rw [wrapI (n := c_Y * p_W) (by omega) (by omega), wrapI (by omega) (by omega)]
      exact ⟨⟨by omega, by omega⟩, by omega, by simp [atB, h, g]⟩
    · cases hg_
  · cases hg_
end Go.Proofs.YtkpdofgmmpbknaaGreat
namespace Go.Proofs.YtkpdofgmmpbknaaGreat
open Go.Sx
def sqB (x y : Int) : Bool := decide ((-16384 ≤ x ∧ x ≤ 16384) ∧ -16384 ≤ y ∧ y ≤ 16384)
theorem sq_t {x y : Int} (h1 : -16384 ≤ x) (h2 : x ≤ 16384) (h3 : -16384 ≤ y) (h4 : y ≤ 16384) : sqB x y = true := by unfold sqB; rw [decide_eq_true_eq]; omega
theorem sq_f {x y : Int} (h : ¬ (-16384 ≤ x ∧ x ≤ 16384) ∨ ¬ (-16384 ≤ y ∧ y ≤ 16384)) : sqB x y = false := by unfold sqB; rw [decide_eq_false_iff_not]; omega
def x71 : XFn := ⟨17, (.seq (.reg false [O1 1 (.box 128) 0, ⟨(some 2), (.alloc 132 [(iV 0), (iV 0), (iV 0), (iV 0)]), [], none⟩, K1 3 .mv (.bool false)]) (.seq (.seq (.reg false [O1 4 (.fld 0) 1, O1 5 .load1 4, K2 6 (.call 90) 5 (iV 16384), O1 7 (.un .not) 6, O1 8 .mv 7, G1 9 (.fld 1) 1 8 false, G1 10 .load1 9 8 false, GK 11 (.call 90) 10 (iV 16384) 8 false, G1 12 (.un .not) 11 8 false, ⟨(some 13), .pick, [(.t 8), (.k (.bool true)), (.t 12)], none⟩]) (.cond (.t 13) (.seq (.reg false [⟨(some 14), (.build [(iV 0), (iV 0), (iV 0), (iV 0)] []), [], none⟩, ⟨none, (.store 4), [(.t 2), (.t 14)], none⟩, K1 3 .mv (.bool false)]) .ret) .skip)) (.seq (.reg false [O1 15 (.loadN 2) 1, O1 16 (.call 91) 15, ⟨none, (.store 4), [(.t 2), (.t 16)], none⟩, K1 3 .mv (.bool true)]) .ret))), [(.bn 2 4), (.s 3)]⟩
theorem x71_ok : xfn Tryz.prog Tryz.f71 = some x71.er := by kernel_rfl
def x69 : XFn := ⟨15, (.seq (.reg false [O1 1 (.box 89) 0, ⟨(some 2), (.alloc 128 [(iV 0), (iV 0)]), [], none⟩, K1 3 .mv (.bool false)]) (.seq (.seq (.reg false [O1 4 (.loadN 2) 1, O1 5 (.call 88) 4, O1 6 (.un .not) 5]) (.cond (.t 6) (.seq (.reg false [⟨(some 7), (.build [(iV 0), (iV 0)] []), [], none⟩, ⟨none, (.store 2), [(.t 2), (.t 7)], none⟩, K1 3 .mv (.bool false)]) .ret) .skip)) (.seq (.regD [O1 8 (.fld 0) 1, O1 9 .load1 8, K2 10 (.call 89) 9 (iV 64), O1 11 (.fld 1) 1, O1 12 .load1 11, K2 13 (.call 89) 12 (iV 64), ⟨(some 14), (.build [(iV 0), (iV 0)] [(0, 1), (1, 1)]), [(.t 10), (.t 13)], none⟩, ⟨none, (.store 2), [(.t 2), (.t 14)], none⟩, K1 3 .mv (.bool true)] [[], [0], [1, 0], [], [3], [4, 3, 2, 1, 0], [2, 1, 0, 5, 4, 3], [6, 2, 1, 0, 5, 4, 3], [7, 6, 2, 1, 0, 5, 4, 3]]) .ret))), [(.bn 2 2), (.s 3)]⟩
theorem x69_ok : xfn Tryz.prog Tryz.f69 = some x69.er := by kernel_rfl
def g71 : Con := fun args_ E_ nn_ => match args_ with
  | [.a [.v (.int .i64 c_X), .v (.int .i64 c_Y)]] => some (.q (True) (.t [.a [.v (.int .i64 (mI (sqB c_X c_Y) (c_X * 64))), .v (.int .i64 (mI (sqB c_X c_Y) (c_Y * 64))), .v (.int .i64 (mI (sqB c_X c_Y) (c_X * 64 + 64))), .v (.int .i64 (mI (sqB c_X c_Y) (c_Y * 64 + 64)))], .c (.v (.bool (sqB c_X c_Y)))]))
  | _ => none
theorem c71 : COk Tryz.prog 71 g71 := by
  refine cok_q Tryz.func71 x71_ok (by kernel_rfl) (cok_tab (cok_cons c90 (cok_cons c91 cok_nil))) ?_
  intro args_ E_ nn_ cr_ hg_
  unfold g71 at hg_
  split at hg_
  · rename_i c_X c_Y
    cases hg_
    refine ⟨_, _, rfl, 0, [], [.a [.v (.int .i64 c_X), .v (.int .i64 c_Y)]], [], .t [.a [.v (.int .i64 (mI (sqB c_X c_Y) (c_X * 64))), .v (.int .i64 (mI (sqB c_X c_Y) (c_Y * 64))), .v (.int .i64 (mI (sqB c_X c_Y) (c_X * 64 + 64))), .v (.int .i64 (mI (sqB c_X c_Y) (c_Y * 64 + 64)))], .c (.v (.bool (sqB c_X c_Y)))], rfl, rfl, and3 (by simp only [push_cast, Nat.reduceLT, Nat.reduceAdd]) ⟨rfl, trivial, rfl, ?_⟩⟩
    intro hpre hlen
    refine ⟨trivial, ?_⟩
    simp (maxSteps := 9999999) only [x71, push_cast, simprocAttr, g90, g91]
    refine ⟨fun h => by rw [sq_f h]; simp [mI], fun h1 h2 h3 h4 => ⟨by omega, ?_⟩⟩
    rw [sq_t h1 h2 h3 h4]
    simp [mI]
  · cases hg_
def g69 : Con := fun args_ E_ nn_ => match args_ with
  | [.a [.v (.int .i64 p_X), .v (.int .i64 p_Y)]] => some (.q (True) (.t [.a [.v (.int .i64 (mI (pPtB p_X p_Y) (p_X / 64))), .v (.int .i64 (mI (pPtB p_X p_Y) (p_Y / 64)))], .c (.v (.bool (pPtB p_X p_Y)))]))
  | _ => none
theorem c69 : COk Tryz.prog 69 g69 := by
  refine cok_q Tryz.func69 x69_ok (by kernel_rfl) (cok_tab (cok_cons c88 (cok_cons c89 cok_nil))) ?_
  intro args_ E_ nn_ cr_ hg_
  unfold g69 at hg_
  split at hg_
  · rename_i p_X p_Y
    cases hg_
    refine ⟨_, _, rfl, 0, [], [.a [.v (.int .i64 p_X), .v (.int .i64 p_Y)]], [], .t [.a [.v (.int .i64 (mI (pPtB p_X p_Y) (p_X / 64))), .v (.int .i64 (mI (pPtB p_X p_Y) (p_Y / 64)))], .c (.v (.bool (pPtB p_X p_Y)))], rfl, rfl, and3 (by simp only [push_cast, Nat.reduceLT, Nat.reduceAdd]) ⟨rfl, trivial, rfl, ?_⟩⟩
    intro hpre hlen
    refine ⟨trivial, ?_⟩
    simp (maxSteps := 9999999) only [x69, push_cast, simprocAttr, g88, g89]
    refine ⟨fun h => by rw [h]; simp [mI], fun h => ?_⟩
    have a := pRect_bd (pPt_rect h)
    refine ⟨by omega, by omega, by rfl, ?_⟩
    rw [h]
    simp [mI]
  · cases hg_
end Go.Proofs.YtkpdofgmmpbknaaGreat
