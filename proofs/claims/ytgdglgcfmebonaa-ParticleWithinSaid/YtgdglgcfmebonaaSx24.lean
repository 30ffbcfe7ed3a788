/- A part of the proof of a statement about this seat: how a function is stepped through, and plain laws. No conditions. -/
import Derived.Test.YtgdglgcfmebonaaSx18
set_option linter.unusedVariables false
set_option linter.unusedSimpArgs false
namespace Go.Sx
open Go.RowKit

theorem vcC_skip (Γ : Nat → Con) (n0 : Nat) (K : Kont) (S : St) : vcC Γ n0 .skip K S = K .norm S := rfl
theorem vcC_regT (Γ : Nat → Con) (n0 : Nat) (l : List XOper) (K : Kont) (S : St) : vcC Γ n0 (.reg true l) K S = vcOpsQ Γ l S (K .norm) := rfl
theorem vcC_regF (Γ : Nat → Con) (n0 : Nat) (l : List XOper) (K : Kont) (S : St) : vcC Γ n0 (.reg false l) K S = vcOps Γ l (K .norm) S := rfl
theorem vcC_regD (Γ : Nat → Con) (n0 : Nat) (l : List XOper) (ps : List (List Nat)) (K : Kont) (S : St) : vcC Γ n0 (.regD l ps) K S = vcD Γ ps l S (K .norm) := rfl
theorem vcC_seq (Γ : Nat → Con) (n0 : Nat) (x y : XC) (K : Kont) (S : St) : vcC Γ n0 (.seq x y) K S = vcC Γ n0 x (kSeq (vcC Γ n0 y K) K) S := rfl
theorem vcC_cond (Γ : Nat → Con) (n0 : Nat) (c : XO) (x y : XC) (K : Kont) (S : St) : vcC Γ n0 (.cond c x y) K S = vcCond S (vcC Γ n0 x K S) (vcC Γ n0 y K S) (rd S.env c) := rfl
theorem vcC_block (Γ : Nat → Con) (n0 i : Nat) (x : XC) (K : Kont) (S : St) : vcC Γ n0 (.block i x) K S = vcC Γ n0 x (kBlock i K) S := rfl
theorem vcC_loop (Γ : Nat → Con) (n0 : Nat) (x : XC) (K : Kont) (S : St) : vcC Γ n0 (.loop x) K S = vcLoop n0 (vcC Γ n0 x) S K := rfl
theorem vcC_exit (Γ : Nat → Con) (n0 i : Nat) (K : Kont) (S : St) : vcC Γ n0 (.exit i) K S = K (.ex i) S := rfl
theorem vcC_ret (Γ : Nat → Con) (n0 : Nat) (K : Kont) (S : St) : vcC Γ n0 .ret K S = K .ret S := rfl
theorem vcOps_nil (Γ : Nat → Con) (K : St → Prop) (S : St) : vcOps Γ [] K S = K S := rfl
theorem vcOps_cons (Γ : Nat → Con) (o : XOper) (l : List XOper) (K : St → Prop) (S : St) : vcOps Γ (o :: l) K S = vcOp Γ o S (vcOps Γ l K) := rfl
theorem kSeq_norm (k : St → Prop) (K : Kont) (S : St) : kSeq k K .norm S = k S := rfl
theorem kSeq_ex (k : St → Prop) (K : Kont) (i : Nat) (S : St) : kSeq k K (.ex i) S = K (.ex i) S := rfl
theorem kSeq_ret (k : St → Prop) (K : Kont) (S : St) : kSeq k K .ret S = K .ret S := rfl
theorem kBlock_norm (i : Nat) (K : Kont) (S : St) : kBlock i K .norm S = K .norm S := rfl
theorem kBlock_ex (i j : Nat) (K : Kont) (S : St) : kBlock i K (.ex j) S = if j = i then K .norm S else K (.ex j) S := rfl
theorem kBlock_ret (i : Nat) (K : Kont) (S : St) : kBlock i K .ret S = K .ret S := rfl
theorem kRet_ex (res : List XR) (Q : SV → St → Prop) (i : Nat) (S : St) : kRet res Q (.ex i) S = False := rfl
theorem kRet_norm (res : List XR) (Q : SV → St → Prop) (S : St) : kRet res Q .norm S = (match rets S res with | some (p, xs) => p ∧ Q (retV xs) S | none => False) := rfl
theorem kRet_ret (res : List XR) (Q : SV → St → Prop) (S : St) : kRet res Q .ret S = (match rets S res with | some (p, xs) => p ∧ Q (retV xs) S | none => False) := rfl
theorem kLoop_norm {α : Type} (n0 : Nat) (I : α → St) (μ : α → Nat) (x : α) (K : Kont) (S : St) : kLoop n0 I μ x K .norm S = ∃ y, Le n0 S (I y) ∧ μ y < μ x := rfl
theorem kLoop_ex {α : Type} (n0 : Nat) (I : α → St) (μ : α → Nat) (x : α) (K : Kont) (i : Nat) (S : St) : kLoop n0 I μ x K (.ex i) S = K (.ex i) S := rfl
theorem kLoop_ret {α : Type} (n0 : Nat) (I : α → St) (μ : α → Nat) (x : α) (K : Kont) (S : St) : kLoop n0 I μ x K .ret S = K .ret S := rfl

theorem vcLoop_intro {α : Type} {n0 : Nat} {B : Kont → St → Prop} {S : St} {K : Kont} (I : α → St) (μ : α → Nat) (x0 : α) (h0 : Le n0 S (I x0)) (h : ∀ x, B (kLoop n0 I μ x K) (I x)) : vcLoop n0 B S K :=
  ⟨α, I, μ, x0, h0, h⟩

/-! ### Plain lemmas on numbers -/

theorem wrapI {n : Int} (h1 : -9223372036854775808 ≤ n) (h2 : n ≤ 9223372036854775807) : IntKind.i64.wrap n = n := by rw [IntKind.wrap_i64]; omega
theorem wrapI_lo (n : Int) : -9223372036854775808 ≤ IntKind.i64.wrap n := by rw [IntKind.wrap_i64]; omega
theorem wrapI_hi (n : Int) : IntKind.i64.wrap n ≤ 9223372036854775807 := by rw [IntKind.wrap_i64]; omega
theorem wrapU8 {n : Int} (h1 : 0 ≤ n) (h2 : n ≤ 255) : IntKind.u8.wrap n = n := by rw [IntKind.wrap_u8]; omega

/-- Go's remainder and quotient by a positive number. -/
theorem tmod_pos {a b : Int} (ha : 0 ≤ a) : a.tmod b = a % b := Int.tmod_eq_emod_of_nonneg ha
theorem tdiv_pos {a b : Int} (ha : 0 ≤ a) : a.tdiv b = a / b := Int.tdiv_eq_ediv_of_nonneg ha

theorem tmod_lit (a : Int) (b : Int) (hb : 0 < b) : a.tmod b = if 0 ≤ a then a % b else -((-a) % b) := by
  split
  · rename_i h; exact tmod_pos h
  · rename_i h
    have := Int.neg_tmod (-a) b
    rw [Int.neg_neg] at this
    rw [this, tmod_pos (by omega)]
theorem tdiv_lit (a : Int) (b : Int) (hb : 0 < b) : a.tdiv b = if 0 ≤ a then a / b else -((-a) / b) := by
  split
  · rename_i h; exact tdiv_pos h
  · rename_i h
    have := Int.neg_tdiv (-a) b
    rw [Int.neg_neg] at this
    rw [this, tdiv_pos (by omega)]

theorem bool_ext {a b : Bool} (h : a = true ↔ b = true) : a = b := Bool.eq_iff_iff.2 h

/-- Floor division, as the two-step code computes it. -/
theorem floor_neg {a b : Int} (hb : 0 < b) (h : a.tmod b < 0) : a.tdiv b - 1 = a / b := by
  have h1 : ¬ 0 ≤ a := fun h0 => by rw [tmod_pos h0] at h; have := Int.emod_nonneg a (Int.ne_of_gt hb); omega
  have e := Int.tmod_add_mul_tdiv a b
  have h2 : -b < a.tmod b := by
    have := Int.neg_tmod (-a) b
    rw [Int.neg_neg] at this
    rw [this, tmod_pos (by omega)]
    have := Int.emod_lt_of_pos (-a) hb
    omega
  have h3 : a = b * (a.tdiv b - 1) + (a.tmod b + b) := by rw [Int.mul_sub]; omega
  have h4 : a / b = a.tdiv b - 1 := by
    conv => lhs; rw [h3]
    rw [Int.mul_add_ediv_left _ _ (by omega), Int.ediv_eq_zero_of_lt (by omega) (by omega)]
    omega
  omega
theorem floor_pos {a b : Int} (hb : 0 < b) (h : ¬ a.tmod b < 0) : a.tdiv b = a / b := by
  have e := Int.tmod_add_mul_tdiv a b
  have h2 : a.tmod b < b := by
    rcases Int.lt_or_le a 0 with h0 | h0
    · have := Int.neg_tmod (-a) b
      rw [Int.neg_neg] at this
      rw [this, tmod_pos (by omega)]
      have := Int.emod_nonneg (-a) (Int.ne_of_gt hb)
      omega
    · rw [tmod_pos h0]; exact Int.emod_lt_of_pos a hb
  have h3 : a = b * (a.tdiv b) + a.tmod b := by omega
  conv => rhs; rw [h3]
  rw [Int.mul_add_ediv_left _ _ (by omega), Int.ediv_eq_zero_of_lt (by omega) (by omega)]
  omega

theorem tdiv_range {a b : Int} (hb : 0 < b) (h1 : -9223372036854775808 ≤ a) (h2 : a ≤ 9223372036854775807) : -9223372036854775808 ≤ a.tdiv b ∧ a.tdiv b ≤ 9223372036854775807 := by
  rcases Int.le_total 0 a with h0 | h0
  · rw [tdiv_pos h0]
    have := Int.ediv_nonneg h0 (Int.le_of_lt hb)
    have := Int.ediv_le_self b h0
    omega
  · have e := Int.neg_tdiv (-a) b
    rw [Int.neg_neg] at e
    rw [e, tdiv_pos (by omega)]
    have := Int.ediv_nonneg (show 0 ≤ -a by omega) (Int.le_of_lt hb)
    have := Int.ediv_le_self b (show 0 ≤ -a by omega)
    omega

theorem ediv_range {a b : Int} (hb : 0 < b) (h1 : -9223372036854775808 ≤ a) (h2 : a ≤ 9223372036854775807) : -9223372036854775808 ≤ a / b ∧ a / b ≤ 9223372036854775807 := by
  rcases Int.le_total 0 a with h0 | h0
  · have := Int.ediv_nonneg h0 (Int.le_of_lt hb)
    have := Int.ediv_le_self b h0
    omega
  · have : a ≤ a / b := by
      apply Int.le_ediv_of_mul_le hb
      have h3 : 0 ≤ (-a) * (b - 1) := Int.mul_nonneg (by omega) (by omega)
      have e : (-a) * (b - 1) = -(a * b) + a := by rw [Int.mul_sub, Int.neg_mul]; omega
      omega
    have : a / b ≤ 0 := by
      have := Int.ediv_le_ediv hb h0
      simpa using this
    omega

theorem emod_range {a b : Int} (hb : 0 < b) : 0 ≤ a % b ∧ a % b < b := ⟨Int.emod_nonneg a (Int.ne_of_gt hb), Int.emod_lt_of_pos a hb⟩

theorem tmod_neg_fix {a b : Int} (hb : 0 < b) (h : a.tmod b < 0) : a.tmod b + b = a % b := by
  have h1 := floor_neg hb h
  have h2 := Int.tmod_add_mul_tdiv a b
  have h3 := Int.emod_add_mul_ediv a b
  rw [← h1, Int.mul_sub] at h3
  omega
theorem tmod_pos_fix {a b : Int} (hb : 0 < b) (h : ¬ a.tmod b < 0) : a.tmod b = a % b := by
  have h1 := floor_pos hb h
  have h2 := Int.tmod_add_mul_tdiv a b
  have h3 := Int.emod_add_mul_ediv a b
  rw [← h1] at h3
  omega

/-- The last eight bits of a number. -/
theorem and_255 (h : Int) : bitI .and .i64 h 255 = h % 256 := by
  have e : (BitVec.ofInt 64 h &&& BitVec.ofInt 64 255).toNat = (h % 256).toNat := by
    rw [BitVec.toNat_and]
    have e1 : (BitVec.ofInt 64 255).toNat = 2 ^ 8 - 1 := by decide
    rw [e1, Nat.and_two_pow_sub_one_eq_mod, BitVec.toNat_ofInt]
    have h1 : ((2 ^ 64 : Nat) : Int) = 18446744073709551616 := by decide
    rw [h1]
    omega
  refine (congrArg (fun n : Nat => IntKind.i64.wrap (n : Int)) e).trans ?_
  have h0 := emod_range (a := h) (b := 256) (by omega)
  show IntKind.i64.wrap (((h % 256).toNat : Nat) : Int) = h % 256
  rw [Int.toNat_of_nonneg h0.1, wrapI (by omega) (by omega)]

end Go.Sx
