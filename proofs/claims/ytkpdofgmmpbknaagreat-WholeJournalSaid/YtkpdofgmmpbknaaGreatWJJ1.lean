/- A part of the proof of a statement about this seat: how a function is stepped through, and plain laws. No conditions. -/
import Derived.Test.YtkpdofgmmpbknaaGreatRows
import Derived.Test.YtkpdofgmmpbknaaGreatWJSz4
import Derived.Test.YtkpdofgmmpbknaaGreatWJB1
import Derived.KernelRfl
set_option linter.unusedVariables false
set_option linter.unusedSimpArgs false
set_option maxRecDepth 20000
namespace Go.Proofs.YtkpdofgmmpbknaaGreat
open Go.Sx Go.Way
def uintL (n : Nat) : List Int := if h : n < 128 then [(n : Int)] else ((n % 128 + 128 : Nat) : Int) :: uintL (n / 128)
termination_by n
decreasing_by omega
theorem uintL_lt {n : Nat} (h : n < 128) : uintL n = [(n : Int)] := by rw [uintL, dif_pos h]
theorem uintL_ge {n : Nat} (h : 128 ≤ n) : uintL n = ((n % 128 + 128 : Nat) : Int) :: uintL (n / 128) := by rw [uintL, dif_neg (by omega)]
theorem uintL_ne (n : Nat) : uintL n ≠ [] := by
  by_cases h : n < 128
  · rw [uintL_lt h]; simp
  · rw [uintL_ge (by omega)]; simp
theorem uintL_pos (n : Nat) : 0 < (uintL n).length := List.length_pos_iff.2 (uintL_ne n)
theorem uintL_len : ∀ (k n : Nat), n < 128 ^ (k + 1) → (uintL n).length ≤ k + 1
  | 0, n, h => by rw [uintL_lt (by simpa using h)]; simp
  | k + 1, n, h => by
    by_cases hn : n < 128
    · rw [uintL_lt hn]; simp
    · rw [uintL_ge (by omega)]
      have := uintL_len k (n / 128) (by rw [Nat.div_lt_iff_lt_mul (by omega)]; rw [Nat.pow_succ] at h; exact h)
      simp only [List.length_cons]; omega
theorem uintL_10 {n : Nat} (h : n < 18446744073709551616) : (uintL n).length ≤ 10 := uintL_len 9 n (Nat.lt_of_lt_of_le h (by decide))
theorem uintL_u8 (n : Nat) : ∀ x ∈ uintL n, 0 ≤ x ∧ x ≤ 255 := by
  induction n using Nat.strongRecOn with
  | _ n ih =>
    intro x hx
    by_cases hn : n < 128
    · rw [uintL_lt hn] at hx
      simp only [List.mem_singleton] at hx
      omega
    · rw [uintL_ge (by omega)] at hx
      rcases List.mem_cons.1 hx with rfl | hx
      · omega
      · exact ih (n / 128) (by omega) x hx
def rdG : List Int → Nat → Nat → Nat × List Int × Int
  | [], _, _ => (0, [], 4)
  | c :: l, i, a => if i = 9 ∧ 1 < c then (0, [], 2) else if 128 ≤ c then rdG l (i + 1) (a + (c.toNat % 128) * 128 ^ i) else if c = 0 ∧ 0 < i then (0, [], 3) else (a + c.toNat * 128 ^ i, l, 0)
def rdU (l : List Int) : Nat × List Int × Int := rdG l 0 0
theorem rdG_uint : ∀ (n i a : Nat) (r : List Int), n * 128 ^ i < 18446744073709551616 → (i = 0 ∨ 0 < n) → rdG (uintL n ++ r) i a = (a + n * 128 ^ i, r, 0) := by
  intro n
  induction n using Nat.strongRecOn with
  | _ n ih =>
    intro i a r h h0
    by_cases hn : n < 128
    · rw [uintL_lt hn]
      simp only [List.cons_append, List.nil_append, rdG, Int.toNat_natCast]
      have h9 : ¬ (i = 9 ∧ (1 : Int) < (n : Int)) := by
        rintro ⟨rfl, q⟩
        have : 2 * 128 ^ 9 ≤ n * 128 ^ 9 := Nat.mul_le_mul_right _ (by omega)
        have : (128 : Nat) ^ 9 = 9223372036854775808 := by decide
        omega
      rw [if_neg h9, if_neg (by omega), if_neg (by omega)]
    · rw [uintL_ge (by omega)]
      simp only [List.cons_append, rdG, Int.toNat_natCast]
      have e : n * 128 ^ i = (n / 128) * 128 ^ (i + 1) + (n % 128) * 128 ^ i := by
        rw [Nat.pow_succ, Nat.mul_comm (128 ^ i) 128, ← Nat.mul_assoc, ← Nat.add_mul]
        congr 1; omega
      have h9 : ¬ (i = 9 ∧ (1 : Int) < ((n % 128 + 128 : Nat) : Int)) := by
        rintro ⟨rfl, q⟩
        have : 128 * 128 ^ 9 ≤ n * 128 ^ 9 := Nat.mul_le_mul_right _ (by omega)
        have : (128 : Nat) ^ 9 = 9223372036854775808 := by decide
        omega
      rw [if_neg h9, if_pos (by omega), ih (n / 128) (by omega) (i + 1) _ r (by omega) (.inr (by omega)), e]
      have e2 : (n % 128 + 128) % 128 = n % 128 := by omega
      rw [e2, Nat.add_assoc]
      congr 2; omega
theorem rdU_uint {n : Nat} (r : List Int) (h : n < 18446744073709551616) : rdU (uintL n ++ r) = (n, r, 0) := by
  unfold rdU; rw [rdG_uint n 0 0 r (by simpa using h) (.inl rfl)]; simp
theorem rdG_part : ∀ (n i a : Nat) (p q : List Int), p ++ q = uintL n → q ≠ [] → n * 128 ^ i < 18446744073709551616 → rdG p i a = (0, [], 4) := by
  intro n
  induction n using Nat.strongRecOn with
  | _ n ih =>
    intro i a p q hp hq h
    cases p with
    | nil => rfl
    | cons c p =>
      by_cases hn : n < 128
      · rw [uintL_lt hn] at hp
        simp only [List.cons_append, List.cons.injEq, List.append_eq_nil_iff] at hp
        exact absurd hp.2.2 hq
      · rw [uintL_ge (by omega)] at hp
        simp only [List.cons_append, List.cons.injEq] at hp
        obtain ⟨rfl, hp⟩ := hp
        have e : n * 128 ^ i = (n / 128) * 128 ^ (i + 1) + (n % 128) * 128 ^ i := by
          rw [Nat.pow_succ, Nat.mul_comm (128 ^ i) 128, ← Nat.mul_assoc, ← Nat.add_mul]
          congr 1; omega
        have h9 : ¬ (i = 9 ∧ (1 : Int) < ((n % 128 + 128 : Nat) : Int)) := by
          rintro ⟨rfl, q⟩
          have : 128 * 128 ^ 9 ≤ n * 128 ^ 9 := Nat.mul_le_mul_right _ (by omega)
          have : (128 : Nat) ^ 9 = 9223372036854775808 := by decide
          omega
        simp only [rdG]
        rw [if_neg h9, if_pos (by omega), ih (n / 128) (by omega) (i + 1) _ p q hp hq (by omega)]
theorem rdU_part {n : Nat} {p q : List Int} (h : p ++ q = uintL n) (hq : q ≠ []) (hn : n < 18446744073709551616) : rdU p = (0, [], 4) := rdG_part n 0 0 p q h hq (by simpa using hn)
theorem or128 {n : Nat} (h : n < 256) : bitI .or .u8 (n : Int) 128 = ((n % 128 + 128 : Nat) : Int) := by
  have key : ∀ x : Fin 256, bitI .or .u8 ((x : Nat) : Int) 128 = (((x : Nat) % 128 + 128 : Nat) : Int) := by decide +kernel
  exact key ⟨n, h⟩
theorem andn128 {n : Nat} (h : n < 256) : bitI .andNot .u8 (n : Int) 128 = ((n % 128 : Nat) : Int) := by
  have key : ∀ x : Fin 256, bitI .andNot .u8 ((x : Nat) : Int) 128 = (((x : Nat) % 128 : Nat) : Int) := by decide +kernel
  exact key ⟨n, h⟩
theorem wrap8 (m : Nat) : IntKind.u8.wrap (m : Int) = ((m % 256 : Nat) : Int) := by
  simp [IntKind.wrap, IntKind.bits, IntKind.signed]
theorem wrap64 {m : Nat} (h : m < 18446744073709551616) : IntKind.u64.wrap (m : Int) = (m : Int) := by
  simp [IntKind.wrap, IntKind.bits, IntKind.signed]; omega
theorem or_pow {n x k : Nat} (hn : n < 128 ^ k) (hx : n + x * 128 ^ k < 18446744073709551616) : bitI .or .u64 (n : Int) ((x * 128 ^ k : Nat) : Int) = ((n + x * 128 ^ k : Nat) : Int) := by
  have e : (128 : Nat) ^ k = 2 ^ (7 * k) := by rw [Nat.pow_mul]
  unfold bitI
  simp only [BitVec.toNat_or, BitVec.toNat_ofInt]
  have b : IntKind.u64.bits = 64 := rfl
  rw [b]
  have e1 : (((n : Int) % ((2 ^ 64 : Nat) : Int))).toNat = n := by omega
  have e2 : ((((x * 128 ^ k : Nat) : Int) % ((2 ^ 64 : Nat) : Int))).toNat = x * 128 ^ k := by omega
  rw [e1, e2]
  have h := Nat.shiftLeft_add_eq_or_of_lt (i := 7 * k) (b := n) (by rw [← e]; exact hn) x
  rw [Nat.shiftLeft_eq, ← e] at h
  rw [Nat.or_comm, ← h, wrap64 (by omega)]
  congr 1; omega
theorem drop_cons {α : Type} (d : α) {L : List α} {k : Nat} (h : k < L.length) : L.drop k = L.getD k d :: L.drop (k + 1) := by
  rw [List.drop_eq_getElem_cons h, List.getD_eq_getElem?_getD, List.getElem?_eq_getElem h, Option.getD_some]
theorem sl_from {L : List Int} {z : Int} {k : Nat} (hz : z = k) (hk : k ≤ L.length) : decL eU8 ((L.length : Int) - z).toNat (shF z.toNat (rowF eU8 L)) = L.drop k ∧ isRow eU8 ((L.length : Int) - z).toNat 1 (shF z.toNat (rowF eU8 L)) := by
  subst hz
  have e : ((L.length : Int) - (k : Int)).toNat = (L.drop k).length := by rw [List.length_drop]; omega
  rw [e, Int.toNat_natCast]
  have h : ∀ e j, e < (L.drop k).length → j < 1 → shF k (rowF eU8 L) e j = rowF eU8 (L.drop k) e j := fun e j he _ => shF_at eU8 L k (by rw [List.length_drop] at he; omega)
  exact ⟨decL_eq rfl h, isRow_of rfl (.inr rfl) h⟩
theorem rd_bd {n c k : Nat} (hn : n < 128 ^ k) (hk : k ≤ 9) (hc : c < 128) (h9 : k = 9 → c ≤ 1) : n + c * 128 ^ k < 18446744073709551616 := by
  rcases Nat.lt_or_ge k 9 with q | q
  · have h1 : c * 128 ^ k ≤ 127 * 128 ^ k := Nat.mul_le_mul_right _ (by omega)
    have h2 : 128 ^ k ≤ 128 ^ 8 := Nat.pow_le_pow_right (by omega) (by omega)
    have h3 : (128 : Nat) ^ 8 = 72057594037927936 := by decide
    omega
  · obtain rfl : k = 9 := by omega
    have h1 : c * 128 ^ 9 ≤ 1 * 128 ^ 9 := Nat.mul_le_mul_right _ (h9 rfl)
    have h3 : (128 : Nat) ^ 9 = 9223372036854775808 := by decide
    omega
theorem rd_lt {n c k : Nat} (hn : n < 128 ^ k) (hc : c < 128) : n + c * 128 ^ k < 128 ^ k * 128 := by
  have h1 : c * 128 ^ k ≤ 127 * 128 ^ k := Nat.mul_le_mul_right _ (by omega)
  omega
theorem u8s_at {L : List Int} (h : u8s L) {k : Nat} (hk : k < L.length) : 0 ≤ L.getD k eU8.dflt ∧ L.getD k eU8.dflt ≤ 255 := by
  refine h _ ?_
  rw [List.getD_eq_getElem?_getD, List.getElem?_eq_getElem hk, Option.getD_some]
  exact List.getElem_mem hk
def crcS (m : Int) : Int := bitI BinOp.xor IntKind.u32 (m.fdiv (2 ^ min 1 IntKind.u32.bits)) (bitI BinOp.and IntKind.u32 3988292384 (IntKind.u32.wrap (-bitI BinOp.and IntKind.u32 m 1)))
def crcN : Nat → Int → Int
  | 0, m => m
  | n + 1, m => crcN n (crcS m)
def sumG : List Int → Int → Int
  | [], s => s
  | c :: l, s => sumG l (crcN 8 (bitI BinOp.xor IntKind.u32 s (IntKind.u32.wrap c)))
def sumV (L : List Int) : Int := bitI BinOp.xor IntKind.u32 (if IntKind.u32.signed = true then -1 else IntKind.u32.max) (sumG L 4294967295)
def x53L0 : XC := (.seq (.seq (.reg false [O1 4 .mv 0, K2 5 (.bin .geq) 4 (.int .u64 128)]) (.cond (.t 5) .skip (.exit 0))) (.seq (.block 1 (.reg false [O1 8 .mv 3, O1 9 .mv 0, O1 10 (.conv .u8) 9, K2 11 (.bin .or) 10 (.int .u8 128), ⟨(some 12), (.slit 5 1 1 [(.int .u8 0)] [(0, 1)]), [(.t 11)], none⟩, O2 13 (.app 5 1 1) 8 12, O1 3 .mv 13])) (.reg false [O1 6 .mv 0, K2 7 (.bin .shr) 6 (.int .u64 7), O1 0 .mv 7])))
def x53 : XFn := ⟨19, (.seq (.reg false [K1 2 .mv (.slice none 0 0)]) (.seq (.reg false [K1 3 .mv (.slice none 0 0)]) (.seq (.block 0 (.loop x53L0)) (.seq (.reg false [O1 14 .mv 3, O1 15 .mv 0, O1 16 (.conv .u8) 15, ⟨(some 17), (.slit 5 1 1 [(.int .u8 0)] [(0, 1)]), [(.t 16)], none⟩, O2 18 (.app 5 1 1) 14 17, O1 2 .mv 18]) .ret)))), [(.s 2)]⟩
theorem x53_ok : xfn Tryz.prog Tryz.f53 = some x53.er := by kernel_rfl
def x55L0 : XC := (.seq (.reg false [O2 11 (.bin .lss) 10 9]) (.seq (.cond (.t 11) .skip (.exit 0)) (.seq (.block 1 (.seq (.reg false [O1 12 .mv 10, O2 13 (.ixS 1) 8 10, O1 14 .load1 13, O1 6 .mv 12, O1 7 .mv 14]) (.seq (.seq (.reg false [O1 15 .mv 6, K2 16 (.bin .eql) 15 (iV 9), O1 17 .mv 16, G1 18 .mv 7 17 true, GK 19 (.bin .gtr) 18 (.int .u8 1) 17 true, ⟨(some 20), .pick, [(.t 17), (.t 19), (.k (.bool false))], none⟩]) (.cond (.t 20) (.seq (.reg false [K1 2 .mv (.int .u64 0), K1 3 .mv (.slice none 0 0), K1 4 .mv (iV 2)]) .ret) .skip)) (.seq (.reg false [O1 21 .mv 5, O1 22 .mv 7, K2 23 (.bin .andNot) 22 (.int .u8 128), O1 24 (.conv .u64) 23, O1 25 .mv 6, ⟨(some 26), (.bin .mul), [(.k (iV 7)), (.t 25)], none⟩, O2 27 (.bin .shl) 24 26, O2 28 (.bin .or) 21 27, O1 5 .mv 28]) (.seq (.seq (.reg false [O1 29 .mv 7, K2 30 (.bin .geq) 29 (.int .u8 128)]) (.cond (.t 30) (.exit 1) .skip)) (.seq (.seq (.reg false [O1 31 .mv 7, K2 32 (.bin .eql) 31 (.int .u8 0), O1 33 .mv 32, G1 34 .mv 6 33 true, GK 35 (.bin .gtr) 34 (iV 0) 33 true, ⟨(some 36), .pick, [(.t 33), (.t 35), (.k (.bool false))], none⟩]) (.cond (.t 36) (.seq (.reg false [K1 2 .mv (.int .u64 0), K1 3 .mv (.slice none 0 0), K1 4 .mv (iV 3)]) .ret) .skip)) (.seq (.reg false [O1 37 .mv 5, O1 38 .mv 0, O1 39 .mv 6, K2 40 (.bin .add) 39 (iV 1), O2 41 (.slc 1 true false false) 38 40, O1 42 (.call 23) 41, O1 2 .mv 37, O1 3 .mv 42, K1 4 .mv (iV 0)]) .ret))))))) (.reg false [K2 43 (.bin .add) 10 (iV 1), O1 10 .mv 43]))))
def x55 : XFn := ⟨44, (.seq (.reg false [K1 2 .mv (.int .u64 0), K1 3 .mv (.slice none 0 0), K1 4 .mv (iV 0)]) (.seq (.reg false [K1 5 .mv (.int .u64 0)]) (.seq (.seq (.reg false [O1 8 .mv 0, O1 9 .lenS 8, K1 10 .mv (iV 0)]) (.block 0 (.loop x55L0))) (.seq (.reg false [K1 2 .mv (.int .u64 0), K1 3 .mv (.slice none 0 0), K1 4 .mv (iV 4)]) .ret)))), [(.s 2), (.s 3), (.s 4)]⟩
theorem x55_ok : xfn Tryz.prog Tryz.f55 = some x55.er := by kernel_rfl
def x82L0 : XC := (.seq (.reg false [K2 17 (.bin .lss) 16 (iV 8)]) (.seq (.cond (.t 17) .skip (.exit 2)) (.seq (.block 3 (.reg false [O1 18 .mv 3, K2 19 (.bin .shr) 18 (.int .u64 1), O1 20 .mv 3, K2 21 (.bin .and) 20 (.int .u32 1), O1 22 (.un .neg) 21, ⟨(some 23), (.bin .and), [(.k (.int .u32 3988292384)), (.t 22)], none⟩, O2 24 (.bin .xor) 19 23, O1 3 .mv 24])) (.reg false [K2 25 (.bin .add) 16 (iV 1), O1 16 .mv 25]))))
def x82L1 : XC := (.seq (.reg false [O2 9 (.bin .lss) 8 7]) (.seq (.cond (.t 9) .skip (.exit 0)) (.seq (.block 1 (.seq (.reg false [O2 10 (.ixS 1) 6 8, O1 11 .load1 10, O1 5 .mv 11]) (.seq (.reg false [O1 12 .mv 3, O1 13 .mv 5, O1 14 (.conv .u32) 13, O2 15 (.bin .xor) 12 14, O1 3 .mv 15]) (.seq (.reg false [K1 16 .mv (iV 0)]) (.block 2 (.loop x82L0)))))) (.reg false [K2 26 (.bin .add) 8 (iV 1), O1 8 .mv 26]))))
def x82 : XFn := ⟨29, (.seq (.reg false [K1 2 .mv (.int .u32 0)]) (.seq (.reg false [K1 3 .mv (.int .u32 4294967295)]) (.seq (.seq (.reg false [O1 6 .mv 0, O1 7 .lenS 6, K1 8 .mv (iV 0)]) (.block 0 (.loop x82L1))) (.seq (.reg false [O1 27 .mv 3, O1 28 (.un .xor) 27, O1 2 .mv 28]) .ret)))), [(.s 2)]⟩
theorem x82_ok : xfn Tryz.prog Tryz.f82 = some x82.er := by kernel_rfl
def g53 : Con := fun args_ E_ nn_ => match args_ with
  | [.c (.v (.int .u64 n))] => some (.e (0 ≤ n ∧ n ≤ 18446744073709551615) (.o (.c (.n (nn_ + 0)))) [((nn_ + 0), .own (uintL n.toNat).length 1 (rowF eU8 (uintL n.toNat)) 5)] (nn_ + 1))
  | _ => none
theorem c53 : COk Tryz.prog 53 g53 := by
  refine cok_e Tryz.func53 x53_ok (by kernel_rfl) (cok_tab cok_nil) ?_
  intro args_ E_ nn_ cr_ hg_
  unfold g53 at hg_
  split at hg_
  · rename_i n
    cases hg_
    refine ⟨_, _, _, _, rfl, 0, [], [.c (.v (.int .u64 n))], [], .o (.c (.n 0)), [(0, .own (uintL n.toNat).length 1 (rowF eU8 (uintL n.toNat)) 5)], 1, rfl, rfl, by simp only [renE, Ent.ren, rowF_renf] <;> rfl, rfl, by decide, and4 (by simp only [push_cast, Nat.reduceLT, Nat.reduceAdd]) ⟨rfl, trivial, by simp only [keysNodup, outN, keys] <;> decide, rfl, rfl, ?_⟩⟩
    intro hpre hlen
    refine ⟨trivial, by simp only [apartE] <;> (first | trivial | (simp [Ent.mut]; done)), ?_⟩
    simp (maxSteps := 9999999) only [x53, push_cast, simprocAttr]
    refine vcLoop_upd (α := {s : Nat × List Int // s.1 ≤ 18446744073709551615 ∧ s.2 ++ uintL s.1 = uintL n.toNat}) [] 1 (fun s => [(0, .o (.c (.v (.int .u64 (s.1.1 : Nat))))), (3, .o (.c (.n 0)))]) (fun s => [(0, .own (s.1.2).length 1 (rowF eU8 (s.1.2)) 5)]) (fun s => s.1.1) ⟨(n.toNat, []), by simp only; omega, by simp⟩ ?_ ?_
    · simp only [push_cast, simprocAttr]
      omega
    rintro ⟨⟨m, L⟩, hm, hL⟩
    simp only at hm hL
    simp only [x53L0, push_cast, simprocAttr]
    have hl : L.length ≤ 10 := by
      have h1 := uintL_10 (n := n.toNat) (by omega)
      rw [← hL, List.length_append] at h1; omega
    rw [wrap8]
    refine ⟨fun h1 => ⟨by omega, ⟨(m / 128, L ++ [((m % 128 + 128 : Nat) : Int)]), by simp only; omega, ?_⟩, ⟨?_, push_eq (E := eU8) (x := bitI .or .u8 ((m % 256 : Nat) : Int) 128) ?_⟩, by simp only; omega⟩, fun h1 => ⟨by omega, push_eq (E := eU8) (x := ((m % 256 : Nat) : Int)) ?_⟩⟩
    · simp only; rw [← hL, uintL_ge (n := m) (by omega)]; simp
    · show (m : Int).fdiv 128 = ((m / 128 : Nat) : Int)
      rw [Int.fdiv_eq_ediv_of_nonneg _ (by omega)]; omega
    · simp only; rw [or128 (Nat.mod_lt _ (by omega))]
      congr 3; omega
    · rw [← hL, uintL_lt (by omega), Nat.mod_eq_of_lt (by omega)]
  · cases hg_
def g55 : Con := fun args_ E_ nn_ => match args_ with
  | [.c (.n b)] => (match rowOf E_ b with
    | some (b_n, b_s, b_f) => some (.e (isRow eU8 b_n b_s b_f ∧ u8s (decL eU8 b_n b_f) ∧ ((decL eU8 b_n b_f)).length ≤ 100000) (.t [.c (.v (.int .u64 ((rdU (decL eU8 b_n b_f)).1 : Nat))), .c (.n (nn_ + 0)), .c (.v (.int .i64 ((rdU (decL eU8 b_n b_f)).2.2)))]) [((nn_ + 0), .own ((rdU (decL eU8 b_n b_f)).2.1).length 1 (rowF eU8 ((rdU (decL eU8 b_n b_f)).2.1)) 5)] (nn_ + 1))
    | none => none)
  | _ => none
theorem c55 : COk Tryz.prog 55 g55 := by
  refine cok_e Tryz.func55 x55_ok (by kernel_rfl) (cok_tab (cok_cons c23 cok_nil)) ?_
  intro args_ E_ nn_ cr_ hg_
  unfold g55 at hg_
  split at hg_
  · rename_i b
    split at hg_
    · rename_i b_n b_s b_f h_b
      cases hg_
      refine ⟨_, _, _, _, rfl, 1, [b], [.c (.n 0)], [(0, .ro (decL eU8 b_n b_f).length eU8.sz (rowF eU8 (decL eU8 b_n b_f)))], .t [.c (.v (.int .u64 ((rdU (decL eU8 b_n b_f)).1 : Nat))), .c (.n 1), .c (.v (.int .i64 ((rdU (decL eU8 b_n b_f)).2.2)))], [(1, .own ((rdU (decL eU8 b_n b_f)).2.1).length 1 (rowF eU8 ((rdU (decL eU8 b_n b_f)).2.1)) 5)], 2, rfl, rfl, by simp only [renE, Ent.ren, rowF_renf] <;> rfl, rfl, by decide, and4 (by simp only [push_cast, Nat.reduceLT, Nat.reduceAdd]) ⟨rfl, ⟨inE0_row h_b, trivial⟩, by simp only [keysNodup, outN, keys] <;> decide, rfl, rfl, ?_⟩⟩
      intro hpre hlen
      obtain ⟨i_b, hpre⟩ := hpre
      refine ⟨⟨inE_row h_b i_b, trivial⟩, by simp only [apartE] <;> (first | trivial | (simp [Ent.mut]; done)), ?_⟩
      have z_b := lens_row (E := eU8) hlen h_b
      clear i_b
      generalize decL eU8 b_n b_f = bL at *
      clear h_b
      simp (maxSteps := 9999999) only [x55, push_cast, simprocAttr, g23]
      refine vcLoop_upd (α := {s : Nat × Nat // s.1 ≤ bL.length ∧ s.1 ≤ 9 ∧ s.2 < 128 ^ s.1 ∧ rdU bL = rdG (bL.drop s.1) s.1 s.2}) [0, 8, 9] 0 (fun s => [(5, .o (.c (.v (.int .u64 (s.1.2 : Nat))))), (10, .o (.c (.v (.int .i64 (s.1.1 : Nat)))))]) (fun s => []) (fun s => 10 - s.1.1) ⟨(0, 0), by simp only; omega, by simp only; omega, by simp, rfl⟩ ?_ ?_
      · simp only [push_cast, simprocAttr, g23]
      rintro ⟨⟨k, n⟩, hk, hk9, hn, hr⟩
      simp only at hk hk9 hn hr
      simp only [x55L0, push_cast, simprocAttr, g23]
      refine ⟨fun hlt => ⟨hlt, hlt, ?_⟩, fun hge => ?_⟩
      · have hc := u8s_at hpre.1 hlt
        rw [drop_cons eU8.dflt hlt] at hr
        generalize bL.getD k eU8.dflt = c at hc hr
        obtain ⟨c, rfl⟩ : ∃ m : Nat, c = m := ⟨c.toNat, by omega⟩
        simp only [rdG, Int.toNat_natCast] at hr
        rw [wrapI (n := 7 * (k : Int)) (by omega) (by omega), wrapI (n := (k : Int) + 1) (by omega) (by omega)]
        refine ⟨fun h1 h2 => ?_, fun h1 => ⟨by omega, ?_⟩⟩
        · rw [if_pos ⟨by omega, h2⟩] at hr
          rw [hr]; exact ⟨⟨rfl, rfl⟩, rfl⟩
        have h9 : ¬ (k = 9 ∧ (1 : Int) < (c : Int)) := by
          rintro ⟨rfl, q⟩
          simp at h1; omega
        rw [if_neg h9] at hr
        have hb : n + (c % 128) * 128 ^ k < 18446744073709551616 := rd_bd hn hk9 (by omega) (fun q => by omega)
        have hsh : IntKind.u64.wrap (IntKind.u64.wrap (bitI .andNot .u8 (c : Int) 128) * 2 ^ min (7 * (k : Int)).toNat IntKind.u64.bits) = (((c % 128) * 128 ^ k : Nat) : Int) := by
          rw [andn128 (by omega), wrap64 (by omega)]
          have e : (2 : Int) ^ min (7 * (k : Int)).toNat IntKind.u64.bits = ((128 ^ k : Nat) : Int) := by
            have b : IntKind.u64.bits = 64 := rfl
            rw [b, show min (7 * (k : Int)).toNat 64 = 7 * k by omega, Int.pow_mul]; simp
          rw [e, ← Int.natCast_mul, wrap64 (by omega)]
        rw [hsh, or_pow hn hb]
        refine ⟨fun h2 => ?_, fun h2 => ?_⟩
        · rw [if_pos (by omega)] at hr
          exact ⟨⟨(k + 1, n + c % 128 * 128 ^ k), by simp only; omega, by simp only; omega, by simp only; rw [Nat.pow_succ]; exact rd_lt hn (Nat.mod_lt _ (by omega)), hr⟩, ⟨rfl, by simp only; omega⟩, by simp only; omega⟩
        · rw [if_neg (by omega)] at hr
          refine ⟨fun h3 h4 => ?_, fun h3 => ?_⟩
          · rw [if_pos ⟨h3, by omega⟩] at hr
            rw [hr]; exact ⟨⟨rfl, rfl⟩, rfl⟩
          · rw [if_neg (by rintro ⟨q1, q2⟩; simp [q1] at h3; omega)] at hr
            obtain ⟨s1, s2⟩ := sl_from (L := bL) (z := (k : Int) + 1) (k := k + 1) (by omega) (by omega)
            rw [s1, hr]
            refine ⟨by omega, ⟨s2, by rw [List.length_drop]; omega⟩, ⟨by rw [Nat.mod_eq_of_lt (by omega)], rfl⟩, same_eq rfl⟩
      · rw [List.drop_eq_nil_of_le (by omega)] at hr
        rw [hr]; exact ⟨⟨rfl, rfl⟩, rfl⟩
    · cases hg_
  · cases hg_
def g82 : Con := fun args_ E_ nn_ => match args_ with
  | [.c (.n b)] => (match rowOf E_ b with
    | some (b_n, b_s, b_f) => some (.q (isRow eU8 b_n b_s b_f ∧ True) (.o (.c (.v (.int .u32 (sumV (decL eU8 b_n b_f)))))))
    | none => none)
  | _ => none
theorem c82 : COk Tryz.prog 82 g82 := by
  refine cok_q Tryz.func82 x82_ok (by kernel_rfl) (cok_tab cok_nil) ?_
  intro args_ E_ nn_ cr_ hg_
  unfold g82 at hg_
  split at hg_
  · rename_i b
    split at hg_
    · rename_i b_n b_s b_f h_b
      cases hg_
      refine ⟨_, _, rfl, 1, [b], [.c (.n 0)], [(0, .ro (decL eU8 b_n b_f).length eU8.sz (rowF eU8 (decL eU8 b_n b_f)))], .o (.c (.v (.int .u32 (sumV (decL eU8 b_n b_f))))), rfl, rfl, and3 (by simp only [push_cast, Nat.reduceLT, Nat.reduceAdd]) ⟨rfl, ⟨inE0_row h_b, trivial⟩, rfl, ?_⟩⟩
      intro hpre hlen
      obtain ⟨i_b, hpre⟩ := hpre
      refine ⟨⟨inE_row h_b i_b, trivial⟩, ?_⟩
      have z_b := lens_row (E := eU8) hlen h_b
      clear i_b
      generalize decL eU8 b_n b_f = bL at *
      clear h_b
      simp (maxSteps := 9999999) only [x82, push_cast, simprocAttr]
      refine vcLoop_upd (α := {s : Nat × Int // s.1 ≤ bL.length ∧ sumG (bL.drop s.1) s.2 = sumG bL 4294967295}) [6, 7] 0 (fun s => [(3, .o (.c (.v (.int .u32 s.1.2)))), (8, .o (.c (.v (.int .i64 (s.1.1 : Nat)))))]) (fun s => []) (fun s => bL.length - s.1.1) ⟨(0, 4294967295), by simp only; omega, rfl⟩ ?_ ?_
      · simp only [push_cast, simprocAttr]
      rintro ⟨⟨k, n⟩, hk, hs⟩
      simp only at hk hs
      simp only [x82L1, push_cast, simprocAttr]
      refine ⟨fun hlt => ⟨hlt, hlt, ?_⟩, fun hge => ?_⟩
      · rw [drop_cons eU8.dflt hlt] at hs
        generalize bL.getD k eU8.dflt = c at hs
        simp only [sumG] at hs
        generalize hm : bitI BinOp.xor IntKind.u32 n (IntKind.u32.wrap c) = m0 at hs
        refine vcLoop_upd (α := {s : Nat × Int // s.1 ≤ 8 ∧ crcN (8 - s.1) s.2 = crcN 8 m0}) [6, 7, 8] 0 (fun s => [(3, .o (.c (.v (.int .u32 s.1.2)))), (16, .o (.c (.v (.int .i64 (s.1.1 : Nat)))))]) (fun s => []) (fun s => 8 - s.1.1) ⟨(0, m0), by simp only; omega, rfl⟩ ?_ ?_
        · simp only [push_cast, simprocAttr]
        rintro ⟨⟨j, m⟩, hj, hc⟩
        simp only at hj hc
        simp only [x82L0, push_cast, simprocAttr]
        refine ⟨fun h8 => ?_, fun h8 => ?_⟩
        · refine ⟨⟨(j + 1, crcS m), by simp only; omega, ?_⟩, ⟨rfl, wrapI (by omega) (by omega)⟩, by simp only; omega⟩
          simp only
          rw [← hc, show 8 - j = (8 - (j + 1)) + 1 by omega]
          rfl
        · obtain rfl : j = 8 := by omega
          exact ⟨⟨(k + 1, m), by simp only; omega, by simp only; rw [← hs, ← hc]; rfl⟩, ⟨rfl, wrapI (by omega) (by omega)⟩, by simp only; omega⟩
      rw [List.drop_eq_nil_of_le (by omega)] at hs
      simp only [sumG] at hs
      rw [hs]
      rfl
    · cases hg_
  · cases hg_
end Go.Proofs.YtkpdofgmmpbknaaGreat
namespace Go.Proofs.YtkpdofgmmpbknaaGreat
open Go.Sx Go.Way
def zig (n : Int) : Nat := (if 0 ≤ n then 2 * n else -2 * n - 1).toNat
def unz (n : Nat) : Int := if n % 2 = 0 then ((n / 2 : Nat) : Int) else -((n / 2 : Nat) : Int) - 1
theorem unz_zig (n : Int) : unz (zig n) = n := by
  unfold unz zig
  by_cases h : 0 ≤ n
  · rw [if_pos h, if_pos (by omega)]; omega
  · rw [if_neg h, if_neg (by omega)]; omega
theorem wr64 (x : Int) : IntKind.u64.wrap x = x % 18446744073709551616 := by
  simp [IntKind.wrap, IntKind.bits, IntKind.signed]
theorem xor_0 (x : Nat) (h : x < 18446744073709551616) : bitI .xor .u64 (x : Int) 0 = x := by
  unfold bitI
  have b : IntKind.u64.bits = 64 := rfl
  simp only [b, BitVec.toNat_xor, BitVec.toNat_ofInt]
  have e1 : (((x : Int) % ((2 ^ 64 : Nat) : Int))).toNat = x := by omega
  have e2 : (((0 : Int) % ((2 ^ 64 : Nat) : Int))).toNat = 0 := by omega
  rw [e1, e2, Nat.xor_zero, wr64]; omega
theorem xor_1 (x : Nat) (h : x < 18446744073709551616) : bitI .xor .u64 (x : Int) 18446744073709551615 = 18446744073709551615 - x := by
  show IntKind.u64.wrap (((BitVec.ofInt 64 (x : Int) ^^^ BitVec.ofInt 64 18446744073709551615).toNat : Nat) : Int) = _
  have e0 : BitVec.ofInt 64 18446744073709551615 = BitVec.allOnes 64 := by decide
  rw [e0, BitVec.xor_allOnes, BitVec.toNat_not, BitVec.toNat_ofInt, wr64]
  have e2 : (((x : Int) % ((2 ^ 64 : Nat) : Int))).toNat = x := by omega
  rw [e2]; omega
theorem zig_eq {n : Int} (h : -4611686018427387904 ≤ n ∧ n ≤ 4611686018427387903) : bitI .xor .u64 (IntKind.u64.wrap (IntKind.u64.wrap n * 2 ^ min 1 IntKind.u64.bits)) (IntKind.u64.wrap (n.fdiv (2 ^ min 63 IntKind.i64.bits))) = zig n := by
  have p1 : (2 : Int) ^ min 1 IntKind.u64.bits = 2 := by decide
  have p2 : (2 : Int) ^ min 63 IntKind.i64.bits = 9223372036854775808 := by decide
  rw [p1, p2, wr64 n, wr64 (_ * 2), wr64 (n.fdiv _)]
  unfold zig
  by_cases hn : 0 ≤ n
  · have e : n.fdiv 9223372036854775808 = 0 := by rw [Int.fdiv_eq_ediv_of_nonneg _ (by omega)]; omega
    rw [e, if_pos hn]
    have e2 : n % 18446744073709551616 * 2 % 18446744073709551616 = ((2 * n).toNat : Int) := by omega
    rw [e2, show (0 : Int) % 18446744073709551616 = 0 by decide, xor_0 _ (by omega)]
  · have e : n.fdiv 9223372036854775808 = -1 := by rw [Int.fdiv_eq_ediv_of_nonneg _ (by omega)]; omega
    rw [e, if_neg hn]
    have e2 : n % 18446744073709551616 * 2 % 18446744073709551616 = ((18446744073709551616 + 2 * n).toNat : Int) := by omega
    rw [e2, show (-1 : Int) % 18446744073709551616 = 18446744073709551615 by decide, xor_1 _ (by omega)]; omega
theorem and_1u (x : Nat) (h : x < 18446744073709551616) : bitI .and .u64 (x : Int) 1 = ((x % 2 : Nat) : Int) := by
  unfold bitI
  have b : IntKind.u64.bits = 64 := rfl
  simp only [b, BitVec.toNat_and, BitVec.toNat_ofInt]
  have e1 : (((x : Int) % ((2 ^ 64 : Nat) : Int))).toNat = x := by omega
  have e2 : (((1 : Int) % ((2 ^ 64 : Nat) : Int))).toNat = 2 ^ 1 - 1 := by decide
  rw [e1, e2, Nat.and_two_pow_sub_one_eq_mod, wr64]; omega
theorem xor_0i (x : Nat) (h : x < 4611686018427387904) : bitI .xor .i64 (x : Int) 0 = x := by
  unfold bitI
  have b : IntKind.i64.bits = 64 := rfl
  simp only [b, BitVec.toNat_xor, BitVec.toNat_ofInt]
  have e1 : (((x : Int) % ((2 ^ 64 : Nat) : Int))).toNat = x := by omega
  have e2 : (((0 : Int) % ((2 ^ 64 : Nat) : Int))).toNat = 0 := by omega
  rw [e1, e2, Nat.xor_zero, wrapI (by omega) (by omega)]
theorem wr_neg {x : Int} (h : 9223372036854775808 ≤ x ∧ x < 18446744073709551616) : IntKind.i64.wrap x = x - 18446744073709551616 := by
  simp [IntKind.wrap, IntKind.bits, IntKind.signed]
  omega
theorem xor_1i (x : Nat) (h : x < 4611686018427387904) : bitI .xor .i64 (x : Int) (-1) = -(x : Int) - 1 := by
  show IntKind.i64.wrap (((BitVec.ofInt 64 (x : Int) ^^^ BitVec.ofInt 64 (-1)).toNat : Nat) : Int) = _
  have e0 : BitVec.ofInt 64 (-1) = BitVec.allOnes 64 := by decide
  rw [e0, BitVec.xor_allOnes, BitVec.toNat_not, BitVec.toNat_ofInt]
  have e2 : (((x : Int) % ((2 ^ 64 : Nat) : Int))).toNat = x := by omega
  rw [e2, wr_neg (by omega)]; omega
theorem unz_eq {n : Nat} (h : n < 9223372036854775808) : bitI .xor .i64 (IntKind.i64.wrap ((n : Int).fdiv (2 ^ min 1 IntKind.u64.bits))) (IntKind.i64.wrap (0 - IntKind.i64.wrap (bitI .and .u64 (n : Int) 1))) = unz n := by
  have p1 : (2 : Int) ^ min 1 IntKind.u64.bits = 2 := by decide
  have e : (n : Int).fdiv 2 = ((n / 2 : Nat) : Int) := by rw [Int.fdiv_eq_ediv_of_nonneg _ (by omega)]; omega
  rw [p1, e, and_1u _ (by omega), wrapI (n := ((n / 2 : Nat) : Int)) (by omega) (by omega), wrapI (n := ((n % 2 : Nat) : Int)) (by omega) (by omega)]
  unfold unz
  by_cases hn : n % 2 = 0
  · rw [if_pos hn, hn, wrapI (by omega) (by omega)]
    exact xor_0i _ (by omega)
  · have : n % 2 = 1 := by omega
    rw [if_neg hn, this, wrapI (by omega) (by omega)]
    exact xor_1i _ (by omega)
def sumB : Nat → Int → List Int
  | 0, _ => []
  | n + 1, s => IntKind.u8.wrap s :: sumB n (s.fdiv (2 ^ min 8 IntKind.u32.bits))
def chkL (L : List Int) : List Int := L ++ sumB 4 (sumV L)
theorem sumB_len : ∀ (n : Nat) (s : Int), (sumB n s).length = n
  | 0, _ => rfl
  | n + 1, s => by simp [sumB, sumB_len n]
theorem wrap8_bd (s : Int) : 0 ≤ IntKind.u8.wrap s ∧ IntKind.u8.wrap s ≤ 255 := by
  have : IntKind.u8.wrap s = s % 256 := by simp [IntKind.wrap, IntKind.bits, IntKind.signed]
  omega
theorem sumB_u8 : ∀ (n : Nat) (s : Int), u8s (sumB n s)
  | 0, _ => fun x hx => by simp [sumB] at hx
  | n + 1, s => fun x hx => by
    simp only [sumB, List.mem_cons] at hx
    rcases hx with rfl | hx
    · exact wrap8_bd s
    · exact sumB_u8 n _ x hx
theorem u8s_app {L M : List Int} (h1 : u8s L) (h2 : u8s M) : u8s (L ++ M) := fun x hx => (List.mem_append.1 hx).elim (h1 x) (h2 x)
theorem chkL_u8 {L : List Int} (h : u8s L) : u8s (chkL L) := u8s_app h (sumB_u8 _ _)
def bytL (d : List Int) : List Int := uintL d.length ++ d
def frL (k : Int) (d : List Int) : List Int := chkL (k :: bytL d)
theorem app_eq {L M : List Int} {n m : Nat} {b : Bnd} (hn : n = L.length) (hm : m = M.length) : n + m = (L ++ M).length ∧ rowEq (n + m) 1 (catF n (rowF eU8 L) (rowF eU8 M)) (rowF eU8 (L ++ M)) (SC.sub b) := by
  subst hn hm
  refine ⟨by simp, fun e j he hj => ?_⟩
  rw [catF_at eU8 L M he]
  exact (rowF_sub _ _ _ _).symm
theorem cons_row {L : List Int} (x : Int) : decL eU8 (1 + L.length) (catF 1 (litF [SC.v (Value.int IntKind.u8 x)] 1) (rowF eU8 L)) = x :: L ∧ isRow eU8 (1 + L.length) 1 (catF 1 (litF [SC.v (Value.int IntKind.u8 x)] 1) (rowF eU8 L)) := by
  have h : ∀ e j, e < 1 + L.length → j < 1 → catF 1 (litF [SC.v (Value.int IntKind.u8 x)] 1) (rowF eU8 L) e j = rowF eU8 (x :: L) e j := by
    intro e j he hj
    obtain rfl : j = 0 := by omega
    have := catF_at eU8 [x] L (e := e) (j := 0) (by simpa using he)
    rw [List.singleton_append] at this
    rw [← this]
    unfold catF
    split
    · rename_i h1
      have : e < 1 := h1
      obtain rfl : e = 0 := by omega
      rfl
    · rename_i h1
      rw [if_neg (show ¬ e < [x].length from h1)]; rfl
  exact ⟨decL_eq (by simp; omega) h, isRow_of (L := x :: L) (by simp; omega) (.inr rfl) h⟩
def unf (b : List Int) : Int × List Int × List Int × Int :=
  match b with
  | [] => (0, [], [], 4)
  | k :: l =>
    if (rdU l).2.2 ≠ 0 then (0, [], [], (rdU l).2.2)
    else if 4096 < (rdU l).1 then (0, [], [], 6)
    else if (rdU l).2.1.length < (rdU l).1 + 4 then (0, [], [], 4)
    else if chkL ((k :: l).take (l.length + 1 - (rdU l).2.1.length + (rdU l).1)) ≠ (k :: l).take (l.length + 1 - (rdU l).2.1.length + (rdU l).1 + 4) then (0, [], [], 5)
    else (k, (rdU l).2.1.take (rdU l).1, (rdU l).2.1.drop ((rdU l).1 + 4), 0)
theorem rdG_len : ∀ (l : List Int) (i a : Nat), (rdG l i a).2.1.length ≤ l.length
  | [], _, _ => by simp [rdG]
  | c :: l, i, a => by
    simp only [rdG]
    split
    · simp
    · split
      · exact Nat.le_succ_of_le (rdG_len l _ _)
      · split <;> simp
theorem rdU_len (l : List Int) : (rdU l).2.1.length ≤ l.length := rdG_len l 0 0
theorem frL_eq (k : Int) (d : List Int) : frL k d = k :: (uintL d.length ++ (d ++ sumB 4 (sumV (k :: bytL d)))) := by
  unfold frL chkL bytL; simp
theorem frL_len (k : Int) (d : List Int) : (frL k d).length = (uintL d.length).length + d.length + 5 := by
  rw [frL_eq]; simp [sumB_len]; omega
theorem unf_fr {k : Int} {d r : List Int} (h : d.length ≤ 4096) : unf (frL k d ++ r) = (k, d, r, 0) := by
  have hs : (sumB 4 (sumV (k :: bytL d))).length = 4 := sumB_len _ _
  have hc : chkL (k :: bytL d) = k :: (uintL d.length ++ (d ++ sumB 4 (sumV (k :: bytL d)))) := frL_eq k d
  rw [frL_eq]
  generalize sumB 4 (sumV (k :: bytL d)) = S at hs hc
  have e : k :: (uintL d.length ++ (d ++ S)) ++ r = k :: (uintL d.length ++ (d ++ S ++ r)) := by simp
  have hz : rdU (uintL d.length ++ (d ++ S ++ r)) = (d.length, d ++ S ++ r, 0) := rdU_uint _ (by omega)
  rw [e]
  simp only [unf, hz]
  have n1 : ((uintL d.length ++ (d ++ S ++ r)).length + 1 - (d ++ S ++ r).length + d.length) = (k :: bytL d).length := by simp [bytL, hs]; omega
  rw [if_neg (by decide), if_neg (by omega), if_neg (by simp [hs]; try omega), if_neg]
  · have e2 : (d ++ S ++ r).take d.length = d := by rw [List.append_assoc, List.take_left]
    have e3 : (d ++ S ++ r).drop (d.length + 4) = r := List.drop_left' (by simp [hs])
    rw [e2, e3]
  · rw [n1]
    have e2 : (k :: (uintL d.length ++ (d ++ S ++ r))).take (k :: bytL d).length = k :: bytL d := by
      have : k :: (uintL d.length ++ (d ++ S ++ r)) = (k :: bytL d) ++ (S ++ r) := by simp [bytL]
      rw [this, List.take_left]
    have e3 : (k :: (uintL d.length ++ (d ++ S ++ r))).take ((k :: bytL d).length + 4) = k :: (uintL d.length ++ (d ++ S)) := by
      have : k :: (uintL d.length ++ (d ++ S ++ r)) = (k :: (uintL d.length ++ (d ++ S))) ++ r := by simp
      rw [this]
      exact List.take_left' (by simp [bytL, hs]; try omega)
    rw [e2, e3, hc]
    exact fun hh => hh rfl
theorem unf_part {k : Int} {d p q : List Int} (h : p ++ q = frL k d) (hq : q ≠ []) (hd : d.length ≤ 4096) : (unf p).2.2.2 = 4 := by
  rw [frL_eq] at h
  have hs : (sumB 4 (sumV (k :: bytL d))).length = 4 := sumB_len _ _
  generalize sumB 4 (sumV (k :: bytL d)) = S at hs h
  cases p with
  | nil => rfl
  | cons c l =>
    simp only [List.cons_append, List.cons.injEq] at h
    obtain ⟨rfl, h⟩ := h
    rcases List.append_eq_append_iff.1 h with ⟨z, h1, h2⟩ | ⟨z, h1, h2⟩
    · -- uintL = l ++ z
      by_cases hz : z = []
      · subst hz
        simp only [List.append_nil] at h1
        simp only [List.nil_append] at h2
        have hl : rdU l = (d.length, [], 0) := by
          have := rdU_uint (n := d.length) [] (by omega)
          rw [List.append_nil, h1] at this; exact this
        simp only [unf, hl]
        rw [if_neg (by decide), if_neg (by omega), if_pos (by simp)]
      · have hl : rdU l = (0, [], 4) := rdU_part h1.symm hz (by omega)
        simp only [unf, hl]
        rw [if_pos (by decide)]
    · -- l = uintL ++ z
      subst h1
      have hl : rdU (uintL d.length ++ z) = (d.length, z, 0) := rdU_uint _ (by omega)
      simp only [unf, hl]
      have hlen := congrArg List.length h2
      simp only [List.length_append, hs] at hlen
      have hq0 : 0 < q.length := List.length_pos_iff.2 hq
      rw [if_neg (by decide), if_neg (by omega), if_pos (by omega)]
def x52 : XFn := ⟨11, (.seq (.reg false [K1 2 .mv (.slice none 0 0)]) (.seq (.reg false [O1 3 .mv 0, O1 4 (.conv .u64) 3, K2 5 (.bin .shl) 4 (.int .u64 1), O1 6 .mv 0, K2 7 (.bin .shr) 6 (.int .u64 63), O1 8 (.conv .u64) 7, O2 9 (.bin .xor) 5 8, O1 10 (.call 53) 9, O1 2 .mv 10]) .ret)), [(.s 2)]⟩
theorem x52_ok : xfn Tryz.prog Tryz.f52 = some x52.er := by kernel_rfl
def x50L0 : XC := (.seq (.reg false [K2 7 (.bin .lss) 6 (iV 4)]) (.seq (.cond (.t 7) .skip (.exit 0)) (.seq (.block 1 (.seq (.reg false [O1 8 .mv 0, O1 9 .mv 3, O1 10 (.conv .u8) 9, ⟨(some 11), (.slit 5 1 1 [(.int .u8 0)] [(0, 1)]), [(.t 10)], none⟩, O2 12 (.app 5 1 1) 8 11, O1 0 .mv 12]) (.reg false [O1 13 .mv 3, K2 14 (.bin .shr) 13 (.int .u64 8), O1 3 .mv 14]))) (.reg false [K2 15 (.bin .add) 6 (iV 1), O1 6 .mv 15]))))
def x50 : XFn := ⟨17, (.seq (.reg false [K1 2 .mv (.slice none 0 0)]) (.seq (.reg false [O1 4 .mv 0, O1 5 (.call 82) 4, O1 3 .mv 5]) (.seq (.seq (.reg false [K1 6 .mv (iV 0)]) (.block 0 (.loop x50L0))) (.seq (.reg false [O1 16 .mv 0, O1 2 .mv 16]) .ret)))), [(.s 2)]⟩
theorem x50_ok : xfn Tryz.prog Tryz.f50 = some x50.er := by kernel_rfl
def x51 : XFn := ⟨9, (.seq (.reg false [K1 2 .mv (.slice none 0 0)]) (.seq (.reg false [O1 3 .mv 0, O1 4 .lenS 3, O1 5 (.conv .u64) 4, O1 6 (.call 53) 5, O1 7 .mv 0, O2 8 (.app 5 1 1) 6 7, O1 2 .mv 8]) .ret)), [(.s 2)]⟩
theorem x51_ok : xfn Tryz.prog Tryz.f51 = some x51.er := by kernel_rfl
def x26 : XFn := ⟨15, (.seq (.reg false [K1 4 .mv (.slice none 0 0), K1 5 .mv (iV 0)]) (.seq (.seq (.reg false [O1 6 .mv 1, O1 7 .lenS 6, K2 8 (.bin .gtr) 7 (iV 4096)]) (.cond (.t 8) (.seq (.reg false [K1 4 .mv (.slice none 0 0), K1 5 .mv (iV 6)]) .ret) .skip)) (.seq (.reg false [O1 9 .mv 0, ⟨(some 10), (.slit 5 1 1 [(.int .u8 0)] [(0, 1)]), [(.t 9)], none⟩, O1 11 .mv 1, O1 12 (.call 51) 11, O2 13 (.app 5 1 1) 10 12, O1 14 (.call 50) 13, O1 4 .mv 14, K1 5 .mv (iV 0)]) .ret))), [(.s 4), (.s 5)]⟩
theorem x26_ok : xfn Tryz.prog Tryz.f26 = some x26.er := by kernel_rfl
def x56L0 : XC := (.seq (.reg false [O2 14 (.bin .lss) 13 12]) (.seq (.cond (.t 14) .skip (.exit 0)) (.seq (.block 1 (.seq (.reg false [O1 15 .mv 13, O1 5 .mv 15]) (.seq (.reg true [O1 16 .mv 0, O1 17 .mv 5, O2 18 (.ixS 1) 16 17, O1 19 .load1 18, O1 20 .mv 1, O1 21 .mv 5, O2 22 (.ixS 1) 20 21, O1 23 .load1 22, O2 24 (.bin .neq) 19 23]) (.cond (.t 24) (.seq (.reg false [K1 4 .mv (.bool false)]) .ret) .skip)))) (.reg false [K2 25 (.bin .add) 13 (iV 1), O1 13 .mv 25]))))
def x56 : XFn := ⟨26, (.seq (.reg false [K1 4 .mv (.bool false)]) (.seq (.seq (.reg false [O1 6 .mv 0, O1 7 .lenS 6, O1 8 .mv 1, O1 9 .lenS 8, O2 10 (.bin .neq) 7 9]) (.cond (.t 10) (.seq (.reg false [K1 4 .mv (.bool false)]) .ret) .skip)) (.seq (.seq (.reg false [O1 11 .mv 0, O1 12 .lenS 11, K1 13 .mv (iV 0)]) (.block 0 (.loop x56L0))) (.seq (.reg false [K1 4 .mv (.bool true)]) .ret)))), [(.s 4)]⟩
theorem x56_ok : xfn Tryz.prog Tryz.f56 = some x56.er := by kernel_rfl
def x83 : XFn := ⟨26, (.seq (.reg false [K1 2 .mv (iV 0), K1 3 .mv (.slice none 0 0), K1 4 .mv (iV 0)]) (.seq (.reg false [O1 9 .mv 0, O1 10 (.call 55) 9, O1 8 .mv 10, O1 11 (.ext 0) 8, O1 12 (.ext 1) 8, O1 13 (.ext 2) 8, O1 5 .mv 11, O1 6 .mv 12, O1 7 .mv 13]) (.seq (.seq (.reg false [O1 14 .mv 7, K2 15 (.bin .neq) 14 (iV 0)]) (.cond (.t 15) (.seq (.reg false [O1 16 .mv 7, K1 2 .mv (iV 0), K1 3 .mv (.slice none 0 0), O1 4 .mv 16]) .ret) .skip)) (.seq (.reg false [O1 17 .mv 5, K2 18 (.bin .shr) 17 (.int .u64 1), O1 19 (.conv .i64) 18, O1 20 .mv 5, K2 21 (.bin .and) 20 (.int .u64 1), O1 22 (.conv .i64) 21, O1 23 (.un .neg) 22, O2 24 (.bin .xor) 19 23, O1 25 .mv 6, O1 2 .mv 24, O1 3 .mv 25, K1 4 .mv (iV 0)]) .ret)))), [(.s 2), (.s 3), (.s 4)]⟩
theorem x83_ok : xfn Tryz.prog Tryz.f83 = some x83.er := by kernel_rfl
def g52 : Con := fun args_ E_ nn_ => match args_ with
  | [.c (.v (.int .i64 n))] => some (.e (-4611686018427387904 ≤ n ∧ n ≤ 4611686018427387903) (.o (.c (.n (nn_ + 0)))) [((nn_ + 0), .own (uintL (zig n)).length 1 (rowF eU8 (uintL (zig n))) 5)] (nn_ + 1))
  | _ => none
theorem c52 : COk Tryz.prog 52 g52 := by
  refine cok_e Tryz.func52 x52_ok (by kernel_rfl) (cok_tab (cok_cons c53 cok_nil)) ?_
  intro args_ E_ nn_ cr_ hg_
  unfold g52 at hg_
  split at hg_
  · rename_i n
    cases hg_
    refine ⟨_, _, _, _, rfl, 0, [], [.c (.v (.int .i64 n))], [], .o (.c (.n 0)), [(0, .own (uintL (zig n)).length 1 (rowF eU8 (uintL (zig n))) 5)], 1, rfl, rfl, by simp only [renE, Ent.ren, rowF_renf] <;> rfl, rfl, by decide, and4 (by simp only [push_cast, Nat.reduceLT, Nat.reduceAdd]) ⟨rfl, trivial, by simp only [keysNodup, outN, keys] <;> decide, rfl, rfl, ?_⟩⟩
    intro hpre hlen
    refine ⟨trivial, by simp only [apartE] <;> (first | trivial | (simp [Ent.mut]; done)), ?_⟩
    simp (maxSteps := 9999999) only [x52, push_cast, simprocAttr, g53]
    rw [zig_eq hpre]
    have hz : zig n < 9223372036854775808 := by unfold zig; split <;> omega
    exact ⟨by omega, by rw [Int.toNat_natCast], by rw [Int.toNat_natCast]; exact (same_eq rfl).2⟩
  · cases hg_
def g50 : Con := fun args_ E_ nn_ => match args_ with
  | [.c (.n k)] => (match E_ k with
    | some (.own k_n k_s k_f k_ty) => some (.e (isRow eU8 k_n k_s k_f ∧ k_s = 1 ∧ k_ty = 5 ∧ (decL eU8 k_n k_f).length ≤ 100000) (.o (.c (.n nn_))) [(nn_, .own (chkL (decL eU8 k_n k_f)).length 1 (rowF eU8 (chkL (decL eU8 k_n k_f))) 5), (k, .dead)] (nn_ + 1))
    | _ => none)
  | _ => none
theorem c50 : COk Tryz.prog 50 g50 := by
  refine cok_e Tryz.func50 x50_ok (by kernel_rfl) (cok_tab (cok_cons c82 cok_nil)) ?_
  intro args_ E_ nn_ cr_ hg_
  unfold g50 at hg_
  split at hg_
  · rename_i k
    split at hg_
    · rename_i k_n k_s k_f k_ty h_k
      cases hg_
      refine ⟨_, _, _, _, rfl, 1, [k], [.c (.n 0)], [(0, .own (decL eU8 k_n k_f).length eU8.sz (rowF eU8 (decL eU8 k_n k_f)) 5)], .o (.c (.n 1)), [(1, .own (chkL (decL eU8 k_n k_f)).length 1 (rowF eU8 (chkL (decL eU8 k_n k_f))) 5), (0, .dead)], 2, rfl, rfl, by simp only [renE, Ent.ren, rowF_renf] <;> rfl, rfl, by decide, and4 (by simp only [push_cast, Nat.reduceLT, Nat.reduceAdd]) ⟨rfl, ⟨⟨_, h_k⟩, trivial⟩, by simp only [keysNodup, outN, keys] <;> decide, rfl, rfl, ?_⟩⟩
      rintro ⟨hrow, rfl, rfl, hpre⟩ hlen
      have hlk : (decL eU8 k_n k_f).length ≤ 9223372036854775807 := by rw [decL_len]; exact hlen _ _ h_k
      refine ⟨⟨inE_own h_k hrow rfl, trivial⟩, ⟨fun _ k2 e2 hm hne => by (simp only [List.mem_singleton, Prod.mk.injEq] at hm; exact absurd hm.1 hne), trivial⟩, ?_⟩
      generalize decL eU8 k_n k_f = L at *
      simp (maxSteps := 9999999) only [x50, push_cast, simprocAttr, g82]
      refine vcLoop_upd (α := {s : Nat × List Int × Int // s.1 ≤ 4 ∧ s.2.1.length = L.length + s.1 ∧ s.2.1 ++ sumB (4 - s.1) s.2.2 = chkL L}) [] 1 (fun s => [(0, .o (.c (.n 1))), (3, .o (.c (.v (.int .u32 s.1.2.2)))), (6, .o (.c (.v (.int .i64 (s.1.1 : Nat)))))]) (fun s => [(1, .own (s.1.2.1).length 1 (rowF eU8 (s.1.2.1)) 5), (0, .dead)]) (fun s => 4 - s.1.1) ⟨(0, L, sumV L), by simp only; omega, rfl, rfl⟩ ?_ ?_
      · simp only [push_cast, simprocAttr, g82]
      rintro ⟨⟨j, M, v⟩, hj, hl, hc⟩
      simp only at hj hl hc
      simp only [x50L0, push_cast, simprocAttr, g82]
      refine ⟨fun h4 => ⟨by omega, ⟨(j + 1, M ++ [IntKind.u8.wrap v], v.fdiv (2 ^ min 8 IntKind.u32.bits)), by simp only; omega, by simp; omega, ?_⟩, ⟨⟨rfl, wrapI (by omega) (by omega)⟩, push_eq (E := eU8) (x := IntKind.u8.wrap v) rfl⟩, by simp only; omega⟩, fun h4 => ?_⟩
      · simp only
        rw [← hc, show 4 - j = (4 - (j + 1)) + 1 by omega]
        simp [sumB]
      · obtain rfl : j = 4 := by omega
        simp only [Nat.sub_self, sumB, List.append_nil] at hc
        rw [hc]; exact same_eq rfl
    · cases hg_
  · cases hg_
def g51 : Con := fun args_ E_ nn_ => match args_ with
  | [.c (.n b)] => (match rowOf E_ b with
    | some (b_n, b_s, b_f) => some (.e (isRow eU8 b_n b_s b_f ∧ ((decL eU8 b_n b_f)).length ≤ 100000) (.o (.c (.n (nn_ + 0)))) [((nn_ + 0), .own (bytL (decL eU8 b_n b_f)).length 1 (rowF eU8 (bytL (decL eU8 b_n b_f))) 5)] (nn_ + 1))
    | none => none)
  | _ => none
theorem c51 : COk Tryz.prog 51 g51 := by
  refine cok_e Tryz.func51 x51_ok (by kernel_rfl) (cok_tab (cok_cons c53 cok_nil)) ?_
  intro args_ E_ nn_ cr_ hg_
  unfold g51 at hg_
  split at hg_
  · rename_i b
    split at hg_
    · rename_i b_n b_s b_f h_b
      cases hg_
      refine ⟨_, _, _, _, rfl, 1, [b], [.c (.n 0)], [(0, .ro (decL eU8 b_n b_f).length eU8.sz (rowF eU8 (decL eU8 b_n b_f)))], .o (.c (.n 1)), [(1, .own (bytL (decL eU8 b_n b_f)).length 1 (rowF eU8 (bytL (decL eU8 b_n b_f))) 5)], 2, rfl, rfl, by simp only [renE, Ent.ren, rowF_renf] <;> rfl, rfl, by decide, and4 (by simp only [push_cast, Nat.reduceLT, Nat.reduceAdd]) ⟨rfl, ⟨inE0_row h_b, trivial⟩, by simp only [keysNodup, outN, keys] <;> decide, rfl, rfl, ?_⟩⟩
      intro hpre hlen
      obtain ⟨i_b, hpre⟩ := hpre
      refine ⟨⟨inE_row h_b i_b, trivial⟩, by simp only [apartE] <;> (first | trivial | (simp [Ent.mut]; done)), ?_⟩
      have z_b := lens_row (E := eU8) hlen h_b
      clear i_b
      generalize decL eU8 b_n b_f = bL at *
      clear h_b
      simp (maxSteps := 9999999) only [x51, push_cast, simprocAttr, g53]
      rw [wrap64 (by omega), Int.toNat_natCast]
      have := uintL_10 (n := bL.length) (by omega)
      exact ⟨by omega, by omega, app_eq rfl rfl⟩
    · cases hg_
  · cases hg_
def g26 : Con := fun args_ E_ nn_ => match args_ with
  | [.c (.v (.int .u8 kind)), .c (.n data)] => (match rowOf E_ data with
    | some (data_n, data_s, data_f) => some (.e (isRow eU8 data_n data_s data_f ∧ ((decL eU8 data_n data_f)).length ≤ 4096 ∧ 0 ≤ kind ∧ kind ≤ 255) (.t [.c (.n (nn_ + 0)), .c (.v (.int .i64 (0)))]) [((nn_ + 0), .own (frL kind (decL eU8 data_n data_f)).length 1 (rowF eU8 (frL kind (decL eU8 data_n data_f))) 5)] (nn_ + 1))
    | none => none)
  | _ => none
theorem c26 : COk Tryz.prog 26 g26 := by
  refine cok_e Tryz.func26 x26_ok (by kernel_rfl) (cok_tab (cok_cons c51 (cok_cons c50 cok_nil))) ?_
  intro args_ E_ nn_ cr_ hg_
  unfold g26 at hg_
  split at hg_
  · rename_i kind data
    split at hg_
    · rename_i data_n data_s data_f h_data
      cases hg_
      refine ⟨_, _, _, _, rfl, 1, [data], [.c (.v (.int .u8 kind)), .c (.n 0)], [(0, .ro (decL eU8 data_n data_f).length eU8.sz (rowF eU8 (decL eU8 data_n data_f)))], .t [.c (.n 1), .c (.v (.int .i64 (0)))], [(1, .own (frL kind (decL eU8 data_n data_f)).length 1 (rowF eU8 (frL kind (decL eU8 data_n data_f))) 5)], 2, rfl, rfl, by simp only [renE, Ent.ren, rowF_renf] <;> rfl, rfl, by decide, and4 (by simp only [push_cast, Nat.reduceLT, Nat.reduceAdd]) ⟨rfl, ⟨inE0_row h_data, trivial⟩, by simp only [keysNodup, outN, keys] <;> decide, rfl, rfl, ?_⟩⟩
      intro hpre hlen
      obtain ⟨i_data, hpre⟩ := hpre
      refine ⟨⟨inE_row h_data i_data, trivial⟩, by simp only [apartE] <;> (first | trivial | (simp [Ent.mut]; done)), ?_⟩
      have z_data := lens_row (E := eU8) hlen h_data
      clear i_data
      generalize decL eU8 data_n data_f = dataL at *
      clear h_data
      simp (maxSteps := 9999999) only [x26, push_cast, simprocAttr, g51, g50]
      have hu := uintL_10 (n := dataL.length) (by omega)
      have hb : (bytL dataL).length = (uintL dataL.length).length + dataL.length := by unfold bytL; rw [List.length_append]
      obtain ⟨c1, c2⟩ := cons_row (L := bytL dataL) kind
      rw [c1]
      exact ⟨fun h => by omega, fun _ => ⟨by omega, by omega, ⟨c2, by simp; omega⟩, same_eq rfl⟩⟩
    · cases hg_
  · cases hg_
def g56 : Con := fun args_ E_ nn_ => match args_ with
  | [.c (.n s1), .c (.n s2)] => (match rowOf E_ s1 with
    | some (s1_n, s1_s, s1_f) => (match rowOf E_ s2 with
    | some (s2_n, s2_s, s2_f) => some (.q (isRow eU8 s1_n s1_s s1_f ∧ isRow eU8 s2_n s2_s s2_f ∧ True) (.o (.c (.v (.bool (decide ((decL eU8 s1_n s1_f) = (decL eU8 s2_n s2_f))))))))
    | none => none)
    | none => none)
  | _ => none
theorem c56 : COk Tryz.prog 56 g56 := by
  refine cok_q Tryz.func56 x56_ok (by kernel_rfl) (cok_tab cok_nil) ?_
  intro args_ E_ nn_ cr_ hg_
  unfold g56 at hg_
  split at hg_
  · rename_i s1 s2
    split at hg_
    · rename_i s1_n s1_s s1_f h_s1
      split at hg_
      · rename_i s2_n s2_s s2_f h_s2
        cases hg_
        refine ⟨_, _, rfl, 2, [s1, s2], [.c (.n 0), .c (.n 1)], [(0, .ro (decL eU8 s1_n s1_f).length eU8.sz (rowF eU8 (decL eU8 s1_n s1_f))), (1, .ro (decL eU8 s2_n s2_f).length eU8.sz (rowF eU8 (decL eU8 s2_n s2_f)))], .o (.c (.v (.bool (decide ((decL eU8 s1_n s1_f) = (decL eU8 s2_n s2_f)))))), rfl, rfl, and3 (by simp only [push_cast, Nat.reduceLT, Nat.reduceAdd]) ⟨rfl, ⟨inE0_row h_s1, inE0_row h_s2, trivial⟩, rfl, ?_⟩⟩
        intro hpre hlen
        obtain ⟨i_s1, hpre⟩ := hpre
        obtain ⟨i_s2, hpre⟩ := hpre
        refine ⟨⟨inE_row h_s1 i_s1, inE_row h_s2 i_s2, trivial⟩, ?_⟩
        have z_s1 := lens_row (E := eU8) hlen h_s1
        have z_s2 := lens_row (E := eU8) hlen h_s2
        clear i_s1
        generalize decL eU8 s1_n s1_f = s1L at *
        clear i_s2
        generalize decL eU8 s2_n s2_f = s2L at *
        clear h_s1
        clear h_s2
        simp (maxSteps := 9999999) only [x56, push_cast, simprocAttr]
        refine ⟨fun h => ?_, fun h => ?_⟩
        · symm; rw [decide_eq_false_iff_not]; intro e; exact h (by rw [e])
        refine vcLoop_upd (α := {k : Nat // k ≤ s1L.length ∧ ∀ i, i < k → s1L.getD i eU8.dflt = s2L.getD i eU8.dflt}) [0, 1, 12] 0 (fun s => [(13, .o (.c (.v (.int .i64 (s.1 : Nat)))))]) (fun s => []) (fun s => s1L.length - s.1) ⟨0, by omega, fun i hi => by omega⟩ ?_ ?_
        · simp only [push_cast, simprocAttr]
        rintro ⟨k, hk, hall⟩
        simp only [x56L0, push_cast, simprocAttr]
        refine ⟨fun hlt => ⟨hlt, hlt, by omega, by omega, fun hne => ?_, fun he => ⟨⟨k + 1, by omega, fun i hi => ?_⟩, wrapI (by omega) (by omega), by simp only; omega⟩⟩, fun hge => ?_⟩
        · symm; rw [decide_eq_false_iff_not]; intro e; rw [e] at hne; exact hne rfl
        · rcases Nat.lt_succ_iff_lt_or_eq.1 hi with q | q
          · exact hall i q
          · subst q; exact he
        · symm; rw [decide_eq_true_eq]; exact getD_ext eU8.dflt (by omega) (fun i hi => hall i (by omega))
      · cases hg_
    · cases hg_
  · cases hg_
def g83 : Con := fun args_ E_ nn_ => match args_ with
  | [.c (.n b)] => (match rowOf E_ b with
    | some (b_n, b_s, b_f) => some (.e (isRow eU8 b_n b_s b_f ∧ u8s (decL eU8 b_n b_f) ∧ ((decL eU8 b_n b_f)).length ≤ 100000 ∧ (rdU (decL eU8 b_n b_f)).2.2 = 0 ∧ (rdU (decL eU8 b_n b_f)).1 < 9223372036854775808) (.t [.c (.v (.int .i64 (unz (rdU (decL eU8 b_n b_f)).1))), .c (.n (nn_ + 0)), .c (.v (.int .i64 (0)))]) [((nn_ + 0), .own ((rdU (decL eU8 b_n b_f)).2.1).length 1 (rowF eU8 ((rdU (decL eU8 b_n b_f)).2.1)) 5)] (nn_ + 1))
    | none => none)
  | _ => none
theorem c83 : COk Tryz.prog 83 g83 := by
  refine cok_e Tryz.func83 x83_ok (by kernel_rfl) (cok_tab (cok_cons c55 cok_nil)) ?_
  intro args_ E_ nn_ cr_ hg_
  unfold g83 at hg_
  split at hg_
  · rename_i b
    split at hg_
    · rename_i b_n b_s b_f h_b
      cases hg_
      refine ⟨_, _, _, _, rfl, 1, [b], [.c (.n 0)], [(0, .ro (decL eU8 b_n b_f).length eU8.sz (rowF eU8 (decL eU8 b_n b_f)))], .t [.c (.v (.int .i64 (unz (rdU (decL eU8 b_n b_f)).1))), .c (.n 1), .c (.v (.int .i64 (0)))], [(1, .own ((rdU (decL eU8 b_n b_f)).2.1).length 1 (rowF eU8 ((rdU (decL eU8 b_n b_f)).2.1)) 5)], 2, rfl, rfl, by simp only [renE, Ent.ren, rowF_renf] <;> rfl, rfl, by decide, and4 (by simp only [push_cast, Nat.reduceLT, Nat.reduceAdd]) ⟨rfl, ⟨inE0_row h_b, trivial⟩, by simp only [keysNodup, outN, keys] <;> decide, rfl, rfl, ?_⟩⟩
      intro hpre hlen
      obtain ⟨i_b, hpre⟩ := hpre
      refine ⟨⟨inE_row h_b i_b, trivial⟩, by simp only [apartE] <;> (first | trivial | (simp [Ent.mut]; done)), ?_⟩
      have z_b := lens_row (E := eU8) hlen h_b
      clear i_b
      generalize decL eU8 b_n b_f = bL at *
      clear h_b
      simp (maxSteps := 9999999) only [x83, push_cast, simprocAttr, g55]
      refine ⟨⟨hpre.1, hpre.2.1⟩, fun h => absurd hpre.2.2.1 h, fun _ => ?_⟩
      have := unz_eq hpre.2.2.2
      rw [Int.zero_sub] at this
      exact this
    · cases hg_
  · cases hg_
end Go.Proofs.YtkpdofgmmpbknaaGreat
