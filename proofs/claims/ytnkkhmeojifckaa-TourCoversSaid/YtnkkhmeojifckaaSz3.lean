/- A part of the proof of a statement about this seat: how a function is stepped through, and plain laws. No conditions. -/
import Derived.Test.YtnkkhmeojifckaaSz2
import Derived.ProofKit
import Derived.OpenShut
import Derived.Deep.Slices
import Derived.Shelf.Bytes.SlCountOne
import Derived.Lib.Bytealg
set_option linter.unusedVariables false
set_option linter.unusedSimpArgs false
namespace Go.Sx
open Go.RowKit

theorem vcC_skip (Γ : Nat → Con) (n0 : Nat) (K : Kont) (S : St) : vcC Γ n0 .skip K S = K .norm S := rfl
theorem vcC_regT (Γ : Nat → Con) (n0 : Nat) (l : List XOper) (K : Kont) (S : St) : vcC Γ n0 (.reg true l) K S = vcOpsQ Γ l S (K .norm) := rfl
theorem vcC_regF (Γ : Nat → Con) (n0 : Nat) (l : List XOper) (K : Kont) (S : St) : vcC Γ n0 (.reg false l) K S = vcOps Γ l (K .norm) S := rfl
theorem vcC_regD (Γ : Nat → Con) (n0 : Nat) (l : List XOper) (ps : List (List Nat)) (K : Kont) (S : St) : vcC Γ n0 (.regD l ps) K S = vcD Γ ps l S (K .norm) := rfl
theorem vcC_seq (Γ : Nat → Con) (n0 : Nat) (x y : XC) (K : Kont) (S : St) : vcC Γ n0 (.seq x y) K S = vcC Γ n0 x (kSeq (vcC Γ n0 y K) K) S := rfl
theorem vcC_cond (Γ : Nat → Con) (n0 : Nat) (c : XO) (x y : XC) (K : Kont) (S : St) : vcC Γ n0 (.cond c x y) K S = vcCond S (vcC Γ n0 x K S) (vcC Γ n0 y K S) (rd S.env c) := rfl
theorem vcC_block (Γ : Nat → Con) (n0 i : Nat) (x : XC) (K : Kont) (S : St) : vcC Γ n0 (.block i x) K S = vcC Γ n0 x (kBlock i K) S := rfl
theorem vcC_loop (Γ : Nat → Con) (n0 : Nat) (x : XC) (K : Kont) (S : St) : vcC Γ n0 (.loop x) K S = vcLoop n0 (vcC Γ n0 x) S K := rfl
theorem vcC_exit (Γ : Nat → Con) (n0 i : Nat) (K : Kont) (S : St) : vcC Γ n0 (.exit i) K S = K (.ex i) S := rfl
theorem vcC_ret (Γ : Nat → Con) (n0 : Nat) (K : Kont) (S : St) : vcC Γ n0 .ret K S = K .ret S := rfl
theorem vcC_cut (Γ : Nat → Con) (n0 : Nat) (x : XC) (K : Kont) (S : St) : vcC Γ n0 (.cut x) K S = vcCut n0 (vcC Γ n0 x) S K := rfl
theorem kCut_norm {α : Type} (n0 : Nat) (I : α → St) (K : Kont) (S : St) : kCut n0 I K .norm S = ∃ y, Le n0 S (I y) := rfl
theorem kCut_ex {α : Type} (n0 : Nat) (I : α → St) (K : Kont) (i : Nat) (S : St) : kCut n0 I K (.ex i) S = K (.ex i) S := rfl
theorem kCut_ret {α : Type} (n0 : Nat) (I : α → St) (K : Kont) (S : St) : kCut n0 I K .ret S = K .ret S := rfl
theorem vcC_bad (Γ : Nat → Con) (n0 : Nat) (K : Kont) (S : St) : vcC Γ n0 .bad K S = False := rfl
theorem vcOps_nil (Γ : Nat → Con) (K : St → Prop) (S : St) : vcOps Γ [] K S = K S := rfl
theorem vcOps_cons (Γ : Nat → Con) (o : XOper) (l : List XOper) (K : St → Prop) (S : St) : vcOps Γ (o :: l) K S = vcOp Γ o S (vcOps Γ l K) := rfl
theorem kSeq_norm (k : St → Prop) (K : Kont) (S : St) : kSeq k K .norm S = k S := rfl
theorem kSeq_ex (k : St → Prop) (K : Kont) (i : Nat) (S : St) : kSeq k K (.ex i) S = K (.ex i) S := rfl
theorem kSeq_ret (k : St → Prop) (K : Kont) (S : St) : kSeq k K .ret S = K .ret S := rfl
theorem kBlock_norm (i : Nat) (K : Kont) (S : St) : kBlock i K .norm S = K .norm S := rfl
theorem kBlock_ex (i j : Nat) (K : Kont) (S : St) : kBlock i K (.ex j) S = if j = i then K .norm S else K (.ex j) S := rfl
theorem kBlock_ret (i : Nat) (K : Kont) (S : St) : kBlock i K .ret S = K .ret S := rfl
theorem kRet_ex (res : List XR) (Q : SV → St → Prop) (i : Nat) (S : St) : kRet res Q (.ex i) S = False := rfl
theorem kRet_norm (res : List XR) (Q : SV → St → Prop) (S : St) : kRet res Q .norm S = (match rets S res with | some (p, xs) => p ∧ Q (retV xs) S | none => False) := rfl
theorem kRet_ret (res : List XR) (Q : SV → St → Prop) (S : St) : kRet res Q .ret S = (match rets S res with | some (p, xs) => p ∧ Q (retV xs) S | none => False) := rfl
theorem kLoop_norm {α : Type} (n0 : Nat) (I : α → St) (μ : α → Nat) (x : α) (K : Kont) (S : St) : kLoop n0 I μ x K .norm S = ∃ y, Le n0 S (I y) ∧ μ y < μ x := rfl
theorem kLoop_ex {α : Type} (n0 : Nat) (I : α → St) (μ : α → Nat) (x : α) (K : Kont) (i : Nat) (S : St) : kLoop n0 I μ x K (.ex i) S = K (.ex i) S := rfl
theorem kLoop_ret {α : Type} (n0 : Nat) (I : α → St) (μ : α → Nat) (x : α) (K : Kont) (S : St) : kLoop n0 I μ x K .ret S = K .ret S := rfl

theorem vcLoop_intro {α : Type} {n0 : Nat} {B : Kont → St → Prop} {S : St} {K : Kont} (I : α → St) (μ : α → Nat) (x0 : α) (h0 : Le n0 S (I x0)) (h : ∀ x, B (kLoop n0 I μ x K) (I x)) : vcLoop n0 B S K :=
  ⟨α, I, μ, x0, h0, h⟩

/-! ### Plain lemmas on numbers -/

theorem wrapI {n : Int} (h1 : -9223372036854775808 ≤ n) (h2 : n ≤ 9223372036854775807) : IntKind.i64.wrap n = n := by rw [IntKind.wrap_i64]; omega
theorem wrapI_lo (n : Int) : -9223372036854775808 ≤ IntKind.i64.wrap n := by rw [IntKind.wrap_i64]; omega
theorem wrapI_hi (n : Int) : IntKind.i64.wrap n ≤ 9223372036854775807 := by rw [IntKind.wrap_i64]; omega
theorem wrapU8 {n : Int} (h1 : 0 ≤ n) (h2 : n ≤ 255) : IntKind.u8.wrap n = n := by rw [IntKind.wrap_u8]; omega

/-- Go's remainder and quotient by a positive number. -/
theorem tmod_pos {a b : Int} (ha : 0 ≤ a) : a.tmod b = a % b := Int.tmod_eq_emod_of_nonneg ha
theorem tdiv_pos {a b : Int} (ha : 0 ≤ a) : a.tdiv b = a / b := Int.tdiv_eq_ediv_of_nonneg ha

theorem tmod_lit (a : Int) (b : Int) (hb : 0 < b) : a.tmod b = if 0 ≤ a then a % b else -((-a) % b) := by
  split
  · rename_i h; exact tmod_pos h
  · rename_i h
    have := Int.neg_tmod (-a) b
    rw [Int.neg_neg] at this
    rw [this, tmod_pos (by omega)]
theorem tdiv_lit (a : Int) (b : Int) (hb : 0 < b) : a.tdiv b = if 0 ≤ a then a / b else -((-a) / b) := by
  split
  · rename_i h; exact tdiv_pos h
  · rename_i h
    have := Int.neg_tdiv (-a) b
    rw [Int.neg_neg] at this
    rw [this, tdiv_pos (by omega)]

theorem bool_ext {a b : Bool} (h : a = true ↔ b = true) : a = b := Bool.eq_iff_iff.2 h

/-- Floor division, as the two-step code computes it. -/
theorem floor_neg {a b : Int} (hb : 0 < b) (h : a.tmod b < 0) : a.tdiv b - 1 = a / b := by
  have h1 : ¬ 0 ≤ a := fun h0 => by rw [tmod_pos h0] at h; have := Int.emod_nonneg a (Int.ne_of_gt hb); omega
  have e := Int.tmod_add_mul_tdiv a b
  have h2 : -b < a.tmod b := by
    have := Int.neg_tmod (-a) b
    rw [Int.neg_neg] at this
    rw [this, tmod_pos (by omega)]
    have := Int.emod_lt_of_pos (-a) hb
    omega
  have h3 : a = b * (a.tdiv b - 1) + (a.tmod b + b) := by rw [Int.mul_sub]; omega
  have h4 : a / b = a.tdiv b - 1 := by
    conv => lhs; rw [h3]
    rw [Int.mul_add_ediv_left _ _ (by omega), Int.ediv_eq_zero_of_lt (by omega) (by omega)]
    omega
  omega
theorem floor_pos {a b : Int} (hb : 0 < b) (h : ¬ a.tmod b < 0) : a.tdiv b = a / b := by
  have e := Int.tmod_add_mul_tdiv a b
  have h2 : a.tmod b < b := by
    rcases Int.lt_or_le a 0 with h0 | h0
    · have := Int.neg_tmod (-a) b
      rw [Int.neg_neg] at this
      rw [this, tmod_pos (by omega)]
      have := Int.emod_nonneg (-a) (Int.ne_of_gt hb)
      omega
    · rw [tmod_pos h0]; exact Int.emod_lt_of_pos a hb
  have h3 : a = b * (a.tdiv b) + a.tmod b := by omega
  conv => rhs; rw [h3]
  rw [Int.mul_add_ediv_left _ _ (by omega), Int.ediv_eq_zero_of_lt (by omega) (by omega)]
  omega

theorem tdiv_range {a b : Int} (hb : 0 < b) (h1 : -9223372036854775808 ≤ a) (h2 : a ≤ 9223372036854775807) : -9223372036854775808 ≤ a.tdiv b ∧ a.tdiv b ≤ 9223372036854775807 := by
  rcases Int.le_total 0 a with h0 | h0
  · rw [tdiv_pos h0]
    have := Int.ediv_nonneg h0 (Int.le_of_lt hb)
    have := Int.ediv_le_self b h0
    omega
  · have e := Int.neg_tdiv (-a) b
    rw [Int.neg_neg] at e
    rw [e, tdiv_pos (by omega)]
    have := Int.ediv_nonneg (show 0 ≤ -a by omega) (Int.le_of_lt hb)
    have := Int.ediv_le_self b (show 0 ≤ -a by omega)
    omega

theorem ediv_range {a b : Int} (hb : 0 < b) (h1 : -9223372036854775808 ≤ a) (h2 : a ≤ 9223372036854775807) : -9223372036854775808 ≤ a / b ∧ a / b ≤ 9223372036854775807 := by
  rcases Int.le_total 0 a with h0 | h0
  · have := Int.ediv_nonneg h0 (Int.le_of_lt hb)
    have := Int.ediv_le_self b h0
    omega
  · have : a ≤ a / b := by
      apply Int.le_ediv_of_mul_le hb
      have h3 : 0 ≤ (-a) * (b - 1) := Int.mul_nonneg (by omega) (by omega)
      have e : (-a) * (b - 1) = -(a * b) + a := by rw [Int.mul_sub, Int.neg_mul]; omega
      omega
    have : a / b ≤ 0 := by
      have := Int.ediv_le_ediv hb h0
      simpa using this
    omega

theorem emod_range {a b : Int} (hb : 0 < b) : 0 ≤ a % b ∧ a % b < b := ⟨Int.emod_nonneg a (Int.ne_of_gt hb), Int.emod_lt_of_pos a hb⟩

theorem tmod_neg_fix {a b : Int} (hb : 0 < b) (h : a.tmod b < 0) : a.tmod b + b = a % b := by
  have h1 := floor_neg hb h
  have h2 := Int.tmod_add_mul_tdiv a b
  have h3 := Int.emod_add_mul_ediv a b
  rw [← h1, Int.mul_sub] at h3
  omega
theorem tmod_pos_fix {a b : Int} (hb : 0 < b) (h : ¬ a.tmod b < 0) : a.tmod b = a % b := by
  have h1 := floor_pos hb h
  have h2 := Int.tmod_add_mul_tdiv a b
  have h3 := Int.emod_add_mul_ediv a b
  rw [← h1] at h3
  omega

/-- The last eight bits of a number. -/
theorem and_255 (h : Int) : bitI .and .i64 h 255 = h % 256 := by
  have e : (BitVec.ofInt 64 h &&& BitVec.ofInt 64 255).toNat = (h % 256).toNat := by
    rw [BitVec.toNat_and]
    have e1 : (BitVec.ofInt 64 255).toNat = 2 ^ 8 - 1 := by decide
    rw [e1, Nat.and_two_pow_sub_one_eq_mod, BitVec.toNat_ofInt]
    have h1 : ((2 ^ 64 : Nat) : Int) = 18446744073709551616 := by decide
    rw [h1]
    omega
  refine (congrArg (fun n : Nat => IntKind.i64.wrap (n : Int)) e).trans ?_
  have h0 := emod_range (a := h) (b := 256) (by omega)
  show IntKind.i64.wrap (((h % 256).toNat : Nat) : Int) = h % 256
  rw [Int.toNat_of_nonneg h0.1, wrapI (by omega) (by omega)]

end Go.Sx
set_option linter.unusedVariables false
set_option linter.unusedSimpArgs false
namespace Go.Sx
open Go.ChangeShapes Go.WideShapes Go.ChangeAt Go.RowKit

/-- What a cell holds. -/
inductive Lf where
  | i (k : IntKind)
  | b
def lfOf (P : Program) (t : TypeId) : Option Lf :=
  match P.underlying t with
  | some (.int k) => some (.i k)
  | some .bool => some .b
  | _ => none
def lfsOf (P : Program) : List TypeId → Option (List Lf)
  | [] => some []
  | t :: l => match lfOf P t with
    | some x => match lfsOf P l with
      | some xs => some (x :: xs)
      | none => none
    | none => none
def lfs (P : Program) (t : TypeId) : Option (List Lf) :=
  match P.cellTypes P.depth t with
  | some ts => lfsOf P ts
  | none => none
def Lf.ok : Lf → Value → Prop
  | .i k, v => ∃ n, v = .int k n ∧ k.min ≤ n ∧ n ≤ k.max
  | .b, v => ∃ x, v = .bool x
def lfOks : List Lf → List Value → Prop
  | [], vs => vs = []
  | l :: ls, vs => ∃ v vs', vs = v :: vs' ∧ l.ok v ∧ lfOks ls vs'

theorem lf_ok {P : Program} {w : World} {r : Reach} {base : Nat} {t : TypeId} {v : Value} {x : Lf} (hx : lfOf P t = some x) (h : Cell.okWide P w r base t v) : x.ok v := by
  unfold lfOf at hx
  unfold Cell.okWide Cell.ok at h
  split at hx
  · rename_i k hk
    cases hx
    rw [hk] at h
    cases v <;> simp only at h
    rename_i k' n
    obtain ⟨rfl, h⟩ := h
    exact ⟨n, rfl, h⟩
  · rename_i hk
    cases hx
    rw [hk] at h
    cases v <;> simp only at h
    exact ⟨_, rfl⟩
  · cases hx

theorem lfOks_of {P : Program} {w : World} {r : Reach} {base : Nat} : ∀ (ts : List TypeId) (L : List Lf) (cs : List Value), lfsOf P ts = some L → cs.length = ts.length →
    (∀ (i : Nat) (v : Value), cs[i]? = some v → ∃ u, ts[i]? = some u ∧ Cell.okWide P w r base u v) → lfOks L cs
  | [], L, cs, hl, hn, h => by
    cases hl
    cases cs with
    | nil => rfl
    | cons c cs => simp at hn
  | t :: ts, L, cs, hl, hn, h => by
    simp only [lfsOf] at hl
    split at hl
    · rename_i x hx
      split at hl
      · rename_i xs hxs
        cases hl
        cases cs with
        | nil => simp at hn
        | cons c cs =>
          refine ⟨c, cs, rfl, ?_, lfOks_of (w := w) (r := r) (base := base) ts xs cs hxs (by simpa using hn) (fun i v hv => ?_)⟩
          · obtain ⟨u, hu, hc⟩ := h 0 c rfl
            cases hu
            exact lf_ok hx hc
          · simpa using h (i + 1) v (by simpa using hv)
      · cases hl
    · cases hl

theorem lfsOf_len {P : Program} : ∀ (ts : List TypeId) (L : List Lf), lfsOf P ts = some L → ts.length = L.length
  | [], L, h => by cases h; rfl
  | t :: ts, L, h => by
    simp only [lfsOf] at h
    split at h
    · split at h
      · rename_i xs hxs
        cases h
        simp [lfsOf_len ts xs hxs]
      · cases h
    · cases h

theorem open_row {P : Program} {w : World} {r : Reach} {base : Nat} {t : TypeId} {cs : Array Value} {L : List Lf} (hl : lfs P t = some L) (hc : cs.size = L.length) (h : Row.okWide P w r base t cs) : lfOks L cs.toList := by
  obtain ⟨ts, hts, _, hcell⟩ := h
  unfold lfs at hl
  rw [hts] at hl
  have hn := lfsOf_len _ _ hl
  refine lfOks_of (w := w) (r := r) (base := base) ts L cs.toList hl (by simp [hc, hn]) (fun i v hv => ?_)
  have hi : i < ts.length := by
    have := (List.getElem?_eq_some_iff.1 hv).1
    simp at this
    omega
  obtain ⟨u, hu, hk⟩ := hcell i v (by simpa using hv)
  rw [Nat.mod_eq_of_lt hi] at hu
  exact ⟨u, hu, hk⟩

/-- A struct of numbers and bools, opened. -/
theorem open_flat {P : Program} {w : World} {r : Reach} {base : Nat} {t : TypeId} {fs : Array Field} {v : Value} {L : List Lf} (ht : P.underlying t = some (.struct fs)) (hl : lfs P t = some L) (hc : P.cellsOf t = L.length)
    (hv : Value.okWide P w r base t v) : ∃ cs : List Value, v = .agg cs.toArray ∧ lfOks L cs := by
  unfold Value.okWide at hv
  rw [ht] at hv
  obtain ⟨cs, rfl, hsz, hrow⟩ := hv
  exact ⟨cs.toList, by simp, open_row hl (hsz.trans hc) hrow⟩

theorem open_flatA {P : Program} {w : World} {r : Reach} {base : Nat} {t e : TypeId} {n : Nat} {v : Value} {L : List Lf} (ht : P.underlying t = some (.array n e)) (hl : lfs P t = some L) (hc : P.cellsOf t = L.length)
    (hv : Value.okWide P w r base t v) : ∃ cs : List Value, v = .agg cs.toArray ∧ lfOks L cs := by
  unfold Value.okWide at hv
  rw [ht] at hv
  obtain ⟨cs, rfl, hsz, hrow⟩ := hv
  exact ⟨cs.toList, by simp, open_row hl (hsz.trans hc) hrow⟩

theorem open_lf {P : Program} {w : World} {r : Reach} {base : Nat} {t : TypeId} {v : Value} {x : Lf} (hx : lfOf P t = some x) (hv : Value.okWide P w r base t v) : x.ok v := by
  refine lf_ok hx (w := w) (r := r) (base := base) ?_
  unfold lfOf at hx
  unfold Value.okWide at hv
  split at hx
  · rename_i k hk; rw [hk] at hv; exact hv
  · rename_i hk; rw [hk] at hv; exact hv
  · cases hx

/-- The arguments read as they did. -/
theorem trodAll_keep {H : Type} {enc : TypeId × Value → H} {P : Program} (hl : laidOutB P = true) {W W' : World} (hb : Below W.heap.size W W') {sp : Nat → Bool} : ∀ (ts : List TypeId) (vs : List Value) (ds : List (DataW H)) (ps : List MemPlace),
    ts.all (fun t => P.readableRec t && decide (t < P.types.size)) = true → DataW.TrodAll enc P W 0 (fun _ => true) true ts vs ds ps → (∀ x ∈ ps, x.block < W.heap.size) → (∀ x ∈ ps, sp x.block = true) → DataW.TrodAll enc P W' 0 sp true ts vs ds ps
  | [], vs, ds, ps, _, h, _, _ => by
    obtain ⟨rfl, rfl, rfl⟩ := trodAll_nil h
    exact trodAll_mk0
  | t :: ts, vs, ds, ps, ha, h, hlt, hsp => by
    obtain ⟨v, vs, d, ds, p, q, rfl, rfl, rfl, h0, h1⟩ := trodAll_cons h
    simp only [List.all_cons, Bool.and_eq_true, decide_eq_true_eq] at ha
    refine trodAll_cons_mk (WideElems.Trod_stays hl ha.1.1 ha.1.2 h0 (fun x hx => hb.same (hlt x (List.mem_append_left _ hx))) (fun x hx => hsp x (List.mem_append_left _ hx))) ?_
    exact trodAll_keep hl hb ts vs ds q ha.2 h1 (fun x hx => hlt x (List.mem_append_right _ hx)) (fun x hx => hsp x (List.mem_append_right _ hx))

/-- It returned true, and nothing that was there has turned. -/
theorem post_true {H : Type} {enc : TypeId × Value → H} {P : Program} {f : Func} {s : ChangeSpec} {apart fresh handsOn : Bool} {W W' : World} {args : Array Value} {ds gs : List (DataW H)} {before : List MemPlace} {t : TypeId}
    (hl : laidOutB P = true) (hr : f.resultTypes = #[t]) (ht : P.underlying t = some .bool) (hps : f.params.toList.all (fun t => P.readableRec t && decide (t < P.types.size)) = true) (hvars : s.vars = [])
    (hW : DataW.Whole enc P f.params.toList s.vars apart W args.toList ds gs before) (hs : s.fn H (ds ++ gs) = { results := [.lit (.bool true)], args := ds }) (hb : Below W.heap.size W W') : s.post enc P f apart fresh handsOn false W args (.bool true) W' := by
  have hW' := hW
  obtain ⟨p, q, hA, hV, rfl, hfz, hnd⟩ := hW
  rw [hvars] at hV
  obtain ⟨rfl, rfl⟩ := trodVars_none hV
  have hlt := hW'.lt
  refine ⟨ds, [], p ++ [], [], p, [], hW', ?_, ?_, ?_, hb.frame _, fun h => by cases h⟩
  · rw [hs, hr]; exact trodAll_mk1 (shut_bool ht _)
  · rw [hs]; exact trodAll_keep hl hb _ _ _ _ hps hA (fun x hx => hlt x (by simpa using hx)) (fun x hx => by simpa using hlt x (by simpa using hx))
  · rw [hs, hvars]; rfl

/-- What a contract on plain values says of a call. -/
theorem plain_calls {P : Program} {f : Nat} {sp : List S1 → Option (Prop × SV)} {args : List S1} {pre : Prop} {res : SV} (h : COk P f (plain sp)) (hbd : bodied P f = true) (hs : sp args = some (pre, res)) (ha : sc1L (upto 0) args) (hp : pre) (w : World) :
    Calls P f (args.map (S1.den fun _ => .bool true)).toArray w (fun e w' => e = .returned (res.den fun _ => .bool true) ∧ Below w.heap.size w w') := by
  have := h args (lk []) 0 (sc1L_sound ha) (fun i e h => by cases h)
  unfold plain at this
  rw [hs] at this
  exact (this.2 hp w ⟨fun _ => False, fun _ => False⟩ _ w (HeapRel.init w _ (fun _ => rfl))).calls hbd
end Go.Sx
set_option linter.unusedVariables false
set_option linter.unusedSimpArgs false
namespace Go.Sx
open Go.RowKit

/-- How the elements of a slice lie in cells. -/
def kindOk : List LK → List Value → Prop
  | [], [] => True
  | .i k :: ks, .int k' n :: vs => k' = k ∧ k.min ≤ n ∧ n ≤ k.max ∧ kindOk ks vs
  | .b :: ks, .bool _ :: vs => kindOk ks vs
  | _, _ => False
structure Enc (α : Type) where
  sz : Nat
  ks : List LK
  wf : α → Prop
  enc : α → List SC
  dec : (Nat → SC) → α
  dflt : α
  flat : ∀ x, ∀ c ∈ enc x, ∃ v, c = .v v ∧ v.oneCell' = true
  len : ∀ x, (enc x).length = sz
  onto : ∀ cs, kindOk ks cs → ∃ x, enc x = cs.map SC.v ∧ wf x
  de : ∀ x f, (∀ j, j < sz → f j = (match nth (enc x) j with | some c => c | none => noC)) → dec f = x

def cellAt (cs : List SC) (j : Nat) : SC := match nth cs j with | some c => c | none => noC
def rowF {α : Type} (E : Enc α) (L : List α) : Nat → Nat → SC := fun e j => cellAt (E.enc (L.getD e E.dflt)) j
def decL {α : Type} (E : Enc α) (n : Nat) (f : Nat → Nat → SC) : List α := (List.range n).map fun e => E.dec (f e)
/-- The row holds what the decoding says. -/
def isRow {α : Type} (E : Enc α) (n sz : Nat) (f : Nat → Nat → SC) : Prop := (n = 0 ∨ sz = E.sz) ∧ ∀ e j, e < n → j < E.sz → f e j = rowF E (decL E n f) e j

section
variable {α : Type} {E : Enc α}

theorem cellAt_flat (x : α) (j : Nat) : ∃ v, cellAt (E.enc x) j = .v v ∧ v.oneCell' = true := by
  unfold cellAt
  split
  · rename_i c hc; exact E.flat x c (nth_mem hc)
  · exact ⟨_, rfl, rfl⟩
theorem rowF_flat (L : List α) (e j : Nat) : ∃ v, rowF E L e j = .v v ∧ v.oneCell' = true := cellAt_flat _ _
theorem rowF_sub (L : List α) (e j : Nat) (b : Bnd) : (rowF E L e j).sub b = rowF E L e j := by obtain ⟨v, h, _⟩ := rowF_flat (E := E) L e j; rw [h]; rfl
theorem rowF_ren (L : List α) (e j : Nat) (σ : Nat → Nat) : (rowF E L e j).ren σ = rowF E L e j := by obtain ⟨v, h, _⟩ := rowF_flat (E := E) L e j; rw [h]; rfl
theorem rowF_renf (L : List α) (σ : Nat → Nat) : (fun e j => (rowF E L e j).ren σ) = rowF E L := by funext e j; exact rowF_ren L e j σ
theorem rowF_sc (L : List α) (m : Nat → Prop) : scF m (rowF E L) := fun e j => by obtain ⟨v, h, _⟩ := rowF_flat (E := E) L e j; rw [h]; trivial
theorem rowF_scT (L : List α) (m : Nat → Prop) : scF m (rowF E L) ↔ True := iff_true_intro (rowF_sc L m)
theorem okRow_rowF (m sz : Nat) (L : List α) : okRow m sz (rowF E L) ↔ True := iff_true_intro fun e j _ _ => by obtain ⟨v, h, h1⟩ := rowF_flat (E := E) L e j; rw [h]; exact h1
theorem decL_len (n : Nat) (f : Nat → Nat → SC) : (decL E n f).length = n := by simp [decL]
theorem decL_getD (n : Nat) (f : Nat → Nat → SC) (e : Nat) (h : e < n) : (decL E n f).getD e E.dflt = E.dec (f e) := by
  unfold decL
  rw [List.getD_eq_getElem?_getD, List.getElem?_map, List.getElem?_range h]
  rfl
theorem decL_eq {n : Nat} {f : Nat → Nat → SC} {L : List α} (hn : n = L.length) (h : ∀ e j, e < n → j < E.sz → f e j = rowF E L e j) : decL E n f = L := by
  subst hn
  apply List.ext_getElem (by simp [decL])
  intro i h1 h2
  have := decL_getD (E := E) L.length f i h2
  rw [List.getD_eq_getElem?_getD, List.getElem?_eq_getElem h1] at this
  simp only [Option.getD_some] at this
  rw [this]
  refine E.de _ _ fun j hj => ?_
  rw [h i j h2 hj]
  unfold rowF cellAt
  rw [List.getD_eq_getElem?_getD, List.getElem?_eq_getElem h2]
  rfl
theorem decL_rowF (L : List α) : decL E L.length (rowF E L) = L := decL_eq rfl fun _ _ _ _ => rfl
theorem isRow_of {n sz : Nat} {f : Nat → Nat → SC} {L : List α} (hn : n = L.length) (hs : n = 0 ∨ sz = E.sz) (h : ∀ e j, e < n → j < E.sz → f e j = rowF E L e j) : isRow E n sz f := by
  refine ⟨hs, fun e j he hj => ?_⟩
  rw [decL_eq hn h]; exact h e j he hj
theorem isRow_rowF (L : List α) : isRow E L.length E.sz (rowF E L) ↔ True := iff_true_intro (isRow_of rfl (.inr rfl) fun _ _ _ _ => rfl)
theorem isRow_sz (L : List α) (sz : Nat) (h : sz = E.sz) : isRow E L.length sz (rowF E L) ↔ True := by subst h; exact isRow_rowF L
theorem isRow_nil (sz : Nat) (f : Nat → Nat → SC) : isRow E 0 sz f ↔ True := iff_true_intro ⟨.inl rfl, fun e j he => by omega⟩
theorem decL_nil (f : Nat → Nat → SC) : decL E 0 f = [] := rfl

theorem inE_row {Et : Nat → Option Ent} {l n s : Nat} {f : Nat → Nat → SC} {σ : Nat → Nat} (hl : rowOf Et l = some (n, s, f)) (h : isRow E n s f) :
    ∃ e0, Et l = some e0 ∧ leE (SC.ren σ) e0 (.ro (decL E n f).length E.sz (rowF E (decL E n f))) := by
  obtain ⟨h1, h2⟩ := h
  rw [decL_len]
  have hr : rowEq n s f (rowF E (decL E n f)) (SC.ren σ) := by
    intro e j he hj
    obtain rfl : s = E.sz := by omega
    rw [rowF_ren]; exact h2 e j he hj
  unfold rowOf at hl
  split at hl
  · rename_i n' s' f' he
    cases hl
    exact ⟨_, he, rfl, h1, hr⟩
  · rename_i n' s' f' ty he
    cases hl
    exact ⟨_, he, rfl, h1, hr⟩
  · rename_i he
    cases hl
    exact ⟨_, he, rfl⟩
  · cases hl
theorem inE0_row {Et : Nat → Option Ent} {l n s : Nat} {f : Nat → Nat → SC} (hl : rowOf Et l = some (n, s, f)) : ∃ e0, Et l = some e0 := by
  unfold rowOf at hl
  split at hl
  · rename_i he; exact ⟨_, he⟩
  · rename_i he; exact ⟨_, he⟩
  · rename_i he; exact ⟨_, he⟩
  · cases hl
theorem lens_row {Et : Nat → Option Ent} {l n s : Nat} {f : Nat → Nat → SC} (hL : Lens Et) (hl : rowOf Et l = some (n, s, f)) : (decL E n f).length ≤ 9223372036854775807 := by
  rw [decL_len]
  unfold rowOf at hl
  split at hl
  · rename_i he; cases hl; exact hL _ _ he
  · rename_i he; cases hl; exact hL _ _ he
  · cases hl; omega
  · cases hl

/-! ### Rows made and turned -/

theorem rowF_get {L : List α} {e : Nat} (h : e < L.length) (j : Nat) : rowF E L e j = cellAt (E.enc L[e]) j := by
  unfold rowF
  rw [List.getD_eq_getElem?_getD, List.getElem?_eq_getElem h]; rfl
theorem litF_one (cs : List SC) (sz j : Nat) : litF cs sz 0 j = cellAt cs j := by unfold litF cellAt; rw [Nat.zero_mul, Nat.zero_add]; cases nth cs j <;> rfl

/-- One more element. -/
theorem rowEq_push (E : Enc α) (L : List α) (x : α) {sz : Nat} {n : Nat} {b : Bnd} : rowEq n sz (catF L.length (rowF E L) (litF (E.enc x) sz)) (rowF E (L ++ [x])) (SC.sub b) ∨ L.length + 1 < n := by
  by_cases hn : n ≤ L.length + 1
  · refine .inl fun e j he hj => ?_
    rw [rowF_sub]
    unfold catF
    split
    · rename_i h
      rw [rowF_get h, rowF_get (by simp; omega), List.getElem_append_left h]
    · rename_i h
      have he : e = L.length := by omega
      subst he
      rw [Nat.sub_self, litF_one, rowF_get (by simp)]
      simp
  · exact .inr (by omega)
theorem rowEq_push1 (E : Enc α) (L : List α) (x : α) {sz : Nat} {τ : SC → SC} (hτ : ∀ v, τ (.v v) = .v v) : rowEq (L.length + 1) sz (catF L.length (rowF E L) (litF (E.enc x) sz)) (rowF E (L ++ [x])) τ := by
  intro e j he hj
  obtain ⟨v, hv, _⟩ := rowF_flat (E := E) (L ++ [x]) e j
  rw [hv, hτ, ← hv]
  unfold catF
  split
  · rename_i h
    rw [rowF_get h, rowF_get (by simp; omega), List.getElem_append_left h]
  · rename_i h
    have he : e = L.length := by omega
    subst he
    rw [Nat.sub_self, litF_one, rowF_get (by simp)]
    simp
/-- One list behind another. -/
theorem catF_at (E : Enc α) (L K : List α) {e j : Nat} (he : e < L.length + K.length) : catF L.length (rowF E L) (rowF E K) e j = rowF E (L ++ K) e j := by
  unfold catF
  split
  · rename_i h
    rw [rowF_get h, rowF_get (by simp; omega), List.getElem_append_left h]
  · rename_i h
    rw [rowF_get (by omega), rowF_get (by simp; omega), List.getElem_append_right (by omega)]
/-- A run of a list. -/
theorem shF_at (E : Enc α) (L : List α) (k : Nat) {e j : Nat} (he : e + k < L.length) : shF k (rowF E L) e j = rowF E (L.drop k) e j := by
  unfold shF
  rw [rowF_get he, rowF_get (by simp; omega)]
  congr 2
  simp [Nat.add_comm]
/-- An element turned. -/
theorem updF_row {L : List α} {e0 j0 : Nat} {cs : List SC} {x : α} (h : e0 < L.length) (hx : E.enc x = setAt (E.enc (L.getD e0 E.dflt)) j0 cs) (hc : j0 + cs.length ≤ E.sz) : updF (rowF E L) e0 j0 cs = rowF E (L.set e0 x) := by
  funext e j
  unfold updF
  by_cases he : e = e0
  · subst he
    have e0 : rowF E (L.set e x) e j = cellAt (E.enc x) j := by rw [rowF_get (by simpa using h)]; simp
    rw [e0]
    have hr : rowF E L e j = cellAt (E.enc (L.getD e E.dflt)) j := rfl
    rw [hr]
    have hl := E.len (L.getD e E.dflt)
    generalize E.enc (L.getD e E.dflt) = K at hx hl ⊢
    unfold cellAt
    rw [hx, setAt_eq _ _ _ (by omega), nth_eq, nth_eq, nth_eq]
    by_cases hj : j0 ≤ j
    · rw [if_pos ⟨rfl, hj⟩]
      by_cases hj2 : j < j0 + cs.length
      · rw [List.getElem?_append_left (by simp; omega), List.getElem?_append_right (by simp; omega)]
        have : min j0 K.length = j0 := by omega
        rw [List.length_take, this, List.getElem?_eq_getElem (by omega)]
      · rw [List.getElem?_eq_none (by omega)]
        rw [List.getElem?_append_right (by simp; omega)]
        simp only [List.length_append, List.length_take]
        have : min j0 K.length = j0 := by omega
        rw [this, List.getElem?_drop]
        have e1 : j0 + cs.length + (j - (j0 + cs.length)) = j := by omega
        rw [e1]
    · rw [if_neg (by omega), List.append_assoc, List.getElem?_append_left (by simp; omega), List.getElem?_take, if_pos (by omega)]
  · rw [if_neg (by omega)]
    unfold rowF
    congr 2
    simp only [List.getD_eq_getElem?_getD]
    rw [List.getElem?_set_ne (Ne.symm he)]
theorem replF_at (E : Enc α) (x : α) {zs : List Value} (hx : E.enc x = zs.map .v) {n e j : Nat} (he : e < n) : replF zs e j = rowF E (List.replicate n x) e j := by
  rw [rowF_get (by simpa using he)]
  simp only [List.getElem_replicate]
  unfold replF cellAt
  rw [hx, nth_eq, nth_eq, List.getElem?_map]
  cases zs[j]? <;> rfl

theorem okRow_lit {cs : List SC} (h : okcs cs = true) (m sz sz' : Nat) : okRow m sz' (litF cs sz) ↔ True := iff_true_intro fun e j _ _ => by
  unfold litF
  split
  · rename_i x hx; exact okcs_all h x (nth_mem hx)
  · rfl
theorem lit_scF {m : Nat → Prop} {cs : List SC} (h : scL m cs) (sz : Nat) : scF m (litF cs sz) ↔ True := iff_true_intro fun e j => by
  unfold litF
  split
  · rename_i x hx; exact scL_sound h x (nth_mem hx)
  · trivial

end
end Go.Sx
set_option linter.unusedVariables false
set_option linter.unusedSimpArgs false
namespace Go.Sx
open Go.RowKit

def keepS (env : List (Nat × SV)) : List Nat → List (Nat × SV)
  | [] => []
  | s :: l => match lk env s with
    | some v => (s, v) :: keepS env l
    | none => keepS env l
def idsEnv : List (Nat × SV) → List Nat
  | [] => []
  | (_, v) :: l => v.ids ++ idsEnv l
def keepN (names : List Nat) : List Nat → List (Nat × Ent) → List (Nat × Ent)
  | _, [] => []
  | seen, (i, e) :: l => if memN i seen = true then keepN names seen l else if memN i names = true then (match e with
    | .dead => keepN names (i :: seen) l
    | _ => (i, e) :: keepN names (i :: seen) l) else keepN names seen l
/-- The loop's state: what turns, and what stays of what is read. -/
def mkI (S : St) (live : List Nat) (k : Nat) (env : List (Nat × SV)) (ents : List (Nat × Ent)) : St :=
  ⟨env ++ keepS S.env live, ents ++ keepN (reach (lk (ents ++ S.ents)) (idsEnv (env ++ keepS S.env live))) (keys ents) S.ents, S.next + k⟩

theorem vcLoop_upd {α : Type} {n0 : Nat} {B : Kont → St → Prop} {S : St} {K : Kont} (live : List Nat) (k : Nat) (f : α → List (Nat × SV)) (g : α → List (Nat × Ent)) (μ : α → Nat) (x0 : α)
    (h0 : Le n0 S (mkI S live k (f x0) (g x0))) (h : ∀ x, B (kLoop n0 (fun x => mkI S live k (f x) (g x)) μ x K) (mkI S live k (f x) (g x))) : vcLoop n0 B S K :=
  ⟨α, fun x => mkI S live k (f x) (g x), μ, x0, h0, h⟩

theorem vcCut_upd {α : Type} {n0 : Nat} {B : Kont → St → Prop} {S : St} {K : Kont} (live : List Nat) (k : Nat) (f : α → List (Nat × SV)) (g : α → List (Nat × Ent))
    (h : ∀ x, K .norm (mkI S live k (f x) (g x))) (h0 : B (kCut n0 (fun x => mkI S live k (f x) (g x)) K) S) : vcCut n0 B S K :=
  ⟨α, fun x => mkI S live k (f x) (g x), h, h0⟩

theorem rowEq_rowF {α : Type} {E : Enc α} (n sz : Nat) (L : List α) (b : Bnd) : rowEq n sz (rowF E L) (rowF E L) (SC.sub b) ↔ True := iff_true_intro fun e j _ _ => (rowF_sub L e j b).symm
theorem rowEq_ren {α : Type} {E : Enc α} (n sz : Nat) (L : List α) (σ : Nat → Nat) : rowEq n sz (rowF E L) (rowF E L) (SC.ren σ) ↔ True := iff_true_intro fun e j _ _ => (rowF_ren L e j σ).symm
theorem litF_sub {cs : List SC} {sz : Nat} {b : Bnd} (h : subL b cs = cs) (e j : Nat) : (litF cs sz e j).sub b = litF cs sz e j := by
  unfold litF
  split
  · rename_i x hx
    rw [nth_eq] at hx
    have h2 : (subL b cs)[e * sz + j]? = some (x.sub b) := by rw [subL_eq, List.getElem?_map, hx]; rfl
    rw [h, hx] at h2
    exact (Option.some.inj h2).symm
  · rfl
theorem rowEq_lit {n sz sz' : Nat} {cs : List SC} {b : Bnd} (h : subL b cs = cs) : rowEq n sz (litF cs sz') (litF cs sz') (SC.sub b) ↔ True := iff_true_intro fun e j _ _ => (litF_sub h e j).symm

/-- A row that has grown by one is a row. -/
theorem leE_push {α : Type} (E : Enc α) (L : List α) (x : α) (b : Bnd) (ty : TypeId) : leE (SC.sub b) (.own (L.length + 1) E.sz (catF L.length (rowF E L) (litF (E.enc x) E.sz)) ty) (.own (L ++ [x]).length E.sz (rowF E (L ++ [x])) ty) :=
  ⟨by simp, rfl, rfl, rowEq_push1 E L x fun _ => rfl⟩
theorem isRow_lit1 {α : Type} {E : Enc α} (x : α) {sz : Nat} (h : sz = E.sz) : isRow E 1 sz (litF (E.enc x) sz) := by
  refine isRow_of (L := [x]) rfl (.inr h) fun e j he hj => ?_
  have : e = 0 := by omega
  subst this
  rw [litF_one, rowF_get (by simp)]; simp
theorem decL_lit1 {α : Type} {E : Enc α} (x : α) {sz : Nat} : decL E 1 (litF (E.enc x) sz) = [x] := by
  refine decL_eq rfl fun e j he hj => ?_
  have : e = 0 := by omega
  subst this
  rw [litF_one, rowF_get (by simp)]; simp
theorem isRow_cat {α : Type} {E : Enc α} {n m sz : Nat} {f g : Nat → Nat → SC} (hf : isRow E n sz f) (hg : isRow E m sz g) : isRow E (n + m) sz (catF n f g) ∧ decL E (n + m) (catF n f g) = decL E n f ++ decL E m g := by
  have key : ∀ e j, e < n + m → j < E.sz → catF n f g e j = rowF E (decL E n f ++ decL E m g) e j := by
    intro e j he hj
    have hl : (decL E n f).length = n := decL_len n f
    have hl2 : (decL E m g).length = m := decL_len m g
    unfold catF
    split
    · rename_i h
      rw [hf.2 e j h hj, rowF_get (by omega), rowF_get (by simp; omega), List.getElem_append_left (by omega)]
    · rename_i h
      rw [hg.2 (e - n) j (by omega) hj, rowF_get (by omega), rowF_get (by simp; omega), List.getElem_append_right (by omega)]
      simp only [hl]
  have hlen : n + m = (decL E n f ++ decL E m g).length := by simp [decL_len]
  exact ⟨isRow_of hlen (by have := hf.1; have := hg.1; omega) key, decL_eq hlen key⟩
end Go.Sx
set_option linter.unusedVariables false
set_option linter.unusedSimpArgs false
namespace Go.Sx
open Go.ChangeShapes Go.WideShapes Go.ChangeAt Go.RowKit

/-- The types of the cells of a type. -/
def lvTF (P : Program) (rc : TypeId → Option (List TypeId)) : List Field → Nat → Option (List TypeId)
  | [], _ => some []
  | f :: fs, off => if f.offset ≠ off then none else match rc f.type with
    | some l => if P.cellsOf f.type = l.length then (match lvTF P rc fs (off + l.length) with
      | some ls => some (l ++ ls)
      | none => none) else none
    | none => none
def repL {α : Type} : Nat → List α → List α
  | 0, _ => []
  | n + 1, l => l ++ repL n l
def lvT (P : Program) : Nat → TypeId → Option (List TypeId)
  | 0, _ => none
  | d + 1, t => match P.underlying t with
    | some (.struct fs) => match lvTF P (lvT P d) fs.toList 0 with
      | some ts => if P.cellsOf t = ts.length then some ts else none
      | none => none
    | some (.array n e) => match lvT P d e with
      | some l => if P.cellsOf e = l.length ∧ P.cellsOf t = n * l.length then some (repL n l) else none
      | none => none
    | some (.int _) => some [t]
    | some .bool => some [t]
    | some .string => some [t]
    | some (.slice _) => some [t]
    | _ => none
/-- The kinds of the cells of a flat type. -/
def kOf (P : Program) (t : TypeId) : Option LK :=
  match P.underlying t with
  | some (.int k) => some (.i k)
  | some .bool => some .b
  | _ => none
def kOfs (P : Program) : List TypeId → Option (List LK)
  | [] => some []
  | t :: l => match kOf P t with
    | some k => match kOfs P l with
      | some ks => some (k :: ks)
      | none => none
    | none => none
def kinds (P : Program) (t : TypeId) : Option (List LK) :=
  match lvT P 20 t with
  | some ts => kOfs P ts
  | none => none

section
variable {H : Type} {enc : TypeId × Value → H} {P : Program} {w : World} {base : Nat} {sp : Nat → Bool} {held : Bool}

variable (enc P w base sp held) in
/-- Each cell is well read. -/
def leafOk : List TypeId → List Value → Prop
  | [], [] => True
  | t :: ts, c :: cs => (∃ fuel x, DataW.trod enc P w base sp held fuel t [c] = some x) ∧ leafOk ts cs
  | _, _ => False

theorem leafOk_append : ∀ {ts us : List TypeId} {cs ds : List Value}, leafOk enc P w base sp held ts cs → leafOk enc P w base sp held us ds → leafOk enc P w base sp held (ts ++ us) (cs ++ ds)
  | [], us, [], ds, _, h => h
  | t :: ts, us, c :: cs, ds, h1, h2 => ⟨h1.1, leafOk_append h1.2 h2⟩
  | [], _, _ :: _, _, h, _ => h.elim
  | _ :: _, _, [], _, h, _ => h.elim
theorem leafOk_len : ∀ {ts : List TypeId} {cs : List Value}, leafOk enc P w base sp held ts cs → cs.length = ts.length
  | [], [], _ => rfl
  | t :: ts, c :: cs, h => by simp [leafOk_len h.2]
  | [], _ :: _, h => h.elim
  | _ :: _, [], h => h.elim

theorem lvTF_ok {rc : TypeId → Option (List TypeId)} (hrc : ∀ t ts, rc t = some ts → ∀ fuel cs x, cs.length = P.cellsOf t → DataW.trod enc P w base sp held fuel t cs = some x → leafOk enc P w base sp held ts cs) :
    ∀ (fs : List Field) (off : Nat) (ts : List TypeId) (cs : List Value) (fuel : Nat) , lvTF P rc fs off = some ts → cs.length = off + ts.length →
      (∀ f ∈ fs, ∃ x, DataW.trod enc P w base sp held fuel f.type ((cs.drop f.offset).take (P.cellsOf f.type)) = some x) → leafOk enc P w base sp held ts (cs.drop off)
  | [], off, ts, cs, fuel, h, hl, _ => by
    simp only [lvTF, Option.some.injEq] at h
    subst h
    have : cs.drop off = [] := List.drop_eq_nil_of_le (by simp at hl; omega)
    rw [this]; exact trivial
  | f :: fs, off, ts, cs, fuel, h, hl, hf => by
    simp only [lvTF] at h
    split at h
    · cases h
    · rename_i hoff
      simp only [ne_eq, Decidable.not_not] at hoff
      split at h
      · rename_i l hl1
        split at h
        · rename_i hc
          split at h
          · rename_i ls hls
            cases h
            simp only [List.length_append] at hl
            obtain ⟨x, hx⟩ := hf f (by simp)
            rw [hoff, hc] at hx
            have h1 := hrc _ _ hl1 fuel _ x (by rw [hc]; simp; omega) hx
            have h2 := lvTF_ok hrc fs (off + l.length) ls cs fuel hls (by omega) (fun g hg => hf g (by simp [hg]))
            have e : cs.drop off = (cs.drop off).take l.length ++ cs.drop (off + l.length) := by
              rw [← List.drop_drop]; exact (List.take_append_drop _ _).symm
            rw [e]
            exact leafOk_append h1 h2
          · cases h
        · cases h
      · cases h

theorem repL_len {α : Type} (l : List α) : ∀ n, (repL n l).length = n * l.length
  | 0 => by simp [repL]
  | n + 1 => by simp [repL, repL_len l n, Nat.succ_mul]; omega
theorem rep_ok {ts : List TypeId} : ∀ (n : Nat) (cs : List Value), cs.length = n * ts.length → (∀ i, i < n → leafOk enc P w base sp held ts ((cs.drop (i * ts.length)).take ts.length)) → leafOk enc P w base sp held (repL n ts) cs
  | 0, cs, hl, _ => by
    have : cs = [] := List.eq_nil_of_length_eq_zero (by simpa using hl)
    subst this; exact trivial
  | n + 1, cs, hl, h => by
    rw [Nat.succ_mul] at hl
    have h0 := h 0 (by omega)
    simp only [Nat.zero_mul, List.drop_zero] at h0
    have ih := rep_ok (ts := ts) n (cs.drop ts.length) (by simp; omega) (fun i hi => by
      have := h (i + 1) (by omega)
      rw [List.drop_drop]
      have e : ts.length + i * ts.length = (i + 1) * ts.length := by rw [Nat.succ_mul]; omega
      rw [e]; exact this)
    have e : cs = cs.take ts.length ++ cs.drop ts.length := (List.take_append_drop _ _).symm
    rw [e]
    exact leafOk_append h0 ih

theorem lvT_ok : ∀ (d : Nat) (t : TypeId) (ts : List TypeId), lvT P d t = some ts → ∀ fuel cs x, cs.length = P.cellsOf t → DataW.trod enc P w base sp held fuel t cs = some x → leafOk enc P w base sp held ts cs
  | 0, t, ts, h, _, _, _, _, _ => by simp [lvT] at h
  | d + 1, t, ts, h, fuel, cs, x, hn, hx => by
    unfold lvT at h
    split at h
    · rename_i fs hu
      split at h
      · rename_i ts' hts
        split at h
        · rename_i hc
          cases h
          obtain ⟨xs, n, rfl, _, hlen, hxl, hxs⟩ := DataW.trod_struct hu hx
          have := lvTF_ok (lvT_ok d) fs.toList 0 ts cs n hts (by omega) (fun f hf => by
            obtain ⟨i, hi⟩ := List.getElem?_of_mem hf
            rw [Array.getElem?_toList] at hi
            have := hxs i f hi
            rw [this]
            have hlt : i < xs.length := by rw [hxl]; exact (Array.getElem?_eq_some_iff.1 hi).1
            exact ⟨_, List.getElem?_eq_getElem hlt⟩)
          simpa using this
        · cases h
      · cases h
    · rename_i n e hu
      split at h
      · rename_i l hl
        split at h
        · rename_i hc
          cases h
          obtain ⟨xs, m, rfl, _, hlen, hxl, hxs⟩ := DataW.trod_array hu hx
          refine rep_ok n cs (by omega) (fun i hi => ?_)
          have := hxs i hi
          rw [hc.1] at this
          rw [List.getElem?_eq_getElem (by omega)] at this
          have hi2 : i * l.length + l.length ≤ n * l.length := mul_lt_le hi
          exact lvT_ok d e l hl m _ _ (by rw [hc.1]; simp; omega) this
        · cases h
      · cases h
    all_goals (first | (cases h; done) | skip)
    all_goals
      rename_i hu
      cases h
      have h1 : ∃ c, cs = [c] := by
        cases fuel with
        | zero => simp [DataW.trod] at hx
        | succ n =>
          unfold DataW.trod at hx
          rw [hu] at hx
          split at hx <;> first | exact ⟨_, rfl⟩ | simp_all
      obtain ⟨c, rfl⟩ := h1
      exact ⟨⟨fuel, x, hx⟩, trivial⟩

theorem leaf_int {t : TypeId} {k : IntKind} {c : Value} (hu : P.underlying t = some (.int k)) (h : ∃ fuel x, DataW.trod enc P w base sp held fuel t [c] = some x) : ∃ n, c = .int k n ∧ k.min ≤ n ∧ n ≤ k.max := by
  obtain ⟨fuel, x, hx⟩ := h
  cases fuel with
  | zero => simp [DataW.trod] at hx
  | succ f =>
    unfold DataW.trod at hx
    rw [hu] at hx
    split at hx <;> simp_all
    rename_i k' n
    obtain ⟨⟨rfl, h2⟩, _⟩ := hx
    simp only [Lit.wf, Bool.and_eq_true, decide_eq_true_eq] at h2
    exact h2
theorem leaf_bool {t : TypeId} {c : Value} (hu : P.underlying t = some .bool) (h : ∃ fuel x, DataW.trod enc P w base sp held fuel t [c] = some x) : ∃ b, c = .bool b := by
  obtain ⟨fuel, x, hx⟩ := h
  cases fuel with
  | zero => simp [DataW.trod] at hx
  | succ f =>
    unfold DataW.trod at hx
    rw [hu] at hx
    split at hx <;> simp_all
theorem leaf_string {t : TypeId} {c : Value} (hu : P.underlying t = some .string) (h : ∃ fuel x, DataW.trod enc P w base sp held fuel t [c] = some x) : ∃ s : ByteArray, c = .string s ∧ s.size ≤ maxLen := by
  obtain ⟨fuel, x, hx⟩ := h
  cases fuel with
  | zero => simp [DataW.trod] at hx
  | succ f =>
    unfold DataW.trod at hx
    rw [hu] at hx
    split at hx <;> simp_all

theorem kinds_ok : ∀ {ts : List TypeId} {ks : List LK} {cs : List Value}, kOfs P ts = some ks → leafOk enc P w base sp held ts cs → kindOk ks cs
  | [], ks, [], h, _ => by cases h; exact trivial
  | t :: ts, ks, c :: cs, h, hl => by
    simp only [kOfs] at h
    split at h
    · rename_i k hk
      split at h
      · rename_i ks' hks
        cases h
        have ih := kinds_ok hks hl.2
        unfold kOf at hk
        split at hk
        · rename_i k' hu
          cases hk
          obtain ⟨n, rfl, h1, h2⟩ := leaf_int hu hl.1
          exact ⟨rfl, h1, h2, ih⟩
        · rename_i hu
          cases hk
          obtain ⟨b, rfl⟩ := leaf_bool hu hl.1
          exact ih
        · cases hk
      · cases h
    · cases h
  | [], _, _ :: _, _, h => h.elim
  | _ :: _, _, [], _, h => h.elim

/-- A slice of flat elements, opened. -/
theorem leaf_row {α : Type} {E : Enc α} {t e : TypeId} {c : Value} (hu : P.underlying t = some (.slice e)) (hk : kinds P e = some E.ks) (hc : P.cellsOf e = E.sz) (hpos : 0 < E.sz)
    (hsp : ∀ b, sp b = true) (h : ∃ fuel x, DataW.trod enc P w base sp held fuel t [c] = some x) :
    ∃ L : List α, (∀ x ∈ L, E.wf x) ∧ c.oneCell' = true ∧ (∀ r, (Ent.ro L.length E.sz (rowF E L)).rel r w c) ∧ ∀ b, blkOf c = some b → b < w.heap.size := by
  obtain ⟨fuel, x, hx⟩ := h
  rcases Deep.open_slice hu hx with ⟨h1, _⟩ | ⟨a, len, cap, m, n, D, Pl, h1, hb, hl, hm, hmm, _, hel⟩
  · cases h1
    exact ⟨[], (fun x hx => by cases hx), rfl, fun r => ⟨none, 0, rfl, Nat.le_refl _, by simp, fun h => by simp at h⟩, fun b hb => by simp [blkOf] at hb⟩
  · cases h1
    have hcell : ∀ i, i < m → ∃ y, E.wf y ∧ ∃ cs', w.cells? base (a.add (i * P.cellsOf e)) (P.cellsOf e) = some cs' ∧ E.enc y = cs'.map SC.v := by
      intro i hi
      obtain ⟨cs', h2, h3⟩ := hel i hi
      have hlen := (World.cells?_some h2).2.1
      unfold kinds at hk
      split at hk
      · rename_i ts hts
        have h4 := lvT_ok 20 e ts hts n cs' _ hlen h3
        obtain ⟨y, hy1, hy2⟩ := E.onto cs' (kinds_ok hk h4)
        exact ⟨y, hy2, cs', h2, hy1⟩
      · cases hk
    have hlem : len ≤ m := by rw [hmm]; split <;> omega
    -- one element after the other
    have hlist : ∀ k, k ≤ len → ∃ L : List α, L.length = k ∧ (∀ x ∈ L, E.wf x) ∧ ∀ i (hi : i < L.length), ∃ cs', w.cells? base (a.add (i * P.cellsOf e)) (P.cellsOf e) = some cs' ∧ E.enc L[i] = cs'.map SC.v := by
      intro k
      induction k with
      | zero => intro _; exact ⟨[], rfl, (fun x hx => by cases hx), fun i hi => by simp at hi⟩
      | succ k ih =>
        intro hk
        obtain ⟨L, h1, h2, h3⟩ := ih (by omega)
        obtain ⟨y, g1, cs', g2, g3⟩ := hcell k (by omega)
        refine ⟨L ++ [y], by simp [h1], fun x hx => ?_, fun i hi => ?_⟩
        · rw [List.mem_append] at hx
          rcases hx with hx | hx
          · exact h2 x hx
          · simp only [List.mem_singleton] at hx; subst hx; exact g1
        · by_cases hik : i < L.length
          · rw [List.getElem_append_left hik]; exact h3 i hik
          · simp only [List.length_append, List.length_singleton] at hi
            have : i = k := by omega
            subst this
            rw [List.getElem_append_right (by omega)]
            simp only [h1, Nat.sub_self, List.getElem_cons_zero]
            exact ⟨cs', g2, g3⟩
    obtain ⟨L, hL1, hL2, hL3⟩ := hlist len (Nat.le_refl _)
    have hcells : ∀ i, i < L.length → ∀ j, j < E.sz → w.cell? (a.add (i * E.sz + j)) = some ((rowF E L i j).den fun _ => undef) := by
      intro i hi j hj
      obtain ⟨cs', g1, g2⟩ := hL3 i hi
      rw [hc] at g1
      obtain ⟨g3, g4, g5⟩ := World.cells?_some g1
      have := g5 j (by omega)
      rw [Deep.add_add] at this
      rw [this, rowF_get hi]
      unfold cellAt
      rw [g2, nth_eq, List.getElem?_map, List.getElem?_eq_getElem (by omega)]
      rfl
    have hplain : 0 < len → ∃ b o, a = ⟨b, o, none⟩ ∧ b < w.heap.size := by
      intro h0
      have := hcells 0 (by omega) 0 hpos
      simp only [Nat.zero_mul, Nat.zero_add, Addr.add, if_true] at this
      unfold World.cell? at this
      split at this
      · rename_i c e' fr hb'
        split at this
        · cases this
        · rename_i hs
          obtain ⟨b, o, s⟩ := a
          simp only [Bool.not_eq_true, Option.isSome_eq_false_iff, Option.isNone_iff_eq_none] at hs
          simp only at hs hb'
          subst hs
          exact ⟨b, o, rfl, (Array.getElem?_eq_some_iff.1 hb').1⟩
      · cases this
    refine ⟨L, hL2, rfl, fun r => ⟨some a, cap, by rw [hL1], by omega, by simp [maxLen] at hm; omega, fun h0 => ?_⟩, fun b hb' => ?_⟩
    · obtain ⟨b, o, rfl, hlt⟩ := hplain (by omega)
      refine ⟨b, o, rfl, hlt, fun i j hi hj => ?_⟩
      have := hcells i hi j hj
      rw [Addr.add_plain] at this
      rw [this]
      obtain ⟨v, hv, _⟩ := rowF_flat (E := E) L i j
      rw [hv]; rfl
    · simp only [blkOf] at hb'
      split at hb'
      · cases hb'
      · cases hb'
        obtain ⟨y, g1, cs', g2, g3⟩ := hcell 0 (by rw [hmm, hsp]; simp; omega)
        rw [hc] at g2
        obtain ⟨_, g4, g5⟩ := World.cells?_some g2
        have := g5 0 (by omega)
        rw [List.getElem?_eq_getElem (by omega)] at this
        unfold World.cell? at this
        split at this
        · rename_i c e' fr hb'
          have h2 := (Array.getElem?_eq_some_iff.1 hb').1
          simp only [Nat.zero_mul, Addr.add, if_true] at h2
          exact h2
        · cases this

end
end Go.Sx
set_option linter.unusedVariables false
namespace Go.Sx
theorem kind_i {k : IntKind} {ks : List LK} {cs : List Value} (h : kindOk (.i k :: ks) cs) : ∃ n cs', cs = .int k n :: cs' ∧ k.min ≤ n ∧ n ≤ k.max ∧ kindOk ks cs' := by
  cases cs with
  | nil => exact h.elim
  | cons v cs =>
    cases v <;> first | exact h.elim | skip
    obtain ⟨rfl, h1, h2, h3⟩ := h
    exact ⟨_, _, rfl, h1, h2, h3⟩
theorem kind_b {ks : List LK} {cs : List Value} (h : kindOk (.b :: ks) cs) : ∃ n cs', cs = .bool n :: cs' ∧ kindOk ks cs' := by
  cases cs with
  | nil => exact h.elim
  | cons v cs =>
    cases v <;> first | exact h.elim | skip
    exact ⟨_, _, rfl, h⟩
theorem kind_n {cs : List Value} (h : kindOk [] cs) : cs = [] := by
  cases cs with
  | nil => rfl
  | cons v cs => exact h.elim
end Go.Sx
namespace Go.Sx
open Go.RowKit
/-- The elements' cells, one behind the other. -/
def encs {α : Type} (E : Enc α) : List α → List SC
  | [] => []
  | x :: l => E.enc x ++ encs E l
theorem encs_len {α : Type} (E : Enc α) : ∀ l : List α, (encs E l).length = l.length * E.sz
  | [] => by simp [encs]
  | x :: l => by simp [encs, encs_len E l, E.len, Nat.succ_mul]; omega
theorem encs_at {α : Type} (E : Enc α) : ∀ (l : List α) (e j : Nat) (he : e < l.length), j < E.sz → (encs E l)[e * E.sz + j]? = (E.enc l[e])[j]?
  | [], e, j, he, _ => by simp at he
  | x :: l, 0, j, _, hj => by simp only [encs, Nat.zero_mul, Nat.zero_add]; rw [List.getElem?_append_left (by rw [E.len]; exact hj)]; rfl
  | x :: l, e + 1, j, he, hj => by
    simp only [encs]
    rw [List.getElem?_append_right (by rw [E.len, Nat.succ_mul]; omega), E.len]
    have e1 : (e + 1) * E.sz + j - E.sz = e * E.sz + j := by rw [Nat.succ_mul]; omega
    rw [e1, encs_at E l e j (by simpa using he) hj]
    rfl
theorem lits_at {α : Type} (E : Enc α) (xs : List α) (e j : Nat) (he : e < xs.length) (hj : j < E.sz) : litF (encs E xs) E.sz e j = rowF E xs e j := by
  rw [rowF_get he]
  unfold litF cellAt
  rw [nth_eq, nth_eq, encs_at E xs e j he hj]
  cases (E.enc xs[e])[j]? <;> rfl
/-- A slice literal is a row. -/
theorem lits_row {α : Type} (E : Enc α) (xs : List α) : isRow E xs.length E.sz (litF (encs E xs) E.sz) ∧ decL E xs.length (litF (encs E xs) E.sz) = xs :=
  ⟨isRow_of rfl (.inr rfl) fun e j he hj => lits_at E xs e j he hj, decL_eq rfl fun e j he hj => lits_at E xs e j he hj⟩
theorem isRow_len {α : Type} {E : Enc α} (L : List α) {n sz : Nat} (hn : n = L.length) (hs : sz = E.sz) : isRow E n sz (rowF E L) ↔ True := by
  subst hn; subst hs; exact isRow_rowF L
theorem decL_lenD {α : Type} {E : Enc α} (L : List α) {n : Nat} (hn : n = L.length) : decL E n (rowF E L) = L := by subst hn; exact decL_rowF L
theorem bool_ext2 {a b : Bool} (h : a = true ↔ b = true) : a = b := Bool.eq_iff_iff.2 h
end Go.Sx
set_option linter.unusedVariables false
set_option linter.unusedSimpArgs false
namespace Go.Sx
open Go.ChangeShapes Go.WideShapes Go.ChangeAt Go.RowKit

section
variable {H : Type} {enc : TypeId × Value → H} {P : Program} {w : World} {base : Nat} {sp : Nat → Bool} {held : Bool}
/-- One cell of its own. -/
def oneT (P : Program) (t : TypeId) : Bool :=
  match P.underlying t with
  | some (.int _) | some .bool | some .string | some (.slice _) => true
  | _ => false
theorem open_one {r : Reach} {b0 : Nat} {t : TypeId} {v : Value} {d : DataW H} {ps : List MemPlace} (ho : oneT P t = true) (hv : Value.okWide P w r b0 t v) (hd : DataW.Trod enc P w base sp held t v d ps) :
    ∃ fuel x, DataW.trod enc P w base sp held fuel t [v] = some x := by
  obtain ⟨fuel, hx⟩ := hd
  have : v.cells.toList = [v] := by
    unfold oneT at ho
    unfold Value.okWide at hv
    cases v <;> first | rfl | skip
    split at ho
    all_goals first | (cases ho; done) | skip
    all_goals
      rename_i hu
      rw [hu] at hv
      simp [Cell.okWide, Cell.ok, hu] at hv
  rw [this] at hx
  exact ⟨fuel, _, hx⟩
theorem open_agg {r : Reach} {b0 : Nat} {t : TypeId} {ts : List TypeId} {fs : Array Field} {v : Value} {d : DataW H} {ps : List MemPlace} (hu : P.underlying t = some (.struct fs)) (ht : lvT P 20 t = some ts) (hv : Value.okWide P w r b0 t v) (hd : DataW.Trod enc P w base sp held t v d ps) :
    ∃ cs : List Value, v = .agg cs.toArray ∧ leafOk enc P w base sp held ts cs := by
  obtain ⟨fuel, hx⟩ := hd
  unfold Value.okWide at hv
  rw [hu] at hv
  obtain ⟨cs, rfl, hsz, _⟩ := hv
  exact ⟨cs.toList, by simp, lvT_ok 20 t ts ht fuel _ _ (by simpa [Value.cells] using hsz) hx⟩
theorem open_aggA {r : Reach} {b0 : Nat} {t e : TypeId} {n : Nat} {ts : List TypeId} {v : Value} {d : DataW H} {ps : List MemPlace} (hu : P.underlying t = some (.array n e)) (ht : lvT P 20 t = some ts) (hv : Value.okWide P w r b0 t v) (hd : DataW.Trod enc P w base sp held t v d ps) :
    ∃ cs : List Value, v = .agg cs.toArray ∧ leafOk enc P w base sp held ts cs := by
  obtain ⟨fuel, hx⟩ := hd
  unfold Value.okWide at hv
  rw [hu] at hv
  obtain ⟨cs, rfl, hsz, _⟩ := hv
  exact ⟨cs.toList, by simp, lvT_ok 20 t ts ht fuel _ _ (by simpa [Value.cells] using hsz) hx⟩
theorem leafs_cons {t : TypeId} {ts : List TypeId} {cs : List Value} (h : leafOk enc P w base sp held (t :: ts) cs) : ∃ c cs', cs = c :: cs' ∧ (∃ fuel x, DataW.trod enc P w base sp held fuel t [c] = some x) ∧ leafOk enc P w base sp held ts cs' := by
  cases cs with
  | nil => exact h.elim
  | cons c cs => exact ⟨c, cs, rfl, h.1, h.2⟩
theorem leafs_nil {cs : List Value} (h : leafOk enc P w base sp held [] cs) : cs = [] := by
  cases cs with
  | nil => rfl
  | cons c cs => exact h.elim
end

def rhoL (l : List Value) : Rho := fun i => match l[i]? with
  | some v => v
  | none => .bool true
/-- The rows of the arguments. -/
def rowsIn (W : World) (r : Rho) : List (Nat × Ent) → Prop
  | [] => True
  | (i, e) :: l => (e.mut = false ∧ e.rel r W (r i) ∧ ∀ b, blkOf (r i) = some b → b < W.heap.size) ∧ rowsIn W r l
theorem rowsIn_lk {W : World} {r : Rho} : ∀ {l : List (Nat × Ent)}, rowsIn W r l → ∀ i e, lk l i = some e → e.mut = false ∧ e.rel r W (r i) ∧ ∀ b, blkOf (r i) = some b → b < W.heap.size
  | [], _, i, e, h => by cases h
  | (j, x) :: l, hl, i, e, h => by
    simp only [lk] at h
    split at h
    · rename_i hj; cases hj; cases h; exact hl.1
    · exact rowsIn_lk hl.2 i e h
def onesL : List Value → Prop
  | [] => True
  | v :: l => v.oneCell' = true ∧ onesL l
theorem onesL_at : ∀ {l : List Value}, onesL l → ∀ i, (rhoL l i).oneCell' = true
  | [], _, i => rfl
  | v :: l, h, 0 => h.1
  | v :: l, h, i + 1 => onesL_at (l := l) h.2 i
theorem rows_rel {W : World} {l : List (Nat × Ent)} {vs : List Value} (h1 : onesL vs) (h : rowsIn W (rhoL vs) l) : HeapRel W ⟨fun _ => False, fun _ => True⟩ (rhoL vs) (lk l) W where
  size := Nat.le_refl _
  one := onesL_at h1
  os := rfl
  tape := rfl
  output := rfl
  frame := fun _ _ _ => rfl
  ent := fun i e he => (rowsIn_lk h i e he).2.1
  apart := fun i j e e' _ hi _ hm => by rw [(rowsIn_lk h i e hi).1] at hm; cases hm
  mine := fun i e he hm => by rw [(rowsIn_lk h i e he).1] at hm; cases hm
  src := fun i e he _ b hb => ⟨(rowsIn_lk h i e he).2.2 b hb, .inr trivial⟩
/-- What a contract says of a call of a law. -/
theorem row_calls {P : Program} {f : Nat} {g : Con} {args : List S1} {n : Nat} {l : List (Nat × Ent)} {pre : Prop} {res : SV} (h : COk P f g) (hbd : bodied P f = true) (hs : g args (lk l) n = some (.q pre res)) (ha : sc1L (upto n) args) (hE : scEnt (upto n) l) {W : World} {vs : List Value} (h1 : onesL vs) (hr : rowsIn W (rhoL vs) l) (hp : pre) :
    Calls P f (args.map (S1.den (rhoL vs))).toArray W (fun e w' => e = .returned (res.den (rhoL vs)) ∧ Below W.heap.size W w') := by
  have := h args (lk l) n (sc1L_sound ha) (fun i e h => scEnt_sound hE i e h)
  rw [hs] at this
  exact (this.2 hp W _ _ W (rows_rel h1 hr)).calls hbd
theorem getD_wf {α : Type} {E : Enc α} {L : List α} (h : ∀ x ∈ L, E.wf x) (k : Nat) (hk : k < L.length) : E.wf (L.getD k E.dflt) := by
  rw [List.getD_eq_getElem?_getD, List.getElem?_eq_getElem hk]
  exact h _ (List.getElem_mem hk)
end Go.Sx
set_option linter.unusedVariables false
set_option linter.unusedSimpArgs false
namespace Go.Sx
def eI : Enc Int where
  sz := 1
  ks := [.i .i64]
  wf := fun x => ((-9223372036854775808) ≤ x ∧ x ≤ 9223372036854775807)
  enc := fun x => [.v (.int .i64 x)]
  dec := fun f => intC (f 0)
  dflt := 0
  flat := by
    intro x c hc
    simp only [List.mem_cons, List.not_mem_nil, or_false] at hc
    subst hc; exact ⟨_, rfl, rfl⟩
  len := fun x => rfl
  onto := by
    intro cs h
    obtain ⟨n0, cs0, rfl, a0, b0, h0⟩ := kind_i h
    obtain rfl := kind_n h0
    exact ⟨n0, rfl, ⟨a0, b0⟩⟩
  de := by
    intro x f h
    have h0 := h 0 (by decide)
    simp only [nth] at h0
    simp only [h0, intC, boolC]
theorem eI_sz : eI.sz = 1 := rfl
theorem eI_0 (L : List Int) (e : Nat) : rowF eI L e 0 = .v (.int .i64 (L.getD e eI.dflt)) := rfl
theorem eI_isRow (L : List Int) : isRow eI L.length 1 (rowF eI L) ↔ True := isRow_rowF L
def eU8 : Enc Int where
  sz := 1
  ks := [.i .u8]
  wf := fun x => (0 ≤ x ∧ x ≤ 255)
  enc := fun x => [.v (.int .u8 x)]
  dec := fun f => intC (f 0)
  dflt := 0
  flat := by
    intro x c hc
    simp only [List.mem_cons, List.not_mem_nil, or_false] at hc
    subst hc; exact ⟨_, rfl, rfl⟩
  len := fun x => rfl
  onto := by
    intro cs h
    obtain ⟨n0, cs0, rfl, a0, b0, h0⟩ := kind_i h
    obtain rfl := kind_n h0
    exact ⟨n0, rfl, ⟨a0, b0⟩⟩
  de := by
    intro x f h
    have h0 := h 0 (by decide)
    simp only [nth] at h0
    simp only [h0, intC, boolC]
theorem eU8_sz : eU8.sz = 1 := rfl
theorem eU8_0 (L : List Int) (e : Nat) : rowF eU8 L e 0 = .v (.int .u8 (L.getD e eU8.dflt)) := rfl
theorem eU8_isRow (L : List Int) : isRow eU8 L.length 1 (rowF eU8 L) ↔ True := isRow_rowF L
def eU16 : Enc Int where
  sz := 1
  ks := [.i .u16]
  wf := fun x => (0 ≤ x ∧ x ≤ 65535)
  enc := fun x => [.v (.int .u16 x)]
  dec := fun f => intC (f 0)
  dflt := 0
  flat := by
    intro x c hc
    simp only [List.mem_cons, List.not_mem_nil, or_false] at hc
    subst hc; exact ⟨_, rfl, rfl⟩
  len := fun x => rfl
  onto := by
    intro cs h
    obtain ⟨n0, cs0, rfl, a0, b0, h0⟩ := kind_i h
    obtain rfl := kind_n h0
    exact ⟨n0, rfl, ⟨a0, b0⟩⟩
  de := by
    intro x f h
    have h0 := h 0 (by decide)
    simp only [nth] at h0
    simp only [h0, intC, boolC]
theorem eU16_sz : eU16.sz = 1 := rfl
theorem eU16_0 (L : List Int) (e : Nat) : rowF eU16 L e 0 = .v (.int .u16 (L.getD e eU16.dflt)) := rfl
theorem eU16_isRow (L : List Int) : isRow eU16 L.length 1 (rowF eU16 L) ↔ True := isRow_rowF L
def eI32 : Enc Int where
  sz := 1
  ks := [.i .i32]
  wf := fun x => ((-2147483648) ≤ x ∧ x ≤ 2147483647)
  enc := fun x => [.v (.int .i32 x)]
  dec := fun f => intC (f 0)
  dflt := 0
  flat := by
    intro x c hc
    simp only [List.mem_cons, List.not_mem_nil, or_false] at hc
    subst hc; exact ⟨_, rfl, rfl⟩
  len := fun x => rfl
  onto := by
    intro cs h
    obtain ⟨n0, cs0, rfl, a0, b0, h0⟩ := kind_i h
    obtain rfl := kind_n h0
    exact ⟨n0, rfl, ⟨a0, b0⟩⟩
  de := by
    intro x f h
    have h0 := h 0 (by decide)
    simp only [nth] at h0
    simp only [h0, intC, boolC]
theorem eI32_sz : eI32.sz = 1 := rfl
theorem eI32_0 (L : List Int) (e : Nat) : rowF eI32 L e 0 = .v (.int .i32 (L.getD e eI32.dflt)) := rfl
theorem eI32_isRow (L : List Int) : isRow eI32 L.length 1 (rowF eI32 L) ↔ True := isRow_rowF L
def eU32 : Enc Int where
  sz := 1
  ks := [.i .u32]
  wf := fun x => (0 ≤ x ∧ x ≤ 4294967295)
  enc := fun x => [.v (.int .u32 x)]
  dec := fun f => intC (f 0)
  dflt := 0
  flat := by
    intro x c hc
    simp only [List.mem_cons, List.not_mem_nil, or_false] at hc
    subst hc; exact ⟨_, rfl, rfl⟩
  len := fun x => rfl
  onto := by
    intro cs h
    obtain ⟨n0, cs0, rfl, a0, b0, h0⟩ := kind_i h
    obtain rfl := kind_n h0
    exact ⟨n0, rfl, ⟨a0, b0⟩⟩
  de := by
    intro x f h
    have h0 := h 0 (by decide)
    simp only [nth] at h0
    simp only [h0, intC, boolC]
theorem eU32_sz : eU32.sz = 1 := rfl
theorem eU32_0 (L : List Int) (e : Nat) : rowF eU32 L e 0 = .v (.int .u32 (L.getD e eU32.dflt)) := rfl
theorem eU32_isRow (L : List Int) : isRow eU32 L.length 1 (rowF eU32 L) ↔ True := isRow_rowF L
def eU64 : Enc Int where
  sz := 1
  ks := [.i .u64]
  wf := fun x => (0 ≤ x ∧ x ≤ 18446744073709551615)
  enc := fun x => [.v (.int .u64 x)]
  dec := fun f => intC (f 0)
  dflt := 0
  flat := by
    intro x c hc
    simp only [List.mem_cons, List.not_mem_nil, or_false] at hc
    subst hc; exact ⟨_, rfl, rfl⟩
  len := fun x => rfl
  onto := by
    intro cs h
    obtain ⟨n0, cs0, rfl, a0, b0, h0⟩ := kind_i h
    obtain rfl := kind_n h0
    exact ⟨n0, rfl, ⟨a0, b0⟩⟩
  de := by
    intro x f h
    have h0 := h 0 (by decide)
    simp only [nth] at h0
    simp only [h0, intC, boolC]
theorem eU64_sz : eU64.sz = 1 := rfl
theorem eU64_0 (L : List Int) (e : Nat) : rowF eU64 L e 0 = .v (.int .u64 (L.getD e eU64.dflt)) := rfl
theorem eU64_isRow (L : List Int) : isRow eU64 L.length 1 (rowF eU64 L) ↔ True := isRow_rowF L
theorem rowI_len {n : Nat} {L : List Int} (h : n = L.length) : rowI n (rowF eU8 L) = L := by
  subst h
  apply List.ext_getElem?
  intro i
  by_cases hi : i < L.length
  · rw [rowI_get _ _ _ hi, eU8_0]
    simp [intC, List.getD_eq_getElem?_getD, hi]
  · rw [List.getElem?_eq_none (by simp [rowI]; omega), List.getElem?_eq_none (by omega)]
theorem rowI_rowF (L : List Int) : rowI L.length (rowF eU8 L) = L := rowI_len rfl
theorem rowBytes_rowF (n : Nat) (L : List Int) : rowBytes n 1 (rowF eU8 L) ↔ True := iff_true_intro ⟨.inr rfl, fun e _ => by rw [eU8_0]; rfl⟩
theorem rowI_nil (f : Nat → Nat → SC) : rowI 0 f = [] := rfl
theorem rowBytes_nil (sz : Nat) (f : Nat → Nat → SC) : rowBytes 0 sz f ↔ True := iff_true_intro ⟨.inl rfl, fun e he => by omega⟩
theorem pair_eta {α β : Type} (x : α × β) : (x.1, x.2) = x := rfl
attribute [push_cast] eqR_app keepB qMkf cpOf cpS subP CP.sub renP scP CP.sc idsP pair_eta vcF env0 vcC_skip vcC_regT vcC_regF vcC_regD vcC_seq vcC_cond vcC_block vcC_loop vcC_exit vcC_ret vcOps_nil vcOps_cons kSeq_norm kSeq_ex kSeq_ret kBlock_norm kBlock_ex kBlock_ret kRet_ex kRet_norm kRet_ret kLoop_norm kLoop_ex kLoop_ret fitQ_app eqQ_app vcOpsQ vcOp vcOpG vcOp1 vcNil vcEff evQ evQ0 evTup tupOf guardOf rd rds lk opQ qMv qBuild qLoad1 qLoadN qFld qPart1 qPartN qIx1 qIxN qIxA qIxS qBin qBinb qEqA qUn qConv qMin qMax qLenS qNil fin evPick evCR evExt recEff effE eBox eAlloc eStore eCall eSlit eMks eSlc eSlcO eApp lims takeI rowV rowOf boxOf reach reachB resE ids1L S1.ids SC.ids idsL SV.ids memN pushR pushN usesX readsX slotsL XO.slots vcD vcDgo recOf Rec.foot nRes keys vcCond tab plain rets ret1 retV St.put constS nth takeAt setAt fillS ups oks okcs S1.ok SC.ok Value.oneCell' S1.cells binI isShift eqCells eqC sc1L sc1 scL SC.sc scV scEnv scEnt scE Le LeB bndOf bindEnv bindEnt bindM bindV bind1 bind1L bindL bindC imgB bndOk leEnv leEnt leAt leE nilE imgs outN nodupN mapEq SC.sub subL S1.sub sub1L SV.sub upto mkI keepS idsEnv keepN rowF_scT rowEq_rowF rowEq_lit okRow_rowF okRow_lit lit_scF isRow_rowF isRow_nil decL_rowF decL_nil List.getD_cons_zero List.getD_cons_succ sg SC.ren renL S1.ren ren1L SV.ren Ent.ren renE List.map_cons List.map_nil List.length_cons List.length_nil List.nil_append List.cons_append List.append_nil Option.getD_none Option.getD_some Int.toNat_natCast Int.toNat_zero Nat.add_zero Nat.zero_add Nat.le_refl Nat.zero_le Nat.sub_zero Nat.sub_self Nat.lt_irrefl Nat.add_lt_add_iff_left Nat.add_eq_zero_iff and_true true_and and_self and_false false_and forall_const Bool.false_eq_true Bool.true_eq_false false_or or_false or_true true_or cond_true cond_false beq_self_eq_true beq_true beq_false bne_iff_ne bne_eq_false_iff_eq beq_iff_eq beq_eq_false_iff_ne true_implies false_implies imp_self implies_true Bool.not_not Bool.and_true Bool.true_and Bool.and_false Bool.false_and Bool.not_true Bool.not_false Bool.true_or Bool.or_true Bool.false_or Bool.or_false Bool.cond_false_right Bool.cond_true_left Bool.cond_true_right Bool.cond_false_left SV.o.injEq SV.t.injEq SV.g.injEq S1.c.injEq S1.a.injEq SC.v.injEq SC.n.injEq SC.p.injEq Value.bool.injEq Value.int.injEq List.cons.injEq Option.some.injEq Prod.mk.injEq decide_eq_true_eq gt_iff_lt ge_iff_le ne_eq Int.cast_ofNat_Int Int.natCast_nonneg Int.ofNat_lt Int.ofNat_le not_false_eq_true not_true_eq_false Bool.not_eq_true' Bool.not_eq_false' Bool.or_eq_true Bool.and_eq_true Bool.or_eq_false_iff decide_eq_false_iff_not Int.zero_sub and_imp bne_self_eq_false Bool.bne_true Bool.bne_false Int.sub_zero vcC_bad vcC_cut kCut_norm kCut_ex kCut_ret qX qSlen qSidx qSbin qSslc qEqP qStr qSdata qToU qFromU ptrEq strI eUstr rowI_rowF rowBytes_rowF rowI_nil rowBytes_nil qLookM qLenM eMkm eUpm getM updM eMpe eMps idxM entM putM idsM leM renM scM keyXY
attribute [push_cast] eI_isRow eI_sz eI_0 eU8_isRow eU8_sz eU8_0 eU16_isRow eU16_sz eU16_0 eI32_isRow eI32_sz eI32_0 eU32_isRow eU32_sz eU32_0 eU64_isRow eU64_sz eU64_0
end Go.Sx
set_option linter.unusedVariables false
set_option linter.unusedSimpArgs false
namespace Go.Sx
structure CC where
  X : Int
  Y : Int
def eC : Enc CC where
  sz := 2
  ks := [.i .i64, .i .i64]
  wf := fun x => ((-9223372036854775808) ≤ x.X ∧ x.X ≤ 9223372036854775807) ∧ ((-9223372036854775808) ≤ x.Y ∧ x.Y ≤ 9223372036854775807)
  enc := fun x => [.v (.int .i64 x.X), .v (.int .i64 x.Y)]
  dec := fun f => ⟨intC (f 0), intC (f 1)⟩
  dflt := ⟨0, 0⟩
  flat := by
    intro x c hc
    simp only [List.mem_cons, List.not_mem_nil, or_false] at hc
    rcases hc with rfl | rfl <;> exact ⟨_, rfl, rfl⟩
  len := fun x => rfl
  onto := by
    intro cs h
    obtain ⟨n0, cs0, rfl, a0, b0, h0⟩ := kind_i h
    obtain ⟨n1, cs1, rfl, a1, b1, h1⟩ := kind_i h0
    obtain rfl := kind_n h1
    exact ⟨⟨n0, n1⟩, rfl, ⟨a0, b0⟩, ⟨a1, b1⟩⟩
  de := by
    intro x f h
    have h0 := h 0 (by decide)
    simp only [nth] at h0
    have h1 := h 1 (by decide)
    simp only [nth] at h1
    simp only [h0, h1, intC, boolC]
theorem eC_sz : eC.sz = 2 := rfl
theorem eC_0 (L : List CC) (e : Nat) : rowF eC L e 0 = .v (.int .i64 (L.getD e eC.dflt).X) := rfl
theorem eC_1 (L : List CC) (e : Nat) : rowF eC L e 1 = .v (.int .i64 (L.getD e eC.dflt).Y) := rfl
theorem eC_eta (x : CC) : CC.mk x.X x.Y = x := rfl
theorem eC_isRow (L : List CC) : isRow eC L.length 2 (rowF eC L) ↔ True := isRow_rowF L
attribute [push_cast] eC_eta eC_isRow eC_sz eC_0 eC_1
/-! Short forms of operations. -/
def O1 (d : Nat) (op : XOp) (s : Nat) : XOper := ⟨some d, op, [.t s], none⟩
def O2 (d : Nat) (op : XOp) (s r : Nat) : XOper := ⟨some d, op, [.t s, .t r], none⟩
def K1 (d : Nat) (op : XOp) (v : Value) : XOper := ⟨some d, op, [.k v], none⟩
def K2 (d : Nat) (op : XOp) (s : Nat) (v : Value) : XOper := ⟨some d, op, [.t s, .k v], none⟩
def G1 (d : Nat) (op : XOp) (s g : Nat) (b : Bool) : XOper := ⟨some d, op, [.t s], some (g, b)⟩
def G2 (d : Nat) (op : XOp) (s r g : Nat) (b : Bool) : XOper := ⟨some d, op, [.t s, .t r], some (g, b)⟩
def GK (d : Nat) (op : XOp) (s : Nat) (v : Value) (g : Nat) (b : Bool) : XOper := ⟨some d, op, [.t s, .k v], some (g, b)⟩
def iV (n : Int) : Value := .int .i64 n
attribute [push_cast] O1 O2 K1 K2 G1 G2 GK iV
/-! ### Lists of cells by rows -/
def ltC (a b : CC) : Prop := a.Y < b.Y ∨ a.Y = b.Y ∧ a.X < b.X
theorem ltC_irrefl (a : CC) : ¬ ltC a a := by unfold ltC; omega
theorem ltC_trans {a b c : CC} (h1 : ltC a b) (h2 : ltC b c) : ltC a c := by unfold ltC at *; omega
theorem sorted_ext {α : Type} {R : α → α → Prop} (hi : ∀ a, ¬ R a a) (ht : ∀ {a b c}, R a b → R b c → R a c) : ∀ {l m : List α}, l.Pairwise R → m.Pairwise R → (∀ c, c ∈ l ↔ c ∈ m) → l = m
  | [], [], _, _, _ => rfl
  | [], b :: m, _, _, h => by have := (h b).2 List.mem_cons_self; cases this
  | a :: l, [], _, _, h => by have := (h a).1 List.mem_cons_self; cases this
  | a :: l, b :: m, hl, hm, h => by
    have hl' := List.pairwise_cons.1 hl
    have hm' := List.pairwise_cons.1 hm
    have hab : a = b := by
      rcases List.mem_cons.1 ((h a).1 List.mem_cons_self) with h1 | h1
      · exact h1
      · rcases List.mem_cons.1 ((h b).2 List.mem_cons_self) with h2 | h2
        · exact h2.symm
        · exact absurd (ht (hl'.1 b h2) (hm'.1 a h1)) (hi a)
    subst hab
    congr 1
    refine sorted_ext hi ht hl'.2 hm'.2 fun c => ?_
    have := h c
    simp only [List.mem_cons] at this
    constructor
    · intro hc
      rcases this.1 (.inr hc) with h1 | h1
      · subst h1; exact absurd (hl'.1 c hc) (hi c)
      · exact h1
    · intro hc
      rcases this.2 (.inr hc) with h1 | h1
      · subst h1; exact absurd (hm'.1 c hc) (hi c)
      · exact h1
def gridRow (p : Int → Int → Bool) (x0 y : Int) (n : Nat) : List CC := ((List.range n).filter fun i : Nat => p (x0 + i) y).map fun i : Nat => (⟨x0 + i, y⟩ : CC)
def gridUp (p : Int → Int → Bool) (x0 : Int) (w : Nat) (y0 : Int) (h : Nat) : List CC := (List.range h).flatMap fun j : Nat => gridRow p x0 (y0 + j) w
/-- The cells of a range of columns and rows that have a property, row by row. -/
def gridL (p : Int → Int → Bool) (x0 x1 y0 y1 : Int) : List CC := gridUp p x0 (x1 - x0 + 1).toNat y0 (y1 - y0 + 1).toNat
theorem gridRow_zero (p : Int → Int → Bool) (x0 y : Int) : gridRow p x0 y 0 = [] := rfl
theorem gridUp_zero (p : Int → Int → Bool) (x0 : Int) (w : Nat) (y0 : Int) : gridUp p x0 w y0 0 = [] := rfl
theorem gridRow_yes {p : Int → Int → Bool} {x0 y : Int} {n : Nat} (h : p (x0 + n) y = true) : gridRow p x0 y (n + 1) = gridRow p x0 y n ++ [⟨x0 + n, y⟩] := by
  simp [gridRow, List.range_succ, List.filter_append, h]
theorem gridRow_no {p : Int → Int → Bool} {x0 y : Int} {n : Nat} (h : p (x0 + n) y = false) : gridRow p x0 y (n + 1) = gridRow p x0 y n := by
  simp [gridRow, List.range_succ, List.filter_append, h]
theorem gridUp_succ (p : Int → Int → Bool) (x0 : Int) (w : Nat) (y0 : Int) (h : Nat) : gridUp p x0 w y0 (h + 1) = gridUp p x0 w y0 h ++ gridRow p x0 (y0 + h) w := by
  simp [gridUp, List.range_succ, List.flatMap_append]
theorem gridRow_len (p : Int → Int → Bool) (x0 y : Int) (n : Nat) : (gridRow p x0 y n).length ≤ n := by
  unfold gridRow; rw [List.length_map]
  exact Nat.le_trans (List.length_filter_le _ _) (by simp)
theorem gridUp_len (p : Int → Int → Bool) (x0 : Int) (w : Nat) (y0 : Int) : ∀ h, (gridUp p x0 w y0 h).length ≤ h * w
  | 0 => by simp [gridUp_zero]
  | h + 1 => by
    rw [gridUp_succ, List.length_append, Nat.succ_mul]
    have := gridUp_len p x0 w y0 h
    have := gridRow_len p x0 (y0 + h) w
    omega
theorem gridRow_mem {p : Int → Int → Bool} {x0 y : Int} {n : Nat} {c : CC} : c ∈ gridRow p x0 y n ↔ p c.X c.Y = true ∧ x0 ≤ c.X ∧ c.X < x0 + n ∧ c.Y = y := by
  simp only [gridRow, List.mem_map, List.mem_filter, List.mem_range]
  constructor
  · rintro ⟨i, ⟨h1, h2⟩, rfl⟩; exact ⟨h2, by simp only; omega, by simp only; omega, rfl⟩
  · rintro ⟨h1, h2, h3, h4⟩
    have e : x0 + ((c.X - x0).toNat : Int) = c.X := by omega
    refine ⟨(c.X - x0).toNat, ⟨by omega, ?_⟩, ?_⟩
    · rw [e, ← h4]; exact h1
    · rw [e, ← h4]
theorem gridUp_mem {p : Int → Int → Bool} {x0 y0 : Int} {w h : Nat} {c : CC} : c ∈ gridUp p x0 w y0 h ↔ p c.X c.Y = true ∧ (x0 ≤ c.X ∧ c.X < x0 + w) ∧ y0 ≤ c.Y ∧ c.Y < y0 + h := by
  simp only [gridUp, List.mem_flatMap, List.mem_range, gridRow_mem]
  constructor
  · rintro ⟨j, h1, h2, h3, h4, h5⟩; exact ⟨h2, ⟨h3, h4⟩, by omega, by omega⟩
  · rintro ⟨h1, ⟨h2, h3⟩, h4, h5⟩; exact ⟨(c.Y - y0).toNat, by omega, h1, h2, h3, by omega⟩
theorem gridL_mem {p : Int → Int → Bool} {x0 x1 y0 y1 : Int} {c : CC} : c ∈ gridL p x0 x1 y0 y1 ↔ p c.X c.Y = true ∧ (x0 ≤ c.X ∧ c.X ≤ x1) ∧ y0 ≤ c.Y ∧ c.Y ≤ y1 := by
  unfold gridL; rw [gridUp_mem]
  constructor
  · rintro ⟨h1, ⟨h2, h3⟩, h4, h5⟩; exact ⟨h1, ⟨h2, by omega⟩, h4, by omega⟩
  · rintro ⟨h1, ⟨h2, h3⟩, h4, h5⟩; exact ⟨h1, ⟨h2, by omega⟩, h4, by omega⟩
theorem gridRow_sorted (p : Int → Int → Bool) (x0 y : Int) : ∀ n, (gridRow p x0 y n).Pairwise ltC
  | 0 => List.Pairwise.nil
  | n + 1 => by
    cases h : p (x0 + n) y
    · rw [gridRow_no h]; exact gridRow_sorted p x0 y n
    · rw [gridRow_yes h, List.pairwise_append]
      refine ⟨gridRow_sorted p x0 y n, List.pairwise_singleton _ _, fun a ha b hb => ?_⟩
      rw [List.mem_singleton] at hb; subst hb
      have := gridRow_mem.1 ha
      unfold ltC; simp only; omega
theorem gridUp_sorted (p : Int → Int → Bool) (x0 : Int) (w : Nat) (y0 : Int) : ∀ h, (gridUp p x0 w y0 h).Pairwise ltC
  | 0 => List.Pairwise.nil
  | h + 1 => by
    rw [gridUp_succ, List.pairwise_append]
    refine ⟨gridUp_sorted p x0 w y0 h, gridRow_sorted _ _ _ _, fun a ha b hb => ?_⟩
    have h1 := gridUp_mem.1 ha
    have h2 := gridRow_mem.1 hb
    unfold ltC; omega
theorem gridL_sorted (p : Int → Int → Bool) (x0 x1 y0 y1 : Int) : (gridL p x0 x1 y0 y1).Pairwise ltC := gridUp_sorted _ _ _ _ _
theorem grid_ext {l m : List CC} (hl : l.Pairwise ltC) (hm : m.Pairwise ltC) (h : ∀ c, c ∈ l ↔ c ∈ m) : l = m := sorted_ext ltC_irrefl ltC_trans hl hm h
/-! ### A list's step -/
theorem push_eq {α : Type} {E : Enc α} {L L' : List α} {x : α} {sz : Nat} {b : Bnd} (h : L' = L ++ [x]) : L.length + 1 = L'.length ∧ rowEq (L.length + 1) sz (catF L.length (rowF E L) (litF (E.enc x) sz)) (rowF E L') (SC.sub b) := by
  subst h
  exact ⟨by simp, rowEq_push1 E L x (fun _ => rfl)⟩
theorem same_eq {α : Type} {E : Enc α} {L L' : List α} {n sz : Nat} {b : Bnd} (h : L' = L) : L.length = L'.length ∧ rowEq n sz (rowF E L) (rowF E L') (SC.sub b) := by
  subst h
  exact ⟨rfl, (rowEq_rowF _ _ _ _).2 trivial⟩
end Go.Sx
set_option linter.unusedVariables false
namespace Go.Sx
instance : DecidableEq CC := fun a b => if h : a.X = b.X ∧ a.Y = b.Y then isTrue (by cases a; cases b; simp only at h; rw [h.1, h.2]) else isFalse (fun e => h (by rw [e]; exact ⟨rfl, rfl⟩))
theorem getD_ext {α : Type} {L K : List α} (d : α) (hl : L.length = K.length) (h : ∀ i, i < L.length → L.getD i d = K.getD i d) : L = K := by
  refine List.ext_getElem hl fun i h1 h2 => ?_
  have := h i h1
  rw [List.getD_eq_getElem?_getD, List.getD_eq_getElem?_getD, List.getElem?_eq_getElem h1, List.getElem?_eq_getElem h2] at this
  exact this
theorem cc_eq (a b : CC) : (a.X == b.X && a.Y == b.Y) = decide (a = b) := by
  rw [Bool.eq_iff_iff]; simp only [Bool.and_eq_true, beq_iff_eq, decide_eq_true_eq]
  constructor
  · intro h; cases a; cases b; simp only at h; rw [h.1, h.2]
  · intro h; rw [h]; exact ⟨rfl, rfl⟩
end Go.Sx
set_option linter.unusedVariables false
namespace Go.Sx
open Go.RowKit
section
variable {P : Program} {base : World} {M : Scp} {r : Rho} {w : World}
/-- A new block under a new name, the world behind a call. -/
theorem HeapRel.mkB {E : Nat → Option Ent} {c : Nat} {V : Value} {e : Ent} {w' : World} (h : HeapRel base M r E w) (hs : ∀ i x, E i = some x → i ≠ c ∧ x.sc (fun i => i ≠ c)) (h1 : V.oneCell' = true)
    (hbl : Below w.heap.size w w') (hb : ∀ b, blkOf V = some b → w.heap.size ≤ b ∧ b < w'.heap.size) (he : e.rel (more r c V) w' V) : HeapRel base M (more r c V) (upd [(c, e)] E) w' := by
  have hx := (h.below hbl).ext (r' := more r c V) hs more_ne (more_one h.one h1)
  have hsz := hbl.size
  refine ⟨hx.size, hx.one, hx.os, hx.tape, hx.output, hx.frame, ?_, ?_, ?_, ?_⟩
  · intro i x hi
    rw [upd_one] at hi
    by_cases hc : c = i
    · subst hc; rw [if_pos rfl] at hi; cases hi; rw [more_new]; exact he
    · rw [if_neg hc] at hi; exact hx.ent i x hi
  · intro i j x x' hij hi hj hm hl b hb1 hb2
    rw [upd_one] at hi hj
    by_cases hc : c = i
    · subst hc
      rw [more_new] at hb1
      rw [if_neg hij] at hj
      rw [more_ne _ (hs j x' hj).1] at hb2
      have := (h.src j x' hj hl b hb2).1
      have := hb b hb1
      omega
    · rw [if_neg hc] at hi
      by_cases hc2 : c = j
      · subst hc2
        rw [more_new] at hb2
        rw [more_ne _ (hs i x hi).1] at hb1
        have := (h.src i x hi (Ent.mut_live hm) b hb1).1
        have := hb b hb2
        omega
      · rw [if_neg hc2] at hj
        exact hx.apart i j x x' hij hi hj hm hl b hb1 hb2
  · intro i x hi hm b hb1
    rw [upd_one] at hi
    by_cases hc : c = i
    · subst hc; rw [more_new] at hb1; exact .inl (by have := hb b hb1; have := h.size; omega)
    · rw [if_neg hc] at hi; exact hx.mine i x hi hm b hb1
  · intro i x hi hl b hb1
    rw [upd_one] at hi
    by_cases hc : c = i
    · subst hc; rw [more_new] at hb1; have := hb b hb1; have := h.size; exact ⟨by omega, .inl (by omega)⟩
    · rw [if_neg hc] at hi; exact hx.src i x hi hl b hb1
end
end Go.Sx
set_option linter.unusedVariables false
namespace Go.Sx
open Go.RowKit
theorem inE_own {α : Type} {E : Enc α} {Et : Nat → Option Ent} {l n s ty : Nat} {f : Nat → Nat → SC} {σ : Nat → Nat} (hl : Et l = some (.own n s f ty)) (h : isRow E n s f) (hs : s = E.sz) :
    ∃ e0, Et l = some e0 ∧ leE (SC.ren σ) e0 (.own (decL E n f).length E.sz (rowF E (decL E n f)) ty) := by
  obtain ⟨h1, h2⟩ := h
  refine ⟨_, hl, (decL_len n f).symm, hs, rfl, ?_⟩
  intro e j he hj
  subst hs
  rw [rowF_ren]; exact h2 e j he hj
/-- A function that the model answers at once, with the value that it got. -/
def sameCon : Con := fun args _ _ => match args with
  | [x] => some (.q True (.o x))
  | _ => none
attribute [push_cast] sameCon
theorem cok_same {P : Program} {f : Nat} (h : ∀ (v : Value) (w : World), (callFunc f #[v]).run P w = .ok (.value v) w) : COk P f sameCon := by
  intro args E n hargs hE
  unfold sameCon
  split
  · rename_i x
    refine ⟨fun m hm _ => hm x (by simp), fun _ base M r w hh => .inr ⟨x.den r, h _ _, rfl, Below.refl _ _⟩⟩
  · trivial
end Go.Sx
namespace Go.Sx
theorem rowEq_lit1 (c : Int) {τ : SC → SC} (hτ : ∀ v, τ (.v v) = .v v) : rowEq 1 1 (litF [.v (.int .u8 c)] 1) (rowF eU8 [c]) τ := by
  intro e j he hj
  obtain rfl : e = 0 := by omega
  obtain rfl : j = 0 := by omega
  rw [eU8_0]; exact (hτ _).symm
theorem apart_two {σ : Nat → Nat} {a b : Ent} (h : σ 1 ≠ σ 0) : apartE σ [(0, a), (1, b)] [(0, a), (1, b)] := by
  refine ⟨fun _ k' e' hk hne => ?_, fun _ k' e' hk hne => ?_, trivial⟩
  · simp only [List.mem_cons, List.not_mem_nil, or_false, Prod.mk.injEq] at hk
    rcases hk with ⟨rfl, _⟩ | ⟨rfl, _⟩
    · exact absurd rfl hne
    · exact h
  · simp only [List.mem_cons, List.not_mem_nil, or_false, Prod.mk.injEq] at hk
    rcases hk with ⟨rfl, _⟩ | ⟨rfl, _⟩
    · exact Ne.symm h
    · exact absurd rfl hne
theorem decL_one {α : Type} {E : Enc α} (x : α) : decL E 1 (rowF E [x]) = [x] := decL_rowF [x]
theorem isRow_one (x : Int) : isRow eU8 1 1 (rowF eU8 [x]) ↔ True := isRow_rowF (E := eU8) [x]
attribute [push_cast] decL_one isRow_one
end Go.Sx
set_option linter.unusedVariables false
namespace Go.Sx
open Go.RowKit
/-- How often a byte stands in a row, as the model's entry says it. -/
def cnt8 (L : List Int) (c : Int) : Int := (Lib.countByte (Lib.bytesOf L) c.toNat.toUInt8 : Nat)
/-- internal/bytealg.Count. -/
def cntCon : Con := fun args E _ => match args with
  | [.c (.n i), .c (.v (.int .u8 c))] => match rowOf E i with
    | some (n, s, f) => some (.q (isRow eU8 n s f) (.o (.c (.v (.int .i64 (cnt8 (decL eU8 n f) c))))))
    | none => none
  | _ => none
attribute [push_cast] cntCon
theorem cok_count {P : Program} {k : Nat} (h : ∀ (args : Array Value) (w : World), (callFunc k args).run P w = ((Extern.BytealgCount.count args).run P w).andThen fun v w' => .ok (.value v) w') : COk P k cntCon := by
  intro args E m hargs hE
  unfold cntCon
  split
  · rename_i i c
    split
    · rename_i n s f hrow
      refine ⟨fun _ _ _ => trivial, fun hr base M r w hh => .inr ⟨.int .i64 (cnt8 (decL eU8 n f) c), ?_, rfl, Below.refl _ _⟩⟩
      rw [h]
      show Result.andThen ((Extern.BytealgCount.count #[r i, .int .u8 c]).run P w) _ = _
      have hlen : (decL eU8 n f).length = n := decL_len n f
      have hcell : ∀ e, e < n → f e 0 = .v (.int .u8 ((decL eU8 n f).getD e 0)) := fun e he => by
        rw [hr.2 e 0 he (by decide)]; rfl
      have key : (Extern.BytealgCount.count #[r i, .int .u8 c]).run P w = .ok (.int .i64 (cnt8 (decL eU8 n f) c)) w := by
        unfold rowOf at hrow
        split at hrow
        · rename_i n' s' f' he
          cases hrow
          obtain ⟨a, cap, hV, _, _, hc⟩ := hh.ent i _ he
          rw [hV]
          rcases Nat.eq_zero_or_pos n with hz | hz
          · subst hz
            cases a with
            | none => exact Lib.run_countNil w 0 cap c
            | some a => exact Lib.run_countAt w a 0 cap (decL eU8 0 f) hlen (fun j hj => absurd hj (by omega)) c
          · obtain ⟨b, o, rfl, _, hx⟩ := hc hz
            have hs : s = 1 := by rcases hr.1 with q | q; omega; exact q
            subst hs
            exact Lib.run_countSlice w b o n cap (decL eU8 n f) hlen (fun j hj => by have := hx j 0 hj (by omega); rw [hcell j hj, Nat.mul_one, Nat.add_zero] at this; exact this) c
        · rename_i n' s' f' ty he
          cases hrow
          obtain ⟨_, hq⟩ := hh.ent i _ he
          rcases hq with ⟨b, o, cap, cur, hV, hb, _, _, _, hx⟩ | ⟨a, hV, hz⟩
          · rw [hV]
            rcases Nat.eq_zero_or_pos n with hz | hz
            · subst hz; exact Lib.run_countAt w _ 0 cap (decL eU8 0 f) hlen (fun j hj => absurd hj (by omega)) c
            · have hs : s = 1 := by rcases hr.1 with q | q; omega; exact q
              subst hs
              exact Lib.run_countSlice w b o n cap (decL eU8 n f) hlen (fun j hj => by
                have := hx j 0 hj (by omega)
                rw [hcell j hj, Nat.mul_one, Nat.add_zero] at this
                simp only [World.cell?, hb, this]; rfl) c
          · subst hz
            rw [hV]
            cases a with
            | none => exact Lib.run_countNil w 0 0 c
            | some a => exact Lib.run_countAt w a 0 0 (decL eU8 0 f) hlen (fun j hj => absurd hj (by omega)) c
        · rename_i he
          cases hrow
          obtain ⟨a, hV⟩ := hh.ent i _ he
          rw [hV]
          cases a with
          | none => exact Lib.run_countNil w 0 0 c
          | some a => exact Lib.run_countAt w a 0 0 (decL eU8 0 _) hlen (fun j hj => absurd hj (by omega)) c
        · cases hrow
      rw [key]
      rfl
    · trivial
  · trivial
end Go.Sx
set_option linter.unusedVariables false
namespace Go.Sx
open Go.RowKit
/-- Where a byte stands first in a string, or -1. -/
def idxS (s : ByteArray) (c : Int) : Int := Lib.indexByte s.data.toList c.toNat.toUInt8
/-- internal/bytealg.IndexByteString. -/
def idxCon : Con := fun args _ _ => match args with
  | [.c (.v (.string s)), .c (.v (.int .u8 c))] => some (.q True (.o (.c (.v (.int .i64 (idxS s c))))))
  | _ => none
attribute [push_cast] idxCon
theorem cok_index {P : Program} {k : Nat} (h : ∀ (s : ByteArray) (c : Int) (w : World), (callFunc k #[.string s, .int .u8 c]).run P w = .ok (.value (.int .i64 (idxS s c))) w) : COk P k idxCon := by
  intro args E m hargs hE
  unfold idxCon
  split
  · rename_i s c
    exact ⟨fun _ _ _ => trivial, fun _ base M r w hh => .inr ⟨_, h s c w, rfl, Below.refl _ _⟩⟩
  · trivial
/-- A string's bytes, as numbers. -/
def byI (s : ByteArray) : List Int := s.data.toList.map fun b => (b.toNat : Int)
end Go.Sx
set_option linter.unusedVariables false
set_option linter.unusedSimpArgs false
namespace Go.Sx
/-- A set of cells, as a map holds it. -/
def setM (K : List CC) : List (Int × Int × SC) := K.map (fun c => (c.X, c.Y, .v (.bool true)))
/-- The set with one more cell. -/
def insC (K : List CC) (x y : Int) : List CC := if (⟨x, y⟩ : CC) ∈ K then K else K ++ [⟨x, y⟩]
theorem setM_nil : setM [] = [] := rfl
theorem setM_nil' : ([] : List (Int × Int × SC)) = setM [] := rfl
theorem getM_set (K : List CC) (x y : Int) :
    getM (setM K) x y (.v (.bool false)) = .v (.bool (decide ((⟨x, y⟩ : CC) ∈ K))) := by
  induction K with
  | nil => simp [setM, getM]
  | cons c l ih =>
    obtain ⟨a, b⟩ := c
    simp only [setM, List.map_cons, getM] at ih ⊢
    by_cases h : a = x ∧ b = y
    · obtain ⟨rfl, rfl⟩ := h
      simp
    · rw [if_neg h]
      have hne : ¬ ((⟨x, y⟩ : CC) = ⟨a, b⟩) := by
        intro e
        injection e with e1 e2
        exact h ⟨e1.symm, e2.symm⟩
      rw [ih]
      simp only [List.mem_cons, hne, false_or]
theorem updM_set (K : List CC) (x y : Int) :
    updM (setM K) x y (.v (.bool true)) = setM (insC K x y) := by
  induction K with
  | nil => simp [setM, updM, insC]
  | cons c l ih =>
    obtain ⟨a, b⟩ := c
    by_cases h : a = x ∧ b = y
    · obtain ⟨rfl, rfl⟩ := h
      simp [setM, updM, insC]
    · have hne : ¬ ((⟨x, y⟩ : CC) = ⟨a, b⟩) := by
        intro e
        injection e with e1 e2
        exact h ⟨e1.symm, e2.symm⟩
      have h1 : insC (⟨a, b⟩ :: l) x y = ⟨a, b⟩ :: insC l x y := by
        unfold insC
        by_cases hm : (⟨x, y⟩ : CC) ∈ l
        · rw [if_pos hm, if_pos (List.mem_cons_of_mem _ hm)]
        · rw [if_neg hm, if_neg (by simp only [List.mem_cons, hne, hm, or_self, not_false_eq_true])]
          rfl
      rw [h1]
      simp only [setM, List.map_cons, updM] at ih ⊢
      rw [if_neg h, ih]
theorem setM_len (K : List CC) : (setM K).length = K.length := by simp [setM]
theorem scM_set (m : Nat → Prop) (K : List CC) : scM m (setM K) ↔ True := by
  refine iff_true_intro ?_
  induction K with
  | nil => exact trivial
  | cons c l ih => exact ⟨trivial, ih⟩
theorem renM_set (σ : Nat → Nat) (K : List CC) : renM σ (setM K) = setM K := by
  induction K with
  | nil => rfl
  | cons c l ih => exact congrArg (List.cons _) ih
theorem idsM_set (K : List CC) : idsM (setM K) = [] := by
  induction K with
  | nil => rfl
  | cons c l ih => exact ih
theorem leM_set (τ : SC → SC) (hτ : ∀ b, τ (.v (.bool b)) = .v (.bool b)) (K L : List CC) :
    leM τ (setM K) (setM L) ↔ K = L := by
  induction K generalizing L with
  | nil => cases L with
    | nil => exact ⟨fun _ => rfl, fun _ => trivial⟩
    | cons c l => exact ⟨fun h => h.elim, fun h => by cases h⟩
  | cons c l ih => cases L with
    | nil => exact ⟨fun h => h.elim, fun h => by cases h⟩
    | cons d k =>
      obtain ⟨a, b⟩ := c
      obtain ⟨a', b'⟩ := d
      constructor
      · rintro ⟨rfl, rfl, -, h⟩
        rw [(ih k).mp h]
      · intro h
        injection h with h1 h2
        injection h1 with h3 h4
        exact ⟨h3, h4, (hτ true).symm, (ih k).mpr h2⟩
theorem bindM_set (K : List CC) (l : List (Int × Int × SC)) : bindM (setM K) l = [] := by
  induction K generalizing l with
  | nil => rfl
  | cons c k ih =>
    cases l with
    | nil => rfl
    | cons e l =>
      obtain ⟨x, y, v⟩ := e
      simp only [setM, List.map_cons, bindM, bindC, List.nil_append] at ih ⊢
      exact ih l
attribute [push_cast] bindM_set getM_set updM_set setM_len scM_set renM_set idsM_set
end Go.Sx
