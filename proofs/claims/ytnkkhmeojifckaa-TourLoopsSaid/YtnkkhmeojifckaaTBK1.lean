/- A part of the proof of a statement about this seat: how a function is stepped through, and plain laws. No conditions. -/
import Derived.Test.YtnkkhmeojifckaaRows
import Derived.Test.YtnkkhmeojifckaaTBSz4
import Derived.Test.YtnkkhmeojifckaaTBQ2
import Derived.KernelRfl
set_option linter.unusedVariables false
set_option linter.unusedSimpArgs false
set_option maxRecDepth 20000
namespace Go.Proofs.Ytnkkhmeojifckaa
open Go.Sx
structure LN where
  Y : Int
  X0 : Int
  X1 : Int
def eLn : Enc LN where
  sz := 3
  ks := [.i .i64, .i .i64, .i .i64]
  wf := fun x => ((-9223372036854775808) ≤ x.Y ∧ x.Y ≤ 9223372036854775807) ∧ ((-9223372036854775808) ≤ x.X0 ∧ x.X0 ≤ 9223372036854775807) ∧ ((-9223372036854775808) ≤ x.X1 ∧ x.X1 ≤ 9223372036854775807)
  enc := fun x => [.v (.int .i64 x.Y), .v (.int .i64 x.X0), .v (.int .i64 x.X1)]
  dec := fun f => ⟨intC (f 0), intC (f 1), intC (f 2)⟩
  dflt := ⟨0, 0, 0⟩
  flat := by
    intro x c hc
    simp only [List.mem_cons, List.not_mem_nil, or_false] at hc
    rcases hc with rfl | rfl | rfl <;> exact ⟨_, rfl, rfl⟩
  len := fun x => rfl
  onto := by
    intro cs h
    obtain ⟨n0, cs0, rfl, a0, b0, h0⟩ := kind_i h
    obtain ⟨n1, cs1, rfl, a1, b1, h1⟩ := kind_i h0
    obtain ⟨n2, cs2, rfl, a2, b2, h2⟩ := kind_i h1
    obtain rfl := kind_n h2
    exact ⟨⟨n0, n1, n2⟩, rfl, ⟨a0, b0⟩, ⟨a1, b1⟩, ⟨a2, b2⟩⟩
  de := by
    intro x f h
    have h0 := h 0 (by decide)
    simp only [nth] at h0
    have h1 := h 1 (by decide)
    simp only [nth] at h1
    have h2 := h 2 (by decide)
    simp only [nth] at h2
    simp only [h0, h1, h2, intC, boolC]
theorem eLn_sz : eLn.sz = 3 := rfl
theorem eLn_0 (L : List LN) (e : Nat) : rowF eLn L e 0 = .v (.int .i64 (L.getD e eLn.dflt).Y) := rfl
theorem eLn_1 (L : List LN) (e : Nat) : rowF eLn L e 1 = .v (.int .i64 (L.getD e eLn.dflt).X0) := rfl
theorem eLn_2 (L : List LN) (e : Nat) : rowF eLn L e 2 = .v (.int .i64 (L.getD e eLn.dflt).X1) := rfl
theorem eLn_eta (x : LN) : LN.mk x.Y x.X0 x.X1 = x := rfl
theorem eLn_isRow (L : List LN) : isRow eLn L.length 3 (rowF eLn L) ↔ True := isRow_rowF L
attribute [push_cast] eLn_eta eLn_isRow eLn_sz eLn_0 eLn_1 eLn_2
def frB (W H : Int) (L : List Int) (x y : Int) : Bool := decide (atB W H L x y = 1)
theorem frB_in {W H : Int} {L : List Int} {x y : Int} (h : frB W H L x y = true) : (0 ≤ x ∧ x < W) ∧ 0 ≤ y ∧ y < H := by
  unfold frB atB at h
  rw [decide_eq_true_eq] at h
  split at h
  · cases h
  · split at h
    · cases h
    · rename_i g
      unfold insB at g
      rw [Bool.not_eq_false, decide_eq_true_eq] at g
      exact g
theorem frB_out {W H : Int} {L : List Int} {x y : Int} (h : ¬ ((0 ≤ x ∧ x < W) ∧ 0 ≤ y ∧ y < H)) : frB W H L x y = false := by
  rw [Bool.eq_false_iff]
  intro g
  exact h (frB_in g)
def lnLast (A : List LN) (x : Int) : List LN := A.set (A.length - 1) { A.getD (A.length - 1) eLn.dflt with X1 := x }
theorem lnLast_app (B : List LN) (l : LN) (x : Int) : lnLast (B ++ [l]) x = B ++ [{ l with X1 := x }] := by
  unfold lnLast
  have e : (B ++ [l]).length - 1 = B.length := by simp
  rw [e]
  have g : (B ++ [l]).getD B.length eLn.dflt = l := by simp [List.getD_eq_getElem?_getD]
  rw [g, List.set_append_right _ _ (Nat.le_refl _)]
  simp
def lnStep (W H : Int) (L : List Int) (y : Int) (A : List LN) (x : Int) : List LN :=
  if frB W H L x y = true then (if frB W H L (x - 1) y = true then lnLast A x else A ++ [⟨y, x, x⟩]) else A
def lnRow (W H : Int) (L : List Int) (y : Int) (A : List LN) : Nat → List LN
  | 0 => A
  | k + 1 => lnStep W H L y (lnRow W H L y A k) k
def lnAll (W H : Int) (L : List Int) : Nat → List LN
  | 0 => []
  | j + 1 => lnRow W H L j (lnAll W H L j) W.toNat
def lanE (W H : Int) (L : List Int) : Int := if planB W H L = true then 0 else 1
def lanL (W H : Int) (L : List Int) : List LN := if planB W H L = true then lnAll W H L H.toNat else []
def runG (W H : Int) (L : List Int) (y : Int) : Nat → Int → Int
  | 0, x => x
  | n + 1, x => if frB W H L (x + 1) y = true then runG W H L y n (x + 1) else x
def runE (W H : Int) (L : List Int) (y x : Int) : Int := runG W H L y (W - x).toNat x
theorem runE_step (W H : Int) (L : List Int) (y x : Int) : runE W H L y x = if frB W H L (x + 1) y = true then runE W H L y (x + 1) else x := by
  unfold runE
  rcases (by omega : x < W ∨ W ≤ x) with h | h
  · obtain ⟨n, hn⟩ : ∃ n, (W - x).toNat = n + 1 := ⟨(W - x).toNat - 1, by omega⟩
    have e : (W - (x + 1)).toNat = n := by omega
    rw [hn, e]; rfl
  · have e : (W - x).toNat = 0 := by omega
    have f : frB W H L (x + 1) y = false := frB_out (by omega)
    rw [e, f]; rfl
def rfRow (W H : Int) (L : List Int) (y : Int) (A : List LN) : Nat → List LN
  | 0 => A
  | k + 1 => if frB W H L k y = true ∧ frB W H L ((k : Int) - 1) y = false then rfRow W H L y A k ++ [⟨y, k, runE W H L y k⟩] else rfRow W H L y A k
theorem row_eq (W H : Int) (L : List Int) (y : Int) (A : List LN) : ∀ k : Nat,
    (frB W H L ((k : Int) - 1) y = false → lnRow W H L y A k = rfRow W H L y A k) ∧
    (frB W H L ((k : Int) - 1) y = true → ∃ B s, lnRow W H L y A k = B ++ [⟨y, s, (k : Int) - 1⟩] ∧ rfRow W H L y A k = B ++ [⟨y, s, runE W H L y ((k : Int) - 1)⟩])
  | 0 => ⟨fun _ => rfl, fun h => by rw [frB_out (by omega)] at h; cases h⟩
  | k + 1 => by
    obtain ⟨i1, i2⟩ := row_eq W H L y A k
    have e : ((k + 1 : Nat) : Int) - 1 = k := by omega
    rw [e]
    simp only [lnRow, rfRow, lnStep]
    have st := runE_step W H L y ((k : Int) - 1)
    have e1 : (k : Int) - 1 + 1 = k := by omega
    rw [e1] at st
    cases hk : frB W H L k y <;> cases hp : frB W H L ((k : Int) - 1) y
    · exact ⟨fun _ => by simpa using i1 hp, fun h => by cases h⟩
    · refine ⟨fun _ => ?_, fun h => by cases h⟩
      obtain ⟨B, s, g1, g2⟩ := i2 hp
      rw [hk] at st
      simp only [Bool.false_eq_true, if_false] at st
      simp only [Bool.false_eq_true, if_false, false_and]
      rw [g1, g2, st]
    · refine ⟨fun h => by simp at h, fun _ => ?_⟩
      simp only [Bool.false_eq_true, if_false, if_true, and_self]
      exact ⟨rfRow W H L y A k, k, by rw [i1 hp], rfl⟩
    · refine ⟨fun h => by simp at h, fun _ => ?_⟩
      obtain ⟨B, s, g1, g2⟩ := i2 hp
      rw [hk, if_pos rfl] at st
      simp only [if_true, Bool.true_eq_false, and_false, if_false]
      exact ⟨B, s, by rw [g1, lnLast_app], by rw [g2, st]⟩
theorem lnRow_len (W H : Int) (L : List Int) (y : Int) (A : List LN) : ∀ k, (lnRow W H L y A k).length ≤ A.length + k
  | 0 => Nat.le_refl _
  | k + 1 => by
    have := lnRow_len W H L y A k
    simp only [lnRow, lnStep]
    split
    · split
      · unfold lnLast; rw [List.length_set]; omega
      · rw [List.length_append]; simp only [List.length_singleton]; omega
    · omega
theorem lnAll_len {W H : Int} {L : List Int} (hW : 1 ≤ W ∧ W ≤ 64) : ∀ j, (lnAll W H L j).length ≤ 64 * j
  | 0 => Nat.le_refl _
  | j + 1 => by
    have := lnAll_len (H := H) (L := L) hW j
    have h2 := lnRow_len W H L j (lnAll W H L j) W.toNat
    simp only [lnAll]
    omega
def adjB (a b : CC) : Bool := decide (a.X = b.X ∧ (a.Y - b.Y = 1 ∨ a.Y - b.Y = -1) ∨ a.Y = b.Y ∧ (a.X - b.X = 1 ∨ a.X - b.X = -1))
def nbr (c : CC) : List CC := [⟨c.X + 1, c.Y⟩, ⟨c.X, c.Y + 1⟩, ⟨c.X - 1, c.Y⟩, ⟨c.X, c.Y - 1⟩]
theorem cc_ext {a b : CC} (h1 : a.X = b.X) (h2 : a.Y = b.Y) : a = b := by cases a; cases b; simp only at h1 h2; subst h1; subst h2; rfl
theorem nbr_adj {c d : CC} : d ∈ nbr c ↔ adjB c d = true := by
  unfold nbr adjB
  simp only [List.mem_cons, List.not_mem_nil, or_false, decide_eq_true_eq]
  constructor
  · rintro (h | h | h | h) <;> subst h <;> simp only
    · exact .inr ⟨trivial, .inr (by omega)⟩
    · exact .inl ⟨trivial, .inr (by omega)⟩
    · exact .inr ⟨trivial, .inl (by omega)⟩
    · exact .inl ⟨trivial, .inl (by omega)⟩
  · rintro (⟨h1, h2 | h2⟩ | ⟨h1, h2 | h2⟩)
    · exact .inr (.inr (.inr (cc_ext h1.symm (by simp only; omega))))
    · exact .inr (.inl (cc_ext h1.symm (by simp only; omega)))
    · exact .inr (.inr (.inl (cc_ext (by simp only; omega) h1.symm)))
    · exact .inl (cc_ext (by simp only; omega) h1.symm)
theorem adj_symm (a b : CC) : adjB a b = adjB b a := by
  unfold adjB
  rw [decide_eq_decide]
  omega
def stepB (l : List CC) : Bool := (List.range (l.length - 1)).all fun i => adjB (l.getD i eC.dflt) (l.getD (i + 1) eC.dflt)
theorem stepB_iff {l : List CC} : stepB l = true ↔ ∀ i, i + 1 < l.length → adjB (l.getD i eC.dflt) (l.getD (i + 1) eC.dflt) = true := by
  unfold stepB
  rw [List.all_eq_true]
  constructor
  · exact fun h i hi => h i (List.mem_range.2 (by omega))
  · exact fun h i hi => h i (by have := List.mem_range.1 hi; omega)
def allF (W H : Int) (L : List Int) (l : List CC) : Bool := l.all fun c => frB W H L c.X c.Y
theorem allF_iff {W H : Int} {L : List Int} {l : List CC} : allF W H L l = true ↔ ∀ i, i < l.length → frB W H L (l.getD i eC.dflt).X (l.getD i eC.dflt).Y = true := by
  unfold allF
  rw [List.all_eq_true]
  constructor
  · intro h i hi
    rw [List.getD_eq_getElem?_getD, List.getElem?_eq_getElem hi]
    exact h _ (List.getElem_mem hi)
  · intro h c hc
    obtain ⟨i, hi, rfl⟩ := List.getElem_of_mem hc
    have := h i hi
    rw [List.getD_eq_getElem?_getD, List.getElem?_eq_getElem hi] at this
    exact this
def chkE (W H : Int) (L : List Int) (l : List CC) : Int :=
  if planB W H L = false then 1 else if l.length = 0 then 7 else if allF W H L l = false then 7 else if stepB l = false then 9 else 0
theorem chk_bad {W H : Int} {L : List Int} {l : List CC} {k : Nat} (hp : planB W H L = true) (hk : k < l.length) (h : frB W H L (l.getD k eC.dflt).X (l.getD k eC.dflt).Y = false) : chkE W H L l = 7 := by
  unfold chkE
  rw [if_neg (by rw [hp]; simp), if_neg (by omega), if_pos]
  rw [Bool.eq_false_iff]
  intro g
  have := allF_iff.1 g k hk
  rw [h] at this; cases this
theorem chk_far {W H : Int} {L : List Int} {l : List CC} {k : Nat} (hp : planB W H L = true) (hk : k + 1 < l.length) (hf : ∀ i, i < l.length → frB W H L (l.getD i eC.dflt).X (l.getD i eC.dflt).Y = true) (h : adjB (l.getD k eC.dflt) (l.getD (k + 1) eC.dflt) = false) : chkE W H L l = 9 := by
  unfold chkE
  rw [if_neg (by rw [hp]; simp), if_neg (by omega), if_neg (by rw [allF_iff.2 hf]; simp), if_pos]
  rw [Bool.eq_false_iff]
  intro g
  have := stepB_iff.1 g k hk
  rw [h] at this; cases this
theorem chk_ok {W H : Int} {L : List Int} {l : List CC} (hp : planB W H L = true) (h0 : l.length ≠ 0) (hf : ∀ i, i < l.length → frB W H L (l.getD i eC.dflt).X (l.getD i eC.dflt).Y = true) (h : ∀ i, i + 1 < l.length → adjB (l.getD i eC.dflt) (l.getD (i + 1) eC.dflt) = true) : chkE W H L l = 0 := by
  unfold chkE
  rw [if_neg (by rw [hp]; simp), if_neg h0, if_neg (by rw [allF_iff.2 hf]; simp), if_neg (by rw [stepB_iff.2 h]; simp)]
theorem chk_inv {W H : Int} {L : List Int} {l : List CC} (h : chkE W H L l = 0) : planB W H L = true ∧ 0 < l.length ∧ (∀ i, i < l.length → frB W H L (l.getD i eC.dflt).X (l.getD i eC.dflt).Y = true) ∧ ∀ i, i + 1 < l.length → adjB (l.getD i eC.dflt) (l.getD (i + 1) eC.dflt) = true := by
  unfold chkE at h
  split at h
  · cases h
  · rename_i h1
    split at h
    · cases h
    · rename_i h2
      split at h
      · cases h
      · rename_i h3
        split at h
        · cases h
        · rename_i h4
          exact ⟨by simpa using h1, by omega, allF_iff.1 (by simpa using h3), stepB_iff.1 (by simpa using h4)⟩
def insK (l : List CC) : Nat → List CC
  | 0 => []
  | k + 1 => insC (insK l k) (l.getD k eC.dflt).X (l.getD k eC.dflt).Y
def covN (W H : Int) (L : List Int) (l : List CC) : Int := if chkE W H L l = 0 then ((insK l l.length).length : Int) else 0
def ixC (W : Int) (c : CC) : Nat := (c.Y * W + c.X).toNat
def celC (W : Int) (i : Nat) : CC := ⟨(i : Int) % W, (i : Int) / W⟩
def markL (W H : Int) (K : List CC) : List Bool := (List.range (W * H).toNat).map fun i => decide (celC W i ∈ K)
theorem markL_len (W H : Int) (K : List CC) : (markL W H K).length = (W * H).toNat := by simp [markL]
def cellIn (W H : Int) (c : CC) : Prop := (0 ≤ c.X ∧ c.X < W) ∧ 0 ≤ c.Y ∧ c.Y < H
theorem ix_bd {W H : Int} {c : CC} (h : cellIn W H c) : 0 ≤ c.Y * W + c.X ∧ c.Y * W + c.X < W * H := by
  obtain ⟨⟨h1, h2⟩, h3, h4⟩ := h
  have a := Int.mul_nonneg h3 (show 0 ≤ W by omega)
  have b : (c.Y + 1) * W ≤ H * W := Int.mul_le_mul_of_nonneg_right (by omega) (by omega)
  rw [Int.add_mul, Int.mul_comm H W] at b
  omega
theorem ix_cel {W H : Int} {c : CC} {i : Nat} (h : cellIn W H c) : celC W i = c ↔ i = ixC W c := by
  have b := ix_bd h
  obtain ⟨⟨h1, h2⟩, h3, h4⟩ := h
  have hW : 0 < W := by omega
  unfold ixC celC
  constructor
  · intro e
    have e1 : (i : Int) % W = c.X := by rw [← e]
    have e2 : (i : Int) / W = c.Y := by rw [← e]
    have := Int.emod_add_mul_ediv (i : Int) W
    rw [e1, e2, Int.mul_comm] at this
    omega
  · rintro rfl
    have e : (((c.Y * W + c.X).toNat : Nat) : Int) = c.X + c.Y * W := by omega
    rw [e]
    refine cc_ext ?_ ?_
    · simp only
      rw [Int.add_mul_emod_self_right, Int.emod_eq_of_lt h1 h2]
    · simp only
      rw [Int.add_mul_ediv_right _ _ (by omega), Int.ediv_eq_zero_of_lt h1 h2]
      omega
theorem mark_set {W H : Int} {K : List CC} {c : CC} (h : cellIn W H c) : (markL W H K).set (ixC W c) true = markL W H (insC K c.X c.Y) := by
  apply List.ext_getElem
  · simp [markL]
  · intro i h1 h2
    simp only [markL, List.getElem_set, List.getElem_map, List.getElem_range]
    have hi := ix_cel (i := i) h
    have hm : ∀ d : CC, d ∈ insC K c.X c.Y ↔ d ∈ K ∨ d = c := by
      intro d
      unfold insC
      have e : (⟨c.X, c.Y⟩ : CC) = c := rfl
      rw [e]
      split
      · rename_i g
        exact ⟨fun q => .inl q, fun q => q.elim id fun q => by rw [q]; exact g⟩
      · simp
    by_cases e : ixC W c = i
    · rw [if_pos e]
      symm
      rw [decide_eq_true_eq, hm]
      exact .inr (hi.2 e.symm)
    · rw [if_neg e, decide_eq_decide, hm]
      exact ⟨fun q => .inl q, fun q => q.elim id fun q => absurd (hi.1 q).symm e⟩
theorem mark_nil (W H : Int) : markL W H [] = List.replicate (W * H).toNat false := by
  apply List.ext_getElem
  · simp [markL]
  · intro i h1 h2
    simp [markL]
theorem cnt_one {n j : Nat} (h : j < n) : (List.range n).countP (fun i => decide (i = j)) = 1 := by
  induction n with
  | zero => omega
  | succ n ih =>
    rw [List.range_succ, List.countP_append, List.countP_singleton]
    by_cases e : j < n
    · rw [ih e, if_neg (by rw [decide_eq_true_eq]; omega)]
    · obtain rfl : j = n := by omega
      have : (List.range j).countP (fun i => decide (i = j)) = 0 := by
        rw [List.countP_eq_zero]
        intro i hi
        have := List.mem_range.1 hi
        rw [decide_eq_true_eq]; omega
      rw [this, if_pos (by simp)]
theorem cnt_or {n : Nat} (p q : Nat → Bool) (h : ∀ i, i < n → ¬ (p i = true ∧ q i = true)) : (List.range n).countP (fun i => p i || q i) = (List.range n).countP p + (List.range n).countP q := by
  induction n with
  | zero => rfl
  | succ n ih =>
    rw [List.range_succ, List.countP_append, List.countP_append, List.countP_append, ih (fun i hi => h i (by omega)), List.countP_singleton, List.countP_singleton, List.countP_singleton]
    have := h n (by omega)
    cases hp : p n <;> cases hq : q n
    · simp
    · simp; omega
    · simp; omega
    · exact absurd ⟨hp, hq⟩ this
theorem mark_cnt {W H : Int} : ∀ {K : List CC}, K.Nodup → (∀ c ∈ K, cellIn W H c) → (markL W H K).countP (fun b => b) = K.length
  | [], _, _ => by rw [mark_nil]; simp [List.countP_replicate]
  | c :: K, hn, hi => by
    have ih := mark_cnt (K := K) (List.nodup_cons.1 hn).2 fun d hd => hi d (List.mem_cons_of_mem _ hd)
    have hc := hi c List.mem_cons_self
    unfold markL at ih ⊢
    rw [List.countP_map] at ih ⊢
    have e : ((fun b => b) ∘ fun i => decide (celC W i ∈ c :: K)) = fun i => (fun i => decide (i = ixC W c)) i || (fun i => decide (celC W i ∈ K)) i := by
      funext i
      simp only [Function.comp, List.mem_cons, Bool.decide_or]
      congr 1
      rw [decide_eq_decide]
      exact ix_cel hc
    rw [e, cnt_or _ _ (fun i _ => ?_), cnt_one (by have := ix_bd hc; unfold ixC; omega), List.length_cons]
    · have ih2 : (List.range (W * H).toNat).countP (fun i => decide (celC W i ∈ K)) = K.length := ih
      rw [ih2]; omega
    · rintro ⟨g1, g2⟩
      rw [decide_eq_true_eq] at g1 g2
      rw [(ix_cel hc).2 g1] at g2
      exact (List.nodup_cons.1 hn).1 g2
theorem insC_mem {K : List CC} {x y : Int} {d : CC} : d ∈ insC K x y ↔ d ∈ K ∨ d = ⟨x, y⟩ := by
  unfold insC
  split
  · rename_i g
    exact ⟨fun q => .inl q, fun q => q.elim id fun q => by rw [q]; exact g⟩
  · simp
theorem insC_nd {K : List CC} {x y : Int} (h : K.Nodup) : (insC K x y).Nodup := by
  unfold insC
  split
  · exact h
  · rename_i g
    rw [List.nodup_append]
    exact ⟨h, by simp, by intro a ha b hb; simp at hb; subst hb; intro e; subst e; exact g ha⟩
theorem insK_nd (l : List CC) : ∀ k, (insK l k).Nodup
  | 0 => by simp [insK]
  | k + 1 => insC_nd (insK_nd l k)
theorem insK_mem {l : List CC} {d : CC} : ∀ {k}, k ≤ l.length → (d ∈ insK l k ↔ ∃ i, i < k ∧ d = l.getD i eC.dflt)
  | 0, _ => by simp [insK]
  | k + 1, hk => by
    simp only [insK]
    rw [insC_mem, insK_mem (by omega)]
    constructor
    · rintro (⟨i, hi, e⟩ | e)
      · exact ⟨i, by omega, e⟩
      · exact ⟨k, by omega, e⟩
    · rintro ⟨i, hi, e⟩
      by_cases g : i = k
      · subst g; exact .inr e
      · exact .inl ⟨i, by omega, e⟩
theorem nd_len {A B : List CC} (ha : A.Nodup) (hb : B.Nodup) (h : ∀ c, c ∈ A ↔ c ∈ B) : A.length = B.length :=
  ((List.perm_ext_iff_of_nodup ha hb).2 h).length_eq
theorem insK_inC {W H : Int} {L : List Int} {l : List CC} (hf : ∀ i, i < l.length → frB W H L (l.getD i eC.dflt).X (l.getD i eC.dflt).Y = true) {k : Nat} (hk : k ≤ l.length) : ∀ c ∈ insK l k, cellIn W H c := by
  intro c hc
  obtain ⟨i, hi, rfl⟩ := (insK_mem hk).1 hc
  exact frB_in (hf i (by omega))
structure TS where
  K : List CC
  T : List CC
  O : List CC
def pickN (W H : Int) (L : List Int) (K : List CC) (c : CC) : Option CC := (nbr c).find? fun d => frB W H L d.X d.Y && !decide (d ∈ K)
def lastC (l : List CC) : CC := l.getD (l.length - 1) eC.dflt
def tStep (W H : Int) (L : List Int) (s : TS) : TS :=
  match pickN W H L s.K (lastC s.T) with
  | some d => ⟨s.K ++ [d], s.T ++ [d], s.O ++ [d]⟩
  | none => ⟨s.K, s.T.dropLast, if s.T.length ≤ 1 then s.O else s.O ++ [s.T.getD (s.T.length - 2) eC.dflt]⟩
def tRun (W H : Int) (L : List Int) : Nat → TS → TS
  | 0, s => s
  | n + 1, s => if s.T.length = 0 then s else tRun W H L n (tStep W H L s)
def tMu (s : TS) : Nat := 2 * (4097 - s.K.length) + s.T.length
def tS0 (c : CC) : TS := ⟨[c], [c], [c]⟩
def tEnd (W H : Int) (L : List Int) (c : CC) : TS := tRun W H L 8200 (tS0 c)
theorem getD_l {l m : List CC} {i : Nat} (h : i < l.length) : (l ++ m).getD i eC.dflt = l.getD i eC.dflt := by
  rw [List.getD_eq_getElem?_getD, List.getD_eq_getElem?_getD, List.getElem?_append_left h]
theorem getD_r {l m : List CC} {i : Nat} (h : l.length ≤ i) : (l ++ m).getD i eC.dflt = m.getD (i - l.length) eC.dflt := by
  rw [List.getD_eq_getElem?_getD, List.getD_eq_getElem?_getD, List.getElem?_append_right h]
theorem gmemC {l : List CC} {i : Nat} (h : i < l.length) : l.getD i eC.dflt ∈ l := by
  rw [List.getD_eq_getElem?_getD, List.getElem?_eq_getElem h]
  exact List.getElem_mem h
theorem lastC_app (l : List CC) (d : CC) : lastC (l ++ [d]) = d := by
  unfold lastC
  have e : (l ++ [d]).length - 1 = l.length := by simp
  rw [e, getD_r (Nat.le_refl _), Nat.sub_self]; rfl
theorem last_split {l : List CC} (h : 0 < l.length) : l = l.dropLast ++ [lastC l] := by
  have hne : l ≠ [] := by intro e; rw [e] at h; simp at h
  have e := List.dropLast_concat_getLast hne
  have e2 : lastC l = l.getLast hne := by
    unfold lastC
    rw [List.getD_eq_getElem?_getD, List.getElem?_eq_getElem (by omega), List.getLast_eq_getElem]; rfl
  rw [e2, e]
def chain (l : List CC) : Prop := ∀ i, i + 1 < l.length → adjB (l.getD i eC.dflt) (l.getD (i + 1) eC.dflt) = true
theorem chain_app {l : List CC} {d : CC} (h : chain l) (hl : 0 < l.length → adjB (lastC l) d = true) : chain (l ++ [d]) := by
  intro i hi
  rw [List.length_append, List.length_singleton] at hi
  by_cases g : i + 1 < l.length
  · rw [getD_l (by omega), getD_l g]; exact h i g
  · have e : i + 1 = l.length := by omega
    rw [getD_l (by omega), getD_r (by omega), e, Nat.sub_self]
    have := hl (by omega)
    unfold lastC at this
    rw [show l.length - 1 = i by omega] at this
    exact this
theorem chain_drop {l : List CC} {d : CC} (h : chain (l ++ [d])) : chain l := by
  intro i hi
  have := h i (by rw [List.length_append, List.length_singleton]; omega)
  rwa [getD_l (by omega), getD_l hi] at this
theorem nd_le {W H : Int} {K : List CC} (hn : K.Nodup) (hi : ∀ c ∈ K, cellIn W H c) : K.length ≤ (W * H).toNat := by
  rw [← mark_cnt hn hi, ← markL_len W H K]
  exact List.countP_le_length
structure TInv (W H : Int) (L : List Int) (c0 : CC) (s : TS) : Prop where
  fr : ∀ c ∈ s.K, frB W H L c.X c.Y = true
  nd : s.K.Nodup
  st : c0 ∈ s.K
  tk : ∀ c ∈ s.T, c ∈ s.K
  ok : ∀ c ∈ s.O, c ∈ s.K
  ko : ∀ c ∈ s.K, c ∈ s.O
  tadj : chain s.T
  th : 0 < s.T.length → s.T.getD 0 eC.dflt = c0
  oadj : chain s.O
  o1 : 0 < s.O.length
  oh : s.O.getD 0 eC.dflt = c0
  ol : lastC s.O = if s.T.length = 0 then c0 else lastC s.T
  sum : s.O.length + s.T.length + (if s.T.length = 0 then 1 else 0) = 2 * s.K.length
  cl : ∀ c ∈ s.K, c ∉ s.T → ∀ d ∈ nbr c, frB W H L d.X d.Y = true → d ∈ s.K
  mn : ∀ S : CC → Prop, S c0 → (∀ c, S c → ∀ d ∈ nbr c, frB W H L d.X d.Y = true → S d) → ∀ c ∈ s.K, S c
theorem tInv0 {W H : Int} {L : List Int} {c : CC} (h : frB W H L c.X c.Y = true) : TInv W H L c (tS0 c) where
  fr := by intro d hd; simp [tS0] at hd; subst hd; exact h
  nd := by simp [tS0]
  st := by simp [tS0]
  tk := fun d hd => hd
  ok := fun d hd => hd
  ko := fun d hd => hd
  tadj := by intro i hi; simp [tS0] at hi
  th := fun _ => rfl
  oadj := by intro i hi; simp [tS0] at hi
  o1 := by simp [tS0]
  oh := rfl
  ol := rfl
  sum := rfl
  cl := fun d hd hn => absurd hd hn
  mn := by intro S h0 _ d hd; simp [tS0] at hd; subst hd; exact h0
theorem tInv_step {W H : Int} {L : List Int} {c0 : CC} {s : TS} (h : TInv W H L c0 s) (ht : 0 < s.T.length) : TInv W H L c0 (tStep W H L s) := by
  have hsp := last_split ht
  have hc : lastC s.T ∈ s.T := gmemC (by omega)
  unfold tStep
  cases hp : pickN W H L s.K (lastC s.T) with
  | some d =>
    unfold pickN at hp
    have h1 := List.mem_of_find?_eq_some hp
    have h2 := List.find?_some hp
    simp only [Bool.and_eq_true, Bool.not_eq_true', decide_eq_false_iff_not] at h2
    obtain ⟨h2, h3⟩ := h2
    have nt : ¬ s.T.length = 0 := by omega
    have nt2 : ¬ (s.T ++ [d]).length = 0 := by rw [List.length_append]; simp
    have hol := h.ol
    rw [if_neg nt] at hol
    exact {
      fr := fun c hc => by
        rcases List.mem_append.1 hc with g | g
        · exact h.fr c g
        · rw [List.mem_singleton] at g; subst g; exact h2
      nd := by
        rw [List.nodup_append]
        exact ⟨h.nd, by simp, fun a ha b hb => by rw [List.mem_singleton] at hb; subst hb; intro e; subst e; exact h3 ha⟩
      st := List.mem_append_left _ h.st
      tk := fun c hc => by
        rcases List.mem_append.1 hc with g | g
        · exact List.mem_append_left _ (h.tk c g)
        · exact List.mem_append_right _ g
      ok := fun c hc => by
        rcases List.mem_append.1 hc with g | g
        · exact List.mem_append_left _ (h.ok c g)
        · exact List.mem_append_right _ g
      ko := fun c hc => by
        rcases List.mem_append.1 hc with g | g
        · exact List.mem_append_left _ (h.ko c g)
        · exact List.mem_append_right _ g
      tadj := chain_app h.tadj fun _ => nbr_adj.1 h1
      th := fun _ => by simp only; rw [getD_l ht]; exact h.th ht
      oadj := chain_app h.oadj fun _ => by rw [hol]; exact nbr_adj.1 h1
      o1 := by simp only; rw [List.length_append]; simp
      oh := by simp only; rw [getD_l h.o1]; exact h.oh
      ol := by simp only; rw [lastC_app, if_neg nt2, lastC_app]
      sum := by
        have hs := h.sum
        rw [if_neg nt] at hs
        simp only
        rw [if_neg nt2]
        simp only [List.length_append, List.length_singleton]
        omega
      cl := fun c hc hn e he hf => by
        simp only at hc hn
        have hn1 : c ∉ s.T := fun g => hn (List.mem_append_left _ g)
        have hn2 : c ≠ d := fun g => hn (List.mem_append_right _ (by rw [g]; simp))
        rcases List.mem_append.1 hc with g | g
        · exact List.mem_append_left _ (h.cl c g hn1 e he hf)
        · rw [List.mem_singleton] at g; exact absurd g hn2
      mn := fun S h0 hS c hc => by
        rcases List.mem_append.1 hc with g | g
        · exact h.mn S h0 hS c g
        · rw [List.mem_singleton] at g; subst g
          exact hS _ (h.mn S h0 hS _ (h.tk _ (gmemC (by omega)))) _ h1 h2 }
  | none =>
    unfold pickN at hp
    rw [List.find?_eq_none] at hp
    have hcl : ∀ d ∈ nbr (lastC s.T), frB W H L d.X d.Y = true → d ∈ s.K := by
      intro d hd hf
      have := hp d hd
      rw [hf, Bool.true_and, Bool.not_eq_true', decide_eq_false_iff_not, Classical.not_not] at this
      exact this
    have hlen : s.T.dropLast.length = s.T.length - 1 := by simp
    have hta := h.tadj
    rw [hsp] at hta
    have nt : ¬ s.T.length = 0 := by omega
    have hol := h.ol
    rw [if_neg nt] at hol
    have hsum := h.sum
    rw [if_neg nt] at hsum
    have hcl2 : ∀ c ∈ s.K, c ∉ s.T.dropLast → ∀ d ∈ nbr c, frB W H L d.X d.Y = true → d ∈ s.K := by
      intro c hc hn d hd hf
      by_cases g : c ∈ s.T
      · rw [hsp] at g
        rcases List.mem_append.1 g with g | g
        · exact absurd g hn
        · rw [List.mem_singleton] at g; subst g; exact hcl d hd hf
      · exact h.cl c hc g d hd hf
    have hth : 0 < s.T.dropLast.length → s.T.dropLast.getD 0 eC.dflt = c0 := by
      intro g
      rw [← h.th ht]
      have e0 : s.T.getD 0 eC.dflt = (s.T.dropLast ++ [lastC s.T]).getD 0 eC.dflt := congrArg (fun l => l.getD 0 eC.dflt) hsp
      rw [e0, getD_l g]
    by_cases g1 : s.T.length ≤ 1
    · simp only [g1, if_true]
      have z : s.T.dropLast.length = 0 := by omega
      have e0 : lastC s.T = c0 := by
        have := h.th ht
        unfold lastC
        rw [show s.T.length - 1 = 0 by omega]; exact this
      exact {
        fr := h.fr, nd := h.nd, st := h.st
        tk := fun c hc => h.tk c (List.dropLast_subset _ hc)
        ok := h.ok, ko := h.ko
        tadj := chain_drop hta
        th := hth, oadj := h.oadj, o1 := h.o1, oh := h.oh
        ol := by simp only; rw [if_pos z, hol, e0]
        sum := by simp only; rw [if_pos z, z]; omega
        cl := hcl2, mn := h.mn }
    · simp only [g1, if_false]
      have z : ¬ s.T.dropLast.length = 0 := by omega
      have e1 : s.T.getD (s.T.length - 2) eC.dflt = lastC s.T.dropLast := by
        unfold lastC
        rw [hlen, show s.T.length - 1 - 1 = s.T.length - 2 by omega]
        have e0 : s.T.getD (s.T.length - 2) eC.dflt = (s.T.dropLast ++ [lastC s.T]).getD (s.T.length - 2) eC.dflt := congrArg (fun l => l.getD (s.T.length - 2) eC.dflt) hsp
        rw [e0, getD_l (by rw [hlen]; omega)]
      have ha : adjB (lastC s.T) (s.T.getD (s.T.length - 2) eC.dflt) = true := by
        have := h.tadj (s.T.length - 2) (by omega)
        rw [show s.T.length - 2 + 1 = s.T.length - 1 by omega, adj_symm] at this
        exact this
      have hm : s.T.getD (s.T.length - 2) eC.dflt ∈ s.T := gmemC (by omega)
      exact {
        fr := h.fr, nd := h.nd, st := h.st
        tk := fun c hc => h.tk c (List.dropLast_subset _ hc)
        ok := fun c hc => by
          rcases List.mem_append.1 hc with g | g
          · exact h.ok c g
          · rw [List.mem_singleton] at g; subst g; exact h.tk _ hm
        ko := fun c hc => List.mem_append_left _ (h.ko c hc)
        tadj := chain_drop hta
        th := hth
        oadj := chain_app h.oadj fun _ => by rw [hol]; exact ha
        o1 := by simp only; rw [List.length_append]; simp
        oh := by simp only; rw [getD_l h.o1]; exact h.oh
        ol := by simp only; rw [lastC_app, if_neg z, e1]
        sum := by simp only; rw [if_neg z]; simp only [List.length_append, List.length_singleton]; omega
        cl := hcl2, mn := h.mn }
theorem tInv_len {W H : Int} {L : List Int} {c0 : CC} {s : TS} (hp : planB W H L = true) (h : TInv W H L c0 s) : s.K.length ≤ 4096 := by
  have pp := planB_at hp
  have := nd_le (W := W) (H := H) h.nd fun c hc => frB_in (h.fr c hc)
  omega
theorem tMu_step {W H : Int} {L : List Int} {c0 : CC} {s : TS} (hp : planB W H L = true) (h : TInv W H L c0 s) (ht : 0 < s.T.length) : tMu (tStep W H L s) < tMu s := by
  have h2 := tInv_len hp (tInv_step h ht)
  have h1 := tInv_len hp h
  unfold tMu
  unfold tStep at h2 ⊢
  split
  · rename_i d hd
    rw [hd] at h2
    simp only [List.length_append, List.length_singleton] at h2 ⊢
    omega
  · simp only [List.length_dropLast]
    omega
theorem tRun_end {W H : Int} {L : List Int} {c0 : CC} (hp : planB W H L = true) : ∀ (n : Nat) (s : TS), TInv W H L c0 s → tMu s ≤ n → TInv W H L c0 (tRun W H L n s) ∧ (tRun W H L n s).T.length = 0
  | 0, s, h, hm => by
    have := tInv_len hp h
    unfold tMu at hm
    omega
  | n + 1, s, h, hm => by
    unfold tRun
    split
    · rename_i g; exact ⟨h, g⟩
    · rename_i g
      have := tMu_step hp h (by omega)
      exact tRun_end hp n _ (tInv_step h (by omega)) (by omega)
theorem tEnd_inv {W H : Int} {L : List Int} {c : CC} (hp : planB W H L = true) (hf : frB W H L c.X c.Y = true) : TInv W H L c (tEnd W H L c) ∧ (tEnd W H L c).T.length = 0 :=
  tRun_end hp 8200 _ (tInv0 hf) (by simp [tMu, tS0])
def tWay (W H : Int) (L : List Int) (c : CC) (s : TS) : Prop := TInv W H L c s ∧ ∃ n, tMu s ≤ n ∧ tRun W H L n s = tEnd W H L c
theorem tWay0 {W H : Int} {L : List Int} {c : CC} (hf : frB W H L c.X c.Y = true) : tWay W H L c (tS0 c) := ⟨tInv0 hf, 8200, by simp [tMu, tS0], rfl⟩
theorem tWay_step {W H : Int} {L : List Int} {c : CC} {s : TS} (hp : planB W H L = true) (h : tWay W H L c s) (ht : 0 < s.T.length) : tWay W H L c (tStep W H L s) := by
  obtain ⟨hi, n, hn, he⟩ := h
  have := tMu_step hp hi ht
  cases n with
  | zero => omega
  | succ n =>
    refine ⟨tInv_step hi ht, n, by omega, ?_⟩
    rw [← he]
    conv => rhs; unfold tRun
    rw [if_neg (by omega)]
theorem tWay_end {W H : Int} {L : List Int} {c : CC} {s : TS} (h : tWay W H L c s) (ht : s.T.length = 0) : s = tEnd W H L c := by
  obtain ⟨_, n, _, he⟩ := h
  rw [← he]
  cases n with
  | zero => rfl
  | succ n => unfold tRun; rw [if_pos ht]
def touE (W H : Int) (L : List Int) (x y : Int) : Int := if planB W H L = false then 1 else if frB W H L x y = false then 7 else 0
def touL (W H : Int) (L : List Int) (x y : Int) : List CC := if touE W H L x y = 0 then (tEnd W H L ⟨x, y⟩).O else []
theorem touE0 {W H : Int} {L : List Int} {x y : Int} (h1 : planB W H L = true) (h2 : frB W H L x y = true) : touE W H L x y = 0 := by unfold touE; rw [h1, h2]; rfl
theorem touL0 {W H : Int} {L : List Int} {x y : Int} (h1 : planB W H L = true) (h2 : frB W H L x y = true) : touL W H L x y = (tEnd W H L ⟨x, y⟩).O := by unfold touL; rw [if_pos (touE0 h1 h2)]
def regL (W H : Int) (L : List Int) (x y : Int) : List CC := (tEnd W H L ⟨x, y⟩).K
theorem mark_ext {W H : Int} {K K' : List CC} (h : ∀ c, c ∈ K ↔ c ∈ K') : markL W H K = markL W H K' := by
  unfold markL
  congr 1
  funext i
  rw [decide_eq_decide]
  exact h _
theorem cov_size {W H : Int} {L : List Int} {l : List CC} (h : chkE W H L l = 0) : ((markL W H (insK l l.length)).countP (fun b => b) : Int) = covN W H L l := by
  obtain ⟨_, _, hf, _⟩ := chk_inv h
  unfold covN
  rw [if_pos h, mark_cnt (insK_nd _ _) (insK_inC hf (Nat.le_refl _))]
theorem reg_size {W H : Int} {L : List Int} {x y : Int} (h1 : planB W H L = true) (h2 : frB W H L x y = true) : (markL W H (regL W H L x y)).countP (fun b => b) = (regL W H L x y).length := by
  obtain ⟨h, _⟩ := tEnd_inv (c := ⟨x, y⟩) h1 h2
  exact mark_cnt h.nd fun c hc => frB_in (h.fr c hc)
structure RInv (W H : Int) (L : List Int) (c0 : CC) (K Q : List CC) : Prop where
  nd : K.Nodup
  st : c0 ∈ K
  sub : ∀ c ∈ K, c ∈ (tEnd W H L c0).K
  qk : ∀ c ∈ Q, c ∈ K
def rMid (W H : Int) (L : List Int) (K Q : List CC) (c : CC) (k : Nat) : Prop :=
  c ∈ K ∧ (∀ x ∈ K, x ∉ Q → x = c ∨ ∀ d ∈ nbr x, frB W H L d.X d.Y = true → d ∈ K) ∧ ∀ j, j < k → frB W H L ((nbr c).getD j eC.dflt).X ((nbr c).getD j eC.dflt).Y = true → (nbr c).getD j eC.dflt ∈ K
def rCl (W H : Int) (L : List Int) (K Q : List CC) : Prop := ∀ x ∈ K, x ∉ Q → ∀ d ∈ nbr x, frB W H L d.X d.Y = true → d ∈ K
theorem rInv0 {W H : Int} {L : List Int} {c : CC} (hp : planB W H L = true) (hf : frB W H L c.X c.Y = true) : RInv W H L c [c] [c] ∧ rCl W H L [c] [c] :=
  ⟨⟨by simp, by simp, fun d hd => by rw [List.mem_singleton] at hd; subst hd; exact (tEnd_inv hp hf).1.st, fun d hd => hd⟩, fun x hx hn => absurd hx hn⟩
theorem rMid0 {W H : Int} {L : List Int} {c0 c : CC} {K Q : List CC} (h : RInv W H L c0 K (c :: Q)) (hc : rCl W H L K (c :: Q)) : RInv W H L c0 K Q ∧ rMid W H L K Q c 0 := by
  refine ⟨⟨h.nd, h.st, h.sub, fun d hd => h.qk d (List.mem_cons_of_mem _ hd)⟩, h.qk c List.mem_cons_self, fun x hx hn => ?_, fun j hj => by omega⟩
  by_cases e : x = c
  · exact .inl e
  · exact .inr (hc x hx fun g => by rcases List.mem_cons.1 g with g | g; exact e g; exact hn g)
theorem rMid_skip {W H : Int} {L : List Int} {K Q : List CC} {c : CC} {k : Nat} (h : rMid W H L K Q c k) (hs : frB W H L ((nbr c).getD k eC.dflt).X ((nbr c).getD k eC.dflt).Y = true → (nbr c).getD k eC.dflt ∈ K) : rMid W H L K Q c (k + 1) :=
  ⟨h.1, h.2.1, fun j hj hf => by
    by_cases e : j = k
    · subst e; exact hs hf
    · exact h.2.2 j (by omega) hf⟩
theorem rMid_add {W H : Int} {L : List Int} {c0 : CC} {K Q : List CC} {c : CC} {k : Nat} (hp : planB W H L = true) (hf0 : frB W H L c0.X c0.Y = true) (hi : RInv W H L c0 K Q) (h : rMid W H L K Q c k) (hk : k < 4)
    (hf : frB W H L ((nbr c).getD k eC.dflt).X ((nbr c).getD k eC.dflt).Y = true) (hn : (nbr c).getD k eC.dflt ∉ K) :
    RInv W H L c0 (K ++ [(nbr c).getD k eC.dflt]) (Q ++ [(nbr c).getD k eC.dflt]) ∧ rMid W H L (K ++ [(nbr c).getD k eC.dflt]) (Q ++ [(nbr c).getD k eC.dflt]) c (k + 1) := by
  obtain ⟨he, ht⟩ := tEnd_inv hp hf0
  have hd : (nbr c).getD k eC.dflt ∈ nbr c := gmemC (by simp [nbr]; omega)
  have hT : ∀ x, x ∉ (tEnd W H L c0).T := fun x hx => by
    have := List.length_pos_of_mem hx
    omega
  have hs : (nbr c).getD k eC.dflt ∈ (tEnd W H L c0).K := he.cl c (hi.sub c h.1) (hT c) _ hd hf
  obtain ⟨d, hdd⟩ : ∃ d, (nbr c).getD k eC.dflt = d := ⟨_, rfl⟩
  rw [hdd] at hd hs hf hn ⊢
  refine ⟨⟨?_, List.mem_append_left _ hi.st, fun x hx => ?_, fun x hx => ?_⟩, List.mem_append_left _ h.1, fun x hx hq => ?_, fun j hj hf2 => ?_⟩
  · rw [List.nodup_append]
    exact ⟨hi.nd, by simp, fun a ha b hb => by rw [List.mem_singleton] at hb; subst hb; intro e; subst e; exact hn ha⟩
  · rcases List.mem_append.1 hx with g | g
    · exact hi.sub x g
    · rw [List.mem_singleton] at g; subst g; exact hs
  · rcases List.mem_append.1 hx with g | g
    · exact List.mem_append_left _ (hi.qk x g)
    · exact List.mem_append_right _ g
  · rcases List.mem_append.1 hx with g | g
    · rcases h.2.1 x g (fun q => hq (List.mem_append_left _ q)) with e | e
      · exact .inl e
      · exact .inr fun y hy hfy => List.mem_append_left _ (e y hy hfy)
    · exact absurd (List.mem_append_right _ g) hq
  · by_cases e : j = k
    · subst e; rw [hdd]; exact List.mem_append_right _ (by simp)
    · exact List.mem_append_left _ (h.2.2 j (by omega) hf2)
theorem rMid_end {W H : Int} {L : List Int} {K Q : List CC} {c : CC} (h : rMid W H L K Q c 4) : rCl W H L K Q := by
  intro x hx hn
  rcases h.2.1 x hx hn with e | e
  · subst e
    intro d hd hf
    obtain ⟨j, hj, rfl⟩ := List.getElem_of_mem hd
    have e2 : (nbr x).getD j eC.dflt = (nbr x)[j] := by rw [List.getD_eq_getElem?_getD, List.getElem?_eq_getElem hj]; rfl
    have := h.2.2 j (by simpa [nbr] using hj)
    rw [e2] at this
    exact this hf
  · exact e
theorem r_end {W H : Int} {L : List Int} {c0 : CC} {K : List CC} (hp : planB W H L = true) (hf : frB W H L c0.X c0.Y = true) (hi : RInv W H L c0 K []) (hc : rCl W H L K []) : markL W H K = markL W H (tEnd W H L c0).K :=
  mark_ext fun c => ⟨hi.sub c, fun h => (tEnd_inv hp hf).1.mn (fun c => c ∈ K) hi.st (fun c hc2 d hd hf2 => hc c hc2 (by simp) d hd hf2) c h⟩
theorem rInv_len {W H : Int} {L : List Int} {c0 : CC} {K Q : List CC} (hp : planB W H L = true) (hf : frB W H L c0.X c0.Y = true) (hi : RInv W H L c0 K Q) : K.length ≤ 4096 := by
  have pp := planB_at hp
  have := nd_le (W := W) (H := H) hi.nd fun c hc => frB_in ((tEnd_inv hp hf).1.fr c (hi.sub c hc))
  omega
theorem fr_at {W H : Int} {L : List Int} {x y : Int} (hp : planB W H L = true) (h : (0 ≤ x ∧ x < W) ∧ 0 ≤ y ∧ y < H) : frB W H L x y = decide (L.getD (y * W + x).toNat eU8.dflt = 1) := by
  have e : insB W H x y = true := decide_eq_true h
  unfold frB atB
  rw [hp, e]; rfl
theorem fr_iff {W H : Int} {L : List Int} {x y : Int} : frB W H L x y = true ↔ atB W H L x y = 1 := decide_eq_true_iff
theorem fr_not {W H : Int} {L : List Int} {x y : Int} : frB W H L x y = false ↔ ¬ atB W H L x y = 1 := decide_eq_false_iff_not
theorem up_x1 {A : List LN} {k : Nat} (v : Int) (h : k < A.length) : updF (rowF eLn A) k 2 [SC.v (.int .i64 v)] = rowF eLn (A.set k { A.getD k eLn.dflt with X1 := v }) :=
  updF_row (E := eLn) (L := A) (e0 := k) (j0 := 2) (x := { A.getD k eLn.dflt with X1 := v }) (cs := [SC.v (.int .i64 v)]) h rfl (by simp [eLn])
def x34 : XFn := ⟨42, (.seq (.reg false [O1 2 (.box 24) 0, O1 3 (.box 26) 1, K1 4 .mv (.bool false)]) (.seq (.reg false [O1 5 (.fld 0) 3, O1 6 .load1 5, K2 7 (.bin .geq) 6 (iV 0), O1 8 .mv 7, G1 9 (.fld 1) 3 8 true, G1 10 .load1 9 8 true, GK 11 (.bin .geq) 10 (iV 0) 8 true, ⟨(some 12), .pick, [(.t 8), (.t 11), (.k (.bool false))], none⟩, O1 13 .mv 12, G1 14 (.fld 0) 3 13 true, G1 15 .load1 14 13 true, G1 16 (.fld 0) 2 13 true, G1 17 .load1 16 13 true, G2 18 (.bin .lss) 15 17 13 true, ⟨(some 19), .pick, [(.t 13), (.t 18), (.k (.bool false))], none⟩, O1 20 .mv 19, G1 21 (.fld 1) 3 20 true, G1 22 .load1 21 20 true, G1 23 (.fld 1) 2 20 true, G1 24 .load1 23 20 true, G2 25 (.bin .lss) 22 24 20 true, ⟨(some 26), .pick, [(.t 20), (.t 25), (.k (.bool false))], none⟩, O1 27 .mv 26, G1 28 (.fld 2) 2 27 true, G1 29 .load1 28 27 true, G1 30 (.fld 1) 3 27 true, G1 31 .load1 30 27 true, G1 32 (.fld 0) 2 27 true, G1 33 .load1 32 27 true, G2 34 (.bin .mul) 31 33 27 true, G1 35 (.fld 0) 3 27 true, G1 36 .load1 35 27 true, G2 37 (.bin .add) 34 36 27 true, G2 38 (.ixS 1) 29 37 27 true, G1 39 .load1 38 27 true, GK 40 (.bin .eql) 39 (.int .u8 1) 27 true, ⟨(some 41), .pick, [(.t 27), (.t 40), (.k (.bool false))], none⟩, O1 4 .mv 41]) .ret)), [(.s 4)]⟩
theorem x34_ok : xfn Try.prog Try.f34 = some x34.er := by kernel_rfl
def x35 : XFn := ⟨28, (.seq (.reg false [O1 1 (.box 26) 0, ⟨(some 2), (.alloc 57 [(iV 0), (iV 0), (iV 0), (iV 0), (iV 0), (iV 0), (iV 0), (iV 0)]), [], none⟩]) (.seq (.reg false [O1 3 (.fld 0) 1, O1 4 .load1 3, K2 5 (.bin .add) 4 (iV 1), O1 6 (.fld 1) 1, O1 7 .load1 6, ⟨(some 8), (.build [(iV 0), (iV 0)] [(0, 1), (1, 1)]), [(.t 5), (.t 7)], none⟩, O1 9 (.fld 0) 1, O1 10 .load1 9, O1 11 (.fld 1) 1, O1 12 .load1 11, K2 13 (.bin .add) 12 (iV 1), ⟨(some 14), (.build [(iV 0), (iV 0)] [(0, 1), (1, 1)]), [(.t 10), (.t 13)], none⟩, O1 15 (.fld 0) 1, O1 16 .load1 15, K2 17 (.bin .sub) 16 (iV 1), O1 18 (.fld 1) 1, O1 19 .load1 18, ⟨(some 20), (.build [(iV 0), (iV 0)] [(0, 1), (1, 1)]), [(.t 17), (.t 19)], none⟩, O1 21 (.fld 0) 1, O1 22 .load1 21, O1 23 (.fld 1) 1, O1 24 .load1 23, K2 25 (.bin .sub) 24 (iV 1), ⟨(some 26), (.build [(iV 0), (iV 0)] [(0, 1), (1, 1)]), [(.t 22), (.t 25)], none⟩, ⟨(some 27), (.build [(iV 0), (iV 0), (iV 0), (iV 0), (iV 0), (iV 0), (iV 0), (iV 0)] [(0, 2), (2, 2), (4, 2), (6, 2)]), [(.t 8), (.t 14), (.t 20), (.t 26)], none⟩, ⟨none, (.store 8), [(.t 2), (.t 27)], none⟩]) .ret)), [(.bn 2 8)]⟩
theorem x35_ok : xfn Try.prog Try.f35 = some x35.er := by kernel_rfl
def x29L0 : XC := (.seq (.reg false [O2 18 (.bin .lss) 17 16]) (.seq (.cond (.t 18) .skip (.exit 2)) (.seq (.block 3 (.seq (.reg false [O1 19 .mv 17, O1 6 .mv 19]) (.seq (.seq (.reg false [O1 20 (.loadN 3) 1, O1 21 .mv 6, O1 22 .mv 5, ⟨(some 23), (.build [(iV 0), (iV 0)] [(0, 1), (1, 1)]), [(.t 21), (.t 22)], none⟩, O2 24 (.call 34) 20 23, O1 25 (.un .not) 24]) (.cond (.t 25) (.exit 3) .skip)) (.seq (.seq (.reg false [O1 26 (.loadN 3) 1, O1 27 .mv 6, K2 28 (.bin .sub) 27 (iV 1), O1 29 .mv 5, ⟨(some 30), (.build [(iV 0), (iV 0)] [(0, 1), (1, 1)]), [(.t 28), (.t 29)], none⟩, O2 31 (.call 34) 26 30]) (.cond (.t 31) (.seq (.reg false [O1 32 .mv 4, O1 33 .mv 4, O1 34 .lenS 33, K2 35 (.bin .sub) 34 (iV 1), O1 36 .mv 6, O2 37 (.ixS 3) 32 35, O1 38 (.fld 2) 37, ⟨none, (.store 1), [(.t 38), (.t 36)], none⟩]) (.exit 3)) .skip)) (.reg false [O1 39 .mv 4, O1 40 .mv 5, O1 41 .mv 6, O1 42 .mv 6, ⟨(some 43), (.build [(iV 0), (iV 0), (iV 0)] [(0, 1), (1, 1), (2, 1)]), [(.t 40), (.t 41), (.t 42)], none⟩, ⟨(some 44), (.slit 53 1 3 [(iV 0), (iV 0), (iV 0)] [(0, 3)]), [(.t 43)], none⟩, O2 45 (.app 53 3 24) 39 44, O1 4 .mv 45]))))) (.reg false [K2 46 (.bin .add) 17 (iV 1), O1 17 .mv 46]))))
def x29L1 : XC := (.seq (.reg false [O2 13 (.bin .lss) 12 11]) (.seq (.cond (.t 13) .skip (.exit 0)) (.seq (.block 1 (.seq (.reg false [O1 14 .mv 12, O1 5 .mv 14]) (.seq (.reg false [O1 15 (.fld 0) 1, O1 16 .load1 15, K1 17 .mv (iV 0)]) (.block 2 (.loop x29L0))))) (.reg false [K2 47 (.bin .add) 12 (iV 1), O1 12 .mv 47]))))
def x29 : XFn := ⟨49, (.seq (.reg false [O1 1 (.box 24) 0, K1 2 .mv (.slice none 0 0), K1 3 .mv (iV 0)]) (.seq (.seq (.reg false [O1 7 (.loadN 3) 1, O1 8 (.call 33) 7, O1 9 (.un .not) 8]) (.cond (.t 9) (.seq (.reg false [K1 2 .mv (.slice none 0 0), K1 3 .mv (iV 1)]) .ret) .skip)) (.seq (.reg false [K1 4 .mv (.slice none 0 0)]) (.seq (.seq (.reg false [O1 10 (.fld 1) 1, O1 11 .load1 10, K1 12 .mv (iV 0)]) (.block 0 (.loop x29L1))) (.seq (.reg false [O1 48 .mv 4, O1 2 .mv 48, K1 3 .mv (iV 0)]) .ret))))), [(.s 2), (.s 3)]⟩
theorem x29_ok : xfn Try.prog Try.f29 = some x29.er := by kernel_rfl
def g34 : Con := fun args_ E_ nn_ => match args_ with
  | [.a [.v (.int .i64 p_W), .v (.int .i64 p_H), .n p_Cells], .a [.v (.int .i64 c_X), .v (.int .i64 c_Y)]] => (match rowOf E_ p_Cells with
    | some (p_Cells_n, p_Cells_s, p_Cells_f) => some (.q (isRow eU8 p_Cells_n p_Cells_s p_Cells_f ∧ planB p_W p_H (decL eU8 p_Cells_n p_Cells_f) = true) (.o (.c (.v (.bool (frB p_W p_H (decL eU8 p_Cells_n p_Cells_f) c_X c_Y))))))
    | none => none)
  | _ => none
theorem c34 : COk Try.prog 34 g34 := by
  refine cok_q Try.func34 x34_ok (by kernel_rfl) (cok_tab cok_nil) ?_
  intro args_ E_ nn_ cr_ hg_
  unfold g34 at hg_
  split at hg_
  · rename_i p_W p_H p_Cells c_X c_Y
    split at hg_
    · rename_i p_Cells_n p_Cells_s p_Cells_f h_p_Cells
      cases hg_
      refine ⟨_, _, rfl, 1, [p_Cells], [.a [.v (.int .i64 p_W), .v (.int .i64 p_H), .n 0], .a [.v (.int .i64 c_X), .v (.int .i64 c_Y)]], [(0, .ro (decL eU8 p_Cells_n p_Cells_f).length eU8.sz (rowF eU8 (decL eU8 p_Cells_n p_Cells_f)))], .o (.c (.v (.bool (frB p_W p_H (decL eU8 p_Cells_n p_Cells_f) c_X c_Y)))), rfl, rfl, by simp only [push_cast, Nat.reduceLT, Nat.reduceAdd], by simp only [push_cast, Nat.reduceLT, Nat.reduceAdd], by simp only [push_cast, Nat.reduceLT, Nat.reduceAdd], rfl, ⟨inE0_row h_p_Cells, trivial⟩, rfl, ?_⟩
      intro hpre hlen
      obtain ⟨i_p_Cells, hpre⟩ := hpre
      refine ⟨⟨inE_row h_p_Cells i_p_Cells, trivial⟩, ?_⟩
      have z_p_Cells := lens_row (E := eU8) hlen h_p_Cells
      clear i_p_Cells
      generalize decL eU8 p_Cells_n p_Cells_f = p_CellsL at *
      clear h_p_Cells
      simp (config := {maxSteps := 10000000}) only [x34, push_cast, Nat.reduceAdd, Nat.reduceSub, Nat.reduceLeDiff, Nat.reduceEqDiff, Nat.reduceBEq, Nat.reduceMul, Nat.reduceLT, ↓reduceIte, reduceCtorEq, Int.reduceLE, Int.reduceLT, Int.reduceEq, Int.reduceMul, Int.reduceAdd, Int.reduceSub, Int.reduceNeg, Int.reduceToNat, Int.reduceNe]
      by_cases hi : (0 ≤ c_X ∧ c_X < p_W) ∧ 0 ≤ c_Y ∧ c_Y < p_H
      · have k := idx_bd hpre (decide_eq_true hi : insB p_W p_H c_X c_Y = true)
        rw [wrapI (n := c_Y * p_W) (by omega) (by omega), wrapI (n := c_Y * p_W + c_X) (by omega) (by omega)]
        refine ⟨fun a b c d => ⟨⟨⟨⟨a, b⟩, c⟩, d⟩, by omega, by omega⟩, fun a b c d => ⟨⟨⟨⟨a, b⟩, c⟩, d⟩, by omega⟩, ?_⟩
        rw [fr_at hpre hi, decide_eq_true hi.1.1, decide_eq_true hi.2.1, decide_eq_true hi.1.2, decide_eq_true hi.2.2]
        rfl
      · rw [frB_out hi]
        refine ⟨fun a b c d => absurd ⟨⟨a, c⟩, b, d⟩ hi, fun a b c d => absurd ⟨⟨a, c⟩, b, d⟩ hi, ?_⟩
        rw [Bool.eq_false_iff]
        intro h
        simp only [Bool.and_eq_true, decide_eq_true_eq] at h
        exact hi ⟨⟨h.1.1.1.1, h.1.1.2⟩, h.1.1.1.2, h.1.2⟩
    · cases hg_
  · cases hg_
def g35 : Con := fun args_ E_ nn_ => match args_ with
  | [.a [.v (.int .i64 c_X), .v (.int .i64 c_Y)]] => some (.q ((-1099511627776 ≤ c_X ∧ c_X ≤ 1099511627776) ∧ -1099511627776 ≤ c_Y ∧ c_Y ≤ 1099511627776) (.o (.a [.v (.int .i64 (c_X + 1)), .v (.int .i64 (c_Y)), .v (.int .i64 (c_X)), .v (.int .i64 (c_Y + 1)), .v (.int .i64 (c_X - 1)), .v (.int .i64 (c_Y)), .v (.int .i64 (c_X)), .v (.int .i64 (c_Y - 1))])))
  | _ => none
theorem c35 : COk Try.prog 35 g35 := by
  refine cok_q Try.func35 x35_ok (by kernel_rfl) (cok_tab cok_nil) ?_
  intro args_ E_ nn_ cr_ hg_
  unfold g35 at hg_
  split at hg_
  · rename_i c_X c_Y
    cases hg_
    refine ⟨_, _, rfl, 0, [], [.a [.v (.int .i64 c_X), .v (.int .i64 c_Y)]], [], .o (.a [.v (.int .i64 (c_X + 1)), .v (.int .i64 (c_Y)), .v (.int .i64 (c_X)), .v (.int .i64 (c_Y + 1)), .v (.int .i64 (c_X - 1)), .v (.int .i64 (c_Y)), .v (.int .i64 (c_X)), .v (.int .i64 (c_Y - 1))]), rfl, rfl, by simp only [push_cast, Nat.reduceLT, Nat.reduceAdd], by simp only [push_cast, Nat.reduceLT, Nat.reduceAdd], by simp only [push_cast, Nat.reduceLT, Nat.reduceAdd], rfl, trivial, rfl, ?_⟩
    intro hpre hlen
    refine ⟨trivial, ?_⟩
    simp (config := {maxSteps := 10000000}) only [x35, push_cast, Nat.reduceAdd, Nat.reduceSub, Nat.reduceLeDiff, Nat.reduceEqDiff, Nat.reduceBEq, Nat.reduceMul, Nat.reduceLT, ↓reduceIte, reduceCtorEq, Int.reduceLE, Int.reduceLT, Int.reduceEq, Int.reduceMul, Int.reduceAdd, Int.reduceSub, Int.reduceNeg, Int.reduceToNat, Int.reduceNe]
    exact ⟨wrapI (by omega) (by omega), wrapI (by omega) (by omega), wrapI (by omega) (by omega), wrapI (by omega) (by omega)⟩
  · cases hg_
def g29 : Con := fun args_ E_ nn_ => match args_ with
  | [.a [.v (.int .i64 p_W), .v (.int .i64 p_H), .n p_Cells]] => (match rowOf E_ p_Cells with
    | some (p_Cells_n, p_Cells_s, p_Cells_f) => some (.e (isRow eU8 p_Cells_n p_Cells_s p_Cells_f ∧ True) (.t [.c (.n (nn_ + 0)), .c (.v (.int .i64 (lanE p_W p_H (decL eU8 p_Cells_n p_Cells_f))))]) [((nn_ + 0), .own (lanL p_W p_H (decL eU8 p_Cells_n p_Cells_f)).length 3 (rowF eLn (lanL p_W p_H (decL eU8 p_Cells_n p_Cells_f))) 53)] (nn_ + 1))
    | none => none)
  | _ => none
theorem c29 : COk Try.prog 29 g29 := by
  refine cok_e Try.func29 x29_ok (by kernel_rfl) (cok_tab (cok_cons c33 (cok_cons c34 cok_nil))) ?_
  intro args_ E_ nn_ cr_ hg_
  unfold g29 at hg_
  split at hg_
  · rename_i p_W p_H p_Cells
    split at hg_
    · rename_i p_Cells_n p_Cells_s p_Cells_f h_p_Cells
      cases hg_
      refine ⟨_, _, _, _, rfl, 1, [p_Cells], [.a [.v (.int .i64 p_W), .v (.int .i64 p_H), .n 0]], [(0, .ro (decL eU8 p_Cells_n p_Cells_f).length eU8.sz (rowF eU8 (decL eU8 p_Cells_n p_Cells_f)))], .t [.c (.n 1), .c (.v (.int .i64 (lanE p_W p_H (decL eU8 p_Cells_n p_Cells_f))))], [(1, .own (lanL p_W p_H (decL eU8 p_Cells_n p_Cells_f)).length 3 (rowF eLn (lanL p_W p_H (decL eU8 p_Cells_n p_Cells_f))) 53)], 2, rfl, rfl, by simp only [renE, Ent.ren, rowF_renf] <;> rfl, rfl, by decide, by simp only [push_cast, Nat.reduceLT, Nat.reduceAdd], by simp only [push_cast, Nat.reduceLT, Nat.reduceAdd], by simp only [push_cast, Nat.reduceLT, Nat.reduceAdd], by simp only [push_cast, Nat.reduceLT, Nat.reduceAdd], rfl, ⟨inE0_row h_p_Cells, trivial⟩, by simp only [keysNodup, outN, keys] <;> decide, rfl, rfl, ?_⟩
      intro hpre hlen
      obtain ⟨i_p_Cells, hpre⟩ := hpre
      refine ⟨⟨inE_row h_p_Cells i_p_Cells, trivial⟩, by simp only [apartE] <;> (first | trivial | (simp [Ent.mut]; done)), ?_⟩
      have z_p_Cells := lens_row (E := eU8) hlen h_p_Cells
      clear i_p_Cells
      generalize decL eU8 p_Cells_n p_Cells_f = p_CellsL at *
      clear h_p_Cells
      simp (config := {maxSteps := 10000000}) only [x29, push_cast, Nat.reduceAdd, Nat.reduceSub, Nat.reduceLeDiff, Nat.reduceEqDiff, Nat.reduceBEq, Nat.reduceMul, Nat.reduceLT, ↓reduceIte, reduceCtorEq, Int.reduceLE, Int.reduceLT, Int.reduceEq, Int.reduceMul, Int.reduceAdd, Int.reduceSub, Int.reduceNeg, Int.reduceToNat, Int.reduceNe, g33, g34]
      refine ⟨fun h => by unfold lanL lanE; rw [h]; exact ⟨rfl, rfl⟩, fun hp => ?_⟩
      have pp := planB_at hp
      have e0 : lanE p_W p_H p_CellsL = 0 := by unfold lanE; rw [if_pos hp]
      have e1 : lanL p_W p_H p_CellsL = lnAll p_W p_H p_CellsL p_H.toNat := by unfold lanL; rw [if_pos hp]
      rw [e0, e1]
      refine vcLoop_upd (α := {j : Nat // (j : Int) ≤ p_H}) [1, 11] 1 (fun s => [(4, .o (.c (.n 2))), (12, .o (.c (.v (.int .i64 (s.1 : Nat)))))]) (fun s => [(2, .own (lnAll p_W p_H p_CellsL s.1).length 3 (rowF eLn (lnAll p_W p_H p_CellsL s.1)) 53)]) (fun s => p_H.toNat - s.1) ⟨0, by omega⟩ ?_ ?_
      · simp only [push_cast, Nat.reduceAdd, Nat.reduceSub, Nat.reduceLeDiff, Nat.reduceEqDiff, Nat.reduceBEq, Nat.reduceMul, Nat.reduceLT, ↓reduceIte, reduceCtorEq, Int.reduceLE, Int.reduceLT, Int.reduceEq, Int.reduceMul, Int.reduceAdd, Int.reduceSub, Int.reduceNeg, Int.reduceToNat, Int.reduceNe, g33, g34]
        rfl
      rintro ⟨j, hj⟩
      simp only [x29L1, push_cast, Nat.reduceAdd, Nat.reduceSub, Nat.reduceLeDiff, Nat.reduceEqDiff, Nat.reduceBEq, Nat.reduceMul, Nat.reduceLT, ↓reduceIte, reduceCtorEq, Int.reduceLE, Int.reduceLT, Int.reduceEq, Int.reduceMul, Int.reduceAdd, Int.reduceSub, Int.reduceNeg, Int.reduceToNat, Int.reduceNe, g33, g34]
      have hl1 := lnAll_len (W := p_W) (H := p_H) (L := p_CellsL) pp.1 j
      refine ⟨fun hlt => ?_, fun hge => ?_⟩
      · refine vcLoop_upd (α := {k : Nat // (k : Int) ≤ p_W}) [1, 5, 11, 12, 16] 0 (fun s => [(4, .o (.c (.n 2))), (17, .o (.c (.v (.int .i64 (s.1 : Nat)))))]) (fun s => [(2, .own (lnRow p_W p_H p_CellsL j (lnAll p_W p_H p_CellsL j) s.1).length 3 (rowF eLn (lnRow p_W p_H p_CellsL j (lnAll p_W p_H p_CellsL j) s.1)) 53)]) (fun s => p_W.toNat - s.1) ⟨0, by omega⟩ ?_ ?_
        · simp only [push_cast, Nat.reduceAdd, Nat.reduceSub, Nat.reduceLeDiff, Nat.reduceEqDiff, Nat.reduceBEq, Nat.reduceMul, Nat.reduceLT, ↓reduceIte, reduceCtorEq, Int.reduceLE, Int.reduceLT, Int.reduceEq, Int.reduceMul, Int.reduceAdd, Int.reduceSub, Int.reduceNeg, Int.reduceToNat, Int.reduceNe, g33, g34]
          exact same_eq rfl
        rintro ⟨k, hk⟩
        simp only [x29L0, push_cast, Nat.reduceAdd, Nat.reduceSub, Nat.reduceLeDiff, Nat.reduceEqDiff, Nat.reduceBEq, Nat.reduceMul, Nat.reduceLT, ↓reduceIte, reduceCtorEq, Int.reduceLE, Int.reduceLT, Int.reduceEq, Int.reduceMul, Int.reduceAdd, Int.reduceSub, Int.reduceNeg, Int.reduceToNat, Int.reduceNe, g33, g34]
        have hstep : lnRow p_W p_H p_CellsL j (lnAll p_W p_H p_CellsL j) (k + 1) = lnStep p_W p_H p_CellsL j (lnRow p_W p_H p_CellsL j (lnAll p_W p_H p_CellsL j) k) k := rfl
        have hlen2 := lnRow_len p_W p_H p_CellsL j (lnAll p_W p_H p_CellsL j) k
        have hne : frB p_W p_H p_CellsL ((k : Int) - 1) j = true → 1 ≤ (lnRow p_W p_H p_CellsL j (lnAll p_W p_H p_CellsL j) k).length := fun h => by
          obtain ⟨B, s, g, _⟩ := (row_eq p_W p_H p_CellsL j (lnAll p_W p_H p_CellsL j) k).2 h
          rw [g]; simp
        have hW : k = p_W.toNat → lnAll p_W p_H p_CellsL (j + 1) = lnRow p_W p_H p_CellsL j (lnAll p_W p_H p_CellsL j) k := fun e => by rw [e]; rfl
        rw [wrapI (n := (k : Int) - 1) (by omega) (by omega)]
        generalize lnRow p_W p_H p_CellsL j (lnAll p_W p_H p_CellsL j) k = A at *
        refine ⟨fun hlt2 => ⟨hp, fun hf => ⟨⟨k + 1, by omega⟩, ⟨wrapI (by omega) (by omega), same_eq (by simp only; rw [hstep]; unfold lnStep; rw [if_neg (by rw [hf]; simp)])⟩, by simp only; omega⟩, fun hf => ⟨hp, fun hf1 => ?_, fun hf1 => ⟨by omega, ⟨k + 1, by omega⟩, ⟨wrapI (by omega) (by omega), push_eq (E := eLn) (x := ⟨j, k, k⟩) (by simp only; rw [hstep]; unfold lnStep; rw [if_pos hf, if_neg (by rw [hf1]; simp)])⟩, by simp only; omega⟩⟩⟩, fun hge => ⟨⟨j + 1, by omega⟩, ⟨wrapI (by omega) (by omega), same_eq (hW (by omega))⟩, by simp only; omega⟩⟩
        have h1 := hne hf1
        rw [wrapI (n := (A.length : Int) - 1) (by omega) (by omega)]
        have e : ((A.length : Int) - 1).toNat = A.length - 1 := by omega
        rw [e, up_x1 _ (by omega)]
        refine ⟨⟨by omega, by omega⟩, by omega, ⟨k + 1, by omega⟩, ⟨wrapI (by omega) (by omega), ?_⟩, by simp only; omega⟩
        have h2 : lnRow p_W p_H p_CellsL j (lnAll p_W p_H p_CellsL j) (k + 1) = lnLast A k := by rw [hstep]; unfold lnStep; rw [if_pos hf, if_pos hf1]
        simp only
        rw [h2]
        exact ⟨by unfold lnLast; rw [List.length_set], (rowEq_rowF _ _ _ _).2 trivial⟩
      · obtain rfl : j = p_H.toNat := by omega
        exact ⟨rfl, (rowEq_rowF _ _ _ _).2 trivial⟩
    · cases hg_
  · cases hg_
end Go.Proofs.Ytnkkhmeojifckaa
