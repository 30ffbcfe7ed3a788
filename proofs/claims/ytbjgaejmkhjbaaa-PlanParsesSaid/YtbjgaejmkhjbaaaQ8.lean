/- A part of the proof of a statement about this seat: how a function is stepped through, and plain laws. No conditions. -/
import Derived.Test.YtbjgaejmkhjbaaaRows
import Derived.Test.YtbjgaejmkhjbaaaSz3
import Derived.Test.YtbjgaejmkhjbaaaQ5
import Derived.KernelRfl
set_option linter.unusedVariables false
set_option linter.unusedSimpArgs false
set_option maxRecDepth 20000
namespace Go.Proofs.Ytbjgaejmkhjbaaa
open Go.Sx
/-! ### The text of a plan, read -/
def nlI : List Int → Option Nat
  | [] => none
  | x :: l => if x = 10 then some 0 else (nlI l).map (· + 1)
/-- The value of a sign. -/
def keyI (x : Int) : Option Int := if x = 63 then some 0 else if x = 46 then some 1 else if x = 35 then some 2 else none
def keysL : List Int → Option (List Int)
  | [] => some []
  | x :: l => match keyI x, keysL l with
    | some k, some ks => some (k :: ks)
    | _, _ => none
def parG : Nat → List Int → Int → Int → List Int → Option (Int × Int × List Int)
  | 0, _, _, _, _ => none
  | n + 1, l, W, H, C =>
    if l = [] then (if (1 ≤ W ∧ W ≤ 64) ∧ 1 ≤ H ∧ H ≤ 64 then some (W, H, C) else none)
    else match nlI l with
      | none => none
      | some i => if 0 < H ∧ (i : Int) ≠ W then none else match keysL (l.take i) with
        | none => none
        | some ks => parG n (l.drop (i + 1)) i (H + 1) (C ++ ks)
def parV (l : List Int) : Option (Int × Int × List Int) := parG (l.length + 1) l 0 0 []
theorem nlI_some {l : List Int} {i : Nat} (h : nlI l = some i) : i < l.length ∧ l = l.take i ++ 10 :: l.drop (i + 1) ∧ ∀ x ∈ l.take i, x ≠ 10 := by
  induction l generalizing i with
  | nil => cases h
  | cons x l ih =>
    unfold nlI at h
    split at h
    · rename_i hx; cases h; subst hx; exact ⟨by simp, by simp, fun x hx => by simp at hx⟩
    · rename_i hx
      cases hn : nlI l with
      | none => rw [hn] at h; cases h
      | some j =>
        rw [hn] at h; cases h
        obtain ⟨a, b, c⟩ := ih hn
        refine ⟨by simp; omega, ?_, ?_⟩
        · simp only [List.take_succ_cons, List.drop_succ_cons, List.cons_append, List.cons.injEq, true_and]
          exact b
        · intro y hy
          simp only [List.take_succ_cons, List.mem_cons] at hy
          rcases hy with rfl | hy
          · exact hx
          · exact c y hy
theorem nlI_app {a l : List Int} (h : ∀ x ∈ a, x ≠ 10) : nlI (a ++ 10 :: l) = some a.length := by
  induction a with
  | nil => simp [nlI]
  | cons x a ih =>
    have := ih fun y hy => h y (List.mem_cons_of_mem _ hy)
    simp only [List.cons_append, nlI]
    rw [if_neg (h x List.mem_cons_self), this]; rfl
def sgI (k : Int) : Int := if k = 0 then 63 else if k = 1 then 46 else 35
theorem key_sg {k : Int} (h : 0 ≤ k ∧ k ≤ 2) : keyI (sgI k) = some k ∧ sgI k ≠ 10 := by
  unfold sgI keyI
  rcases (by omega : k = 0 ∨ k = 1 ∨ k = 2) with rfl | rfl | rfl <;> simp
theorem sg_key {x k : Int} (h : keyI x = some k) : sgI k = x ∧ 0 ≤ k ∧ k ≤ 2 := by
  unfold keyI at h
  unfold sgI
  split at h
  · cases h; simp_all
  · split at h
    · cases h; simp_all
    · split at h
      · cases h; simp_all
      · cases h
theorem keys_sg : ∀ {ks : List Int}, (∀ k ∈ ks, 0 ≤ k ∧ k ≤ 2) → keysL (ks.map sgI) = some ks
  | [], _ => rfl
  | k :: ks, h => by
    have := keys_sg fun x hx => h x (List.mem_cons_of_mem _ hx)
    simp only [List.map_cons, keysL, (key_sg (h k List.mem_cons_self)).1, this]
theorem sg_keys : ∀ {l ks : List Int}, keysL l = some ks → l = ks.map sgI ∧ ∀ k ∈ ks, 0 ≤ k ∧ k ≤ 2
  | [], ks, h => by cases h; exact ⟨rfl, fun k hk => by cases hk⟩
  | x :: l, ks, h => by
    unfold keysL at h
    split at h
    · rename_i k ks2 h1 h2
      cases h
      obtain ⟨a, b⟩ := sg_keys h2
      obtain ⟨c, d⟩ := sg_key h1
      refine ⟨by rw [List.map_cons, c, ← a], fun y hy => ?_⟩
      rcases List.mem_cons.1 hy with rfl | hy
      · exact d
      · exact b y hy
    · cases h
/-- The rows of a plan, as text. -/
def rowsT (W : Nat) : Nat → List Int → List Int
  | 0, _ => []
  | h + 1, L => (L.take W).map sgI ++ 10 :: rowsT W h (L.drop W)
theorem rowsT_app (W : Nat) : ∀ (h k : Nat) (C L : List Int), C.length = W * h → rowsT W (h + k) (C ++ L) = rowsT W h C ++ rowsT W k L
  | 0, k, C, L, hc => by
    have : C = [] := by rw [Nat.mul_zero] at hc; exact List.length_eq_zero_iff.1 hc
    subst this
    simp [rowsT]
  | h + 1, k, C, L, hc => by
    have hw : W ≤ C.length := by rw [hc, Nat.mul_succ]; omega
    rw [show h + 1 + k = (h + k) + 1 by omega]
    simp only [rowsT]
    rw [List.take_append_of_le_length hw, List.drop_append_of_le_length hw, rowsT_app W h k (C.drop W) L (by rw [List.length_drop, hc, Nat.mul_succ]; omega), List.append_assoc]
    rfl
/-- What is read is a plan, and its text is what was read. -/
theorem parG_sound : ∀ (n : Nat) (l : List Int) (W H : Nat) (C : List Int) {W' H' : Int} {C' : List Int}, parG n l W H C = some (W', H', C') → (H = 0 → W = 0 ∧ C = []) → C.length = W * H → (∀ k ∈ C, 0 ≤ k ∧ k ≤ 2) →
    ∃ w h : Nat, W' = w ∧ H' = h ∧ (1 ≤ w ∧ w ≤ 64) ∧ (1 ≤ h ∧ h ≤ 64) ∧ C'.length = w * h ∧ (∀ k ∈ C', 0 ≤ k ∧ k ≤ 2) ∧ rowsT w h C' = rowsT W H C ++ l
  | 0, _, _, _, _, _, _, _, h, _, _, _ => by cases h
  | n + 1, l, W, H, C, W', H', C', h, h0, hc, hk => by
    unfold parG at h
    split at h
    · rename_i hl
      split at h
      · rename_i hs
        cases h
        subst hl
        exact ⟨W, H, rfl, rfl, by omega, by omega, hc, hk, by simp⟩
      · cases h
    · split at h
      · cases h
      · rename_i i hi
        split at h
        · cases h
        · rename_i hw
          split at h
          · cases h
          · rename_i ks hks
            obtain ⟨a1, a2, a3⟩ := nlI_some hi
            obtain ⟨b1, b2⟩ := sg_keys hks
            have hkl : ks.length = i := by
              have := congrArg List.length b1
              rw [List.length_take, List.length_map] at this
              omega
            have hWi : H = 0 ∨ i = W := by omega
            have hC : (C ++ ks).length = i * (H + 1) := by
              rw [List.length_append, hkl]
              rcases hWi with hz | hz
              · subst hz; rw [(h0 rfl).2]; simp
              · rw [hc, hz, Nat.mul_succ]
            have hk2 : ∀ k ∈ C ++ ks, 0 ≤ k ∧ k ≤ 2 := fun k hm => by
              rcases List.mem_append.1 hm with q | q
              · exact hk k q
              · exact b2 k q
            have key := parG_sound n (l.drop (i + 1)) i (H + 1) (C ++ ks) (by exact_mod_cast h) (fun q => by omega) hC hk2
            obtain ⟨w, hh, e1, e2, e3, e4, e5, e6, e7⟩ := key
            refine ⟨w, hh, e1, e2, e3, e4, e5, e6, ?_⟩
            rw [e7]
            have hrow : rowsT i 1 ks = l.take i ++ [10] := by
              simp only [rowsT]
              rw [List.take_of_length_le (by omega), ← b1]
            have hCi : C.length = i * H := by
              rcases hWi with hz | hz
              · subst hz; rw [(h0 rfl).2]; simp
              · rw [hc, hz]
            rw [rowsT_app i H 1 C ks hCi, hrow]
            have hsame : rowsT i H C = rowsT W H C := by
              rcases hWi with hz | hz
              · subst hz; rfl
              · rw [hz]
            rw [hsame]
            conv => rhs; rw [a2]
            simp
/-- Every plan's text is read. -/
theorem parG_full (w : Nat) (hw : 1 ≤ w ∧ w ≤ 64) : ∀ (k n H : Nat) (C L : List Int), k < n → (∀ x ∈ L, 0 ≤ x ∧ x ≤ 2) → L.length = w * k → 1 ≤ H + k → H + k ≤ 64 →
    parG n (rowsT w k L) (if H = 0 ∧ k ≠ 0 then 0 else w : Nat) H C = some ((w : Int), ((H + k : Nat) : Int), C ++ L)
  | 0, n + 1, H, C, L, hn, hL, hl, h1, h2 => by
    have : L = [] := by rw [Nat.mul_zero] at hl; exact List.length_eq_zero_iff.1 hl
    subst this
    unfold parG rowsT
    rw [if_pos rfl, if_neg (show ¬ (H = 0 ∧ (0 : Nat) ≠ 0) by simp), if_pos (by omega), List.append_nil, Nat.add_zero]
  | k + 1, n + 1, H, C, L, hn, hL, hl, h1, h2 => by
    have hlw : w ≤ L.length := by rw [hl, Nat.mul_succ]; omega
    have ht : (L.take w).length = w := by rw [List.length_take]; omega
    have hne : ∀ x ∈ (L.take w).map sgI, x ≠ 10 := by
      intro x hx
      obtain ⟨y, hy, rfl⟩ := List.mem_map.1 hx
      exact (key_sg (hL y (List.mem_of_mem_take hy))).2
    have hnl : nlI (rowsT w (k + 1) L) = some w := by
      simp only [rowsT]
      rw [nlI_app hne, List.length_map, ht]
    have htk : (rowsT w (k + 1) L).take w = (L.take w).map sgI := by
      simp only [rowsT]
      rw [List.take_append_of_le_length (by rw [List.length_map, ht]; omega), List.take_of_length_le (by rw [List.length_map, ht]; omega)]
    have hdr : (rowsT w (k + 1) L).drop (w + 1) = rowsT w k (L.drop w) := by
      simp only [rowsT]
      rw [List.drop_append, List.drop_of_length_le (by rw [List.length_map, ht]; omega), List.length_map, ht]
      simp
    unfold parG
    rw [if_neg (by simp [rowsT]), hnl]
    simp only
    rw [if_neg (by rintro ⟨q1, q2⟩; split at q2 <;> omega), htk, keys_sg fun x hx => hL x (List.mem_of_mem_take hx)]
    simp only
    rw [hdr]
    have ih := parG_full w hw k n (H + 1) (C ++ L.take w) (L.drop w) (by omega) (fun x hx => hL x (List.mem_of_mem_drop hx)) (by rw [List.length_drop, hl, Nat.mul_succ]; omega) (by omega) (by omega)
    rw [if_neg (by omega)] at ih
    have e : ((H : Int) + 1) = ((H + 1 : Nat) : Int) := by omega
    rw [e, ih, List.append_assoc, List.take_append_drop]
    congr 3
    omega
/-! ### Text and reading, of bytes -/
theorem sgn_sgI {v : Int} (h : 0 ≤ v ∧ v ≤ 2) : sgn v = sgI v := by
  rcases (by omega : v = 0 ∨ v = 1 ∨ v = 2) with rfl | rfl | rfl <;> rfl
theorem tx_row {W : Nat} {L : List Int} {h : Nat} (hw : 1 ≤ W) (hL : ∀ x ∈ L, 0 ≤ x ∧ x ≤ 2) (hl : W * (h + 1) ≤ L.length) :
    ∀ j, j < W → txK W L (W * h + j) = txK W L (W * h) ++ ((L.drop (W * h)).take j).map sgI
  | 0, _ => by simp
  | j + 1, hj => by
    have ih := tx_row hw hL hl j (by omega)
    have hi : W * h + j < L.length := by rw [Nat.mul_succ] at hl; omega
    have hg : L.getD (W * h + j) eU8.dflt = L[W * h + j] := by rw [List.getD_eq_getElem?_getD, List.getElem?_eq_getElem hi, Option.getD_some]
    have hm : ((W * h + j : Nat) : Int) % (W : Int) = j := by
      have : (W * h + j) % W = j := by rw [Nat.mul_add_mod]; exact Nat.mod_eq_of_lt (by omega)
      rw [← Int.natCast_emod, this]
    rw [show W * h + (j + 1) = (W * h + j) + 1 by omega, txK_succ, ih]
    unfold txOne
    rw [hm, if_neg (by omega), hg, sgn_sgI (hL _ (List.getElem_mem hi)), List.append_assoc]
    congr 1
    rw [List.take_add_one, List.getElem?_drop, List.getElem?_eq_getElem hi]
    simp
theorem tx_rows {W : Nat} {L : List Int} (hw : 1 ≤ W) (hL : ∀ x ∈ L, 0 ≤ x ∧ x ≤ 2) : ∀ h, W * h ≤ L.length → txK W L (W * h) = rowsT W h (L.take (W * h))
  | 0, _ => by simp [txK, rowsT]
  | h + 1, hl => by
    have ih := tx_rows hw hL h (by rw [Nat.mul_succ] at hl; omega)
    have hr := tx_row hw hL hl (W - 1) (by omega)
    have hi : W * h + (W - 1) < L.length := by rw [Nat.mul_succ] at hl; omega
    have hg : L.getD (W * h + (W - 1)) eU8.dflt = L[W * h + (W - 1)] := by rw [List.getD_eq_getElem?_getD, List.getElem?_eq_getElem hi, Option.getD_some]
    have hm : ((W * h + (W - 1) : Nat) : Int) % (W : Int) = (W : Int) - 1 := by
      have : (W * h + (W - 1)) % W = W - 1 := by rw [Nat.mul_add_mod]; exact Nat.mod_eq_of_lt (by omega)
      have h2 : ((W * h + (W - 1) : Nat) : Int) % (W : Int) = ((W - 1 : Nat) : Int) := by rw [← Int.natCast_emod, this]
      omega
    have e1 : W * (h + 1) = (W * h + (W - 1)) + 1 := by rw [Nat.mul_succ]; omega
    have e2 : L.take (W * (h + 1)) = L.take (W * h) ++ (L.drop (W * h)).take W := by rw [Nat.mul_succ, List.take_add]
    rw [e2, rowsT_app W h 1 _ _ (by rw [List.length_take]; rw [Nat.mul_succ] at hl; omega), ← ih, e1, txK_succ, hr]
    unfold txOne
    rw [hm, if_pos rfl, hg, sgn_sgI (hL _ (List.getElem_mem hi)), List.append_assoc]
    congr 1
    simp only [rowsT]
    have e3 : (L.drop (W * h)).take W = (L.drop (W * h)).take (W - 1) ++ [L[W * h + (W - 1)]] := by
      have ew : (L.drop (W * h)).take W = (L.drop (W * h)).take ((W - 1) + 1) := by rw [show (W - 1) + 1 = W by omega]
      rw [ew, List.take_add_one, List.getElem?_drop, List.getElem?_eq_getElem hi]
      simp
    rw [List.take_of_length_le (l := (L.drop (W * h)).take W) (by rw [List.length_take]; omega), e3]
    simp
/-- A valid plan's text, row by row. -/
theorem tx_plan {W H : Int} {L : List Int} (hp : planB W H L = true) (hu : u8s L) : txL W L = rowsT W.toNat H.toNat L := by
  have a := planB_at hp
  have hL : ∀ x ∈ L, 0 ≤ x ∧ x ≤ 2 := fun x hx => ⟨(hu x hx).1, (getD_all (p := fun x => x ≤ 2) eU8.dflt).1 a.2.2.2.2 x hx⟩
  have hl : L.length = W.toNat * H.toNat := by
    have : ((W.toNat * H.toNat : Nat) : Int) = W * H := by rw [Int.natCast_mul, Int.toNat_of_nonneg (by omega), Int.toNat_of_nonneg (by omega)]
    omega
  have k := tx_rows (W := W.toNat) (by omega) hL H.toNat (by omega)
  rw [← hl, List.take_of_length_le (Nat.le_refl _)] at k
  unfold txL
  rw [← k]
  have : ((W.toNat : Nat) : Int) = W := Int.toNat_of_nonneg (by omega)
  rw [this]
theorem par_plan {W H : Int} {L : List Int} (hp : planB W H L = true) (hu : u8s L) : parV (rowsT W.toNat H.toNat L) = some (W, H, L) := by
  have a := planB_at hp
  have hL : ∀ x ∈ L, 0 ≤ x ∧ x ≤ 2 := fun x hx => ⟨(hu x hx).1, (getD_all (p := fun x => x ≤ 2) eU8.dflt).1 a.2.2.2.2 x hx⟩
  have hl : L.length = W.toNat * H.toNat := by
    have : ((W.toNat * H.toNat : Nat) : Int) = W * H := by rw [Int.natCast_mul, Int.toNat_of_nonneg (by omega), Int.toNat_of_nonneg (by omega)]
    omega
  have hlen : ∀ (k : Nat) (M : List Int), k ≤ (rowsT W.toNat k M).length := by
    intro k
    induction k with
    | zero => intro M; exact Nat.zero_le _
    | succ k ih => intro M; simp only [rowsT, List.length_append, List.length_cons]; have := ih (M.drop W.toNat); omega
  have k := parG_full W.toNat (by omega) H.toNat ((rowsT W.toNat H.toNat L).length + 1) 0 [] L (by have := hlen H.toNat L; omega) hL hl (by omega) (by omega)
  rw [if_pos (by omega)] at k
  unfold parV
  rw [show ((0 : Nat) : Int) = 0 from rfl] at k
  rw [k, List.nil_append, Nat.zero_add, Int.toNat_of_nonneg (by omega), Int.toNat_of_nonneg (by omega)]
theorem par_sound {l : List Int} {W H : Int} {L : List Int} (h : parV l = some (W, H, L)) : planB W H L = true ∧ u8s L ∧ rowsT W.toNat H.toNat L = l := by
  obtain ⟨w, hh, e1, e2, e3, e4, e5, e6, e7⟩ := parG_sound (l.length + 1) l 0 0 [] h (fun _ => ⟨rfl, rfl⟩) rfl (fun k hk => by cases hk)
  subst e1; subst e2
  refine ⟨?_, fun x hx => by have := e6 x hx; omega, ?_⟩
  · simp only [planB, Bool.and_eq_true, decide_eq_true_eq]
    refine ⟨⟨by omega, by omega, ?_⟩, fun x hx => (e6 x hx).2⟩
    rw [e5, Int.natCast_mul]
  · rw [Int.toNat_natCast, Int.toNat_natCast, e7]; simp [rowsT]
/-! ### The specification's reading -/
def ky (x : Int) : Int := if x = 46 then 1 else if x = 35 then 2 else 0
def rfH (l : List Int) : Nat := (l.filter fun x => x == 10).length
def rfC (l : List Int) : List Int := (l.filter fun x => x != 10).map ky
def rfW (l : List Int) : Nat := (nlI l).getD 0
theorem rfC_u8 (l : List Int) : u8s (rfC l) := by
  intro x hx
  obtain ⟨y, _, rfl⟩ := List.mem_map.1 hx
  unfold ky
  split
  · omega
  · split <;> omega
theorem rf_snoc (l : List Int) (x : Int) : rfH (l ++ [x]) = (if x = 10 then rfH l + 1 else rfH l) ∧ rfC (l ++ [x]) = (if x = 10 then rfC l else rfC l ++ [ky x]) := by
  unfold rfH rfC
  rw [List.filter_append, List.filter_append]
  by_cases h : x = 10
  · subst h; simp
  · simp [h]
theorem nlI_none {l : List Int} : nlI l = none ↔ rfH l = 0 := by
  unfold rfH
  induction l with
  | nil => simp [nlI]
  | cons x l ih =>
    unfold nlI
    by_cases h : x = 10
    · subst h; simp
    · rw [if_neg h, Option.map_eq_none_iff, ih]; simp [h]
theorem nlI_snoc (l : List Int) (x : Int) : nlI (l ++ [x]) = match nlI l with
    | some i => some i
    | none => if x = 10 then some l.length else none := by
  induction l with
  | nil => simp only [List.nil_append, nlI, List.length_nil]; split <;> rfl
  | cons y l ih =>
    simp only [List.cons_append, nlI, ih]
    by_cases h : y = 10
    · simp [h]
    · simp only [if_neg h]
      cases nlI l with
      | some i => rfl
      | none =>
        simp only [Option.map_none]
        split <;> simp
theorem rfW_snoc (l : List Int) (x : Int) : rfW (l ++ [x]) = if x = 10 ∧ rfH l = 0 then l.length else rfW l := by
  unfold rfW
  rw [nlI_snoc]
  cases h : nlI l with
  | some i =>
    have : rfH l ≠ 0 := fun q => by rw [nlI_none.2 q] at h; cases h
    rw [if_neg (fun q : x = 10 ∧ rfH l = 0 => this q.2)]
  | none =>
    have := nlI_none.1 h
    by_cases hx : x = 10
    · rw [if_pos (show x = 10 ∧ rfH l = 0 from ⟨hx, this⟩)]; simp [hx]
    · rw [if_neg (fun q : x = 10 ∧ rfH l = 0 => hx q.1)]; simp [hx]
theorem ky_sg {k : Int} (h : 0 ≤ k ∧ k ≤ 2) : ky (sgI k) = k := by
  rcases (by omega : k = 0 ∨ k = 1 ∨ k = 2) with rfl | rfl | rfl <;> rfl
theorem rf_rows (w : Nat) : ∀ (h : Nat) (L : List Int), (∀ x ∈ L, 0 ≤ x ∧ x ≤ 2) → L.length = w * h → rfH (rowsT w h L) = h ∧ rfC (rowsT w h L) = L ∧ (1 ≤ h → rfW (rowsT w h L) = w)
  | 0, L, hL, hl => by
    have : L = [] := by rw [Nat.mul_zero] at hl; exact List.length_eq_zero_iff.1 hl
    subst this
    exact ⟨rfl, rfl, fun q => by omega⟩
  | h + 1, L, hL, hl => by
    have hlw : w ≤ L.length := by rw [hl, Nat.mul_succ]; omega
    obtain ⟨i1, i2, _⟩ := rf_rows w h (L.drop w) (fun x hx => hL x (List.mem_of_mem_drop hx)) (by rw [List.length_drop, hl, Nat.mul_succ]; omega)
    have hne : ∀ x ∈ (L.take w).map sgI, x ≠ 10 := by
      intro x hx
      obtain ⟨y, hy, rfl⟩ := List.mem_map.1 hx
      exact (key_sg (hL y (List.mem_of_mem_take hy))).2
    have f1 : ((L.take w).map sgI).filter (fun x => x == 10) = [] := by
      rw [List.filter_eq_nil_iff]; intro x hx; simpa using hne x hx
    have f2 : ((L.take w).map sgI).filter (fun x => x != 10) = (L.take w).map sgI := by
      rw [List.filter_eq_self]; intro x hx; simpa using hne x hx
    have f3 : ((L.take w).map sgI).map ky = L.take w := by
      rw [List.map_map]
      conv => rhs; rw [← List.map_id (L.take w)]
      exact List.map_congr_left fun x hx => ky_sg (hL x (List.mem_of_mem_take hx))
    refine ⟨?_, ?_, fun _ => ?_⟩
    · unfold rfH at i1 ⊢
      simp only [rowsT, List.filter_append, f1, List.filter_cons]
      simp [i1]
    · unfold rfC at i2 ⊢
      simp only [rowsT, List.filter_append, f2, List.filter_cons, List.map_append, f3]
      simp [i2]
    · unfold rfW
      simp only [rowsT]
      rw [nlI_app hne, List.length_map, List.length_take]
      show min w L.length = w
      omega
/-- Both readings are the same. -/
theorem rf_par {l : List Int} (hl : u8s l) : (if l ≠ [] ∧ textB (rfW l) (rfH l) (rfC l) = strB l then some ((rfW l : Int), (rfH l : Int), rfC l) else none) = parV l := by
  cases hp : parV l with
  | none =>
    rw [if_neg]
    rintro ⟨h1, h2⟩
    unfold textB at h2
    split at h2
    · rename_i hb
      have hx := tx_plan hb (rfC_u8 l)
      have hk := par_plan hb (rfC_u8 l)
      have e : txL (rfW l) (rfC l) = l := (strB_inj (txK_u8 _ _ _) hl).1 h2
      rw [← hx, e, hp] at hk
      cases hk
    · have := (strB_inj (fun x hx => by cases hx) hl).1 h2
      exact h1 this.symm
  | some t =>
    obtain ⟨W, H, L⟩ := t
    obtain ⟨s1, s2, s3⟩ := par_sound hp
    have a := planB_at s1
    have hL : ∀ x ∈ L, 0 ≤ x ∧ x ≤ 2 := fun x hx => ⟨(s2 x hx).1, (getD_all (p := fun x => x ≤ 2) eU8.dflt).1 a.2.2.2.2 x hx⟩
    have hln : L.length = W.toNat * H.toNat := by
      have : ((W.toNat * H.toNat : Nat) : Int) = W * H := by rw [Int.natCast_mul, Int.toNat_of_nonneg (by omega), Int.toNat_of_nonneg (by omega)]
      omega
    obtain ⟨r1, r2, r3⟩ := rf_rows W.toNat H.toNat L hL hln
    rw [s3] at r1 r2 r3
    have e1 : ((rfW l : Nat) : Int) = W := by rw [r3 (by omega)]; omega
    have e2 : ((rfH l : Nat) : Int) = H := by rw [r1]; omega
    rw [e1, e2, r2, if_pos]
    refine ⟨?_, ?_⟩
    · intro q
      rw [q] at hp
      simp [parV, parG] at hp
    · unfold textB
      rw [if_pos s1, tx_plan s1 s2, s3]
/-! ### Strings as lists of numbers -/
theorem byI_len (s : ByteArray) : (byI s).length = s.size := by unfold byI; rw [List.length_map]; rfl
theorem byI_u8 (s : ByteArray) : u8s (byI s) := by
  intro x hx
  unfold byI at hx
  obtain ⟨b, _, rfl⟩ := List.mem_map.1 hx
  have := b.toNat_lt
  omega
theorem byI_at {s : ByteArray} (i : Nat) : byteAt s i = (byI s).getD i 0 := by
  unfold byteAt byI
  rw [List.getD_eq_getElem?_getD, List.getD_eq_getElem?_getD, List.getElem?_map]
  cases s.data.toList[i]? <;> rfl
theorem strB_byI (s : ByteArray) : strB (byI s) = s := by
  unfold strB byI
  apply ByteArray.ext
  show (List.map (fun n : Int => UInt8.ofNat n.toNat) (s.data.toList.map fun b => (b.toNat : Int))).toArray = s.data
  rw [List.map_map]
  have e : ((fun n : Int => UInt8.ofNat n.toNat) ∘ fun b : UInt8 => (b.toNat : Int)) = id := by
    funext b
    simp
  rw [e, List.map_id]
theorem byI_inj {a b : ByteArray} (h : byI a = byI b) : a = b := by rw [← strB_byI a, ← strB_byI b, h]
theorem byI_nil (s : ByteArray) : s = ⟨#[]⟩ ↔ byI s = [] := ⟨fun h => by subst h; rfl, fun h => byI_inj (h.trans rfl)⟩
theorem byI_ext (s : ByteArray) (a b : Nat) : byI (s.extract a b) = ((byI s).take b).drop a := by
  have e : (s.extract a b).data = s.data.extract a b := ByteArray.data_extract
  unfold byI
  rw [e, Array.toList_extract, List.extract_eq_take_drop, List.map_take, List.map_drop, List.drop_take]
theorem idx10 (s : ByteArray) : idxS s 10 = match nlI (byI s) with
    | some i => (i : Int)
    | none => -1 := by
  unfold idxS byI
  have e : (10 : Int).toNat.toUInt8 = 10 := rfl
  rw [e]
  generalize s.data.toList = l
  induction l with
  | nil => rfl
  | cons b l ih =>
    unfold Lib.indexByte
    simp only [List.map_cons, nlI]
    by_cases h : b = 10
    · subst h; rfl
    · have hb : ¬ ((b.toNat : Nat) : Int) = 10 := fun q => h (UInt8.toNat_inj.1 (by have : (10 : UInt8).toNat = 10 := rfl; omega))
      rw [if_neg (by simpa using h), if_neg hb, ih]
      cases nlI (l.map fun b => (b.toNat : Int)) with
      | none => rfl
      | some i =>
        simp only [Option.map_some]
        rw [if_neg (by simp)]
        exact (Int.natCast_succ i).symm
theorem key_all : ∀ x : Fin 256, idxS ⟨#[63, 46, 35]⟩ ((x.val : Nat) : Int) = match keyI ((x.val : Nat) : Int) with
    | some k => k
    | none => -1 := by decide +kernel
theorem key_idx {x : Int} (h : 0 ≤ x ∧ x ≤ 255) : idxS ⟨#[63, 46, 35]⟩ x = match keyI x with
    | some k => k
    | none => -1 := by
  have := key_all ⟨x.toNat, by omega⟩
  simp only at this
  rw [Int.toNat_of_nonneg h.1] at this
  exact this
theorem parG_fuel : ∀ (n m : Nat) (l : List Int) (W H : Int) (C : List Int), l.length < n → l.length < m → parG n l W H C = parG m l W H C
  | 0, _, _, _, _, _, h, _ => by omega
  | _, 0, _, _, _, _, _, h => by omega
  | n + 1, m + 1, l, W, H, C, h1, h2 => by
    unfold parG
    by_cases hl : l = []
    · rw [if_pos hl, if_pos hl]
    · rw [if_neg hl, if_neg hl]
      cases hi : nlI l with
      | none => rfl
      | some i =>
        have a := (nlI_some hi).1
        simp only
        split
        · rfl
        · split
          · rfl
          · exact parG_fuel n m _ _ _ _ (by rw [List.length_drop]; omega) (by rw [List.length_drop]; omega)
def parS (l : List Int) (W H : Int) (C : List Int) : Option (Int × Int × List Int) := parG (l.length + 1) l W H C
theorem parS_nil (W H : Int) (C : List Int) : parS [] W H C = if (1 ≤ W ∧ W ≤ 64) ∧ 1 ≤ H ∧ H ≤ 64 then some (W, H, C) else none := by
  unfold parS parG
  rw [if_pos rfl]
theorem parS_cut {l : List Int} {W H : Int} {C : List Int} (hl : l ≠ []) (hi : nlI l = none) : parS l W H C = none := by
  unfold parS parG
  rw [if_neg hl, hi]
theorem parS_wide {l : List Int} {W H : Int} {C : List Int} {i : Nat} (hi : nlI l = some i) (hw : 0 < H ∧ (i : Int) ≠ W) : parS l W H C = none := by
  have a := (nlI_some hi).1
  unfold parS parG
  rw [if_neg (by intro q; subst q; simp at a), hi]
  simp only
  rw [if_pos hw]
theorem parS_bad {l : List Int} {W H : Int} {C : List Int} {i : Nat} (hi : nlI l = some i) (hk : keysL (l.take i) = none) : parS l W H C = none := by
  have a := (nlI_some hi).1
  unfold parS parG
  rw [if_neg (by intro q; subst q; simp at a), hi]
  simp only
  split
  · rfl
  · rw [hk]
theorem parS_go {l : List Int} {W H : Int} {C ks : List Int} {i : Nat} (hi : nlI l = some i) (hw : ¬ (0 < H ∧ (i : Int) ≠ W)) (hk : keysL (l.take i) = some ks) : parS l W H C = parS (l.drop (i + 1)) i (H + 1) (C ++ ks) := by
  have a := (nlI_some hi).1
  unfold parS
  conv => lhs; unfold parG
  rw [if_neg (by intro q; subst q; simp at a), hi]
  simp only
  rw [if_neg hw, hk]
  exact parG_fuel _ _ _ _ _ _ (by rw [List.length_drop]; omega) (by rw [List.length_drop]; omega)
theorem keys_snoc {l ks : List Int} {x : Int} (h : keysL l = some ks) : keysL (l ++ [x]) = (keyI x).map fun k => ks ++ [k] := by
  induction l generalizing ks with
  | nil => cases h; simp only [List.nil_append, keysL]; cases keyI x <;> rfl
  | cons y l ih =>
    unfold keysL at h
    split at h
    · rename_i k ks2 h1 h2
      cases h
      have := ih h2
      simp only [List.cons_append, keysL, h1, this]
      cases keyI x <;> rfl
    · cases h
theorem keys_none {l : List Int} {x : Int} (m : List Int) (h : keyI x = none) : keysL (l ++ x :: m) = none := by
  induction l with
  | nil => simp only [List.nil_append, keysL, h]
  | cons y l ih => simp only [List.cons_append, keysL, ih]; cases keyI y <;> rfl
theorem keys_len : ∀ {l ks : List Int}, keysL l = some ks → ks.length = l.length := fun h => by
  have := (sg_keys h).1
  rw [this, List.length_map]
theorem nl_size : (((⟨#[10]⟩ : ByteArray).size : Nat) : Int) = 1 := rfl
theorem nl_byte : byteAt ⟨#[10]⟩ 0 = 10 := rfl
theorem nl_n : (⟨#[10]⟩ : ByteArray).size = 1 := rfl
def cutA (s : ByteArray) : ByteArray := match nlI (byI s) with
  | some i => s.extract 0 i
  | none => s
def cutZ (s : ByteArray) : ByteArray := match nlI (byI s) with
  | some i => s.extract (i + 1) s.size
  | none => ⟨#[]⟩
def cutF (s : ByteArray) : Bool := (nlI (byI s)).isSome
def paO (s : ByteArray) : Option (Int × Int × List Int) := if 4160 < s.size then none else parV (byI s)
def paE (s : ByteArray) : Int := if 4160 < s.size then 6 else if (parV (byI s)).isSome = true then 0 else 3
def paW (s : ByteArray) : Int := ((paO s).getD (0, 0, [])).1
def paH (s : ByteArray) : Int := ((paO s).getD (0, 0, [])).2.1
def paL (s : ByteArray) : List Int := ((paO s).getD (0, 0, [])).2.2
theorem pa_full {s : ByteArray} (h : 4160 < s.size) : paE s = 6 ∧ paW s = 0 ∧ paH s = 0 ∧ paL s = [] := by
  have e : paO s = none := if_pos h
  exact ⟨if_pos h, by unfold paW; rw [e]; rfl, by unfold paH; rw [e]; rfl, by unfold paL; rw [e]; rfl⟩
theorem pa_bad {s : ByteArray} (h : ¬ 4160 < s.size) (hp : parV (byI s) = none) : paE s = 3 ∧ paW s = 0 ∧ paH s = 0 ∧ paL s = [] := by
  have e : paO s = none := by unfold paO; rw [if_neg h, hp]
  exact ⟨by unfold paE; rw [if_neg h, hp]; rfl, by unfold paW; rw [e]; rfl, by unfold paH; rw [e]; rfl, by unfold paL; rw [e]; rfl⟩
theorem pa_good {s : ByteArray} {W H : Int} {L : List Int} (h : ¬ 4160 < s.size) (hp : parV (byI s) = some (W, H, L)) : paE s = 0 ∧ paW s = W ∧ paH s = H ∧ paL s = L := by
  have e : paO s = some (W, H, L) := by unfold paO; rw [if_neg h, hp]
  exact ⟨by unfold paE; rw [if_neg h, hp]; rfl, by unfold paW; rw [e]; rfl, by unfold paH; rw [e]; rfl, by unfold paL; rw [e]; rfl⟩
theorem cut_some {r : ByteArray} {k : Nat} (h : nlI (byI r) = some k) : k < r.size ∧ cutF r = true ∧ (cutA r).size = k ∧ byI (cutA r) = (byI r).take k ∧ byI (cutZ r) = (byI r).drop (k + 1) ∧ (cutZ r).size = r.size - (k + 1) := by
  have a := (nlI_some h).1
  rw [byI_len] at a
  have eA : byI (cutA r) = (byI r).take k := by unfold cutA; rw [h]; simp only; rw [byI_ext, List.drop_zero]
  have eZ : byI (cutZ r) = (byI r).drop (k + 1) := by unfold cutZ; rw [h]; simp only; rw [byI_ext, ← byI_len, List.take_length]
  refine ⟨a, by unfold cutF; rw [h]; rfl, ?_, eA, eZ, ?_⟩
  · rw [← byI_len, eA, List.length_take, byI_len]; omega
  · rw [← byI_len, eZ, List.length_drop, byI_len]
theorem take_at {l : List Int} {j k : Nat} (hj : j < k) (hl : j < l.length) : l.take k = l.take j ++ l[j] :: (l.take k).drop (j + 1) := by
  have e := (List.take_append_drop j (l.take k)).symm
  rw [List.take_take, Nat.min_eq_left (by omega)] at e
  have hd : (l.take k).drop j = l[j] :: (l.take k).drop (j + 1) := by
    rw [List.drop_eq_getElem_cons (by rw [List.length_take]; omega), List.getElem_take]
  rw [hd] at e
  exact e
theorem cut_at {r : ByteArray} {k j : Nat} (h : nlI (byI r) = some k) (hj : j < k) (hl : j < (byI r).length) : byteAt (cutA r) j = (byI r)[j] := by
  rw [byI_at, (cut_some h).2.2.2.1, List.getD_eq_getElem?_getD, List.getElem?_take, if_pos hj, List.getElem?_eq_getElem hl, Option.getD_some]
def g101 : Con := idxCon
theorem c101 : COk Try.prog 101 g101 := cok_index fun s c w => by
  rw [run_callFunc_extern Try.func101 (by kernel_rfl) (by kernel_rfl) (by kernel_rfl) (e := Extern.BytealgIndexByte.indexByte) (by kernel_rfl), Lib.run_indexByteString]
  rfl
def x88 : XFn := ⟨8, (.seq (.reg false [K1 4 .mv (iV 0)]) (.seq (.reg false [O1 5 .mv 0, O1 6 .mv 1, O2 7 (.call 101) 5 6, O1 4 .mv 7]) .ret)), [(.s 4)]⟩
theorem x88_ok : xfn Try.prog Try.f88 = some x88.er := by kernel_rfl
def x73 : XFn := ⟨8, (.seq (.reg false [K1 4 .mv (iV 0)]) (.seq (.reg false [O1 5 .mv 0, O1 6 .mv 1, O2 7 (.call 88) 5 6, O1 4 .mv 7]) .ret)), [(.s 4)]⟩
theorem x73_ok : xfn Try.prog Try.f73 = some x73.er := by kernel_rfl
def x100L0 : XC := (.seq (.seq (.reg false [O1 57 .mv 8, O1 58 .mv 9, O2 59 (.bin .lss) 57 58]) (.cond (.t 59) .skip (.exit 1))) (.block 2 (.seq (.seq (.reg false [O1 60 .mv 0, O1 61 .mv 8, O2 62 (.x .sidx) 60 61, O1 63 .mv 6, O2 64 (.bin .neq) 62 63]) (.cond (.t 64) (.seq (.reg false [O1 65 .mv 0, O1 66 .mv 8, K2 67 (.bin .add) 66 (iV 1), O1 68 .mv 9, ⟨(some 69), (.x (.sslc true true)), [(.t 65), (.t 67), (.t 68)], none⟩, O1 70 .mv 6, O2 71 (.call 88) 69 70, O1 11 .mv 71]) (.seq (.seq (.reg false [O1 72 .mv 11, K2 73 (.bin .lss) 72 (iV 0)]) (.cond (.t 73) (.seq (.reg false [K1 4 .mv (iV (-1))]) .ret) .skip)) (.reg false [O1 74 .mv 8, O1 75 .mv 11, K2 76 (.bin .add) 75 (iV 1), O2 77 (.bin .add) 74 76, O1 8 .mv 77]))) .skip)) (.seq (.seq (.reg false [O1 78 .mv 0, O1 79 .mv 8, K2 80 (.bin .add) 79 (iV 1), O2 81 (.x .sidx) 78 80, O1 82 .mv 7, O2 83 (.bin .eql) 81 82, O1 84 .mv 83, G1 85 .mv 0 84 true, G1 86 .mv 8 84 true, G1 87 .mv 8 84 true, G1 88 .mv 5 84 true, G2 89 (.bin .add) 87 88 84 true, ⟨(some 90), (.x (.sslc true true)), [(.t 85), (.t 86), (.t 89)], (some (84, true))⟩, G1 91 .mv 1 84 true, ⟨(some 92), (.x (.sbin .eql)), [(.t 90), (.t 91)], (some (84, true))⟩, ⟨(some 93), .pick, [(.t 84), (.t 92), (.k (.bool false))], none⟩]) (.cond (.t 93) (.seq (.reg false [O1 94 .mv 8, O1 4 .mv 94]) .ret) .skip)) (.seq (.reg false [O1 95 .mv 8, K2 96 (.bin .add) 95 (iV 1), O1 8 .mv 96]) (.seq (.reg false [O1 97 .mv 10, K2 98 (.bin .add) 97 (iV 1), O1 10 .mv 98]) (.seq (.reg false [O1 99 .mv 5, ⟨(some 100), .load1, [(.k (.pointer (some ⟨0, 0, none⟩)))], none⟩, O2 101 (.bin .leq) 99 100, O1 102 .mv 101, G1 103 .mv 10 102 true, G1 104 .mv 8 102 true, G1 105 (.call 109) 104 102 true, G2 106 (.bin .gtr) 103 105 102 true, ⟨(some 107), .pick, [(.t 102), (.t 106), (.k (.bool false))], none⟩]) (.cond (.t 107) (.seq (.reg false [O1 108 .mv 0, O1 109 .mv 8, ⟨(some 110), (.x (.sslc true false)), [(.t 108), (.t 109)], none⟩, O1 111 .mv 1, O2 112 (.call 118) 110 111, O1 12 .mv 112]) (.seq (.seq (.reg false [O1 113 .mv 12, K2 114 (.bin .geq) 113 (iV 0)]) (.cond (.t 114) (.seq (.reg false [O1 115 .mv 12, O1 116 .mv 8, O2 117 (.bin .add) 115 116, O1 4 .mv 117]) .ret) .skip)) (.seq (.reg false [K1 4 .mv (iV (-1))]) .ret))) (.seq (.reg false [O1 118 .mv 5, ⟨(some 119), .load1, [(.k (.pointer (some ⟨0, 0, none⟩)))], none⟩, O2 120 (.bin .gtr) 118 119, O1 121 .mv 120, G1 122 .mv 10 121 true, G1 123 .mv 8 121 true, GK 124 (.bin .shr) 123 (.int .u64 4) 121 true, ⟨(some 125), (.bin .add), [(.k (iV 4)), (.t 124)], (some (121, true))⟩, G2 126 (.bin .geq) 122 125 121 true, ⟨(some 127), .pick, [(.t 121), (.t 126), (.k (.bool false))], none⟩, O1 128 .mv 127, G1 129 .mv 8 128 true, G1 130 .mv 9 128 true, G2 131 (.bin .lss) 129 130 128 true, ⟨(some 132), .pick, [(.t 128), (.t 131), (.k (.bool false))], none⟩]) (.cond (.t 132) (.seq (.reg false [O1 133 .mv 0, O1 134 .mv 8, ⟨(some 135), (.x (.sslc true false)), [(.t 133), (.t 134)], none⟩, O1 136 .mv 1, O2 137 (.call 119) 135 136, O1 13 .mv 137]) (.seq (.seq (.reg false [O1 138 .mv 13, K2 139 (.bin .lss) 138 (iV 0)]) (.cond (.t 139) (.seq (.reg false [K1 4 .mv (iV (-1))]) .ret) .skip)) (.seq (.reg false [O1 140 .mv 8, O1 141 .mv 13, O2 142 (.bin .add) 140 141, O1 4 .mv 142]) .ret))) .skip))))))))))
def x100 : XFn := ⟨143, (.seq (.reg false [K1 4 .mv (iV 0)]) (.seq (.reg false [O1 14 .mv 1, O1 15 (.x .slen) 14, O1 5 .mv 15]) (.seq (.block 0 (.seq (.reg false [O1 17 .mv 5, K2 18 (.bin .eql) 17 (iV 0), O1 19 .mv 18, G1 20 .mv 1 19 false, G1 21 .mv 0 19 false, ⟨(some 22), (.x (.sbin .eql)), [(.t 20), (.t 21)], (some (19, false))⟩, ⟨(some 23), .pick, [(.t 19), (.k (.bool true)), (.t 22)], none⟩, O1 16 .mv 23]) (.cond (.t 16) (.seq (.reg false [K1 4 .mv (iV 0)]) .ret) (.seq (.reg false [O1 25 .mv 5, K2 26 (.bin .eql) 25 (iV 1), O1 24 .mv 26]) (.cond (.t 24) (.seq (.reg false [O1 27 .mv 0, O1 28 .mv 1, K2 29 (.x .sidx) 28 (iV 0), O2 30 (.call 88) 27 29, O1 4 .mv 30]) .ret) (.seq (.reg false [O1 32 .mv 5, O1 33 .mv 0, O1 34 (.x .slen) 33, O2 35 (.bin .geq) 32 34, O1 31 .mv 35]) (.cond (.t 31) (.seq (.reg false [K1 4 .mv (iV (-1))]) .ret) (.seq (.reg false [O1 37 .mv 5, ⟨(some 38), .load1, [(.k (.pointer (some ⟨0, 0, none⟩)))], none⟩, O2 39 (.bin .leq) 37 38, O1 40 .mv 39, G1 41 .mv 0 40 true, G1 42 (.x .slen) 41 40 true, GK 43 (.bin .leq) 42 (iV 64) 40 true, ⟨(some 44), .pick, [(.t 40), (.t 43), (.k (.bool false))], none⟩, O1 36 .mv 44]) (.cond (.t 36) (.seq (.reg false [O1 45 .mv 0, O1 46 .mv 1, O2 47 (.call 118) 45 46, O1 4 .mv 47]) .ret) .skip))))))))) (.seq (.reg false [O1 48 .mv 1, K2 49 (.x .sidx) 48 (iV 0), O1 6 .mv 49]) (.seq (.reg false [O1 50 .mv 1, K2 51 (.x .sidx) 50 (iV 1), O1 7 .mv 51]) (.seq (.reg false [K1 8 .mv (iV 0)]) (.seq (.reg false [O1 52 .mv 0, O1 53 (.x .slen) 52, O1 54 .mv 5, O2 55 (.bin .sub) 53 54, K2 56 (.bin .add) 55 (iV 1), O1 9 .mv 56]) (.seq (.reg false [K1 10 .mv (iV 0)]) (.seq (.block 1 (.loop x100L0)) (.seq (.reg false [K1 4 .mv (iV (-1))]) .ret)))))))))), [(.s 4)]⟩
theorem x100_ok : xfn Try.prog Try.f100 = some x100.er := by kernel_rfl
def x87 : XFn := ⟨23, (.seq (.reg false [⟨(some 4), .mv, [(.k (.string ⟨#[]⟩))], none⟩, ⟨(some 5), .mv, [(.k (.string ⟨#[]⟩))], none⟩, K1 6 .mv (.bool false)]) (.seq (.seq (.reg false [O1 8 .mv 0, O1 9 .mv 1, O2 10 (.call 100) 8 9, O1 7 .mv 10]) (.seq (.reg false [O1 11 .mv 7, K2 12 (.bin .geq) 11 (iV 0)]) (.cond (.t 12) (.seq (.reg true [O1 13 .mv 0, O1 14 .mv 7, ⟨(some 15), (.x (.sslc false true)), [(.t 13), (.t 14)], none⟩, O1 16 .mv 0, O1 17 .mv 7, O1 18 .mv 1, O1 19 (.x .slen) 18, O2 20 (.bin .add) 17 19, ⟨(some 21), (.x (.sslc true false)), [(.t 16), (.t 20)], none⟩, O1 4 .mv 15, O1 5 .mv 21, K1 6 .mv (.bool true)]) .ret) .skip))) (.seq (.reg false [O1 22 .mv 0, O1 4 .mv 22, ⟨(some 5), .mv, [(.k (.string ⟨#[]⟩))], none⟩, K1 6 .mv (.bool false)]) .ret))), [(.s 4), (.s 5), (.s 6)]⟩
theorem x87_ok : xfn Try.prog Try.f87 = some x87.er := by kernel_rfl
def x72 : XFn := ⟨13, (.seq (.reg false [⟨(some 4), .mv, [(.k (.string ⟨#[]⟩))], none⟩, ⟨(some 5), .mv, [(.k (.string ⟨#[]⟩))], none⟩, K1 6 .mv (.bool false)]) (.seq (.reg false [O1 7 .mv 0, O1 8 .mv 1, O2 9 (.call 87) 7 8, O1 10 (.ext 0) 9, O1 11 (.ext 1) 9, O1 12 (.ext 2) 9, O1 4 .mv 10, O1 5 .mv 11, O1 6 .mv 12]) .ret)), [(.s 4), (.s 5), (.s 6)]⟩
theorem x72_ok : xfn Try.prog Try.f72 = some x72.er := by kernel_rfl
def x40L0 : XC := (.seq (.reg false [O2 48 (.bin .lss) 47 46]) (.seq (.cond (.t 48) .skip (.exit 2)) (.seq (.block 3 (.seq (.reg false [O1 49 .mv 47, O1 8 .mv 49]) (.seq (.reg false [O1 50 .mv 5, O1 51 .mv 8, O2 52 (.x .sidx) 50 51, ⟨(some 53), (.call 73), [(.k (.string ⟨#[63, 46, 35]⟩)), (.t 52)], none⟩, O1 9 .mv 53]) (.seq (.seq (.reg false [O1 54 .mv 9, K2 55 (.bin .lss) 54 (iV 0)]) (.cond (.t 55) (.seq (.reg false [⟨(some 56), (.build [(iV 0), (iV 0), (.slice none 0 0)] []), [], none⟩, ⟨none, (.store 3), [(.t 2), (.t 56)], none⟩, K1 3 .mv (iV 3)]) .ret) .skip)) (.reg false [O1 57 (.fld 2) 4, O1 58 .load1 57, O1 59 .mv 9, O1 60 (.conv .u8) 59, ⟨(some 61), (.slit 5 1 1 [(.int .u8 0)] [(0, 1)]), [(.t 60)], none⟩, O2 62 (.app 5 1 1) 58 61, O1 63 (.fld 2) 4, ⟨none, (.store 1), [(.t 63), (.t 62)], none⟩]))))) (.reg false [K2 64 (.bin .add) 47 (iV 1), O1 47 .mv 64]))))
def x40L1 : XC := (.seq (.seq (.reg false [O1 14 .mv 0, ⟨(some 15), (.x (.sbin .neq)), [(.t 14), (.k (.string ⟨#[]⟩))], none⟩]) (.cond (.t 15) .skip (.exit 0))) (.block 1 (.seq (.reg false [O1 17 .mv 0, ⟨(some 18), (.call 72), [(.t 17), (.k (.string ⟨#[10]⟩))], none⟩, O1 16 .mv 18, O1 19 (.ext 0) 16, O1 20 (.ext 1) 16, O1 21 (.ext 2) 16, O1 5 .mv 19, O1 6 .mv 20, O1 7 .mv 21]) (.seq (.seq (.reg false [O1 22 .mv 7, O1 23 (.un .not) 22, O1 24 .mv 23, G1 25 (.fld 1) 4 24 false, G1 26 .load1 25 24 false, GK 27 (.bin .gtr) 26 (iV 0) 24 false, G1 28 .mv 27 24 false, G1 29 .mv 5 28 true, G1 30 (.x .slen) 29 28 true, G1 31 (.fld 0) 4 28 true, G1 32 .load1 31 28 true, G2 33 (.bin .neq) 30 32 28 true, ⟨(some 34), .pick, [(.t 28), (.t 33), (.k (.bool false))], (some (24, false))⟩, ⟨(some 35), .pick, [(.t 24), (.k (.bool true)), (.t 34)], none⟩]) (.cond (.t 35) (.seq (.reg false [⟨(some 36), (.build [(iV 0), (iV 0), (.slice none 0 0)] []), [], none⟩, ⟨none, (.store 3), [(.t 2), (.t 36)], none⟩, K1 3 .mv (iV 3)]) .ret) .skip)) (.seq (.reg false [O1 37 .mv 5, O1 38 (.x .slen) 37, O1 39 .mv 6, O1 40 (.fld 0) 4, ⟨none, (.store 1), [(.t 40), (.t 38)], none⟩, O1 0 .mv 39]) (.seq (.reg false [O1 41 (.fld 1) 4, O1 42 .load1 41, K2 43 (.bin .add) 42 (iV 1), O1 44 (.fld 1) 4, ⟨none, (.store 1), [(.t 44), (.t 43)], none⟩]) (.seq (.reg false [O1 45 .mv 5, O1 46 (.x .slen) 45, K1 47 .mv (iV 0)]) (.block 2 (.loop x40L0)))))))))
def x40 : XFn := ⟨77, (.seq (.reg false [⟨(some 2), (.alloc 46 [(iV 0), (iV 0), (.slice none 0 0)]), [], none⟩, K1 3 .mv (iV 0)]) (.seq (.seq (.reg false [O1 10 .mv 0, O1 11 (.x .slen) 10, K2 12 (.bin .gtr) 11 (iV 4160)]) (.cond (.t 12) (.seq (.reg false [⟨(some 13), (.build [(iV 0), (iV 0), (.slice none 0 0)] []), [], none⟩, ⟨none, (.store 3), [(.t 2), (.t 13)], none⟩, K1 3 .mv (iV 6)]) .ret) .skip)) (.seq (.reg false [⟨(some 4), (.alloc 46 [(iV 0), (iV 0), (.slice none 0 0)]), [], none⟩]) (.seq (.block 0 (.loop x40L1)) (.seq (.seq (.reg false [O1 65 (.fld 0) 4, O1 66 .load1 65, O1 67 (.call 74) 66, O1 68 (.un .not) 67, O1 69 .mv 68, G1 70 (.fld 1) 4 69 false, G1 71 .load1 70 69 false, G1 72 (.call 74) 71 69 false, G1 73 (.un .not) 72 69 false, ⟨(some 74), .pick, [(.t 69), (.k (.bool true)), (.t 73)], none⟩]) (.cond (.t 74) (.seq (.reg false [⟨(some 75), (.build [(iV 0), (iV 0), (.slice none 0 0)] []), [], none⟩, ⟨none, (.store 3), [(.t 2), (.t 75)], none⟩, K1 3 .mv (iV 3)]) .ret) .skip)) (.seq (.reg false [O1 76 (.loadN 3) 4, ⟨none, (.store 3), [(.t 2), (.t 76)], none⟩, K1 3 .mv (iV 0)]) .ret)))))), [(.bn 2 3), (.s 3)]⟩
theorem x40_ok : xfn Try.prog Try.f40 = some x40.er := by kernel_rfl
/-- internal/stringslite.IndexByte -/
def g88 : Con := fun args_ E_ nn_ => match args_ with
  | [.c (.v (.string s)), .c (.v (.int .u8 c))] => some (.q (True) (.o (.c (.v (.int .i64 (idxS s c))))))
  | _ => none
theorem c88 : COk Try.prog 88 g88 := by
  refine cok_q Try.func88 x88_ok (by kernel_rfl) (cok_tab (cok_cons c101 cok_nil)) ?_
  intro args_ E_ nn_ cr_ hg_
  unfold g88 at hg_
  split at hg_
  · rename_i s c
    cases hg_
    refine ⟨_, _, rfl, 0, [], [.c (.v (.string s)), .c (.v (.int .u8 c))], [], .o (.c (.v (.int .i64 (idxS s c)))), rfl, rfl, by simp only [push_cast, Nat.reduceLT, Nat.reduceAdd], by simp only [push_cast, Nat.reduceLT, Nat.reduceAdd], by simp only [push_cast, Nat.reduceLT, Nat.reduceAdd], rfl, trivial, rfl, ?_⟩
    intro hpre hlen
    refine ⟨trivial, ?_⟩
    simp (config := {maxSteps := 10000000}) only [x88, push_cast, Nat.reduceAdd, Nat.reduceSub, Nat.reduceLeDiff, Nat.reduceEqDiff, Nat.reduceBEq, Nat.reduceMul, Nat.reduceLT, reduceIte, reduceCtorEq, Int.reduceLE, Int.reduceLT, Int.reduceEq, Int.reduceMul, Int.reduceAdd, Int.reduceSub, Int.reduceNeg, Int.reduceToNat, Int.reduceNe, g101]
  · cases hg_
/-- strings.IndexByte -/
def g73 : Con := fun args_ E_ nn_ => match args_ with
  | [.c (.v (.string s)), .c (.v (.int .u8 c))] => some (.q (True) (.o (.c (.v (.int .i64 (idxS s c))))))
  | _ => none
theorem c73 : COk Try.prog 73 g73 := by
  refine cok_q Try.func73 x73_ok (by kernel_rfl) (cok_tab (cok_cons c88 cok_nil)) ?_
  intro args_ E_ nn_ cr_ hg_
  unfold g73 at hg_
  split at hg_
  · rename_i s c
    cases hg_
    refine ⟨_, _, rfl, 0, [], [.c (.v (.string s)), .c (.v (.int .u8 c))], [], .o (.c (.v (.int .i64 (idxS s c)))), rfl, rfl, by simp only [push_cast, Nat.reduceLT, Nat.reduceAdd], by simp only [push_cast, Nat.reduceLT, Nat.reduceAdd], by simp only [push_cast, Nat.reduceLT, Nat.reduceAdd], rfl, trivial, rfl, ?_⟩
    intro hpre hlen
    refine ⟨trivial, ?_⟩
    simp (config := {maxSteps := 10000000}) only [x73, push_cast, Nat.reduceAdd, Nat.reduceSub, Nat.reduceLeDiff, Nat.reduceEqDiff, Nat.reduceBEq, Nat.reduceMul, Nat.reduceLT, reduceIte, reduceCtorEq, Int.reduceLE, Int.reduceLT, Int.reduceEq, Int.reduceMul, Int.reduceAdd, Int.reduceSub, Int.reduceNeg, Int.reduceToNat, Int.reduceNe, g88]
  · cases hg_
/-- internal/stringslite.Index -/
def g100 : Con := fun args_ E_ nn_ => match args_ with
  | [.c (.v (.string s)), .c (.v (.string substr))] => some (.q (substr = ⟨#[10]⟩) (.o (.c (.v (.int .i64 (idxS s 10))))))
  | _ => none
theorem c100 : COk Try.prog 100 g100 := by
  refine cok_q Try.func100 x100_ok (by kernel_rfl) (cok_tab (cok_cons c88 cok_nil)) ?_
  intro args_ E_ nn_ cr_ hg_
  unfold g100 at hg_
  split at hg_
  · rename_i s substr
    cases hg_
    refine ⟨_, _, rfl, 0, [], [.c (.v (.string s)), .c (.v (.string substr))], [], .o (.c (.v (.int .i64 (idxS s 10)))), rfl, rfl, by simp only [push_cast, Nat.reduceLT, Nat.reduceAdd], by simp only [push_cast, Nat.reduceLT, Nat.reduceAdd], by simp only [push_cast, Nat.reduceLT, Nat.reduceAdd], rfl, trivial, rfl, ?_⟩
    intro hpre hlen
    refine ⟨trivial, ?_⟩
    subst hpre
    simp (config := {maxSteps := 10000000}) only [x100, push_cast, Nat.reduceAdd, Nat.reduceSub, Nat.reduceLeDiff, Nat.reduceEqDiff, Nat.reduceBEq, Nat.reduceMul, Nat.reduceLT, reduceIte, reduceCtorEq, Int.reduceLE, Int.reduceLT, Int.reduceEq, Int.reduceMul, Int.reduceAdd, Int.reduceSub, Int.reduceNeg, Int.reduceToNat, Int.reduceNe, g88, nl_size, nl_byte, nl_n]
    intro e; rw [← e]; rfl
  · cases hg_
/-- internal/stringslite.Cut -/
def g87 : Con := fun args_ E_ nn_ => match args_ with
  | [.c (.v (.string s)), .c (.v (.string sep))] => some (.q (s.size ≤ 1000000 ∧ sep = ⟨#[10]⟩) (.t [.c (.v (.string (cutA s))), .c (.v (.string (cutZ s))), .c (.v (.bool (cutF s)))]))
  | _ => none
theorem c87 : COk Try.prog 87 g87 := by
  refine cok_q Try.func87 x87_ok (by kernel_rfl) (cok_tab (cok_cons c100 cok_nil)) ?_
  intro args_ E_ nn_ cr_ hg_
  unfold g87 at hg_
  split at hg_
  · rename_i s sep
    cases hg_
    refine ⟨_, _, rfl, 0, [], [.c (.v (.string s)), .c (.v (.string sep))], [], .t [.c (.v (.string (cutA s))), .c (.v (.string (cutZ s))), .c (.v (.bool (cutF s)))], rfl, rfl, by simp only [push_cast, Nat.reduceLT, Nat.reduceAdd], by simp only [push_cast, Nat.reduceLT, Nat.reduceAdd], by simp only [push_cast, Nat.reduceLT, Nat.reduceAdd], rfl, trivial, rfl, ?_⟩
    intro hpre hlen
    refine ⟨trivial, ?_⟩
    obtain ⟨hs, rfl⟩ := hpre
    simp (config := {maxSteps := 10000000}) only [x87, push_cast, Nat.reduceAdd, Nat.reduceSub, Nat.reduceLeDiff, Nat.reduceEqDiff, Nat.reduceBEq, Nat.reduceMul, Nat.reduceLT, reduceIte, reduceCtorEq, Int.reduceLE, Int.reduceLT, Int.reduceEq, Int.reduceMul, Int.reduceAdd, Int.reduceSub, Int.reduceNeg, Int.reduceToNat, Int.reduceNe, g100, nl_size, nl_byte, nl_n]
    have e := idx10 s
    cases hn : nlI (byI s) with
    | none =>
      rw [hn] at e; simp only at e
      rw [e]
      refine ⟨fun h => absurd h (by decide), fun _ => ?_⟩
      unfold cutA cutZ cutF; rw [hn]; exact ⟨rfl, rfl, rfl⟩
    | some i =>
      rw [hn] at e; simp only at e
      have a := (cut_some hn).1
      rw [e, wrapI (n := (i : Int) + 1) (by omega) (by omega)]
      refine ⟨fun _ => ⟨by omega, by omega, ?_, ?_, ?_⟩, fun h => absurd h (by omega)⟩
      · unfold cutA; rw [hn]; rfl
      · unfold cutZ; rw [hn]; rfl
      · unfold cutF; rw [hn]; rfl
  · cases hg_
/-- strings.Cut -/
def g72 : Con := fun args_ E_ nn_ => match args_ with
  | [.c (.v (.string s)), .c (.v (.string sep))] => some (.q (s.size ≤ 1000000 ∧ sep = ⟨#[10]⟩) (.t [.c (.v (.string (cutA s))), .c (.v (.string (cutZ s))), .c (.v (.bool (cutF s)))]))
  | _ => none
theorem c72 : COk Try.prog 72 g72 := by
  refine cok_q Try.func72 x72_ok (by kernel_rfl) (cok_tab (cok_cons c87 cok_nil)) ?_
  intro args_ E_ nn_ cr_ hg_
  unfold g72 at hg_
  split at hg_
  · rename_i s sep
    cases hg_
    refine ⟨_, _, rfl, 0, [], [.c (.v (.string s)), .c (.v (.string sep))], [], .t [.c (.v (.string (cutA s))), .c (.v (.string (cutZ s))), .c (.v (.bool (cutF s)))], rfl, rfl, by simp only [push_cast, Nat.reduceLT, Nat.reduceAdd], by simp only [push_cast, Nat.reduceLT, Nat.reduceAdd], by simp only [push_cast, Nat.reduceLT, Nat.reduceAdd], rfl, trivial, rfl, ?_⟩
    intro hpre hlen
    refine ⟨trivial, ?_⟩
    simp (config := {maxSteps := 10000000}) only [x72, push_cast, Nat.reduceAdd, Nat.reduceSub, Nat.reduceLeDiff, Nat.reduceEqDiff, Nat.reduceBEq, Nat.reduceMul, Nat.reduceLT, reduceIte, reduceCtorEq, Int.reduceLE, Int.reduceLT, Int.reduceEq, Int.reduceMul, Int.reduceAdd, Int.reduceSub, Int.reduceNeg, Int.reduceToNat, Int.reduceNe, g87]
    exact hpre
  · cases hg_
/-- wayfinder/plan.Parse -/
def g40 : Con := fun args_ E_ nn_ => match args_ with
  | [.c (.v (.string s))] => some (.e (True) (.t [.a [.v (.int .i64 (paW s)), .v (.int .i64 (paH s)), .n (nn_ + 0)], .c (.v (.int .i64 (paE s)))]) [((nn_ + 0), .own (paL s).length 1 (rowF eU8 (paL s)) 5)] (nn_ + 1))
  | _ => none
theorem c40 : COk Try.prog 40 g40 := by
  refine cok_e Try.func40 x40_ok (by kernel_rfl) (cok_tab (cok_cons c72 (cok_cons c73 (cok_cons c74 cok_nil)))) ?_
  intro args_ E_ nn_ cr_ hg_
  unfold g40 at hg_
  split at hg_
  · rename_i s
    cases hg_
    refine ⟨_, _, _, _, rfl, 0, [], [.c (.v (.string s))], [], .t [.a [.v (.int .i64 (paW s)), .v (.int .i64 (paH s)), .n 0], .c (.v (.int .i64 (paE s)))], [(0, .own (paL s).length 1 (rowF eU8 (paL s)) 5)], 1, rfl, rfl, by simp only [renE, Ent.ren, rowF_renf] <;> rfl, rfl, by decide, by simp only [push_cast, Nat.reduceLT, Nat.reduceAdd], by simp only [push_cast, Nat.reduceLT, Nat.reduceAdd], by simp only [push_cast, Nat.reduceLT, Nat.reduceAdd], by simp only [push_cast, Nat.reduceLT, Nat.reduceAdd], rfl, trivial, by simp only [keysNodup, outN, keys] <;> decide, rfl, rfl, ?_⟩
    intro hpre hlen
    refine ⟨trivial, by simp only [apartE] <;> (first | trivial | (simp [Ent.mut]; done)), ?_⟩
    simp (config := {maxSteps := 10000000}) only [x40, push_cast, Nat.reduceAdd, Nat.reduceSub, Nat.reduceLeDiff, Nat.reduceEqDiff, Nat.reduceBEq, Nat.reduceMul, Nat.reduceLT, reduceIte, reduceCtorEq, Int.reduceLE, Int.reduceLT, Int.reduceEq, Int.reduceMul, Int.reduceAdd, Int.reduceSub, Int.reduceNeg, Int.reduceToNat, Int.reduceNe, g72, g73, g74]
    refine ⟨fun h => ?_, fun h => ?_⟩
    · have z := pa_full (s := s) (by omega)
      exact ⟨⟨⟨z.2.1.symm, z.2.2.1.symm⟩, z.1.symm⟩, by rw [z.2.2.2]; rfl⟩
    refine vcLoop_upd (α := {t : ByteArray × Int × Int × List Int // parS (byI t.1) t.2.1 t.2.2.1 t.2.2.2 = parV (byI s) ∧ 0 ≤ t.2.2.1 ∧ t.2.2.1 + t.1.size ≤ 4160 ∧ t.2.2.2.length + t.1.size ≤ 4160}) [2, 4] 1 (fun s => [(0, .o (.c (.v (.string (s.1.1)))))]) (fun s => [(1, .box [.v (.int .i64 s.1.2.1), .v (.int .i64 s.1.2.2.1), .n 2] 46), (2, .own (s.1.2.2.2).length 1 (rowF eU8 (s.1.2.2.2)) 5)]) (fun s => s.1.1.size) ⟨(s, 0, 0, []), rfl, by simp only; omega, by simp only; omega, by simp only [List.length_nil]; omega⟩ ?_ ?_
    · simp only [push_cast, Nat.reduceAdd, Nat.reduceSub, Nat.reduceLeDiff, Nat.reduceEqDiff, Nat.reduceBEq, Nat.reduceMul, Nat.reduceLT, reduceIte, reduceCtorEq, Int.reduceLE, Int.reduceLT, Int.reduceEq, Int.reduceMul, Int.reduceAdd, Int.reduceSub, Int.reduceNeg, Int.reduceToNat, Int.reduceNe, g72, g73, g74]
    rintro ⟨⟨r, W, H, Cs⟩, z1, z2, z3, z4⟩
    simp only at z1 z2 z3 z4
    simp only [x40L1, push_cast, Nat.reduceAdd, Nat.reduceSub, Nat.reduceLeDiff, Nat.reduceEqDiff, Nat.reduceBEq, Nat.reduceMul, Nat.reduceLT, reduceIte, reduceCtorEq, Int.reduceLE, Int.reduceLT, Int.reduceEq, Int.reduceMul, Int.reduceAdd, Int.reduceSub, Int.reduceNeg, Int.reduceToNat, Int.reduceNe, g72, g73, g74]
    refine ⟨fun hr => ⟨by omega, ?_⟩, fun hr => ?_⟩
    · have hne : byI r ≠ [] := fun q => hr ((byI_nil r).2 q)
      have bad : parV (byI s) = none → ((0 = paW s ∧ 0 = paH s) ∧ 3 = paE s) ∧ (paL s).length = 0 := fun q => by
        have z := pa_bad (s := s) (by omega) q
        exact ⟨⟨⟨z.2.1.symm, z.2.2.1.symm⟩, z.1.symm⟩, by rw [z.2.2.2]; rfl⟩
      cases hn : nlI (byI r) with
      | none =>
        have hF : cutF r = false := by unfold cutF; rw [hn]; rfl
        rw [parS_cut hne hn] at z1
        exact ⟨fun c => (by rw [hF] at c; cases c), fun _ => bad z1.symm, fun c => (by rw [hF] at c; cases c)⟩
      | some k =>
        obtain ⟨a1, a2, a3, a4, a5, a6⟩ := cut_some hn
        refine ⟨fun c => ⟨c, fun hH => ⟨c, hH⟩⟩, fun q => bad ?_, fun _ hk => ?_⟩
        · rcases q with q | q
          · rw [a2] at q; cases q
          · rw [← z1]; exact parS_wide hn (by rw [a3] at q; exact q)
        rw [a3]
        refine vcLoop_upd (α := {j : Nat × List Int // j.1 ≤ k ∧ keysL ((byI r).take j.1) = some j.2}) [0, 2, 4, 5, 46] 0 (fun s => [(47, .o (.c (.v (.int .i64 (s.1.1 : Nat)))))]) (fun s => [(1, .box [.v (.int .i64 ((k : Nat) : Int)), .v (.int .i64 (H + 1)), .n 2] 46), (2, .own (Cs ++ s.1.2).length 1 (rowF eU8 (Cs ++ s.1.2)) 5)]) (fun s => k - s.1.1) ⟨(0, []), Nat.zero_le _, rfl⟩ ?_ ?_
        · simp only [push_cast, Nat.reduceAdd, Nat.reduceSub, Nat.reduceLeDiff, Nat.reduceEqDiff, Nat.reduceBEq, Nat.reduceMul, Nat.reduceLT, reduceIte, reduceCtorEq, Int.reduceLE, Int.reduceLT, Int.reduceEq, Int.reduceMul, Int.reduceAdd, Int.reduceSub, Int.reduceNeg, Int.reduceToNat, Int.reduceNe, g72, g73, g74]
          exact wrapI (by omega) (by omega)
        rintro ⟨⟨j, ks⟩, y1, y2⟩
        simp only at y1 y2
        simp only [x40L0, push_cast, Nat.reduceAdd, Nat.reduceSub, Nat.reduceLeDiff, Nat.reduceEqDiff, Nat.reduceBEq, Nat.reduceMul, Nat.reduceLT, reduceIte, reduceCtorEq, Int.reduceLE, Int.reduceLT, Int.reduceEq, Int.reduceMul, Int.reduceAdd, Int.reduceSub, Int.reduceNeg, Int.reduceToNat, Int.reduceNe, g72, g73, g74]
        have hlen := byI_len r
        refine ⟨fun hj => ⟨by omega, ?_⟩, fun hj => ?_⟩
        · have hjl : j < (byI r).length := by omega
          have hb := byI_u8 r _ (List.getElem_mem hjl)
          have ht := take_at hj hjl
          have hkl : ks.length ≤ j := by have := keys_len y2; rw [List.length_take] at this; omega
          rw [cut_at hn hj hjl, key_idx hb]
          cases hky : keyI (byI r)[j] with
          | none =>
            refine ⟨fun _ => bad ?_, fun q => absurd q (by simp)⟩
            rw [← z1]
            exact parS_bad hn (by rw [ht]; exact keys_none _ hky)
          | some kv =>
            have hkb := (sg_key hky).2
            simp only
            refine ⟨fun q => absurd q (by omega), fun _ => ⟨by rw [List.length_append]; omega, ⟨(j + 1, ks ++ [kv]), by simp only; omega, ?_⟩, ⟨wrapI (by omega) (by omega), ?_⟩, by simp only; omega⟩⟩
            · simp only
              rw [List.take_add_one, List.getElem?_eq_getElem hjl, Option.toList_some, keys_snoc y2, hky]; rfl
            · rw [wrapU8 (by omega) (by omega)]
              exact push_eq (E := eU8) (x := kv) (by simp)
        · obtain rfl : j = k := by omega
          have hkl : ks.length = j := by have := keys_len y2; rw [List.length_take] at this; omega
          have hw : ¬ (0 < H ∧ (j : Int) ≠ W) := by
            rintro ⟨q1, q2⟩
            rw [a3, decide_eq_true q1, bne_iff_ne.2 q2] at hk
            cases hk
          refine ⟨⟨(cutZ r, (j : Int), H + 1, Cs ++ ks), ?_, by simp only; omega, by simp only; omega, by simp only; rw [List.length_append]; omega⟩, ⟨rfl, ⟨rfl, rfl⟩, same_eq rfl⟩, by simp only; omega⟩
          simp only
          rw [a5, ← z1, parS_go hn hw y2]
    · rw [(byI_nil r).1 hr, parS_nil] at z1
      refine ⟨fun q => ?_, fun q1 q2 => ?_⟩
      · rw [if_neg (by unfold sizeB at q; rw [decide_eq_false_iff_not, decide_eq_false_iff_not] at q; omega)] at z1
        have z := pa_bad (s := s) (by omega) z1.symm
        exact ⟨⟨⟨z.2.1.symm, z.2.2.1.symm⟩, z.1.symm⟩, by rw [z.2.2.2]; rfl⟩
      · unfold sizeB at q1 q2
        rw [decide_eq_true_eq] at q1 q2
        rw [if_pos ⟨q1, q2⟩] at z1
        have z := pa_good (s := s) (by omega) z1.symm
        exact ⟨⟨⟨z.2.1.symm, z.2.2.1.symm⟩, z.1.symm⟩, same_eq z.2.2.2⟩
  · cases hg_
end Go.Proofs.Ytbjgaejmkhjbaaa
set_option linter.unusedVariables false
set_option linter.unusedSimpArgs false
set_option maxRecDepth 20000
namespace Go.Proofs.Ytbjgaejmkhjbaaa
open Go.Sx
def cntV (W H : Int) (L : List Int) (v : Int) : Int := if planB W H L = true then cnt8 L v else 0
def cntK (L : List Int) (v : Int) (k : Nat) : Nat := ((L.take k).filter fun x => x == v).length
theorem cntK_succ {L : List Int} {v : Int} {k : Nat} (hk : k < L.length) : cntK L v (k + 1) = if L.getD k eU8.dflt = v then cntK L v k + 1 else cntK L v k := by
  have hg : L.getD k eU8.dflt = L[k] := by rw [List.getD_eq_getElem?_getD, List.getElem?_eq_getElem hk, Option.getD_some]
  unfold cntK
  rw [List.take_add_one, List.getElem?_eq_getElem hk, Option.toList_some, List.filter_append, hg]
  by_cases h : L[k] = v
  · simp [h]
  · simp [h]
theorem cntK_le (L : List Int) (v : Int) (k : Nat) : cntK L v k ≤ k := by
  unfold cntK
  exact Nat.le_trans (List.length_filter_le _ _) (by rw [List.length_take]; omega)
theorem cnt8_count {L : List Int} {v : Int} (hu : u8s L) (hv : 0 ≤ v ∧ v ≤ 255) : cnt8 L v = (cntK L v L.length : Nat) := by
  have e : cnt8 L v = ((L.map fun x => UInt8.ofNat x.toNat).count v.toNat.toUInt8 : Nat) := rfl
  rw [e]
  unfold cntK
  rw [List.take_length]
  congr 1
  induction L with
  | nil => rfl
  | cons x L ih =>
    have hx := hu x List.mem_cons_self
    have ih := ih (fun y hy => hu y (List.mem_cons_of_mem _ hy)) rfl
    rw [List.map_cons, List.count_cons, List.filter_cons, ih]
    have hiff : (UInt8.ofNat x.toNat == v.toNat.toUInt8) = (x == v) := by
      rw [Bool.eq_iff_iff, beq_iff_eq, beq_iff_eq]
      constructor
      · intro h
        have := congrArg UInt8.toNat h
        simp at this
        omega
      · intro h; rw [h]
    rw [hiff]
    by_cases h : x = v
    · simp [h]
    · simp [h]
theorem textR {W H : Int} {L : List Int} (h : planB W H L = true) : textB W H L = strB (txK W L L.length) := if_pos h
theorem take_snoc {l : List Int} {k : Nat} (h : k < l.length) : l.take (k + 1) = l.take k ++ [l[k]] := by
  rw [List.take_add_one, List.getElem?_eq_getElem h]; rfl
theorem byte_at {s : ByteArray} {k : Nat} (h : k < (byI s).length) : byteAt s k = (byI s)[k] := by
  rw [byI_at, List.getD_eq_getElem?_getD, List.getElem?_eq_getElem h, Option.getD_some]
theorem rfH_le (l : List Int) : rfH l ≤ l.length := List.length_filter_le _ _
theorem rfC_le (l : List Int) : (rfC l).length ≤ l.length := by unfold rfC; rw [List.length_map]; exact List.length_filter_le _ _
/-- What the specification gives back. -/
theorem rf_pa {s : ByteArray} (h : ¬ 4160 < s.size) :
    ((byI s = [] ∨ ¬ textB (rfW (byI s)) (rfH (byI s)) (rfC (byI s)) = s) → paE s = 3 ∧ paW s = 0 ∧ paH s = 0 ∧ paL s = []) ∧
    (byI s ≠ [] → textB (rfW (byI s)) (rfH (byI s)) (rfC (byI s)) = s → paE s = 0 ∧ paW s = rfW (byI s) ∧ paH s = rfH (byI s) ∧ paL s = rfC (byI s)) := by
  have e := rf_par (byI_u8 s)
  rw [strB_byI] at e
  constructor
  · intro q
    rw [if_neg (fun w => by rcases q with q | q; exact w.1 q; exact q w.2)] at e
    exact pa_bad h e.symm
  · intro q1 q2
    rw [if_pos ⟨q1, q2⟩] at e
    exact pa_good h e.symm
theorem pa_u8 (s : ByteArray) : u8s (paL s) := by
  unfold paL paO
  split
  · intro x hx; cases hx
  · cases h : parV (byI s) with
    | none => intro x hx; cases hx
    | some t => obtain ⟨W, H, L⟩ := t; exact (par_sound h).2.1
theorem pa_text {s : ByteArray} (h : paE s = 0) : textB (paW s) (paH s) (paL s) = s := by
  unfold paE at h
  split at h
  · cases h
  · rename_i hs
    split at h
    · rename_i hp
      cases hv : parV (byI s) with
      | none => rw [hv] at hp; cases hp
      | some t =>
        obtain ⟨W, H, L⟩ := t
        have z := pa_good hs hv
        obtain ⟨s1, s2, s3⟩ := par_sound hv
        rw [z.2.1, z.2.2.1, z.2.2.2]
        unfold textB
        rw [if_pos s1, tx_plan s1 s2, s3, strB_byI]
    · cases h
theorem byI_strB {l : List Int} (h : u8s l) : byI (strB l) = l := (strB_inj (byI_u8 _) h).1 (strB_byI _)
theorem rowsT_len (w : Nat) : ∀ (h : Nat) (L : List Int), L.length = w * h → (rowsT w h L).length = (w + 1) * h
  | 0, _, _ => rfl
  | h + 1, L, hl => by
    have ih := rowsT_len w h (L.drop w) (by rw [List.length_drop, hl, Nat.mul_succ]; omega)
    simp only [rowsT, List.length_append, List.length_map, List.length_take, List.length_cons, ih]
    rw [Nat.mul_succ] at hl ⊢
    omega
theorem tx_len {W H : Int} {L : List Int} (hp : planB W H L = true) (hu : u8s L) : ¬ 4160 < (textB W H L).size := by
  have a := planB_at hp
  have hl : L.length = W.toNat * H.toNat := by
    have : ((W.toNat * H.toNat : Nat) : Int) = W * H := by rw [Int.natCast_mul, Int.toNat_of_nonneg (by omega), Int.toNat_of_nonneg (by omega)]
    omega
  have e : (textB W H L).size = (W.toNat + 1) * H.toNat := by
    unfold textB
    rw [if_pos hp, ← byI_len, byI_strB (l := txL W L) (txK_u8 _ _ _), tx_plan hp hu, rowsT_len _ _ _ hl]
  have := Nat.mul_le_mul (show W.toNat + 1 ≤ 65 by omega) (show H.toNat ≤ 64 by omega)
  omega
theorem pa_of_text {W H : Int} {L : List Int} (hp : planB W H L = true) (hu : u8s L) : paE (textB W H L) = 0 ∧ paW (textB W H L) = W ∧ paH (textB W H L) = H ∧ paL (textB W H L) = L := by
  refine pa_good (tx_len hp hu) ?_
  have e : byI (textB W H L) = rowsT W.toNat H.toNat L := by
    unfold textB
    rw [if_pos hp, byI_strB (l := txL W L) (txK_u8 _ _ _), tx_plan hp hu]
  rw [e, par_plan hp hu]
theorem pa_of_no {W H : Int} {L : List Int} (hp : planB W H L = false) : paE (textB W H L) = 3 := by
  have e : textB W H L = ⟨#[]⟩ := by unfold textB; rw [hp]; rfl
  rw [e]
  exact (pa_bad (by decide) (by rfl)).1
theorem push2_eq {L L' : List Int} {x y : Int} {b : Bnd} (h : L' = L ++ [x, y]) : L.length + 1 + 1 = L'.length ∧ rowEq (L.length + 1 + 1) 1 (catF (L.length + 1) (catF L.length (rowF eU8 L) (litF [.v (.int .u8 x)] 1)) (litF [.v (.int .u8 y)] 1)) (rowF eU8 L') (SC.sub b) := by
  subst h
  have p1 := (push_eq (E := eU8) (L := L) (x := x) (sz := 1) (b := b) (L' := L ++ [x]) rfl).2
  have p2 := (push_eq (E := eU8) (L := L ++ [x]) (x := y) (sz := 1) (b := b) (L' := L ++ [x] ++ [y]) rfl).2
  refine ⟨by simp, ?_⟩
  intro e j he hj
  rw [show L ++ [x, y] = L ++ [x] ++ [y] by simp]
  have hl : (L ++ [x]).length = L.length + 1 := by simp
  rw [hl] at p2
  have q2 := p2 e j he hj
  rw [← q2]
  unfold catF
  by_cases h1 : e < L.length + 1
  · rw [if_pos h1, if_pos h1]
    have q1 := p1 e j h1 hj
    rw [rowF_sub] at q1
    exact q1
  · rw [if_neg h1, if_neg h1]; rfl
def g93 : Con := cntCon
theorem c93 : COk Try.prog 93 g93 := cok_count fun args w => run_callFunc_extern Try.func93 (by kernel_rfl) (by kernel_rfl) (by kernel_rfl) (e := Extern.BytealgCount.count) (by kernel_rfl) args w
def x80L0 : XC := (.block 1 (.seq (.reg false [O1 21 .mv 0, O1 22 .mv 1, O2 23 (.call 94) 21 22, O1 6 .mv 23]) (.seq (.seq (.reg false [O1 24 .mv 6, K2 25 (.bin .eql) 24 (iV (-1))]) (.cond (.t 25) (.seq (.reg false [O1 26 .mv 5, O1 4 .mv 26]) .ret) .skip)) (.seq (.reg false [O1 27 .mv 5, K2 28 (.bin .add) 27 (iV 1), O1 5 .mv 28]) (.reg false [O1 29 .mv 0, O1 30 .mv 6, O1 31 .mv 1, O1 32 .lenS 31, O2 33 (.bin .add) 30 32, O2 34 (.slc 1 true false false) 29 33, O1 0 .mv 34])))))
def x80 : XFn := ⟨35, (.seq (.reg false [K1 4 .mv (iV 0)]) (.seq (.seq (.reg false [O1 7 .mv 1, O1 8 .lenS 7, K2 9 (.bin .eql) 8 (iV 0)]) (.cond (.t 9) (.seq (.reg false [O1 10 .mv 0, O1 11 (.call 92) 10, K2 12 (.bin .add) 11 (iV 1), O1 4 .mv 12]) .ret) .skip)) (.seq (.seq (.reg false [O1 13 .mv 1, O1 14 .lenS 13, K2 15 (.bin .eql) 14 (iV 1)]) (.cond (.t 15) (.seq (.reg false [O1 16 .mv 0, O1 17 .mv 1, K2 18 (.ixS 1) 17 (iV 0), O1 19 .load1 18, O2 20 (.call 93) 16 19, O1 4 .mv 20]) .ret) .skip)) (.seq (.reg false [K1 5 .mv (iV 0)]) (.block 0 (.loop x80L0)))))), [(.s 4)]⟩
theorem x80_ok : xfn Try.prog Try.f80 = some x80.er := by kernel_rfl
def x48 : XFn := ⟨13, (.seq (.reg false [O1 2 (.box 46) 0, K1 4 .mv (iV 0)]) (.seq (.seq (.reg false [O1 5 (.loadN 3) 2, O1 6 (.call 45) 5, O1 7 (.un .not) 6]) (.cond (.t 7) (.seq (.reg false [K1 4 .mv (iV 0)]) .ret) .skip)) (.seq (.reg false [O1 8 (.fld 2) 2, O1 9 .load1 8, O1 10 .mv 1, ⟨(some 11), (.slit 5 1 1 [(.int .u8 0)] [(0, 1)]), [(.t 10)], none⟩, O2 12 (.call 80) 9 11, O1 4 .mv 12]) .ret))), [(.s 4)]⟩
theorem x48_ok : xfn Try.prog Try.f48 = some x48.er := by kernel_rfl
def x47L0 : XC := (.seq (.seq (.reg false [O1 8 .mv 4, O1 9 (.fld 2) 1, O1 10 .load1 9, O1 11 .lenS 10, O2 12 (.bin .lss) 8 11]) (.cond (.t 12) .skip (.exit 0))) (.seq (.block 1 (.seq (.reg false [O1 15 .mv 3, O1 16 (.fld 2) 1, O1 17 .load1 16, O1 18 .mv 4, O2 19 (.ixS 1) 17 18, O1 20 .load1 19, ⟨(some 21), (.x .sidx), [(.k (.string ⟨#[63, 46, 35]⟩)), (.t 20)], none⟩, ⟨(some 22), (.slit 5 1 1 [(.int .u8 0)] [(0, 1)]), [(.t 21)], none⟩, O2 23 (.app 5 1 1) 15 22, O1 3 .mv 23]) (.seq (.reg true [O1 24 .mv 4, O1 25 (.fld 0) 1, O1 26 .load1 25, O2 27 (.bin .rem) 24 26, O1 28 (.fld 0) 1, O1 29 .load1 28, K2 30 (.bin .sub) 29 (iV 1), O2 31 (.bin .eql) 27 30]) (.cond (.t 31) (.reg false [O1 32 .mv 3, ⟨(some 33), (.slit 5 1 1 [(.int .u8 0)] [(0, 1)]), [(.k (.int .u8 10))], none⟩, O2 34 (.app 5 1 1) 32 33, O1 3 .mv 34]) .skip)))) (.reg false [O1 13 .mv 4, K2 14 (.bin .add) 13 (iV 1), O1 4 .mv 14])))
def x47 : XFn := ⟨37, (.seq (.reg false [O1 1 (.box 46) 0, ⟨(some 2), .mv, [(.k (.string ⟨#[]⟩))], none⟩]) (.seq (.seq (.reg false [O1 5 (.loadN 3) 1, O1 6 (.call 46) 5, O1 7 (.un .not) 6]) (.cond (.t 7) (.seq (.reg false [⟨(some 2), .mv, [(.k (.string ⟨#[]⟩))], none⟩]) .ret) .skip)) (.seq (.reg false [K1 3 .mv (.slice none 0 0)]) (.seq (.seq (.reg false [K1 4 .mv (iV 0)]) (.block 0 (.loop x47L0))) (.seq (.reg false [O1 35 .mv 3, O1 36 (.x .str) 35, O1 2 .mv 36]) .ret))))), [(.s 2)]⟩
theorem x47_ok : xfn Try.prog Try.f47 = some x47.er := by kernel_rfl
def x41L0 : XC := (.seq (.seq (.reg false [O1 10 .mv 5, O1 11 .mv 0, O1 12 (.x .slen) 11, O2 13 (.bin .lss) 10 12]) (.cond (.t 13) .skip (.exit 0))) (.seq (.block 1 (.seq (.reg false [O1 16 .mv 0, O1 17 .mv 5, O2 18 (.x .sidx) 16 17]) (.block 2 (.seq (.reg false [K2 25 (.bin .eql) 18 (.int .u8 10), O1 24 .mv 25]) (.cond (.t 24) (.seq (.reg false [O1 26 (.fld 1) 4, O1 27 .load1 26, K2 28 (.bin .add) 27 (iV 1), O1 29 (.fld 1) 4, ⟨none, (.store 1), [(.t 29), (.t 28)], none⟩]) (.seq (.reg false [O1 30 (.fld 1) 4, O1 31 .load1 30, K2 32 (.bin .eql) 31 (iV 1)]) (.cond (.t 32) (.reg false [O1 33 .mv 5, O1 34 (.fld 0) 4, ⟨none, (.store 1), [(.t 34), (.t 33)], none⟩]) .skip))) (.seq (.reg false [K2 36 (.bin .eql) 18 (.int .u8 46), O1 35 .mv 36]) (.cond (.t 35) (.reg false [O1 37 (.fld 2) 4, O1 38 .load1 37, ⟨(some 39), (.slit 5 1 1 [(.int .u8 0)] [(0, 1)]), [(.k (.int .u8 1))], none⟩, O2 40 (.app 5 1 1) 38 39, O1 41 (.fld 2) 4, ⟨none, (.store 1), [(.t 41), (.t 40)], none⟩]) (.seq (.reg false [K2 43 (.bin .eql) 18 (.int .u8 35), O1 42 .mv 43]) (.cond (.t 42) (.reg false [O1 44 (.fld 2) 4, O1 45 .load1 44, ⟨(some 46), (.slit 5 1 1 [(.int .u8 0)] [(0, 1)]), [(.k (.int .u8 2))], none⟩, O2 47 (.app 5 1 1) 45 46, O1 48 (.fld 2) 4, ⟨none, (.store 1), [(.t 48), (.t 47)], none⟩]) (.reg false [O1 19 (.fld 2) 4, O1 20 .load1 19, ⟨(some 21), (.slit 5 1 1 [(.int .u8 0)] [(0, 1)]), [(.k (.int .u8 0))], none⟩, O2 22 (.app 5 1 1) 20 21, O1 23 (.fld 2) 4, ⟨none, (.store 1), [(.t 23), (.t 22)], none⟩])))))))))) (.reg false [O1 14 .mv 5, K2 15 (.bin .add) 14 (iV 1), O1 5 .mv 15])))
def x41 : XFn := ⟨59, (.seq (.reg false [⟨(some 2), (.alloc 46 [(iV 0), (iV 0), (.slice none 0 0)]), [], none⟩, K1 3 .mv (iV 0)]) (.seq (.seq (.reg false [O1 6 .mv 0, O1 7 (.x .slen) 6, K2 8 (.bin .gtr) 7 (iV 4160)]) (.cond (.t 8) (.seq (.reg false [⟨(some 9), (.build [(iV 0), (iV 0), (.slice none 0 0)] []), [], none⟩, ⟨none, (.store 3), [(.t 2), (.t 9)], none⟩, K1 3 .mv (iV 6)]) .ret) .skip)) (.seq (.reg false [⟨(some 4), (.alloc 46 [(iV 0), (iV 0), (.slice none 0 0)]), [], none⟩]) (.seq (.seq (.reg false [K1 5 .mv (iV 0)]) (.block 0 (.loop x41L0))) (.seq (.seq (.reg false [O1 49 .mv 0, ⟨(some 50), (.x (.sbin .eql)), [(.t 49), (.k (.string ⟨#[]⟩))], none⟩, O1 51 .mv 50, G1 52 (.loadN 3) 4 51 false, G1 53 (.call 47) 52 51 false, G1 54 .mv 0 51 false, ⟨(some 55), (.x (.sbin .neq)), [(.t 53), (.t 54)], (some (51, false))⟩, ⟨(some 56), .pick, [(.t 51), (.k (.bool true)), (.t 55)], none⟩]) (.cond (.t 56) (.seq (.reg false [⟨(some 57), (.build [(iV 0), (iV 0), (.slice none 0 0)] []), [], none⟩, ⟨none, (.store 3), [(.t 2), (.t 57)], none⟩, K1 3 .mv (iV 3)]) .ret) .skip)) (.seq (.reg false [O1 58 (.loadN 3) 4, ⟨none, (.store 3), [(.t 2), (.t 58)], none⟩, K1 3 .mv (iV 0)]) .ret)))))), [(.bn 2 3), (.s 3)]⟩
theorem x41_ok : xfn Try.prog Try.f41 = some x41.er := by kernel_rfl
def x44L0 : XC := (.seq (.seq (.reg false [O1 31 .mv 9, O1 32 .mv 0, O1 33 .mv 1, O2 34 (.bin .mul) 32 33, O2 35 (.bin .lss) 31 34]) (.cond (.t 35) .skip (.exit 0))) (.seq (.block 1 (.reg false [O1 38 (.fld 2) 8, O1 39 .load1 38, O1 40 .mv 2, ⟨(some 41), (.slit 5 1 1 [(.int .u8 0)] [(0, 1)]), [(.t 40)], none⟩, O2 42 (.app 5 1 1) 39 41, O1 43 (.fld 2) 8, ⟨none, (.store 1), [(.t 43), (.t 42)], none⟩])) (.reg false [O1 36 .mv 9, K2 37 (.bin .add) 36 (iV 1), O1 9 .mv 37])))
def x44 : XFn := ⟨45, (.seq (.reg false [⟨(some 6), (.alloc 46 [(iV 0), (iV 0), (.slice none 0 0)]), [], none⟩, K1 7 .mv (iV 0)]) (.seq (.seq (.reg false [O1 10 .mv 0, K2 11 (.bin .lss) 10 (iV 1), O1 12 .mv 11, G1 13 .mv 0 12 false, GK 14 (.bin .gtr) 13 (iV 64) 12 false, ⟨(some 15), .pick, [(.t 12), (.k (.bool true)), (.t 14)], none⟩, O1 16 .mv 15, G1 17 .mv 1 16 false, GK 18 (.bin .lss) 17 (iV 1) 16 false, ⟨(some 19), .pick, [(.t 16), (.k (.bool true)), (.t 18)], none⟩, O1 20 .mv 19, G1 21 .mv 1 20 false, GK 22 (.bin .gtr) 21 (iV 64) 20 false, ⟨(some 23), .pick, [(.t 20), (.k (.bool true)), (.t 22)], none⟩]) (.cond (.t 23) (.seq (.reg false [⟨(some 24), (.build [(iV 0), (iV 0), (.slice none 0 0)] []), [], none⟩, ⟨none, (.store 3), [(.t 6), (.t 24)], none⟩, K1 7 .mv (iV 2)]) .ret) .skip)) (.seq (.seq (.reg false [O1 25 .mv 2, K2 26 (.bin .gtr) 25 (.int .u8 2)]) (.cond (.t 26) (.seq (.reg false [⟨(some 27), (.build [(iV 0), (iV 0), (.slice none 0 0)] []), [], none⟩, ⟨none, (.store 3), [(.t 6), (.t 27)], none⟩, K1 7 .mv (iV 1)]) .ret) .skip)) (.seq (.reg false [O1 28 .mv 0, O1 29 .mv 1, ⟨(some 30), (.build [(iV 0), (iV 0), (.slice none 0 0)] [(0, 1), (1, 1)]), [(.t 28), (.t 29)], none⟩, ⟨(some 8), (.alloc 46 [(iV 0), (iV 0), (.slice none 0 0)]), [], none⟩, ⟨none, (.store 3), [(.t 8), (.t 30)], none⟩]) (.seq (.seq (.reg false [K1 9 .mv (iV 0)]) (.block 0 (.loop x44L0))) (.seq (.reg false [O1 44 (.loadN 3) 8, ⟨none, (.store 3), [(.t 6), (.t 44)], none⟩, K1 7 .mv (iV 0)]) .ret)))))), [(.bn 6 3), (.s 7)]⟩
theorem x44_ok : xfn Try.prog Try.f44 = some x44.er := by kernel_rfl
def x49L0 : XC := (.seq (.seq (.reg false [O1 7 .mv 6, O1 8 (.fld 2) 2, O1 9 .load1 8, O1 10 .lenS 9, O2 11 (.bin .lss) 7 10, O1 12 .mv 11, G1 13 (.loadN 3) 2 12 true, G1 14 (.call 46) 13 12 true, ⟨(some 15), .pick, [(.t 12), (.t 14), (.k (.bool false))], none⟩]) (.cond (.t 15) .skip (.exit 0))) (.seq (.block 1 (.seq (.reg false [O1 18 (.fld 2) 2, O1 19 .load1 18, O1 20 .mv 6, O2 21 (.ixS 1) 19 20, O1 22 .load1 21, O1 23 .mv 1, O2 24 (.bin .eql) 22 23]) (.cond (.t 24) (.reg false [O1 25 .mv 5, K2 26 (.bin .add) 25 (iV 1), O1 5 .mv 26]) .skip))) (.reg false [O1 16 .mv 6, K2 17 (.bin .add) 16 (iV 1), O1 6 .mv 17])))
def x49 : XFn := ⟨28, (.seq (.reg false [O1 2 (.box 46) 0, K1 4 .mv (iV 0)]) (.seq (.reg false [K1 5 .mv (iV 0)]) (.seq (.seq (.reg false [K1 6 .mv (iV 0)]) (.block 0 (.loop x49L0))) (.seq (.reg false [O1 27 .mv 5, O1 4 .mv 27]) .ret)))), [(.s 4)]⟩
theorem x49_ok : xfn Try.prog Try.f49 = some x49.er := by kernel_rfl
/-- bytes.Count -/
def g80 : Con := fun args_ E_ nn_ => match args_ with
  | [.c (.n s), .c (.n sep)] => (match rowOf E_ s with
    | some (s_n, s_s, s_f) => (match rowOf E_ sep with
    | some (sep_n, sep_s, sep_f) => some (.q (isRow eU8 s_n s_s s_f ∧ isRow eU8 sep_n sep_s sep_f ∧ ((decL eU8 sep_n sep_f)).length = 1) (.o (.c (.v (.int .i64 (cnt8 (decL eU8 s_n s_f) (((decL eU8 sep_n sep_f)).getD 0 eU8.dflt)))))))
    | none => none)
    | none => none)
  | _ => none
theorem c80 : COk Try.prog 80 g80 := by
  refine cok_q Try.func80 x80_ok (by kernel_rfl) (cok_tab (cok_cons c93 cok_nil)) ?_
  intro args_ E_ nn_ cr_ hg_
  unfold g80 at hg_
  split at hg_
  · rename_i s sep
    split at hg_
    · rename_i s_n s_s s_f h_s
      split at hg_
      · rename_i sep_n sep_s sep_f h_sep
        cases hg_
        refine ⟨_, _, rfl, 2, [s, sep], [.c (.n 0), .c (.n 1)], [(0, .ro (decL eU8 s_n s_f).length eU8.sz (rowF eU8 (decL eU8 s_n s_f))), (1, .ro (decL eU8 sep_n sep_f).length eU8.sz (rowF eU8 (decL eU8 sep_n sep_f)))], .o (.c (.v (.int .i64 (cnt8 (decL eU8 s_n s_f) (((decL eU8 sep_n sep_f)).getD 0 eU8.dflt))))), rfl, rfl, by simp only [push_cast, Nat.reduceLT, Nat.reduceAdd], by simp only [push_cast, Nat.reduceLT, Nat.reduceAdd], by simp only [push_cast, Nat.reduceLT, Nat.reduceAdd], rfl, ⟨inE0_row h_s, inE0_row h_sep, trivial⟩, rfl, ?_⟩
        intro hpre hlen
        obtain ⟨i_s, hpre⟩ := hpre
        obtain ⟨i_sep, hpre⟩ := hpre
        refine ⟨⟨inE_row h_s i_s, inE_row h_sep i_sep, trivial⟩, ?_⟩
        have z_s := lens_row (E := eU8) hlen h_s
        have z_sep := lens_row (E := eU8) hlen h_sep
        clear i_s
        generalize decL eU8 s_n s_f = sL at *
        clear i_sep
        generalize decL eU8 sep_n sep_f = sepL at *
        clear h_s
        clear h_sep
        simp (config := {maxSteps := 10000000}) only [x80, push_cast, Nat.reduceAdd, Nat.reduceSub, Nat.reduceLeDiff, Nat.reduceEqDiff, Nat.reduceBEq, Nat.reduceMul, Nat.reduceLT, reduceIte, reduceCtorEq, Int.reduceLE, Int.reduceLT, Int.reduceEq, Int.reduceMul, Int.reduceAdd, Int.reduceSub, Int.reduceNeg, Int.reduceToNat, Int.reduceNe, g93]
        exact ⟨by omega, fun _ => ⟨fun _ => ⟨by omega, by omega⟩, fun h => by omega⟩⟩
      · cases hg_
    · cases hg_
  · cases hg_
/-- wayfinder/plan.Count -/
def g48 : Con := fun args_ E_ nn_ => match args_ with
  | [.a [.v (.int .i64 p_W), .v (.int .i64 p_H), .n p_Cells], .c (.v (.int .u8 value))] => (match rowOf E_ p_Cells with
    | some (p_Cells_n, p_Cells_s, p_Cells_f) => some (.q (isRow eU8 p_Cells_n p_Cells_s p_Cells_f ∧ True) (.o (.c (.v (.int .i64 (cntV p_W p_H (decL eU8 p_Cells_n p_Cells_f) value))))))
    | none => none)
  | _ => none
theorem c48 : COk Try.prog 48 g48 := by
  refine cok_q Try.func48 x48_ok (by kernel_rfl) (cok_tab (cok_cons c45 (cok_cons c80 cok_nil))) ?_
  intro args_ E_ nn_ cr_ hg_
  unfold g48 at hg_
  split at hg_
  · rename_i p_W p_H p_Cells value
    split at hg_
    · rename_i p_Cells_n p_Cells_s p_Cells_f h_p_Cells
      cases hg_
      refine ⟨_, _, rfl, 1, [p_Cells], [.a [.v (.int .i64 p_W), .v (.int .i64 p_H), .n 0], .c (.v (.int .u8 value))], [(0, .ro (decL eU8 p_Cells_n p_Cells_f).length eU8.sz (rowF eU8 (decL eU8 p_Cells_n p_Cells_f)))], .o (.c (.v (.int .i64 (cntV p_W p_H (decL eU8 p_Cells_n p_Cells_f) value)))), rfl, rfl, by simp only [push_cast, Nat.reduceLT, Nat.reduceAdd], by simp only [push_cast, Nat.reduceLT, Nat.reduceAdd], by simp only [push_cast, Nat.reduceLT, Nat.reduceAdd], rfl, ⟨inE0_row h_p_Cells, trivial⟩, rfl, ?_⟩
      intro hpre hlen
      obtain ⟨i_p_Cells, hpre⟩ := hpre
      refine ⟨⟨inE_row h_p_Cells i_p_Cells, trivial⟩, ?_⟩
      have z_p_Cells := lens_row (E := eU8) hlen h_p_Cells
      clear i_p_Cells
      generalize decL eU8 p_Cells_n p_Cells_f = p_CellsL at *
      clear h_p_Cells
      have l1 : isRow eU8 1 1 (litF [SC.v (Value.int IntKind.u8 value)] 1) ↔ True := iff_true_intro (lits_row eU8 [value]).1
      have l2 : decL eU8 1 (litF [SC.v (Value.int IntKind.u8 value)] 1) = [value] := (lits_row eU8 [value]).2
      simp (config := {maxSteps := 10000000}) only [x48, push_cast, Nat.reduceAdd, Nat.reduceSub, Nat.reduceLeDiff, Nat.reduceEqDiff, Nat.reduceBEq, Nat.reduceMul, Nat.reduceLT, reduceIte, reduceCtorEq, Int.reduceLE, Int.reduceLT, Int.reduceEq, Int.reduceMul, Int.reduceAdd, Int.reduceSub, Int.reduceNeg, Int.reduceToNat, Int.reduceNe, g45, g80, l1, l2]
      unfold cntV
      exact ⟨fun h => by rw [h]; rfl, fun h => by rw [if_pos h]⟩
    · cases hg_
  · cases hg_
/-- wayfinder/wayfinderref08.Text -/
def g47 : Con := fun args_ E_ nn_ => match args_ with
  | [.a [.v (.int .i64 p_W), .v (.int .i64 p_H), .n p_Cells]] => (match rowOf E_ p_Cells with
    | some (p_Cells_n, p_Cells_s, p_Cells_f) => some (.q (isRow eU8 p_Cells_n p_Cells_s p_Cells_f ∧ u8s (decL eU8 p_Cells_n p_Cells_f)) (.o (.c (.v (.string (textB p_W p_H (decL eU8 p_Cells_n p_Cells_f)))))))
    | none => none)
  | _ => none
theorem c47 : COk Try.prog 47 g47 := by
  refine cok_q Try.func47 x47_ok (by kernel_rfl) (cok_tab (cok_cons c46 cok_nil)) ?_
  intro args_ E_ nn_ cr_ hg_
  unfold g47 at hg_
  split at hg_
  · rename_i p_W p_H p_Cells
    split at hg_
    · rename_i p_Cells_n p_Cells_s p_Cells_f h_p_Cells
      cases hg_
      refine ⟨_, _, rfl, 1, [p_Cells], [.a [.v (.int .i64 p_W), .v (.int .i64 p_H), .n 0]], [(0, .ro (decL eU8 p_Cells_n p_Cells_f).length eU8.sz (rowF eU8 (decL eU8 p_Cells_n p_Cells_f)))], .o (.c (.v (.string (textB p_W p_H (decL eU8 p_Cells_n p_Cells_f))))), rfl, rfl, by simp only [push_cast, Nat.reduceLT, Nat.reduceAdd], by simp only [push_cast, Nat.reduceLT, Nat.reduceAdd], by simp only [push_cast, Nat.reduceLT, Nat.reduceAdd], rfl, ⟨inE0_row h_p_Cells, trivial⟩, rfl, ?_⟩
      intro hpre hlen
      obtain ⟨i_p_Cells, hpre⟩ := hpre
      refine ⟨⟨inE_row h_p_Cells i_p_Cells, trivial⟩, ?_⟩
      have z_p_Cells := lens_row (E := eU8) hlen h_p_Cells
      clear i_p_Cells
      generalize decL eU8 p_Cells_n p_Cells_f = p_CellsL at *
      clear h_p_Cells
      simp (config := {maxSteps := 10000000}) only [x47, push_cast, Nat.reduceAdd, Nat.reduceSub, Nat.reduceLeDiff, Nat.reduceEqDiff, Nat.reduceBEq, Nat.reduceMul, Nat.reduceLT, reduceIte, reduceCtorEq, Int.reduceLE, Int.reduceLT, Int.reduceEq, Int.reduceMul, Int.reduceAdd, Int.reduceSub, Int.reduceNeg, Int.reduceToNat, Int.reduceNe, g46]
      refine ⟨fun h => by unfold textB; rw [h]; rfl, fun h => ?_⟩
      have hp := planB_at h
      rw [textR h]
      refine vcLoop_upd (α := {k : Nat // k ≤ p_CellsL.length}) [1] 1 (fun s => [(3, .o (.c (.n 2))), (4, .o (.c (.v (.int .i64 (s.1 : Nat)))))]) (fun s => [(2, .own (txK p_W p_CellsL s.1).length 1 (rowF eU8 (txK p_W p_CellsL s.1)) 5)]) (fun s => p_CellsL.length - s.1) ⟨0, by omega⟩ ?_ ?_
      · simp only [push_cast, Nat.reduceAdd, Nat.reduceSub, Nat.reduceLeDiff, Nat.reduceEqDiff, Nat.reduceBEq, Nat.reduceMul, Nat.reduceLT, reduceIte, reduceCtorEq, Int.reduceLE, Int.reduceLT, Int.reduceEq, Int.reduceMul, Int.reduceAdd, Int.reduceSub, Int.reduceNeg, Int.reduceToNat, Int.reduceNe, g46]
        rfl
      rintro ⟨k, hk⟩
      have hsz : (((⟨#[63, 46, 35]⟩ : ByteArray).size : Nat) : Int) = 3 := by decide
      have hl := txK_len p_W p_CellsL k
      simp only [x47L0, push_cast, Nat.reduceAdd, Nat.reduceSub, Nat.reduceLeDiff, Nat.reduceEqDiff, Nat.reduceBEq, Nat.reduceMul, Nat.reduceLT, reduceIte, reduceCtorEq, Int.reduceLE, Int.reduceLT, Int.reduceEq, Int.reduceMul, Int.reduceAdd, Int.reduceSub, Int.reduceNeg, Int.reduceToNat, Int.reduceNe, g46, hsz]
      refine ⟨fun hlt => ?_, fun hge => by rw [show k = p_CellsL.length by omega]⟩
      have hv := hp.2.2.2.2 k hlt
      have hu := u8_at hpre hlt
      rw [tmod_pos (by omega), wrapI (n := p_W - 1) (by omega) (by omega)]
      refine ⟨hlt, hlt, by omega, by omega, by omega, fun hm => ⟨by omega, ⟨k + 1, by omega⟩, ⟨wrapI (by omega) (by omega), ?_⟩, by simp only; omega⟩, fun hm => ⟨⟨k + 1, by omega⟩, ⟨wrapI (by omega) (by omega), ?_⟩, by simp only; omega⟩⟩
      · refine push2_eq ?_
        simp only
        rw [txK_succ]; unfold txOne; rw [if_pos hm]; rfl
      · refine push_eq (E := eU8) (x := byteAt ⟨#[63, 46, 35]⟩ (p_CellsL.getD k eU8.dflt).toNat) ?_
        simp only
        rw [txK_succ]; unfold txOne; rw [if_neg hm]; rfl
    · cases hg_
  · cases hg_
/-- wayfinder/wayfinderref08.Parse -/
def g41 : Con := fun args_ E_ nn_ => match args_ with
  | [.c (.v (.string s))] => some (.e (True) (.t [.a [.v (.int .i64 (paW s)), .v (.int .i64 (paH s)), .n (nn_ + 0)], .c (.v (.int .i64 (paE s)))]) [((nn_ + 0), .own (paL s).length 1 (rowF eU8 (paL s)) 5)] (nn_ + 1))
  | _ => none
theorem c41 : COk Try.prog 41 g41 := by
  refine cok_e Try.func41 x41_ok (by kernel_rfl) (cok_tab (cok_cons c47 cok_nil)) ?_
  intro args_ E_ nn_ cr_ hg_
  unfold g41 at hg_
  split at hg_
  · rename_i s
    cases hg_
    refine ⟨_, _, _, _, rfl, 0, [], [.c (.v (.string s))], [], .t [.a [.v (.int .i64 (paW s)), .v (.int .i64 (paH s)), .n 0], .c (.v (.int .i64 (paE s)))], [(0, .own (paL s).length 1 (rowF eU8 (paL s)) 5)], 1, rfl, rfl, by simp only [renE, Ent.ren, rowF_renf] <;> rfl, rfl, by decide, by simp only [push_cast, Nat.reduceLT, Nat.reduceAdd], by simp only [push_cast, Nat.reduceLT, Nat.reduceAdd], by simp only [push_cast, Nat.reduceLT, Nat.reduceAdd], by simp only [push_cast, Nat.reduceLT, Nat.reduceAdd], rfl, trivial, by simp only [keysNodup, outN, keys] <;> decide, rfl, rfl, ?_⟩
    intro hpre hlen
    refine ⟨trivial, by simp only [apartE] <;> (first | trivial | (simp [Ent.mut]; done)), ?_⟩
    simp (config := {maxSteps := 10000000}) only [x41, push_cast, Nat.reduceAdd, Nat.reduceSub, Nat.reduceLeDiff, Nat.reduceEqDiff, Nat.reduceBEq, Nat.reduceMul, Nat.reduceLT, reduceIte, reduceCtorEq, Int.reduceLE, Int.reduceLT, Int.reduceEq, Int.reduceMul, Int.reduceAdd, Int.reduceSub, Int.reduceNeg, Int.reduceToNat, Int.reduceNe, g47]
    refine ⟨fun h => ?_, fun h => ?_⟩
    · have z := pa_full (s := s) (by omega)
      exact ⟨⟨⟨z.2.1.symm, z.2.2.1.symm⟩, z.1.symm⟩, by rw [z.2.2.2]; rfl⟩
    have hN := byI_len s
    have hu := byI_u8 s
    have hrf := rf_pa (s := s) (by omega)
    have hnil := byI_nil s
    have hat : ∀ k, (hk : k < (byI s).length) → byteAt s k = (byI s)[k] := fun k hk => byte_at hk
    generalize byI s = l at *
    generalize hNs : s.size = N at *
    refine vcLoop_upd (α := {k : Nat // k ≤ N}) [0, 2, 4] 1 (fun s => [(5, .o (.c (.v (.int .i64 (s.1 : Nat)))))]) (fun s => [(1, .box [.v (.int .i64 (rfW (l.take s.1) : Nat)), .v (.int .i64 (rfH (l.take s.1) : Nat)), .n 2] 46), (2, .own (rfC (l.take s.1)).length 1 (rowF eU8 (rfC (l.take s.1))) 5)]) (fun s => N - s.1) ⟨0, by omega⟩ ?_ ?_
    · simp only [push_cast, Nat.reduceAdd, Nat.reduceSub, Nat.reduceLeDiff, Nat.reduceEqDiff, Nat.reduceBEq, Nat.reduceMul, Nat.reduceLT, reduceIte, reduceCtorEq, Int.reduceLE, Int.reduceLT, Int.reduceEq, Int.reduceMul, Int.reduceAdd, Int.reduceSub, Int.reduceNeg, Int.reduceToNat, Int.reduceNe, g47]
      exact ⟨⟨rfl, rfl⟩, rfl⟩
    rintro ⟨k, hk⟩
    simp only [x41L0, push_cast, Nat.reduceAdd, Nat.reduceSub, Nat.reduceLeDiff, Nat.reduceEqDiff, Nat.reduceBEq, Nat.reduceMul, Nat.reduceLT, reduceIte, reduceCtorEq, Int.reduceLE, Int.reduceLT, Int.reduceEq, Int.reduceMul, Int.reduceAdd, Int.reduceSub, Int.reduceNeg, Int.reduceToNat, Int.reduceNe, g47]
    rw [hNs]
    refine ⟨fun hlt => ⟨hlt, ?_⟩, fun hge => ?_⟩
    · have hkl : k < l.length := by omega
      rw [hat k hkl]
      have hb := hu _ (List.getElem_mem hkl)
      have ht := take_snoc hkl
      have e1 := (rf_snoc (l.take k) l[k]).1
      have e2 := (rf_snoc (l.take k) l[k]).2
      have e3 := rfW_snoc (l.take k) l[k]
      rw [← ht] at e1 e2 e3
      have hH := rfH_le (l.take k)
      have hC := rfC_le (l.take k)
      have htl : (l.take k).length = k := by rw [List.length_take]; omega
      rw [htl] at hH hC e3
      have hw : IntKind.i64.wrap ((k : Int) + 1) = ((k + 1 : Nat) : Int) := by rw [wrapI (by omega) (by omega)]; omega
      rw [hw, wrapI (n := (rfH (l.take k) : Int) + 1) (by omega) (by omega)]
      refine ⟨fun hx => ?_, fun hx => ⟨fun hy => ?_, fun hy => ⟨fun hz => ?_, fun hz => ?_⟩⟩⟩
      · rw [if_pos hx] at e1 e2
        refine ⟨fun h1 => ⟨⟨k + 1, by omega⟩, ⟨rfl, ⟨?_, ?_⟩, same_eq e2⟩, by simp only; omega⟩, fun h1 => ⟨⟨k + 1, by omega⟩, ⟨rfl, ⟨?_, ?_⟩, same_eq e2⟩, by simp only; omega⟩⟩
        · simp only; rw [e3, if_pos ⟨hx, by omega⟩]
        · simp only; rw [e1]; omega
        · simp only; rw [e3, if_neg (fun q => by omega)]
        · simp only; rw [e1]; omega
      all_goals
        rw [if_neg hx] at e1 e2
        rw [if_neg (fun q => hx q.1)] at e3
        refine ⟨by omega, ⟨k + 1, by omega⟩, ⟨rfl, ⟨by simp only; rw [e3], by simp only; rw [e1]⟩, ?_⟩, by simp only; omega⟩
      · exact push_eq (E := eU8) (x := 1) (by simp only; rw [e2]; unfold ky; rw [if_pos hy])
      · exact push_eq (E := eU8) (x := 2) (by simp only; rw [e2]; unfold ky; rw [if_neg hy, if_pos hz])
      · exact push_eq (E := eU8) (x := 0) (by simp only; rw [e2]; unfold ky; rw [if_neg hy, if_neg hz])
    · rw [List.take_of_length_le (show l.length ≤ k by omega)]
      refine ⟨fun q => ⟨q, rfC_u8 l⟩, fun q => ?_, fun q1 q2 => ?_⟩
      · have z := hrf.1 (by rcases q with q | q; exact .inl (hnil.1 q); exact .inr q)
        exact ⟨⟨⟨z.2.1.symm, z.2.2.1.symm⟩, z.1.symm⟩, by rw [z.2.2.2]; rfl⟩
      · have z := hrf.2 (fun w => q1 (hnil.2 w)) q2
        exact ⟨⟨⟨z.2.1.symm, z.2.2.1.symm⟩, z.1.symm⟩, same_eq z.2.2.2⟩
  · cases hg_
/-- wayfinder/wayfinderref08.New -/
def g44 : Con := fun args_ E_ nn_ => match args_ with
  | [.c (.v (.int .i64 w)), .c (.v (.int .i64 h)), .c (.v (.int .u8 value))] => some (.e (0 ≤ value ∧ value ≤ 255) (.t [.a [.v (.int .i64 (mE (newE w h value) w)), .v (.int .i64 (mE (newE w h value) h)), .n (nn_ + 0)], .c (.v (.int .i64 (newE w h value)))]) [((nn_ + 0), .own (newL w h value).length 1 (rowF eU8 (newL w h value)) 5)] (nn_ + 1))
  | _ => none
theorem c44 : COk Try.prog 44 g44 := by
  refine cok_e Try.func44 x44_ok (by kernel_rfl) (cok_tab cok_nil) ?_
  intro args_ E_ nn_ cr_ hg_
  unfold g44 at hg_
  split at hg_
  · rename_i w h value
    cases hg_
    refine ⟨_, _, _, _, rfl, 0, [], [.c (.v (.int .i64 w)), .c (.v (.int .i64 h)), .c (.v (.int .u8 value))], [], .t [.a [.v (.int .i64 (mE (newE w h value) w)), .v (.int .i64 (mE (newE w h value) h)), .n 0], .c (.v (.int .i64 (newE w h value)))], [(0, .own (newL w h value).length 1 (rowF eU8 (newL w h value)) 5)], 1, rfl, rfl, by simp only [renE, Ent.ren, rowF_renf] <;> rfl, rfl, by decide, by simp only [push_cast, Nat.reduceLT, Nat.reduceAdd], by simp only [push_cast, Nat.reduceLT, Nat.reduceAdd], by simp only [push_cast, Nat.reduceLT, Nat.reduceAdd], by simp only [push_cast, Nat.reduceLT, Nat.reduceAdd], rfl, trivial, by simp only [keysNodup, outN, keys] <;> decide, rfl, rfl, ?_⟩
    intro hpre hlen
    refine ⟨trivial, by simp only [apartE] <;> (first | trivial | (simp [Ent.mut]; done)), ?_⟩
    simp (config := {maxSteps := 10000000}) only [x44, push_cast, Nat.reduceAdd, Nat.reduceSub, Nat.reduceLeDiff, Nat.reduceEqDiff, Nat.reduceBEq, Nat.reduceMul, Nat.reduceLT, reduceIte, reduceCtorEq, Int.reduceLE, Int.reduceLT, Int.reduceEq, Int.reduceMul, Int.reduceAdd, Int.reduceSub, Int.reduceNeg, Int.reduceToNat, Int.reduceNe]
    generalize hhe : h = hh at *
    refine ⟨fun h => ?_, fun a1 a2 a3 a4 => ⟨fun h => ?_, fun h => ?_⟩⟩
    · have e : newE w hh value = 2 := by unfold newE sizeB; rw [if_pos]; rw [decide_eq_false_iff_not, decide_eq_false_iff_not]; omega
      have e2 : newL w hh value = [] := by unfold newL; rw [e]; rfl
      rw [e, e2]; exact ⟨⟨⟨rfl, rfl⟩, rfl⟩, rfl⟩
    · have e : newE w hh value = 1 := by unfold newE sizeB; rw [if_neg, if_pos h]; rw [decide_eq_false_iff_not, decide_eq_false_iff_not]; omega
      have e2 : newL w hh value = [] := by unfold newL; rw [e]; rfl
      rw [e, e2]; exact ⟨⟨⟨rfl, rfl⟩, rfl⟩, rfl⟩
    have e : newE w hh value = 0 := by unfold newE sizeB; rw [if_neg, if_neg h]; rw [decide_eq_false_iff_not, decide_eq_false_iff_not]; omega
    have e2 : newL w hh value = List.replicate (w * hh).toNat value := by unfold newL; rw [if_pos e]
    have hm := mulWH (W := w) (H := hh) (by omega) (by omega)
    rw [e, e2]
    refine vcLoop_upd (α := {k : Nat // k ≤ (w * hh).toNat}) [0, 1, 2, 6, 8] 1 (fun s => [(9, .o (.c (.v (.int .i64 (s.1 : Nat)))))]) (fun s => [(1, .box [.v (.int .i64 w), .v (.int .i64 hh), .n 2] 46), (2, .own (List.replicate s.1 value).length 1 (rowF eU8 (List.replicate s.1 value)) 5)]) (fun s => (w * hh).toNat - s.1) ⟨0, by omega⟩ ?_ ?_
    · simp only [push_cast, Nat.reduceAdd, Nat.reduceSub, Nat.reduceLeDiff, Nat.reduceEqDiff, Nat.reduceBEq, Nat.reduceMul, Nat.reduceLT, reduceIte, reduceCtorEq, Int.reduceLE, Int.reduceLT, Int.reduceEq, Int.reduceMul, Int.reduceAdd, Int.reduceSub, Int.reduceNeg, Int.reduceToNat, Int.reduceNe]
      rfl
    rintro ⟨k, hk⟩
    simp only [x44L0, push_cast, Nat.reduceAdd, Nat.reduceSub, Nat.reduceLeDiff, Nat.reduceEqDiff, Nat.reduceBEq, Nat.reduceMul, Nat.reduceLT, reduceIte, reduceCtorEq, Int.reduceLE, Int.reduceLT, Int.reduceEq, Int.reduceMul, Int.reduceAdd, Int.reduceSub, Int.reduceNeg, Int.reduceToNat, Int.reduceNe]
    rw [wrapI (n := w * hh) (by omega) (by omega)]
    refine ⟨fun hlt => ⟨by rw [List.length_replicate]; omega, ⟨k + 1, by omega⟩, ⟨wrapI (by omega) (by omega), push_eq (E := eU8) (x := value) List.replicate_succ'⟩, by simp only; omega⟩, fun hge => ⟨⟨rfl, rfl⟩, same_eq (by rw [show k = (w * hh).toNat by omega])⟩⟩
  · cases hg_
/-- wayfinder/wayfinderref08.Count -/
def g49 : Con := fun args_ E_ nn_ => match args_ with
  | [.a [.v (.int .i64 p_W), .v (.int .i64 p_H), .n p_Cells], .c (.v (.int .u8 value))] => (match rowOf E_ p_Cells with
    | some (p_Cells_n, p_Cells_s, p_Cells_f) => some (.q (isRow eU8 p_Cells_n p_Cells_s p_Cells_f ∧ u8s (decL eU8 p_Cells_n p_Cells_f) ∧ 0 ≤ value ∧ value ≤ 255) (.o (.c (.v (.int .i64 (cntV p_W p_H (decL eU8 p_Cells_n p_Cells_f) value))))))
    | none => none)
  | _ => none
theorem c49 : COk Try.prog 49 g49 := by
  refine cok_q Try.func49 x49_ok (by kernel_rfl) (cok_tab (cok_cons c46 cok_nil)) ?_
  intro args_ E_ nn_ cr_ hg_
  unfold g49 at hg_
  split at hg_
  · rename_i p_W p_H p_Cells value
    split at hg_
    · rename_i p_Cells_n p_Cells_s p_Cells_f h_p_Cells
      cases hg_
      refine ⟨_, _, rfl, 1, [p_Cells], [.a [.v (.int .i64 p_W), .v (.int .i64 p_H), .n 0], .c (.v (.int .u8 value))], [(0, .ro (decL eU8 p_Cells_n p_Cells_f).length eU8.sz (rowF eU8 (decL eU8 p_Cells_n p_Cells_f)))], .o (.c (.v (.int .i64 (cntV p_W p_H (decL eU8 p_Cells_n p_Cells_f) value)))), rfl, rfl, by simp only [push_cast, Nat.reduceLT, Nat.reduceAdd], by simp only [push_cast, Nat.reduceLT, Nat.reduceAdd], by simp only [push_cast, Nat.reduceLT, Nat.reduceAdd], rfl, ⟨inE0_row h_p_Cells, trivial⟩, rfl, ?_⟩
      intro hpre hlen
      obtain ⟨i_p_Cells, hpre⟩ := hpre
      refine ⟨⟨inE_row h_p_Cells i_p_Cells, trivial⟩, ?_⟩
      have z_p_Cells := lens_row (E := eU8) hlen h_p_Cells
      clear i_p_Cells
      generalize decL eU8 p_Cells_n p_Cells_f = p_CellsL at *
      clear h_p_Cells
      simp (config := {maxSteps := 10000000}) only [x49, push_cast, Nat.reduceAdd, Nat.reduceSub, Nat.reduceLeDiff, Nat.reduceEqDiff, Nat.reduceBEq, Nat.reduceMul, Nat.reduceLT, reduceIte, reduceCtorEq, Int.reduceLE, Int.reduceLT, Int.reduceEq, Int.reduceMul, Int.reduceAdd, Int.reduceSub, Int.reduceNeg, Int.reduceToNat, Int.reduceNe, g46]
      refine vcLoop_upd (α := {k : Nat // k ≤ p_CellsL.length ∧ (planB p_W p_H p_CellsL = false → k = 0)}) [1, 2] 0 (fun s => [(5, .o (.c (.v (.int .i64 (cntK p_CellsL value s.1 : Nat))))), (6, .o (.c (.v (.int .i64 (s.1 : Nat)))))]) (fun s => []) (fun s => p_CellsL.length - s.1) ⟨0, by omega, fun _ => rfl⟩ ?_ ?_
      · simp only [push_cast, Nat.reduceAdd, Nat.reduceSub, Nat.reduceLeDiff, Nat.reduceEqDiff, Nat.reduceBEq, Nat.reduceMul, Nat.reduceLT, reduceIte, reduceCtorEq, Int.reduceLE, Int.reduceLT, Int.reduceEq, Int.reduceMul, Int.reduceAdd, Int.reduceSub, Int.reduceNeg, Int.reduceToNat, Int.reduceNe, g46]
        rfl
      rintro ⟨k, hk, hv⟩
      simp only [x49L0, push_cast, Nat.reduceAdd, Nat.reduceSub, Nat.reduceLeDiff, Nat.reduceEqDiff, Nat.reduceBEq, Nat.reduceMul, Nat.reduceLT, reduceIte, reduceCtorEq, Int.reduceLE, Int.reduceLT, Int.reduceEq, Int.reduceMul, Int.reduceAdd, Int.reduceSub, Int.reduceNeg, Int.reduceToNat, Int.reduceNe, g46]
      have hc := cntK_le p_CellsL value k
      refine ⟨fun hlt hp => ⟨hlt, hlt, fun e => ⟨⟨k + 1, by omega, fun q => by rw [hp] at q; cases q⟩, ⟨?_, wrapI (by omega) (by omega)⟩, by simp only; omega⟩, fun e => ⟨⟨k + 1, by omega, fun q => by rw [hp] at q; cases q⟩, ⟨?_, wrapI (by omega) (by omega)⟩, by simp only; omega⟩⟩, fun hend => ?_⟩
      · simp only
        rw [cntK_succ hlt, if_pos e, wrapI (by omega) (by omega)]; omega
      · simp only
        rw [cntK_succ hlt, if_neg e]
      unfold cntV
      cases hp : planB p_W p_H p_CellsL
      · obtain rfl := hv hp
        rfl
      · rw [hp, Bool.and_true, decide_eq_false_iff_not] at hend
        rw [if_pos rfl, cnt8_count hpre.1 hpre.2, show k = p_CellsL.length by omega]
    · cases hg_
  · cases hg_
end Go.Proofs.Ytbjgaejmkhjbaaa
set_option linter.unusedVariables false
set_option linter.unusedSimpArgs false
set_option maxRecDepth 20000
namespace Go.Proofs.Ytbjgaejmkhjbaaa
open Go.Sx
def x11 : XFn := ⟨43, (.seq (.reg false [K1 2 .mv (.bool false)]) (.seq (.seq (.reg false [⟨(some 7), (.call 13), [], none⟩, O1 8 (.un .not) 7, O1 9 .mv 8, G1 10 .mv 0 9 false, G1 11 (.x .slen) 10 9 false, GK 12 (.bin .gtr) 11 (iV 5000) 9 false, ⟨(some 13), .pick, [(.t 9), (.k (.bool true)), (.t 12)], none⟩]) (.cond (.t 13) (.seq (.reg false [⟨(some 14), (.call 13), [], none⟩, O1 2 .mv 14]) .ret) .skip)) (.seq (.reg false [O1 16 .mv 0, O1 17 (.call 40) 16, O1 15 .mv 17, O1 18 (.ext 0) 15, O1 19 (.ext 1) 15, ⟨(some 3), (.alloc 46 [(iV 0), (iV 0), (.slice none 0 0)]), [], none⟩, ⟨none, (.store 3), [(.t 3), (.t 18)], none⟩, O1 4 .mv 19]) (.seq (.reg false [O1 21 .mv 0, O1 22 (.call 41) 21, O1 20 .mv 22, O1 23 (.ext 0) 20, O1 24 (.ext 1) 20, ⟨(some 5), (.alloc 46 [(iV 0), (iV 0), (.slice none 0 0)]), [], none⟩, ⟨none, (.store 3), [(.t 5), (.t 23)], none⟩, O1 6 .mv 24]) (.seq (.reg false [O1 25 .mv 4, O1 26 .mv 6, O2 27 (.bin .eql) 25 26, O1 28 .mv 27, G1 29 (.loadN 3) 3 28 true, G1 30 (.loadN 3) 5 28 true, G2 31 (.call 27) 29 30 28 true, ⟨(some 32), .pick, [(.t 28), (.t 31), (.k (.bool false))], none⟩, O1 33 .mv 32, G1 34 .mv 4 33 true, GK 35 (.bin .neq) 34 (iV 0) 33 true, G1 36 .mv 35 33 true, G1 37 (.loadN 3) 3 36 false, G1 38 (.call 42) 37 36 false, G1 39 .mv 0 36 false, ⟨(some 40), (.x (.sbin .eql)), [(.t 38), (.t 39)], (some (36, false))⟩, ⟨(some 41), .pick, [(.t 36), (.k (.bool true)), (.t 40)], (some (33, true))⟩, ⟨(some 42), .pick, [(.t 33), (.t 41), (.k (.bool false))], none⟩, O1 2 .mv 42]) .ret))))), [(.s 2)]⟩
theorem x11_ok : xfn Try.prog Try.f11 = some x11.er := by kernel_rfl
def x12 : XFn := ⟨103, (.seq (.reg false [O1 3 (.box 46) 0, K1 6 .mv (.bool false)]) (.seq (.seq (.reg false [⟨(some 15), (.call 13), [], none⟩, O1 16 (.un .not) 15, O1 17 .mv 16, G1 18 (.loadN 3) 3 17 false, G1 19 (.call 23) 18 17 false, G1 20 (.un .not) 19 17 false, ⟨(some 21), .pick, [(.t 17), (.k (.bool true)), (.t 20)], none⟩]) (.cond (.t 21) (.seq (.reg false [⟨(some 22), (.call 13), [], none⟩, O1 6 .mv 22]) .ret) .skip)) (.seq (.reg false [K1 7 .mv (.int .u8 0)]) (.seq (.seq (.reg false [O1 23 (.fld 2) 3, O1 24 .load1 23, O1 25 .lenS 24, K2 26 (.bin .gtr) 25 (iV 0)]) (.cond (.t 26) (.reg false [O1 27 (.fld 2) 3, O1 28 .load1 27, K2 29 (.ixS 1) 28 (iV 0), O1 30 .load1 29, O1 7 .mv 30]) .skip)) (.seq (.reg false [O1 32 .mv 1, O1 33 .mv 2, O1 34 .mv 7, ⟨(some 35), (.call 43), [(.t 32), (.t 33), (.t 34)], none⟩, O1 31 .mv 35, O1 36 (.ext 0) 31, O1 37 (.ext 1) 31, ⟨(some 8), (.alloc 46 [(iV 0), (iV 0), (.slice none 0 0)]), [], none⟩, ⟨none, (.store 3), [(.t 8), (.t 36)], none⟩, O1 9 .mv 37]) (.seq (.reg false [O1 39 .mv 1, O1 40 .mv 2, O1 41 .mv 7, ⟨(some 42), (.call 44), [(.t 39), (.t 40), (.t 41)], none⟩, O1 38 .mv 42, O1 43 (.ext 0) 38, O1 44 (.ext 1) 38, ⟨(some 10), (.alloc 46 [(iV 0), (iV 0), (.slice none 0 0)]), [], none⟩, ⟨none, (.store 3), [(.t 10), (.t 43)], none⟩, O1 11 .mv 44]) (.seq (.reg false [O1 45 (.loadN 3) 3, O1 46 (.call 42) 45, O1 12 .mv 46]) (.seq (.reg false [O1 48 .mv 12, O1 49 (.call 40) 48, O1 47 .mv 49, O1 50 (.ext 0) 47, O1 51 (.ext 1) 47, ⟨(some 13), (.alloc 46 [(iV 0), (iV 0), (.slice none 0 0)]), [], none⟩, ⟨none, (.store 3), [(.t 13), (.t 50)], none⟩, O1 14 .mv 51]) (.seq (.seq (.reg true [O1 52 .mv 9, O1 53 .mv 11, O2 54 (.bin .neq) 52 53, O1 55 .mv 54, G1 56 (.loadN 3) 8 55 false, G1 57 (.loadN 3) 10 55 false, G2 58 (.call 27) 56 57 55 false, G1 59 (.un .not) 58 55 false, ⟨(some 60), .pick, [(.t 55), (.k (.bool true)), (.t 59)], none⟩, O1 61 .mv 60, G1 62 (.loadN 3) 3 61 false, G1 63 (.call 45) 62 61 false, G1 64 (.loadN 3) 3 61 false, G1 65 (.call 46) 64 61 false, G2 66 (.binb .neq) 63 65 61 false, ⟨(some 67), .pick, [(.t 61), (.k (.bool true)), (.t 66)], none⟩, O1 68 .mv 67, G1 69 .mv 12 68 false, G1 70 (.loadN 3) 3 68 false, G1 71 (.call 47) 70 68 false, ⟨(some 72), (.x (.sbin .neq)), [(.t 69), (.t 71)], (some (68, false))⟩, ⟨(some 73), .pick, [(.t 68), (.k (.bool true)), (.t 72)], none⟩, O1 74 .mv 73, G1 75 (.loadN 3) 3 74 false, G1 76 .mv 7 74 false, G2 77 (.call 48) 75 76 74 false, G1 78 (.loadN 3) 3 74 false, G1 79 .mv 7 74 false, G2 80 (.call 49) 78 79 74 false, G2 81 (.bin .neq) 77 80 74 false, ⟨(some 82), .pick, [(.t 74), (.k (.bool true)), (.t 81)], none⟩]) (.cond (.t 82) (.seq (.reg false [K1 6 .mv (.bool false)]) .ret) .skip)) (.seq (.reg false [O1 83 (.loadN 3) 3, O1 84 (.call 46) 83, O1 85 .mv 84, G1 86 .mv 14 85 true, GK 87 (.bin .eql) 86 (iV 0) 85 true, ⟨(some 88), .pick, [(.t 85), (.t 87), (.k (.bool false))], none⟩, O1 89 .mv 88, G1 90 (.loadN 3) 13 89 true, G1 91 (.loadN 3) 3 89 true, G2 92 (.call 27) 90 91 89 true, ⟨(some 93), .pick, [(.t 89), (.t 92), (.k (.bool false))], none⟩, O1 94 .mv 93, G1 95 (.loadN 3) 3 94 false, G1 96 (.call 46) 95 94 false, G1 97 (.un .not) 96 94 false, G1 98 .mv 97 94 false, G1 99 .mv 14 98 true, GK 100 (.bin .eql) 99 (iV 3) 98 true, ⟨(some 101), .pick, [(.t 98), (.t 100), (.k (.bool false))], (some (94, false))⟩, ⟨(some 102), .pick, [(.t 94), (.k (.bool true)), (.t 101)], none⟩, O1 6 .mv 102]) .ret)))))))))), [(.s 6)]⟩
theorem x12_ok : xfn Try.prog Try.f12 = some x12.er := by kernel_rfl
/-- wayfinder/wayfinderlaw08.PlanParses -/
def g11 : Con := fun args_ E_ nn_ => match args_ with
  | [.c (.v (.string s))] => some (.q (True) (.o (.c (.v (.bool (true))))))
  | _ => none
theorem c11 : COk Try.prog 11 g11 := by
  refine cok_q Try.func11 x11_ok (by kernel_rfl) (cok_tab (cok_cons c13 (cok_cons c40 (cok_cons c41 (cok_cons c27 (cok_cons c42 cok_nil)))))) ?_
  intro args_ E_ nn_ cr_ hg_
  unfold g11 at hg_
  split at hg_
  · rename_i s
    cases hg_
    refine ⟨_, _, rfl, 0, [], [.c (.v (.string s))], [], .o (.c (.v (.bool (true)))), rfl, rfl, by simp only [push_cast, Nat.reduceLT, Nat.reduceAdd], by simp only [push_cast, Nat.reduceLT, Nat.reduceAdd], by simp only [push_cast, Nat.reduceLT, Nat.reduceAdd], rfl, trivial, rfl, ?_⟩
    intro hpre hlen
    refine ⟨trivial, ?_⟩
    simp (config := {maxSteps := 10000000}) only [x11, push_cast, Nat.reduceAdd, Nat.reduceSub, Nat.reduceLeDiff, Nat.reduceEqDiff, Nat.reduceBEq, Nat.reduceMul, Nat.reduceLT, reduceIte, reduceCtorEq, Int.reduceLE, Int.reduceLT, Int.reduceEq, Int.reduceMul, Int.reduceAdd, Int.reduceSub, Int.reduceNeg, Int.reduceToNat, Int.reduceNe, g13, g40, g41, g27, g42]
    exact fun _ => ⟨pa_u8 s, fun h => ⟨h, pa_u8 s⟩, by by_cases h : paE s = 0; exact .inr (pa_text h); exact .inl h⟩
  · cases hg_
/-- wayfinder/wayfinderlaw08.PlanNews -/
def g12 : Con := fun args_ E_ nn_ => match args_ with
  | [.a [.v (.int .i64 p_W), .v (.int .i64 p_H), .n p_Cells], .c (.v (.int .i64 w)), .c (.v (.int .i64 h))] => (match rowOf E_ p_Cells with
    | some (p_Cells_n, p_Cells_s, p_Cells_f) => some (.q (isRow eU8 p_Cells_n p_Cells_s p_Cells_f ∧ u8s (decL eU8 p_Cells_n p_Cells_f)) (.o (.c (.v (.bool (true))))))
    | none => none)
  | _ => none
theorem c12 : COk Try.prog 12 g12 := by
  refine cok_q Try.func12 x12_ok (by kernel_rfl) (cok_tab (cok_cons c13 (cok_cons c23 (cok_cons c43 (cok_cons c44 (cok_cons c42 (cok_cons c40 (cok_cons c27 (cok_cons c45 (cok_cons c46 (cok_cons c47 (cok_cons c48 (cok_cons c49 cok_nil))))))))))))) ?_
  intro args_ E_ nn_ cr_ hg_
  unfold g12 at hg_
  split at hg_
  · rename_i p_W p_H p_Cells w h
    split at hg_
    · rename_i p_Cells_n p_Cells_s p_Cells_f h_p_Cells
      cases hg_
      refine ⟨_, _, rfl, 1, [p_Cells], [.a [.v (.int .i64 p_W), .v (.int .i64 p_H), .n 0], .c (.v (.int .i64 w)), .c (.v (.int .i64 h))], [(0, .ro (decL eU8 p_Cells_n p_Cells_f).length eU8.sz (rowF eU8 (decL eU8 p_Cells_n p_Cells_f)))], .o (.c (.v (.bool (true)))), rfl, rfl, by simp only [push_cast, Nat.reduceLT, Nat.reduceAdd], by simp only [push_cast, Nat.reduceLT, Nat.reduceAdd], by simp only [push_cast, Nat.reduceLT, Nat.reduceAdd], rfl, ⟨inE0_row h_p_Cells, trivial⟩, rfl, ?_⟩
      intro hpre hlen
      obtain ⟨i_p_Cells, hpre⟩ := hpre
      refine ⟨⟨inE_row h_p_Cells i_p_Cells, trivial⟩, ?_⟩
      have z_p_Cells := lens_row (E := eU8) hlen h_p_Cells
      clear i_p_Cells
      generalize decL eU8 p_Cells_n p_Cells_f = p_CellsL at *
      clear h_p_Cells
      simp (config := {maxSteps := 10000000}) only [x12, push_cast, Nat.reduceAdd, Nat.reduceSub, Nat.reduceLeDiff, Nat.reduceEqDiff, Nat.reduceBEq, Nat.reduceMul, Nat.reduceLT, reduceIte, reduceCtorEq, Int.reduceLE, Int.reduceLT, Int.reduceEq, Int.reduceMul, Int.reduceAdd, Int.reduceSub, Int.reduceNeg, Int.reduceToNat, Int.reduceNe, g13, g23, g43, g44, g42, g40, g27, g45, g46, g47, g48, g49]
      intro hl
      have hnew : ∀ v : Int, 0 ≤ v ∧ v ≤ 255 → u8s (newL w h v) := fun v hv x hx => by
        unfold newL at hx
        split at hx
        · rw [List.eq_of_mem_replicate hx]; exact hv
        · cases hx
      refine ⟨fun h0 => ⟨h0, by omega, u8_at hpre (by omega), u8_at hpre (by omega), hpre, hnew _ (u8_at hpre (by omega)), hpre, ⟨hpre, u8_at hpre (by omega)⟩, ?_⟩, fun h0 => ⟨hpre, hnew 0 (by omega), hpre, hpre, ?_⟩⟩
      all_goals
        cases hp : planB p_W p_H p_CellsL
        · have z := pa_of_no hp
          exact ⟨fun q => (by cases q), fun q => ⟨q, fun _ => ⟨q, rfl⟩⟩, .inr ⟨rfl, z⟩⟩
        · have z := pa_of_text hp hpre
          exact ⟨fun _ a => ⟨⟨rfl, a⟩, pa_u8 _, hpre⟩, fun q => absurd q (by rw [z.1, z.2.1, z.2.2.1, z.2.2.2]; simp), .inl ⟨⟨rfl, z.1⟩, z.2.1, z.2.2.1, z.2.2.2⟩⟩
    · cases hg_
  · cases hg_
end Go.Proofs.Ytbjgaejmkhjbaaa
