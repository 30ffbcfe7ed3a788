/- A part of the proof of a statement about this seat: how a function is stepped through, and plain laws. No conditions. -/
import Derived.Test.YtjnelnofbpjdmaaRows
import Derived.Test.YtjnelnofbpjdmaaSz3
import Derived.Test.YtjnelnofbpjdmaaW5
import Derived.KernelRfl
set_option linter.unusedVariables false
set_option linter.unusedSimpArgs false
set_option maxRecDepth 20000
namespace Go.Proofs.Ytjnelnofbpjdmaa
open Go.Sx Go.Way
/-! ### Arcs that two arcs have in common -/
def arcH (F N h : Int) : Bool := arcB F N && decide ((h - F) % 256 < N)
def mtF (f : Int → Bool) (n : Nat) : List CC := (List.range n).filterMap fun h => if f (h : Nat) = true ∧ f (((h : Nat) - 1 : Int) % 256) = false then some ⟨(h : Nat), (ldN f (h : Nat) 256 : Nat)⟩ else none
def mtL (f : Int → Bool) : List CC := if (mtF f 256).length = 0 ∧ f 0 = true then [⟨0, 256⟩] else mtF f 256
theorem mtF_succ (f : Int → Bool) (n : Nat) : mtF f (n + 1) = mtF f n ++ (if f (n : Nat) = true ∧ f (((n : Nat) - 1 : Int) % 256) = false then [⟨(n : Nat), (ldN f (n : Nat) 256 : Nat)⟩] else []) := by
  unfold mtF
  rw [List.range_succ, List.filterMap_append]
  congr 1
  by_cases h : f (n : Nat) = true ∧ f (((n : Nat) - 1 : Int) % 256) = false
  · rw [if_pos h]; simp [h]
  · rw [if_neg h]
    simp only [List.filterMap_cons, List.filterMap_nil]
    rw [if_neg h]
theorem mtL_none {f : Int → Bool} (h : ∀ x, f x = false) : mtL f = [] := by
  have e : ∀ n, mtF f n = [] := by
    intro n
    induction n with
    | zero => rfl
    | succ n ih => rw [mtF_succ, ih, if_neg (by rw [h]; simp)]; rfl
  unfold mtL
  rw [e, if_neg (by rw [h]; simp)]
/-- The marks of one arc are one run. -/
theorem mtL_arc {F N : Int} {f : Int → Bool} (ha : arcB F N = true) (hf : ∀ h, f h = decide ((h - F) % 256 < N)) : mtL f = [⟨F, N⟩] := by
  have a := ha
  unfold arcB at a
  rw [decide_eq_true_eq] at a
  by_cases hN : N = 256
  · subst hN
    obtain rfl : F = 0 := by omega
    have ht : ∀ h, f h = true := fun h => by rw [hf, decide_eq_true_eq]; omega
    have e : ∀ n, mtF f n = [] := by
      intro n
      induction n with
      | zero => rfl
      | succ n ih => rw [mtF_succ, ih, if_neg (by rw [ht]; simp [ht])]; rfl
    unfold mtL
    rw [e, if_pos ⟨rfl, ht 0⟩]
  · have hc : ∀ n : Nat, n < 256 → ((f (n : Nat) = true ∧ f (((n : Nat) - 1 : Int) % 256) = false) ↔ (n : Int) = F) := by
      intro n hn
      rw [hf, hf, decide_eq_true_eq, decide_eq_false_iff_not]
      omega
    have hl : ldN f F 256 = N.toNat := by
      refine ldN_uniq 256 F N.toNat (by omega) (fun i hi => ?_) (fun hi => ?_)
      · rw [hf, decide_eq_true_eq]; omega
      · rw [hf, decide_eq_false_iff_not]; omega
    have e : ∀ n : Nat, n ≤ 256 → mtF f n = if F < n then [⟨F, N⟩] else [] := by
      intro n
      induction n with
      | zero => intro _; rw [if_neg (by omega)]; rfl
      | succ n ih =>
        intro hn
        rw [mtF_succ, ih (by omega)]
        by_cases g : (n : Int) = F
        · rw [if_neg (by omega), if_pos ((hc n (by omega)).2 g), if_pos (by omega)]
          simp only [List.nil_append]
          rw [g, hl]
          congr 2
          omega
        · rw [if_neg (fun z => g ((hc n (by omega)).1 z)), List.append_nil]
          by_cases q : F < n
          · rw [if_pos q, if_pos (by omega)]
          · rw [if_neg q, if_neg (by omega)]
    have e6 : mtF f 256 = [⟨F, N⟩] := (e 256 (Nat.le_refl _)).trans (if_pos (by omega))
    unfold mtL
    rw [e6, if_neg (by simp)]
/-! ### Boxes in boxes -/
def BB.sub (a b : BB) : Prop := b.X0 ≤ a.X0 ∧ a.X1 ≤ b.X1 ∧ b.Y0 ≤ a.Y0 ∧ a.Y1 ≤ b.Y1 ∧ ∀ h : Int, (h - a.F) % 256 < a.N → (h - b.F) % 256 < b.N
def BB.dis (a b : BB) : Prop := a.X1 < b.X0 ∨ b.X1 < a.X0 ∨ a.Y1 < b.Y0 ∨ b.Y1 < a.Y0 ∨ ∀ h : Int, ¬ ((h - a.F) % 256 < a.N ∧ (h - b.F) % 256 < b.N)
def BB.vol (a : BB) : Int := (a.X1 - a.X0 + 1) * (a.Y1 - a.Y0 + 1) * a.N
def volS : List BB → Int
  | [] => 0
  | b :: l => b.vol + volS l
theorem volS_app : ∀ (l k : List BB), volS (l ++ k) = volS l + volS k
  | [], k => by simp [volS]
  | b :: l, k => by rw [List.cons_append, volS, volS, volS_app l k]; omega
theorem sub_refl (a : BB) : a.sub a := ⟨Int.le_refl _, Int.le_refl _, Int.le_refl _, Int.le_refl _, fun _ h => h⟩
theorem sub_trans {a b c : BB} (h : a.sub b) (g : b.sub c) : a.sub c := ⟨Int.le_trans g.1 h.1, Int.le_trans h.2.1 g.2.1, Int.le_trans g.2.2.1 h.2.2.1, Int.le_trans h.2.2.2.1 g.2.2.2.1, fun x q => g.2.2.2.2 x (h.2.2.2.2 x q)⟩
theorem dis_symm {a b : BB} (h : a.dis b) : b.dis a := by
  rcases h with h | h | h | h | h
  · exact .inr (.inl h)
  · exact .inl h
  · exact .inr (.inr (.inr (.inl h)))
  · exact .inr (.inr (.inl h))
  · exact .inr (.inr (.inr (.inr fun x q => h x ⟨q.2, q.1⟩)))
theorem dis_sub {a b c : BB} (hs : a.sub b) (h : b.dis c) : a.dis c := by
  obtain ⟨s1, s2, s3, s4, s5⟩ := hs
  rcases h with h | h | h | h | h
  · exact .inl (by omega)
  · exact .inr (.inl (by omega))
  · exact .inr (.inr (.inl (by omega)))
  · exact .inr (.inr (.inr (.inl (by omega))))
  · exact .inr (.inr (.inr (.inr fun x q => h x ⟨s5 x q.1, q.2⟩)))
theorem vol_pos {a : BB} (h : a.ok = true) : 1 ≤ a.vol := by
  have p := box_parts h
  exact (mul_pos3 (a := a.X1 - a.X0 + 1) (b := a.Y1 - a.Y0 + 1) (c := a.N) (by omega) (by omega) (by omega)).1
theorem mul_le3 {a b c a' b' c' : Int} (h1 : 0 ≤ a) (h2 : 0 ≤ b) (h3 : 0 ≤ c) (g1 : a ≤ a') (g2 : b ≤ b') (g3 : c ≤ c') : a * b * c ≤ a' * b' * c' := by
  have e1 : a * b ≤ a' * b' := Int.mul_le_mul g1 g2 h2 (by omega)
  have e2 : 0 ≤ a' * b' := Int.mul_nonneg (by omega) (by omega)
  exact Int.mul_le_mul e1 g3 h3 e2
/-- Trimming takes away only. -/
theorem trm_in {W H : Int} {L : List Int} {S : List CC} {rng : Int} {b c : BB} (hb : b.ok = true) (h : trmO W H L S rng b = some c) : c.sub b ∧ c.vol ≤ b.vol := by
  have hc := trmO_ok hb h
  have p := box_parts hb
  have pc := box_parts hc
  unfold trmO at h
  split at h
  · cases h
  · unfold trmF at h
    split at h
    · cases h
    · rename_i hk
      have a0 := ldN_le (f := badF W H L S rng (max b.X0 0) (max b.Y0 0) (min b.X1 (64 * W)) (min b.Y1 (64 * H))) b.N.toNat b.F
      generalize ldN (badF W H L S rng (max b.X0 0) (max b.Y0 0) (min b.X1 (64 * W)) (min b.Y1 (64 * H))) b.F b.N.toNat = K at *
      generalize tlN (badF W H L S rng (max b.X0 0) (max b.Y0 0) (min b.X1 (64 * W)) (min b.Y1 (64 * H))) (b.F + (K : Int)) (b.N.toNat - K) = T at *
      cases h
      simp only at pc
      refine ⟨⟨?_, ?_, ?_, ?_, fun x hx => ?_⟩, ?_⟩
      · simp only; omega
      · simp only; omega
      · simp only; omega
      · simp only; omega
      · simp only at hx; omega
      · unfold BB.vol
        simp only
        exact mul_le3 (by omega) (by omega) (by omega) (by omega) (by omega) (by omega)
theorem half_in {b : BB} (hc : canB b = true) : (halfA b).sub b ∧ (halfB b).sub b ∧ (halfA b).dis (halfB b) ∧ (halfA b).vol + (halfB b).vol = b.vol := by
  have p := box_parts (can_iff.1 hc).1
  have s1 := sz_or (b.X1 - b.X0 + 1) 1
  have s2 := sz_or (b.Y1 - b.Y0 + 1) 1
  have s3 := sz_or b.N 8
  have q := (can_iff.1 hc).2
  unfold halfA halfB
  generalize szI (b.X1 - b.X0 + 1) 1 = sx at *
  generalize szI (b.Y1 - b.Y0 + 1) 1 = sy at *
  generalize szI b.N 8 = sh at *
  by_cases c1 : sy ≤ sx ∧ sh ≤ sx
  · rw [if_pos c1, if_pos c1]
    refine ⟨⟨?_, ?_, ?_, ?_, fun _ h => h⟩, ⟨?_, ?_, ?_, ?_, fun _ h => h⟩, .inl ?_, ?_⟩
    all_goals (try (simp only; omega))
    unfold BB.vol
    simp only
    have e : b.X1 - b.X0 + 1 = (b.X0 + (b.X1 - b.X0 + 1) / 2 - 1 - b.X0 + 1) + (b.X1 - (b.X0 + (b.X1 - b.X0 + 1) / 2) + 1) := by omega
    rw [← Int.add_mul, ← Int.add_mul, ← e]
  · rw [if_neg c1, if_neg c1]
    by_cases c2 : sh ≤ sy
    · rw [if_pos c2, if_pos c2]
      refine ⟨⟨?_, ?_, ?_, ?_, fun _ h => h⟩, ⟨?_, ?_, ?_, ?_, fun _ h => h⟩, .inr (.inr (.inl ?_)), ?_⟩
      all_goals (try (simp only; omega))
      unfold BB.vol
      simp only
      have e : b.Y1 - b.Y0 + 1 = (b.Y0 + (b.Y1 - b.Y0 + 1) / 2 - 1 - b.Y0 + 1) + (b.Y1 - (b.Y0 + (b.Y1 - b.Y0 + 1) / 2) + 1) := by omega
      rw [← Int.add_mul, ← Int.mul_add, ← e]
    · rw [if_neg c2, if_neg c2]
      refine ⟨⟨?_, ?_, ?_, ?_, fun x h => ?_⟩, ⟨?_, ?_, ?_, ?_, fun x h => ?_⟩, .inr (.inr (.inr (.inr fun x h => ?_))), ?_⟩
      all_goals (try (simp only; omega))
      · simp only at h; omega
      · simp only at h; omega
      · simp only at h; omega
      · unfold BB.vol
        simp only
        rw [← Int.mul_add]
        congr 1; omega
/-- What a step of the queue keeps: all is in the first box, no two boxes meet, and all together is not larger. -/
def tidy (b0 : BB) (l : List BB) : Prop := (∀ c ∈ l, c.ok = true ∧ c.sub b0) ∧ l.Pairwise BB.dis ∧ volS l ≤ b0.vol
theorem tidy_tail {b0 b : BB} {l : List BB} (h : tidy b0 (b :: l)) : tidy b0 l := by
  obtain ⟨h1, h2, h3⟩ := h
  have := vol_pos (h1 b List.mem_cons_self).1
  unfold volS at h3
  exact ⟨fun c hc => h1 c (List.mem_cons_of_mem _ hc), (List.pairwise_cons.1 h2).2, by omega⟩
theorem volS_perm {l k : List BB} (h : l.Perm k) : volS l = volS k := by
  induction h with
  | nil => rfl
  | cons x _ ih => unfold volS; rw [ih]
  | swap x y l => unfold volS; unfold volS; omega
  | trans _ _ h1 h2 => exact h1.trans h2
theorem tidy_perm {b0 : BB} {l k : List BB} (h : l.Perm k) (g : tidy b0 l) : tidy b0 k :=
  ⟨fun c hc => g.1 c (h.mem_iff.2 hc), (h.pairwise_iff fun hd => dis_symm hd).1 g.2.1, by rw [← volS_perm h]; exact g.2.2⟩
theorem tidy_one {b0 b c : BB} {l : List BB} (h : tidy b0 (b :: l)) (hc : c.ok = true) (hs : c.sub b ∧ c.vol ≤ b.vol) : tidy b0 (c :: l) := by
  obtain ⟨h1, h2, h3⟩ := h
  have hp := List.pairwise_cons.1 h2
  unfold volS at h3
  refine ⟨fun d hd => ?_, List.pairwise_cons.2 ⟨fun d hd => dis_sub hs.1 (hp.1 d hd), hp.2⟩, by unfold volS; omega⟩
  rcases List.mem_cons.1 hd with rfl | hd
  · exact ⟨hc, sub_trans hs.1 (h1 b List.mem_cons_self).2⟩
  · exact h1 d (List.mem_cons_of_mem _ hd)
theorem tidy_two {b0 c : BB} {l : List BB} (h : tidy b0 (c :: l)) (hc : canB c = true) : tidy b0 (halfA c :: halfB c :: l) := by
  obtain ⟨h1, h2, h3⟩ := h
  have hp := List.pairwise_cons.1 h2
  obtain ⟨a1, a2, a3, a4⟩ := half_in hc
  have ok := half_ok hc
  unfold volS at h3
  refine ⟨fun d hd => ?_, List.pairwise_cons.2 ⟨fun d hd => ?_, List.pairwise_cons.2 ⟨fun d hd => dis_sub a2 (hp.1 d hd), hp.2⟩⟩, by unfold volS; unfold volS; omega⟩
  · rcases List.mem_cons.1 hd with rfl | hd
    · exact ⟨ok.1, sub_trans a1 (h1 c List.mem_cons_self).2⟩
    · rcases List.mem_cons.1 hd with rfl | hd
      · exact ⟨ok.2, sub_trans a2 (h1 c List.mem_cons_self).2⟩
      · exact h1 d (List.mem_cons_of_mem _ hd)
  · rcases List.mem_cons.1 hd with rfl | hd
    · exact a3
    · exact dis_sub a1 (hp.1 d hd)
theorem only_rfn {W H : Int} {L : List Int} {rng sp : Int} {S : List CC} {b : BB} (hb : b.ok = true) : tidy b (rqL (trmO W H L S rng) [b] sp []) := by
  obtain ⟨sp', hi⟩ := rqL_inv (t := trmO W H L S rng) (q := [b]) (sp := sp) (out := []) (P := fun q _ out => tidy b (q ++ out))
    ⟨fun c hc => by simp at hc; subst hc; exact ⟨hb, sub_refl _⟩, by simp, by simp [volS]⟩
    (fun d q sp out h hn => tidy_tail h)
    (fun d c q sp out h hn hp hcan => by
      have hd := (h.1 d (by simp)).1
      have := tidy_two (tidy_one h (trmO_ok hd hn) (trm_in hd hn)) hcan
      refine tidy_perm ?_ this
      rw [List.append_assoc]
      exact (List.perm_append_comm_assoc [halfA c, halfB c] q out))
    (fun d c q sp out h hn => by
      have hd := (h.1 d (by simp)).1
      have := tidy_one h (trmO_ok hd hn) (trm_in hd hn)
      refine tidy_perm ?_ this
      exact (List.perm_append_comm (l₁ := [c]) (l₂ := q ++ out)).trans (by rw [List.append_assoc]))
  simpa using hi
/-! ### What heading.Meet, box.Inside and box.Meet compute -/
def inA (F N F2 N2 h : Int) : Bool := arcH F N h && arcH F2 N2 h
def mtA (F N F2 N2 : Int) : List CC := if (arcB F N && arcB F2 N2) = true then mtL (inA F N F2 N2) else []
theorem arcH_mod (F N h : Int) : arcH F N (h % 256) = arcH F N h := by
  unfold arcH
  congr 1
  exact decide_eq_decide.2 (by omega)
theorem inA_mod (F N F2 N2 h : Int) : inA F N F2 N2 (h % 256) = inA F N F2 N2 h := by
  unfold inA; rw [arcH_mod, arcH_mod]
theorem mtF_bd (f : Int → Bool) : ∀ n : Nat, (mtF f n).length ≤ n ∧ ∀ c ∈ mtF f n, 0 ≤ c.Y ∧ c.Y ≤ 256
  | 0 => ⟨Nat.le_refl _, fun c hc => by cases hc⟩
  | n + 1 => by
    obtain ⟨h1, h2⟩ := mtF_bd f n
    rw [mtF_succ]
    split
    · refine ⟨by rw [List.length_append, List.length_singleton]; omega, fun c hc => ?_⟩
      rcases List.mem_append.1 hc with g | g
      · exact h2 c g
      · simp only [List.mem_cons, List.not_mem_nil, or_false] at g
        subst g
        have := ldN_le (f := f) 256 (n : Nat)
        exact ⟨by simp only; omega, by simp only; omega⟩
    · rw [List.append_nil]; exact ⟨by omega, h2⟩
theorem mtA_bd (F N F2 N2 : Int) : (mtA F N F2 N2).length ≤ 256 ∧ ∀ c ∈ mtA F N F2 N2, 0 ≤ c.Y ∧ c.Y ≤ 256 := by
  unfold mtA
  split
  · unfold mtL
    split
    · refine ⟨by simp, fun c hc => ?_⟩
      simp only [List.mem_cons, List.not_mem_nil, or_false] at hc
      subst hc; simp
    · exact mtF_bd _ 256
  · exact ⟨by simp, fun c hc => by cases hc⟩
def sumY : List CC → Int
  | [] => 0
  | c :: l => c.Y + sumY l
theorem sumY_app : ∀ (l k : List CC), sumY (l ++ k) = sumY l + sumY k
  | [], k => by simp [sumY]
  | b :: l, k => by rw [List.cons_append, sumY, sumY, sumY_app l k]; omega
theorem sumY_take {l : List CC} {k : Nat} (h : k < l.length) : sumY (l.take (k + 1)) = sumY (l.take k) + (l.getD k eC.dflt).Y := by
  rw [List.take_succ_eq_append_getElem h, sumY_app, List.getD_eq_getElem?_getD, List.getElem?_eq_getElem h]
  simp [sumY]
theorem sumY_bd {l : List CC} (h : ∀ c ∈ l, 0 ≤ c.Y ∧ c.Y ≤ 256) : 0 ≤ sumY l ∧ sumY l ≤ 256 * l.length := by
  induction l with
  | nil => simp [sumY]
  | cons c l ih =>
    have h1 := h c List.mem_cons_self
    have h2 := ih fun d hd => h d (List.mem_cons_of_mem _ hd)
    unfold sumY
    rw [List.length_cons]
    omega
def inmB (a b : BB) : Bool := a.ok && b.ok && decide (b.X0 ≤ a.X0 ∧ a.X1 ≤ b.X1 ∧ b.Y0 ≤ a.Y0 ∧ a.Y1 ≤ b.Y1) && decide (sumY (mtA a.F a.N b.F b.N) = a.N)
def bmL (a b : BB) : List BB := if (a.ok && b.ok) = true ∧ max a.X0 b.X0 ≤ min a.X1 b.X1 ∧ max a.Y0 b.Y0 ≤ min a.Y1 b.Y1 then (mtA a.F a.N b.F b.N).map fun c => ⟨max a.X0 b.X0, max a.Y0 b.Y0, min a.X1 b.X1, min a.Y1 b.Y1, c.X, c.Y⟩ else []
theorem ok_arc {a : BB} (h : a.ok = true) : arcB a.F a.N = true := by
  have p := box_parts h
  unfold arcB; exact decide_eq_true (by omega)
theorem inm_true {a b : BB} (ha : a.ok = true) (hb : b.ok = true) (hs : a.sub b) : inmB a b = true := by
  have e : mtA a.F a.N b.F b.N = [⟨a.F, a.N⟩] := by
    unfold mtA
    rw [if_pos (by rw [ok_arc ha, ok_arc hb]; rfl)]
    refine mtL_arc (ok_arc ha) fun h => ?_
    unfold inA arcH
    rw [ok_arc ha, ok_arc hb, Bool.true_and, Bool.true_and]
    by_cases g : (h - a.F) % 256 < a.N
    · rw [decide_eq_true g, decide_eq_true (hs.2.2.2.2 h g)]; rfl
    · rw [decide_eq_false g]; rfl
  unfold inmB
  rw [e, ha, hb, decide_eq_true ⟨hs.1, hs.2.1, hs.2.2.1, hs.2.2.2.1⟩]
  simp [sumY]
theorem bm_none {a b : BB} (hd : a.dis b) : bmL a b = [] := by
  unfold bmL
  rcases hd with h | h | h | h | h
  · rw [if_neg (by omega)]
  · rw [if_neg (by omega)]
  · rw [if_neg (by omega)]
  · rw [if_neg (by omega)]
  · split
    · have e : mtA a.F a.N b.F b.N = [] := by
        unfold mtA
        split
        · refine mtL_none fun x => ?_
          unfold inA arcH
          rw [Bool.eq_false_iff]
          intro q
          simp only [Bool.and_eq_true, decide_eq_true_eq] at q
          exact h x ⟨q.1.2, q.2.2⟩
        · rfl
      rw [e]; rfl
    · rfl
/-! ### The law ContractOnly -/
theorem vol_eq {a : BB} (h : a.ok = true) : volI a.X0 a.Y0 a.X1 a.Y1 a.F a.N = a.vol := if_pos h
theorem volS_take {T : List BB} {k : Nat} (h : k < T.length) : volS (T.take (k + 1)) = volS (T.take k) + (T.getD k eB.dflt).vol := by
  rw [List.take_succ_eq_append_getElem h, volS_app, List.getD_eq_getElem?_getD, List.getElem?_eq_getElem h]
  simp [volS]
theorem volS_le {T : List BB} (h : ∀ c ∈ T, c.ok = true) : ∀ k, 0 ≤ volS (T.take k) ∧ volS (T.take k) ≤ volS T := by
  intro k
  have e : T = T.take k ++ T.drop k := (List.take_append_drop k T).symm
  have hp : ∀ l : List BB, (∀ c ∈ l, c.ok = true) → 0 ≤ volS l := by
    intro l
    induction l with
    | nil => intro _; exact Int.le_refl _
    | cons c l ih =>
      intro g
      have h1 := vol_pos (g c List.mem_cons_self)
      have h2 := ih fun d hd => g d (List.mem_cons_of_mem _ hd)
      unfold volS; omega
  have h1 := hp (T.take k) fun c hc => h c (List.mem_of_mem_take hc)
  have h2 := hp (T.drop k) fun c hc => h c (List.mem_of_mem_drop hc)
  have h3 : volS T = volS (T.take k) + volS (T.drop k) := by rw [← volS_app, List.take_append_drop]
  omega
theorem dis_at {T : List BB} (h : T.Pairwise BB.dis) {i j : Nat} (hj : j < i) (hi : i < T.length) : (T.getD i eB.dflt).dis (T.getD j eB.dflt) := by
  have := List.pairwise_iff_getElem.1 h j i (by omega) hi hj
  rw [List.getD_eq_getElem?_getD, List.getElem?_eq_getElem hi, List.getD_eq_getElem?_getD, List.getElem?_eq_getElem (by omega)]
  exact dis_symm this
/-- With no beams nothing within the plan is taken away. -/
theorem trm_all {W H : Int} {L : List Int} {rng : Int} {b : BB} (hb : b.ok = true) (h : 0 ≤ b.X0 ∧ 0 ≤ b.Y0 ∧ b.X1 ≤ 64 * W ∧ b.Y1 ≤ 64 * H) : trmO W H L [] rng b = some b := by
  have p := box_parts hb
  have hf : ∀ x0 y0 x1 y1 x, badF W H L [] rng x0 y0 x1 y1 x = false := by
    intro x0 y0 x1 y1 x
    unfold badF badB badI
    simp
  unfold trmO
  rw [if_neg (by omega)]
  unfold trmF
  rw [ldN_none (hf _ _ _ _), if_neg (by omega), tlN_none (hf _ _ _ _)]
  cases b with
  | mk X0 Y0 X1 Y1 F N =>
  simp only at h p
  congr 1
  simp only [BB.mk.injEq]
  omega
theorem len_vol {T : List BB} (h : ∀ c ∈ T, c.ok = true) : (T.length : Int) ≤ volS T := by
  induction T with
  | nil => exact Int.le_refl _
  | cons c l ih =>
    have h1 := vol_pos (h c List.mem_cons_self)
    have h2 := ih fun d hd => h d (List.mem_cons_of_mem _ hd)
    unfold volS; rw [List.length_cons]; omega
theorem vol_bd {b : BB} (h : b.ok = true) : b.vol ≤ 2097153 * 2097153 * 256 := by
  have p := box_parts h
  unfold BB.vol
  exact mul_le3 (by omega) (by omega) (by omega) (by omega) (by omega) (by omega)
def x81 : XFn := ⟨3, (.seq (.reg false [K1 0 .mv (.slice none 0 0)]) (.seq (.reg false [⟨(some 1), (.build [(iV 0), (iV 0)] [(1, 1)]), [(.k (iV 256))], none⟩, O1 2 (.call 78) 1, O1 0 .mv 2]) .ret)), [(.s 0)]⟩
theorem x81_ok : xfn Try.prog Try.f81 = some x81.er := by kernel_rfl
def x80 : XFn := ⟨13, (.seq (.reg false [K1 4 .mv (.bool false)]) (.seq (.reg false [O1 5 (.loadN 2) 1, O1 6 .mv 0, O2 7 (.call 55) 5 6, O1 8 .mv 7, G1 9 (.loadN 2) 2 8 true, G1 10 .mv 0 8 true, G2 11 (.call 55) 9 10 8 true, ⟨(some 12), .pick, [(.t 8), (.t 11), (.k (.bool false))], none⟩, O1 4 .mv 12]) .ret)), [(.s 4)]⟩
theorem x80_ok : xfn Try.prog Try.f80 = some x80.er := by kernel_rfl
def x45L0 : XC := (.seq (.seq (.reg false [O1 35 .mv 6, O1 36 .mv 8, O1 37 .mv 9, O2 38 (.bin .add) 36 37, O2 39 .callv 35 38]) (.cond (.t 39) .skip (.exit 2))) (.block 3 (.reg false [O1 40 .mv 9, K2 41 (.bin .add) 40 (iV 1), O1 9 .mv 41])))
def x45L1 : XC := (.seq (.reg false [O2 22 (.bin .lss) 21 20]) (.seq (.cond (.t 22) .skip (.exit 0)) (.seq (.block 1 (.seq (.reg false [O2 23 (.ixS 1) 19 21, O1 24 .load1 23, O1 8 .mv 24]) (.seq (.seq (.reg false [O1 25 .mv 6, O1 26 .mv 8, O2 27 .callv 25 26, O1 28 (.un .not) 27, O1 29 .mv 28, G1 30 .mv 6 29 false, G1 31 .mv 8 29 false, GK 32 (.bin .sub) 31 (iV 1) 29 false, G2 33 .callv 30 32 29 false, ⟨(some 34), .pick, [(.t 29), (.k (.bool true)), (.t 33)], none⟩]) (.cond (.t 34) (.exit 1) .skip)) (.seq (.reg false [K1 9 .mv (iV 1)]) (.seq (.block 2 (.loop x45L0)) (.reg false [O1 42 .mv 5, O1 43 .mv 8, O1 44 .mv 9, ⟨(some 45), (.build [(iV 0), (iV 0)] [(0, 1), (1, 1)]), [(.t 43), (.t 44)], none⟩, ⟨(some 46), (.slit 90 1 2 [(iV 0), (iV 0)] [(0, 2)]), [(.t 45)], none⟩, O2 47 (.app 90 2 16) 42 46, O1 5 .mv 47])))))) (.reg false [K2 48 (.bin .add) 21 (iV 1), O1 21 .mv 48]))))
def x45 : XFn := ⟨61, (.seq (.reg false [O1 2 (.box 90) 0, O1 3 (.box 90) 1, K1 4 .mv (.slice none 0 0)]) (.seq (.seq (.reg false [O1 10 (.loadN 2) 2, O1 11 (.call 77) 10, O1 12 (.un .not) 11, O1 13 .mv 12, G1 14 (.loadN 2) 3 13 false, G1 15 (.call 77) 14 13 false, G1 16 (.un .not) 15 13 false, ⟨(some 17), .pick, [(.t 13), (.k (.bool true)), (.t 16)], none⟩]) (.cond (.t 17) (.seq (.reg false [K1 4 .mv (.slice none 0 0)]) .ret) .skip)) (.seq (.reg false [K1 5 .mv (.slice none 0 0)]) (.seq (.reg false [⟨(some 18), (.x (.mkf 80)), [(.t 2), (.t 3)], none⟩, O1 6 .mv 18]) (.seq (.seq (.reg false [⟨(some 19), (.call 81), [], none⟩, O1 20 .lenS 19, K1 21 .mv (iV 0)]) (.block 0 (.loop x45L1))) (.seq (.seq (.reg false [O1 49 .mv 5, O1 50 .lenS 49, K2 51 (.bin .eql) 50 (iV 0), O1 52 .mv 51, G1 53 .mv 6 52 true, GK 54 .callv 53 (iV 0) 52 true, ⟨(some 55), .pick, [(.t 52), (.t 54), (.k (.bool false))], none⟩]) (.cond (.t 55) (.reg false [O1 56 .mv 5, ⟨(some 57), (.build [(iV 0), (iV 0)] [(1, 1)]), [(.k (iV 256))], none⟩, ⟨(some 58), (.slit 90 1 2 [(iV 0), (iV 0)] [(0, 2)]), [(.t 57)], none⟩, O2 59 (.app 90 2 16) 56 58, O1 5 .mv 59]) .skip)) (.seq (.reg false [O1 60 .mv 5, O1 4 .mv 60]) .ret))))))), [(.s 4)]⟩
theorem x45_ok : xfn Try.prog Try.f45 = some x45.er := by kernel_rfl
def x18L0 : XC := (.seq (.reg false [O2 51 (.bin .lss) 50 49]) (.seq (.cond (.t 51) .skip (.exit 0)) (.seq (.block 1 (.seq (.reg false [O2 52 (.ixS 2) 48 50, O1 53 (.loadN 2) 52, ⟨(some 7), (.alloc 90 [(iV 0), (iV 0)]), [], none⟩, ⟨none, (.store 2), [(.t 7), (.t 53)], none⟩]) (.reg false [O1 54 .mv 5, O1 55 (.fld 1) 7, O1 56 .load1 55, O2 57 (.bin .add) 54 56, O1 5 .mv 57]))) (.reg false [K2 58 (.bin .add) 50 (iV 1), O1 50 .mv 58]))))
def x18 : XFn := ⟨63, (.seq (.reg false [O1 2 (.box 46) 0, O1 3 (.box 46) 1, K1 4 .mv (.bool false)]) (.seq (.seq (.reg false [O1 8 (.loadN 6) 2, O1 9 (.call 42) 8, O1 10 (.un .not) 9, O1 11 .mv 10, G1 12 (.loadN 6) 3 11 false, G1 13 (.call 42) 12 11 false, G1 14 (.un .not) 13 11 false, ⟨(some 15), .pick, [(.t 11), (.k (.bool true)), (.t 14)], none⟩, O1 16 .mv 15, G1 17 (.fld 0) 2 16 false, G1 18 .load1 17 16 false, G1 19 (.fld 0) 3 16 false, G1 20 .load1 19 16 false, G2 21 (.bin .lss) 18 20 16 false, ⟨(some 22), .pick, [(.t 16), (.k (.bool true)), (.t 21)], none⟩, O1 23 .mv 22, G1 24 (.fld 2) 2 23 false, G1 25 .load1 24 23 false, G1 26 (.fld 2) 3 23 false, G1 27 .load1 26 23 false, G2 28 (.bin .gtr) 25 27 23 false, ⟨(some 29), .pick, [(.t 23), (.k (.bool true)), (.t 28)], none⟩, O1 30 .mv 29, G1 31 (.fld 1) 2 30 false, G1 32 .load1 31 30 false, G1 33 (.fld 1) 3 30 false, G1 34 .load1 33 30 false, G2 35 (.bin .lss) 32 34 30 false, ⟨(some 36), .pick, [(.t 30), (.k (.bool true)), (.t 35)], none⟩, O1 37 .mv 36, G1 38 (.fld 3) 2 37 false, G1 39 .load1 38 37 false, G1 40 (.fld 3) 3 37 false, G1 41 .load1 40 37 false, G2 42 (.bin .gtr) 39 41 37 false, ⟨(some 43), .pick, [(.t 37), (.k (.bool true)), (.t 42)], none⟩]) (.cond (.t 43) (.seq (.reg false [K1 4 .mv (.bool false)]) .ret) .skip)) (.seq (.reg false [K1 5 .mv (iV 0)]) (.seq (.seq (.regD [O1 44 (.loadN 6) 2, O1 45 (.call 46) 44, O1 46 (.loadN 6) 3, O1 47 (.call 46) 46, O2 48 (.call 45) 45 47, O1 49 .lenS 48, K1 50 .mv (iV 0)] [[], [0], [], [2, 1, 0], [1, 0, 3, 2], [4, 1, 0, 3, 2], []]) (.block 0 (.loop x18L0))) (.seq (.reg false [O1 59 .mv 5, O1 60 (.fld 5) 2, O1 61 .load1 60, O2 62 (.bin .eql) 59 61, O1 4 .mv 62]) .ret))))), [(.s 4)]⟩
theorem x18_ok : xfn Try.prog Try.f18 = some x18.er := by kernel_rfl
def x19L0 : XC := (.seq (.reg false [O2 59 (.bin .lss) 58 57]) (.seq (.cond (.t 59) .skip (.exit 0)) (.seq (.block 1 (.seq (.reg false [O2 60 (.ixS 2) 56 58, O1 61 (.loadN 2) 60, ⟨(some 8), (.alloc 90 [(iV 0), (iV 0)]), [], none⟩, ⟨none, (.store 2), [(.t 8), (.t 61)], none⟩]) (.reg false [O1 62 .mv 6, O1 63 (.loadN 4) 5, O1 64 (.loadN 2) 8, O2 65 (.call 47) 63 64, ⟨(some 66), (.slit 46 1 6 [(iV 0), (iV 0), (iV 0), (iV 0), (iV 0), (iV 0)] [(0, 6)]), [(.t 65)], none⟩, O2 67 (.app 46 6 48) 62 66, O1 6 .mv 67]))) (.reg false [K2 68 (.bin .add) 58 (iV 1), O1 58 .mv 68]))))
def x19 : XFn := ⟨70, (.seq (.reg false [O1 2 (.box 46) 0, O1 3 (.box 46) 1, K1 4 .mv (.slice none 0 0)]) (.seq (.reg false [O1 9 (.fld 0) 2, O1 10 .load1 9, O1 11 (.fld 0) 3, O1 12 .load1 11, O2 13 .maxI 10 12, O1 14 (.fld 1) 2, O1 15 .load1 14, O1 16 (.fld 1) 3, O1 17 .load1 16, O2 18 .maxI 15 17, O1 19 (.fld 2) 2, O1 20 .load1 19, O1 21 (.fld 2) 3, O1 22 .load1 21, O2 23 .minI 20 22, O1 24 (.fld 3) 2, O1 25 .load1 24, O1 26 (.fld 3) 3, O1 27 .load1 26, O2 28 .minI 25 27, ⟨(some 29), (.build [(iV 0), (iV 0), (iV 0), (iV 0)] [(0, 1), (1, 1), (2, 1), (3, 1)]), [(.t 13), (.t 18), (.t 23), (.t 28)], none⟩, ⟨(some 5), (.alloc 26 [(iV 0), (iV 0), (iV 0), (iV 0)]), [], none⟩, ⟨none, (.store 4), [(.t 5), (.t 29)], none⟩]) (.seq (.seq (.reg false [O1 30 (.loadN 6) 2, O1 31 (.call 42) 30, O1 32 (.un .not) 31, O1 33 .mv 32, G1 34 (.loadN 6) 3 33 false, G1 35 (.call 42) 34 33 false, G1 36 (.un .not) 35 33 false, ⟨(some 37), .pick, [(.t 33), (.k (.bool true)), (.t 36)], none⟩, O1 38 .mv 37, G1 39 (.fld 0) 5 38 false, G1 40 .load1 39 38 false, G1 41 (.fld 2) 5 38 false, G1 42 .load1 41 38 false, G2 43 (.bin .gtr) 40 42 38 false, ⟨(some 44), .pick, [(.t 38), (.k (.bool true)), (.t 43)], none⟩, O1 45 .mv 44, G1 46 (.fld 1) 5 45 false, G1 47 .load1 46 45 false, G1 48 (.fld 3) 5 45 false, G1 49 .load1 48 45 false, G2 50 (.bin .gtr) 47 49 45 false, ⟨(some 51), .pick, [(.t 45), (.k (.bool true)), (.t 50)], none⟩]) (.cond (.t 51) (.seq (.reg false [K1 4 .mv (.slice none 0 0)]) .ret) .skip)) (.seq (.reg false [K1 6 .mv (.slice none 0 0)]) (.seq (.seq (.regD [O1 52 (.loadN 6) 2, O1 53 (.call 46) 52, O1 54 (.loadN 6) 3, O1 55 (.call 46) 54, O2 56 (.call 45) 53 55, O1 57 .lenS 56, K1 58 .mv (iV 0)] [[], [0], [], [2, 1, 0], [1, 0, 3, 2], [4, 1, 0, 3, 2], []]) (.block 0 (.loop x19L0))) (.seq (.reg false [O1 69 .mv 6, O1 4 .mv 69]) .ret)))))), [(.s 4)]⟩
theorem x19_ok : xfn Try.prog Try.f19 = some x19.er := by kernel_rfl
def x5L0 : XC := (.seq (.seq (.reg false [O1 69 .mv 11, O1 70 .mv 10, O2 71 (.bin .lss) 69 70]) (.cond (.t 71) .skip (.exit 2))) (.seq (.block 3 (.seq (.regD [O1 74 .mv 7, O1 75 .mv 10, O2 76 (.ixS 6) 74 75, O1 77 (.loadN 6) 76, O1 78 .mv 7, O1 79 .mv 11, O2 80 (.ixS 6) 78 79, O1 81 (.loadN 6) 80, O2 82 (.call 19) 77 81, O1 83 .lenS 82, K2 84 (.bin .gtr) 83 (iV 0)] [[], [], [0, 1], [2, 0, 1], [], [], [4, 5], [6, 4, 5], [3, 2, 0, 1, 7, 6, 4, 5], [8, 3, 2, 0, 1, 7, 6, 4, 5], [9, 8, 3, 2, 0, 1, 7, 6, 4, 5]]) (.cond (.t 84) (.seq (.reg false [K1 6 .mv (.bool false)]) .ret) .skip))) (.reg false [O1 72 .mv 11, K2 73 (.bin .add) 72 (iV 1), O1 11 .mv 73])))
def x5L1 : XC := (.seq (.seq (.reg false [O1 56 .mv 10, O1 57 .mv 7, O1 58 .lenS 57, O2 59 (.bin .lss) 56 58]) (.cond (.t 59) .skip (.exit 0))) (.seq (.block 1 (.seq (.seq (.reg true [O1 62 .mv 7, O1 63 .mv 10, O2 64 (.ixS 6) 62 63, O1 65 (.loadN 6) 64, O1 66 (.loadN 6) 4, O2 67 (.call 18) 65 66, O1 68 (.un .not) 67]) (.cond (.t 68) (.seq (.reg false [K1 6 .mv (.bool false)]) .ret) .skip)) (.seq (.seq (.reg false [K1 11 .mv (iV 0)]) (.block 2 (.loop x5L0))) (.reg false [O1 85 .mv 9, O1 86 .mv 7, O1 87 .mv 10, O2 88 (.ixS 6) 86 87, O1 89 (.loadN 6) 88, O1 90 (.call 20) 89, O2 91 (.bin .add) 85 90, O1 9 .mv 91])))) (.reg false [O1 60 .mv 10, K2 61 (.bin .add) 60 (iV 1), O1 10 .mv 61])))
def x5 : XFn := ⟨140, (.seq (.reg false [O1 3 (.box 24) 0, O1 4 (.box 46) 1, O1 5 (.box 49) 2, K1 6 .mv (.bool false)]) (.seq (.seq (.reg false [⟨(some 15), (.call 8), [], none⟩, O1 16 (.un .not) 15, O1 17 .mv 16, G1 18 (.loadN 3) 3 17 false, G1 19 (.fld 0) 5 17 false, G1 20 .load1 19 17 false, G2 21 (.call 9) 18 20 17 false, G1 22 (.un .not) 21 17 false, ⟨(some 23), .pick, [(.t 17), (.k (.bool true)), (.t 22)], none⟩, O1 24 .mv 23, G1 25 (.loadN 6) 4 24 false, G1 26 (.call 15) 25 24 false, G1 27 (.un .not) 26 24 false, ⟨(some 28), .pick, [(.t 24), (.k (.bool true)), (.t 27)], none⟩, O1 29 .mv 28, G1 30 (.fld 0) 5 29 false, G1 31 .load1 30 29 false, G1 32 .lenS 31 29 false, GK 33 (.bin .eql) 32 (iV 3) 29 false, ⟨(some 34), .pick, [(.t 29), (.k (.bool true)), (.t 33)], none⟩]) (.cond (.t 34) (.seq (.reg false [⟨(some 35), (.call 8), [], none⟩, O1 6 .mv 35]) .ret) .skip)) (.seq (.regD [O1 37 (.loadN 3) 3, O1 38 (.loadN 6) 4, ⟨(some 39), (.slit 46 1 6 [(iV 0), (iV 0), (iV 0), (iV 0), (iV 0), (iV 0)] [(0, 6)]), [(.t 38)], none⟩, O1 40 (.fld 0) 5, O1 41 .load1 40, O1 42 (.fld 1) 5, O1 43 .load1 42, O1 44 (.fld 2) 5, O1 45 (.fld 2) 44, O1 46 .load1 45, K2 47 (.call 17) 46 (iV 5), ⟨(some 48), (.call 16), [(.t 37), (.t 39), (.t 41), (.t 43), (.t 47)], none⟩, O1 36 .mv 48, O1 49 (.ext 0) 36, O1 50 (.ext 1) 36, O1 7 .mv 49, O1 8 .mv 50] [[], [], [1], [], [3], [], [5], [], [7], [8, 7], [9, 8, 7], [0, 2, 1, 4, 3, 6, 5, 10, 9, 8, 7], [11, 0, 2, 1, 4, 3, 6, 5, 10, 9, 8, 7], [12, 11, 0, 2, 1, 4, 3, 6, 5, 10, 9, 8, 7], [12, 11, 0, 2, 1, 4, 3, 6, 5, 10, 9, 8, 7], [13, 12, 11, 0, 2, 1, 4, 3, 6, 5, 10, 9, 8, 7], [14, 12, 11, 0, 2, 1, 4, 3, 6, 5, 10, 9, 8, 7, 15, 13]]) (.seq (.seq (.reg false [O1 51 .mv 8, K2 52 (.bin .neq) 51 (iV 0)]) (.cond (.t 52) (.seq (.reg false [O1 53 .mv 7, O1 54 .lenS 53, K2 55 (.bin .eql) 54 (iV 0), O1 6 .mv 55]) .ret) .skip)) (.seq (.reg false [K1 9 .mv (iV 0)]) (.seq (.seq (.reg false [K1 10 .mv (iV 0)]) (.block 0 (.loop x5L1))) (.seq (.reg false [O1 93 (.loadN 3) 3, O1 94 (.loadN 6) 4, O1 95 (.fld 1) 5, O1 96 .load1 95, ⟨(some 97), (.call 21), [(.t 93), (.t 94), (.k (.slice none 0 0)), (.t 96)], none⟩, O1 92 .mv 97, O1 98 (.ext 0) 92, O1 99 (.ext 1) 92, ⟨(some 12), (.alloc 46 [(iV 0), (iV 0), (iV 0), (iV 0), (iV 0), (iV 0)]), [], none⟩, ⟨none, (.store 6), [(.t 12), (.t 98)], none⟩, O1 13 .mv 99]) (.seq (.reg false [O1 100 (.fld 0) 4, O1 101 .load1 100, K2 102 (.bin .geq) 101 (iV 0), O1 103 .mv 102, G1 104 (.fld 1) 4 103 true, G1 105 .load1 104 103 true, GK 106 (.bin .geq) 105 (iV 0) 103 true, ⟨(some 107), .pick, [(.t 103), (.t 106), (.k (.bool false))], none⟩, O1 108 .mv 107, G1 109 (.fld 2) 4 108 true, G1 110 .load1 109 108 true, G1 111 (.fld 0) 3 108 true, G1 112 .load1 111 108 true, GK 113 (.bin .mul) 112 (iV 64) 108 true, G2 114 (.bin .leq) 110 113 108 true, ⟨(some 115), .pick, [(.t 108), (.t 114), (.k (.bool false))], none⟩, O1 116 .mv 115, G1 117 (.fld 3) 4 116 true, G1 118 .load1 117 116 true, G1 119 (.fld 1) 3 116 true, G1 120 .load1 119 116 true, GK 121 (.bin .mul) 120 (iV 64) 116 true, G2 122 (.bin .leq) 118 121 116 true, ⟨(some 123), .pick, [(.t 116), (.t 122), (.k (.bool false))], none⟩, O1 14 .mv 123]) (.seq (.reg false [O1 124 .mv 9, O1 125 (.loadN 6) 4, O1 126 (.call 20) 125, O2 127 (.bin .leq) 124 126, O1 128 .mv 127, G1 129 .mv 14 128 true, G1 130 (.un .not) 129 128 true, G1 131 .mv 130 128 true, G1 132 .mv 13 131 false, G1 133 .mv 132 131 false, G1 134 (.loadN 6) 12 133 true, G1 135 (.loadN 6) 4 133 true, ⟨(some 136), (.eqA false [(.i .i64), (.i .i64), (.i .i64), (.i .i64), (.i .i64), (.i .i64)]), [(.t 134), (.t 135)], (some (133, true))⟩, ⟨(some 137), .pick, [(.t 133), (.t 136), (.k (.bool false))], (some (131, false))⟩, ⟨(some 138), .pick, [(.t 131), (.k (.bool true)), (.t 137)], (some (128, true))⟩, ⟨(some 139), .pick, [(.t 128), (.t 138), (.k (.bool false))], none⟩, O1 6 .mv 139]) .ret))))))))), [(.s 6)]⟩
theorem x5_ok : xfn Try.prog Try.f5 = some x5.er := by kernel_rfl
/-- wayfinder/heading.marks -/
def g81 : Con := fun args_ E_ nn_ => match args_ with
  | [] => some (.e (True) (.o (.c (.n (nn_ + 0)))) [((nn_ + 0), .own (arcL 0 256).length 1 (rowF eI (arcL 0 256)) 3)] (nn_ + 1))
  | _ => none
theorem c81 : COk Try.prog 81 g81 := by
  refine cok_e Try.func81 x81_ok (by kernel_rfl) (cok_tab (cok_cons c78 cok_nil)) ?_
  intro args_ E_ nn_ cr_ hg_
  unfold g81 at hg_
  split at hg_
  · skip
    cases hg_
    refine ⟨_, _, _, _, rfl, 0, [], [], [], .o (.c (.n 0)), [(0, .own (arcL 0 256).length 1 (rowF eI (arcL 0 256)) 3)], 1, rfl, rfl, by simp only [renE, Ent.ren, rowF_renf] <;> rfl, rfl, by decide, by simp only [push_cast, Nat.reduceLT, Nat.reduceAdd], by simp only [push_cast, Nat.reduceLT, Nat.reduceAdd], by simp only [push_cast, Nat.reduceLT, Nat.reduceAdd], by simp only [push_cast, Nat.reduceLT, Nat.reduceAdd], rfl, trivial, by simp only [keysNodup, outN, keys] <;> decide, rfl, rfl, ?_⟩
    intro hpre hlen
    refine ⟨trivial, by simp only [apartE] <;> (first | trivial | (simp [Ent.mut]; done)), ?_⟩
    simp (config := {maxSteps := 10000000}) only [x81, push_cast, Nat.reduceAdd, Nat.reduceSub, Nat.reduceLeDiff, Nat.reduceEqDiff, Nat.reduceBEq, Nat.reduceMul, Nat.reduceLT, reduceIte, reduceCtorEq, Int.reduceLE, Int.reduceLT, Int.reduceEq, Int.reduceMul, Int.reduceAdd, Int.reduceSub, Int.reduceNeg, Int.reduceToNat, Int.reduceNe, g78]
  · cases hg_
/-- wayfinder/heading.Meet$1 -/
def g80 : Con := fun args_ E_ nn_ => match args_ with
  | [.c (.v (.int .i64 h)), .c (.p a 0), .c (.p b 0)] => (match E_ a with
    | some (.box [.v (.int .i64 a_From), .v (.int .i64 a_Count)] a_ty) => (match E_ b with
    | some (.box [.v (.int .i64 b_From), .v (.int .i64 b_Count)] b_ty) => some (.q (a ≠ b ∧ True) (.o (.c (.v (.bool (inA a_From a_Count b_From b_Count h))))))
    | _ => none)
    | _ => none)
  | _ => none
theorem c80 : COk Try.prog 80 g80 := by
  refine cok_r Try.func80 x80_ok (by kernel_rfl) (cok_tab (cok_cons c55 cok_nil)) ?_
  intro args_ E_ nn_ cr_ hg_
  unfold g80 at hg_
  split at hg_
  · rename_i h a b
    split at hg_
    · rename_i a_From a_Count a_ty h_a
      split at hg_
      · rename_i b_From b_Count b_ty h_b
        cases hg_
        refine ⟨_, _, rfl, 2, [a, b], [.c (.v (.int .i64 h)), .c (.p 0 0), .c (.p 1 0)], [(0, .box [.v (.int .i64 a_From), .v (.int .i64 a_Count)] a_ty), (1, .box [.v (.int .i64 b_From), .v (.int .i64 b_Count)] b_ty)], .o (.c (.v (.bool (inA a_From a_Count b_From b_Count h)))), rfl, rfl, by simp only [push_cast, Nat.reduceLT, Nat.reduceAdd], by simp only [push_cast, Nat.reduceLT, Nat.reduceAdd], by simp only [push_cast, Nat.reduceLT, Nat.reduceAdd], rfl, ⟨⟨_, h_a⟩, ⟨_, h_b⟩, trivial⟩, rfl, ?_⟩
        intro hpre hlen
        obtain ⟨n_a_b, hpre⟩ := hpre
        have hap : apartE (sg 2 nn_ [a, b]) [(0, .box [.v (.int .i64 a_From), .v (.int .i64 a_Count)] a_ty), (1, .box [.v (.int .i64 b_From), .v (.int .i64 b_Count)] b_ty)] [(0, .box [.v (.int .i64 a_From), .v (.int .i64 a_Count)] a_ty), (1, .box [.v (.int .i64 b_From), .v (.int .i64 b_Count)] b_ty)] := by
          refine ⟨fun _ k2 e2 hm hne => ?_, ?_⟩
          · simp only [List.mem_cons, List.not_mem_nil, or_false, Prod.mk.injEq] at hm
            rcases hm with ⟨rfl, _⟩ | ⟨rfl, _⟩
            · exact absurd rfl hne
            · exact fun hh => n_a_b (Eq.symm (show b = a from hh))
          refine ⟨fun _ k2 e2 hm hne => ?_, ?_⟩
          · simp only [List.mem_cons, List.not_mem_nil, or_false, Prod.mk.injEq] at hm
            rcases hm with ⟨rfl, _⟩ | ⟨rfl, _⟩
            · exact fun hh => n_a_b (show a = b from hh)
            · exact absurd rfl hne
          trivial
        refine ⟨⟨⟨_, h_a, by simp only [leE, mapEq, SC.ren, and_true, true_and, and_self] <;> rfl⟩, ⟨_, h_b, by simp only [leE, mapEq, SC.ren, and_true, true_and, and_self] <;> rfl⟩, trivial⟩, hap, ?_⟩
        simp (config := {maxSteps := 10000000}) only [x80, push_cast, Nat.reduceAdd, Nat.reduceSub, Nat.reduceLeDiff, Nat.reduceEqDiff, Nat.reduceBEq, Nat.reduceMul, Nat.reduceLT, reduceIte, reduceCtorEq, Int.reduceLE, Int.reduceLT, Int.reduceEq, Int.reduceMul, Int.reduceAdd, Int.reduceSub, Int.reduceNeg, Int.reduceToNat, Int.reduceNe, g55]
        rfl
      · cases hg_
    · cases hg_
  · cases hg_
/-- wayfinder/heading.Meet -/
def g45 : Con := fun args_ E_ nn_ => match args_ with
  | [.a [.v (.int .i64 a_From), .v (.int .i64 a_Count)], .a [.v (.int .i64 b_From), .v (.int .i64 b_Count)]] => some (.e (True) (.o (.c (.n (nn_ + 0)))) [((nn_ + 0), .own (mtA a_From a_Count b_From b_Count).length 2 (rowF eC (mtA a_From a_Count b_From b_Count)) 90)] (nn_ + 1))
  | _ => none
set_option maxHeartbeats 1000000 in
theorem c45 : COk Try.prog 45 g45 := by
  refine cok_e Try.func45 x45_ok (by kernel_rfl) (cok_tab (cok_cons c77 (cok_cons c80 (cok_cons c81 cok_nil)))) ?_
  intro args_ E_ nn_ cr_ hg_
  unfold g45 at hg_
  split at hg_
  · rename_i a_From a_Count b_From b_Count
    cases hg_
    refine ⟨_, _, _, _, rfl, 0, [], [.a [.v (.int .i64 a_From), .v (.int .i64 a_Count)], .a [.v (.int .i64 b_From), .v (.int .i64 b_Count)]], [], .o (.c (.n 0)), [(0, .own (mtA a_From a_Count b_From b_Count).length 2 (rowF eC (mtA a_From a_Count b_From b_Count)) 90)], 1, rfl, rfl, by simp only [renE, Ent.ren, rowF_renf] <;> rfl, rfl, by decide, by simp only [push_cast, Nat.reduceLT, Nat.reduceAdd], by simp only [push_cast, Nat.reduceLT, Nat.reduceAdd], by simp only [push_cast, Nat.reduceLT, Nat.reduceAdd], by simp only [push_cast, Nat.reduceLT, Nat.reduceAdd], rfl, trivial, by simp only [keysNodup, outN, keys] <;> decide, rfl, rfl, ?_⟩
    intro hpre hlen
    refine ⟨trivial, by simp only [apartE] <;> (first | trivial | (simp [Ent.mut]; done)), ?_⟩
    simp (config := {maxSteps := 10000000}) only [x45, push_cast, Nat.reduceAdd, Nat.reduceSub, Nat.reduceLeDiff, Nat.reduceEqDiff, Nat.reduceBEq, Nat.reduceMul, Nat.reduceLT, reduceIte, reduceCtorEq, Int.reduceLE, Int.reduceLT, Int.reduceEq, Int.reduceMul, Int.reduceAdd, Int.reduceSub, Int.reduceNeg, Int.reduceToNat, Int.reduceNe, g77, g80, g81]
    refine ⟨fun h => ?_, fun h1 h2 => ?_⟩
    · unfold mtA
      rw [if_neg (by rcases h with h | h <;> rw [h] <;> simp)]; rfl
    have hM : mtA a_From a_Count b_From b_Count = mtL (inA a_From a_Count b_From b_Count) := if_pos (by rw [h1, h2]; rfl)
    rw [hM]
    have ha : arcB 0 256 = true := by decide
    have hl : (arcL 0 256).length = 256 := arcL_len ha
    have hat : ∀ i : Nat, i < 256 → (arcL 0 256).getD i eI.dflt = (i : Int) := fun i hi => by rw [arcL_at ha (by exact hi)]; omega
    have hm := inA_mod a_From a_Count b_From b_Count
    generalize arcL 0 256 = M at *
    obtain ⟨f, hI⟩ : ∃ f : Int → Bool, ∀ x, inA a_From a_Count b_From b_Count x = f x := ⟨_, fun _ => rfl⟩
    obtain rfl : inA a_From a_Count b_From b_Count = f := funext hI
    obtain ⟨f, hF⟩ : ∃ f, f = inA a_From a_Count b_From b_Count := ⟨_, rfl⟩
    have hI : ∀ x, inA a_From a_Count b_From b_Count x = f x := fun x => by rw [hF]
    rw [← hF]
    rw [← hF] at hm
    clear hF hM
    have hf1 : ∀ k : Nat, k < 256 → f (IntKind.i64.wrap ((k : Int) - 1)) = f (((k : Nat) - 1 : Int) % 256) := fun k h => by rw [wrapI (by omega) (by omega), hm]
    refine vcLoop_upd (α := {k : Nat // k ≤ 256}) [6, 19, 20] 1 (fun s => [(5, .o (.c (.n 3))), (21, .o (.c (.v (.int .i64 (s.1 : Nat)))))]) (fun s => [(3, .own (mtF f s.1).length 2 (rowF eC (mtF f s.1)) 90)]) (fun s => 256 - s.1) ⟨0, Nat.zero_le _⟩ ?_ ?_
    · simp only [push_cast, Nat.reduceAdd, Nat.reduceSub, Nat.reduceLeDiff, Nat.reduceEqDiff, Nat.reduceBEq, Nat.reduceMul, Nat.reduceLT, reduceIte, reduceCtorEq, Int.reduceLE, Int.reduceLT, Int.reduceEq, Int.reduceMul, Int.reduceAdd, Int.reduceSub, Int.reduceNeg, Int.reduceToNat, Int.reduceNe, g77, g80, g81]
      rfl
    rintro ⟨k, hk⟩
    by_cases hlt : k < 256
    · simp only [x45L1, push_cast, Nat.reduceAdd, Nat.reduceSub, Nat.reduceLeDiff, Nat.reduceEqDiff, Nat.reduceBEq, Nat.reduceMul, Nat.reduceLT, reduceIte, reduceCtorEq, Int.reduceLE, Int.reduceLT, Int.reduceEq, Int.reduceMul, Int.reduceAdd, Int.reduceSub, Int.reduceNeg, Int.reduceToNat, Int.reduceNe, g77, g80, g81, hl, hlt, hat k hlt, hI]
      rw [hf1 k hlt]
      refine ⟨fun _ => ⟨by omega, fun h => ?_, fun g1 g2 => ?_⟩, fun h => absurd (by omega) h⟩
      · have e : mtF f (k + 1) = mtF f k := by
          rw [mtF_succ, if_neg (by rintro ⟨a, b⟩; rcases h with h | h; rw [a] at h; cases h; rw [b] at h; cases h), List.append_nil]
        exact ⟨⟨k + 1, by omega⟩, ⟨wrapI (by omega) (by omega), same_eq e⟩, by simp only; omega⟩
      refine vcLoop_upd (α := {n : Nat // 1 ≤ n ∧ n ≤ 255 ∧ ∀ i : Nat, i < n → f (((k : Int) + i) % 256) = true}) [5, 6, 8, 19, 20, 21] 0 (fun s => [(9, .o (.c (.v (.int .i64 (s.1 : Nat)))))]) (fun s => []) (fun s => 256 - s.1) ⟨1, by omega, by omega, fun i hi => by (obtain rfl : i = 0 := by omega); rw [hm]; exact (by simpa using g1)⟩ ?_ ?_
      · simp only [push_cast, Nat.reduceAdd, Nat.reduceSub, Nat.reduceLeDiff, Nat.reduceEqDiff, Nat.reduceBEq, Nat.reduceMul, Nat.reduceLT, reduceIte, reduceCtorEq, Int.reduceLE, Int.reduceLT, Int.reduceEq, Int.reduceMul, Int.reduceAdd, Int.reduceSub, Int.reduceNeg, Int.reduceToNat, Int.reduceNe, g77, g80, g81]
      rintro ⟨n, hn1, hn2, hr⟩
      simp only [x45L0, push_cast, Nat.reduceAdd, Nat.reduceSub, Nat.reduceLeDiff, Nat.reduceEqDiff, Nat.reduceBEq, Nat.reduceMul, Nat.reduceLT, reduceIte, reduceCtorEq, Int.reduceLE, Int.reduceLT, Int.reduceEq, Int.reduceMul, Int.reduceAdd, Int.reduceSub, Int.reduceNeg, Int.reduceToNat, Int.reduceNe, g77, g80, g81, hI]
      have hw : f (IntKind.i64.wrap ((k : Int) + (n : Int))) = f (((k : Int) + (n : Int)) % 256) := by rw [wrapI (by omega) (by omega), hm]
      rw [hw]
      refine ⟨fun g => ?_, fun g => ?_⟩
      · have h5 : n < 255 := by
          by_cases q : n = 255
          · subst q
            rw [show ((k : Int) + ((255 : Nat) : Int)) % 256 = ((k : Int) - 1) % 256 by omega, g2] at g
            cases g
          · omega
        exact ⟨⟨n + 1, by omega, by omega, fun i hi => by
          by_cases q : i < n
          · exact hr i q
          · obtain rfl : i = n := by omega
            exact g⟩, wrapI (by omega) (by omega), by simp only; omega⟩
      · have e : ldN f (k : Nat) 256 = n := ldN_uniq 256 (k : Nat) n (by omega) hr (fun _ => g)
        have e2 : mtF f (k + 1) = mtF f k ++ [⟨(k : Nat), (n : Nat)⟩] := by rw [mtF_succ, if_pos ⟨g1, g2⟩, e]
        have bd := (mtF_bd f k).1
        exact ⟨by omega, ⟨k + 1, by omega⟩, ⟨wrapI (by omega) (by omega), push_eq (E := eC) (x := ⟨(k : Nat), (n : Nat)⟩) e2⟩, by simp only; omega⟩
    · obtain rfl : k = 256 := by omega
      simp only [x45L1, push_cast, Nat.reduceAdd, Nat.reduceSub, Nat.reduceLeDiff, Nat.reduceEqDiff, Nat.reduceBEq, Nat.reduceMul, Nat.reduceLT, reduceIte, reduceCtorEq, Int.reduceLE, Int.reduceLT, Int.reduceEq, Int.reduceMul, Int.reduceAdd, Int.reduceSub, Int.reduceNeg, Int.reduceToNat, Int.reduceNe, g77, g80, g81, hl, hI]
      have bd := (mtF_bd f 256).1
      refine ⟨fun g1 g2 => ?_, fun g => ?_⟩
      · have e : mtL f = mtF f 256 ++ [⟨0, 256⟩] := by
          have e0 : mtF f 256 = [] := List.eq_nil_of_length_eq_zero (by omega)
          unfold mtL; rw [if_pos ⟨by omega, g2⟩, e0]; rfl
        exact ⟨by omega, push_eq (E := eC) (x := ⟨0, 256⟩) e⟩
      · have e : mtL f = mtF f 256 := by
          unfold mtL
          rw [if_neg]
          rintro ⟨a, b⟩
          simp [a, b] at g
        exact same_eq e
  · cases hg_
/-- wayfinder/box.Inside -/
def g18 : Con := fun args_ E_ nn_ => match args_ with
  | [.a [.v (.int .i64 a_X0), .v (.int .i64 a_Y0), .v (.int .i64 a_X1), .v (.int .i64 a_Y1), .v (.int .i64 a_From), .v (.int .i64 a_Count)], .a [.v (.int .i64 b_X0), .v (.int .i64 b_Y0), .v (.int .i64 b_X1), .v (.int .i64 b_Y1), .v (.int .i64 b_From), .v (.int .i64 b_Count)]] => some (.q (True) (.o (.c (.v (.bool (inmB (⟨a_X0, a_Y0, a_X1, a_Y1, a_From, a_Count⟩ : BB) (⟨b_X0, b_Y0, b_X1, b_Y1, b_From, b_Count⟩ : BB)))))))
  | _ => none
set_option maxHeartbeats 1000000 in
theorem c18 : COk Try.prog 18 g18 := by
  refine cok_q Try.func18 x18_ok (by kernel_rfl) (cok_tab (cok_cons c42 (cok_cons c46 (cok_cons c45 cok_nil)))) ?_
  intro args_ E_ nn_ cr_ hg_
  unfold g18 at hg_
  split at hg_
  · rename_i a_X0 a_Y0 a_X1 a_Y1 a_From a_Count b_X0 b_Y0 b_X1 b_Y1 b_From b_Count
    cases hg_
    refine ⟨_, _, rfl, 0, [], [.a [.v (.int .i64 a_X0), .v (.int .i64 a_Y0), .v (.int .i64 a_X1), .v (.int .i64 a_Y1), .v (.int .i64 a_From), .v (.int .i64 a_Count)], .a [.v (.int .i64 b_X0), .v (.int .i64 b_Y0), .v (.int .i64 b_X1), .v (.int .i64 b_Y1), .v (.int .i64 b_From), .v (.int .i64 b_Count)]], [], .o (.c (.v (.bool (inmB (⟨a_X0, a_Y0, a_X1, a_Y1, a_From, a_Count⟩ : BB) (⟨b_X0, b_Y0, b_X1, b_Y1, b_From, b_Count⟩ : BB))))), rfl, rfl, by simp only [push_cast, Nat.reduceLT, Nat.reduceAdd], by simp only [push_cast, Nat.reduceLT, Nat.reduceAdd], by simp only [push_cast, Nat.reduceLT, Nat.reduceAdd], rfl, trivial, rfl, ?_⟩
    intro hpre hlen
    refine ⟨trivial, ?_⟩
    simp (config := {maxSteps := 10000000}) only [x18, push_cast, Nat.reduceAdd, Nat.reduceSub, Nat.reduceLeDiff, Nat.reduceEqDiff, Nat.reduceBEq, Nat.reduceMul, Nat.reduceLT, reduceIte, reduceCtorEq, Int.reduceLE, Int.reduceLT, Int.reduceEq, Int.reduceMul, Int.reduceAdd, Int.reduceSub, Int.reduceNeg, Int.reduceToNat, Int.reduceNe, g42, g46, g45]
    refine ⟨fun h => ?_, fun h1 h2 c1 c2 c3 c4 => ⟨by rfl, ?_⟩⟩
    · symm
      rw [Bool.eq_false_iff]
      intro q
      unfold inmB at q
      simp only [Bool.and_eq_true, decide_eq_true_eq] at q
      obtain ⟨⟨⟨q1, q2⟩, q3⟩, _⟩ := q
      rw [show boxB a_X0 a_Y0 a_X1 a_Y1 a_From a_Count = true from q1, show boxB b_X0 b_Y0 b_X1 b_Y1 b_From b_Count = true from q2] at h
      simp only [reduceCtorEq, false_or] at h
      omega
    have e : inmB (⟨a_X0, a_Y0, a_X1, a_Y1, a_From, a_Count⟩ : BB) (⟨b_X0, b_Y0, b_X1, b_Y1, b_From, b_Count⟩ : BB) = decide (sumY (mtA a_From a_Count b_From b_Count) = a_Count) := by
      unfold inmB
      rw [show BB.ok (⟨a_X0, a_Y0, a_X1, a_Y1, a_From, a_Count⟩ : BB) = true from h1, show BB.ok (⟨b_X0, b_Y0, b_X1, b_Y1, b_From, b_Count⟩ : BB) = true from h2, decide_eq_true (p := b_X0 ≤ a_X0 ∧ a_X1 ≤ b_X1 ∧ b_Y0 ≤ a_Y0 ∧ a_Y1 ≤ b_Y1) (by omega)]
      rfl
    rw [e]
    obtain ⟨bd1, bd2⟩ := mtA_bd a_From a_Count b_From b_Count
    generalize mtA a_From a_Count b_From b_Count = Q at *
    refine vcLoop_upd (α := {k : Nat // k ≤ Q.length}) [2, 48, 49] 0 (fun s => [(5, .o (.c (.v (.int .i64 (sumY (Q.take s.1)))))), (50, .o (.c (.v (.int .i64 (s.1 : Nat)))))]) (fun s => []) (fun s => Q.length - s.1) ⟨0, Nat.zero_le _⟩ ?_ ?_
    · simp only [push_cast, Nat.reduceAdd, Nat.reduceSub, Nat.reduceLeDiff, Nat.reduceEqDiff, Nat.reduceBEq, Nat.reduceMul, Nat.reduceLT, reduceIte, reduceCtorEq, Int.reduceLE, Int.reduceLT, Int.reduceEq, Int.reduceMul, Int.reduceAdd, Int.reduceSub, Int.reduceNeg, Int.reduceToNat, Int.reduceNe, g42, g46, g45]
      exact rfl
    rintro ⟨k, hk⟩
    simp only [x18L0, push_cast, Nat.reduceAdd, Nat.reduceSub, Nat.reduceLeDiff, Nat.reduceEqDiff, Nat.reduceBEq, Nat.reduceMul, Nat.reduceLT, reduceIte, reduceCtorEq, Int.reduceLE, Int.reduceLT, Int.reduceEq, Int.reduceMul, Int.reduceAdd, Int.reduceSub, Int.reduceNeg, Int.reduceToNat, Int.reduceNe, g42, g46, g45]
    refine ⟨fun hlt => ⟨hlt, hlt, ⟨k + 1, by omega⟩, ⟨?_, wrapI (by omega) (by omega)⟩, by simp only; omega⟩, fun hge => ?_⟩
    · have b1 := sumY_bd (l := Q.take k) (fun c hc => bd2 c (List.mem_of_mem_take hc))
      have b2 := bd2 _ (getD_in hlt)
      have b3 : (Q.take k).length ≤ 256 := by rw [List.length_take]; omega
      show _ = sumY (Q.take (k + 1))
      rw [sumY_take hlt]
      exact wrapI (by omega) (by omega)
    · rw [List.take_of_length_le (by omega)]
      rfl
  · cases hg_
/-- wayfinder/box.with -/
def g47 : Con := fun args_ E_ nn_ => match args_ with
  | [.a [.v (.int .i64 r_X0), .v (.int .i64 r_Y0), .v (.int .i64 r_X1), .v (.int .i64 r_Y1)], .a [.v (.int .i64 a_From), .v (.int .i64 a_Count)]] => some (.q (True) (.o (.a [.v (.int .i64 r_X0), .v (.int .i64 r_Y0), .v (.int .i64 r_X1), .v (.int .i64 r_Y1), .v (.int .i64 a_From), .v (.int .i64 a_Count)])))
  | _ => none
theorem c47 : COk Try.prog 47 g47 := by
  refine cok_q Try.func47 x47_ok (by kernel_rfl) (cok_tab cok_nil) ?_
  intro args_ E_ nn_ cr_ hg_
  unfold g47 at hg_
  split at hg_
  · rename_i r_X0 r_Y0 r_X1 r_Y1 a_From a_Count
    cases hg_
    refine ⟨_, _, rfl, 0, [], [.a [.v (.int .i64 r_X0), .v (.int .i64 r_Y0), .v (.int .i64 r_X1), .v (.int .i64 r_Y1)], .a [.v (.int .i64 a_From), .v (.int .i64 a_Count)]], [], .o (.a [.v (.int .i64 r_X0), .v (.int .i64 r_Y0), .v (.int .i64 r_X1), .v (.int .i64 r_Y1), .v (.int .i64 a_From), .v (.int .i64 a_Count)]), rfl, rfl, by simp only [push_cast, Nat.reduceLT, Nat.reduceAdd], by simp only [push_cast, Nat.reduceLT, Nat.reduceAdd], by simp only [push_cast, Nat.reduceLT, Nat.reduceAdd], rfl, trivial, rfl, ?_⟩
    intro hpre hlen
    refine ⟨trivial, ?_⟩
    simp (config := {maxSteps := 10000000}) only [x47, push_cast, Nat.reduceAdd, Nat.reduceSub, Nat.reduceLeDiff, Nat.reduceEqDiff, Nat.reduceBEq, Nat.reduceMul, Nat.reduceLT, reduceIte, reduceCtorEq, Int.reduceLE, Int.reduceLT, Int.reduceEq, Int.reduceMul, Int.reduceAdd, Int.reduceSub, Int.reduceNeg, Int.reduceToNat, Int.reduceNe]
  · cases hg_
/-- wayfinder/box.Meet -/
def g19 : Con := fun args_ E_ nn_ => match args_ with
  | [.a [.v (.int .i64 a_X0), .v (.int .i64 a_Y0), .v (.int .i64 a_X1), .v (.int .i64 a_Y1), .v (.int .i64 a_From), .v (.int .i64 a_Count)], .a [.v (.int .i64 b_X0), .v (.int .i64 b_Y0), .v (.int .i64 b_X1), .v (.int .i64 b_Y1), .v (.int .i64 b_From), .v (.int .i64 b_Count)]] => some (.e (True) (.o (.c (.n (nn_ + 0)))) [((nn_ + 0), .own (bmL (⟨a_X0, a_Y0, a_X1, a_Y1, a_From, a_Count⟩ : BB) (⟨b_X0, b_Y0, b_X1, b_Y1, b_From, b_Count⟩ : BB)).length 6 (rowF eB (bmL (⟨a_X0, a_Y0, a_X1, a_Y1, a_From, a_Count⟩ : BB) (⟨b_X0, b_Y0, b_X1, b_Y1, b_From, b_Count⟩ : BB))) 46)] (nn_ + 1))
  | _ => none
set_option maxHeartbeats 1000000 in
theorem c19 : COk Try.prog 19 g19 := by
  refine cok_e Try.func19 x19_ok (by kernel_rfl) (cok_tab (cok_cons c42 (cok_cons c46 (cok_cons c45 (cok_cons c47 cok_nil))))) ?_
  intro args_ E_ nn_ cr_ hg_
  unfold g19 at hg_
  split at hg_
  · rename_i a_X0 a_Y0 a_X1 a_Y1 a_From a_Count b_X0 b_Y0 b_X1 b_Y1 b_From b_Count
    cases hg_
    refine ⟨_, _, _, _, rfl, 0, [], [.a [.v (.int .i64 a_X0), .v (.int .i64 a_Y0), .v (.int .i64 a_X1), .v (.int .i64 a_Y1), .v (.int .i64 a_From), .v (.int .i64 a_Count)], .a [.v (.int .i64 b_X0), .v (.int .i64 b_Y0), .v (.int .i64 b_X1), .v (.int .i64 b_Y1), .v (.int .i64 b_From), .v (.int .i64 b_Count)]], [], .o (.c (.n 0)), [(0, .own (bmL (⟨a_X0, a_Y0, a_X1, a_Y1, a_From, a_Count⟩ : BB) (⟨b_X0, b_Y0, b_X1, b_Y1, b_From, b_Count⟩ : BB)).length 6 (rowF eB (bmL (⟨a_X0, a_Y0, a_X1, a_Y1, a_From, a_Count⟩ : BB) (⟨b_X0, b_Y0, b_X1, b_Y1, b_From, b_Count⟩ : BB))) 46)], 1, rfl, rfl, by simp only [renE, Ent.ren, rowF_renf] <;> rfl, rfl, by decide, by simp only [push_cast, Nat.reduceLT, Nat.reduceAdd], by simp only [push_cast, Nat.reduceLT, Nat.reduceAdd], by simp only [push_cast, Nat.reduceLT, Nat.reduceAdd], by simp only [push_cast, Nat.reduceLT, Nat.reduceAdd], rfl, trivial, by simp only [keysNodup, outN, keys] <;> decide, rfl, rfl, ?_⟩
    intro hpre hlen
    refine ⟨trivial, by simp only [apartE] <;> (first | trivial | (simp [Ent.mut]; done)), ?_⟩
    simp (config := {maxSteps := 10000000}) only [x19, push_cast, Nat.reduceAdd, Nat.reduceSub, Nat.reduceLeDiff, Nat.reduceEqDiff, Nat.reduceBEq, Nat.reduceMul, Nat.reduceLT, reduceIte, reduceCtorEq, Int.reduceLE, Int.reduceLT, Int.reduceEq, Int.reduceMul, Int.reduceAdd, Int.reduceSub, Int.reduceNeg, Int.reduceToNat, Int.reduceNe, g42, g46, g45, g47]
    refine ⟨fun h => ?_, fun h1 h2 c1 c2 => ⟨by rfl, ?_⟩⟩
    · have e : bmL (⟨a_X0, a_Y0, a_X1, a_Y1, a_From, a_Count⟩ : BB) (⟨b_X0, b_Y0, b_X1, b_Y1, b_From, b_Count⟩ : BB) = [] := by
        refine if_neg ?_
        rintro ⟨q1, q2, q3⟩
        simp only [Bool.and_eq_true] at q1
        rw [show boxB a_X0 a_Y0 a_X1 a_Y1 a_From a_Count = true from q1.1, show boxB b_X0 b_Y0 b_X1 b_Y1 b_From b_Count = true from q1.2] at h
        simp only [reduceCtorEq, false_or] at h
        simp only at q2 q3
        omega
      rw [e]; rfl
    have e : bmL (⟨a_X0, a_Y0, a_X1, a_Y1, a_From, a_Count⟩ : BB) (⟨b_X0, b_Y0, b_X1, b_Y1, b_From, b_Count⟩ : BB) = (mtA a_From a_Count b_From b_Count).map (fun c : CC => (⟨max a_X0 b_X0, max a_Y0 b_Y0, min a_X1 b_X1, min a_Y1 b_Y1, c.X, c.Y⟩ : BB)) := if_pos ⟨by rw [show BB.ok (⟨a_X0, a_Y0, a_X1, a_Y1, a_From, a_Count⟩ : BB) = true from h1, show BB.ok (⟨b_X0, b_Y0, b_X1, b_Y1, b_From, b_Count⟩ : BB) = true from h2]; rfl, by simp only; omega, by simp only; omega⟩
    rw [e]
    obtain ⟨bd1, bd2⟩ := mtA_bd a_From a_Count b_From b_Count
    generalize mtA a_From a_Count b_From b_Count = Q at *
    refine vcLoop_upd (α := {k : Nat // k ≤ Q.length}) [5, 56, 57] 1 (fun s => [(6, .o (.c (.n 4))), (58, .o (.c (.v (.int .i64 (s.1 : Nat)))))]) (fun s => [(4, .own ((Q.take s.1).map (fun c : CC => (⟨max a_X0 b_X0, max a_Y0 b_Y0, min a_X1 b_X1, min a_Y1 b_Y1, c.X, c.Y⟩ : BB))).length 6 (rowF eB ((Q.take s.1).map (fun c : CC => (⟨max a_X0 b_X0, max a_Y0 b_Y0, min a_X1 b_X1, min a_Y1 b_Y1, c.X, c.Y⟩ : BB)))) 46)]) (fun s => Q.length - s.1) ⟨0, Nat.zero_le _⟩ ?_ ?_
    · simp only [push_cast, Nat.reduceAdd, Nat.reduceSub, Nat.reduceLeDiff, Nat.reduceEqDiff, Nat.reduceBEq, Nat.reduceMul, Nat.reduceLT, reduceIte, reduceCtorEq, Int.reduceLE, Int.reduceLT, Int.reduceEq, Int.reduceMul, Int.reduceAdd, Int.reduceSub, Int.reduceNeg, Int.reduceToNat, Int.reduceNe, g42, g46, g45, g47]
      rfl
    rintro ⟨k, hk⟩
    simp only [x19L0, push_cast, Nat.reduceAdd, Nat.reduceSub, Nat.reduceLeDiff, Nat.reduceEqDiff, Nat.reduceBEq, Nat.reduceMul, Nat.reduceLT, reduceIte, reduceCtorEq, Int.reduceLE, Int.reduceLT, Int.reduceEq, Int.reduceMul, Int.reduceAdd, Int.reduceSub, Int.reduceNeg, Int.reduceToNat, Int.reduceNe, g42, g46, g45, g47]
    refine ⟨fun hlt => ⟨hlt, hlt, by rw [List.length_map, List.length_take]; omega, ⟨k + 1, by omega⟩, ⟨wrapI (by omega) (by omega), push_eq (E := eB) (x := (fun c : CC => (⟨max a_X0 b_X0, max a_Y0 b_Y0, min a_X1 b_X1, min a_Y1 b_Y1, c.X, c.Y⟩ : BB)) (Q.getD k eC.dflt)) ?_⟩, by simp only; omega⟩, fun hge => ?_⟩
    · show (Q.take (k + 1)).map _ = _
      rw [List.take_succ_eq_append_getElem hlt, List.map_append, List.getD_eq_getElem?_getD, List.getElem?_eq_getElem hlt]
      rfl
    · rw [List.take_of_length_le (by omega)]
      exact same_eq rfl
  · cases hg_
/-- wayfinder/contract.validScan -/
def g75n : Con := fun args_ E_ nn_ => match args_ with
  | [.c (.v (.slice none 0 0))] => some (.q (True) (.o (.c (.v (.bool (scanB ([] : List CC)))))))
  | _ => none
theorem c75n : COk Try.prog 75 g75n := by
  refine cok_q Try.func75 x75_ok (by kernel_rfl) (cok_tab (cok_cons c30 cok_nil)) ?_
  intro args_ E_ nn_ cr_ hg_
  unfold g75n at hg_
  split at hg_
  · skip
    cases hg_
    refine ⟨_, _, rfl, 0, [], [.c (.v (.slice none 0 0))], [], .o (.c (.v (.bool (scanB ([] : List CC))))), rfl, rfl, by simp only [push_cast, Nat.reduceLT, Nat.reduceAdd], by simp only [push_cast, Nat.reduceLT, Nat.reduceAdd], by simp only [push_cast, Nat.reduceLT, Nat.reduceAdd], rfl, trivial, rfl, ?_⟩
    intro hpre hlen
    refine ⟨trivial, ?_⟩
    simp (config := {maxSteps := 10000000}) only [x75, push_cast, Nat.reduceAdd, Nat.reduceSub, Nat.reduceLeDiff, Nat.reduceEqDiff, Nat.reduceBEq, Nat.reduceMul, Nat.reduceLT, reduceIte, reduceCtorEq, Int.reduceLE, Int.reduceLT, Int.reduceEq, Int.reduceMul, Int.reduceAdd, Int.reduceSub, Int.reduceNeg, Int.reduceToNat, Int.reduceNe, g30]
    refine vcLoop_upd (α := Unit) [0, 5, 6] 0 (fun _ => [(7, .o (.c (.v (.int .i64 0))))]) (fun _ => []) (fun _ => 0) () ?_ ?_
    · simp only [push_cast, Nat.reduceAdd, Nat.reduceSub, Nat.reduceLeDiff, Nat.reduceEqDiff, Nat.reduceBEq, Nat.reduceMul, Nat.reduceLT, reduceIte, reduceCtorEq, Int.reduceLE, Int.reduceLT, Int.reduceEq, Int.reduceMul, Int.reduceAdd, Int.reduceSub, Int.reduceNeg, Int.reduceToNat, Int.reduceNe, g30]
    rintro _
    simp only [x75L0, push_cast, Nat.reduceAdd, Nat.reduceSub, Nat.reduceLeDiff, Nat.reduceEqDiff, Nat.reduceBEq, Nat.reduceMul, Nat.reduceLT, reduceIte, reduceCtorEq, Int.reduceLE, Int.reduceLT, Int.reduceEq, Int.reduceMul, Int.reduceAdd, Int.reduceSub, Int.reduceNeg, Int.reduceToNat, Int.reduceNe, g30]
    simp [scanB]
  · cases hg_
/-- wayfinder/contract.right -/
def g41n : Con := fun args_ E_ nn_ => match args_ with
  | [.a [.v (.int .i64 p_W), .v (.int .i64 p_H), .n p_Cells], .c (.v (.slice none 0 0)), .c (.v (.int .i64 rng))] => (match rowOf E_ p_Cells with
    | some (p_Cells_n, p_Cells_s, p_Cells_f) => some (.q (isRow eU8 p_Cells_n p_Cells_s p_Cells_f ∧ True) (.o (.c (.v (.bool (rightB p_W p_H (decL eU8 p_Cells_n p_Cells_f) ([] : List CC) rng))))))
    | none => none)
  | _ => none
theorem c41n : COk Try.prog 41 g41n := by
  refine cok_q Try.func41 x41_ok (by kernel_rfl) (cok_tab (cok_cons c29 (cok_cons c75n (cok_cons c32 cok_nil)))) ?_
  intro args_ E_ nn_ cr_ hg_
  unfold g41n at hg_
  split at hg_
  · rename_i p_W p_H p_Cells rng
    split at hg_
    · rename_i p_Cells_n p_Cells_s p_Cells_f h_p_Cells
      cases hg_
      refine ⟨_, _, rfl, 1, [p_Cells], [.a [.v (.int .i64 p_W), .v (.int .i64 p_H), .n 0], .c (.v (.slice none 0 0)), .c (.v (.int .i64 rng))], [(0, .ro (decL eU8 p_Cells_n p_Cells_f).length eU8.sz (rowF eU8 (decL eU8 p_Cells_n p_Cells_f)))], .o (.c (.v (.bool (rightB p_W p_H (decL eU8 p_Cells_n p_Cells_f) ([] : List CC) rng)))), rfl, rfl, by simp only [push_cast, Nat.reduceLT, Nat.reduceAdd], by simp only [push_cast, Nat.reduceLT, Nat.reduceAdd], by simp only [push_cast, Nat.reduceLT, Nat.reduceAdd], rfl, ⟨inE0_row h_p_Cells, trivial⟩, rfl, ?_⟩
      intro hpre hlen
      obtain ⟨i_p_Cells, hpre⟩ := hpre
      refine ⟨⟨inE_row h_p_Cells i_p_Cells, trivial⟩, ?_⟩
      have z_p_Cells := lens_row (E := eU8) hlen h_p_Cells
      clear i_p_Cells
      generalize decL eU8 p_Cells_n p_Cells_f = p_CellsL at *
      clear h_p_Cells
      simp (config := {maxSteps := 10000000}) only [x41, push_cast, Nat.reduceAdd, Nat.reduceSub, Nat.reduceLeDiff, Nat.reduceEqDiff, Nat.reduceBEq, Nat.reduceMul, Nat.reduceLT, reduceIte, reduceCtorEq, Int.reduceLE, Int.reduceLT, Int.reduceEq, Int.reduceMul, Int.reduceAdd, Int.reduceSub, Int.reduceNeg, Int.reduceToNat, Int.reduceNe, g29, g75n, g32]
      rfl
    · cases hg_
  · cases hg_
/-- wayfinder/contract.bad -/
noncomputable def g58n : Con := fun args_ E_ nn_ => match args_ with
  | [.a [.v (.int .i64 p_W), .v (.int .i64 p_H), .n p_Cells], .a [.v (.int .i64 r_X0), .v (.int .i64 r_Y0), .v (.int .i64 r_X1), .v (.int .i64 r_Y1)], .c (.v (.int .i64 h)), .c (.v (.slice none 0 0)), .c (.v (.int .i64 rng))] => (match rowOf E_ p_Cells with
    | some (p_Cells_n, p_Cells_s, p_Cells_f) => some (.q (isRow eU8 p_Cells_n p_Cells_s p_Cells_f ∧ scanB ([] : List CC) = true ∧ 1 ≤ rng ∧ rng ≤ 32) (.o (.c (.v (.bool (badB p_W p_H (decL eU8 p_Cells_n p_Cells_f) r_X0 r_Y0 r_X1 r_Y1 h ([] : List CC) rng))))))
    | none => none)
  | _ => none
theorem c58n : COk Try.prog 58 g58n := by
  refine cok_q Try.func58 x58_ok (by kernel_rfl) (cok_tab (cok_cons c31 (cok_cons c33 cok_nil))) ?_
  intro args_ E_ nn_ cr_ hg_
  unfold g58n at hg_
  split at hg_
  · rename_i p_W p_H p_Cells r_X0 r_Y0 r_X1 r_Y1 h rng
    split at hg_
    · rename_i p_Cells_n p_Cells_s p_Cells_f h_p_Cells
      cases hg_
      refine ⟨_, _, rfl, 1, [p_Cells], [.a [.v (.int .i64 p_W), .v (.int .i64 p_H), .n 0], .a [.v (.int .i64 r_X0), .v (.int .i64 r_Y0), .v (.int .i64 r_X1), .v (.int .i64 r_Y1)], .c (.v (.int .i64 h)), .c (.v (.slice none 0 0)), .c (.v (.int .i64 rng))], [(0, .ro (decL eU8 p_Cells_n p_Cells_f).length eU8.sz (rowF eU8 (decL eU8 p_Cells_n p_Cells_f)))], .o (.c (.v (.bool (badB p_W p_H (decL eU8 p_Cells_n p_Cells_f) r_X0 r_Y0 r_X1 r_Y1 h ([] : List CC) rng)))), rfl, rfl, by simp only [push_cast, Nat.reduceLT, Nat.reduceAdd], by simp only [push_cast, Nat.reduceLT, Nat.reduceAdd], by simp only [push_cast, Nat.reduceLT, Nat.reduceAdd], rfl, ⟨inE0_row h_p_Cells, trivial⟩, rfl, ?_⟩
      intro hpre hlen
      obtain ⟨i_p_Cells, hpre⟩ := hpre
      refine ⟨⟨inE_row h_p_Cells i_p_Cells, trivial⟩, ?_⟩
      have z_p_Cells := lens_row (E := eU8) hlen h_p_Cells
      clear i_p_Cells
      generalize decL eU8 p_Cells_n p_Cells_f = p_CellsL at *
      clear h_p_Cells
      simp (config := {maxSteps := 10000000}) only [x58, push_cast, Nat.reduceAdd, Nat.reduceSub, Nat.reduceLeDiff, Nat.reduceEqDiff, Nat.reduceBEq, Nat.reduceMul, Nat.reduceLT, reduceIte, reduceCtorEq, Int.reduceLE, Int.reduceLT, Int.reduceEq, Int.reduceMul, Int.reduceAdd, Int.reduceSub, Int.reduceNeg, Int.reduceToNat, Int.reduceNe, g31, g33]
      have e : badB p_W p_H p_CellsL r_X0 r_Y0 r_X1 r_Y1 h ([] : List CC) rng = false := by unfold badB badI; simp
      rw [e]
      refine ⟨fun _ => rfl, fun _ => ?_⟩
      refine vcLoop_upd (α := Unit) [2, 4, 5, 6, 16, 17] 0 (fun _ => [(18, .o (.c (.v (.int .i64 0))))]) (fun _ => []) (fun _ => 0) () ?_ ?_
      · simp only [push_cast, Nat.reduceAdd, Nat.reduceSub, Nat.reduceLeDiff, Nat.reduceEqDiff, Nat.reduceBEq, Nat.reduceMul, Nat.reduceLT, reduceIte, reduceCtorEq, Int.reduceLE, Int.reduceLT, Int.reduceEq, Int.reduceMul, Int.reduceAdd, Int.reduceSub, Int.reduceNeg, Int.reduceToNat, Int.reduceNe, g31, g33]
      rintro _
      simp only [x58L0, push_cast, Nat.reduceAdd, Nat.reduceSub, Nat.reduceLeDiff, Nat.reduceEqDiff, Nat.reduceBEq, Nat.reduceMul, Nat.reduceLT, reduceIte, reduceCtorEq, Int.reduceLE, Int.reduceLT, Int.reduceEq, Int.reduceMul, Int.reduceAdd, Int.reduceSub, Int.reduceNeg, Int.reduceToNat, Int.reduceNe, g31, g33]
    · cases hg_
  · cases hg_
/-- wayfinder/contract.trim -/
noncomputable def g43n : Con := fun args_ E_ nn_ => match args_ with
  | [.a [.v (.int .i64 p_W), .v (.int .i64 p_H), .n p_Cells], .a [.v (.int .i64 b_X0), .v (.int .i64 b_Y0), .v (.int .i64 b_X1), .v (.int .i64 b_Y1), .v (.int .i64 b_From), .v (.int .i64 b_Count)], .c (.v (.slice none 0 0)), .c (.v (.int .i64 rng))] => (match rowOf E_ p_Cells with
    | some (p_Cells_n, p_Cells_s, p_Cells_f) => some (.q (isRow eU8 p_Cells_n p_Cells_s p_Cells_f ∧ planB p_W p_H (decL eU8 p_Cells_n p_Cells_f) = true ∧ scanB ([] : List CC) = true ∧ (1 ≤ rng ∧ rng ≤ 32) ∧ boxB b_X0 b_Y0 b_X1 b_Y1 b_From b_Count = true) (.t [.a [.v (.int .i64 (oB (trmO p_W p_H (decL eU8 p_Cells_n p_Cells_f) ([] : List CC) rng (⟨b_X0, b_Y0, b_X1, b_Y1, b_From, b_Count⟩ : BB))).X0), .v (.int .i64 (oB (trmO p_W p_H (decL eU8 p_Cells_n p_Cells_f) ([] : List CC) rng (⟨b_X0, b_Y0, b_X1, b_Y1, b_From, b_Count⟩ : BB))).Y0), .v (.int .i64 (oB (trmO p_W p_H (decL eU8 p_Cells_n p_Cells_f) ([] : List CC) rng (⟨b_X0, b_Y0, b_X1, b_Y1, b_From, b_Count⟩ : BB))).X1), .v (.int .i64 (oB (trmO p_W p_H (decL eU8 p_Cells_n p_Cells_f) ([] : List CC) rng (⟨b_X0, b_Y0, b_X1, b_Y1, b_From, b_Count⟩ : BB))).Y1), .v (.int .i64 (oB (trmO p_W p_H (decL eU8 p_Cells_n p_Cells_f) ([] : List CC) rng (⟨b_X0, b_Y0, b_X1, b_Y1, b_From, b_Count⟩ : BB))).F), .v (.int .i64 (oB (trmO p_W p_H (decL eU8 p_Cells_n p_Cells_f) ([] : List CC) rng (⟨b_X0, b_Y0, b_X1, b_Y1, b_From, b_Count⟩ : BB))).N)], .c (.v (.bool ((trmO p_W p_H (decL eU8 p_Cells_n p_Cells_f) ([] : List CC) rng (⟨b_X0, b_Y0, b_X1, b_Y1, b_From, b_Count⟩ : BB)).isSome)))]))
    | none => none)
  | _ => none
set_option maxHeartbeats 1000000 in
theorem c43n : COk Try.prog 43 g43n := by
  refine cok_q Try.func43 x43_ok (by kernel_rfl) (cok_tab (cok_cons c78 (cok_cons c58n cok_nil))) ?_
  intro args_ E_ nn_ cr_ hg_
  unfold g43n at hg_
  split at hg_
  · rename_i p_W p_H p_Cells b_X0 b_Y0 b_X1 b_Y1 b_From b_Count rng
    split at hg_
    · rename_i p_Cells_n p_Cells_s p_Cells_f h_p_Cells
      cases hg_
      refine ⟨_, _, rfl, 1, [p_Cells], [.a [.v (.int .i64 p_W), .v (.int .i64 p_H), .n 0], .a [.v (.int .i64 b_X0), .v (.int .i64 b_Y0), .v (.int .i64 b_X1), .v (.int .i64 b_Y1), .v (.int .i64 b_From), .v (.int .i64 b_Count)], .c (.v (.slice none 0 0)), .c (.v (.int .i64 rng))], [(0, .ro (decL eU8 p_Cells_n p_Cells_f).length eU8.sz (rowF eU8 (decL eU8 p_Cells_n p_Cells_f)))], .t [.a [.v (.int .i64 (oB (trmO p_W p_H (decL eU8 p_Cells_n p_Cells_f) ([] : List CC) rng (⟨b_X0, b_Y0, b_X1, b_Y1, b_From, b_Count⟩ : BB))).X0), .v (.int .i64 (oB (trmO p_W p_H (decL eU8 p_Cells_n p_Cells_f) ([] : List CC) rng (⟨b_X0, b_Y0, b_X1, b_Y1, b_From, b_Count⟩ : BB))).Y0), .v (.int .i64 (oB (trmO p_W p_H (decL eU8 p_Cells_n p_Cells_f) ([] : List CC) rng (⟨b_X0, b_Y0, b_X1, b_Y1, b_From, b_Count⟩ : BB))).X1), .v (.int .i64 (oB (trmO p_W p_H (decL eU8 p_Cells_n p_Cells_f) ([] : List CC) rng (⟨b_X0, b_Y0, b_X1, b_Y1, b_From, b_Count⟩ : BB))).Y1), .v (.int .i64 (oB (trmO p_W p_H (decL eU8 p_Cells_n p_Cells_f) ([] : List CC) rng (⟨b_X0, b_Y0, b_X1, b_Y1, b_From, b_Count⟩ : BB))).F), .v (.int .i64 (oB (trmO p_W p_H (decL eU8 p_Cells_n p_Cells_f) ([] : List CC) rng (⟨b_X0, b_Y0, b_X1, b_Y1, b_From, b_Count⟩ : BB))).N)], .c (.v (.bool ((trmO p_W p_H (decL eU8 p_Cells_n p_Cells_f) ([] : List CC) rng (⟨b_X0, b_Y0, b_X1, b_Y1, b_From, b_Count⟩ : BB)).isSome)))], rfl, rfl, by simp only [push_cast, Nat.reduceLT, Nat.reduceAdd], by simp only [push_cast, Nat.reduceLT, Nat.reduceAdd], by simp only [push_cast, Nat.reduceLT, Nat.reduceAdd], rfl, ⟨inE0_row h_p_Cells, trivial⟩, rfl, ?_⟩
      intro hpre hlen
      obtain ⟨i_p_Cells, hpre⟩ := hpre
      refine ⟨⟨inE_row h_p_Cells i_p_Cells, trivial⟩, ?_⟩
      have z_p_Cells := lens_row (E := eU8) hlen h_p_Cells
      clear i_p_Cells
      generalize decL eU8 p_Cells_n p_Cells_f = p_CellsL at *
      clear h_p_Cells
      simp (config := {maxSteps := 10000000}) only [x43, push_cast, Nat.reduceAdd, Nat.reduceSub, Nat.reduceLeDiff, Nat.reduceEqDiff, Nat.reduceBEq, Nat.reduceMul, Nat.reduceLT, reduceIte, reduceCtorEq, Int.reduceLE, Int.reduceLT, Int.reduceEq, Int.reduceMul, Int.reduceAdd, Int.reduceSub, Int.reduceNeg, Int.reduceToNat, Int.reduceNe, g78, g58n]
      obtain ⟨hp, hs, hr, hb⟩ := hpre
      have pp := planB_at hp
      have p := box_parts hb
      rw [wrapI (n := 64 * p_W) (by omega) (by omega), wrapI (n := 64 * p_H) (by omega) (by omega)]
      refine ⟨fun h => ?_, ?_⟩
      · have e : trmO p_W p_H p_CellsL ([] : List CC) rng (⟨b_X0, b_Y0, b_X1, b_Y1, b_From, b_Count⟩ : BB) = none := if_pos h
        rw [e]
        exact ⟨⟨rfl, rfl, rfl, rfl, rfl, rfl⟩, rfl⟩
      intro h1 h2
      have eO : trmO p_W p_H p_CellsL ([] : List CC) rng (⟨b_X0, b_Y0, b_X1, b_Y1, b_From, b_Count⟩ : BB) = trmF (badF p_W p_H p_CellsL ([] : List CC) rng (max b_X0 0) (max b_Y0 0) (min b_X1 (64 * p_W)) (min b_Y1 (64 * p_H))) (max b_X0 0) (max b_Y0 0) (min b_X1 (64 * p_W)) (min b_Y1 (64 * p_H)) b_From b_Count.toNat := if_neg (fun h => h.elim h1 h2)
      rw [eO]
      generalize max b_X0 0 = x0 at *
      generalize max b_Y0 0 = y0 at *
      generalize min b_X1 (64 * p_W) = x1 at *
      generalize min b_Y1 (64 * p_H) = y1 at *
      have hF : ∀ h, badB p_W p_H p_CellsL x0 y0 x1 y1 h ([] : List CC) rng = badF p_W p_H p_CellsL ([] : List CC) rng x0 y0 x1 y1 h := fun _ => rfl
      have ha : arcB b_From b_Count = true := by unfold arcB; exact decide_eq_true (by omega)
      have hl := arcL_len ha
      have hat : ∀ i, i < b_Count.toNat → (arcL b_From b_Count).getD i eI.dflt = (b_From + (i : Nat)) % 256 := fun i hi => arcL_at ha hi
      generalize arcL b_From b_Count = M at *
      generalize badF p_W p_H p_CellsL ([] : List CC) rng x0 y0 x1 y1 = f at *
      refine vcLoop_upd (α := {k : Nat // k ≤ b_Count.toNat ∧ ∀ i : Nat, i < k → f ((b_From + i) % 256) = true}) [2, 3, 4, 8, 10] 1 (fun s => [(11, .o (.c (.n 6)))]) (fun s => [(6, .own (M.drop s.1).length 1 (rowF eI (M.drop s.1)) 3)]) (fun s => b_Count.toNat - s.1) ⟨0, Nat.zero_le _, fun i hi => by omega⟩ ?_ ?_
      · simp only [push_cast, Nat.reduceAdd, Nat.reduceSub, Nat.reduceLeDiff, Nat.reduceEqDiff, Nat.reduceBEq, Nat.reduceMul, Nat.reduceLT, reduceIte, reduceCtorEq, Int.reduceLE, Int.reduceLT, Int.reduceEq, Int.reduceMul, Int.reduceAdd, Int.reduceSub, Int.reduceNeg, Int.reduceToNat, Int.reduceNe, g78, g58n, List.drop_zero]
      rintro ⟨k, hk, hf⟩
      simp only [x43L0, push_cast, Nat.reduceAdd, Nat.reduceSub, Nat.reduceLeDiff, Nat.reduceEqDiff, Nat.reduceBEq, Nat.reduceMul, Nat.reduceLT, reduceIte, reduceCtorEq, Int.reduceLE, Int.reduceLT, Int.reduceEq, Int.reduceMul, Int.reduceAdd, Int.reduceSub, Int.reduceNeg, Int.reduceToNat, Int.reduceNe, g78, g58n, List.length_drop, hl, hF]
      refine ⟨fun h => ⟨h, by omega⟩, fun h => ⟨h, hs, hr⟩, fun h1 h2 => ?_, fun h1 => ⟨fun h2 => ?_, fun h2 => ?_⟩⟩
      · rw [dropAt, Nat.add_zero, hat k (by omega)] at h2
        refine ⟨by omega, ⟨k + 1, by omega, fun i hi => ?_⟩, ⟨by simp only; omega, sh_eq (by rw [List.drop_drop]) (by rw [List.length_drop, hl]; omega)⟩, by simp only; omega⟩
        by_cases q : i < k
        · exact hf i q
        · obtain rfl : i = k := by omega
          exact h2
      · rw [trmF_none (fun i hi => hf i (by omega))]
        exact ⟨⟨rfl, rfl, rfl, rfl, rfl, rfl⟩, rfl⟩
      have hfk : f ((b_From + (k : Nat)) % 256) = false := by
        rw [dropAt, Nat.add_zero, hat k (by omega), decide_eq_true (by omega), Bool.true_and] at h1
        exact h1
      refine vcLoop_upd (α := {j : Nat // j < b_Count.toNat - k ∧ ∀ i : Nat, b_Count.toNat - k - j ≤ i → i < b_Count.toNat - k → f ((b_From + (k : Nat) + i) % 256) = true}) [2, 3, 4, 8, 10] 1 (fun s => [(11, .o (.c (.n 7)))]) (fun s => [(7, .own ((M.drop k).take (b_Count.toNat - k - s.1)).length 1 (rowF eI ((M.drop k).take (b_Count.toNat - k - s.1))) 3)]) (fun s => b_Count.toNat - s.1) ⟨0, by omega, fun i hi => by omega⟩ ?_ ?_
      · simp only [push_cast, Nat.reduceAdd, Nat.reduceSub, Nat.reduceLeDiff, Nat.reduceEqDiff, Nat.reduceBEq, Nat.reduceMul, Nat.reduceLT, reduceIte, reduceCtorEq, Int.reduceLE, Int.reduceLT, Int.reduceEq, Int.reduceMul, Int.reduceAdd, Int.reduceSub, Int.reduceNeg, Int.reduceToNat, Int.reduceNe, g78, g58n, List.length_take, List.length_drop, hl]
        refine ⟨by omega, ?_⟩
        rw [List.take_of_length_le (by rw [List.length_drop, hl]; exact Nat.le_refl _)]
        exact (rowEq_rowF _ _ _ _).2 trivial
      rintro ⟨j, hj, hg⟩
      simp only [x43L1, push_cast, Nat.reduceAdd, Nat.reduceSub, Nat.reduceLeDiff, Nat.reduceEqDiff, Nat.reduceBEq, Nat.reduceMul, Nat.reduceLT, reduceIte, reduceCtorEq, Int.reduceLE, Int.reduceLT, Int.reduceEq, Int.reduceMul, Int.reduceAdd, Int.reduceSub, Int.reduceNeg, Int.reduceToNat, Int.reduceNe, g78, g58n, List.length_take, List.length_drop, hl, hF]
      rw [show min (b_Count.toNat - k - j) (b_Count.toNat - k) = b_Count.toNat - k - j by omega, wrapI (by omega) (by omega)]
      have ev : (List.take (b_Count.toNat - k - j) (List.drop k M)).getD (((b_Count.toNat - k - j : Nat) : Int) - 1).toNat eI.dflt = (b_From + (k : Nat) + (b_Count.toNat - k - j - 1 : Nat)) % 256 := by
        rw [takeAtD (by omega), dropAt, hat _ (by omega)]
        congr 1; omega
      rw [ev]
      have step : f ((b_From + (k : Nat) + (b_Count.toNat - k - j - 1 : Nat)) % 256) = true → j + 1 < b_Count.toNat - k ∧ ∀ i : Nat, b_Count.toNat - k - (j + 1) ≤ i → i < b_Count.toNat - k → f ((b_From + (k : Nat) + i) % 256) = true := by
        intro hb
        refine ⟨?_, fun i h3 h4 => ?_⟩
        · by_cases q : j + 1 < b_Count.toNat - k
          · exact q
          · rw [show b_Count.toNat - k - j - 1 = 0 by omega] at hb
            simp only [Int.ofNat_zero, Int.add_zero, Int.natCast_zero] at hb
            rw [hfk] at hb; cases hb
        · by_cases q : b_Count.toNat - k - j ≤ i
          · exact hg i q h4
          · obtain rfl : i = b_Count.toNat - k - j - 1 := by omega
            exact hb
      refine ⟨by omega, by omega, ⟨hs, hr⟩, fun hb => ⟨by omega, ⟨j + 1, step hb⟩, ⟨by show _ = min (b_Count.toNat - k - (j + 1)) (b_Count.toNat - k); omega, tk_eq (m := b_Count.toNat - k - (j + 1)) ?_ (by omega) ?_⟩, by show b_Count.toNat - (j + 1) < _; omega⟩, fun hb => ⟨by omega, by omega, by rfl, ?_⟩⟩
      · show List.take _ (List.take _ _) = List.take (b_Count.toNat - k - (j + 1)) (List.drop k M)
        rw [List.take_take]; congr 1; omega
      · rw [List.length_take, List.length_drop, hl]; omega
      · rw [takeAtD (by omega), dropAt, Nat.add_zero, hat k (by omega), trmF_some (by omega) hf hfk (by omega) hg (fun _ => hb)]
        exact ⟨⟨rfl, rfl, rfl, rfl, rfl, rfl⟩, rfl⟩
    · cases hg_
  · cases hg_
/-- wayfinder/contract.Trim -/
noncomputable def g21n : Con := fun args_ E_ nn_ => match args_ with
  | [.a [.v (.int .i64 p_W), .v (.int .i64 p_H), .n p_Cells], .a [.v (.int .i64 b_X0), .v (.int .i64 b_Y0), .v (.int .i64 b_X1), .v (.int .i64 b_Y1), .v (.int .i64 b_From), .v (.int .i64 b_Count)], .c (.v (.slice none 0 0)), .c (.v (.int .i64 rng))] => (match rowOf E_ p_Cells with
    | some (p_Cells_n, p_Cells_s, p_Cells_f) => some (.q (isRow eU8 p_Cells_n p_Cells_s p_Cells_f ∧ True) (.t [.a [.v (.int .i64 (oB (trimO p_W p_H (decL eU8 p_Cells_n p_Cells_f) ([] : List CC) rng (⟨b_X0, b_Y0, b_X1, b_Y1, b_From, b_Count⟩ : BB))).X0), .v (.int .i64 (oB (trimO p_W p_H (decL eU8 p_Cells_n p_Cells_f) ([] : List CC) rng (⟨b_X0, b_Y0, b_X1, b_Y1, b_From, b_Count⟩ : BB))).Y0), .v (.int .i64 (oB (trimO p_W p_H (decL eU8 p_Cells_n p_Cells_f) ([] : List CC) rng (⟨b_X0, b_Y0, b_X1, b_Y1, b_From, b_Count⟩ : BB))).X1), .v (.int .i64 (oB (trimO p_W p_H (decL eU8 p_Cells_n p_Cells_f) ([] : List CC) rng (⟨b_X0, b_Y0, b_X1, b_Y1, b_From, b_Count⟩ : BB))).Y1), .v (.int .i64 (oB (trimO p_W p_H (decL eU8 p_Cells_n p_Cells_f) ([] : List CC) rng (⟨b_X0, b_Y0, b_X1, b_Y1, b_From, b_Count⟩ : BB))).F), .v (.int .i64 (oB (trimO p_W p_H (decL eU8 p_Cells_n p_Cells_f) ([] : List CC) rng (⟨b_X0, b_Y0, b_X1, b_Y1, b_From, b_Count⟩ : BB))).N)], .c (.v (.bool ((trimO p_W p_H (decL eU8 p_Cells_n p_Cells_f) ([] : List CC) rng (⟨b_X0, b_Y0, b_X1, b_Y1, b_From, b_Count⟩ : BB)).isSome)))]))
    | none => none)
  | _ => none
theorem c21n : COk Try.prog 21 g21n := by
  refine cok_q Try.func21 x21_ok (by kernel_rfl) (cok_tab (cok_cons c41n (cok_cons c42 (cok_cons c43n cok_nil)))) ?_
  intro args_ E_ nn_ cr_ hg_
  unfold g21n at hg_
  split at hg_
  · rename_i p_W p_H p_Cells b_X0 b_Y0 b_X1 b_Y1 b_From b_Count rng
    split at hg_
    · rename_i p_Cells_n p_Cells_s p_Cells_f h_p_Cells
      cases hg_
      refine ⟨_, _, rfl, 1, [p_Cells], [.a [.v (.int .i64 p_W), .v (.int .i64 p_H), .n 0], .a [.v (.int .i64 b_X0), .v (.int .i64 b_Y0), .v (.int .i64 b_X1), .v (.int .i64 b_Y1), .v (.int .i64 b_From), .v (.int .i64 b_Count)], .c (.v (.slice none 0 0)), .c (.v (.int .i64 rng))], [(0, .ro (decL eU8 p_Cells_n p_Cells_f).length eU8.sz (rowF eU8 (decL eU8 p_Cells_n p_Cells_f)))], .t [.a [.v (.int .i64 (oB (trimO p_W p_H (decL eU8 p_Cells_n p_Cells_f) ([] : List CC) rng (⟨b_X0, b_Y0, b_X1, b_Y1, b_From, b_Count⟩ : BB))).X0), .v (.int .i64 (oB (trimO p_W p_H (decL eU8 p_Cells_n p_Cells_f) ([] : List CC) rng (⟨b_X0, b_Y0, b_X1, b_Y1, b_From, b_Count⟩ : BB))).Y0), .v (.int .i64 (oB (trimO p_W p_H (decL eU8 p_Cells_n p_Cells_f) ([] : List CC) rng (⟨b_X0, b_Y0, b_X1, b_Y1, b_From, b_Count⟩ : BB))).X1), .v (.int .i64 (oB (trimO p_W p_H (decL eU8 p_Cells_n p_Cells_f) ([] : List CC) rng (⟨b_X0, b_Y0, b_X1, b_Y1, b_From, b_Count⟩ : BB))).Y1), .v (.int .i64 (oB (trimO p_W p_H (decL eU8 p_Cells_n p_Cells_f) ([] : List CC) rng (⟨b_X0, b_Y0, b_X1, b_Y1, b_From, b_Count⟩ : BB))).F), .v (.int .i64 (oB (trimO p_W p_H (decL eU8 p_Cells_n p_Cells_f) ([] : List CC) rng (⟨b_X0, b_Y0, b_X1, b_Y1, b_From, b_Count⟩ : BB))).N)], .c (.v (.bool ((trimO p_W p_H (decL eU8 p_Cells_n p_Cells_f) ([] : List CC) rng (⟨b_X0, b_Y0, b_X1, b_Y1, b_From, b_Count⟩ : BB)).isSome)))], rfl, rfl, by simp only [push_cast, Nat.reduceLT, Nat.reduceAdd], by simp only [push_cast, Nat.reduceLT, Nat.reduceAdd], by simp only [push_cast, Nat.reduceLT, Nat.reduceAdd], rfl, ⟨inE0_row h_p_Cells, trivial⟩, rfl, ?_⟩
      intro hpre hlen
      obtain ⟨i_p_Cells, hpre⟩ := hpre
      refine ⟨⟨inE_row h_p_Cells i_p_Cells, trivial⟩, ?_⟩
      have z_p_Cells := lens_row (E := eU8) hlen h_p_Cells
      clear i_p_Cells
      generalize decL eU8 p_Cells_n p_Cells_f = p_CellsL at *
      clear h_p_Cells
      simp (config := {maxSteps := 10000000}) only [x21, push_cast, Nat.reduceAdd, Nat.reduceSub, Nat.reduceLeDiff, Nat.reduceEqDiff, Nat.reduceBEq, Nat.reduceMul, Nat.reduceLT, reduceIte, reduceCtorEq, Int.reduceLE, Int.reduceLT, Int.reduceEq, Int.reduceMul, Int.reduceAdd, Int.reduceSub, Int.reduceNeg, Int.reduceToNat, Int.reduceNe, g41n, g42, g43n]
      refine ⟨fun h => ?_, fun h1 h2 => ?_⟩
      · have e : trimO p_W p_H p_CellsL ([] : List CC) rng (⟨b_X0, b_Y0, b_X1, b_Y1, b_From, b_Count⟩ : BB) = none := if_neg (by rintro ⟨a, b⟩; rcases h with h | h; rw [a] at h; cases h; rw [show boxB b_X0 b_Y0 b_X1 b_Y1 b_From b_Count = true from b] at h; cases h)
        rw [e]; exact ⟨⟨rfl, rfl, rfl, rfl, rfl, rfl⟩, rfl⟩
      have e : trimO p_W p_H p_CellsL ([] : List CC) rng (⟨b_X0, b_Y0, b_X1, b_Y1, b_From, b_Count⟩ : BB) = trmO p_W p_H p_CellsL ([] : List CC) rng (⟨b_X0, b_Y0, b_X1, b_Y1, b_From, b_Count⟩ : BB) := if_pos ⟨h1, h2⟩
      rw [e]
      unfold rightB at h1
      simp only [Bool.and_eq_true, decide_eq_true_eq] at h1
      exact ⟨⟨h1.1.1, h1.1.2, h1.2, h2⟩, ⟨rfl, rfl, rfl, rfl, rfl, rfl⟩, rfl⟩
    · cases hg_
  · cases hg_
/-- wayfinder/wayfinderlaw24.ContractOnly -/
def g5 : Con := fun args_ E_ nn_ => match args_ with
  | [.a [.v (.int .i64 p_W), .v (.int .i64 p_H), .n p_Cells], .a [.v (.int .i64 b_X0), .v (.int .i64 b_Y0), .v (.int .i64 b_X1), .v (.int .i64 b_Y1), .v (.int .i64 b_From), .v (.int .i64 b_Count)], .a [.n x_Scan, .v (.int .i64 x_Rng), .v (.int .i64 x_At_X), .v (.int .i64 x_At_Y), .v (.int .i64 x_At_H)]] => (match rowOf E_ p_Cells with
    | some (p_Cells_n, p_Cells_s, p_Cells_f) => (match rowOf E_ x_Scan with
    | some (x_Scan_n, x_Scan_s, x_Scan_f) => some (.q (isRow eU8 p_Cells_n p_Cells_s p_Cells_f ∧ isRow eC x_Scan_n x_Scan_s x_Scan_f ∧ -9223372036854775808 ≤ x_At_H ∧ x_At_H ≤ 9223372036854775807) (.o (.c (.v (.bool (true))))))
    | none => none)
    | none => none)
  | _ => none
set_option maxHeartbeats 4000000 in
theorem c5 : COk Try.prog 5 g5 := by
  refine cok_q Try.func5 x5_ok (by kernel_rfl) (cok_tab (cok_cons c8 (cok_cons c9 (cok_cons c15 (cok_cons c17 (cok_cons c16 (cok_cons c18 (cok_cons c19 (cok_cons c20 (cok_cons c21n cok_nil)))))))))) ?_
  intro args_ E_ nn_ cr_ hg_
  unfold g5 at hg_
  split at hg_
  · rename_i p_W p_H p_Cells b_X0 b_Y0 b_X1 b_Y1 b_From b_Count x_Scan x_Rng x_At_X x_At_Y x_At_H
    split at hg_
    · rename_i p_Cells_n p_Cells_s p_Cells_f h_p_Cells
      split at hg_
      · rename_i x_Scan_n x_Scan_s x_Scan_f h_x_Scan
        cases hg_
        refine ⟨_, _, rfl, 2, [p_Cells, x_Scan], [.a [.v (.int .i64 p_W), .v (.int .i64 p_H), .n 0], .a [.v (.int .i64 b_X0), .v (.int .i64 b_Y0), .v (.int .i64 b_X1), .v (.int .i64 b_Y1), .v (.int .i64 b_From), .v (.int .i64 b_Count)], .a [.n 1, .v (.int .i64 x_Rng), .v (.int .i64 x_At_X), .v (.int .i64 x_At_Y), .v (.int .i64 x_At_H)]], [(0, .ro (decL eU8 p_Cells_n p_Cells_f).length eU8.sz (rowF eU8 (decL eU8 p_Cells_n p_Cells_f))), (1, .ro (decL eC x_Scan_n x_Scan_f).length eC.sz (rowF eC (decL eC x_Scan_n x_Scan_f)))], .o (.c (.v (.bool (true)))), rfl, rfl, by simp only [push_cast, Nat.reduceLT, Nat.reduceAdd], by simp only [push_cast, Nat.reduceLT, Nat.reduceAdd], by simp only [push_cast, Nat.reduceLT, Nat.reduceAdd], rfl, ⟨inE0_row h_p_Cells, inE0_row h_x_Scan, trivial⟩, rfl, ?_⟩
        intro hpre hlen
        obtain ⟨i_p_Cells, hpre⟩ := hpre
        obtain ⟨i_x_Scan, hpre⟩ := hpre
        refine ⟨⟨inE_row h_p_Cells i_p_Cells, inE_row h_x_Scan i_x_Scan, trivial⟩, ?_⟩
        have z_p_Cells := lens_row (E := eU8) hlen h_p_Cells
        have z_x_Scan := lens_row (E := eC) hlen h_x_Scan
        clear i_p_Cells
        generalize decL eU8 p_Cells_n p_Cells_f = p_CellsL at *
        clear i_x_Scan
        generalize decL eC x_Scan_n x_Scan_f = x_ScanL at *
        clear h_p_Cells
        clear h_x_Scan
        have u1 : isRow eB 1 6 (litF [SC.v (Value.int IntKind.i64 b_X0), SC.v (Value.int IntKind.i64 b_Y0), SC.v (Value.int IntKind.i64 b_X1), SC.v (Value.int IntKind.i64 b_Y1), SC.v (Value.int IntKind.i64 b_From), SC.v (Value.int IntKind.i64 b_Count)] 6) ↔ True := iff_true_intro (lits_row eB [(⟨b_X0, b_Y0, b_X1, b_Y1, b_From, b_Count⟩ : BB)]).1
        have u2 : decL eB 1 (litF [SC.v (Value.int IntKind.i64 b_X0), SC.v (Value.int IntKind.i64 b_Y0), SC.v (Value.int IntKind.i64 b_X1), SC.v (Value.int IntKind.i64 b_Y1), SC.v (Value.int IntKind.i64 b_From), SC.v (Value.int IntKind.i64 b_Count)] 6) = [(⟨b_X0, b_Y0, b_X1, b_Y1, b_From, b_Count⟩ : BB)] := (lits_row eB [(⟨b_X0, b_Y0, b_X1, b_Y1, b_From, b_Count⟩ : BB)]).2
        simp (config := {maxSteps := 10000000}) only [x5, push_cast, Nat.reduceAdd, Nat.reduceSub, Nat.reduceLeDiff, Nat.reduceEqDiff, Nat.reduceBEq, Nat.reduceMul, Nat.reduceLT, reduceIte, reduceCtorEq, Int.reduceLE, Int.reduceLT, Int.reduceEq, Int.reduceMul, Int.reduceAdd, Int.reduceSub, Int.reduceNeg, Int.reduceToNat, Int.reduceNe, g8, g9, g15, g17, g16, g18, g19, g20, g21n, u1, u2]
        intro h1 h2 h3 h4
        refine ⟨hpre, by rfl, fun g => ?_, fun g => ?_⟩
        · have e : rfnL p_W p_H p_CellsL [(⟨b_X0, b_Y0, b_X1, b_Y1, b_From, b_Count⟩ : BB)] x_ScanL x_Rng (x_At_H % 5) = [] := if_neg g
          rw [e]; rfl
        have hR : rightB p_W p_H p_CellsL x_ScanL x_Rng = true := by
          cases h : rightB p_W p_H p_CellsL x_ScanL x_Rng with
          | true => rfl
          | false =>
            rw [(rfn_bad (T := [(⟨b_X0, b_Y0, b_X1, b_Y1, b_From, b_Count⟩ : BB)]) (sp := x_At_H % 5) (.inl h)).1] at g; cases g
        have hb : BB.ok (⟨b_X0, b_Y0, b_X1, b_Y1, b_From, b_Count⟩ : BB) = true := by
          cases h : BB.ok (⟨b_X0, b_Y0, b_X1, b_Y1, b_From, b_Count⟩ : BB) with
          | true => rfl
          | false =>
            rw [(rfn_bad (W := p_W) (H := p_H) (L := p_CellsL) (S := x_ScanL) (rng := x_Rng) (T := [(⟨b_X0, b_Y0, b_X1, b_Y1, b_From, b_Count⟩ : BB)]) (sp := x_At_H % 5) (.inr (.inr (by rw [List.all_cons, h]; rfl)))).1] at g; cases g
        have ht : tidy (⟨b_X0, b_Y0, b_X1, b_Y1, b_From, b_Count⟩ : BB) (rfnL p_W p_H p_CellsL [(⟨b_X0, b_Y0, b_X1, b_Y1, b_From, b_Count⟩ : BB)] x_ScanL x_Rng (x_At_H % 5)) := by
          have e : rfnL p_W p_H p_CellsL [(⟨b_X0, b_Y0, b_X1, b_Y1, b_From, b_Count⟩ : BB)] x_ScanL x_Rng (x_At_H % 5) = rqL (trmO p_W p_H p_CellsL x_ScanL x_Rng) [(⟨b_X0, b_Y0, b_X1, b_Y1, b_From, b_Count⟩ : BB)] (x_At_H % 5) [] := if_pos g
          rw [e]; exact only_rfn hb
        have hT : trimO p_W p_H p_CellsL [] x_Rng (⟨b_X0, b_Y0, b_X1, b_Y1, b_From, b_Count⟩ : BB) = trmO p_W p_H p_CellsL [] x_Rng (⟨b_X0, b_Y0, b_X1, b_Y1, b_From, b_Count⟩ : BB) := by
          refine if_pos ⟨?_, hb⟩
          unfold rightB at hR ⊢
          simp only [Bool.and_eq_true, decide_eq_true_eq] at hR
          rw [hR.1.1, decide_eq_true hR.2]; rfl
        generalize rfnL p_W p_H p_CellsL [(⟨b_X0, b_Y0, b_X1, b_Y1, b_From, b_Count⟩ : BB)] x_ScanL x_Rng (x_At_H % 5) = T at *
        obtain ⟨t1, t2, t3⟩ := ht
        have tv := volS_le (fun c hc => (t1 c hc).1)
        have tl := len_vol (fun c hc => (t1 c hc).1)
        have tb := vol_bd hb
        refine vcLoop_upd (α := {k : Nat // k ≤ T.length}) [3, 4, 5, 7] 0 (fun s => [(9, .o (.c (.v (.int .i64 (volS (T.take s.1)))))), (10, .o (.c (.v (.int .i64 (s.1 : Nat)))))]) (fun s => []) (fun s => T.length - s.1) ⟨0, Nat.zero_le _⟩ ?_ ?_
        · simp only [push_cast, Nat.reduceAdd, Nat.reduceSub, Nat.reduceLeDiff, Nat.reduceEqDiff, Nat.reduceBEq, Nat.reduceMul, Nat.reduceLT, reduceIte, reduceCtorEq, Int.reduceLE, Int.reduceLT, Int.reduceEq, Int.reduceMul, Int.reduceAdd, Int.reduceSub, Int.reduceNeg, Int.reduceToNat, Int.reduceNe, g8, g9, g15, g17, g16, g18, g19, g20, g21n, u1, u2]
          rfl
        rintro ⟨k, hk⟩
        by_cases hlt : k < T.length
        · have hc := t1 _ (getB_in hlt)
          have hi := inm_true hc.1 hb hc.2
          simp only [x5L1, push_cast, Nat.reduceAdd, Nat.reduceSub, Nat.reduceLeDiff, Nat.reduceEqDiff, Nat.reduceBEq, Nat.reduceMul, Nat.reduceLT, reduceIte, reduceCtorEq, Int.reduceLE, Int.reduceLT, Int.reduceEq, Int.reduceMul, Int.reduceAdd, Int.reduceSub, Int.reduceNeg, Int.reduceToNat, Int.reduceNe, g8, g9, g15, g17, g16, g18, g19, g20, g21n, u1, u2, hlt, hi]
          refine vcLoop_upd (α := {j : Nat // j ≤ k}) [3, 4, 5, 7, 9, 10] 0 (fun s => [(11, .o (.c (.v (.int .i64 (s.1 : Nat)))))]) (fun s => []) (fun s => k - s.1) ⟨0, Nat.zero_le _⟩ ?_ ?_
          · simp only [push_cast, Nat.reduceAdd, Nat.reduceSub, Nat.reduceLeDiff, Nat.reduceEqDiff, Nat.reduceBEq, Nat.reduceMul, Nat.reduceLT, reduceIte, reduceCtorEq, Int.reduceLE, Int.reduceLT, Int.reduceEq, Int.reduceMul, Int.reduceAdd, Int.reduceSub, Int.reduceNeg, Int.reduceToNat, Int.reduceNe, g8, g9, g15, g17, g16, g18, g19, g20, g21n, u1, u2]
          rintro ⟨j, hj⟩
          by_cases hjk : j < k
          · have hm := bm_none (dis_at t2 hjk hlt)
            simp only [x5L0, push_cast, Nat.reduceAdd, Nat.reduceSub, Nat.reduceLeDiff, Nat.reduceEqDiff, Nat.reduceBEq, Nat.reduceMul, Nat.reduceLT, reduceIte, reduceCtorEq, Int.reduceLE, Int.reduceLT, Int.reduceEq, Int.reduceMul, Int.reduceAdd, Int.reduceSub, Int.reduceNeg, Int.reduceToNat, Int.reduceNe, g8, g9, g15, g17, g16, g18, g19, g20, g21n, u1, u2, hlt, hjk, hm]
            exact ⟨by omega, by omega, by rfl, ⟨j + 1, by omega⟩, wrapI (by omega) (by omega), by simp only; omega⟩
          · simp only [x5L0, push_cast, Nat.reduceAdd, Nat.reduceSub, Nat.reduceLeDiff, Nat.reduceEqDiff, Nat.reduceBEq, Nat.reduceMul, Nat.reduceLT, reduceIte, reduceCtorEq, Int.reduceLE, Int.reduceLT, Int.reduceEq, Int.reduceMul, Int.reduceAdd, Int.reduceSub, Int.reduceNeg, Int.reduceToNat, Int.reduceNe, g8, g9, g15, g17, g16, g18, g19, g20, g21n, u1, u2, hlt, hjk]
            have t5 := tv k
            have t6 := tv (k + 1)
            have e := vol_eq hc.1
            refine ⟨⟨k + 1, by omega⟩, ⟨?_, wrapI (by omega) (by omega)⟩, by simp only; omega⟩
            show _ = volS (T.take (k + 1))
            rw [volS_take hlt] at t6 ⊢
            rw [e]
            exact wrapI (by omega) (by omega)
        · simp only [x5L1, push_cast, Nat.reduceAdd, Nat.reduceSub, Nat.reduceLeDiff, Nat.reduceEqDiff, Nat.reduceBEq, Nat.reduceMul, Nat.reduceLT, reduceIte, reduceCtorEq, Int.reduceLE, Int.reduceLT, Int.reduceEq, Int.reduceMul, Int.reduceAdd, Int.reduceSub, Int.reduceNeg, Int.reduceToNat, Int.reduceNe, g8, g9, g15, g17, g16, g18, g19, g20, g21n, u1, u2, hlt]
          have hA : volS (List.take k T) ≤ volI b_X0 b_Y0 b_X1 b_Y1 b_From b_Count := by
            have := (tv k).2
            have e := vol_eq hb
            simp only at e
            rw [e]; omega
          refine ⟨fun a b c d e => ⟨⟨a, ⟨⟨b, c⟩, d⟩, e⟩, fun f => ⟨⟨a, ⟨⟨b, c⟩, d⟩, e⟩, f⟩⟩, fun a => ⟨a, fun b c d e => ⟨a, ⟨⟨b, c⟩, d⟩, e⟩⟩, hA, ?_⟩
          have hp : planB p_W p_H p_CellsL = true := by
            unfold rightB at hR
            simp only [Bool.and_eq_true] at hR
            exact hR.1.1
          have pp := planB_at hp
          rw [wrapI (n := p_W * 64) (by omega) (by omega), wrapI (n := p_H * 64) (by omega) (by omega), hT]
          by_cases q : 0 ≤ b_X0 ∧ 0 ≤ b_Y0 ∧ b_X1 ≤ 64 * p_W ∧ b_Y1 ≤ 64 * p_H
          · right
            rw [trm_all hb q, oB_some]
            exact ⟨rfl, rfl, rfl, rfl, rfl, rfl, rfl⟩
          · left
            rw [← Bool.decide_and, ← Bool.decide_and, ← Bool.decide_and, decide_eq_false_iff_not]
            omega
      · cases hg_
    · cases hg_
  · cases hg_
end Go.Proofs.Ytjnelnofbpjdmaa
