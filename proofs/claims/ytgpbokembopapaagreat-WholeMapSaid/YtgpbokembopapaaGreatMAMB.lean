/- A part of the proof of a statement about this seat: how a function is stepped through, and plain laws. No conditions. -/
import Derived.Test.YtgpbokembopapaaGreatRows
import Derived.Test.YtgpbokembopapaaGreatMASz4
import Derived.Test.YtgpbokembopapaaGreatMAMA
import Derived.KernelRfl
set_option linter.unusedVariables false
set_option linter.unusedSimpArgs false
set_option maxRecDepth 20000
namespace Go.Proofs.YtgpbokembopapaaGreat
open Go.Sx Go.Way
section
open Go.Sx
theorem told_deep {S : St} (i q n sz : Nat) (ty : TypeId) (F : Nat → Nat → SC) (f f' : Nat → Nat → Value) (c c' : Nat → Nat → Option (Nat × Nat × (Nat → Nat → Value))) (al : List (Nat × Nat × Nat)) (hiq : i ≠ q) (hi : lk S.ents i = some (.own n sz F ty)) (hq : lk S.ents q = some (.deep none n sz f c al))
    (hF : ∀ e j, e < n → j < sz → F e j = .v (f' e j)) (hs : ∀ e, e < n → ∃ e', e' < n ∧ ∀ j, j < sz → f' e j = f e' j ∧ c' e j = c e' j) : Go.Sx.Told S (fun _ : Unit => ⟨S.env, (i, .deep (some ty) n sz f' c' []) :: S.ents, S.next⟩) := by
  intro base M N n0 r0 r a w hr
  have hh := hr.heap
  have hoi := hh.ent i _ hi
  have hdq := hh.ent q _ hq
  have hin : ∀ b, innerB n sz f' c' b → innerB n sz f c b := by
    rintro b ⟨e, j, he, hj, hc, hb⟩
    obtain ⟨e', he', hjj⟩ := hs e he
    obtain ⟨h1, h2⟩ := hjj j hj
    exact ⟨e', j, he', hj, by rw [← h2]; exact hc, by rw [← h1]; exact hb⟩
  have hcase : ∀ k x, lk ((i, Ent.deep (some ty) n sz f' c' []) :: S.ents) k = some x → (k = i ∧ x = .deep (some ty) n sz f' c' []) ∨ (k ≠ i ∧ lk S.ents k = some x) := by
    intro k x hk
    simp only [lk] at hk
    split at hk
    · rename_i h2; cases hk; exact .inl ⟨h2.symm, rfl⟩
    · rename_i h2; exact .inr ⟨fun hh => h2 hh.symm, hk⟩
  have hnot : ∀ b, blkOf (r i) = some b → ¬ innerB n sz f c b := fun b hb hcon => hh.apart i q _ _ hiq hi hq rfl rfl b (.inl hb) (.inr hcon)
  have hfoot : ∀ b, foot (Ent.deep (some ty) n sz f' c' []) (r i) b → blkOf (r i) = some b ∨ innerB n sz f c b := fun b hb => hb.imp id (hin b)
  refine ⟨(), r, hr.defers, hr.tmps, hr.slot, ⟨hh.size, hh.one, hh.os, hh.tape, hh.output, hh.frame, ?_, ?_, ?_, ?_⟩, hr.scE, fun k x hx => ?_, hr.low, hr.keep⟩
  · intro k x hk
    rcases hcase k x hk with ⟨rfl, rfl⟩ | ⟨_, h2⟩
    · refine ⟨⟨?_, fun b hb hcon => hnot b hb (hin b hcon)⟩, ?_, trivial⟩
      · obtain ⟨hm, hr2⟩ := hoi
        refine ⟨hm, ?_⟩
        rcases hr2 with ⟨b, o, cap, cur, h1, h2, h3, h4, h5, h6⟩ | hr2
        · exact .inl ⟨b, o, cap, cur, h1, h2, h3, h4, h5, fun e j he hj => by rw [h6 e j he hj, hF e j he hj]; rfl⟩
        · exact .inr hr2
      · intro e j n' s' g he hj hc
        obtain ⟨e', he', hjj⟩ := hs e he
        obtain ⟨h1, h2⟩ := hjj j hj
        rw [h1]
        exact hdq.2.1 e' j n' s' g he' hj (by rw [← h2]; exact hc)
    · exact hh.ent k x h2
  · intro k k' x x' hkk hk hk' hm hl b hb hb'
    rcases hcase k x hk with ⟨rfl, rfl⟩ | ⟨h3, h2⟩
    · rcases hcase k' x' hk' with ⟨rfl, rfl⟩ | ⟨_, h2'⟩
      · exact hkk rfl
      · have hb2 : blkOf (r k) = some b := hb.resolve_right id
        exact hh.apart k k' _ x' hkk hi h2' rfl hl b (.inl hb2) hb'
    · rcases hcase k' x' hk' with ⟨rfl, rfl⟩ | ⟨_, h2'⟩
      · rcases hfoot b hb' with g | g
        · exact hh.apart k k' x _ hkk h2 hi hm rfl b hb (.inl g)
        · by_cases e : k = q
          · subst e; rw [hq] at h2; cases h2; cases hm
          · exact hh.apart k q x _ e h2 hq hm rfl b hb (.inr g)
      · exact hh.apart k k' x x' hkk h2 h2' hm hl b hb hb'
  · intro k x hk hm b hb
    rcases hcase k x hk with ⟨rfl, rfl⟩ | ⟨_, h2⟩
    · exact hh.mine k _ hi rfl b (.inl (hb.resolve_right id))
    · exact hh.mine k x h2 hm b hb
  · intro k x hk hl b hb
    rcases hcase k x hk with ⟨rfl, rfl⟩ | ⟨_, h2⟩
    · rcases hfoot b hb with g | g
      · exact hh.src k _ hi rfl b (.inl g)
      · exact hh.src q _ hq rfl b (.inr g)
    · exact hh.src k x h2 hl b hb
  · rcases hcase k x hx with ⟨rfl, rfl⟩ | ⟨_, h2⟩
    · exact ⟨(hr.scH k _ hi).1, trivial⟩
    · exact hr.scH k x h2
end
section
open Go.Sx
theorem told_one {S : St} (q n sz : Nat) (o : Option TypeId) (f : Nat → Nat → Value) (c : Nat → Nat → Option (Nat × Nat × (Nat → Nat → Value))) (al : List (Nat × Nat × Nat)) (hq : lk S.ents q = some (.deep o n sz f c al)) : Go.Sx.Told S (fun _ : PLift (∀ e j, e < n → j < sz → (c e j).isSome = true → (f e j).oneCell' = true) => S) := by
  intro base M N n0 r0 r a w hr
  refine ⟨⟨fun e j he hj hc => ?_⟩, r, hr⟩
  obtain ⟨⟨n', sz', g⟩, hg⟩ := Option.isSome_iff_exists.1 hc
  obtain ⟨ad, cap, hV, _⟩ := (hr.heap.ent q _ hq).2.1 e j n' sz' g he hj hg
  rw [hV]; rfl
end
theorem nt_one {L : List NT} {V : Nat → Nat → Value} (h : ∀ e j, e < L.length → j < 8 → (deepC eNt L e j).isSome = true → (deepF eNt L V e j).oneCell' = true) : ∀ e j, e < L.length → j < 8 → (deepF eNt L V e j).oneCell' = true := by
  intro e j he hj
  rcases (by omega : j = 0 ∨ j = 1 ∨ j = 2 ∨ j = 3 ∨ j = 4 ∨ j = 5 ∨ j = 6 ∨ j = 7) with rfl | rfl | rfl | rfl | rfl | rfl | rfl | rfl
  · rfl
  · rfl
  · exact h e 2 he hj rfl
  · rfl
  · rfl
  · rfl
  · rfl
  · rfl
section
open Go.Sx
theorem pick_at {n k : Nat} {x : Int} (hn : n ≤ 1000) (hk : k < n) (hx : 0 ≤ x ∧ x ≤ 255) : ∃ q : Nat, k ≤ q ∧ q < n ∧ IntKind.i64.wrap (↑k + (IntKind.i64.wrap x).tmod (IntKind.i64.wrap (↑n - ↑k))) = (q : Int) ∧ ¬ IntKind.i64.wrap ((n : Int) - ↑k) = 0 := by
  have e1 : IntKind.i64.wrap ((n : Int) - ↑k) = ((n - k : Nat) : Int) := by rw [wrapI (by omega) (by omega)]; omega
  have e2 : IntKind.i64.wrap x = ((x.toNat : Nat) : Int) := by rw [wrapI (by omega) (by omega)]; omega
  have h3 := Nat.mod_lt x.toNat (show 0 < n - k by omega)
  refine ⟨k + x.toNat % (n - k), by omega, by omega, ?_, by rw [e1]; omega⟩
  rw [e1, e2, ← Int.ofNat_tmod, wrapI (by omega) (by omega)]
  omega
def swp (σ : Nat → Nat) (k q : Nat) (e : Nat) : Nat := if e = q then σ k else if e = k then σ q else σ e
theorem swp_to {σ : Nat → Nat} {k q n : Nat} (h : ∀ e, e < n → σ e < n) (hk : k < n) (hq : q < n) : ∀ e, e < n → swp σ k q e < n := by
  intro e he
  unfold swp
  split
  · exact h k hk
  · split
    · exact h q hq
    · exact h e he
theorem swp_onto {σ : Nat → Nat} {k q n : Nat} (h : ∀ i, i < n → ∃ e, e < n ∧ σ e = i) (hk : k < n) (hq : q < n) : ∀ i, i < n → ∃ e, e < n ∧ swp σ k q e = i := by
  intro i hi
  obtain ⟨e, he, h2⟩ := h i hi
  by_cases h3 : e = k
  · subst h3; exact ⟨q, hq, by unfold swp; rw [if_pos rfl]; exact h2⟩
  · by_cases h4 : e = q
    · subst h4
      refine ⟨k, hk, ?_⟩
      unfold swp
      rw [if_neg (fun hh => h3 hh.symm), if_pos rfl]; exact h2
    · refine ⟨e, he, ?_⟩
      unfold swp
      rw [if_neg h4, if_neg h3]; exact h2
theorem swap_row {L : List NT} {V : Nat → Nat → Value} {σ : Nat → Nat} {k q : Nat} {cs ds : List SC} (hc : ∀ j, j < 8 → nth cs j = some (.v (deepF eNt L V (σ q) j))) (hd : ∀ j, j < 8 → nth ds j = some (.v (deepF eNt L V (σ k) j))) (τ : SC → SC) (hτ : ∀ v, τ (.v v) = .v v) :
    rowEq L.length 8 (updF (updF (fun e j => SC.v (deepF eNt L V (σ e) j)) k 0 cs) q 0 ds) (fun e j => SC.v (deepF eNt L V (swp σ k q e) j)) τ := by
  intro e j he hj
  rw [hτ]
  simp only [updF, swp, Nat.zero_le, and_true, Nat.sub_zero]
  rw [hc j hj, hd j hj]
  by_cases h1 : e = q
  · rw [if_pos h1, if_pos h1]
  · rw [if_neg h1, if_neg h1]
    by_cases h2 : e = k
    · rw [if_pos h2, if_pos h2]
    · rw [if_neg h2, if_neg h2]
end
theorem few_len {L : List NT} (h : fewB L = true) : L.length ≤ 10 := by
  unfold fewB at h
  rw [Bool.and_eq_true, decide_eq_true_iff] at h
  exact h.1
theorem few_scan {L : List NT} (h : fewB L = true) {i : Nat} (hi : i < L.length) : (L.getD i eNt.dflt).s.length ≤ 3 := by
  unfold fewB at h
  rw [Bool.and_eq_true, List.all_eq_true] at h
  rw [getN_at hi]
  exact of_decide_eq_true (h.2 _ (List.getElem_mem hi))
section
open Go.Sx
variable {L : List NT} {σ : Nat → Nat} {V : Nat → Nat → Value} {e j : Nat}
theorem odr_at (h : e < L.length) : ((List.range L.length).map fun e => L.getD (σ e) eNt.dflt).getD e eNt.dflt = L.getD (σ e) eNt.dflt := by
  rw [List.getD_eq_getElem?_getD, List.getElem?_map, List.getElem?_range h]; rfl
theorem odr_F (h : e < L.length) : deepF eNt ((List.range L.length).map fun e => L.getD (σ e) eNt.dflt) (fun e j => V (σ e) j) e j = deepF eNt L V (σ e) j := by
  unfold deepF; rw [odr_at h]
theorem odr_C (h : e < L.length) : deepC eNt ((List.range L.length).map fun e => L.getD (σ e) eNt.dflt) e j = deepC eNt L (σ e) j := by
  unfold deepC; rw [odr_at h]
end
def toldN (L : List NT) (k : Nat) (n : NT) : Prop := ∃ i, i < k ∧ L.getD i eNt.dflt = n
def oddB (ch : List Int) (i : Nat) : Bool := decide (i < ch.length) && Go.Sx.bitI BinOp.and IntKind.u8 (ch.getD i Go.Sx.eU8.dflt) 1 != 0
def toldO (L : List NT) (ch : List Int) (k : Nat) (n : NT) : Prop := ∃ i, i < k ∧ oddB ch i = true ∧ L.getD i eNt.dflt = n
theorem toldN_nil {L : List NT} (n : NT) : False ↔ toldN L 0 n := ⟨fun h => h.elim, fun ⟨i, h, _⟩ => by omega⟩
theorem toldO_nil {L : List NT} {ch : List Int} (n : NT) : False ↔ toldO L ch 0 n := ⟨fun h => h.elim, fun ⟨i, h, _⟩ => by omega⟩
theorem toldN_step {L : List NT} {k : Nat} (n : NT) : (toldN L k n ∨ n = L.getD k eNt.dflt) ↔ toldN L (k + 1) n := by
  constructor
  · rintro (⟨i, h, e⟩ | e)
    · exact ⟨i, by omega, e⟩
    · exact ⟨k, by omega, e.symm⟩
  · rintro ⟨i, h, e⟩
    by_cases h2 : i = k
    · subst h2; exact .inr e.symm
    · exact .inl ⟨i, by omega, e⟩
theorem toldO_yes {L : List NT} {ch : List Int} {k : Nat} (ho : oddB ch k = true) (n : NT) : (toldO L ch k n ∨ n = L.getD k eNt.dflt) ↔ toldO L ch (k + 1) n := by
  constructor
  · rintro (⟨i, h, e⟩ | e)
    · exact ⟨i, by omega, e⟩
    · exact ⟨k, by omega, ho, e.symm⟩
  · rintro ⟨i, h, o, e⟩
    by_cases h2 : i = k
    · subst h2; exact .inr e.symm
    · exact .inl ⟨i, by omega, o, e⟩
theorem toldO_no {L : List NT} {ch : List Int} {k : Nat} (ho : oddB ch k = false) (n : NT) : toldO L ch k n ↔ toldO L ch (k + 1) n := by
  constructor
  · rintro ⟨i, h, e⟩
    exact ⟨i, by omega, e⟩
  · rintro ⟨i, h, o, e⟩
    by_cases h2 : i = k
    · subst h2; rw [ho] at o; cases o
    · exact ⟨i, by omega, o, e⟩
theorem odd_yes {ch : List Int} {i : Nat} (h : i < ch.length) (hb : ¬ Go.Sx.bitI BinOp.and IntKind.u8 (ch.getD i Go.Sx.eU8.dflt) 1 = 0) : oddB ch i = true := by
  unfold oddB
  rw [decide_eq_true h, Bool.true_and, bne_iff_ne]
  exact hb
theorem toldN_step2 {L : List NT} {k : Nat} (n : NT) : ((toldN L k n ∨ n = L.getD k eNt.dflt) ∨ n = L.getD k eNt.dflt) ↔ toldN L (k + 1) n := by
  rw [or_assoc, or_self]; exact toldN_step n
def toldJ (L : List NT) (ch : List Int) (k : Nat) (n : NT) : Prop := toldO L ch L.length n ∨ ∃ i, i < k ∧ oddB ch i = false ∧ L.getD i eNt.dflt = n
theorem toldJ_nil {L : List NT} {ch : List Int} (n : NT) : toldO L ch L.length n ↔ toldJ L ch 0 n := ⟨.inl, fun h => h.elim id fun ⟨i, h, _⟩ => by omega⟩
theorem toldJ_yes {L : List NT} {ch : List Int} {k : Nat} (ho : oddB ch k = false) (n : NT) : (toldJ L ch k n ∨ (False ∨ n = L.getD k eNt.dflt)) ↔ toldJ L ch (k + 1) n := by
  constructor
  · rintro ((h | ⟨i, h, e⟩) | h | e)
    · exact .inl h
    · exact .inr ⟨i, by omega, e⟩
    · exact h.elim
    · exact .inr ⟨k, by omega, ho, e.symm⟩
  · rintro (h | ⟨i, h, o, e⟩)
    · exact .inl (.inl h)
    · by_cases h2 : i = k
      · subst h2; exact .inr (.inr e.symm)
      · exact .inl (.inr ⟨i, by omega, o, e⟩)
theorem toldJ_no {L : List NT} {ch : List Int} {k : Nat} (ho : oddB ch k = true) (n : NT) : toldJ L ch k n ↔ toldJ L ch (k + 1) n := by
  constructor
  · rintro (h | ⟨i, h, e⟩)
    · exact .inl h
    · exact .inr ⟨i, by omega, e⟩
  · rintro (h | ⟨i, h, o, e⟩)
    · exact .inl h
    · by_cases h2 : i = k
      · subst h2; rw [ho] at o; cases o
      · exact .inr ⟨i, by omega, o, e⟩
theorem toldJ_end {L : List NT} {ch : List Int} {n : NT} : toldJ L ch L.length n ↔ toldN L L.length n := by
  constructor
  · rintro (⟨i, h, _, e⟩ | ⟨i, h, _, e⟩) <;> exact ⟨i, h, e⟩
  · rintro ⟨i, h, e⟩
    cases ho : oddB ch i with
    | true => exact .inl ⟨i, h, ho, e⟩
    | false => exact .inr ⟨i, h, ho, e⟩
theorem told_ord {L OL : List NT} {σ : Nat → Nat} (hOL : ((List.range L.length).map fun e => L.getD (σ e) eNt.dflt) = OL) (hσ : ∀ e, e < L.length → σ e < L.length) (hsur : ∀ i, i < L.length → ∃ e, e < L.length ∧ σ e = i) (n : NT) : toldN L L.length n ↔ toldN OL OL.length n := by
  subst hOL
  rw [List.length_map, List.length_range]
  constructor
  · rintro ⟨i, h, e⟩
    obtain ⟨e', h2, h3⟩ := hsur i h
    exact ⟨e', h2, by rw [odr_at h2, h3, e]⟩
  · rintro ⟨i, h, e⟩
    exact ⟨σ i, hσ i h, by rw [← odr_at h, e]⟩
theorem odd_no {ch : List Int} {i : Nat} (h : ch.length ≤ i ∨ Go.Sx.bitI BinOp.and IntKind.u8 (ch.getD i Go.Sx.eU8.dflt) 1 = 0) : oddB ch i = false := by
  unfold oddB
  rcases h with h | h
  · rw [decide_eq_false (by omega), Bool.false_and]
  · rw [h, bne_self_eq_false, Bool.and_false]
theorem told_few {L : List NT} (h : fewB L = true) {n : NT} (hn : toldN L L.length n) : n.s.length ≤ 3 := by
  obtain ⟨i, hi, rfl⟩ := hn
  exact few_scan h hi
theorem part_no {A : List SE} {A' : List QE} {id : Int} (h : ((lkS A id).isSome = false ∨ (lkP A' id).isSome = false) ∨ (plO A' id).g = true) : partC A A' id = [] := by
  unfold partC
  rw [if_neg]
  rintro ⟨h1, h2, h3⟩
  rcases h with (h | h) | h
  · rw [h] at h1; cases h1
  · rw [h] at h2; cases h2
  · rw [h] at h3; cases h3
section
open Go.Sx
theorem deep_same {L L' : List EE} {V : Nat → Nat → Value} (h : L = L') : (packL L).length = (packL L').length ∧ deepEq (packL L).length 3 (deepF eTl (packL L) V) (deepC eTl (packL L)) (deepF eTl (packL L') V) (deepC eTl (packL L')) := by
  subst h
  exact ⟨rfl, fun _ _ _ _ => ⟨rfl, cEq_refl _⟩⟩
end
theorem packL_none : (packL []).length = 0 := by
  have h : (srtL cmpCC (ordL [])).Perm [] := srtL_perm _
  unfold packL
  rw [List.length_map, h.length_eq]; rfl
def x3L0 : XC := (.seq (.seq (.reg false [O1 56 .mv 11, O1 57 .mv 10, O1 58 .lenS 57, O2 59 (.bin .lss) 56 58, O1 60 .mv 59, G1 61 .mv 11 60 true, G1 62 .mv 1 60 true, G1 63 .lenS 62 60 true, G2 64 (.bin .lss) 61 63 60 true, ⟨(some 65), .pick, [(.t 60), (.t 64), (.k (.bool false))], none⟩]) (.cond (.t 65) .skip (.exit 0))) (.seq (.block 1 (.seq (.reg false [O1 68 .mv 11, O1 69 .mv 1, O1 70 .mv 11, O2 71 (.ixS 1) 69 70, O1 72 .load1 71, O1 73 (.conv .i64) 72, O1 74 .mv 10, O1 75 .lenS 74, O1 76 .mv 11, O2 77 (.bin .sub) 75 76, O2 78 (.bin .rem) 73 77, O2 79 (.bin .add) 68 78, O1 12 .mv 79]) (.regD [O1 80 .mv 10, O1 81 .mv 11, O1 82 .mv 10, O1 83 .mv 12, O1 84 .mv 10, O1 85 .mv 12, O2 86 (.ixS 8) 84 85, O1 87 (.loadN 8) 86, O1 88 .mv 10, O1 89 .mv 11, O2 90 (.ixS 8) 88 89, O1 91 (.loadN 8) 90, O2 92 (.ixS 8) 80 81, ⟨none, (.store 8), [(.t 92), (.t 87)], none⟩, O2 93 (.ixS 8) 82 83, ⟨none, (.store 8), [(.t 93), (.t 91)], none⟩] [[], [], [], [], [], [], [4, 5], [6, 4, 5], [], [], [8, 9], [10, 8, 9], [0, 1, 4, 5, 6, 7, 11, 10, 8, 9], [12, 0, 1, 4, 5, 6, 7, 11, 10, 8, 9], [2, 3, 0, 1, 4, 5, 6, 7, 8, 9, 10, 11, 12, 13], [14, 2, 3, 0, 1, 4, 5, 6, 7, 8, 9, 10, 11, 12, 13]]))) (.reg false [O1 66 .mv 11, K2 67 (.bin .add) 66 (iV 1), O1 11 .mv 67])))
def x3L1 : XC := (.seq (.seq (.reg false [O1 94 .mv 13, O1 95 .mv 0, O1 96 .lenS 95, O2 97 (.bin .lss) 94 96]) (.cond (.t 97) .skip (.exit 2))) (.seq (.opn 10 13 2 (.opn 0 13 2 (.block 3 (.seq (.reg false [O1 100 .mv 7, O1 101 .mv 0, O1 102 .mv 13, O2 103 (.ixS 8) 101 102, O1 104 (.loadN 8) 103, O2 105 (.call 8) 100 104, O1 14 .mv 105]) (.seq (.seq (.reg false [O1 106 .mv 14, O1 107 .mv 7, O1 108 .mv 0, O1 109 .mv 13, O2 110 (.ixS 8) 108 109, O1 111 (.loadN 8) 110, O2 112 (.call 8) 107 111, O2 113 (.bin .neq) 106 112]) (.cond (.t 113) (.seq (.reg false [K1 6 .mv (.bool false)]) .ret) .skip)) (.seq (.reg false [O1 114 .mv 8, O1 115 .mv 10, O1 116 .mv 13, O2 117 (.ixS 8) 115 116, O1 118 (.loadN 8) 117, O2 119 (.call 8) 114 118]) (.seq (.reg false [O1 120 .mv 13, O1 121 .mv 1, O1 122 .lenS 121, O2 123 (.bin .lss) 120 122, O1 124 .mv 123, G1 125 .mv 1 124 true, G1 126 .mv 13 124 true, G2 127 (.ixS 1) 125 126 124 true, G1 128 .load1 127 124 true, GK 129 (.bin .and) 128 (.int .u8 1) 124 true, GK 130 (.bin .neq) 129 (.int .u8 0) 124 true, ⟨(some 131), .pick, [(.t 124), (.t 130), (.k (.bool false))], none⟩]) (.cond (.t 131) (.reg false [O1 132 .mv 9, O1 133 .mv 10, O1 134 .mv 13, O2 135 (.ixS 8) 133 134, O1 136 (.loadN 8) 135, O2 137 (.call 8) 132 136]) .skip)))))))) (.reg false [O1 98 .mv 13, K2 99 (.bin .add) 98 (iV 1), O1 13 .mv 99])))
def x3L2 : XC := (.seq (.seq (.reg false [O1 138 .mv 15, O1 139 .mv 0, O1 140 .lenS 139, O2 141 (.bin .lss) 138 140]) (.cond (.t 141) .skip (.exit 4))) (.seq (.opn 10 15 2 (.block 5 (.seq (.reg false [O1 144 .mv 15, O1 145 .mv 1, O1 146 .lenS 145, O2 147 (.bin .geq) 144 146, O1 148 .mv 147, G1 149 .mv 1 148 false, G1 150 .mv 15 148 false, G2 151 (.ixS 1) 149 150 148 false, G1 152 .load1 151 148 false, GK 153 (.bin .and) 152 (.int .u8 1) 148 false, GK 154 (.bin .eql) 153 (.int .u8 0) 148 false, ⟨(some 155), .pick, [(.t 148), (.k (.bool true)), (.t 154)], none⟩]) (.cond (.t 155) (.seq (.reg false [⟨(some 156), (.call 7), [], none⟩, O1 16 .mv 156]) (.seq (.reg false [O1 157 .mv 16, O1 158 .mv 10, O1 159 .mv 15, O2 160 (.ixS 8) 158 159, O1 161 (.loadN 8) 160, O2 162 (.call 8) 157 161]) (.seq (.reg false [O1 163 .mv 9, O1 164 .mv 16, O2 165 (.call 9) 163 164, K2 166 (.bin .neq) 165 (iV 0)]) (.cond (.t 166) (.seq (.reg false [K1 6 .mv (.bool false)]) .ret) .skip)))) .skip)))) (.reg false [O1 142 .mv 15, K2 143 (.bin .add) 142 (iV 1), O1 15 .mv 143])))
def x3L3 : XC := (.seq (.seq (.reg false [O1 179 .mv 20, O1 180 .mv 19, O1 181 .lenS 180, O2 182 (.bin .lss) 179 181]) (.cond (.t 182) .skip (.exit 6))) (.seq (.block 7 (.seq (.reg false [O1 186 .mv 7, O1 187 .mv 19, O1 188 .mv 20, O2 189 (.ixS 1) 187 188, O1 190 .load1 189, O2 191 (.call 12) 186 190, O1 185 .mv 191, O1 192 (.ext 0) 185, O1 193 (.ext 1) 185, O1 21 .mv 192, O1 22 .mv 193]) (.seq (.reg false [O1 195 .mv 7, O1 196 .mv 19, O1 197 .mv 20, O2 198 (.ixS 1) 196 197, O1 199 .load1 198, O2 200 (.call 13) 195 199, O1 194 .mv 200, O1 201 (.ext 0) 194, O1 202 (.ext 1) 194, ⟨(some 23), (.alloc 32 [(iV 0), (.bool false), (iV 0), (iV 0), (iV 0)]), [], none⟩, ⟨none, (.store 5), [(.t 23), (.t 201)], none⟩, O1 24 .mv 202]) (.seq (.seq (.reg false [O1 203 .mv 22, O1 204 (.un .not) 203, O1 205 .mv 204, G1 206 .mv 24 205 false, G1 207 (.un .not) 206 205 false, ⟨(some 208), .pick, [(.t 205), (.k (.bool true)), (.t 207)], none⟩, O1 209 .mv 208, G1 210 (.fld 1) 23 209 false, G1 211 .load1 210 209 false, ⟨(some 212), .pick, [(.t 209), (.k (.bool true)), (.t 211)], none⟩]) (.cond (.t 212) (.exit 7) .skip)) (.seq (.reg false [O1 214 (.fld 2) 23, O1 215 (.loadN 3) 214, O1 216 .mv 21, O2 217 (.call 14) 215 216, O1 213 .mv 217, O1 218 (.ext 0) 213, O1 219 (.ext 1) 213, O1 25 .mv 218, O1 26 .mv 219]) (.seq (.reg false [O1 221 .mv 17, O1 222 .mv 25, O2 223 (.call 15) 221 222, O1 220 .mv 223, O1 224 (.ext 0) 220, O1 225 (.ext 1) 220, O1 27 .mv 224, O1 28 .mv 225]) (.seq (.reg false [O1 227 .mv 25, O1 228 (.call 16) 227, O1 226 .mv 228, O1 229 (.ext 0) 226, O1 230 (.ext 1) 226, O1 29 .mv 229, O1 30 .mv 230]) (.seq (.reg false [O1 232 .mv 18, O1 233 .mv 29, O2 234 (.call 17) 232 233, O1 231 .mv 234, O1 235 (.ext 0) 231, O1 236 (.ext 1) 231, O1 31 .mv 235, O1 32 .mv 236]) (.seq (.seq (.reg false [O1 237 .mv 26, K2 238 (.bin .neq) 237 (iV 0), O1 239 .mv 238, G1 240 .mv 28 239 false, GK 241 (.bin .neq) 240 (iV 0) 239 false, ⟨(some 242), .pick, [(.t 239), (.k (.bool true)), (.t 241)], none⟩, O1 243 .mv 242, G1 244 .mv 30 243 false, GK 245 (.bin .neq) 244 (iV 0) 243 false, ⟨(some 246), .pick, [(.t 243), (.k (.bool true)), (.t 245)], none⟩, O1 247 .mv 246, G1 248 .mv 32 247 false, GK 249 (.bin .neq) 248 (iV 0) 247 false, ⟨(some 250), .pick, [(.t 247), (.k (.bool true)), (.t 249)], none⟩]) (.cond (.t 250) (.seq (.reg false [K1 6 .mv (.bool false)]) .ret) .skip)) (.reg false [O1 251 .mv 27, O1 252 .mv 31, O1 17 .mv 251, O1 18 .mv 252])))))))))) (.reg false [O1 183 .mv 20, K2 184 (.bin .add) 183 (iV 1), O1 20 .mv 184])))
def x3 : XFn := ⟨315, (.seq (.reg false [K1 6 .mv (.bool false)]) (.seq (.seq (.reg false [⟨(some 42), (.call 5), [], none⟩, O1 43 (.un .not) 42, O1 44 .mv 43, G1 45 .mv 0 44 false, G1 46 (.call 6) 45 44 false, G1 47 (.un .not) 46 44 false, ⟨(some 48), .pick, [(.t 44), (.k (.bool true)), (.t 47)], none⟩]) (.cond (.t 48) (.seq (.reg false [⟨(some 49), (.call 5), [], none⟩, O1 6 .mv 49]) .ret) .skip)) (.seq (.reg false [⟨(some 50), (.call 7), [], none⟩, ⟨(some 51), (.call 7), [], none⟩, ⟨(some 52), (.call 7), [], none⟩, O1 7 .mv 50, O1 8 .mv 51, O1 9 .mv 52]) (.seq (.gst (.reg false [⟨(some 53), (.slit 34 0 8 [] []), [], none⟩, O1 54 .mv 0, O2 55 (.app 34 8 80) 53 54, O1 10 .mv 55])) (.seq (.seq (.reg false [K1 11 .mv (iV 0)]) (.block 0 (.loop x3L0))) (.seq (.seq (.gst (.reg false [K1 13 .mv (iV 0)])) (.block 2 (.loop x3L1))) (.seq (.seq (.reg false [K1 15 .mv (iV 0)]) (.block 4 (.loop x3L2))) (.seq (.seq (.reg false [O1 167 .mv 7, O1 168 .mv 8, O2 169 (.call 10) 167 168, O1 170 (.un .not) 169, O1 171 .mv 170, G1 172 .mv 7 171 false, G1 173 .mv 9 171 false, G2 174 (.call 10) 172 173 171 false, G1 175 (.un .not) 174 171 false, ⟨(some 176), .pick, [(.t 171), (.k (.bool true)), (.t 175)], none⟩]) (.cond (.t 176) (.seq (.reg false [K1 6 .mv (.bool false)]) .ret) .skip)) (.seq (.reg false [K1 17 .mv (.slice none 0 0)]) (.seq (.reg false [K1 18 .mv (.slice none 0 0)]) (.seq (.reg false [O1 177 .mv 7, O1 178 (.call 11) 177, O1 19 .mv 178]) (.seq (.seq (.reg false [K1 20 .mv (iV 0)]) (.block 6 (.loop x3L3))) (.seq (.reg false [O1 253 .mv 7, O1 254 (.call 18) 253, O1 33 .mv 254]) (.seq (.reg false [O1 256 .mv 18, O1 257 (.call 19) 256, O1 255 .mv 257, O1 258 (.ext 0) 255, O1 259 (.ext 1) 255, O1 34 .mv 258, O1 35 .mv 259]) (.seq (.reg false [O1 261 .mv 33, O1 262 .mv 2, K2 263 (.call 21) 262 (iV 11), O2 264 (.call 20) 261 263, O1 260 .mv 264, O1 265 (.ext 0) 260, O1 266 (.ext 1) 260, O1 36 .mv 265, O1 37 .mv 266]) (.seq (.reg false [O1 268 .mv 33, O1 269 (.call 22) 268, O1 267 .mv 269, O1 270 (.ext 0) 267, O1 271 (.ext 1) 267, O1 38 .mv 270, O1 39 .mv 271]) (.seq (.reg false [O1 273 .mv 36, O1 274 (.call 22) 273, O1 272 .mv 274, O1 275 (.ext 0) 272, O1 276 (.ext 1) 272, O1 40 .mv 275, O1 41 .mv 276]) (.seq (.reg false [O1 277 .mv 33, O1 278 .mv 17, O2 279 (.call 23) 277 278, O1 280 .mv 279, G1 281 .mv 35 280 true, GK 282 (.bin .eql) 281 (iV 0) 280 true, ⟨(some 283), .pick, [(.t 280), (.t 282), (.k (.bool false))], none⟩, O1 284 .mv 283, G1 285 .mv 34 284 true, G1 286 .mv 33 284 true, G2 287 (.call 23) 285 286 284 true, ⟨(some 288), .pick, [(.t 284), (.t 287), (.k (.bool false))], none⟩, O1 289 .mv 288, G1 290 .mv 37 289 true, GK 291 (.bin .eql) 290 (iV 0) 289 true, ⟨(some 292), .pick, [(.t 289), (.t 291), (.k (.bool false))], none⟩, O1 293 .mv 292, G1 294 .mv 38 293 true, G1 295 .mv 40 293 true, G2 296 (.bin .eql) 294 295 293 true, ⟨(some 297), .pick, [(.t 293), (.t 296), (.k (.bool false))], none⟩, O1 298 .mv 297, G1 299 .mv 39 298 true, G1 300 .mv 41 298 true, G2 301 (.bin .eql) 299 300 298 true, ⟨(some 302), .pick, [(.t 298), (.t 301), (.k (.bool false))], none⟩, O1 303 .mv 302, G1 304 .mv 8 303 true, G1 305 (.call 18) 304 303 true, G1 306 .mv 33 303 true, G2 307 (.call 23) 305 306 303 true, ⟨(some 308), .pick, [(.t 303), (.t 307), (.k (.bool false))], none⟩, O1 309 .mv 308, G1 310 .mv 9 309 true, G1 311 (.call 18) 310 309 true, G1 312 .mv 33 309 true, G2 313 (.call 23) 311 312 309 true, ⟨(some 314), .pick, [(.t 309), (.t 313), (.k (.bool false))], none⟩, O1 6 .mv 314]) .ret)))))))))))))))))), [(.s 6)]⟩
theorem x3_ok : xfn Tryz.prog Tryz.f3 = some x3.er := by kernel_rfl
noncomputable def g3 : Con := fun args_ E_ nn_ => match args_ with
  | [.c (.n l), .c (.n choices), .c (.v (.int .i64 level))] => (match rowD eNt.sz E_ l with
    | some (l_n, l_s, l_f, l_c) => (match rowOf E_ choices with
    | some (choices_n, choices_s, choices_f) => some (.q (isDeep eNt l_n l_s l_f l_c ∧ isRow eU8 choices_n choices_s choices_f ∧ u8s (decL eU8 choices_n choices_f) ∧ (-9223372036854775808 ≤ level ∧ level ≤ 9223372036854775807)) (.o (.c (.v (.bool (true))))))
    | none => none)
    | none => none)
  | _ => none
theorem c3 : COk Tryz.prog 3 g3 := by
  refine cok_q Tryz.func3 x3_ok (by kernel_rfl) (cok_tab (cok_cons c5 (cok_cons c6 (cok_cons c7 (cok_cons c8 (cok_cons c9 (cok_cons c10 (cok_cons c11 (cok_cons c12 (cok_cons c13 (cok_cons c14 (cok_cons c15 (cok_cons c16 (cok_cons c17 (cok_cons c18 (cok_cons c19 (cok_cons c21 (cok_cons c20 (cok_cons c22 (cok_cons c23 cok_nil)))))))))))))))))))) ?_
  intro args_ E_ nn_ cr_ hg_
  unfold g3 at hg_
  split at hg_
  · rename_i l choices level
    split at hg_
    · rename_i l_n l_s l_f l_c h_l
      split at hg_
      · rename_i choices_n choices_s choices_f h_choices
        cases hg_
        refine ⟨_, _, rfl, 2, [l, choices], [.c (.n 0), .c (.n 1), .c (.v (.int .i64 level))], [(0, .deep none (decD eNt l_n l_f l_c).length eNt.sz (deepF eNt (decD eNt l_n l_f l_c) l_f) (deepC eNt (decD eNt l_n l_f l_c)) []), (1, .ro (decL eU8 choices_n choices_f).length eU8.sz (rowF eU8 (decL eU8 choices_n choices_f)))], .o (.c (.v (.bool (true)))), rfl, rfl, and3 (by simp only [push_cast, Nat.reduceLT, Nat.reduceAdd]) ⟨rfl, ⟨inE0_deep h_l, inE0_row h_choices, trivial⟩, rfl, ?_⟩⟩
        intro hpre hlen
        obtain ⟨i_l, hpre⟩ := hpre
        obtain ⟨i_choices, hpre⟩ := hpre
        refine ⟨⟨inE_deep h_l i_l, inE_row h_choices i_choices, trivial⟩, ?_⟩
        have z_l := lens_deep (D := eNt) hlen h_l
        have z_choices := lens_row (E := eU8) hlen h_choices
        clear i_l
        generalize decD eNt l_n l_f l_c = lL at *
        clear i_choices
        generalize decL eU8 choices_n choices_f = choicesL at *
        clear h_l
        clear h_choices
        simp (maxSteps := 9999999) only [x3, push_cast, simprocAttr, g5, g6, g7, g8, g9, g10, g11, g12, g13, g14, g15, g16, g17, g18, g19, g21, g20, g22, g23]
        obtain ⟨hpre, hlv⟩ := hpre
        intro hfew
        refine ⟨_, _, told_one 0 _ _ _ _ _ _ rfl, ?_⟩
        rintro ⟨hone⟩
        have hone := nt_one hone
        simp only [push_cast, simprocAttr, g5, g6, g7, g8, g9, g10, g11, g12, g13, g14, g15, g16, g17, g18, g19, g21, g20, g22, g23]
        refine ⟨⟨?_, ?_⟩, ?_⟩
        · exact hone
        · have := few_len hfew; omega
        refine vcLoop_upd (α := {s : Nat × (Nat → Nat) // s.1 ≤ lL.length ∧ (∀ e, e < lL.length → s.2 e < lL.length) ∧ (∀ i, i < lL.length → ∃ e, e < lL.length ∧ s.2 e = i)}) [0, 1, 2, 7, 8, 9, 10] 0 (fun s => [(11, .o (.c (.v (.int .i64 (s.1.1 : Nat)))))]) (fun s => [(12, .own lL.length 8 (fun e j => .v (deepF eNt lL l_f (s.1.2 e) j)) 34)]) (fun s => lL.length - s.1.1) ⟨(0, fun e => e), by simp only; omega, fun e h => h, fun i h => ⟨i, h, rfl⟩⟩ ?_ ?_
        · simp only [push_cast, simprocAttr, g5, g6, g7, g8, g9, g10, g11, g12, g13, g14, g15, g16, g17, g18, g19, g21, g20, g22, g23]
          exact ⟨fun e j _ _ => rfl, fun e j => trivial⟩
        rintro ⟨⟨k, σ⟩, hk, hσ, hsur⟩
        simp only at hk hσ hsur
        simp only [x3L0, push_cast, simprocAttr, g5, g6, g7, g8, g9, g10, g11, g12, g13, g14, g15, g16, g17, g18, g19, g21, g20, g22, g23]
        refine ⟨fun hkl hkc => ?_, fun hex => ?_⟩
        · obtain ⟨q, hkq, hq, eq, hnz⟩ := pick_at (x := choicesL.getD k eU8.dflt) (by have := few_len hfew; omega) hkl (u8s_at hpre hkc)
          simp only [eq, Int.toNat_natCast]
          refine ⟨hkc, hkc, hnz, ⟨by omega, by omega⟩, hq, hkl, hkl, hkl, ⟨hkl, hone _ 2 (hσ q hq) (by decide)⟩, ⟨by omega, by omega⟩, ⟨hq, hone _ 2 (hσ k hkl) (by decide)⟩, by decide, ⟨⟨(k+1, swp σ k q), hkl, swp_to hσ hkl hq, swp_onto hsur hkl hq⟩, ⟨?_, ?_, ?_⟩, ?_⟩⟩
          · rw [wrapI (by omega) (by have := few_len hfew; omega)]; rfl
          · refine swap_row ?_ ?_ _ (fun v => rfl)
            · intro j hj
              rcases (by omega : j = 0 ∨ j = 1 ∨ j = 2 ∨ j = 3 ∨ j = 4 ∨ j = 5 ∨ j = 6 ∨ j = 7) with rfl | rfl | rfl | rfl | rfl | rfl | rfl | rfl <;> rfl
            · intro j hj
              rcases (by omega : j = 0 ∨ j = 1 ∨ j = 2 ∨ j = 3 ∨ j = 4 ∨ j = 5 ∨ j = 6 ∨ j = 7) with rfl | rfl | rfl | rfl | rfl | rfl | rfl | rfl <;> rfl
          · exact fun e j => trivial
          · simp only; omega
        refine ⟨_, _, told_deep 12 0 lL.length 8 34 (fun e j => SC.v (deepF eNt lL l_f (σ e) j)) _ (deepF eNt ((List.range lL.length).map fun e => lL.getD (σ e) eNt.dflt) (fun e j => l_f (σ e) j)) _ (deepC eNt ((List.range lL.length).map fun e => lL.getD (σ e) eNt.dflt)) _ (by decide) rfl rfl ?_ ?_, ?_⟩
        · intro e j he hj
          rw [odr_F he]
        · intro e he
          exact ⟨σ e, hσ e he, fun j hj => ⟨odr_F he, odr_C he⟩⟩
        rintro ⟨⟩
        generalize hOL : ((List.range lL.length).map fun e => lL.getD (σ e) eNt.dflt) = OL
        have hOn : OL.length = lL.length := by rw [← hOL, List.length_map, List.length_range]
        simp only [push_cast, simprocAttr, g5, g6, g7, g8, g9, g10, g11, g12, g13, g14, g15, g16, g17, g18, g19, g21, g20, g22, g23]
        have hord := told_ord hOL hσ hsur
        clear hex hOL
        refine vcLoop_upd (α := {s : Nat × (List SE × List QE) × (List SE × List QE) × (List SE × List QE) // s.1 ≤ lL.length ∧ Atl s.2.1.1 s.2.1.2 (toldN lL s.1) ∧ Atl s.2.2.1.1 s.2.2.1.2 (toldN OL s.1) ∧ Atl s.2.2.2.1 s.2.2.2.2 (toldO OL choicesL s.1)}) [0, 1, 2, 7, 8, 9, 10] 0 (fun s => [(13, .o (.c (.v (.int .i64 (s.1.1 : Nat)))))]) (fun s => [(2, .dm false (mapF eSc (s.1.2.1.1))), (3, .dm false (mapF ePl (s.1.2.1.2))), (4, .box [.n 2, .n 3] 93), (5, .dm false (mapF eSc (s.1.2.2.1.1))), (6, .dm false (mapF ePl (s.1.2.2.1.2))), (7, .box [.n 5, .n 6] 93), (8, .dm false (mapF eSc (s.1.2.2.2.1))), (9, .dm false (mapF ePl (s.1.2.2.2.2))), (10, .box [.n 8, .n 9] 93)]) (fun s => lL.length - s.1.1) ⟨(0, ([], []), ([], []), ([], [])), by simp only; omega, atl_nil.congr toldN_nil, atl_nil.congr toldN_nil, atl_nil.congr toldO_nil⟩ ?_ ?_
        · simp only [push_cast, simprocAttr, g5, g6, g7, g8, g9, g10, g11, g12, g13, g14, g15, g16, g17, g18, g19, g21, g20, g22, g23]
        rintro ⟨⟨k2, ⟨A, A'⟩, ⟨B, B'⟩, ⟨C, C'⟩⟩, hk2, hA, hB, hC⟩
        simp only at hk2 hA hB hC
        simp only [x3L1, push_cast, simprocAttr, g5, g6, g7, g8, g9, g10, g11, g12, g13, g14, g15, g16, g17, g18, g19, g21, g20, g22, g23]
        refine ⟨fun h2 => ⟨h2, h2, h2, h2, hA.oS, fun G => ⟨h2, h2, okS_tell hA.oS, fun G1 => ⟨h2, h2, hB.oS, fun G2 => ⟨fun hc hbit => ⟨h2, h2, hC.oS, fun G3 => ⟨⟨(k2 + 1, (tellS (tellS A (lL.getD k2 eNt.dflt) (G 0 0)) (lL.getD k2 eNt.dflt) (G1 0 0), tellQ (tellQ A' (lL.getD k2 eNt.dflt)) (lL.getD k2 eNt.dflt)), (tellS B (OL.getD k2 eNt.dflt) (G2 0 0), tellQ B' (OL.getD k2 eNt.dflt)), (tellS C (OL.getD k2 eNt.dflt) (G3 0 0), tellQ C' (OL.getD k2 eNt.dflt))), h2, ((hA.tell _ _).tell _ _).congr toldN_step2, (hB.tell _ _).congr toldN_step, (hC.tell _ _).congr (toldO_yes (odd_yes hc hbit))⟩, ⟨wrapI (by omega) (by omega), .inl rfl, .inl rfl, .inl rfl, .inl rfl, .inl rfl, .inl rfl⟩, by simp only; omega⟩⟩, fun hno => ⟨⟨(k2 + 1, (tellS (tellS A (lL.getD k2 eNt.dflt) (G 0 0)) (lL.getD k2 eNt.dflt) (G1 0 0), tellQ (tellQ A' (lL.getD k2 eNt.dflt)) (lL.getD k2 eNt.dflt)), (tellS B (OL.getD k2 eNt.dflt) (G2 0 0), tellQ B' (OL.getD k2 eNt.dflt)), (C, C')), h2, ((hA.tell _ _).tell _ _).congr toldN_step2, (hB.tell _ _).congr toldN_step, hC.congr (toldO_no hno)⟩, ⟨wrapI (by omega) (by omega), .inl rfl, .inl rfl, .inl rfl, .inl rfl, .inl rfl, .inl rfl⟩, by simp only; omega⟩⟩⟩⟩⟩, fun hex => ?_⟩
        have hk2' : k2 = lL.length := by omega
        subst hk2'
        rw [← hOn] at hB hC
        refine vcLoop_upd (α := {s : Nat × List SE × List QE // s.1 ≤ OL.length ∧ Atl s.2.1 s.2.2 (toldJ OL choicesL s.1)}) [0, 1, 2, 7, 8, 9, 10] 0 (fun s => [(15, .o (.c (.v (.int .i64 (s.1.1 : Nat)))))]) (fun s => [(8, .dm false (mapF eSc (s.1.2.1))), (9, .dm false (mapF ePl (s.1.2.2))), (10, .box [.n 8, .n 9] 93)]) (fun s => lL.length - s.1.1) ⟨(0, C, C'), by simp only; omega, hC.congr toldJ_nil⟩ ?_ ?_
        · simp only [push_cast, simprocAttr, g5, g6, g7, g8, g9, g10, g11, g12, g13, g14, g15, g16, g17, g18, g19, g21, g20, g22, g23]
        rintro ⟨⟨k3, D, D'⟩, hk3, hD⟩
        simp only at hk3 hD
        simp only [x3L2, push_cast, simprocAttr, g5, g6, g7, g8, g9, g10, g11, g12, g13, g14, g15, g16, g17, g18, g19, g21, g20, g22, g23]
        refine ⟨fun h3 => ⟨h3, fun hc => ⟨hc, by omega⟩, fun hc => ⟨hc, by omega⟩, fun ho => ⟨h3, h3, atl_nil.oS, fun G => ⟨⟨hD.oS, okS_tell atl_nil.oS⟩, fun G1 => ⟨⟨(k3 + 1, reV (joinH (shS D) (tellS [] (OL.getD k3 eNt.dflt) (G 0 0)) (idsL (tellS [] (OL.getD k3 eNt.dflt) (G 0 0)) (tellQ [] (OL.getD k3 eNt.dflt)) 64)) G1, joinQ D' (tellQ [] (OL.getD k3 eNt.dflt)) (idsL (tellS [] (OL.getD k3 eNt.dflt) (G 0 0)) (tellQ [] (OL.getD k3 eNt.dflt)) 64)), by simp only; omega, (hD.join (atl_nil.tell (OL.getD k3 eNt.dflt) (G 0 0)) (reV_sh _ _)).congr (toldJ_yes (odd_no ho))⟩, ⟨wrapI (by omega) (by omega), .inl rfl, .inl rfl⟩, by simp only; omega⟩⟩⟩, fun hc hbit => ⟨⟨(k3 + 1, D, D'), by simp only; omega, hD.congr (toldJ_no (odd_yes (by omega) hbit))⟩, ⟨wrapI (by omega) (by omega), .inl rfl, .inl rfl⟩, by simp only; omega⟩⟩, fun hn => ?_⟩
        have hk3' : k3 = OL.length := by omega
        subst hk3'
        have hD := hD.congr (fun n => toldJ_end)
        obtain ⟨sAB, cAB⟩ := hA.same hB hord
        obtain ⟨sAD, cAD⟩ := hA.same hD hord
        refine ⟨⟨hA.oS, hB.oS⟩, fun _ => ⟨⟨sAB, hA.oS, hD.oS⟩, fun hh => ?_, fun _ _ => ?_⟩, fun hf => by rw [sAB] at hf; cases hf⟩
        · rw [sAB, sAD] at hh; rcases hh with hh | hh <;> cases hh
        have oA := hA.oS
        have oQ := hA.oQ
        have oB := hB.oS
        have oBQ := hB.oQ
        have oD := hD.oS
        have oDQ := hD.oQ
        have hlen := hA.all (fun n hn => told_few hfew hn)
        clear hord hB hD sAB sAD hA hC
        refine vcLoop_upd (α := {s : Nat × (Nat → Nat → Value) // s.1 ≤ (idsL A A' 64).length}) [2, 7, 8, 9, 19] 2 (fun s => [(17, .o (.c (.n 14))), (18, .o (.c (.n 15))), (20, .o (.c (.v (.int .i64 (s.1.1 : Nat)))))]) (fun s => [(14, .own (conL (((idsL A A' 64).take s.1.1).flatMap (partC A A'))).length 4 (rowF eE (conL (((idsL A A' 64).take s.1.1).flatMap (partC A A')))) 119), (15, .deep (some 116) (packL (conL (((idsL A A' 64).take s.1.1).flatMap (partC A A')))).length 3 (deepF eTl (packL (conL (((idsL A A' 64).take s.1.1).flatMap (partC A A')))) s.1.2) (deepC eTl (packL (conL (((idsL A A' 64).take s.1.1).flatMap (partC A A'))))) []), (13, .own (idsL A A' 64).length 1 (rowF eI (idsL A A' 64)) 3), (2, .dm false (mapF eSc (A))), (3, .dm false (mapF ePl (A'))), (4, .box [.n 2, .n 3] 93), (5, .dm false (mapF eSc (B))), (6, .dm false (mapF ePl (B'))), (7, .box [.n 5, .n 6] 93), (8, .dm false (mapF eSc (D))), (9, .dm false (mapF ePl (D'))), (10, .box [.n 8, .n 9] 93)]) (fun s => (idsL A A' 64).length - s.1.1) ⟨(0, fun _ _ => .bool false), by simp only; omega⟩ ?_ ?_
        · simp only [push_cast, simprocAttr, g5, g6, g7, g8, g9, g10, g11, g12, g13, g14, g15, g16, g17, g18, g19, g21, g20, g22, g23]
          rw [List.take_zero, List.flatMap_nil, con_nil]
          exact ⟨rfl, packL_none⟩
        rintro ⟨⟨k4, V⟩, hk4⟩
        simp only at hk4
        simp only [x3L3, push_cast, simprocAttr, g5, g6, g7, g8, g9, g10, g11, g12, g13, g14, g15, g16, g17, g18, g19, g21, g20, g22, g23]
        have hal : allC A A' = (idsL A A' 64).flatMap (partC A A') := rfl
        have hI := idsL_len A A' 64
        rw [← cAB, ← cAD]
        rw [hal] at hlen ⊢
        generalize idsL A A' 64 = I at *
        refine ⟨fun hlt => ⟨hlt, hlt, oA, hlt, hlt, fun hc => ?_, fun c1 c2 c3 => ?_⟩, fun hn => ?_⟩
        · have hft := flatI_take (f := partC A A') hlt
          rw [part_no hc, List.append_nil] at hft
          exact ⟨⟨(k4 + 1, V), hlt⟩, ⟨wrapI (by omega) (by omega), same_eq (by simp only; rw [hft]), deep_same (by simp only; rw [hft])⟩, by simp only; omega⟩
        · have hft := flatI_take (f := partC A A') hlt
          have hfl := flat_le (partC A A') I (k4 + 1)
          rw [hft, List.length_append] at hfl
          have uA := flatC_unit (S := A) (Q := A') (I := I.take k4)
          have cA := flatC_cell oA oQ (I := I.take k4)
          have uB := partC_unit A A' (I.getD k4 eI.dflt)
          have cB := partC_cell oA oQ (I.getD k4 eI.dflt)
          have hsf := sum_fits uA uB (by omega)
          have hsc := sum_con (unit_ok uA) (unit_ok uB)
          have vA := con_val uA cA (by omega)
          have vB := con_val uB cB (by omega)
          have pA := conL_pos (unit_ok uA)
          have pB := conL_pos (unit_ok uB)
          have hof : ofL (plO A' (I.getD k4 eI.dflt)).x (plO A' (I.getD k4 eI.dflt)).y (plO A' (I.getD k4 eI.dflt)).h (scO A (I.getD k4 eI.dflt)) = conL (partC A A' (I.getD k4 eI.dflt)) := by unfold partC; rw [if_pos ⟨c1, c2, c3⟩]; rfl
          obtain ⟨⟨q1, q2⟩, q3⟩ := plO_ok oQ c2 c3
          have q4 := scO_ok oA c1
          simp only [hof]
          simp only [unpL_pack vA, unpL_pack vB, hsc]
          exact ⟨⟨⟨q1, q2, q3⟩, q4⟩, ⟨⟨vA, vB⟩, ⟨pA, pB⟩, hsf.1, hsf.2⟩, vB, ⟨⟨⟨_, vA, rfl⟩, ⟨_, vB, rfl⟩⟩, ⟨pA, pB⟩, hsf.1, hsf.2⟩, fun G => ⟨⟨(k4 + 1, G), hlt⟩, ⟨wrapI (by omega) (by omega), same_eq (by simp only; rw [hft]), deep_same (by simp only; rw [hft])⟩, by simp only; omega⟩⟩
        · obtain rfl : k4 = I.length := by omega
          rw [List.take_length]
          have uA := flatC_unit (S := A) (Q := A') (I := I)
          have cA := flatC_cell oA oQ (I := I)
          obtain ⟨r1, r2, r3, r4⟩ := red_law uA cA (by omega) (n := level % 11) (by omega)
          have vA := con_val uA cA (by omega)
          have pA := conL_pos (unit_ok uA)
          have hl2 : (List.flatMap (partC A A') I).length ≤ 1048576 := by omega
          have hup : unpOk (packL (conL (List.flatMap (partC A A') I))) := ⟨_, vA, rfl⟩
          have hmd : 0 ≤ level % 11 ∧ level % 11 ≤ 10 := by omega
          simp only [unpL_pack vA, vA, r1, r2, r3, r4, hl2, hup, hmd, hlv, pA, oA, oQ, oB, oBQ, oD, oDQ]
          simp
      · cases hg_
    · cases hg_
  · cases hg_
end Go.Proofs.YtgpbokembopapaaGreat
