/- A part of the proof of a statement about this seat: how a function is stepped through, and plain laws. No conditions. -/
import Derived.Test.YtkpdofgmmpbknaaGreatRows
import Derived.Test.YtkpdofgmmpbknaaGreatWJSz4
import Derived.Test.YtkpdofgmmpbknaaGreatWJJ1
import Derived.KernelRfl
set_option linter.unusedVariables false
set_option linter.unusedSimpArgs false
set_option maxRecDepth 20000
namespace Go.Proofs.YtkpdofgmmpbknaaGreat
open Go.Sx Go.Way
theorem unf_ok {b : List Int} (h : (unf b).2.2.2 = 0) : 0 < b.length ∧ (rdU (b.drop 1)).2.2 = 0 ∧ (rdU (b.drop 1)).1 ≤ 4096 ∧ (rdU (b.drop 1)).1 + 4 ≤ (rdU (b.drop 1)).2.1.length ∧ (rdU (b.drop 1)).2.1.length < b.length ∧
    chkL (b.take (b.length - (rdU (b.drop 1)).2.1.length + (rdU (b.drop 1)).1)) = b.take (b.length - (rdU (b.drop 1)).2.1.length + (rdU (b.drop 1)).1 + 4) ∧
    unf b = (b.getD 0 eU8.dflt, (rdU (b.drop 1)).2.1.take (rdU (b.drop 1)).1, (rdU (b.drop 1)).2.1.drop ((rdU (b.drop 1)).1 + 4), 0) := by
  cases b with
  | nil => simp [unf] at h
  | cons k l =>
    simp only [List.drop_succ_cons, List.drop_zero, List.length_cons]
    have hl := rdU_len l
    simp only [unf] at h ⊢
    by_cases h1 : (rdU l).2.2 = 0
    · rw [if_neg (by simpa using h1)] at h ⊢
      by_cases h2 : 4096 < (rdU l).1
      · rw [if_pos h2] at h; simp at h
      · rw [if_neg h2] at h ⊢
        by_cases h3 : (rdU l).2.1.length < (rdU l).1 + 4
        · rw [if_pos h3] at h; simp at h
        · rw [if_neg h3] at h ⊢
          by_cases h4 : chkL ((k :: l).take (l.length + 1 - (rdU l).2.1.length + (rdU l).1)) = (k :: l).take (l.length + 1 - (rdU l).2.1.length + (rdU l).1 + 4)
          · rw [if_neg (by simpa using h4)]
            exact ⟨by omega, h1, by omega, by omega, by omega, h4, rfl⟩
          · rw [if_pos h4] at h; simp at h
    · rw [if_pos h1] at h
      exact absurd h h1
theorem unf_bad {b : List Int} (h : (unf b).2.2.2 = 4) : unf b = (0, [], [], 4) ∧ (b = [] ∨ (0 < b.length ∧ (rdU (b.drop 1)).2.2 = 4) ∨ (0 < b.length ∧ (rdU (b.drop 1)).2.2 = 0 ∧ (rdU (b.drop 1)).1 ≤ 4096 ∧ (rdU (b.drop 1)).2.1.length < (rdU (b.drop 1)).1 + 4)) := by
  cases b with
  | nil => exact ⟨rfl, .inl rfl⟩
  | cons k l =>
    simp only [List.drop_succ_cons, List.drop_zero, List.length_cons]
    simp only [unf] at h ⊢
    by_cases h1 : (rdU l).2.2 = 0
    · rw [if_neg (by simpa using h1)] at h ⊢
      by_cases h2 : 4096 < (rdU l).1
      · rw [if_pos h2] at h; simp at h
      · rw [if_neg h2] at h ⊢
        by_cases h3 : (rdU l).2.1.length < (rdU l).1 + 4
        · rw [if_pos h3]
          exact ⟨rfl, .inr (.inr ⟨by omega, h1, by omega, h3⟩)⟩
        · rw [if_neg h3] at h
          split at h <;> simp at h
    · rw [if_pos h1] at h ⊢
      simp only at h
      exact ⟨by rw [h], .inr (.inl ⟨by omega, h⟩)⟩
theorem u8s_drop {L : List Int} (h : u8s L) (k : Nat) : u8s (L.drop k) := fun x hx => h x (List.mem_of_mem_drop hx)
theorem u8s_take {L : List Int} (h : u8s L) (k : Nat) : u8s (L.take k) := fun x hx => h x (List.mem_of_mem_take hx)
theorem sl_to {L : List Int} {k : Nat} (hk : k ≤ L.length) : decL eU8 k (shF 0 (rowF eU8 L)) = L.take k ∧ isRow eU8 k 1 (shF 0 (rowF eU8 L)) := by
  have h : ∀ e j, e < k → j < 1 → shF 0 (rowF eU8 L) e j = rowF eU8 (L.take k) e j := fun e j he _ => by
    show rowF eU8 L e j = _
    rw [rowF_get (by omega), rowF_get (by rw [List.length_take]; omega)]
    simp
  exact ⟨decL_eq (by rw [List.length_take]; omega) h, isRow_of (L := L.take k) (by rw [List.length_take]; omega) (.inr rfl) h⟩
def rowIs8 (n : Nat) (f : Nat → Nat → SC) (L : List Int) : Prop := n = L.length ∧ ∀ e j, e < n → j < 1 → f e j = rowF eU8 L e j
theorem rowIs8_self (L : List Int) : rowIs8 L.length (rowF eU8 L) L := ⟨rfl, fun _ _ _ _ => rfl⟩
theorem rowIs8_lit (x : Int) : rowIs8 1 (litF [SC.v (Value.int IntKind.u8 x)] 1) [x] := ⟨rfl, fun e j he hj => by
  obtain rfl : e = 0 := by omega
  obtain rfl : j = 0 := by omega
  rfl⟩
theorem rowIs8_cat {n m : Nat} {f g : Nat → Nat → SC} {L M : List Int} (h : rowIs8 n f L) (k : rowIs8 m g M) : rowIs8 (n + m) (catF n f g) (L ++ M) := by
  obtain ⟨rfl, h2⟩ := h
  obtain ⟨rfl, k2⟩ := k
  refine ⟨by simp, fun e j he hj => ?_⟩
  rw [← catF_at eU8 L M he]
  unfold catF
  split
  · rename_i q; exact h2 e j q hj
  · exact k2 _ j (by omega) hj
theorem rowIs8_eq {n : Nat} {f : Nat → Nat → SC} {L M : List Int} {b : Bnd} (h : rowIs8 n f L) (e : M = L) : n = M.length ∧ rowEq n 1 f (rowF eU8 M) (SC.sub b) := by
  subst e
  exact ⟨h.1, fun e j he hj => by rw [rowF_sub]; exact h.2 e j he hj⟩
theorem rowIs8_from {L : List Int} {k : Nat} (hk : k ≤ L.length) : rowIs8 ((L.length : Int) - (k : Int)).toNat (shF k (rowF eU8 L)) (L.drop k) :=
  ⟨by rw [List.length_drop]; omega, fun e j he _ => shF_at eU8 L k (by omega)⟩
theorem rowIs8_to {L : List Int} {k : Nat} (hk : k ≤ L.length) : rowIs8 k (rowF eU8 L) (L.take k) :=
  ⟨by rw [List.length_take]; omega, fun e j he _ => by rw [rowF_get (by omega), rowF_get (by rw [List.length_take]; omega)]; simp⟩
theorem rowIs8_n {n : Nat} {f : Nat → Nat → SC} {L : List Int} {z : Int} {k : Nat} (hz : z = k) (h : rowIs8 n (shF k f) L) : rowIs8 n (shF z.toNat f) L := by subst hz; exact h
def x29bbb : XC := (.frz 7 5 (.seq (.regD [O1 53 .mv 0, K2 54 (.ixS 1) 53 (iV 0), O1 55 .load1 54, O1 56 .mv 7, O1 57 .mv 6, O1 58 .mv 6, ⟨(some 59), (.slc 1 false true true), [(.t 56), (.t 57), (.t 58)], none⟩, O1 60 .mv 7, O1 61 .mv 6, O1 62 (.conv .i64) 61, K2 63 (.bin .add) 62 (iV 4), O2 64 (.slc 1 true false false) 60 63, O1 2 .mv 55, O1 3 .mv 59, O1 4 .mv 64, K1 5 .mv (iV 0)] [[], [0], [1, 0], [], [], [], [3, 4, 5], [], [], [8], [9, 8], [7, 10, 9, 8], [2, 1, 0], [6, 3, 4, 5, 12, 2, 1, 0], [11, 7, 10, 9, 8, 13, 6, 3, 4, 5, 12, 2, 1, 0], [14, 11, 7, 10, 9, 8, 13, 6, 3, 4, 5, 12, 2, 1, 0]]) .ret))
def x29bb : XC := (.seq (.reg false [O1 34 .mv 0, O1 35 .lenS 34, O1 36 .mv 7, O1 37 .lenS 36, O2 38 (.bin .sub) 35 37, O1 39 .mv 6, O1 40 (.conv .i64) 39, O2 41 (.bin .add) 38 40, O1 9 .mv 41]) (.seq (.seq (.regD [O1 42 .mv 0, O1 43 .mv 9, O2 44 (.slc 1 false true false) 42 43, O1 45 (.call 23) 44, O1 46 (.call 50) 45, O1 47 .mv 0, O1 48 .mv 9, K2 49 (.bin .add) 48 (iV 4), O2 50 (.slc 1 false true false) 47 49, O2 51 (.call 56) 46 50, O1 52 (.un .not) 51] [[], [], [0, 1], [2, 0, 1], [3, 2, 0, 1], [], [], [6], [5, 7, 6], [4, 3, 2, 0, 1, 8, 5, 7, 6], [9, 4, 3, 2, 0, 1, 8, 5, 7, 6]]) (.cond (.t 52) (.seq (.reg false [K1 2 .mv (.int .u8 0), K1 3 .mv (.slice none 0 0), K1 4 .mv (.slice none 0 0), K1 5 .mv (iV 5)]) .ret) .skip)) x29bbb))
def x29b : XC := (.seq (.reg false [O1 14 .mv 0, K2 15 (.slc 1 true false false) 14 (iV 1), O1 16 (.call 55) 15, O1 13 .mv 16, O1 17 (.ext 0) 13, O1 18 (.ext 1) 13, O1 19 (.ext 2) 13, O1 6 .mv 17, O1 7 .mv 18, O1 8 .mv 19]) (.seq (.block 0 (.seq (.reg false [O1 21 .mv 8, K2 22 (.bin .neq) 21 (iV 0), O1 20 .mv 22]) (.cond (.t 20) (.seq (.reg false [O1 23 .mv 8, K1 2 .mv (.int .u8 0), K1 3 .mv (.slice none 0 0), K1 4 .mv (.slice none 0 0), O1 5 .mv 23]) .ret) (.seq (.reg false [O1 25 .mv 6, K2 26 (.bin .gtr) 25 (.int .u64 4096), O1 24 .mv 26]) (.cond (.t 24) (.seq (.reg false [K1 2 .mv (.int .u8 0), K1 3 .mv (.slice none 0 0), K1 4 .mv (.slice none 0 0), K1 5 .mv (iV 6)]) .ret) (.seq (.reg false [O1 28 .mv 7, O1 29 .lenS 28, O1 30 .mv 6, O1 31 (.conv .i64) 30, K2 32 (.bin .add) 31 (iV 4), O2 33 (.bin .lss) 29 32, O1 27 .mv 33]) (.cond (.t 27) (.seq (.reg false [K1 2 .mv (.int .u8 0), K1 3 .mv (.slice none 0 0), K1 4 .mv (.slice none 0 0), K1 5 .mv (iV 4)]) .ret) .skip))))))) x29bb))
def x29 : XFn := ⟨65, (.seq (.reg false [K1 2 .mv (.int .u8 0), K1 3 .mv (.slice none 0 0), K1 4 .mv (.slice none 0 0), K1 5 .mv (iV 0)]) (.seq (.seq (.reg false [O1 10 .mv 0, O1 11 .lenS 10, K2 12 (.bin .eql) 11 (iV 0)]) (.cond (.t 12) (.seq (.reg false [K1 2 .mv (.int .u8 0), K1 3 .mv (.slice none 0 0), K1 4 .mv (.slice none 0 0), K1 5 .mv (iV 4)]) .ret) .skip)) x29b)), [(.s 2), (.s 3), (.s 4), (.s 5)]⟩
theorem x29_ok : xfn Tryz.prog Tryz.f29 = some x29.er := by kernel_rfl
def g29b : Con := fun args_ E_ nn_ => match args_ with
  | [.c (.n b)] => (match rowOf E_ b with
    | some (b_n, b_s, b_f) => some (.e (isRow eU8 b_n b_s b_f ∧ u8s (decL eU8 b_n b_f) ∧ ((decL eU8 b_n b_f)).length ≤ 70000 ∧ (unf (decL eU8 b_n b_f)).2.2.2 = 4) (.t [.c (.v (.int .u8 0)), .c (.n (nn_ + 0)), .c (.n (nn_ + 1)), .c (.v (.int .i64 (4)))]) [((nn_ + 0), .ro (([] : List Int)).length 1 (rowF eU8 (([] : List Int)))), ((nn_ + 1), .ro (([] : List Int)).length 1 (rowF eU8 (([] : List Int)))), (b, .ro ((decL eU8 b_n b_f)).length 1 (rowF eU8 ((decL eU8 b_n b_f))))] (nn_ + 2))
    | none => none)
  | _ => none
set_option maxHeartbeats 1000000 in
theorem c29b : COk Tryz.prog 29 g29b := by
  refine cok_d Tryz.func29 x29_ok (by kernel_rfl) (cok_tab (cok_cons c55 (cok_cons c23 (cok_cons c50 (cok_cons c56 cok_nil))))) ?_
  intro args_ E_ nn_ cr_ hg_
  unfold g29b at hg_
  split at hg_
  · rename_i b
    split at hg_
    · rename_i b_n b_s b_f h_b
      cases hg_
      refine ⟨_, _, _, _, rfl, 1, [b], [.c (.n 0)], [(0, .ro (decL eU8 b_n b_f).length eU8.sz (rowF eU8 (decL eU8 b_n b_f)))], .t [.c (.v (.int .u8 0)), .c (.n 1), .c (.n 2), .c (.v (.int .i64 (4)))], [(1, .ro (([] : List Int)).length 1 (rowF eU8 (([] : List Int)))), (2, .ro (([] : List Int)).length 1 (rowF eU8 (([] : List Int)))), (0, .ro ((decL eU8 b_n b_f)).length 1 (rowF eU8 ((decL eU8 b_n b_f))))], 3, rfl, rfl, by simp only [renE, Ent.ren, rowF_renf] <;> rfl, rfl, by decide, and4 (by simp only [push_cast, Nat.reduceLT, Nat.reduceAdd]) ⟨rfl, ⟨inE0_row h_b, trivial⟩, by simp only [keysNodup, outN, keys] <;> decide, rfl, .inr ⟨.inl rfl, trivial⟩, ?_⟩⟩
      intro hpre hlen
      obtain ⟨i_b, hpre⟩ := hpre
      refine ⟨⟨inE_row h_b i_b, trivial⟩, by simp only [apartE] <;> (first | trivial | (simp [Ent.mut]; done)), ?_⟩
      have z_b := lens_row (E := eU8) hlen h_b
      clear i_b
      generalize decL eU8 b_n b_f = bL at *
      clear h_b
      obtain ⟨h1, h2, h3⟩ := hpre
      obtain ⟨-, hb⟩ := unf_bad h3
      rcases hb with rfl | ⟨h4, h5⟩ | ⟨h4, h5, h6, h7⟩
      · simp (maxSteps := 9999999) only [x29, push_cast, simprocAttr, g55, g23, g50, g56]
      · obtain ⟨s1, s2⟩ := sl_from (L := bL) (z := 1) (k := 1) rfl h4
        have s1 : decL eU8 ((bL.length : Int) - 1).toNat (shF 1 (rowF eU8 bL)) = bL.drop 1 := s1
        have s2 : isRow eU8 ((bL.length : Int) - 1).toNat 1 (shF 1 (rowF eU8 bL)) := s2
        have hpr : u8s (bL.drop 1) ∧ (bL.drop 1).length ≤ 100000 := ⟨u8s_drop h1 1, by rw [List.length_drop]; omega⟩
        generalize hz : rdU (bL.drop 1) = z at *
        simp (maxSteps := 9999999) only [x29, push_cast, simprocAttr, g55, g23, g50, g56]
        intro _
        simp (maxSteps := 9999999) only [x29b, push_cast, simprocAttr, g55, g23, g50, g56, s1, hz, h5]
        exact ⟨by omega, ⟨s2, hpr⟩⟩
      obtain ⟨s1, s2⟩ := sl_from (L := bL) (z := 1) (k := 1) rfl h4
      have s1 : decL eU8 ((bL.length : Int) - 1).toNat (shF 1 (rowF eU8 bL)) = bL.drop 1 := s1
      have s2 : isRow eU8 ((bL.length : Int) - 1).toNat 1 (shF 1 (rowF eU8 bL)) := s2
      have hpr : u8s (bL.drop 1) ∧ (bL.drop 1).length ≤ 100000 := ⟨u8s_drop h1 1, by rw [List.length_drop]; omega⟩
      generalize hz : rdU (bL.drop 1) = z at *
      have w1 : IntKind.i64.wrap (z.1 : Int) = z.1 := wrapI (by omega) (by omega)
      have w2 : IntKind.i64.wrap ((z.1 : Int) + 4) = (z.1 : Int) + 4 := wrapI (by omega) (by omega)
      have f1 : ((4096 : Int) < (z.1 : Int)) = False := eq_false (by omega)
      have f2 : ((z.2.1.length : Int) < (z.1 : Int) + 4) = True := eq_true (by omega)
      simp (maxSteps := 9999999) only [x29, push_cast, simprocAttr, g55, g23, g50, g56]
      intro _
      simp (maxSteps := 9999999) only [x29b, push_cast, simprocAttr, g55, g23, g50, g56, s1, hz, h5, w1, w2, f1, f2]
      exact ⟨by omega, ⟨s2, hpr⟩⟩
    · cases hg_
  · cases hg_
def g29a : Con := fun args_ E_ nn_ => match args_ with
  | [.c (.n b)] => (match rowOf E_ b with
    | some (b_n, b_s, b_f) => some (.e (isRow eU8 b_n b_s b_f ∧ u8s (decL eU8 b_n b_f) ∧ ((decL eU8 b_n b_f)).length ≤ 70000 ∧ (unf (decL eU8 b_n b_f)).2.2.2 = 0 ∧ 0 < (unf (decL eU8 b_n b_f)).2.1.length) (.t [.c (.v (.int .u8 (unf (decL eU8 b_n b_f)).1)), .c (.n (nn_ + 0)), .c (.n (nn_ + 1)), .c (.v (.int .i64 (0)))]) [((nn_ + 0), .ro ((unf (decL eU8 b_n b_f)).2.1).length 1 (rowF eU8 ((unf (decL eU8 b_n b_f)).2.1))), ((nn_ + 1), .ro ((unf (decL eU8 b_n b_f)).2.2.1).length 1 (rowF eU8 ((unf (decL eU8 b_n b_f)).2.2.1))), (b, .ro ((decL eU8 b_n b_f)).length 1 (rowF eU8 ((decL eU8 b_n b_f))))] (nn_ + 2))
    | none => none)
  | _ => none
set_option maxHeartbeats 1000000 in
theorem c29a : COk Tryz.prog 29 g29a := by
  refine cok_d Tryz.func29 x29_ok (by kernel_rfl) (cok_tab (cok_cons c55 (cok_cons c23 (cok_cons c50 (cok_cons c56 cok_nil))))) ?_
  intro args_ E_ nn_ cr_ hg_
  unfold g29a at hg_
  split at hg_
  · rename_i b
    split at hg_
    · rename_i b_n b_s b_f h_b
      cases hg_
      refine ⟨_, _, _, _, rfl, 1, [b], [.c (.n 0)], [(0, .ro (decL eU8 b_n b_f).length eU8.sz (rowF eU8 (decL eU8 b_n b_f)))], .t [.c (.v (.int .u8 (unf (decL eU8 b_n b_f)).1)), .c (.n 1), .c (.n 2), .c (.v (.int .i64 (0)))], [(1, .ro ((unf (decL eU8 b_n b_f)).2.1).length 1 (rowF eU8 ((unf (decL eU8 b_n b_f)).2.1))), (2, .ro ((unf (decL eU8 b_n b_f)).2.2.1).length 1 (rowF eU8 ((unf (decL eU8 b_n b_f)).2.2.1))), (0, .ro ((decL eU8 b_n b_f)).length 1 (rowF eU8 ((decL eU8 b_n b_f))))], 3, rfl, rfl, by simp only [renE, Ent.ren, rowF_renf] <;> rfl, rfl, by decide, and4 (by simp only [push_cast, Nat.reduceLT, Nat.reduceAdd]) ⟨rfl, ⟨inE0_row h_b, trivial⟩, by simp only [keysNodup, outN, keys] <;> decide, rfl, .inr ⟨.inl rfl, trivial⟩, ?_⟩⟩
      intro hpre hlen
      obtain ⟨i_b, hpre⟩ := hpre
      refine ⟨⟨inE_row h_b i_b, trivial⟩, by simp only [apartE] <;> (first | trivial | (simp [Ent.mut]; done)), ?_⟩
      have z_b := lens_row (E := eU8) hlen h_b
      clear i_b
      generalize decL eU8 b_n b_f = bL at *
      clear h_b
      obtain ⟨h1, h2, h3, h0⟩ := hpre
      obtain ⟨h4, h5, h6, h7, h8, h9, h10⟩ := unf_ok h3
      rw [h10] at h0 ⊢
      simp only [List.length_take] at h0
      obtain ⟨s1, s2⟩ := sl_from (L := bL) (z := 1) (k := 1) rfl h4
      have s1 : decL eU8 ((bL.length : Int) - 1).toNat (shF 1 (rowF eU8 bL)) = bL.drop 1 := s1
      have s2 : isRow eU8 ((bL.length : Int) - 1).toNat 1 (shF 1 (rowF eU8 bL)) := s2
      have hpr : u8s (bL.drop 1) ∧ (bL.drop 1).length ≤ 100000 := ⟨u8s_drop h1 1, by rw [List.length_drop]; omega⟩
      generalize hz : rdU (bL.drop 1) = z at *
      generalize he : bL.length - z.2.1.length + z.1 = e at *
      have w1 : IntKind.i64.wrap (z.1 : Int) = z.1 := wrapI (by omega) (by omega)
      have w2 : IntKind.i64.wrap ((z.1 : Int) + 4) = (z.1 : Int) + 4 := wrapI (by omega) (by omega)
      have w3 : IntKind.i64.wrap ((bL.length : Int) - (z.2.1.length : Int)) = (bL.length : Int) - (z.2.1.length : Int) := wrapI (by omega) (by omega)
      have w4 : IntKind.i64.wrap ((bL.length : Int) - (z.2.1.length : Int) + (z.1 : Int)) = (e : Int) := by rw [wrapI (by omega) (by omega)]; omega
      have w5 : IntKind.i64.wrap ((e : Int) + 4) = (e : Int) + 4 := wrapI (by omega) (by omega)
      obtain ⟨t1, t2⟩ := sl_to (L := bL) (k := e) (by omega)
      obtain ⟨t3, t4⟩ := sl_to (L := bL) (k := e + 4) (by omega)
      have e4 : ((e : Int) + 4).toNat = e + 4 := by omega
      have f0 : ((z.1 : Int) = 0) = False := eq_false (by omega)
      have f1 : ((4096 : Int) < (z.1 : Int)) = False := eq_false (by omega)
      have f2 : ((z.2.1.length : Int) < (z.1 : Int) + 4) = False := eq_false (by omega)
      simp (maxSteps := 9999999) only [x29, push_cast, simprocAttr, g55, g23, g50, g56]
      refine ⟨fun h => by omega, fun _ => ?_⟩
      simp (maxSteps := 9999999) only [x29b, push_cast, simprocAttr, g55, g23, g50, g56, s1, hz, h5, w1, w2, f1, f2]
      refine ⟨by omega, ⟨s2, hpr⟩, ?_⟩
      simp (maxSteps := 9999999) only [x29bb, push_cast, simprocAttr, g55, g23, g50, g56, s1, hz, h5, w1, w2, w3, w4, w5, t1, t3, e4, h9]
      refine ⟨by omega, ⟨t2, by rw [List.length_take]; omega⟩, by rw [List.length_take]; omega, ⟨by omega, by omega⟩, t4, by rfl, ?_⟩
      simp (maxSteps := 9999999) only [x29bbb, push_cast, simprocAttr, g55, g23, g50, g56, s1, hz, h5, w1, w2, w3, w4, w5, f0]
      have q := rowIs8_from (L := z.2.1) (k := z.1 + 4) (by omega)
      have q2 : (((z.1 + 4 : Nat) : Int)) = (z.1 : Int) + 4 := by omega
      rw [q2] at q
      exact ⟨by omega, h4, ⟨by omega, by omega⟩, ⟨by omega, by omega⟩, by rfl, rowIs8_eq (rowIs8_to (by omega)) rfl, rowIs8_eq (rowIs8_n q2.symm q) rfl⟩
    · cases hg_
  · cases hg_
noncomputable def g29 : Con := fun args_ E_ nn_ => match args_ with
  | [.c (.n b)] => (match rowOf E_ b with
    | some (b_n, b_s, b_f) => if (unf (decL eU8 b_n b_f)).2.2.2 = 0 then g29a args_ E_ nn_ else g29b args_ E_ nn_
    | none => none)
  | _ => none
theorem c29 : COk Tryz.prog 29 g29 := by
  intro args E n h1 h2
  unfold g29
  split
  · split
    · split
      · exact c29a _ _ _ h1 h2
      · exact c29b _ _ _ h1 h2
    · trivial
  · trivial
end Go.Proofs.YtkpdofgmmpbknaaGreat
namespace Go.Proofs.YtkpdofgmmpbknaaGreat
open Go.Sx Go.Way
def badM (m r : Int) : Bool := decide (m < 0) || decide (256 ≤ m) || decide (r < -1) || decide (1024 < r)
def badC (b : CC) : Bool := badM b.X b.Y
def scanJ (s : List CC) : Bool := decide (s.length ≤ 32) && !(s.any badC)
def encBs : List CC → List Int
  | [] => []
  | b :: l => uintL b.X.toNat ++ uintL (b.Y + 1).toNat ++ encBs l
def encE (v : EvtL) : List Int := uintL (zig v.tick) ++ uintL (zig v.turn) ++ uintL (zig v.fwd) ++ [if v.bump then 1 else 0] ++ uintL v.scan.length ++ encBs v.scan
theorem encBs_u8 : ∀ l : List CC, u8s (encBs l)
  | [] => fun x hx => by simp [encBs] at hx
  | b :: l => u8s_app (u8s_app (uintL_u8 _) (uintL_u8 _)) (encBs_u8 l)
theorem encE_u8 (v : EvtL) : u8s (encE v) := by
  refine u8s_app (u8s_app (u8s_app (u8s_app (u8s_app (uintL_u8 _) (uintL_u8 _)) (uintL_u8 _)) ?_) (uintL_u8 _)) (encBs_u8 _)
  intro x hx
  simp only [List.mem_singleton] at hx
  subst hx
  split <;> omega
def okEv (v : EvtL) : Prop := (0 ≤ v.tick ∧ v.tick ≤ 1099511627776) ∧ (-32 ≤ v.turn ∧ v.turn ≤ 32) ∧ (0 ≤ v.fwd ∧ v.fwd ≤ 32) ∧ scanJ v.scan = true
theorem scanJ_iff {s : List CC} : scanJ s = true ↔ s.length ≤ 32 ∧ ∀ b ∈ s, (0 ≤ b.X ∧ b.X ≤ 255) ∧ (-1 ≤ b.Y ∧ b.Y ≤ 1024) := by
  unfold scanJ
  rw [Bool.and_eq_true, decide_eq_true_eq, Bool.not_eq_true', Bool.eq_false_iff]
  refine and_congr Iff.rfl ⟨fun h b hb => ?_, fun h q => ?_⟩
  · have h2 : badC b = false := by
      rw [Bool.eq_false_iff]; intro q; exact h (List.any_eq_true.2 ⟨b, hb, q⟩)
    simp only [badC, badM, Bool.or_eq_false_iff, decide_eq_false_iff_not] at h2
    omega
  · obtain ⟨b, hb, h2⟩ := List.any_eq_true.1 q
    have := h b hb
    simp only [badC, badM, Bool.or_eq_true, decide_eq_true_eq] at h2
    omega
theorem encBs_len {l : List CC} (h : ∀ b ∈ l, (0 ≤ b.X ∧ b.X ≤ 255) ∧ (-1 ≤ b.Y ∧ b.Y ≤ 1024)) : (encBs l).length ≤ 4 * l.length := by
  induction l with
  | nil => simp [encBs]
  | cons b l ih =>
    have hb := h b List.mem_cons_self
    have h1 := uintL_len 1 b.X.toNat (by omega)
    have h2 := uintL_len 1 (b.Y + 1).toNat (by omega)
    have h3 := ih fun x hx => h x (List.mem_cons_of_mem _ hx)
    simp only [encBs, List.length_append, List.length_cons]
    omega
theorem encE_len {v : EvtL} (h : okEv v) : (encE v).length ≤ 170 := by
  obtain ⟨h1, h2, h3, h4⟩ := h
  rw [scanJ_iff] at h4
  have a1 := uintL_len 5 (zig v.tick) (by unfold zig; split <;> omega)
  have a2 := uintL_len 0 (zig v.turn) (by unfold zig; split <;> omega)
  have a3 := uintL_len 0 (zig v.fwd) (by unfold zig; split <;> omega)
  have a4 := uintL_len 0 v.scan.length (by omega)
  have a5 := encBs_len h4.2
  simp only [encE, List.length_append, List.length_singleton]
  omega
theorem encE_pos (v : EvtL) : 0 < (encE v).length := by
  have := uintL_pos (zig v.tick)
  simp only [encE, List.length_append]; omega
theorem getD_inJ {α : Type} (d : α) {L : List α} {k : Nat} (h : k < L.length) : L.getD k d ∈ L := by
  rw [List.getD_eq_getElem?_getD, List.getElem?_eq_getElem h, Option.getD_some]; exact List.getElem_mem h
def x49 : XFn := ⟨21, (.seq (.reg false [O1 1 (.box 106) 0, K1 2 .mv (.bool false)]) (.seq (.reg false [O1 3 (.fld 0) 1, O1 4 .load1 3, K2 5 (.bin .lss) 4 (iV 0), O1 6 .mv 5, G1 7 (.fld 0) 1 6 false, G1 8 .load1 7 6 false, GK 9 (.bin .geq) 8 (iV 256) 6 false, ⟨(some 10), .pick, [(.t 6), (.k (.bool true)), (.t 9)], none⟩, O1 11 .mv 10, G1 12 (.fld 1) 1 11 false, G1 13 .load1 12 11 false, GK 14 (.bin .lss) 13 (iV (-1)) 11 false, ⟨(some 15), .pick, [(.t 11), (.k (.bool true)), (.t 14)], none⟩, O1 16 .mv 15, G1 17 (.fld 1) 1 16 false, G1 18 .load1 17 16 false, GK 19 (.bin .gtr) 18 (iV 1024) 16 false, ⟨(some 20), .pick, [(.t 16), (.k (.bool true)), (.t 19)], none⟩, O1 2 .mv 20]) .ret)), [(.s 2)]⟩
theorem x49_ok : xfn Tryz.prog Tryz.f49 = some x49.er := by kernel_rfl
def x81L0 : XC := (.seq (.reg false [O2 9 (.bin .lss) 8 7]) (.seq (.cond (.t 9) .skip (.exit 0)) (.seq (.block 1 (.seq (.reg false [O1 10 .mv 8, O1 5 .mv 10]) (.seq (.reg false [O1 11 .mv 1, O1 12 .mv 0, O1 13 .mv 5, O2 14 (.ixS 2) 12 13, O1 15 (.loadN 2) 14, O2 16 .callv 11 15]) (.cond (.t 16) (.seq (.reg false [O1 17 .mv 5, O1 4 .mv 17]) .ret) .skip)))) (.reg false [K2 18 (.bin .add) 8 (iV 1), O1 8 .mv 18]))))
def x81 : XFn := ⟨19, (.seq (.reg false [K1 4 .mv (iV 0)]) (.seq (.seq (.reg false [O1 6 .mv 0, O1 7 .lenS 6, K1 8 .mv (iV 0)]) (.block 0 (.loop x81L0))) (.seq (.reg false [K1 4 .mv (iV (-1))]) .ret))), [(.s 4)]⟩
theorem x81_ok : xfn Tryz.prog Tryz.f81 = some x81.er := by kernel_rfl
def x48 : XFn := ⟨9, (.seq (.reg false [K1 4 .mv (.bool false)]) (.seq (.reg false [O1 5 .mv 0, O1 6 .mv 1, O2 7 (.call 81) 5 6, K2 8 (.bin .geq) 7 (iV 0), O1 4 .mv 8]) .ret)), [(.s 4)]⟩
theorem x48_ok : xfn Tryz.prog Tryz.f48 = some x48.er := by kernel_rfl
def x25 : XFn := ⟨11, (.seq (.reg false [K1 2 .mv (.bool false)]) (.seq (.reg false [O1 3 .mv 0, O1 4 .lenS 3, K2 5 (.bin .leq) 4 (iV 32), O1 6 .mv 5, G1 7 .mv 0 6 true, ⟨(some 8), (.call 48), [(.t 7), (.k (.func (.func 49) #[] #[]))], (some (6, true))⟩, G1 9 (.un .not) 8 6 true, ⟨(some 10), .pick, [(.t 6), (.t 9), (.k (.bool false))], none⟩, O1 2 .mv 10]) .ret)), [(.s 2)]⟩
theorem x25_ok : xfn Tryz.prog Tryz.f25 = some x25.er := by kernel_rfl
def x54 : XFn := ⟨8, (.seq (.reg false [K1 2 .mv (.slice none 0 0)]) (.seq (.seq (.reg false [O1 3 .mv 0, O1 4 (.isnil false) 3]) (.cond (.t 4) (.seq (.reg false [K1 2 .mv (.slice none 0 0)]) .ret) .skip)) (.seq (.reg false [⟨(some 5), (.slit 106 0 2 [] []), [], none⟩, O1 6 .mv 0, O2 7 (.app 106 2 16) 5 6, O1 2 .mv 7]) .ret))), [(.s 2)]⟩
theorem x54_ok : xfn Tryz.prog Tryz.f54 = some x54.er := by kernel_rfl
def x28 : XFn := ⟨8, (.seq (.reg false [O1 1 (.box 48) 0, ⟨(some 2), (.alloc 48 [(iV 0), (iV 0), (iV 0), (.bool false), (.slice none 0 0)]), [], none⟩]) (.seq (.reg false [O1 3 (.fld 4) 1, O1 4 .load1 3, O1 5 (.call 54) 4, O1 6 (.fld 4) 1, ⟨none, (.store 1), [(.t 6), (.t 5)], none⟩]) (.seq (.reg false [O1 7 (.loadN 5) 1, ⟨none, (.store 5), [(.t 2), (.t 7)], none⟩]) .ret))), [(.bn 2 5)]⟩
theorem x28_ok : xfn Tryz.prog Tryz.f28 = some x28.er := by kernel_rfl
def x27L0 : XC := (.seq (.reg false [O2 39 (.bin .lss) 38 37]) (.seq (.cond (.t 39) .skip (.exit 0)) (.seq (.block 1 (.seq (.reg false [O2 40 (.ixS 2) 36 38, O1 41 (.loadN 2) 40, ⟨(some 6), (.alloc 106 [(iV 0), (iV 0)]), [], none⟩, ⟨none, (.store 2), [(.t 6), (.t 41)], none⟩]) (.seq (.reg false [O1 42 .mv 3, O1 43 (.fld 0) 6, O1 44 .load1 43, O1 45 (.conv .u64) 44, O1 46 (.call 53) 45, O2 47 (.app 5 1 1) 42 46, O1 3 .mv 47]) (.reg false [O1 48 .mv 3, O1 49 (.fld 1) 6, O1 50 .load1 49, K2 51 (.bin .add) 50 (iV 1), O1 52 (.conv .u64) 51, O1 53 (.call 53) 52, O2 54 (.app 5 1 1) 48 53, O1 3 .mv 54])))) (.reg false [K2 55 (.bin .add) 38 (iV 1), O1 38 .mv 55]))))
def x27 : XFn := ⟨57, (.seq (.reg false [O1 1 (.box 48) 0, K1 2 .mv (.slice none 0 0)]) (.seq (.reg false [O1 7 (.fld 0) 1, O1 8 .load1 7, O1 9 (.call 52) 8, O1 3 .mv 9]) (.seq (.reg false [O1 10 .mv 3, O1 11 (.fld 1) 1, O1 12 (.fld 0) 11, O1 13 .load1 12, O1 14 (.call 52) 13, O2 15 (.app 5 1 1) 10 14, O1 3 .mv 15]) (.seq (.reg false [O1 16 .mv 3, O1 17 (.fld 1) 1, O1 18 (.fld 1) 17, O1 19 .load1 18, O1 20 (.call 52) 19, O2 21 (.app 5 1 1) 16 20, O1 3 .mv 21]) (.seq (.reg false [K1 4 .mv (.int .u8 0)]) (.seq (.seq (.reg false [O1 22 (.fld 3) 1, O1 23 .load1 22]) (.cond (.t 23) (.reg false [K1 4 .mv (.int .u8 1)]) .skip)) (.seq (.reg false [O1 24 .mv 3, O1 25 .mv 4, ⟨(some 26), (.slit 5 1 1 [(.int .u8 0)] [(0, 1)]), [(.t 25)], none⟩, O2 27 (.app 5 1 1) 24 26, O1 3 .mv 27]) (.seq (.reg false [O1 28 .mv 3, O1 29 (.fld 4) 1, O1 30 .load1 29, O1 31 .lenS 30, O1 32 (.conv .u64) 31, O1 33 (.call 53) 32, O2 34 (.app 5 1 1) 28 33, O1 3 .mv 34]) (.seq (.seq (.reg false [O1 35 (.fld 4) 1, O1 36 .load1 35, O1 37 .lenS 36, K1 38 .mv (iV 0)]) (.block 0 (.loop x27L0))) (.seq (.reg false [O1 56 .mv 3, O1 2 .mv 56]) .ret)))))))))), [(.s 2)]⟩
theorem x27_ok : xfn Tryz.prog Tryz.f27 = some x27.er := by kernel_rfl
def g49 : Con := fun args_ E_ nn_ => match args_ with
  | [.a [.v (.int .i64 b_Mark), .v (.int .i64 b_Reading)]] => some (.q (True) (.o (.c (.v (.bool (badM b_Mark b_Reading))))))
  | _ => none
theorem c49 : COk Tryz.prog 49 g49 := by
  refine cok_q Tryz.func49 x49_ok (by kernel_rfl) (cok_tab cok_nil) ?_
  intro args_ E_ nn_ cr_ hg_
  unfold g49 at hg_
  split at hg_
  · rename_i b_Mark b_Reading
    cases hg_
    refine ⟨_, _, rfl, 0, [], [.a [.v (.int .i64 b_Mark), .v (.int .i64 b_Reading)]], [], .o (.c (.v (.bool (badM b_Mark b_Reading)))), rfl, rfl, and3 (by simp only [push_cast, Nat.reduceLT, Nat.reduceAdd]) ⟨rfl, trivial, rfl, ?_⟩⟩
    intro hpre hlen
    refine ⟨trivial, ?_⟩
    simp (maxSteps := 9999999) only [x49, push_cast, simprocAttr]
    rfl
  · cases hg_
def g81 : Con := fun args_ E_ nn_ => match args_ with
  | [.c (.n s), .c (.v (.func (.func 49) f_a f_b))] => (match rowOf E_ s with
    | some (s_n, s_s, s_f) => some (.q (isRow eC s_n s_s s_f ∧ f_a = #[] ∧ f_b = #[]) (.o (.c (.v (.int .i64 (ixOf badC (decL eC s_n s_f)))))))
    | none => none)
  | _ => none
theorem c81 : COk Tryz.prog 81 g81 := by
  refine cok_q Tryz.func81 x81_ok (by kernel_rfl) (cok_tab (cok_cons c49 cok_nil)) ?_
  intro args_ E_ nn_ cr_ hg_
  unfold g81 at hg_
  split at hg_
  · rename_i s f_a f_b
    split at hg_
    · rename_i s_n s_s s_f h_s
      cases hg_
      refine ⟨_, _, rfl, 1, [s], [.c (.n 0), .c (.v (.func (.func 49) f_a f_b))], [(0, .ro (decL eC s_n s_f).length eC.sz (rowF eC (decL eC s_n s_f)))], .o (.c (.v (.int .i64 (ixOf badC (decL eC s_n s_f))))), rfl, rfl, and3 (by simp only [push_cast, Nat.reduceLT, Nat.reduceAdd]) ⟨rfl, ⟨inE0_row h_s, trivial⟩, rfl, ?_⟩⟩
      intro hpre hlen
      obtain ⟨i_s, hpre⟩ := hpre
      refine ⟨⟨inE_row h_s i_s, trivial⟩, ?_⟩
      have z_s := lens_row (E := eC) hlen h_s
      clear i_s
      generalize decL eC s_n s_f = sL at *
      clear h_s
      obtain ⟨rfl, rfl⟩ := hpre
      simp (maxSteps := 9999999) only [x81, push_cast, simprocAttr, g49]
      refine vcLoop_upd (α := {k : Nat // k ≤ sL.length ∧ ∀ i, i < k → badC (sL.getD i eC.dflt) = false}) [0, 1, 7] 0 (fun s => [(8, .o (.c (.v (.int .i64 (s.1 : Nat)))))]) (fun s => []) (fun s => sL.length - s.1) ⟨0, by omega, fun i hi => by omega⟩ ?_ ?_
      · simp only [push_cast, simprocAttr, g49]
      rintro ⟨k, hk, hall⟩
      simp only [x81L0, push_cast, simprocAttr, g49]
      refine ⟨fun hlt => ⟨hlt, hlt, fun hw => (ixOf_some (p := badC) (d := eC.dflt) hlt hall hw).symm, fun hw => ?_⟩, fun hn => ?_⟩
      · exact ⟨⟨k + 1, by omega, fun i hi => by
          by_cases h : i = k
          · subst h; exact hw
          · exact hall i (by omega)⟩, wrapI (by omega) (by omega), by simp only; omega⟩
      · exact (ixOf_none (p := badC) (d := eC.dflt) (fun i hi => hall i (by omega))).symm
    · cases hg_
  · cases hg_
def g48 : Con := fun args_ E_ nn_ => match args_ with
  | [.c (.n s), .c (.v (.func (.func 49) f_a f_b))] => (match rowOf E_ s with
    | some (s_n, s_s, s_f) => some (.q (isRow eC s_n s_s s_f ∧ f_a = #[] ∧ f_b = #[]) (.o (.c (.v (.bool (((decL eC s_n s_f)).any badC))))))
    | none => none)
  | _ => none
theorem c48 : COk Tryz.prog 48 g48 := by
  refine cok_q Tryz.func48 x48_ok (by kernel_rfl) (cok_tab (cok_cons c81 cok_nil)) ?_
  intro args_ E_ nn_ cr_ hg_
  unfold g48 at hg_
  split at hg_
  · rename_i s f_a f_b
    split at hg_
    · rename_i s_n s_s s_f h_s
      cases hg_
      refine ⟨_, _, rfl, 1, [s], [.c (.n 0), .c (.v (.func (.func 49) f_a f_b))], [(0, .ro (decL eC s_n s_f).length eC.sz (rowF eC (decL eC s_n s_f)))], .o (.c (.v (.bool (((decL eC s_n s_f)).any badC)))), rfl, rfl, and3 (by simp only [push_cast, Nat.reduceLT, Nat.reduceAdd]) ⟨rfl, ⟨inE0_row h_s, trivial⟩, rfl, ?_⟩⟩
      intro hpre hlen
      obtain ⟨i_s, hpre⟩ := hpre
      refine ⟨⟨inE_row h_s i_s, trivial⟩, ?_⟩
      have z_s := lens_row (E := eC) hlen h_s
      clear i_s
      generalize decL eC s_n s_f = sL at *
      clear h_s
      obtain ⟨rfl, rfl⟩ := hpre
      simp (maxSteps := 9999999) only [x48, push_cast, simprocAttr, g81]
      exact ixOf_any badC sL
    · cases hg_
  · cases hg_
def g25 : Con := fun args_ E_ nn_ => match args_ with
  | [.c (.n s)] => (match rowOf E_ s with
    | some (s_n, s_s, s_f) => some (.q (isRow eC s_n s_s s_f ∧ True) (.o (.c (.v (.bool (scanJ (decL eC s_n s_f)))))))
    | none => none)
  | _ => none
theorem c25 : COk Tryz.prog 25 g25 := by
  refine cok_q Tryz.func25 x25_ok (by kernel_rfl) (cok_tab (cok_cons c48 cok_nil)) ?_
  intro args_ E_ nn_ cr_ hg_
  unfold g25 at hg_
  split at hg_
  · rename_i s
    split at hg_
    · rename_i s_n s_s s_f h_s
      cases hg_
      refine ⟨_, _, rfl, 1, [s], [.c (.n 0)], [(0, .ro (decL eC s_n s_f).length eC.sz (rowF eC (decL eC s_n s_f)))], .o (.c (.v (.bool (scanJ (decL eC s_n s_f))))), rfl, rfl, and3 (by simp only [push_cast, Nat.reduceLT, Nat.reduceAdd]) ⟨rfl, ⟨inE0_row h_s, trivial⟩, rfl, ?_⟩⟩
      intro hpre hlen
      obtain ⟨i_s, hpre⟩ := hpre
      refine ⟨⟨inE_row h_s i_s, trivial⟩, ?_⟩
      have z_s := lens_row (E := eC) hlen h_s
      clear i_s
      generalize decL eC s_n s_f = sL at *
      clear h_s
      simp (maxSteps := 9999999) only [x25, push_cast, simprocAttr, g48]
      unfold scanJ
      congr 1
      rw [decide_eq_decide]; omega
    · cases hg_
  · cases hg_
def g54 : Con := fun args_ E_ nn_ => match args_ with
  | [.c (.n s)] => (match rowOf E_ s with
    | some (s_n, s_s, s_f) => some (.e (isRow eC s_n s_s s_f ∧ ((decL eC s_n s_f)).length ≤ 100000) (.o (.c (.n (nn_ + 0)))) [((nn_ + 0), .own ((decL eC s_n s_f)).length 2 (rowF eC ((decL eC s_n s_f))) 106)] (nn_ + 1))
    | none => none)
  | _ => none
theorem c54 : COk Tryz.prog 54 g54 := by
  refine cok_e Tryz.func54 x54_ok (by kernel_rfl) (cok_tab cok_nil) ?_
  intro args_ E_ nn_ cr_ hg_
  unfold g54 at hg_
  split at hg_
  · rename_i s
    split at hg_
    · rename_i s_n s_s s_f h_s
      cases hg_
      refine ⟨_, _, _, _, rfl, 1, [s], [.c (.n 0)], [(0, .ro (decL eC s_n s_f).length eC.sz (rowF eC (decL eC s_n s_f)))], .o (.c (.n 1)), [(1, .own ((decL eC s_n s_f)).length 2 (rowF eC ((decL eC s_n s_f))) 106)], 2, rfl, rfl, by simp only [renE, Ent.ren, rowF_renf] <;> rfl, rfl, by decide, and4 (by simp only [push_cast, Nat.reduceLT, Nat.reduceAdd]) ⟨rfl, ⟨inE0_row h_s, trivial⟩, by simp only [keysNodup, outN, keys] <;> decide, rfl, rfl, ?_⟩⟩
      intro hpre hlen
      obtain ⟨i_s, hpre⟩ := hpre
      refine ⟨⟨inE_row h_s i_s, trivial⟩, by simp only [apartE] <;> (first | trivial | (simp [Ent.mut]; done)), ?_⟩
      have z_s := lens_row (E := eC) hlen h_s
      clear i_s
      generalize decL eC s_n s_f = sL at *
      clear h_s
      simp (maxSteps := 9999999) only [x54, push_cast, simprocAttr]
      intro b
      exact fun h => ⟨h, fun _ => ⟨by omega, fun e j he hj => by rw [rowF_sub]; simp [catF]⟩⟩
    · cases hg_
  · cases hg_
def g28 : Con := fun args_ E_ nn_ => match args_ with
  | [.a [.v (.int .i64 e_Tick), .v (.int .i64 e_Command_Turn), .v (.int .i64 e_Command_Forward), .v (.bool e_Bump), .n e_Scan]] => (match rowOf E_ e_Scan with
    | some (e_Scan_n, e_Scan_s, e_Scan_f) => some (.e (isRow eC e_Scan_n e_Scan_s e_Scan_f ∧ ((decL eC e_Scan_n e_Scan_f)).length ≤ 100000) (.o (.a [.v (.int .i64 e_Tick), .v (.int .i64 e_Command_Turn), .v (.int .i64 e_Command_Forward), .v (.bool e_Bump), .n (nn_ + 0)])) [((nn_ + 0), .ro ((decL eC e_Scan_n e_Scan_f)).length 2 (rowF eC ((decL eC e_Scan_n e_Scan_f)))), (e_Scan, .ro ((decL eC e_Scan_n e_Scan_f)).length 2 (rowF eC ((decL eC e_Scan_n e_Scan_f))))] (nn_ + 1))
    | none => none)
  | _ => none
theorem c28 : COk Tryz.prog 28 g28 := by
  refine cok_d Tryz.func28 x28_ok (by kernel_rfl) (cok_tab (cok_cons c54 cok_nil)) ?_
  intro args_ E_ nn_ cr_ hg_
  unfold g28 at hg_
  split at hg_
  · rename_i e_Tick e_Command_Turn e_Command_Forward e_Bump e_Scan
    split at hg_
    · rename_i e_Scan_n e_Scan_s e_Scan_f h_e_Scan
      cases hg_
      refine ⟨_, _, _, _, rfl, 1, [e_Scan], [.a [.v (.int .i64 e_Tick), .v (.int .i64 e_Command_Turn), .v (.int .i64 e_Command_Forward), .v (.bool e_Bump), .n 0]], [(0, .ro (decL eC e_Scan_n e_Scan_f).length eC.sz (rowF eC (decL eC e_Scan_n e_Scan_f)))], .o (.a [.v (.int .i64 e_Tick), .v (.int .i64 e_Command_Turn), .v (.int .i64 e_Command_Forward), .v (.bool e_Bump), .n 1]), [(1, .ro ((decL eC e_Scan_n e_Scan_f)).length 2 (rowF eC ((decL eC e_Scan_n e_Scan_f)))), (0, .ro ((decL eC e_Scan_n e_Scan_f)).length 2 (rowF eC ((decL eC e_Scan_n e_Scan_f))))], 2, rfl, rfl, by simp only [renE, Ent.ren, rowF_renf] <;> rfl, rfl, by decide, and4 (by simp only [push_cast, Nat.reduceLT, Nat.reduceAdd]) ⟨rfl, ⟨inE0_row h_e_Scan, trivial⟩, by simp only [keysNodup, outN, keys] <;> decide, rfl, .inr ⟨.inl rfl, trivial⟩, ?_⟩⟩
      intro hpre hlen
      obtain ⟨i_e_Scan, hpre⟩ := hpre
      refine ⟨⟨inE_row h_e_Scan i_e_Scan, trivial⟩, by simp only [apartE] <;> (first | trivial | (simp [Ent.mut]; done)), ?_⟩
      have z_e_Scan := lens_row (E := eC) hlen h_e_Scan
      clear i_e_Scan
      generalize decL eC e_Scan_n e_Scan_f = e_ScanL at *
      clear h_e_Scan
      simp (maxSteps := 9999999) only [x28, push_cast, simprocAttr, g54]
      exact hpre
    · cases hg_
  · cases hg_
def g28w : Con := fun args_ E_ nn_ => match args_ with
  | [.a [.v (.int .i64 e_Tick), .v (.int .i64 e_Command_Turn), .v (.int .i64 e_Command_Forward), .v (.bool e_Bump), .n e_Scan]] => (match rowOf E_ e_Scan with
    | some (e_Scan_n, e_Scan_s, e_Scan_f) => some (.e (isRow eC e_Scan_n e_Scan_s e_Scan_f ∧ ((decL eC e_Scan_n e_Scan_f)).length ≤ 100000) (.o (.a [.v (.int .i64 e_Tick), .v (.int .i64 e_Command_Turn), .v (.int .i64 e_Command_Forward), .v (.bool e_Bump), .n (nn_ + 0)])) [((nn_ + 0), .own ((decL eC e_Scan_n e_Scan_f)).length 2 (rowF eC ((decL eC e_Scan_n e_Scan_f))) 106)] (nn_ + 1))
    | none => none)
  | _ => none
theorem c28w : COk Tryz.prog 28 g28w := by
  refine cok_d Tryz.func28 x28_ok (by kernel_rfl) (cok_tab (cok_cons c54 cok_nil)) ?_
  intro args_ E_ nn_ cr_ hg_
  unfold g28w at hg_
  split at hg_
  · rename_i e_Tick e_Command_Turn e_Command_Forward e_Bump e_Scan
    split at hg_
    · rename_i e_Scan_n e_Scan_s e_Scan_f h_e_Scan
      cases hg_
      refine ⟨_, _, _, _, rfl, 1, [e_Scan], [.a [.v (.int .i64 e_Tick), .v (.int .i64 e_Command_Turn), .v (.int .i64 e_Command_Forward), .v (.bool e_Bump), .n 0]], [(0, .ro (decL eC e_Scan_n e_Scan_f).length eC.sz (rowF eC (decL eC e_Scan_n e_Scan_f)))], .o (.a [.v (.int .i64 e_Tick), .v (.int .i64 e_Command_Turn), .v (.int .i64 e_Command_Forward), .v (.bool e_Bump), .n 1]), [(1, .own ((decL eC e_Scan_n e_Scan_f)).length 2 (rowF eC ((decL eC e_Scan_n e_Scan_f))) 106)], 2, rfl, rfl, by simp only [renE, Ent.ren, rowF_renf] <;> rfl, rfl, by decide, and4 (by simp only [push_cast, Nat.reduceLT, Nat.reduceAdd]) ⟨rfl, ⟨inE0_row h_e_Scan, trivial⟩, by simp only [keysNodup, outN, keys] <;> decide, rfl, .inl rfl, ?_⟩⟩
      intro hpre hlen
      obtain ⟨i_e_Scan, hpre⟩ := hpre
      refine ⟨⟨inE_row h_e_Scan i_e_Scan, trivial⟩, by simp only [apartE] <;> (first | trivial | (simp [Ent.mut]; done)), ?_⟩
      have z_e_Scan := lens_row (E := eC) hlen h_e_Scan
      clear i_e_Scan
      generalize decL eC e_Scan_n e_Scan_f = e_ScanL at *
      clear h_e_Scan
      simp (maxSteps := 9999999) only [x28, push_cast, simprocAttr, g54]
      exact hpre
    · cases hg_
  · cases hg_
def g27 : Con := fun args_ E_ nn_ => match args_ with
  | [.a [.v (.int .i64 e_Tick), .v (.int .i64 e_Command_Turn), .v (.int .i64 e_Command_Forward), .v (.bool e_Bump), .n e_Scan]] => (match rowOf E_ e_Scan with
    | some (e_Scan_n, e_Scan_s, e_Scan_f) => some (.e (isRow eC e_Scan_n e_Scan_s e_Scan_f ∧ okEv (⟨e_Tick, e_Command_Turn, e_Command_Forward, e_Bump, (decL eC e_Scan_n e_Scan_f)⟩ : EvtL)) (.o (.c (.n (nn_ + 0)))) [((nn_ + 0), .own (encE (⟨e_Tick, e_Command_Turn, e_Command_Forward, e_Bump, (decL eC e_Scan_n e_Scan_f)⟩ : EvtL)).length 1 (rowF eU8 (encE (⟨e_Tick, e_Command_Turn, e_Command_Forward, e_Bump, (decL eC e_Scan_n e_Scan_f)⟩ : EvtL))) 5)] (nn_ + 1))
    | none => none)
  | _ => none
set_option maxHeartbeats 1000000 in
theorem c27 : COk Tryz.prog 27 g27 := by
  refine cok_e Tryz.func27 x27_ok (by kernel_rfl) (cok_tab (cok_cons c52 (cok_cons c53 cok_nil))) ?_
  intro args_ E_ nn_ cr_ hg_
  unfold g27 at hg_
  split at hg_
  · rename_i e_Tick e_Command_Turn e_Command_Forward e_Bump e_Scan
    split at hg_
    · rename_i e_Scan_n e_Scan_s e_Scan_f h_e_Scan
      cases hg_
      refine ⟨_, _, _, _, rfl, 1, [e_Scan], [.a [.v (.int .i64 e_Tick), .v (.int .i64 e_Command_Turn), .v (.int .i64 e_Command_Forward), .v (.bool e_Bump), .n 0]], [(0, .ro (decL eC e_Scan_n e_Scan_f).length eC.sz (rowF eC (decL eC e_Scan_n e_Scan_f)))], .o (.c (.n 1)), [(1, .own (encE (⟨e_Tick, e_Command_Turn, e_Command_Forward, e_Bump, (decL eC e_Scan_n e_Scan_f)⟩ : EvtL)).length 1 (rowF eU8 (encE (⟨e_Tick, e_Command_Turn, e_Command_Forward, e_Bump, (decL eC e_Scan_n e_Scan_f)⟩ : EvtL))) 5)], 2, rfl, rfl, by simp only [renE, Ent.ren, rowF_renf] <;> rfl, rfl, by decide, and4 (by simp only [push_cast, Nat.reduceLT, Nat.reduceAdd]) ⟨rfl, ⟨inE0_row h_e_Scan, trivial⟩, by simp only [keysNodup, outN, keys] <;> decide, rfl, rfl, ?_⟩⟩
      intro hpre hlen
      obtain ⟨i_e_Scan, hpre⟩ := hpre
      refine ⟨⟨inE_row h_e_Scan i_e_Scan, trivial⟩, by simp only [apartE] <;> (first | trivial | (simp [Ent.mut]; done)), ?_⟩
      have z_e_Scan := lens_row (E := eC) hlen h_e_Scan
      clear i_e_Scan
      generalize decL eC e_Scan_n e_Scan_f = e_ScanL at *
      clear h_e_Scan
      have hl : ∀ b, (encE ⟨e_Tick, e_Command_Turn, e_Command_Forward, b, e_ScanL⟩).length ≤ 170 := fun b => encE_len (v := ⟨e_Tick, e_Command_Turn, e_Command_Forward, b, e_ScanL⟩) hpre
      obtain ⟨h1, h2, h3, h4⟩ := hpre
      simp only at h1 h2 h3 h4
      rw [scanJ_iff] at h4
      obtain ⟨hs0, hs⟩ := h4
      have wl : IntKind.u64.wrap ((e_ScanL.length : Nat) : Int) = ((e_ScanL.length : Nat) : Int) := wrap64 (by omega)
      have hT : -4611686018427387904 ≤ e_Tick ∧ e_Tick ≤ 4611686018427387903 := by omega
      have hU : -4611686018427387904 ≤ e_Command_Turn ∧ e_Command_Turn ≤ 4611686018427387903 := by omega
      have hF : -4611686018427387904 ≤ e_Command_Forward ∧ e_Command_Forward ≤ 4611686018427387903 := by omega
      have l1 := uintL_len 5 (zig e_Tick) (by unfold zig; split <;> omega)
      have l2 := uintL_len 0 (zig e_Command_Turn) (by unfold zig; split <;> omega)
      have l3 := uintL_len 0 (zig e_Command_Forward) (by unfold zig; split <;> omega)
      have l4 := uintL_len 0 e_ScanL.length (by omega)
      rcases e_Bump with _ | _
      · simp (maxSteps := 9999999) only [x27, push_cast, simprocAttr, g52, g53, wl, Int.toNat_natCast]
        refine ⟨hT, hU, by omega, hF, by omega, by omega, by omega, by omega, ?_⟩
        refine vcLoop_upd (α := {s : Nat × List Int // s.1 ≤ e_ScanL.length ∧ s.2 ++ encBs (e_ScanL.drop s.1) = (encE ⟨e_Tick, e_Command_Turn, e_Command_Forward, false, e_ScanL⟩)}) [36, 37] 1 (fun s => [(3, .o (.c (.n 11))), (38, .o (.c (.v (.int .i64 (s.1.1 : Nat)))))]) (fun s => [(11, .own (s.1.2).length 1 (rowF eU8 (s.1.2)) 5)]) (fun s => e_ScanL.length - s.1.1) ⟨(0, uintL (zig e_Tick) ++ uintL (zig e_Command_Turn) ++ uintL (zig e_Command_Forward) ++ [0] ++ uintL e_ScanL.length), by simp only; omega, by simp [encE]⟩ ?_ ?_
        · simp only [push_cast, simprocAttr, g52, g53]
          exact rowIs8_eq (rowIs8_cat (rowIs8_cat (rowIs8_cat (rowIs8_cat (rowIs8_self _) (rowIs8_self _)) (rowIs8_self _)) (rowIs8_lit _)) (rowIs8_self _)) rfl
        rintro ⟨⟨k, M⟩, hk, hM⟩
        simp only at hk hM
        have hML : M.length ≤ 170 := by
          have := hl false
          rw [← hM, List.length_append] at this; omega
        simp only [x27L0, push_cast, simprocAttr, g52, g53]
        refine ⟨fun hlt => ?_, fun hge => ?_⟩
        · have hb := hs _ (getD_inJ eC.dflt hlt)
          rw [drop_cons eC.dflt hlt] at hM
          generalize e_ScanL.getD k eC.dflt = c at hb hM
          obtain ⟨cx, cy⟩ := c
          simp only at hb
          obtain ⟨mx, rfl⟩ : ∃ m : Nat, cx = m := ⟨cx.toNat, by omega⟩
          obtain ⟨my, hy⟩ : ∃ m : Nat, cy + 1 = m := ⟨(cy + 1).toNat, by omega⟩
          have u1 := uintL_len 1 mx (by omega)
          have u2 := uintL_len 1 my (by omega)
          simp only [hy, wrapI (n := (my : Int)) (by omega) (by omega), wrap64 (m := mx) (by omega), wrap64 (m := my) (by omega), Int.toNat_natCast]
          refine ⟨hlt, by omega, by omega, by omega, by omega, by omega, ⟨(k + 1, M ++ uintL mx ++ uintL my), by simp only; omega, ?_⟩, ⟨wrapI (by omega) (by omega), rowIs8_eq (rowIs8_cat (rowIs8_cat (rowIs8_self _) (rowIs8_self _)) (rowIs8_self _)) rfl⟩, by simp only; omega⟩
          simp only
          rw [← hM]
          simp only [encBs, hy, Int.toNat_natCast, List.append_assoc]
        · rw [List.drop_eq_nil_of_le (by omega)] at hM
          simp only [encBs, List.append_nil] at hM
          exact rowIs8_eq (rowIs8_self _) hM.symm
      simp (maxSteps := 9999999) only [x27, push_cast, simprocAttr, g52, g53, wl, Int.toNat_natCast]
      refine ⟨hT, hU, by omega, hF, by omega, by omega, by omega, by omega, ?_⟩
      refine vcLoop_upd (α := {s : Nat × List Int // s.1 ≤ e_ScanL.length ∧ s.2 ++ encBs (e_ScanL.drop s.1) = (encE ⟨e_Tick, e_Command_Turn, e_Command_Forward, true, e_ScanL⟩)}) [36, 37] 1 (fun s => [(3, .o (.c (.n 11))), (38, .o (.c (.v (.int .i64 (s.1.1 : Nat)))))]) (fun s => [(11, .own (s.1.2).length 1 (rowF eU8 (s.1.2)) 5)]) (fun s => e_ScanL.length - s.1.1) ⟨(0, uintL (zig e_Tick) ++ uintL (zig e_Command_Turn) ++ uintL (zig e_Command_Forward) ++ [1] ++ uintL e_ScanL.length), by simp only; omega, by simp [encE]⟩ ?_ ?_
      · simp only [push_cast, simprocAttr, g52, g53]
        exact rowIs8_eq (rowIs8_cat (rowIs8_cat (rowIs8_cat (rowIs8_cat (rowIs8_self _) (rowIs8_self _)) (rowIs8_self _)) (rowIs8_lit _)) (rowIs8_self _)) rfl
      rintro ⟨⟨k, M⟩, hk, hM⟩
      simp only at hk hM
      have hML : M.length ≤ 170 := by
        have := hl true
        rw [← hM, List.length_append] at this; omega
      simp only [x27L0, push_cast, simprocAttr, g52, g53]
      refine ⟨fun hlt => ?_, fun hge => ?_⟩
      · have hb := hs _ (getD_inJ eC.dflt hlt)
        rw [drop_cons eC.dflt hlt] at hM
        generalize e_ScanL.getD k eC.dflt = c at hb hM
        obtain ⟨cx, cy⟩ := c
        simp only at hb
        obtain ⟨mx, rfl⟩ : ∃ m : Nat, cx = m := ⟨cx.toNat, by omega⟩
        obtain ⟨my, hy⟩ : ∃ m : Nat, cy + 1 = m := ⟨(cy + 1).toNat, by omega⟩
        have u1 := uintL_len 1 mx (by omega)
        have u2 := uintL_len 1 my (by omega)
        simp only [hy, wrapI (n := (my : Int)) (by omega) (by omega), wrap64 (m := mx) (by omega), wrap64 (m := my) (by omega), Int.toNat_natCast]
        refine ⟨hlt, by omega, by omega, by omega, by omega, by omega, ⟨(k + 1, M ++ uintL mx ++ uintL my), by simp only; omega, ?_⟩, ⟨wrapI (by omega) (by omega), rowIs8_eq (rowIs8_cat (rowIs8_cat (rowIs8_self _) (rowIs8_self _)) (rowIs8_self _)) rfl⟩, by simp only; omega⟩
        simp only
        rw [← hM]
        simp only [encBs, hy, Int.toNat_natCast, List.append_assoc]
      · rw [List.drop_eq_nil_of_le (by omega)] at hM
        simp only [encBs, List.append_nil] at hM
        exact rowIs8_eq (rowIs8_self _) hM.symm
    · cases hg_
  · cases hg_
end Go.Proofs.YtkpdofgmmpbknaaGreat
