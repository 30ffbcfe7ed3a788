/- A part of the proof of a statement about this seat: how a function is stepped through, and plain laws. No conditions. -/
import Derived.Test.YtiijdbpncpdmdaaRows
import Derived.Test.YtiijdbpncpdmdaaSz4
import Derived.Test.YtiijdbpncpdmdaaB2
import Derived.KernelRfl
set_option linter.unusedVariables false
set_option linter.unusedSimpArgs false
set_option maxRecDepth 20000
namespace Go.Proofs.Ytiijdbpncpdmdaa
open Go.Sx Go.Way
/-! ### Turns and ways in the room -/
def actT (t f : Int) : ActL := ⟨t, f, 0, 0, 0, 0, [], []⟩
def blkX (t f : Int) : List ActL := [actT t 0, actT (-t) f] ++ List.replicate 4 (actT 32 0)
def repX (t f : Int) : Nat → List ActL
  | 0 => []
  | n + 1 => repX t f n ++ blkX t f
def preX (t f : Int) (i k : Nat) : List ActL := repX t f i ++ [actT t 0, actT (-t) f] ++ List.replicate k (actT 32 0)
theorem preX_four (t f : Int) (i : Nat) : preX t f i 4 = repX t f (i + 1) := by simp [preX, repX, blkX]
theorem preX_succ (t f : Int) (i k : Nat) : preX t f i (k + 1) = preX t f i k ++ [actT 32 0] := by simp [preX, List.replicate_succ']
theorem preX_len (t f : Int) (i k : Nat) : (preX t f i k).length = (repX t f i).length + 2 + k := by simp [preX]; omega
theorem repX_len (t f : Int) : ∀ n, (repX t f n).length = 6 * n
  | 0 => rfl
  | n + 1 => by simp [repX, blkX, repX_len t f n]; omega
theorem act_okT {t f : Int} (h1 : -32 ≤ t ∧ t ≤ 32) (h2 : 0 ≤ f ∧ f ≤ 32) : actOk (actT t f) = true := actOk_t ⟨h1, h2⟩ (by simp [actT]) rfl
theorem next_turn {x y h t : Int} (hx : 20 < x ∧ x < 172) (hy : 20 < y ∧ y < 172) (hh : 0 ≤ h ∧ h ≤ 255) (ht : -32 ≤ t ∧ t ≤ 32) : nextS x y h t 0 0 0 0 0 = (x, y, (h + t) % 256, 0) := by
  rw [nextS_stay (by omega) (by omega) rfl]; simp
theorem next_fwd0 {t f : Int} (ht : 0 ≤ t ∧ t ≤ 32) (hf : 0 ≤ f ∧ f ≤ 12) : nextS 96 96 t (-t) f 0 0 0 0 = (96 + f, 96, 0, 0) := by
  have e : (t + -t + 0) % 256 = 0 := by omega
  by_cases h0 : f = 0
  · subst h0
    rw [nextS_stay (by omega) (by omega) rfl, e]; rfl
  · have d0 : dirV 0 = (1, 0, 1) := by decide +kernel
    rw [nextS_go (dx := f) (dy := 0) (by omega) (by omega) h0 (by rw [e, d0]; simp only; omega) (by rw [e, d0]; simp), if_pos (by omega), e]
    simp
theorem next_fwd1 {t f : Int} (ht : 0 ≤ t ∧ t ≤ 32) (hf : 0 ≤ f ∧ f ≤ 12) : nextS (96 + f) 96 (128 + t) (-t) f 0 0 0 0 = (96, 96, 128, 0) := by
  have e : (128 + t + -t + 0) % 256 = 128 := by omega
  by_cases h0 : f = 0
  · subst h0
    rw [nextS_stay (by omega) (by omega) rfl, e]; rfl
  · have d0 : dirV 128 = (-1, 0, 1) := by decide +kernel
    rw [nextS_go (dx := -f) (dy := 0) (by omega) (by omega) h0 (by rw [e, d0]; simp only; omega) (by rw [e, d0]; simp), if_pos (by omega), e]
    simp only [Prod.mk.injEq, and_true]
    omega
theorem do_turn {x y h t n : Int} (hx : 20 < x ∧ x < 172) (hy : 20 < y ∧ y < 172) (hh : 0 ≤ h ∧ h ≤ 255) (ht : -32 ≤ t ∧ t ≤ 32) : doR (rmR x y h n) (actT t 0) = rmR x y ((h + t) % 256) (n + 1) :=
  (room_do (act_okT ht (by omega)) hx hy (next_turn hx hy hh ht) hx hy).1
theorem exact_run {t f : Int} (ht : 0 ≤ t ∧ t ≤ 32) (hf : 0 ≤ f ∧ f ≤ 12) :
    runE 3 3 roomL 0 0 0 1 96 96 0 (repX t f 2) = 0 ∧ (runP 3 3 roomL 0 0 0 1 96 96 0 (repX t f 2)).length = 12 ∧ (runV 3 3 roomL 0 0 0 1 96 96 0 (repX t f 2)).length = 12 ∧
    (runP 3 3 roomL 0 0 0 1 96 96 0 (repX t f 2)).getD 0 eQ.dflt = ⟨96, 96, t⟩ ∧ (runP 3 3 roomL 0 0 0 1 96 96 0 (repX t f 2)).getD 1 eQ.dflt = ⟨96 + f, 96, 0⟩ ∧ (runP 3 3 roomL 0 0 0 1 96 96 0 (repX t f 2)).getD 11 eQ.dflt = ⟨96, 96, 0⟩ := by
  have hA : repX t f 2 = [actT t 0, actT (-t) f, actT 32 0, actT 32 0, actT 32 0, actT 32 0, actT t 0, actT (-t) f, actT 32 0, actT 32 0, actT 32 0, actT 32 0] := rfl
  have a1 := act_okT (t := t) (f := 0) (by omega) (by omega)
  have a2 := act_okT (t := -t) (f := f) (by omega) (by omega)
  have a3 := act_okT (t := 32) (f := 0) (by omega) (by omega)
  have hE : runE 3 3 roomL 0 0 0 1 96 96 0 (repX t f 2) = 0 := by
    unfold runE
    rw [if_neg (by rw [room_new]; decide), hA]
    simp only [List.all_cons, List.all_nil, a1, a2, a3, Bool.and_self, if_true]
  have hl : (repX t f 2).length = 12 := repX_len t f 2
  have hp := runP_at hE
  have hv := runV_at hE
  rw [hl] at hp hv
  refine ⟨hE, hp.1, hv.1, ?_⟩
  rw [hp.2 0 (by omega), hp.2 1 (by omega), hp.2 11 (by omega), hA]
  have r1 : doR (rob0 3 3 roomL 0 0 0 1 96 96 0) (actT t 0) = rmR 96 96 t 1 := by
    have := do_turn (x := 96) (y := 96) (h := 0) (t := t) (n := 0) (by omega) (by omega) (by omega) (by omega)
    rw [show (0 + t) % 256 = t by omega] at this
    exact this
  have r2 : doR (rmR 96 96 t 1) (actT (-t) f) = rmR (96 + f) 96 0 2 := (room_do a2 (by omega) (by omega) (next_fwd0 ht hf) (by omega) (by omega)).1
  have r3 : doR (rmR (96 + f) 96 0 2) (actT 32 0) = rmR (96 + f) 96 32 3 := do_turn (by omega) (by omega) (by omega) (by omega)
  have r4 : doR (rmR (96 + f) 96 32 3) (actT 32 0) = rmR (96 + f) 96 64 4 := do_turn (by omega) (by omega) (by omega) (by omega)
  have r5 : doR (rmR (96 + f) 96 64 4) (actT 32 0) = rmR (96 + f) 96 96 5 := do_turn (by omega) (by omega) (by omega) (by omega)
  have r6 : doR (rmR (96 + f) 96 96 5) (actT 32 0) = rmR (96 + f) 96 128 6 := do_turn (by omega) (by omega) (by omega) (by omega)
  have r7 : doR (rmR (96 + f) 96 128 6) (actT t 0) = rmR (96 + f) 96 (128 + t) 7 := by
    have := do_turn (x := 96 + f) (y := 96) (h := 128) (t := t) (n := 6) (by omega) (by omega) (by omega) (by omega)
    rw [show (128 + t) % 256 = 128 + t by omega] at this
    exact this
  have r8 : doR (rmR (96 + f) 96 (128 + t) 7) (actT (-t) f) = rmR 96 96 128 8 := (room_do a2 (by omega) (by omega) (next_fwd1 ht hf) (by omega) (by omega)).1
  have r9 : doR (rmR 96 96 128 8) (actT 32 0) = rmR 96 96 160 9 := do_turn (by omega) (by omega) (by omega) (by omega)
  have r10 : doR (rmR 96 96 160 9) (actT 32 0) = rmR 96 96 192 10 := do_turn (by omega) (by omega) (by omega) (by omega)
  have r11 : doR (rmR 96 96 192 10) (actT 32 0) = rmR 96 96 224 11 := do_turn (by omega) (by omega) (by omega) (by omega)
  have r12 : doR (rmR 96 96 224 11) (actT 32 0) = rmR 96 96 0 12 := do_turn (by omega) (by omega) (by omega) (by omega)
  simp only [rbK, List.getD_cons_zero, List.getD_cons_succ, r1, r2, r3, r4, r5, r6, r7, r8, r9, r10, r11, r12]
  exact ⟨rfl, rfl, rfl⟩
/-- Acts that are appended. -/
theorem push_act1 {ents : List (Nat × Sx.Ent)} (t f : Int) (i : Nat) (hi : i < 1) : pushC eAct (lkE ents) ([actT t f].getD i eAct.dflt) (litF [.v (.int .i64 t), .v (.int .i64 f), .v (.int .i64 0), .v (.int .i64 0), .v (.int .i64 0), .v (.int .i64 0), .v (.slice none 0 0), .v (.slice none 0 0)] 8 i) := by
  obtain rfl : i = 0 := by omega
  intro j hj
  have hj : j < 8 := hj
  rcases (by omega : j = 0 ∨ j = 1 ∨ j = 2 ∨ j = 3 ∨ j = 4 ∨ j = 5 ∨ j = 6 ∨ j = 7) with rfl | rfl | rfl | rfl | rfl | rfl | rfl | rfl
  · exact ⟨rfl, trivial⟩
  · exact ⟨rfl, trivial⟩
  · exact ⟨rfl, trivial⟩
  · exact ⟨rfl, trivial⟩
  · exact ⟨rfl, trivial⟩
  · exact ⟨rfl, trivial⟩
  · exact ⟨trivial, mrg1_nil (E := eI)⟩
  · exact ⟨trivial, mrg1_nil (E := eI)⟩
theorem push_act2 {ents : List (Nat × Sx.Ent)} (t f t' f' : Int) (i : Nat) (hi : i < 2) : pushC eAct (lkE ents) ([actT t f, actT t' f'].getD i eAct.dflt) (litF [.v (.int .i64 t), .v (.int .i64 f), .v (.int .i64 0), .v (.int .i64 0), .v (.int .i64 0), .v (.int .i64 0), .v (.slice none 0 0), .v (.slice none 0 0), .v (.int .i64 t'), .v (.int .i64 f'), .v (.int .i64 0), .v (.int .i64 0), .v (.int .i64 0), .v (.int .i64 0), .v (.slice none 0 0), .v (.slice none 0 0)] 8 i) := by
  intro j hj
  have hj : j < 8 := hj
  rcases (by omega : i = 0 ∨ i = 1) with rfl | rfl <;> rcases (by omega : j = 0 ∨ j = 1 ∨ j = 2 ∨ j = 3 ∨ j = 4 ∨ j = 5 ∨ j = 6 ∨ j = 7) with rfl | rfl | rfl | rfl | rfl | rfl | rfl | rfl <;> first | exact ⟨rfl, trivial⟩ | exact ⟨trivial, mrg1_nil (E := eI)⟩
theorem okM_flat {E : Nat → Option Sx.Ent} {cs : List SC} (h : ∀ c ∈ cs, ∃ v, c = .v v) (sz e j : Nat) : okM E (litF cs sz e j) := okM_lit (fun c hc => by obtain ⟨v, rfl⟩ := h c hc; trivial) e j
def x4L0 : XC := (.seq (.seq (.reg false [O1 32 .mv 7, K2 33 (.bin .lss) 32 (iV 4)]) (.cond (.t 33) .skip (.exit 2))) (.seq (.block 3 (.spl 5 (.reg false [O1 36 .mv 5, ⟨(some 37), (.build [(iV 0), (iV 0)] [(0, 1)]), [(.k (iV 32))], none⟩, ⟨(some 38), (.build [(iV 0), (iV 0), (iV 0), (iV 0), (iV 0), (iV 0), (.slice none 0 0), (.slice none 0 0)] [(0, 2)]), [(.t 37)], none⟩, ⟨(some 39), (.slit 49 1 8 [(iV 0), (iV 0), (iV 0), (iV 0), (iV 0), (iV 0), (.slice none 0 0), (.slice none 0 0)] [(0, 8)]), [(.t 38)], none⟩, O2 40 (.app 49 8 96) 36 39, O1 5 .mv 40]))) (.mrg 5 (.reg false [O1 34 .mv 7, K2 35 (.bin .add) 34 (iV 1), O1 7 .mv 35]))))
def x4L1 : XC := (.seq (.seq (.reg false [O1 17 .mv 6, K2 18 (.bin .lss) 17 (iV 2)]) (.cond (.t 18) .skip (.exit 0))) (.seq (.block 1 (.seq (.spl 5 (.reg false [O1 21 .mv 5, O1 22 .mv 0, ⟨(some 23), (.build [(iV 0), (iV 0)] [(0, 1)]), [(.t 22)], none⟩, ⟨(some 24), (.build [(iV 0), (iV 0), (iV 0), (iV 0), (iV 0), (iV 0), (.slice none 0 0), (.slice none 0 0)] [(0, 2)]), [(.t 23)], none⟩, O1 25 .mv 0, O1 26 (.un .neg) 25, O1 27 .mv 1, ⟨(some 28), (.build [(iV 0), (iV 0)] [(0, 1), (1, 1)]), [(.t 26), (.t 27)], none⟩, ⟨(some 29), (.build [(iV 0), (iV 0), (iV 0), (iV 0), (iV 0), (iV 0), (.slice none 0 0), (.slice none 0 0)] [(0, 2)]), [(.t 28)], none⟩, ⟨(some 30), (.slit 49 2 8 [(iV 0), (iV 0), (iV 0), (iV 0), (iV 0), (iV 0), (.slice none 0 0), (.slice none 0 0), (iV 0), (iV 0), (iV 0), (iV 0), (iV 0), (iV 0), (.slice none 0 0), (.slice none 0 0)] [(0, 8), (8, 8)]), [(.t 24), (.t 29)], none⟩, O2 31 (.app 49 8 96) 21 30, O1 5 .mv 31])) (.mrg 5 (.seq (.reg false [K1 7 .mv (iV 0)]) (.block 2 (.loop x4L0)))))) (.reg false [O1 19 .mv 6, K2 20 (.bin .add) 19 (iV 1), O1 6 .mv 20])))
def x4 : XFn := ⟨84, (.seq (.reg false [K1 4 .mv (.bool false)]) (.seq (.seq (.reg false [⟨(some 11), (.call 7), [], none⟩, O1 12 (.un .not) 11]) (.cond (.t 12) (.seq (.reg false [K1 4 .mv (.bool false)]) .ret) .skip)) (.seq (.reg false [O1 13 .mv 0, K2 14 (.call 11) 13 (iV 33), O1 15 .mv 1, K2 16 (.call 11) 15 (iV 13), O1 0 .mv 14, O1 1 .mv 16]) (.seq (.reg false [K1 5 .mv (.slice none 0 0)]) (.seq (.seq (.reg false [K1 6 .mv (iV 0)]) (.block 0 (.loop x4L1))) (.seq (.reg false [⟨(some 42), (.call 12), [], none⟩, ⟨(some 43), (.build [(iV 0), (iV 0), (iV 0), (iV 0)] [(3, 1)]), [(.k (iV 1))], none⟩, ⟨(some 44), (.build [(iV 0), (iV 0), (iV 0)] [(0, 1), (1, 1)]), [(.k (iV 96)), (.k (iV 96))], none⟩, O1 45 .mv 5, ⟨(some 46), (.call 9), [(.t 42), (.t 43), (.t 44), (.t 45)], none⟩, O1 41 .mv 46, O1 47 (.ext 0) 41, O1 48 (.ext 1) 41, O1 49 (.ext 2) 41, O1 8 .mv 47, O1 9 .mv 48, O1 10 .mv 49]) (.seq (.seq (.reg false [O1 50 .mv 10, K2 51 (.bin .neq) 50 (iV 0), O1 52 .mv 51, G1 53 .mv 9 52 false, G1 54 .lenS 53 52 false, GK 55 (.bin .neq) 54 (iV 12) 52 false, ⟨(some 56), .pick, [(.t 52), (.k (.bool true)), (.t 55)], none⟩, O1 57 .mv 56, G1 58 .mv 8 57 false, G1 59 .lenS 58 57 false, GK 60 (.bin .neq) 59 (iV 12) 57 false, ⟨(some 61), .pick, [(.t 57), (.k (.bool true)), (.t 60)], none⟩]) (.cond (.t 61) (.seq (.reg false [K1 4 .mv (.bool false)]) .ret) .skip)) (.seq (.reg false [O1 62 .mv 9, K2 63 (.ixS 3) 62 (iV 1), O1 64 (.loadN 3) 63, O1 65 .mv 1, ⟨(some 66), (.bin .add), [(.k (iV 96)), (.t 65)], none⟩, ⟨(some 67), (.build [(iV 0), (iV 0), (iV 0)] [(0, 1), (1, 1)]), [(.t 66), (.k (iV 96))], none⟩, ⟨(some 68), (.eqA false [(.i .i64), (.i .i64), (.i .i64)]), [(.t 64), (.t 67)], none⟩, O1 69 .mv 68, G1 70 .mv 9 69 true, GK 71 (.ixS 3) 70 (iV 11) 69 true, G1 72 (.loadN 3) 71 69 true, ⟨(some 73), (.build [(iV 0), (iV 0), (iV 0)] [(0, 1), (1, 1)]), [(.k (iV 96)), (.k (iV 96))], (some (69, true))⟩, ⟨(some 74), (.eqA false [(.i .i64), (.i .i64), (.i .i64)]), [(.t 72), (.t 73)], (some (69, true))⟩, ⟨(some 75), .pick, [(.t 69), (.t 74), (.k (.bool false))], none⟩, O1 76 .mv 75, G1 77 .mv 9 76 true, GK 78 (.ixS 3) 77 (iV 0) 76 true, G1 79 (.loadN 3) 78 76 true, G1 80 .mv 0 76 true, ⟨(some 81), (.build [(iV 0), (iV 0), (iV 0)] [(0, 1), (1, 1), (2, 1)]), [(.k (iV 96)), (.k (iV 96)), (.t 80)], (some (76, true))⟩, ⟨(some 82), (.eqA false [(.i .i64), (.i .i64), (.i .i64)]), [(.t 79), (.t 81)], (some (76, true))⟩, ⟨(some 83), .pick, [(.t 76), (.t 82), (.k (.bool false))], none⟩, O1 4 .mv 83]) .ret)))))))), [(.s 4)]⟩
theorem x4_ok : xfn Try.prog Try.f4 = some x4.er := by kernel_rfl
/-- wayfinder/wayfinderlaw12.RobotExact -/
noncomputable def g4 : Con := fun args_ E_ nn_ => match args_ with
  | [.c (.v (.int .i64 turn)), .c (.v (.int .i64 forward))] => some (.q ((-9223372036854775808 ≤ turn ∧ turn ≤ 9223372036854775807) ∧ (-9223372036854775808 ≤ forward ∧ forward ≤ 9223372036854775807)) (.o (.c (.v (.bool (true))))))
  | _ => none
theorem c4 : COk Try.prog 4 g4 := by
  refine cok_q Try.func4 x4_ok (by kernel_rfl) (cok_tab (cok_cons c7 (cok_cons c11 (cok_cons c12 (cok_cons c9 cok_nil))))) ?_
  intro args_ E_ nn_ cr_ hg_
  unfold g4 at hg_
  split at hg_
  · rename_i turn forward
    cases hg_
    refine ⟨_, _, rfl, 0, [], [.c (.v (.int .i64 turn)), .c (.v (.int .i64 forward))], [], .o (.c (.v (.bool (true)))), rfl, rfl, by simp only [push_cast, Nat.reduceLT, Nat.reduceAdd], by simp only [push_cast, Nat.reduceLT, Nat.reduceAdd], by simp only [push_cast, Nat.reduceLT, Nat.reduceAdd], rfl, trivial, rfl, ?_⟩
    intro hpre hlen
    refine ⟨trivial, ?_⟩
    simp (config := {maxSteps := 10000000}) only [x4, push_cast, Nat.reduceAdd, Nat.reduceSub, Nat.reduceLeDiff, Nat.reduceEqDiff, Nat.reduceBEq, Nat.reduceMul, Nat.reduceLT, ↓reduceIte, reduceCtorEq, Int.reduceLE, Int.reduceLT, Int.reduceEq, Int.reduceMul, Int.reduceAdd, Int.reduceSub, Int.reduceNeg, Int.reduceToNat, Int.reduceNe, g7, g11, g12, g9]
    refine ⟨hpre.1, hpre.2, ?_⟩
    have ht : 0 ≤ turn % 33 ∧ turn % 33 ≤ 32 := by omega
    have hf : 0 ≤ forward % 13 ∧ forward % 13 ≤ 12 := by omega
    generalize turn % 33 = t at *
    generalize forward % 13 = f at *
    refine vcLoop_upd (α := {s : Nat × (Nat → Nat → Value) // s.1 ≤ 2}) [0, 1] 1 (fun s => [(5, .o (.c (.n 0))), (6, .o (.c (.v (.int .i64 (s.1.1 : Nat)))))]) (fun s => [(0, .deep (some 49) (repX t f s.1.1).length 8 (deepF eAct (repX t f s.1.1) s.1.2) (deepC eAct (repX t f s.1.1)) [])]) (fun s => 2 - s.1.1) ⟨(0, fun _ _ => .bool false), by omega⟩ ?_ ?_
    · simp only [push_cast, Nat.reduceAdd, Nat.reduceSub, Nat.reduceLeDiff, Nat.reduceEqDiff, Nat.reduceBEq, Nat.reduceMul, Nat.reduceLT, ↓reduceIte, reduceCtorEq, Int.reduceLE, Int.reduceLT, Int.reduceEq, Int.reduceMul, Int.reduceAdd, Int.reduceSub, Int.reduceNeg, Int.reduceToNat, Int.reduceNe, g7, g11, g12, g9]
      rfl
    rintro ⟨⟨i, V⟩, hi⟩
    simp only at hi
    simp only [x4L1, push_cast, Nat.reduceAdd, Nat.reduceSub, Nat.reduceLeDiff, Nat.reduceEqDiff, Nat.reduceBEq, Nat.reduceMul, Nat.reduceLT, ↓reduceIte, reduceCtorEq, Int.reduceLE, Int.reduceLT, Int.reduceEq, Int.reduceMul, Int.reduceAdd, Int.reduceSub, Int.reduceNeg, Int.reduceToNat, Int.reduceNe, g7, g11, g12, g9]
    rw [wrapI (n := -t) (by omega) (by omega)]
    have hl := repX_len t f i
    have hpl := fun k => preX_len t f i k
    refine ⟨fun hlt => ⟨by omega, ⟨by omega, mrgOk_push' rfl fun e j _ _ => okM_flat ?_ 8 e j⟩, fun F' hF => ?_⟩, fun hge => ?_⟩
    · intro c hc
      simp only [List.mem_cons, List.not_mem_nil, or_false] at hc
      rcases hc with rfl | rfl | rfl | rfl | rfl | rfl | rfl | rfl | rfl | rfl | rfl | rfl | rfl | rfl | rfl | rfl <;> exact ⟨_, rfl⟩
    · refine vcLoop_upd (α := {s : Nat × (Nat → Nat → Value) // s.1 ≤ 4}) [0, 1, 6] 1 (fun s => [(5, .o (.c (.n 4))), (7, .o (.c (.v (.int .i64 (s.1.1 : Nat)))))]) (fun s => [(4, .deep (some 49) (preX t f i s.1.1).length 8 (deepF eAct (preX t f i s.1.1) s.1.2) (deepC eAct (preX t f i s.1.1)) [])]) (fun s => 4 - s.1.1) ⟨(0, F'), by omega⟩ ?_ ?_
      · simp only [push_cast, Nat.reduceAdd, Nat.reduceSub, Nat.reduceLeDiff, Nat.reduceEqDiff, Nat.reduceBEq, Nat.reduceMul, Nat.reduceLT, ↓reduceIte, reduceCtorEq, Int.reduceLE, Int.reduceLT, Int.reduceEq, Int.reduceMul, Int.reduceAdd, Int.reduceSub, Int.reduceNeg, Int.reduceToNat, Int.reduceNe, g7, g11, g12, g9]
        exact ⟨by rw [hpl 0], deep_push' (X := [actT t 0, actT (-t) f]) (m := 2) rfl rfl (by simp [preX]) hF (push_act2 t 0 (-t) f)⟩
      rintro ⟨⟨k, V2⟩, hk⟩
      simp only at hk
      simp only [x4L0, push_cast, Nat.reduceAdd, Nat.reduceSub, Nat.reduceLeDiff, Nat.reduceEqDiff, Nat.reduceBEq, Nat.reduceMul, Nat.reduceLT, ↓reduceIte, reduceCtorEq, Int.reduceLE, Int.reduceLT, Int.reduceEq, Int.reduceMul, Int.reduceAdd, Int.reduceSub, Int.reduceNeg, Int.reduceToNat, Int.reduceNe, g7, g11, g12, g9]
      have hpk := hpl k
      refine ⟨fun hlk => ⟨by omega, ⟨by omega, mrgOk_push' rfl fun e j _ _ => okM_flat ?_ 8 e j⟩, fun F2 hF2 => ⟨⟨(k + 1, F2), by omega⟩, ⟨wrapI (by omega) (by omega), by simp only [hpl]; omega, deep_push' (X := [actT 32 0]) (m := 1) rfl rfl (preX_succ t f i k) hF2 (push_act1 32 0)⟩, by simp only; omega⟩⟩, fun hgk => ?_⟩
      · intro c hc
        simp only [List.mem_cons, List.not_mem_nil, or_false] at hc
        rcases hc with rfl | rfl | rfl | rfl | rfl | rfl | rfl | rfl <;> exact ⟨_, rfl⟩
      · obtain rfl : k = 4 := by omega
        refine ⟨⟨(i + 1, V2), by omega⟩, ⟨wrapI (by omega) (by omega), by rw [preX_four], by rw [preX_four]; exact (deepEq_rfl _ _ _ _).2 trivial⟩, by simp only; omega⟩
    obtain rfl : i = 2 := by omega
    obtain ⟨q1, q2, q3, q4, q5, q6⟩ := exact_run ht hf
    rw [wrapI (n := 96 + f) (by omega) (by omega)]
    simp only [q1, q2, q3, q4, q5, q6, hl, push_cast, Nat.reduceAdd, Nat.reduceSub, Nat.reduceLeDiff, Nat.reduceEqDiff, Nat.reduceBEq, Nat.reduceMul, Nat.reduceLT, ↓reduceIte, reduceCtorEq, Int.reduceLE, Int.reduceLT, Int.reduceEq, Int.reduceMul, Int.reduceAdd, Int.reduceSub, Int.reduceNeg, Int.reduceToNat, Int.reduceNe, g7, g11, g12, g9]
    exact room_u8
  · cases hg_
end Go.Proofs.Ytiijdbpncpdmdaa
