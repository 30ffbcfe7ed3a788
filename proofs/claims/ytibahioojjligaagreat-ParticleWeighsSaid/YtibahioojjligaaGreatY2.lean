/- A part of the proof of a statement about this seat: how a function is stepped through, and plain laws. No conditions. -/
import Derived.Test.YtibahioojjligaaGreatRows
import Derived.Test.YtibahioojjligaaGreatSz3
import Derived.Test.YtibahioojjligaaGreatY1
import Derived.KernelRfl
set_option linter.unusedVariables false
set_option linter.unusedSimpArgs false
set_option maxRecDepth 20000
namespace Go.Proofs.YtibahioojjligaaGreat
open Go.Sx Go.Way
def x12 : XFn := ⟨6, (.seq (.reg false [K1 2 .mv (.int .u64 0)]) (.seq (.reg false [O1 3 .mv 0, K2 4 (.bin .mul) 3 (.int .u64 6364136223846793005), K2 5 (.bin .add) 4 (.int .u64 1442695040888963407), O1 2 .mv 5]) .ret)), [(.s 2)]⟩
theorem x12_ok : xfn Tryz.prog Tryz.f12 = some x12.er := by kernel_rfl
def x11 : XFn := ⟨22, (.seq (.reg false [K1 4 .mv (iV 0), K1 5 .mv (.int .u64 0)]) (.seq (.seq (.reg false [O1 6 .mv 1, K2 7 (.bin .lss) 6 (iV 1), O1 8 .mv 7, G1 9 .mv 1 8 false, GK 10 (.bin .gtr) 9 (iV 2147483648) 8 false, ⟨(some 11), .pick, [(.t 8), (.k (.bool true)), (.t 10)], none⟩]) (.cond (.t 11) (.seq (.reg false [O1 12 .mv 0, K1 4 .mv (iV 0), O1 5 .mv 12]) .ret) .skip)) (.seq (.reg false [O1 13 .mv 0, O1 14 (.call 12) 13, O1 0 .mv 14]) (.seq (.reg false [O1 15 .mv 0, K2 16 (.bin .shr) 15 (.int .u64 33), O1 17 .mv 1, O1 18 (.conv .u64) 17, O2 19 (.bin .rem) 16 18, O1 20 (.conv .i64) 19, O1 21 .mv 0, O1 4 .mv 20, O1 5 .mv 21]) .ret)))), [(.s 4), (.s 5)]⟩
theorem x11_ok : xfn Tryz.prog Tryz.f11 = some x11.er := by kernel_rfl
def x25L0 : XC := (.seq (.seq (.reg false [O1 12 .mv 6, K2 13 (.bin .neq) 12 (iV 0)]) (.cond (.t 13) .skip (.exit 0))) (.block 1 (.reg true [O1 14 .mv 6, O1 15 .mv 5, O1 16 .mv 6, O2 17 (.bin .rem) 15 16, O1 5 .mv 14, O1 6 .mv 17])))
def x25 : XFn := ⟨25, (.seq (.reg false [⟨(some 4), (.alloc 42 [(iV 0), (iV 0)]), [], none⟩]) (.seq (.reg false [O1 7 .mv 0, O1 8 .mv 0, O1 9 (.un .neg) 8, O2 10 .maxI 7 9, O1 11 .mv 1, O1 5 .mv 10, O1 6 .mv 11]) (.seq (.block 0 (.loop x25L0)) (.seq (.regD [O1 18 .mv 0, O1 19 .mv 5, O2 20 (.bin .quo) 18 19, O1 21 .mv 1, O1 22 .mv 5, O2 23 (.bin .quo) 21 22, ⟨(some 24), (.build [(iV 0), (iV 0)] [(0, 1), (1, 1)]), [(.t 20), (.t 23)], none⟩, ⟨none, (.store 2), [(.t 4), (.t 24)], none⟩] [[], [], [0, 1], [], [], [3, 4], [2, 0, 1, 5, 3, 4], [6, 2, 0, 1, 5, 3, 4]]) .ret)))), [(.bn 4 2)]⟩
theorem x25_ok : xfn Tryz.prog Tryz.f25 = some x25.er := by kernel_rfl
def x24 : XFn := ⟨13, (.seq (.reg false [K1 2 .mv (iV 0), K1 3 .mv (iV 0)]) (.seq (.seq (.reg false [O1 5 .mv 0, O1 6 (.call 13) 5, O1 7 (.un .not) 6]) (.cond (.t 7) (.seq (.reg false [K1 2 .mv (iV 0), K1 3 .mv (iV 1)]) .ret) .skip)) (.seq (.reg false [O1 8 .mv 0, O1 9 (.call 23) 8, O1 4 .mv 9]) (.seq (.seq (.reg false [O1 10 .mv 4, K2 11 (.bin .eql) 10 (iV 0)]) (.cond (.t 11) (.seq (.reg false [K1 2 .mv (iV 0), K1 3 .mv (iV 9)]) .ret) .skip)) (.seq (.reg false [O1 12 .mv 4, O1 2 .mv 12, K1 3 .mv (iV 0)]) .ret))))), [(.s 2), (.s 3)]⟩
theorem x24_ok : xfn Tryz.prog Tryz.f24 = some x24.er := by kernel_rfl
def x10L0 : XC := (.seq (.reg false [O2 21 (.bin .lss) 20 19]) (.seq (.cond (.t 21) .skip (.exit 0)) (.seq (.block 1 (.seq (.reg false [O2 22 (.ixS 4) 18 20, O1 23 (.loadN 4) 22, ⟨(some 8), (.alloc 39 [(iV 0), (iV 0), (iV 0), (iV 0)]), [], none⟩, ⟨none, (.store 4), [(.t 8), (.t 23)], none⟩]) (.reg false [O1 24 .mv 6, O1 25 (.fld 3) 8, O1 26 .load1 25, O1 27 (.fld 3) 8, O1 28 .load1 27, O2 29 (.bin .mul) 26 28, O2 30 (.bin .add) 24 29, O1 6 .mv 30]))) (.reg false [K2 31 (.bin .add) 20 (iV 1), O1 20 .mv 31]))))
def x10 : XFn := ⟨37, (.seq (.reg false [⟨(some 2), (.alloc 42 [(iV 0), (iV 0)]), [], none⟩, K1 3 .mv (iV 0)]) (.seq (.reg false [O1 10 .mv 0, O1 11 (.call 24) 10, O1 9 .mv 11, O1 12 (.ext 0) 9, O1 13 (.ext 1) 9, O1 4 .mv 12, O1 5 .mv 13]) (.seq (.seq (.reg false [O1 14 .mv 5, K2 15 (.bin .neq) 14 (iV 0)]) (.cond (.t 15) (.seq (.reg false [⟨(some 16), (.build [(iV 0), (iV 0)] []), [], none⟩, O1 17 .mv 5, ⟨none, (.store 2), [(.t 2), (.t 16)], none⟩, O1 3 .mv 17]) .ret) .skip)) (.seq (.reg false [K1 6 .mv (iV 0)]) (.seq (.seq (.reg false [O1 18 .mv 0, O1 19 .lenS 18, K1 20 .mv (iV 0)]) (.block 0 (.loop x10L0))) (.seq (.reg false [O1 32 .mv 4, O1 33 .mv 4, O2 34 (.bin .mul) 32 33, O1 35 .mv 6, O2 36 (.call 25) 34 35, ⟨none, (.store 2), [(.t 2), (.t 36)], none⟩, K1 3 .mv (iV 0)]) .ret)))))), [(.bn 2 2), (.s 3)]⟩
theorem x10_ok : xfn Tryz.prog Tryz.f10 = some x10.er := by kernel_rfl
/-- wayfinder/particle.Total -/
def g23 : Con := fun args_ E_ nn_ => match args_ with
  | [.c (.n l)] => (match rowOf E_ l with
    | some (l_n, l_s, l_f) => some (.q (isRow eP l_n l_s l_f ∧ True) (.o (.c (.v (.int .i64 (totalL (decL eP l_n l_f)))))))
    | none => none)
  | _ => none
theorem c23 : COk Tryz.prog 23 g23 := by
  refine cok_q Tryz.func23 x23_ok (by kernel_rfl) (cok_tab (cok_cons c13 cok_nil)) ?_
  intro args_ E_ nn_ cr_ hg_
  unfold g23 at hg_
  split at hg_
  · rename_i l
    split at hg_
    · rename_i l_n l_s l_f h_l
      cases hg_
      refine ⟨_, _, rfl, 1, [l], [.c (.n 0)], [(0, .ro (decL eP l_n l_f).length eP.sz (rowF eP (decL eP l_n l_f)))], .o (.c (.v (.int .i64 (totalL (decL eP l_n l_f))))), rfl, rfl, by simp only [push_cast, Nat.reduceLT, Nat.reduceAdd], by simp only [push_cast, Nat.reduceLT, Nat.reduceAdd], by simp only [push_cast, Nat.reduceLT, Nat.reduceAdd], rfl, ⟨inE0_row h_l, trivial⟩, rfl, ?_⟩
      intro hpre hlen
      obtain ⟨i_l, hpre⟩ := hpre
      refine ⟨⟨inE_row h_l i_l, trivial⟩, ?_⟩
      have z_l := lens_row (E := eP) hlen h_l
      clear i_l
      generalize decL eP l_n l_f = lL at *
      clear h_l
      simp (config := {maxSteps := 10000000}) only [x23, push_cast, Nat.reduceAdd, Nat.reduceSub, Nat.reduceLeDiff, Nat.reduceEqDiff, Nat.reduceBEq, Nat.reduceMul, Nat.reduceLT, reduceIte, reduceCtorEq, Int.reduceLE, Int.reduceLT, Int.reduceEq, Int.reduceMul, Int.reduceAdd, Int.reduceSub, Int.reduceNeg, Int.reduceToNat, Int.reduceNe, g13]
      unfold totalL
      refine ⟨fun hv => by rw [hv]; rfl, fun hv => ?_⟩
      refine vcLoop_upd (α := {k : Nat // k ≤ lL.length}) [9, 10] 0 (fun s => [(3, .o (.c (.v (.int .i64 (pre lL s.1))))), (11, .o (.c (.v (.int .i64 (s.1 : Nat)))))]) (fun s => []) (fun s => lL.length - s.1) ⟨0, by omega⟩ ?_ ?_
      · simp only [push_cast, Nat.reduceAdd, Nat.reduceSub, Nat.reduceLeDiff, Nat.reduceEqDiff, Nat.reduceBEq, Nat.reduceMul, Nat.reduceLT, reduceIte, reduceCtorEq, Int.reduceLE, Int.reduceLT, Int.reduceEq, Int.reduceMul, Int.reduceAdd, Int.reduceSub, Int.reduceNeg, Int.reduceToNat, Int.reduceNe, g13, pre_zero]
      · rintro ⟨k, hk⟩
        simp only [x23L0, push_cast, Nat.reduceAdd, Nat.reduceSub, Nat.reduceLeDiff, Nat.reduceEqDiff, Nat.reduceBEq, Nat.reduceMul, Nat.reduceLT, reduceIte, reduceCtorEq, Int.reduceLE, Int.reduceLT, Int.reduceEq, Int.reduceMul, Int.reduceAdd, Int.reduceSub, Int.reduceNeg, Int.reduceToNat, Int.reduceNe, g13]
        refine ⟨fun hlt => ?_, fun hn => ?_⟩
        · have hb := pre_bd hv (k := k + 1) (by omega)
          rw [pre_succ hlt] at hb
          have hl := valid_len hv
          rw [wrapI (n := (k : Int) + 1) (by omega) (by omega), wrapI (n := pre lL k + (lL.getD k eP.dflt).W) (by omega) (by omega)]
          exact ⟨hlt, hlt, ⟨⟨k + 1, by omega⟩, ⟨(pre_succ hlt).symm, rfl⟩, by simp only; omega⟩⟩
        · have : k = lL.length := by omega
          subst this
          rw [if_pos hv, pre_all]
    · cases hg_
  · cases hg_
/-- wayfinder/particle.Next -/
def g12 : Con := fun args_ E_ nn_ => match args_ with
  | [.c (.v (.int .u64 s))] => some (.q (True) (.o (.c (.v (.int .u64 (pnextS s))))))
  | _ => none
theorem c12 : COk Tryz.prog 12 g12 := by
  refine cok_q Tryz.func12 x12_ok (by kernel_rfl) (cok_tab cok_nil) ?_
  intro args_ E_ nn_ cr_ hg_
  unfold g12 at hg_
  split at hg_
  · rename_i s
    cases hg_
    refine ⟨_, _, rfl, 0, [], [.c (.v (.int .u64 s))], [], .o (.c (.v (.int .u64 (pnextS s)))), rfl, rfl, by simp only [push_cast, Nat.reduceLT, Nat.reduceAdd], by simp only [push_cast, Nat.reduceLT, Nat.reduceAdd], by simp only [push_cast, Nat.reduceLT, Nat.reduceAdd], rfl, trivial, rfl, ?_⟩
    intro hpre hlen
    refine ⟨trivial, ?_⟩
    simp (config := {maxSteps := 10000000}) only [x12, push_cast, Nat.reduceAdd, Nat.reduceSub, Nat.reduceLeDiff, Nat.reduceEqDiff, Nat.reduceBEq, Nat.reduceMul, Nat.reduceLT, reduceIte, reduceCtorEq, Int.reduceLE, Int.reduceLT, Int.reduceEq, Int.reduceMul, Int.reduceAdd, Int.reduceSub, Int.reduceNeg, Int.reduceToNat, Int.reduceNe]
    rw [u64_wrap, u64_wrap]
    unfold pnextS
    omega
  · cases hg_
/-- wayfinder/particle.Draw -/
def g11 : Con := fun args_ E_ nn_ => match args_ with
  | [.c (.v (.int .u64 s)), .c (.v (.int .i64 n))] => some (.q (True) (.t [.c (.v (.int .i64 ((drawS s n).1))), .c (.v (.int .u64 ((drawS s n).2)))]))
  | _ => none
theorem c11 : COk Tryz.prog 11 g11 := by
  refine cok_q Tryz.func11 x11_ok (by kernel_rfl) (cok_tab (cok_cons c12 cok_nil)) ?_
  intro args_ E_ nn_ cr_ hg_
  unfold g11 at hg_
  split at hg_
  · rename_i s n
    cases hg_
    refine ⟨_, _, rfl, 0, [], [.c (.v (.int .u64 s)), .c (.v (.int .i64 n))], [], .t [.c (.v (.int .i64 ((drawS s n).1))), .c (.v (.int .u64 ((drawS s n).2)))], rfl, rfl, by simp only [push_cast, Nat.reduceLT, Nat.reduceAdd], by simp only [push_cast, Nat.reduceLT, Nat.reduceAdd], by simp only [push_cast, Nat.reduceLT, Nat.reduceAdd], rfl, trivial, rfl, ?_⟩
    intro hpre hlen
    refine ⟨trivial, ?_⟩
    simp (config := {maxSteps := 10000000}) only [x11, push_cast, Nat.reduceAdd, Nat.reduceSub, Nat.reduceLeDiff, Nat.reduceEqDiff, Nat.reduceBEq, Nat.reduceMul, Nat.reduceLT, reduceIte, reduceCtorEq, Int.reduceLE, Int.reduceLT, Int.reduceEq, Int.reduceMul, Int.reduceAdd, Int.reduceSub, Int.reduceNeg, Int.reduceToNat, Int.reduceNe, g12]
    unfold drawS
    refine ⟨fun h => by rw [if_pos h]; exact ⟨rfl, rfl⟩, fun h g => ?_⟩
    rw [if_neg (by omega)]
    have hb := nextS_bd s
    have hu : IntKind.u64.wrap n = n := by rw [u64_wrap]; omega
    have h33 : (pnextS s).fdiv (2 ^ min 33 IntKind.u64.bits) = pnextS s / 8589934592 := by
      rw [Int.fdiv_eq_ediv_of_nonneg _ (by decide)]
      rfl
    rw [hu, h33, tmod_pos (by omega)]
    have hm := emod_range (a := pnextS s / 8589934592) (b := n) (by omega)
    exact ⟨by omega, by simp only; rw [wrapI (by omega) (by omega)], rfl⟩
  · cases hg_
/-- wayfinder/particle.lowest -/
def g25 : Con := fun args_ E_ nn_ => match args_ with
  | [.c (.v (.int .i64 n)), .c (.v (.int .i64 d))] => some (.q (-4611686018427387904 ≤ n ∧ n ≤ 4611686018427387904 ∧ 0 < d ∧ d ≤ 4611686018427387904) (.o (.a [.v (.int .i64 (plowF n d).1), .v (.int .i64 (plowF n d).2)])))
  | _ => none
theorem c25 : COk Tryz.prog 25 g25 := by
  refine cok_q Tryz.func25 x25_ok (by kernel_rfl) (cok_tab cok_nil) ?_
  intro args_ E_ nn_ cr_ hg_
  unfold g25 at hg_
  split at hg_
  · rename_i n d
    cases hg_
    refine ⟨_, _, rfl, 0, [], [.c (.v (.int .i64 n)), .c (.v (.int .i64 d))], [], .o (.a [.v (.int .i64 (plowF n d).1), .v (.int .i64 (plowF n d).2)]), rfl, rfl, by simp only [push_cast, Nat.reduceLT, Nat.reduceAdd], by simp only [push_cast, Nat.reduceLT, Nat.reduceAdd], by simp only [push_cast, Nat.reduceLT, Nat.reduceAdd], rfl, trivial, rfl, ?_⟩
    intro hpre hlen
    refine ⟨trivial, ?_⟩
    obtain ⟨n1, n2, d1, d2⟩ := hpre
    simp (config := {maxSteps := 10000000}) only [x25, push_cast, Nat.reduceAdd, Nat.reduceSub, Nat.reduceLeDiff, Nat.reduceEqDiff, Nat.reduceBEq, Nat.reduceMul, Nat.reduceLT, reduceIte, reduceCtorEq, Int.reduceLE, Int.reduceLT, Int.reduceEq, Int.reduceMul, Int.reduceAdd, Int.reduceSub, Int.reduceNeg, Int.reduceToNat, Int.reduceNe]
    refine vcLoop_upd (α := {p : Int × Int // 0 ≤ p.1 ∧ 0 ≤ p.2 ∧ p.1 ≤ 4611686018427387904 ∧ p.2 ≤ 4611686018427387904 ∧ Int.gcd p.1 p.2 = Int.gcd n d}) [0, 1, 4] 0 (fun s => [(5, .o (.c (.v (.int .i64 (s.1.1))))), (6, .o (.c (.v (.int .i64 (s.1.2)))))]) (fun s => []) (fun s => s.1.2.toNat) ⟨(max n (-n), d), by simp only; omega, by simp only; omega, by simp only; omega, by simp only; omega, gcd_max n d⟩ ?_ ?_
    · simp only [push_cast, Nat.reduceAdd, Nat.reduceSub, Nat.reduceLeDiff, Nat.reduceEqDiff, Nat.reduceBEq, Nat.reduceMul, Nat.reduceLT, reduceIte, reduceCtorEq, Int.reduceLE, Int.reduceLT, Int.reduceEq, Int.reduceMul, Int.reduceAdd, Int.reduceSub, Int.reduceNeg, Int.reduceToNat, Int.reduceNe]
      rw [wrapI (by omega) (by omega)]
    · rintro ⟨⟨x, y⟩, h1, h2, h3, h4, h5⟩
      simp only at h1 h2 h3 h4 h5
      simp only [x25L0, push_cast, Nat.reduceAdd, Nat.reduceSub, Nat.reduceLeDiff, Nat.reduceEqDiff, Nat.reduceBEq, Nat.reduceMul, Nat.reduceLT, reduceIte, reduceCtorEq, Int.reduceLE, Int.reduceLT, Int.reduceEq, Int.reduceMul, Int.reduceAdd, Int.reduceSub, Int.reduceNeg, Int.reduceToNat, Int.reduceNe]
      refine ⟨fun hy => ⟨hy, ?_⟩, fun hy => ?_⟩
      · have hm := emod_range (a := x) (b := y) (by omega)
        have ht := tmod_pos (a := x) (b := y) h1
        exact ⟨⟨(y, x.tmod y), by simp only; omega, by simp only; omega, by simp only; omega, by simp only; omega, by simp only; rw [pgcd_tmod h1, h5]⟩, ⟨rfl, rfl⟩, by simp only; omega⟩
      · subst hy
        have hx : x = (Int.gcd n d : Int) := by rw [← h5, Int.gcd_zero_right]; omega
        have hgd : (Int.gcd n d : Int) ∣ d := Int.gcd_dvd_right _ _
        have hgn : (Int.gcd n d : Int) ∣ n := Int.gcd_dvd_left _ _
        have hpos : (0 : Int) < (Int.gcd n d : Int) := by
          have : Int.gcd n d ≠ 0 := fun h => by rw [Int.gcd_eq_zero_iff] at h; omega
          omega
        rw [hx, ptdiv_dvd hpos hgd, ptdiv_dvd hpos hgn]
        have b1 := pdiv_bd hpos n1 n2 (by omega)
        have b2 := pdiv_bd (a := d) (B := 4611686018427387904) hpos (by omega) d2 (by omega)
        rw [wrapI (by omega) (by omega), wrapI (by omega) (by omega)]
        exact ⟨by omega, by omega, rfl, rfl, rfl⟩
  · cases hg_
/-- wayfinder/particle.measured -/
def g24 : Con := fun args_ E_ nn_ => match args_ with
  | [.c (.n l)] => (match rowOf E_ l with
    | some (l_n, l_s, l_f) => some (.q (isRow eP l_n l_s l_f ∧ True) (.t [.c (.v (.int .i64 (if pmeasE (decL eP l_n l_f) = 0 then sumW (decL eP l_n l_f) else 0))), .c (.v (.int .i64 (pmeasE (decL eP l_n l_f))))]))
    | none => none)
  | _ => none
theorem c24 : COk Tryz.prog 24 g24 := by
  refine cok_q Tryz.func24 x24_ok (by kernel_rfl) (cok_tab (cok_cons c13 (cok_cons c23 cok_nil))) ?_
  intro args_ E_ nn_ cr_ hg_
  unfold g24 at hg_
  split at hg_
  · rename_i l
    split at hg_
    · rename_i l_n l_s l_f h_l
      cases hg_
      refine ⟨_, _, rfl, 1, [l], [.c (.n 0)], [(0, .ro (decL eP l_n l_f).length eP.sz (rowF eP (decL eP l_n l_f)))], .t [.c (.v (.int .i64 (if pmeasE (decL eP l_n l_f) = 0 then sumW (decL eP l_n l_f) else 0))), .c (.v (.int .i64 (pmeasE (decL eP l_n l_f))))], rfl, rfl, by simp only [push_cast, Nat.reduceLT, Nat.reduceAdd], by simp only [push_cast, Nat.reduceLT, Nat.reduceAdd], by simp only [push_cast, Nat.reduceLT, Nat.reduceAdd], rfl, ⟨inE0_row h_l, trivial⟩, rfl, ?_⟩
      intro hpre hlen
      obtain ⟨i_l, hpre⟩ := hpre
      refine ⟨⟨inE_row h_l i_l, trivial⟩, ?_⟩
      have z_l := lens_row (E := eP) hlen h_l
      clear i_l
      generalize decL eP l_n l_f = lL at *
      clear h_l
      simp (config := {maxSteps := 10000000}) only [x24, push_cast, Nat.reduceAdd, Nat.reduceSub, Nat.reduceLeDiff, Nat.reduceEqDiff, Nat.reduceBEq, Nat.reduceMul, Nat.reduceLT, reduceIte, reduceCtorEq, Int.reduceLE, Int.reduceLT, Int.reduceEq, Int.reduceMul, Int.reduceAdd, Int.reduceSub, Int.reduceNeg, Int.reduceToNat, Int.reduceNe, g13, g23]
      unfold pmeasE totalL
      refine ⟨fun h => by rw [h]; simp, fun h => ?_⟩
      rw [h]
      simp only [if_true]
      refine ⟨fun h2 => by rw [h2]; simp, fun h2 => by simp [h2]⟩
    · cases hg_
  · cases hg_
/-- wayfinder/particle.Effective -/
def g10 : Con := fun args_ E_ nn_ => match args_ with
  | [.c (.n l)] => (match rowOf E_ l with
    | some (l_n, l_s, l_f) => some (.q (isRow eP l_n l_s l_f ∧ True) (.t [.a [.v (.int .i64 (effF (decL eP l_n l_f)).1.1), .v (.int .i64 (effF (decL eP l_n l_f)).1.2)], .c (.v (.int .i64 ((effF (decL eP l_n l_f)).2)))]))
    | none => none)
  | _ => none
theorem c10 : COk Tryz.prog 10 g10 := by
  refine cok_q Tryz.func10 x10_ok (by kernel_rfl) (cok_tab (cok_cons c24 (cok_cons c25 cok_nil))) ?_
  intro args_ E_ nn_ cr_ hg_
  unfold g10 at hg_
  split at hg_
  · rename_i l
    split at hg_
    · rename_i l_n l_s l_f h_l
      cases hg_
      refine ⟨_, _, rfl, 1, [l], [.c (.n 0)], [(0, .ro (decL eP l_n l_f).length eP.sz (rowF eP (decL eP l_n l_f)))], .t [.a [.v (.int .i64 (effF (decL eP l_n l_f)).1.1), .v (.int .i64 (effF (decL eP l_n l_f)).1.2)], .c (.v (.int .i64 ((effF (decL eP l_n l_f)).2)))], rfl, rfl, by simp only [push_cast, Nat.reduceLT, Nat.reduceAdd], by simp only [push_cast, Nat.reduceLT, Nat.reduceAdd], by simp only [push_cast, Nat.reduceLT, Nat.reduceAdd], rfl, ⟨inE0_row h_l, trivial⟩, rfl, ?_⟩
      intro hpre hlen
      obtain ⟨i_l, hpre⟩ := hpre
      refine ⟨⟨inE_row h_l i_l, trivial⟩, ?_⟩
      have z_l := lens_row (E := eP) hlen h_l
      clear i_l
      generalize decL eP l_n l_f = lL at *
      clear h_l
      simp (config := {maxSteps := 10000000}) only [x10, push_cast, Nat.reduceAdd, Nat.reduceSub, Nat.reduceLeDiff, Nat.reduceEqDiff, Nat.reduceBEq, Nat.reduceMul, Nat.reduceLT, reduceIte, reduceCtorEq, Int.reduceLE, Int.reduceLT, Int.reduceEq, Int.reduceMul, Int.reduceAdd, Int.reduceSub, Int.reduceNeg, Int.reduceToNat, Int.reduceNe, g24, g25]
      refine ⟨fun h => by unfold effF; rw [if_neg h]; exact ⟨⟨rfl, rfl⟩, rfl⟩, fun h => ?_⟩
      obtain ⟨hv, h0, htt⟩ := pmeas0 h
      have hs := sum_bd hv
      have hl := valid_len hv
      refine vcLoop_upd (α := {k : Nat // k ≤ lL.length}) [2, 4, 18, 19] 0 (fun s => [(6, .o (.c (.v (.int .i64 (preS lL s.1))))), (20, .o (.c (.v (.int .i64 (s.1 : Nat)))))]) (fun s => []) (fun s => lL.length - s.1) ⟨0, by omega⟩ ?_ ?_
      · simp only [push_cast, Nat.reduceAdd, Nat.reduceSub, Nat.reduceLeDiff, Nat.reduceEqDiff, Nat.reduceBEq, Nat.reduceMul, Nat.reduceLT, reduceIte, reduceCtorEq, Int.reduceLE, Int.reduceLT, Int.reduceEq, Int.reduceMul, Int.reduceAdd, Int.reduceSub, Int.reduceNeg, Int.reduceToNat, Int.reduceNe, g24, g25, preS_zero]
      · rintro ⟨k, hk⟩
        simp only [x10L0, push_cast, Nat.reduceAdd, Nat.reduceSub, Nat.reduceLeDiff, Nat.reduceEqDiff, Nat.reduceBEq, Nat.reduceMul, Nat.reduceLT, reduceIte, reduceCtorEq, Int.reduceLE, Int.reduceLT, Int.reduceEq, Int.reduceMul, Int.reduceAdd, Int.reduceSub, Int.reduceNeg, Int.reduceToNat, Int.reduceNe, g24, g25]
        refine ⟨fun hlt => ?_, fun hn => ?_⟩
        · have hw := (valid_at hv hlt).2
          have hq := sq_bd hw.1 hw.2
          have hb := preS_bd hv (k := k) hk
          rw [wrapI (n := (k : Int) + 1) (by omega) (by omega), wrapI (n := (lL.getD k eP.dflt).W * (lL.getD k eP.dflt).W) (by omega) (by omega), wrapI (n := preS lL k + (lL.getD k eP.dflt).W * (lL.getD k eP.dflt).W) (by omega) (by omega)]
          exact ⟨hlt, hlt, ⟨⟨k + 1, by omega⟩, ⟨(preS_succ lL k).symm, rfl⟩, by simp only; omega⟩⟩
        · obtain rfl : k = lL.length := by omega
          have hb := preS_bd hv (k := lL.length) (Nat.le_refl _)
          have hpos := hb.2.2 (by have : pre lL lL.length = sumW lL := rfl; omega)
          have hsq := mul_bd hs.1 hs.2 hs.1 hs.2
          rw [if_pos h, wrapI (n := sumW lL * sumW lL) (by omega) (by omega)]
          unfold effF
          rw [if_pos h]
          exact ⟨⟨by omega, by omega, hpos, by omega⟩, ⟨rfl, rfl⟩, rfl⟩
    · cases hg_
  · cases hg_
end Go.Proofs.YtibahioojjligaaGreat
set_option linter.unusedVariables false
set_option linter.unusedSimpArgs false
set_option maxRecDepth 20000
namespace Go.Proofs.YtibahioojjligaaGreat
open Go.Sx Go.Way
def bestP (L : List PP) : Nat → PP
  | 0 => L.getD 0 eP.dflt
  | k + 1 => if (bestP L k).W < (L.getD k eP.dflt).W then L.getD k eP.dflt else bestP L k
theorem bestP_zero (L : List PP) : bestP L 0 = L.getD 0 eP.dflt := rfl
theorem bestP_one (L : List PP) : bestP L 1 = L.getD 0 eP.dflt := by simp [bestP]
theorem bestP_t {L : List PP} {k : Nat} (h : (bestP L k).W < (L.getD k eP.dflt).W) : bestP L (k + 1) = L.getD k eP.dflt := by simp only [bestP, h, if_true]
theorem bestP_f {L : List PP} {k : Nat} (h : ¬ (bestP L k).W < (L.getD k eP.dflt).W) : bestP L (k + 1) = bestP L k := by simp only [bestP, h, if_false]
def bestB (L : List PP) : Bool := validL L && decide (L.length ≠ 0)
def pbestF (L : List PP) : PP := if bestB L = true then bestP L L.length else eP.dflt
/-! A list that is weighed with the scan of the first one's pose. -/
theorem cntS_all {W H : Int} {L : List Int} {x y h rng : Int} {S : List CC} (k : (S.all fun c => plausB W H L x y h c.X c.Y rng) = true) : ∀ n, n ≤ S.length → cntS W H L x y h rng S n = n
  | 0, _ => rfl
  | n + 1, hn => by
    have e := cntS_all k n (by omega)
    rw [List.all_eq_true] at k
    have hg : S.getD n eC.dflt = S[n] := by rw [List.getD_eq_getElem?_getD, List.getElem?_eq_getElem (by omega)]; rfl
    have := k _ (List.getElem_mem (show n < S.length by omega))
    rw [← hg] at this
    unfold cntS
    rw [if_pos this, e]
    omega
theorem bestP_ge (L : List PP) : ∀ k, (L.getD 0 eP.dflt).W ≤ (bestP L k).W
  | 0 => Int.le_refl _
  | k + 1 => by
    have := bestP_ge L k
    simp only [bestP]
    split <;> omega
theorem bestP_le {L : List PP} {B : Int} (h : ∀ i, i < L.length → (L.getD i eP.dflt).W ≤ B) (h0 : 0 < L.length) : ∀ k, k ≤ L.length → (bestP L k).W ≤ B
  | 0, _ => h 0 h0
  | k + 1, hk => by
    have := bestP_le h h0 k (by omega)
    have := h k (by omega)
    simp only [bestP]
    split <;> omega
theorem wghR_all (W H : Int) (L : List Int) (rng : Int) (S : List CC) (A : List PP) : wghR W H L rng S A A.length = A.map (wghP W H L rng S) := by
  apply List.ext_getElem
  · simp [wghR]
  · intro i h1 h2
    simp only [wghR, List.getElem_map, List.getElem_range]
    have hi : i < A.length := by simpa using h2
    rw [if_pos hi, List.getD_eq_getElem?_getD, List.getElem?_eq_getElem hi]; rfl
theorem wghW_bd {W H : Int} {L : List Int} {rng : Int} {S : List CC} (hS : S.length ≤ 32) (p : PP) : 0 ≤ wghW W H L rng S p ∧ wghW W H L rng S p ≤ (1 + S.length) * (1 + S.length) ∧ wghW W H L rng S p ≤ 1089 := by
  have hc := cntS_bd W H L p.X p.Y p.H rng S S.length
  have h2 := mul_bd (a := 1 + cntS W H L p.X p.Y p.H rng S S.length) (b := 1 + cntS W H L p.X p.Y p.H rng S S.length) (A := 1 + S.length) (B := 1 + S.length) (by omega) (by omega) (by omega) (by omega)
  have h3 := mul_bd (a := (1 : Int) + S.length) (b := 1 + S.length) (A := 33) (B := 33) (by omega) (by omega) (by omega) (by omega)
  unfold wghW
  split <;> omega
theorem posed_w {W H : Int} {L : List Int} {rng : Int} {S : List CC} (hS : S.length ≤ 32) {A : List PP} (hv : validL A = true) : validL (A.map (wghP W H L rng S)) = true := by
  unfold validL at hv ⊢
  rw [Bool.and_eq_true, decide_eq_true_eq, Bool.not_eq_true', List.any_eq_false] at hv
  rw [List.length_map, decide_eq_true hv.1, Bool.true_and, Bool.not_eq_true', List.any_eq_false]
  intro q hq
  obtain ⟨p, hp, hpq⟩ := List.mem_map.1 hq
  subst hpq
  have := hv.2 p hp
  have hb := wghW_bd (W := W) (H := H) (L := L) (rng := rng) hS p
  unfold wrongP at this ⊢
  simp only [Bool.not_eq_true, Bool.not_eq_false', Bool.and_eq_true, decide_eq_true_eq] at this
  have hg : (posedB p.X p.Y p.H && decide (0 ≤ wghW W H L rng S p ∧ wghW W H L rng S p ≤ 1048576)) = true := by
    rw [this.1, decide_eq_true (by omega)]; rfl
  intro hn
  have hn2 : (!(posedB p.X p.Y p.H && decide (0 ≤ wghW W H L rng S p ∧ wghW W H L rng S p ≤ 1048576))) = true := hn
  rw [hg] at hn2
  cases hn2
theorem scan_ok {W H : Int} {L : List Int} {x y h rng : Int} {M : List Int} (k : swpE W H L x y h rng M = 0) : scanB (swpL W H L x y h rng M []) = true ∧ (swpL W H L x y h rng M []).length = M.length := by
  have hm : ¬ 32 < M.length := by intro q; unfold swpE at k; rw [if_pos q] at k; cases k
  have h0 : swE1 W H L x y h rng M M.length = 0 := by unfold swpE at k; rwa [if_neg hm] at k
  have z := (swp_good (R := []) hm h0).2
  have l : (swpL W H L x y h rng M []).length = M.length := by rw [z, swV_len]
  refine ⟨?_, l⟩
  have ha := sweep_plaus (R := []) k
  unfold allB at ha
  rw [Bool.and_eq_true, List.all_eq_true] at ha
  unfold scanB
  rw [ha.2, Bool.true_and, List.all_eq_true]
  intro c hc
  have := ha.1 c hc
  unfold plausB at this
  simp only [Bool.and_eq_true] at this
  exact this.1.1.2
/-- What the law asks of the weighed list. -/
theorem truth_law {W H : Int} {L : List Int} {x y h rng : Int} {M : List Int} (k : swpE W H L x y h rng M = 0) (A : List PP)
    (e : wghE W H L rng (swpL W H L x y h rng M []) (⟨x, y, h, 0⟩ :: A) = 0) :
    let m := wghL W H L rng (swpL W H L x y h rng M []) (⟨x, y, h, 0⟩ :: A)
    m.length = A.length + 1 ∧ bestB m = true ∧ ((m.getD 0 eP.dflt).W = 0 ∨ (m.getD 0 eP.dflt).W = (pbestF m).W ∧ (m.getD 0 eP.dflt).W = (1 + (M.length : Int)) * (1 + (M.length : Int))) := by
  obtain ⟨s1, s2⟩ := scan_ok k
  have s3 : (swpL W H L x y h rng M []).length ≤ 32 := by
    unfold scanB at s1
    simp only [Bool.and_eq_true, decide_eq_true_eq] at s1
    exact s1.1
  have ha := sweep_plaus (R := []) k
  unfold allB at ha
  rw [Bool.and_eq_true] at ha
  have hc := cntS_all ha.1 _ (Nat.le_refl _)
  generalize swpL W H L x y h rng M [] = S at *
  intro m
  have hv : validL (⟨x, y, h, 0⟩ :: A) = true := by
    unfold wghE at e
    split at e
    · rename_i g; exact g.1
    · cases e
  have em : m = (⟨x, y, h, 0⟩ :: A).map (wghP W H L rng S) := by
    show wghL W H L rng S (⟨x, y, h, 0⟩ :: A) = _
    unfold wghL
    rw [if_pos e, wghR_all]
  have hl : m.length = A.length + 1 := by rw [em, List.length_map]; rfl
  have hm : validL m = true := by rw [em]; exact posed_w s3 hv
  have hb : bestB m = true := by
    unfold bestB
    rw [hm, decide_eq_true (by omega)]; rfl
  have h0 : (m.getD 0 eP.dflt).W = wghW W H L rng S ⟨x, y, h, 0⟩ := by rw [em]; rfl
  refine ⟨hl, hb, ?_⟩
  by_cases g : blkP W H L x y = true
  · left
    rw [h0]
    unfold wghW
    rw [if_pos g]
  · right
    have h1 : (m.getD 0 eP.dflt).W = (1 + (M.length : Int)) * (1 + (M.length : Int)) := by
      rw [h0]
      unfold wghW
      rw [if_neg g]
      simp only
      rw [hc, s2]
    refine ⟨?_, h1⟩
    have hf : pbestF m = bestP m m.length := by unfold pbestF; rw [if_pos hb]
    have u1 := bestP_ge m m.length
    have u2 := bestP_le (L := m) (B := (1 + (M.length : Int)) * (1 + (M.length : Int))) (fun i hi => by
      rw [em] at hi ⊢
      have hi2 : i < (⟨x, y, h, 0⟩ :: A : List PP).length := by simpa using hi
      rw [List.getD_eq_getElem?_getD, List.getElem?_map, List.getElem?_eq_getElem hi2]
      have := wghW_bd (W := W) (H := H) (L := L) (rng := rng) s3 (⟨x, y, h, 0⟩ :: A : List PP)[i]
      rw [s2] at this
      exact this.2.1) (by omega) m.length (Nat.le_refl _)
    rw [hf]
    omega
theorem truth_bad {W H : Int} {L : List Int} {x y h rng : Int} {M : List Int} (k : swpE W H L x y h rng M = 0) (A : List PP)
    (e : wghE W H L rng (swpL W H L x y h rng M []) A ≠ 0) :
    wghE W H L rng (swpL W H L x y h rng M []) A = 1 ∧ wghL W H L rng (swpL W H L x y h rng M []) A = [] ∧ ¬ (validL A = true ∧ planB W H L = true ∧ 1 ≤ rng ∧ rng ≤ 32) := by
  obtain ⟨s1, s2⟩ := scan_ok k
  have e1 : wghE W H L rng (swpL W H L x y h rng M []) A = 1 := by
    unfold wghE at e ⊢
    split
    · rename_i g; rw [if_pos g] at e; exact absurd rfl e
    · rfl
  refine ⟨e1, by unfold wghL; rw [if_neg e], ?_⟩
  rintro ⟨g1, g2, g3⟩
  apply e
  unfold wghE
  rw [if_pos ⟨g1, g2, s1, g3⟩]
theorem wghE_01 (W H : Int) (L : List Int) (rng : Int) (S : List CC) (A : List PP) : wghE W H L rng S A = 0 ∨ wghE W H L rng S A = 1 := by
  unfold wghE
  split <;> simp
def x9L0 : XC := (.seq (.seq (.reg false [O1 45 .mv 1, O1 46 .mv 11, O2 47 (.bin .mul) 45 46, O1 48 .mv 2, O1 49 .mv 12, O1 50 .mv 8, O2 51 (.bin .mul) 49 50, O2 52 (.bin .add) 48 51, O2 53 (.bin .leq) 47 52]) (.cond (.t 53) .skip (.exit 3))) (.block 4 (.seq (.reg false [O1 54 .mv 10, K2 55 (.bin .add) 54 (iV 1), O1 10 .mv 55]) (.reg false [O1 56 .mv 11, O1 57 .mv 0, O1 58 .mv 10, O2 59 (.ixS 4) 57 58, O1 60 (.fld 3) 59, O1 61 .load1 60, O2 62 (.bin .add) 56 61, O1 11 .mv 62]))))
def x9L1 : XC := (.seq (.reg false [O2 43 (.bin .lss) 42 41]) (.seq (.cond (.t 43) .skip (.exit 1)) (.seq (.block 2 (.seq (.reg false [O1 44 .mv 42, O1 12 .mv 44]) (.seq (.block 3 (.loop x9L0)) (.reg false [O1 63 .mv 9, O1 64 .mv 0, O1 65 .mv 10, O2 66 (.ixS 4) 64 65, O1 67 (.fld 0) 66, O1 68 (.loadN 3) 67, ⟨(some 69), (.build [(iV 0), (iV 0), (iV 0), (iV 0)] [(0, 3), (3, 1)]), [(.t 68), (.k (iV 1))], none⟩, ⟨(some 70), (.slit 39 1 4 [(iV 0), (iV 0), (iV 0), (iV 0)] [(0, 4)]), [(.t 69)], none⟩, O2 71 (.app 39 4 32) 63 70, O1 9 .mv 71])))) (.reg false [K2 72 (.bin .add) 42 (iV 1), O1 42 .mv 72]))))
def x9 : XFn := ⟨74, (.seq (.reg false [K1 6 .mv (.slice none 0 0), K1 7 .mv (iV 0)]) (.seq (.reg false [O1 13 .mv 0, O1 14 (.call 23) 13, O1 8 .mv 14]) (.seq (.block 0 (.seq (.reg false [O1 16 .mv 0, O1 17 (.call 13) 16, O1 18 (.un .not) 17, O1 15 .mv 18]) (.cond (.t 15) (.seq (.reg false [K1 6 .mv (.slice none 0 0), K1 7 .mv (iV 1)]) .ret) (.seq (.reg false [O1 20 .mv 1, K2 21 (.bin .lss) 20 (iV 1), O1 22 .mv 21, G1 23 .mv 1 22 false, GK 24 (.bin .gtr) 23 (iV 1024) 22 false, ⟨(some 25), .pick, [(.t 22), (.k (.bool true)), (.t 24)], none⟩, O1 19 .mv 25]) (.cond (.t 19) (.seq (.reg false [K1 6 .mv (.slice none 0 0), K1 7 .mv (iV 2)]) .ret) (.seq (.reg false [O1 27 .mv 8, K2 28 (.bin .eql) 27 (iV 0), O1 26 .mv 28]) (.cond (.t 26) (.seq (.reg false [K1 6 .mv (.slice none 0 0), K1 7 .mv (iV 9)]) .ret) (.seq (.reg false [O1 30 .mv 2, K2 31 (.bin .lss) 30 (iV 0), O1 32 .mv 31, G1 33 .mv 2 32 false, G1 34 .mv 8 32 false, G2 35 (.bin .geq) 33 34 32 false, ⟨(some 36), .pick, [(.t 32), (.k (.bool true)), (.t 35)], none⟩, O1 29 .mv 36]) (.cond (.t 29) (.seq (.reg false [K1 6 .mv (.slice none 0 0), K1 7 .mv (iV 2)]) .ret) .skip))))))))) (.seq (.reg false [K1 9 .mv (.slice none 0 0)]) (.seq (.reg true [O1 37 .mv 0, K2 38 (.ixS 4) 37 (iV 0), O1 39 (.fld 3) 38, O1 40 .load1 39, K1 10 .mv (iV 0), O1 11 .mv 40]) (.seq (.seq (.reg false [O1 41 .mv 1, K1 42 .mv (iV 0)]) (.block 1 (.loop x9L1))) (.seq (.reg false [O1 73 .mv 9, O1 6 .mv 73, K1 7 .mv (iV 0)]) .ret))))))), [(.s 6), (.s 7)]⟩
theorem x9_ok : xfn Tryz.prog Tryz.f9 = some x9.er := by kernel_rfl
def x4 : XFn := ⟨69, (.seq (.reg false [K1 0 .mv (.bool false)]) (.seq (.reg false [⟨(some 8), (.build [(iV 0), (iV 0), (iV 0)] [(0, 1)]), [(.k (iV 5))], none⟩, ⟨(some 9), (.build [(iV 0), (iV 0), (iV 0), (iV 0)] [(0, 3), (3, 1)]), [(.t 8), (.k (iV 1))], none⟩, ⟨(some 10), (.build [(iV 0), (iV 0), (iV 0)] [(0, 1)]), [(.k (iV 6))], none⟩, ⟨(some 11), (.build [(iV 0), (iV 0), (iV 0), (iV 0)] [(0, 3)]), [(.t 10)], none⟩, ⟨(some 12), (.build [(iV 0), (iV 0), (iV 0)] [(0, 1)]), [(.k (iV 7))], none⟩, ⟨(some 13), (.build [(iV 0), (iV 0), (iV 0), (iV 0)] [(0, 3), (3, 1)]), [(.t 12), (.k (iV 3))], none⟩, ⟨(some 14), (.slit 39 3 4 [(iV 0), (iV 0), (iV 0), (iV 0), (iV 0), (iV 0), (iV 0), (iV 0), (iV 0), (iV 0), (iV 0), (iV 0)] [(0, 4), (4, 4), (8, 4)]), [(.t 9), (.t 11), (.t 13)], none⟩, O1 1 .mv 14]) (.seq (.reg false [O1 16 .mv 1, ⟨(some 17), (.call 9), [(.t 16), (.k (iV 4)), (.k (iV 0))], none⟩, O1 15 .mv 17, O1 18 (.ext 0) 15, O1 19 (.ext 1) 15, O1 2 .mv 18, O1 3 .mv 19]) (.seq (.reg false [O1 21 .mv 1, O1 22 (.call 10) 21, O1 20 .mv 22, O1 23 (.ext 0) 20, O1 24 (.ext 1) 20, ⟨(some 4), (.alloc 42 [(iV 0), (iV 0)]), [], none⟩, ⟨none, (.store 2), [(.t 4), (.t 23)], none⟩, O1 5 .mv 24]) (.seq (.reg false [⟨(some 26), (.call 11), [(.k (.int .u64 0)), (.k (iV 10))], none⟩, O1 25 .mv 26, O1 27 (.ext 0) 25, O1 28 (.ext 1) 25, O1 6 .mv 27, O1 7 .mv 28]) (.seq (.reg false [K1 29 (.call 12) (.int .u64 0), K2 30 (.bin .eql) 29 (.int .u64 1442695040888963407), O1 31 .mv 30, G1 32 .mv 6 31 true, GK 33 (.bin .eql) 32 (iV 7) 31 true, ⟨(some 34), .pick, [(.t 31), (.t 33), (.k (.bool false))], none⟩, O1 35 .mv 34, G1 36 .mv 3 35 true, GK 37 (.bin .eql) 36 (iV 0) 35 true, ⟨(some 38), .pick, [(.t 35), (.t 37), (.k (.bool false))], none⟩, O1 39 .mv 38, G1 40 .mv 2 39 true, G1 41 .lenS 40 39 true, GK 42 (.bin .eql) 41 (iV 4) 39 true, ⟨(some 43), .pick, [(.t 39), (.t 42), (.k (.bool false))], none⟩, O1 44 .mv 43, G1 45 .mv 2 44 true, GK 46 (.ixS 4) 45 (iV 0) 44 true, G1 47 (.fld 0) 46 44 true, G1 48 (.fld 0) 47 44 true, G1 49 .load1 48 44 true, GK 50 (.bin .eql) 49 (iV 5) 44 true, ⟨(some 51), .pick, [(.t 44), (.t 50), (.k (.bool false))], none⟩, O1 52 .mv 51, G1 53 .mv 2 52 true, GK 54 (.ixS 4) 53 (iV 1) 52 true, G1 55 (.fld 0) 54 52 true, G1 56 (.fld 0) 55 52 true, G1 57 .load1 56 52 true, GK 58 (.bin .eql) 57 (iV 7) 52 true, ⟨(some 59), .pick, [(.t 52), (.t 58), (.k (.bool false))], none⟩, O1 60 .mv 59, G1 61 .mv 5 60 true, GK 62 (.bin .eql) 61 (iV 0) 60 true, ⟨(some 63), .pick, [(.t 60), (.t 62), (.k (.bool false))], none⟩, O1 64 .mv 63, G1 65 (.loadN 2) 4 64 true, ⟨(some 66), (.build [(iV 0), (iV 0)] [(0, 1), (1, 1)]), [(.k (iV 8)), (.k (iV 5))], (some (64, true))⟩, ⟨(some 67), (.eqA false [(.i .i64), (.i .i64)]), [(.t 65), (.t 66)], (some (64, true))⟩, ⟨(some 68), .pick, [(.t 64), (.t 67), (.k (.bool false))], none⟩, O1 0 .mv 68]) .ret)))))), [(.s 0)]⟩
theorem x4_ok : xfn Tryz.prog Tryz.f4 = some x4.er := by kernel_rfl
/-- wayfinder/particle.Resample -/
def g9 : Con := fun args_ E_ nn_ => match args_ with
  | [.c (.n l), .c (.v (.int .i64 n)), .c (.v (.int .i64 u))] => (match rowOf E_ l with
    | some (l_n, l_s, l_f) => some (.e (isRow eP l_n l_s l_f ∧ -9223372036854775808 ≤ n ∧ n ≤ 9223372036854775807) (.t [.c (.n (nn_ + 0)), .c (.v (.int .i64 (resE_ (decL eP l_n l_f) n u)))]) [((nn_ + 0), .own (resL (decL eP l_n l_f) n u).length 4 (rowF eP (resL (decL eP l_n l_f) n u)) 39)] (nn_ + 1))
    | none => none)
  | _ => none
theorem c9 : COk Tryz.prog 9 g9 := by
  refine cok_e Tryz.func9 x9_ok (by kernel_rfl) (cok_tab (cok_cons c13 (cok_cons c23 cok_nil))) ?_
  intro args_ E_ nn_ cr_ hg_
  unfold g9 at hg_
  split at hg_
  · rename_i l n u
    split at hg_
    · rename_i l_n l_s l_f h_l
      cases hg_
      refine ⟨_, _, _, _, rfl, 1, [l], [.c (.n 0), .c (.v (.int .i64 n)), .c (.v (.int .i64 u))], [(0, .ro (decL eP l_n l_f).length eP.sz (rowF eP (decL eP l_n l_f)))], .t [.c (.n 1), .c (.v (.int .i64 (resE_ (decL eP l_n l_f) n u)))], [(1, .own (resL (decL eP l_n l_f) n u).length 4 (rowF eP (resL (decL eP l_n l_f) n u)) 39)], 2, rfl, rfl, by simp only [renE, Ent.ren, rowF_renf] <;> rfl, rfl, by decide, by simp only [push_cast, Nat.reduceLT, Nat.reduceAdd], by simp only [push_cast, Nat.reduceLT, Nat.reduceAdd], by simp only [push_cast, Nat.reduceLT, Nat.reduceAdd], by simp only [push_cast, Nat.reduceLT, Nat.reduceAdd], rfl, ⟨inE0_row h_l, trivial⟩, by simp only [keysNodup, outN, keys] <;> decide, rfl, rfl, ?_⟩
      intro hpre hlen
      obtain ⟨i_l, hpre⟩ := hpre
      refine ⟨⟨inE_row h_l i_l, trivial⟩, by simp only [apartE] <;> (first | trivial | (simp [Ent.mut]; done)), ?_⟩
      have z_l := lens_row (E := eP) hlen h_l
      clear i_l
      generalize decL eP l_n l_f = lL at *
      clear h_l
      simp (config := {maxSteps := 10000000}) only [x9, push_cast, Nat.reduceAdd, Nat.reduceSub, Nat.reduceLeDiff, Nat.reduceEqDiff, Nat.reduceBEq, Nat.reduceMul, Nat.reduceLT, reduceIte, reduceCtorEq, Int.reduceLE, Int.reduceLT, Int.reduceEq, Int.reduceMul, Int.reduceAdd, Int.reduceSub, Int.reduceNeg, Int.reduceToNat, Int.reduceNe, g13, g23]
      unfold resL resE_
      refine ⟨fun hv => by simp [hv], fun hv => ?_⟩
      simp only [hv]
      refine ⟨fun h => by simp [h], fun h1 h2 => ?_⟩
      have h3 : ¬ (n < 1 ∨ 1024 < n) := by omega
      simp only [h3, if_false]
      refine ⟨fun h => by simp [h], fun ht => ?_⟩
      simp only [ht, if_false]
      refine ⟨fun h => by simp [h], fun h4 h5 => ?_⟩
      have h6 : ¬ (u < 0 ∨ totalL lL ≤ u) := by omega
      simp only [h6, if_false, if_true]
      have htt : totalL lL = sumW lL := by unfold totalL; rw [if_pos hv]
      rw [htt] at ht h5 h6 ⊢
      have hs := sum_bd hv
      have hl := valid_len hv
      have hpos : 0 < lL.length := by
        rcases Nat.eq_zero_or_pos lL.length with h0 | h0
        · exfalso; apply ht; unfold sumW; rw [h0]; rfl
        · exact h0
      refine ⟨by omega, hpos, ?_⟩
      refine vcLoop_upd (α := {i : Nat × Nat // (i.1 : Int) ≤ n ∧ i.2 < lL.length ∧ ∀ j, j < i.2 → n * pre lL (j + 1) ≤ u + (i.1 : Int) * sumW lL}) [0, 1, 2, 8, 41] 1 (fun s => [(9, .o (.c (.n 1))), (10, .o (.c (.v (.int .i64 (s.1.2 : Nat))))), (11, .o (.c (.v (.int .i64 (pre lL (s.1.2 + 1)))))), (42, .o (.c (.v (.int .i64 (s.1.1 : Nat)))))]) (fun s => [(1, .own (resK lL n u s.1.1).length 4 (rowF eP (resK lL n u s.1.1)) 39)]) (fun s => (n - s.1.1).toNat) ⟨(0, 0), by simp only; omega, by simp only; omega, fun j hj => by simp only at hj; omega⟩ ?_ ?_
      · simp only [push_cast, Nat.reduceAdd, Nat.reduceSub, Nat.reduceLeDiff, Nat.reduceEqDiff, Nat.reduceBEq, Nat.reduceMul, Nat.reduceLT, reduceIte, reduceCtorEq, Int.reduceLE, Int.reduceLT, Int.reduceEq, Int.reduceMul, Int.reduceAdd, Int.reduceSub, Int.reduceNeg, Int.reduceToNat, Int.reduceNe, g13, g23, resK_len, List.range_zero]
        rw [pre_succ hpos, pre_zero, Int.zero_add]
      · rintro ⟨⟨i, k⟩, hi, hk, hall⟩
        simp only at hi hk hall
        simp only [x9L1, push_cast, Nat.reduceAdd, Nat.reduceSub, Nat.reduceLeDiff, Nat.reduceEqDiff, Nat.reduceBEq, Nat.reduceMul, Nat.reduceLT, reduceIte, reduceCtorEq, Int.reduceLE, Int.reduceLT, Int.reduceEq, Int.reduceMul, Int.reduceAdd, Int.reduceSub, Int.reduceNeg, Int.reduceToNat, Int.reduceNe, g13, g23]
        refine ⟨fun hin => ?_, fun hin => ?_⟩
        · refine vcLoop_upd (α := {k : Nat // k < lL.length ∧ ∀ j, j < k → n * pre lL (j + 1) ≤ u + (i : Int) * sumW lL}) [0, 1, 2, 8, 9, 12, 41, 42] 0 (fun s => [(10, .o (.c (.v (.int .i64 (s.1 : Nat))))), (11, .o (.c (.v (.int .i64 (pre lL (s.1 + 1))))))]) (fun s => []) (fun s => lL.length - s.1) ⟨k, hk, hall⟩ ?_ ?_
          · simp only [push_cast, Nat.reduceAdd, Nat.reduceSub, Nat.reduceLeDiff, Nat.reduceEqDiff, Nat.reduceBEq, Nat.reduceMul, Nat.reduceLT, reduceIte, reduceCtorEq, Int.reduceLE, Int.reduceLT, Int.reduceEq, Int.reduceMul, Int.reduceAdd, Int.reduceSub, Int.reduceNeg, Int.reduceToNat, Int.reduceNe, g13, g23]
          · rintro ⟨m, hm, hall2⟩
            simp only [x9L0, push_cast, Nat.reduceAdd, Nat.reduceSub, Nat.reduceLeDiff, Nat.reduceEqDiff, Nat.reduceBEq, Nat.reduceMul, Nat.reduceLT, reduceIte, reduceCtorEq, Int.reduceLE, Int.reduceLT, Int.reduceEq, Int.reduceMul, Int.reduceAdd, Int.reduceSub, Int.reduceNeg, Int.reduceToNat, Int.reduceNe, g13, g23]
            have hb := pre_bd hv (k := m + 1) (by omega)
            have hn1 : n * pre lL (m + 1) ≤ 1024 * 1073741824 ∧ 0 ≤ n * pre lL (m + 1) := by
              have := mul_bd (a := n) (b := pre lL (m + 1)) (A := 1024) (B := 1073741824) (by omega) (by omega) (by omega) (by omega)
              exact ⟨this.2, this.1⟩
            have hn2 := mul_bd (a := (i : Int)) (b := sumW lL) (A := 1024) (B := 1073741824) (by omega) (by omega) hs.1 hs.2
            rw [wrapI (n := n * pre lL (m + 1)) (by omega) (by omega), wrapI (n := (i : Int) * sumW lL) (by omega) (by omega), wrapI (n := u + (i : Int) * sumW lL) (by omega) (by omega)]
            refine ⟨fun hle => ?_, fun hgt => ?_⟩
            · have hlast : m + 1 < lL.length := by
                rcases Nat.lt_or_ge (m + 1) lL.length with h7 | h7
                · exact h7
                · exfalso
                  have h8 : m + 1 = lL.length := by omega
                  have h9 : pre lL (m + 1) = sumW lL := by rw [h8]; rfl
                  rw [h9] at hle
                  have h10 : ((i : Int) + 1) * sumW lL ≤ n * sumW lL := Int.mul_le_mul_of_nonneg_right (by omega) hs.1
                  rw [Int.add_mul] at h10
                  omega
              have hw := (valid_at hv hlast).2
              have e1 : IntKind.i64.wrap ((m : Int) + 1) = ((m + 1 : Nat) : Int) := by rw [wrapI (by omega) (by omega)]; rfl
              simp only [e1, Int.toNat_natCast]
              have hb2 := pre_bd hv (k := m + 2) (by omega)
              have e2 : pre lL (m + 2) = pre lL (m + 1) + (lL.getD (m + 1) eP.dflt).W := rfl
              rw [← e2, wrapI (n := pre lL (m + 2)) (by omega) (by omega)]
              refine ⟨by omega, hlast, ⟨⟨m + 1, hlast, fun j hj => ?_⟩, ⟨rfl, rfl⟩, by simp only; omega⟩⟩
              by_cases hjm : j = m
              · subst hjm; exact hle
              · exact hall2 j (by omega)
            · have hpick : pickI lL n (u + (i : Int) * sumW lL) = m := pickI_eq hm hall2 (by omega)
              refine ⟨by omega, hm, by rw [resK_len]; omega, ⟨⟨(i + 1, m), by simp only; omega, hm, fun j hj => ?_⟩, ⟨⟨rfl, rfl, ?_⟩, ?_, ?_⟩, by simp only; omega⟩⟩
              · have := hall2 j hj
                have e3 : ((i + 1 : Nat) : Int) * sumW lL = (i : Int) * sumW lL + sumW lL := by rw [Int.natCast_add, Int.add_mul]; simp
                simp only
                rw [e3]; omega
              · rw [wrapI (by omega) (by omega)]; rfl
              · simp only [resK_len]
              · rw [resK_succ, hpick]
                exact rowEq_push1 eP (resK lL n u i) { lL.getD m eP.dflt with W := 1 } (fun _ => rfl)
        · obtain rfl : n = (i : Int) := by omega
          simp only [Int.toNat_natCast]
          exact ⟨trivial, (rowEq_rowF _ _ _ _).2 trivial⟩
    · cases hg_
  · cases hg_
/-- wayfinder/wayfinderlaw21.awake -/
def g4 : Con := fun args_ E_ nn_ => match args_ with
  | [] => some (.q (True) (.o (.c (.v (.bool (true))))))
  | _ => none
theorem c4 : COk Tryz.prog 4 g4 := by
  refine cok_q Tryz.func4 x4_ok (by kernel_rfl) (cok_tab (cok_cons c9 (cok_cons c10 (cok_cons c11 (cok_cons c12 cok_nil))))) ?_
  intro args_ E_ nn_ cr_ hg_
  unfold g4 at hg_
  split at hg_
  · skip
    cases hg_
    refine ⟨_, _, rfl, 0, [], [], [], .o (.c (.v (.bool (true)))), rfl, rfl, by simp only [push_cast, Nat.reduceLT, Nat.reduceAdd], by simp only [push_cast, Nat.reduceLT, Nat.reduceAdd], by simp only [push_cast, Nat.reduceLT, Nat.reduceAdd], rfl, trivial, rfl, ?_⟩
    intro hpre hlen
    refine ⟨trivial, ?_⟩
    have q1 : isRow eP 3 4 (litF [SC.v (Value.int IntKind.i64 5), SC.v (Value.int IntKind.i64 0), SC.v (Value.int IntKind.i64 0), SC.v (Value.int IntKind.i64 1), SC.v (Value.int IntKind.i64 6), SC.v (Value.int IntKind.i64 0), SC.v (Value.int IntKind.i64 0), SC.v (Value.int IntKind.i64 0), SC.v (Value.int IntKind.i64 7), SC.v (Value.int IntKind.i64 0), SC.v (Value.int IntKind.i64 0), SC.v (Value.int IntKind.i64 3)] 4) ↔ True := iff_true_intro (lits_row eP [(⟨5, 0, 0, 1⟩ : PP), (⟨6, 0, 0, 0⟩ : PP), (⟨7, 0, 0, 3⟩ : PP)]).1
    have q2 : decL eP 3 (litF [SC.v (Value.int IntKind.i64 5), SC.v (Value.int IntKind.i64 0), SC.v (Value.int IntKind.i64 0), SC.v (Value.int IntKind.i64 1), SC.v (Value.int IntKind.i64 6), SC.v (Value.int IntKind.i64 0), SC.v (Value.int IntKind.i64 0), SC.v (Value.int IntKind.i64 0), SC.v (Value.int IntKind.i64 7), SC.v (Value.int IntKind.i64 0), SC.v (Value.int IntKind.i64 0), SC.v (Value.int IntKind.i64 3)] 4) = [(⟨5, 0, 0, 1⟩ : PP), (⟨6, 0, 0, 0⟩ : PP), (⟨7, 0, 0, 3⟩ : PP)] := (lits_row eP [(⟨5, 0, 0, 1⟩ : PP), (⟨6, 0, 0, 0⟩ : PP), (⟨7, 0, 0, 3⟩ : PP)]).2
    simp (config := {maxSteps := 10000000}) only [x4, push_cast, Nat.reduceAdd, Nat.reduceSub, Nat.reduceLeDiff, Nat.reduceEqDiff, Nat.reduceBEq, Nat.reduceMul, Nat.reduceLT, reduceIte, reduceCtorEq, Int.reduceLE, Int.reduceLT, Int.reduceEq, Int.reduceMul, Int.reduceAdd, Int.reduceSub, Int.reduceNeg, Int.reduceToNat, Int.reduceNe, g9, g10, g11, g12, q1, q2]
    have a1 : pnextS 0 = 1442695040888963407 := by decide
    have a2 : (drawS 0 10).1 = 7 := by decide
    have a3 : resE_ [⟨5, 0, 0, 1⟩, ⟨6, 0, 0, 0⟩, ⟨7, 0, 0, 3⟩] 4 0 = 0 := by decide +kernel
    have a4 : resL [⟨5, 0, 0, 1⟩, ⟨6, 0, 0, 0⟩, ⟨7, 0, 0, 3⟩] 4 0 = [⟨5, 0, 0, 1⟩, ⟨7, 0, 0, 1⟩, ⟨7, 0, 0, 1⟩, ⟨7, 0, 0, 1⟩] := by rfl
    have a5 : effF [⟨5, 0, 0, 1⟩, ⟨6, 0, 0, 0⟩, ⟨7, 0, 0, 3⟩] = ((8, 5), 0) := by decide +kernel
    simp [a1, a2, a3, a4, a5]
  · cases hg_
end Go.Proofs.YtibahioojjligaaGreat
