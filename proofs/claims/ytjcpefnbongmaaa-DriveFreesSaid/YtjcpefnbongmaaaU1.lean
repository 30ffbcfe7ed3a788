/- A part of the proof of a statement about this seat: how a function is stepped through, and plain laws. No conditions. -/
import Derived.Test.YtjcpefnbongmaaaRows
import Derived.Test.YtjcpefnbongmaaaSz3
import Derived.Test.YtjcpefnbongmaaaQ2
import Derived.Test.YtjcpefnbongmaaaP04
import Derived.KernelRfl
set_option linter.unusedVariables false
set_option linter.unusedSimpArgs false
set_option maxRecDepth 20000
namespace Go.Proofs.Ytjcpefnbongmaaa
open Go.Sx Go.Way
def x61 : XFn := ⟨5, (.seq (.reg false [K1 2 .mv (iV 0)]) (.seq (.reg false [O1 3 .mv 0, K2 4 (.bin .and) 3 (iV 255), O1 2 .mv 4]) .ret)), [(.s 2)]⟩
theorem x61_ok : xfn Try.prog Try.f61 = some x61.er := by kernel_rfl
def x41 : XFn := ⟨15, (.seq (.reg false [K1 4 .mv (iV 0)]) (.seq (.reg false [O1 6 .mv 0, O1 7 .mv 1, O2 8 (.bin .rem) 6 7, O1 5 .mv 8]) (.seq (.seq (.reg false [O1 9 .mv 5, K2 10 (.bin .lss) 9 (iV 0)]) (.cond (.t 10) (.reg false [O1 11 .mv 5, O1 12 .mv 1, O2 13 (.bin .add) 11 12, O1 5 .mv 13]) .skip)) (.seq (.reg false [O1 14 .mv 5, O1 4 .mv 14]) .ret)))), [(.s 4)]⟩
theorem x41_ok : xfn Try.prog Try.f41 = some x41.er := by kernel_rfl
def x91 : XFn := ⟨8, (.seq (.reg false [K1 2 .mv (iV 0)]) (.seq (.seq (.reg false [O1 3 .mv 0, K2 4 (.bin .lss) 3 (iV 0)]) (.cond (.t 4) (.seq (.reg false [O1 5 .mv 0, O1 6 (.un .neg) 5, O1 2 .mv 6]) .ret) .skip)) (.seq (.reg false [O1 7 .mv 0, O1 2 .mv 7]) .ret))), [(.s 2)]⟩
theorem x91_ok : xfn Try.prog Try.f91 = some x91.er := by kernel_rfl
def x90L0 : XC := (.seq (.seq (.reg false [O1 9 .mv 1, K2 10 (.bin .gtr) 9 (iV 0)]) (.cond (.t 10) .skip (.exit 0))) (.block 1 (.seq (.reg false [O1 11 .mv 0, O1 12 .mv 1, O2 13 (.bin .rem) 11 12, O1 7 .mv 13]) (.seq (.reg false [O1 14 .mv 1, O1 0 .mv 14]) (.reg false [O1 15 .mv 7, O1 1 .mv 15])))))
def x90L1 : XC := (.seq (.seq (.reg false [O1 16 .mv 2, K2 17 (.bin .gtr) 16 (iV 0)]) (.cond (.t 17) .skip (.exit 2))) (.block 3 (.seq (.reg false [O1 18 .mv 0, O1 19 .mv 2, O2 20 (.bin .rem) 18 19, O1 8 .mv 20]) (.seq (.reg false [O1 21 .mv 2, O1 0 .mv 21]) (.reg false [O1 22 .mv 8, O1 2 .mv 22])))))
def x90 : XFn := ⟨24, (.seq (.reg false [K1 6 .mv (iV 0)]) (.seq (.block 0 (.loop x90L0)) (.seq (.block 2 (.loop x90L1)) (.seq (.reg false [O1 23 .mv 0, O1 6 .mv 23]) .ret)))), [(.s 6)]⟩
theorem x90_ok : xfn Try.prog Try.f90 = some x90.er := by kernel_rfl
def x80 : XFn := ⟨24, (.seq (.reg false [⟨(some 6), (.alloc 81 [(iV 0), (iV 0), (iV 0)]), [], none⟩]) (.seq (.reg false [O1 8 .mv 0, O1 9 (.call 91) 8, O1 10 .mv 1, O1 11 (.call 91) 10, O1 12 .mv 2, ⟨(some 13), (.call 90), [(.t 9), (.t 11), (.t 12)], none⟩, O1 7 .mv 13]) (.seq (.regD [O1 14 .mv 0, O1 15 .mv 7, O2 16 (.bin .quo) 14 15, O1 17 .mv 1, O1 18 .mv 7, O2 19 (.bin .quo) 17 18, O1 20 .mv 2, O1 21 .mv 7, O2 22 (.bin .quo) 20 21, ⟨(some 23), (.build [(iV 0), (iV 0), (iV 0)] [(0, 1), (1, 1), (2, 1)]), [(.t 16), (.t 19), (.t 22)], none⟩, ⟨none, (.store 3), [(.t 6), (.t 23)], none⟩] [[], [], [0, 1], [], [], [3, 4], [], [], [6, 7], [2, 0, 1, 5, 3, 4, 8, 6, 7], [9, 2, 0, 1, 5, 3, 4, 8, 6, 7]]) .ret))), [(.bn 6 3)]⟩
theorem x80_ok : xfn Try.prog Try.f80 = some x80.er := by kernel_rfl
def x79L0 : XC := (.seq (.seq (.reg false [O1 21 .mv 9, K2 22 (.bin .neq) 21 (iV 0)]) (.cond (.t 22) .skip (.exit 2))) (.block 3 (.reg true [O1 23 .mv 9, O1 24 .mv 7, O1 25 .mv 9, O2 26 (.bin .rem) 24 25, O1 7 .mv 23, O1 9 .mv 26])))
def x79L1 : XC := (.seq (.reg false [K2 15 (.bin .lss) 14 (iV 2)]) (.seq (.cond (.t 15) .skip (.exit 0)) (.seq (.block 1 (.seq (.reg false [O2 16 (.ix1 2 1) 13 14, O1 9 .mv 16]) (.seq (.reg false [O1 17 .mv 9, O1 18 .mv 9, O1 19 (.un .neg) 18, O2 20 .maxI 17 19, O1 9 .mv 20]) (.block 2 (.loop x79L0))))) (.reg false [K2 27 (.bin .add) 14 (iV 1), O1 14 .mv 27]))))
def x79 : XFn := ⟨38, (.seq (.reg false [⟨(some 6), (.alloc 81 [(iV 0), (iV 0), (iV 0)]), [], none⟩]) (.seq (.reg false [O1 10 .mv 2, O1 7 .mv 10]) (.seq (.seq (.reg false [O1 11 .mv 0, O1 12 .mv 1, ⟨(some 13), (.build [(iV 0), (iV 0)] [(0, 1), (1, 1)]), [(.t 11), (.t 12)], none⟩, K1 14 .mv (iV 0)]) (.block 0 (.loop x79L1))) (.seq (.regD [O1 28 .mv 0, O1 29 .mv 7, O2 30 (.bin .quo) 28 29, O1 31 .mv 1, O1 32 .mv 7, O2 33 (.bin .quo) 31 32, O1 34 .mv 2, O1 35 .mv 7, O2 36 (.bin .quo) 34 35, ⟨(some 37), (.build [(iV 0), (iV 0), (iV 0)] [(0, 1), (1, 1), (2, 1)]), [(.t 30), (.t 33), (.t 36)], none⟩, ⟨none, (.store 3), [(.t 6), (.t 37)], none⟩] [[], [], [0, 1], [], [], [3, 4], [], [], [6, 7], [2, 0, 1, 5, 3, 4, 8, 6, 7], [9, 2, 0, 1, 5, 3, 4, 8, 6, 7]]) .ret)))), [(.bn 6 3)]⟩
theorem x79_ok : xfn Try.prog Try.f79 = some x79.er := by kernel_rfl
def x59L0 : XC := (.seq (.reg false [O2 23 (.bin .lss) 22 21]) (.seq (.cond (.t 23) .skip (.exit 0)) (.seq (.block 1 (.reg false [O1 24 (.fld 1) 4, O1 25 .load1 24, O1 26 (.un .neg) 25, O1 27 (.fld 0) 4, O1 28 .load1 27, O1 29 (.fld 0) 4, ⟨none, (.store 1), [(.t 29), (.t 26)], none⟩, O1 30 (.fld 1) 4, ⟨none, (.store 1), [(.t 30), (.t 28)], none⟩])) (.reg false [K2 31 (.bin .add) 22 (iV 1), O1 22 .mv 31]))))
def x59 : XFn := ⟨33, (.seq (.reg false [⟨(some 2), (.alloc 81 [(iV 0), (iV 0), (iV 0)]), [], none⟩]) (.seq (.reg false [O1 5 .mv 0, O1 6 (.call 61) 5, O1 0 .mv 6]) (.seq (.reg false [O1 7 .mv 0, K2 8 (.bin .rem) 7 (iV 64), O1 3 .mv 8]) (.seq (.reg false [O1 9 .mv 3, O1 10 .mv 3, O2 11 (.bin .mul) 9 10, ⟨(some 12), (.bin .sub), [(.k (iV 4096)), (.t 11)], none⟩, O1 13 .mv 3, ⟨(some 14), (.bin .mul), [(.k (iV 128)), (.t 13)], none⟩, O1 15 .mv 3, O1 16 .mv 3, O2 17 (.bin .mul) 15 16, ⟨(some 18), (.bin .add), [(.k (iV 4096)), (.t 17)], none⟩, ⟨(some 19), (.call 79), [(.t 12), (.t 14), (.t 18)], none⟩, ⟨(some 4), (.alloc 81 [(iV 0), (iV 0), (iV 0)]), [], none⟩, ⟨none, (.store 3), [(.t 4), (.t 19)], none⟩]) (.seq (.seq (.reg false [O1 20 .mv 0, K2 21 (.bin .quo) 20 (iV 64), K1 22 .mv (iV 0)]) (.block 0 (.loop x59L0))) (.seq (.reg false [O1 32 (.loadN 3) 4, ⟨none, (.store 3), [(.t 2), (.t 32)], none⟩]) .ret)))))), [(.bn 2 3)]⟩
theorem x59_ok : xfn Try.prog Try.f59 = some x59.er := by kernel_rfl
def x60L0 : XC := (.seq (.seq (.reg false [O1 21 .mv 5, O1 22 .mv 0, K2 23 (.bin .quo) 22 (iV 64), O2 24 (.bin .lss) 21 23]) (.cond (.t 24) .skip (.exit 0))) (.seq (.block 1 (.reg false [O1 27 (.fld 1) 4, O1 28 .load1 27, O1 29 (.un .neg) 28, O1 30 (.fld 0) 4, O1 31 .load1 30, O1 32 (.fld 2) 4, O1 33 .load1 32, ⟨(some 34), (.build [(iV 0), (iV 0), (iV 0)] [(0, 1), (1, 1), (2, 1)]), [(.t 29), (.t 31), (.t 33)], none⟩, ⟨none, (.store 3), [(.t 4), (.t 34)], none⟩])) (.reg false [O1 25 .mv 5, K2 26 (.bin .add) 25 (iV 1), O1 5 .mv 26])))
def x60 : XFn := ⟨36, (.seq (.reg false [⟨(some 2), (.alloc 81 [(iV 0), (iV 0), (iV 0)]), [], none⟩]) (.seq (.reg false [O1 6 .mv 0, K2 7 (.call 41) 6 (iV 256), O1 0 .mv 7]) (.seq (.reg false [O1 8 .mv 0, K2 9 (.bin .rem) 8 (iV 64), O1 3 .mv 9]) (.seq (.reg false [O1 10 .mv 3, O1 11 .mv 3, O2 12 (.bin .mul) 10 11, ⟨(some 13), (.bin .sub), [(.k (iV 4096)), (.t 12)], none⟩, O1 14 .mv 3, ⟨(some 15), (.bin .mul), [(.k (iV 128)), (.t 14)], none⟩, O1 16 .mv 3, O1 17 .mv 3, O2 18 (.bin .mul) 16 17, ⟨(some 19), (.bin .add), [(.k (iV 4096)), (.t 18)], none⟩, ⟨(some 20), (.call 80), [(.t 13), (.t 15), (.t 19)], none⟩, ⟨(some 4), (.alloc 81 [(iV 0), (iV 0), (iV 0)]), [], none⟩, ⟨none, (.store 3), [(.t 4), (.t 20)], none⟩]) (.seq (.seq (.reg false [K1 5 .mv (iV 0)]) (.block 0 (.loop x60L0))) (.seq (.reg false [O1 35 (.loadN 3) 4, ⟨none, (.store 3), [(.t 2), (.t 35)], none⟩]) .ret)))))), [(.bn 2 3)]⟩
theorem x60_ok : xfn Try.prog Try.f60 = some x60.er := by kernel_rfl
/-! ### Directions and beams -/
def bmX (a b c d e f : Int) : Int × Int × Int := low (a * d - b * e) (a * e + b * d) (c * f)
def bmE (a b c d e f : Int) : Int := if vecB a b c = false ∨ vecB d e f = false then 1 else if 67108864 < (bmX a b c d e f).2.2 then 2 else 0
def bmT (a b c d e f : Int) : Int × Int × Int := if bmE a b c d e f = 0 then bmX a b c d e f else (0, 0, 0)
def beamV (h m : Int) : Int × Int × Int := bmT (dirV h).1 (dirV h).2.1 (dirV h).2.2 (dirV m).1 (dirV m).2.1 (dirV m).2.2
/-- wayfinder/heading.mark -/
def g61 : Con := fun args_ E_ nn_ => match args_ with
  | [.c (.v (.int .i64 h))] => some (.q (True) (.o (.c (.v (.int .i64 (h % 256))))))
  | _ => none
theorem c61 : COk Try.prog 61 g61 := by
  refine cok_q Try.func61 x61_ok (by kernel_rfl) (cok_tab cok_nil) ?_
  intro args_ E_ nn_ cr_ hg_
  unfold g61 at hg_
  split at hg_
  · rename_i h
    cases hg_
    refine ⟨_, _, rfl, 0, [], [.c (.v (.int .i64 h))], [], .o (.c (.v (.int .i64 (h % 256)))), rfl, rfl, by simp only [push_cast, Nat.reduceLT, Nat.reduceAdd], by simp only [push_cast, Nat.reduceLT, Nat.reduceAdd], by simp only [push_cast, Nat.reduceLT, Nat.reduceAdd], rfl, trivial, rfl, ?_⟩
    intro hpre hlen
    refine ⟨trivial, ?_⟩
    simp (config := {maxSteps := 10000000}) only [x61, push_cast, Nat.reduceAdd, Nat.reduceSub, Nat.reduceLeDiff, Nat.reduceEqDiff, Nat.reduceBEq, Nat.reduceMul, Nat.reduceLT, reduceIte, reduceCtorEq, Int.reduceLE, Int.reduceLT, Int.reduceEq, Int.reduceMul, Int.reduceAdd, Int.reduceSub, Int.reduceNeg, Int.reduceToNat, Int.reduceNe]
    exact and_255 h
  · cases hg_
/-- wayfinder/wayfinderbase.Mod -/
def g41 : Con := fun args_ E_ nn_ => match args_ with
  | [.c (.v (.int .i64 a)), .c (.v (.int .i64 b))] => some (.q (0 < b ∧ -9223372036854775808 ≤ a ∧ a ≤ 9223372036854775807 ∧ b ≤ 9223372036854775807) (.o (.c (.v (.int .i64 (a % b))))))
  | _ => none
theorem c41 : COk Try.prog 41 g41 := by
  refine cok_q Try.func41 x41_ok (by kernel_rfl) (cok_tab cok_nil) ?_
  intro args_ E_ nn_ cr_ hg_
  unfold g41 at hg_
  split at hg_
  · rename_i a b
    cases hg_
    refine ⟨_, _, rfl, 0, [], [.c (.v (.int .i64 a)), .c (.v (.int .i64 b))], [], .o (.c (.v (.int .i64 (a % b)))), rfl, rfl, by simp only [push_cast, Nat.reduceLT, Nat.reduceAdd], by simp only [push_cast, Nat.reduceLT, Nat.reduceAdd], by simp only [push_cast, Nat.reduceLT, Nat.reduceAdd], rfl, trivial, rfl, ?_⟩
    intro hpre hlen
    refine ⟨trivial, ?_⟩
    simp (config := {maxSteps := 10000000}) only [x41, push_cast, Nat.reduceAdd, Nat.reduceSub, Nat.reduceLeDiff, Nat.reduceEqDiff, Nat.reduceBEq, Nat.reduceMul, Nat.reduceLT, reduceIte, reduceCtorEq, Int.reduceLE, Int.reduceLT, Int.reduceEq, Int.reduceMul, Int.reduceAdd, Int.reduceSub, Int.reduceNeg, Int.reduceToNat, Int.reduceNe]
    obtain ⟨h1, h2, h3, h4⟩ := hpre
    have k1 := Int.emod_def a b
    have k2 := Int.tmod_def a b
    have k3 := Int.emod_lt_of_pos a h1
    have k4 := Int.emod_nonneg a (show b ≠ 0 by omega)
    refine ⟨by omega, fun h => ?_, fun h => ?_⟩
    · have e := floor_neg h1 h
      have e2 : a.tmod b + b = a % b := by rw [k1, k2, ← e, Int.mul_sub, Int.mul_one]; omega
      rw [e2]
      exact wrapI (by omega) (by omega)
    · rw [k1, k2, floor_pos h1 h]
  · cases hg_
/-- wayfinder/wayfinderref04.abs -/
def g91 : Con := fun args_ E_ nn_ => match args_ with
  | [.c (.v (.int .i64 n))] => some (.q (-9223372036854775807 ≤ n ∧ n ≤ 9223372036854775807) (.o (.c (.v (.int .i64 (max n (-n)))))))
  | _ => none
theorem c91 : COk Try.prog 91 g91 := by
  refine cok_q Try.func91 x91_ok (by kernel_rfl) (cok_tab cok_nil) ?_
  intro args_ E_ nn_ cr_ hg_
  unfold g91 at hg_
  split at hg_
  · rename_i n
    cases hg_
    refine ⟨_, _, rfl, 0, [], [.c (.v (.int .i64 n))], [], .o (.c (.v (.int .i64 (max n (-n))))), rfl, rfl, by simp only [push_cast, Nat.reduceLT, Nat.reduceAdd], by simp only [push_cast, Nat.reduceLT, Nat.reduceAdd], by simp only [push_cast, Nat.reduceLT, Nat.reduceAdd], rfl, trivial, rfl, ?_⟩
    intro hpre hlen
    refine ⟨trivial, ?_⟩
    simp (config := {maxSteps := 10000000}) only [x91, push_cast, Nat.reduceAdd, Nat.reduceSub, Nat.reduceLeDiff, Nat.reduceEqDiff, Nat.reduceBEq, Nat.reduceMul, Nat.reduceLT, reduceIte, reduceCtorEq, Int.reduceLE, Int.reduceLT, Int.reduceEq, Int.reduceMul, Int.reduceAdd, Int.reduceSub, Int.reduceNeg, Int.reduceToNat, Int.reduceNe]
    rw [wrapI (by omega) (by omega)]
    omega
  · cases hg_
/-- wayfinder/wayfinderref04.gcd -/
def g90 : Con := fun args_ E_ nn_ => match args_ with
  | [.c (.v (.int .i64 a)), .c (.v (.int .i64 b)), .c (.v (.int .i64 c))] => some (.q (0 ≤ a ∧ 0 ≤ b ∧ 0 < c ∧ a ≤ 9223372036854775807 ∧ b ≤ 9223372036854775807 ∧ c ≤ 9223372036854775807) (.o (.c (.v (.int .i64 (gcd3 a b c))))))
  | _ => none
theorem c90 : COk Try.prog 90 g90 := by
  refine cok_q Try.func90 x90_ok (by kernel_rfl) (cok_tab cok_nil) ?_
  intro args_ E_ nn_ cr_ hg_
  unfold g90 at hg_
  split at hg_
  · rename_i a b c
    cases hg_
    refine ⟨_, _, rfl, 0, [], [.c (.v (.int .i64 a)), .c (.v (.int .i64 b)), .c (.v (.int .i64 c))], [], .o (.c (.v (.int .i64 (gcd3 a b c)))), rfl, rfl, by simp only [push_cast, Nat.reduceLT, Nat.reduceAdd], by simp only [push_cast, Nat.reduceLT, Nat.reduceAdd], by simp only [push_cast, Nat.reduceLT, Nat.reduceAdd], rfl, trivial, rfl, ?_⟩
    intro hpre hlen
    refine ⟨trivial, ?_⟩
    simp (config := {maxSteps := 10000000}) only [x90, push_cast, Nat.reduceAdd, Nat.reduceSub, Nat.reduceLeDiff, Nat.reduceEqDiff, Nat.reduceBEq, Nat.reduceMul, Nat.reduceLT, reduceIte, reduceCtorEq, Int.reduceLE, Int.reduceLT, Int.reduceEq, Int.reduceMul, Int.reduceAdd, Int.reduceSub, Int.reduceNeg, Int.reduceToNat, Int.reduceNe]
    obtain ⟨ha, hb, hc, ha', hb', hc'⟩ := hpre
    refine vcLoop_upd (α := {p : Int × Int // 0 ≤ p.1 ∧ 0 ≤ p.2 ∧ p.1 ≤ 9223372036854775807 ∧ p.2 ≤ 9223372036854775807 ∧ Int.gcd p.1 p.2 = Int.gcd a b}) [2] 0 (fun s => [(0, .o (.c (.v (.int .i64 (s.1.1))))), (1, .o (.c (.v (.int .i64 (s.1.2)))))]) (fun s => []) (fun s => s.1.2.toNat) ⟨(a, b), ha, hb, ha', hb', rfl⟩ ?_ ?_
    · simp only [push_cast, Nat.reduceAdd, Nat.reduceSub, Nat.reduceLeDiff, Nat.reduceEqDiff, Nat.reduceBEq, Nat.reduceMul, Nat.reduceLT, reduceIte, reduceCtorEq, Int.reduceLE, Int.reduceLT, Int.reduceEq, Int.reduceMul, Int.reduceAdd, Int.reduceSub, Int.reduceNeg, Int.reduceToNat, Int.reduceNe]
    · rintro ⟨⟨g, n⟩, hg, hn, hg', hn', he⟩
      simp only [x90L0, push_cast, Nat.reduceAdd, Nat.reduceSub, Nat.reduceLeDiff, Nat.reduceEqDiff, Nat.reduceBEq, Nat.reduceMul, Nat.reduceLT, reduceIte, reduceCtorEq, Int.reduceLE, Int.reduceLT, Int.reduceEq, Int.reduceMul, Int.reduceAdd, Int.reduceSub, Int.reduceNeg, Int.reduceToNat, Int.reduceNe]
      simp only at hg hn hg' hn' he
      refine ⟨fun h => ?_, fun h => ?_⟩
      · have hm := emod_range (a := g) (b := n) h
        have hs := Go.Way.gcd_step g n hn hg
        rw [tmod_pos hg] at hs ⊢
        refine ⟨by omega, ⟨(n, g % n), hn, hm.1, hn', by omega, ?_⟩, ⟨rfl, rfl⟩, by simp only; omega⟩
        simp only
        rw [hs]; exact he
      · obtain rfl : n = 0 := by omega
        simp only [Int.gcd_zero_right] at he
        refine vcLoop_upd (α := {p : Int × Int // 0 ≤ p.1 ∧ 0 ≤ p.2 ∧ p.1 ≤ 9223372036854775807 ∧ p.2 ≤ 9223372036854775807 ∧ Int.gcd p.1 p.2 = Int.gcd g c}) [] 0 (fun s => [(0, .o (.c (.v (.int .i64 (s.1.1))))), (2, .o (.c (.v (.int .i64 (s.1.2)))))]) (fun s => []) (fun s => s.1.2.toNat) ⟨(g, c), hg, Int.le_of_lt hc, hg', hc', rfl⟩ ?_ ?_
        · simp only [push_cast, Nat.reduceAdd, Nat.reduceSub, Nat.reduceLeDiff, Nat.reduceEqDiff, Nat.reduceBEq, Nat.reduceMul, Nat.reduceLT, reduceIte, reduceCtorEq, Int.reduceLE, Int.reduceLT, Int.reduceEq, Int.reduceMul, Int.reduceAdd, Int.reduceSub, Int.reduceNeg, Int.reduceToNat, Int.reduceNe]
        · rintro ⟨⟨g2, n2⟩, hg2, hn2, hg2', hn2', he2⟩
          simp only [x90L1, push_cast, Nat.reduceAdd, Nat.reduceSub, Nat.reduceLeDiff, Nat.reduceEqDiff, Nat.reduceBEq, Nat.reduceMul, Nat.reduceLT, reduceIte, reduceCtorEq, Int.reduceLE, Int.reduceLT, Int.reduceEq, Int.reduceMul, Int.reduceAdd, Int.reduceSub, Int.reduceNeg, Int.reduceToNat, Int.reduceNe]
          simp only at hg2 hn2 hg2' hn2' he2
          refine ⟨fun h => ?_, fun h => ?_⟩
          · have hm := emod_range (a := g2) (b := n2) h
            have hs := Go.Way.gcd_step g2 n2 hn2 hg2
            rw [tmod_pos hg2] at hs ⊢
            refine ⟨by omega, ⟨(n2, g2 % n2), hn2, hm.1, hn2', by omega, ?_⟩, ⟨rfl, rfl⟩, by simp only; omega⟩
            simp only
            rw [hs]; exact he2
          · obtain rfl : n2 = 0 := by omega
            simp only [Int.gcd_zero_right] at he2
            unfold gcd3
            rw [← he]
            have e1 : ((g.natAbs : Nat) : Int) = g := Int.natAbs_of_nonneg hg
            rw [e1, ← he2, Int.natAbs_of_nonneg hg2]
  · cases hg_
/-- wayfinder/wayfinderref04.lowest -/
def g80 : Con := fun args_ E_ nn_ => match args_ with
  | [.c (.v (.int .i64 x)), .c (.v (.int .i64 y)), .c (.v (.int .i64 d))] => some (.q (0 < d ∧ d ≤ 4611686018427387904 ∧ -4611686018427387904 ≤ x ∧ x ≤ 4611686018427387904 ∧ -4611686018427387904 ≤ y ∧ y ≤ 4611686018427387904) (.o (.a [.v (.int .i64 ((low x y d).1)), .v (.int .i64 ((low x y d).2.1)), .v (.int .i64 ((low x y d).2.2))])))
  | _ => none
theorem c80 : COk Try.prog 80 g80 := by
  refine cok_q Try.func80 x80_ok (by kernel_rfl) (cok_tab (cok_cons c90 (cok_cons c91 cok_nil))) ?_
  intro args_ E_ nn_ cr_ hg_
  unfold g80 at hg_
  split at hg_
  · rename_i x y d
    cases hg_
    refine ⟨_, _, rfl, 0, [], [.c (.v (.int .i64 x)), .c (.v (.int .i64 y)), .c (.v (.int .i64 d))], [], .o (.a [.v (.int .i64 ((low x y d).1)), .v (.int .i64 ((low x y d).2.1)), .v (.int .i64 ((low x y d).2.2))]), rfl, rfl, by simp only [push_cast, Nat.reduceLT, Nat.reduceAdd], by simp only [push_cast, Nat.reduceLT, Nat.reduceAdd], by simp only [push_cast, Nat.reduceLT, Nat.reduceAdd], rfl, trivial, rfl, ?_⟩
    intro hpre hlen
    refine ⟨trivial, ?_⟩
    simp (config := {maxSteps := 10000000}) only [x80, push_cast, Nat.reduceAdd, Nat.reduceSub, Nat.reduceLeDiff, Nat.reduceEqDiff, Nat.reduceBEq, Nat.reduceMul, Nat.reduceLT, reduceIte, reduceCtorEq, Int.reduceLE, Int.reduceLT, Int.reduceEq, Int.reduceMul, Int.reduceAdd, Int.reduceSub, Int.reduceNeg, Int.reduceToNat, Int.reduceNe, g90, g91]
    obtain ⟨hd, hd', hx, hx', hy, hy'⟩ := hpre
    have eg : gcd3 (max x (-x)) (max y (-y)) d = gcd3 x y d := by
      unfold gcd3
      simp only [Int.gcd, Int.natAbs_natCast]
      rw [show (max x (-x)).natAbs = x.natAbs by omega, show (max y (-y)).natAbs = y.natAbs by omega]
    rw [eg]
    obtain ⟨e1, e2, e3⟩ := tdiv_gcd3 (x := x) (y := y) (d := d)
    have hg := gcd3_pos (x := x) (y := y) hd
    have b1 := div_abs hg hx hx'
    have b2 := div_abs hg hy hy'
    have b3 := div_abs hg (show -4611686018427387904 ≤ d by omega) hd'
    rw [e1, e2, e3, wrapI b1.1 b1.2, wrapI b2.1 b2.2, wrapI b3.1 b3.2]
    have : ¬ gcd3 x y d = 0 := by omega
    simp only [this, not_false_eq_true, true_and, low, and_true, and_self]
    exact ⟨by omega, by omega, by omega, rfl⟩
  · cases hg_
/-- wayfinder/heading.lowest -/
def g79 : Con := fun args_ E_ nn_ => match args_ with
  | [.c (.v (.int .i64 x)), .c (.v (.int .i64 y)), .c (.v (.int .i64 d))] => some (.q (0 < d ∧ d ≤ 4611686018427387904 ∧ -4611686018427387904 ≤ x ∧ x ≤ 4611686018427387904 ∧ -4611686018427387904 ≤ y ∧ y ≤ 4611686018427387904) (.o (.a [.v (.int .i64 ((low x y d).1)), .v (.int .i64 ((low x y d).2.1)), .v (.int .i64 ((low x y d).2.2))])))
  | _ => none
theorem c79 : COk Try.prog 79 g79 := by
  refine cok_q Try.func79 x79_ok (by kernel_rfl) (cok_tab cok_nil) ?_
  intro args_ E_ nn_ cr_ hg_
  unfold g79 at hg_
  split at hg_
  · rename_i x y d
    cases hg_
    refine ⟨_, _, rfl, 0, [], [.c (.v (.int .i64 x)), .c (.v (.int .i64 y)), .c (.v (.int .i64 d))], [], .o (.a [.v (.int .i64 ((low x y d).1)), .v (.int .i64 ((low x y d).2.1)), .v (.int .i64 ((low x y d).2.2))]), rfl, rfl, by simp only [push_cast, Nat.reduceLT, Nat.reduceAdd], by simp only [push_cast, Nat.reduceLT, Nat.reduceAdd], by simp only [push_cast, Nat.reduceLT, Nat.reduceAdd], rfl, trivial, rfl, ?_⟩
    intro hpre hlen
    refine ⟨trivial, ?_⟩
    simp (config := {maxSteps := 10000000}) only [x79, push_cast, Nat.reduceAdd, Nat.reduceSub, Nat.reduceLeDiff, Nat.reduceEqDiff, Nat.reduceBEq, Nat.reduceMul, Nat.reduceLT, reduceIte, reduceCtorEq, Int.reduceLE, Int.reduceLT, Int.reduceEq, Int.reduceMul, Int.reduceAdd, Int.reduceSub, Int.reduceNeg, Int.reduceToNat, Int.reduceNe]
    obtain ⟨hd, hd', hx, hx', hy, hy'⟩ := hpre
    refine vcLoop_upd (α := {p : Int × Int // (p.1 = 0 ∧ p.2 = d) ∨ (p.1 = 1 ∧ p.2 = (Int.gcd d x : Int)) ∨ (p.1 = 2 ∧ p.2 = gcd3 x y d)}) [0, 1, 2, 6, 13] 0 (fun s => [(7, .o (.c (.v (.int .i64 (s.1.2))))), (14, .o (.c (.v (.int .i64 (s.1.1)))))]) (fun s => []) (fun s => (2 - s.1.1).toNat) ⟨(0, d), .inl ⟨rfl, rfl⟩⟩ ?_ ?_
    · simp only [push_cast, Nat.reduceAdd, Nat.reduceSub, Nat.reduceLeDiff, Nat.reduceEqDiff, Nat.reduceBEq, Nat.reduceMul, Nat.reduceLT, reduceIte, reduceCtorEq, Int.reduceLE, Int.reduceLT, Int.reduceEq, Int.reduceMul, Int.reduceAdd, Int.reduceSub, Int.reduceNeg, Int.reduceToNat, Int.reduceNe]
    · rintro ⟨⟨i, g⟩, ⟨hi, he⟩ | ⟨hi, he⟩ | ⟨hi, he⟩⟩
      · simp only at hi he
        subst hi
        simp only [x79L1, push_cast, Nat.reduceAdd, Nat.reduceSub, Nat.reduceLeDiff, Nat.reduceEqDiff, Nat.reduceBEq, Nat.reduceMul, Nat.reduceLT, reduceIte, reduceCtorEq, Int.reduceLE, Int.reduceLT, Int.reduceEq, Int.reduceMul, Int.reduceAdd, Int.reduceSub, Int.reduceNeg, Int.reduceToNat, Int.reduceNe]
        have hg : 0 < g := by omega
        have hm0 : 0 ≤ max x (-x) := by omega
        rw [wrapI (n := -x) (by omega) (by omega)]
        refine vcLoop_upd (α := {p : Int × Int // 0 ≤ p.1 ∧ 0 ≤ p.2 ∧ p.1 ≤ 9223372036854775807 ∧ p.2 ≤ 9223372036854775807 ∧ Int.gcd p.1 p.2 = Int.gcd g x}) [0, 1, 2, 6, 13, 14] 0 (fun s => [(7, .o (.c (.v (.int .i64 (s.1.1))))), (9, .o (.c (.v (.int .i64 (s.1.2)))))]) (fun s => []) (fun s => s.1.2.toNat) ⟨(g, max x (-x)), Int.le_of_lt hg, hm0, by simp only; omega, by simp only; omega, gcd_abs g x⟩ ?_ ?_
        · simp only [push_cast, Nat.reduceAdd, Nat.reduceSub, Nat.reduceLeDiff, Nat.reduceEqDiff, Nat.reduceBEq, Nat.reduceMul, Nat.reduceLT, reduceIte, reduceCtorEq, Int.reduceLE, Int.reduceLT, Int.reduceEq, Int.reduceMul, Int.reduceAdd, Int.reduceSub, Int.reduceNeg, Int.reduceToNat, Int.reduceNe]
        · rintro ⟨⟨g2, n2⟩, hg2, hn2, hg2', hn2', he2⟩
          simp only [x79L0, push_cast, Nat.reduceAdd, Nat.reduceSub, Nat.reduceLeDiff, Nat.reduceEqDiff, Nat.reduceBEq, Nat.reduceMul, Nat.reduceLT, reduceIte, reduceCtorEq, Int.reduceLE, Int.reduceLT, Int.reduceEq, Int.reduceMul, Int.reduceAdd, Int.reduceSub, Int.reduceNeg, Int.reduceToNat, Int.reduceNe]
          simp only at hg2 hn2 hg2' hn2' he2
          refine ⟨fun h => ?_, fun h => ?_⟩
          · have hp : 0 < n2 := by omega
            obtain ⟨hm1, hm2⟩ := emod_range (a := g2) (b := n2) hp
            have hs := Go.Way.gcd_step g2 n2 hn2 hg2
            rw [tmod_pos hg2] at hs ⊢
            have hm3 : g2 % n2 ≤ 9223372036854775807 := by omega
            have hm4 : (g2 % n2).toNat < n2.toNat := by omega
            refine ⟨h, ⟨(n2, g2 % n2), hn2, hm1, hn2', hm3, ?_⟩, ⟨rfl, rfl⟩, hm4⟩
            simp only
            rw [hs]; exact he2
          · subst h
            simp only [Int.gcd_zero_right] at he2
            have e2 : g2 = (Int.gcd g x : Int) := by rw [← he2, Int.natAbs_of_nonneg hg2]
            refine ⟨⟨(0 + 1, g2), .inr (.inl ⟨rfl, by simp only; rw [e2, he]⟩)⟩, ⟨rfl, by rw [wrapI (by omega) (by omega)]; rfl⟩, by simp⟩
      · simp only at hi he
        subst hi
        simp only [x79L1, push_cast, Nat.reduceAdd, Nat.reduceSub, Nat.reduceLeDiff, Nat.reduceEqDiff, Nat.reduceBEq, Nat.reduceMul, Nat.reduceLT, reduceIte, reduceCtorEq, Int.reduceLE, Int.reduceLT, Int.reduceEq, Int.reduceMul, Int.reduceAdd, Int.reduceSub, Int.reduceNeg, Int.reduceToNat, Int.reduceNe]
        have hg : 0 < g := by
          have : Int.gcd d x ≠ 0 := fun h0 => by have := (Int.gcd_eq_zero_iff.1 h0).1; omega
          omega
        have hgd : g ≤ d := by rw [he]; exact Int.le_of_dvd hd (Int.gcd_dvd_left ..)
        have hm0 : 0 ≤ max y (-y) := by omega
        rw [wrapI (n := -y) (by omega) (by omega)]
        refine vcLoop_upd (α := {p : Int × Int // 0 ≤ p.1 ∧ 0 ≤ p.2 ∧ p.1 ≤ 9223372036854775807 ∧ p.2 ≤ 9223372036854775807 ∧ Int.gcd p.1 p.2 = Int.gcd g y}) [0, 1, 2, 6, 13, 14] 0 (fun s => [(7, .o (.c (.v (.int .i64 (s.1.1))))), (9, .o (.c (.v (.int .i64 (s.1.2)))))]) (fun s => []) (fun s => s.1.2.toNat) ⟨(g, max y (-y)), Int.le_of_lt hg, hm0, by simp only; omega, by simp only; omega, gcd_abs g y⟩ ?_ ?_
        · simp only [push_cast, Nat.reduceAdd, Nat.reduceSub, Nat.reduceLeDiff, Nat.reduceEqDiff, Nat.reduceBEq, Nat.reduceMul, Nat.reduceLT, reduceIte, reduceCtorEq, Int.reduceLE, Int.reduceLT, Int.reduceEq, Int.reduceMul, Int.reduceAdd, Int.reduceSub, Int.reduceNeg, Int.reduceToNat, Int.reduceNe]
        · rintro ⟨⟨g2, n2⟩, hg2, hn2, hg2', hn2', he2⟩
          simp only [x79L0, push_cast, Nat.reduceAdd, Nat.reduceSub, Nat.reduceLeDiff, Nat.reduceEqDiff, Nat.reduceBEq, Nat.reduceMul, Nat.reduceLT, reduceIte, reduceCtorEq, Int.reduceLE, Int.reduceLT, Int.reduceEq, Int.reduceMul, Int.reduceAdd, Int.reduceSub, Int.reduceNeg, Int.reduceToNat, Int.reduceNe]
          simp only at hg2 hn2 hg2' hn2' he2
          refine ⟨fun h => ?_, fun h => ?_⟩
          · have hp : 0 < n2 := by omega
            obtain ⟨hm1, hm2⟩ := emod_range (a := g2) (b := n2) hp
            have hs := Go.Way.gcd_step g2 n2 hn2 hg2
            rw [tmod_pos hg2] at hs ⊢
            have hm3 : g2 % n2 ≤ 9223372036854775807 := by omega
            have hm4 : (g2 % n2).toNat < n2.toNat := by omega
            refine ⟨h, ⟨(n2, g2 % n2), hn2, hm1, hn2', hm3, ?_⟩, ⟨rfl, rfl⟩, hm4⟩
            simp only
            rw [hs]; exact he2
          · subst h
            simp only [Int.gcd_zero_right] at he2
            have e2 : g2 = (Int.gcd g y : Int) := by rw [← he2, Int.natAbs_of_nonneg hg2]
            refine ⟨⟨(1 + 1, g2), .inr (.inr ⟨rfl, by simp only; rw [e2, he, gcd3_eq]⟩)⟩, ⟨rfl, by rw [wrapI (by omega) (by omega)]; rfl⟩, by simp⟩
      · simp only at hi he
        subst hi
        simp only [x79L1, push_cast, Nat.reduceAdd, Nat.reduceSub, Nat.reduceLeDiff, Nat.reduceEqDiff, Nat.reduceBEq, Nat.reduceMul, Nat.reduceLT, reduceIte, reduceCtorEq, Int.reduceLE, Int.reduceLT, Int.reduceEq, Int.reduceMul, Int.reduceAdd, Int.reduceSub, Int.reduceNeg, Int.reduceToNat, Int.reduceNe]
        rw [he]
        obtain ⟨e1, e2, e3⟩ := tdiv_gcd3 (x := x) (y := y) (d := d)
        have hg := gcd3_pos (x := x) (y := y) hd
        have b1 := div_abs hg hx hx'
        have b2 := div_abs hg hy hy'
        have b3 := div_abs hg (show -4611686018427387904 ≤ d by omega) hd'
        rw [e1, e2, e3, wrapI b1.1 b1.2, wrapI b2.1 b2.2, wrapI b3.1 b3.2]
        have : ¬ gcd3 x y d = 0 := by omega
        simp only [this, not_false_eq_true, true_and, low, and_true, and_self]
        try rfl
  · cases hg_
/-- wayfinder/heading.Dir -/
def g59 : Con := fun args_ E_ nn_ => match args_ with
  | [.c (.v (.int .i64 h))] => some (.q (True) (.o (.a [.v (.int .i64 ((dirV h).1)), .v (.int .i64 ((dirV h).2.1)), .v (.int .i64 ((dirV h).2.2))])))
  | _ => none
theorem c59 : COk Try.prog 59 g59 := by
  refine cok_q Try.func59 x59_ok (by kernel_rfl) (cok_tab (cok_cons c61 (cok_cons c79 cok_nil))) ?_
  intro args_ E_ nn_ cr_ hg_
  unfold g59 at hg_
  split at hg_
  · rename_i h
    cases hg_
    refine ⟨_, _, rfl, 0, [], [.c (.v (.int .i64 h))], [], .o (.a [.v (.int .i64 ((dirV h).1)), .v (.int .i64 ((dirV h).2.1)), .v (.int .i64 ((dirV h).2.2))]), rfl, rfl, by simp only [push_cast, Nat.reduceLT, Nat.reduceAdd], by simp only [push_cast, Nat.reduceLT, Nat.reduceAdd], by simp only [push_cast, Nat.reduceLT, Nat.reduceAdd], rfl, trivial, rfl, ?_⟩
    intro hpre hlen
    refine ⟨trivial, ?_⟩
    simp (config := {maxSteps := 10000000}) only [x59, push_cast, Nat.reduceAdd, Nat.reduceSub, Nat.reduceLeDiff, Nat.reduceEqDiff, Nat.reduceBEq, Nat.reduceMul, Nat.reduceLT, reduceIte, reduceCtorEq, Int.reduceLE, Int.reduceLT, Int.reduceEq, Int.reduceMul, Int.reduceAdd, Int.reduceSub, Int.reduceNeg, Int.reduceToNat, Int.reduceNe, g61, g79]
    have hs := sq64 h
    rw [show (h % 256).tmod 64 = h % 256 % 64 from Int.tmod_eq_emod_of_nonneg (by omega)]
    rw [show (h % 256).tdiv 64 = h % 256 / 64 from Int.tdiv_eq_ediv_of_nonneg (by omega), wrapI (n := h % 256 / 64) (by omega) (by omega)]
    rw [wrapI (n := h % 256 % 64 * (h % 256 % 64)) (by omega) (by omega), wrapI (n := 4096 - _) (by omega) (by omega), wrapI (n := 4096 + _) (by omega) (by omega), wrapI (n := 128 * _) (by omega) (by omega)]
    have hq : 0 ≤ h % 256 / 64 ∧ h % 256 / 64 < 4 := by omega
    refine ⟨by omega, ?_⟩
    have hb := rot_bd 8192 (dir0 h) (dir0_bd h)
    refine vcLoop_upd (α := {n : Nat // n ≤ (h % 256 / 64).toNat}) [2, 4, 21] 0 (fun s => [(22, .o (.c (.v (.int .i64 (s.1 : Nat)))))]) (fun s => [(1, .box [.v (.int .i64 (rot s.1 (dir0 h)).1), .v (.int .i64 (rot s.1 (dir0 h)).2.1), .v (.int .i64 (rot s.1 (dir0 h)).2.2)] 81)]) (fun s => (h % 256 / 64).toNat - s.1) ⟨0, Nat.zero_le _⟩ ?_ ?_
    · simp only [push_cast, Nat.reduceAdd, Nat.reduceSub, Nat.reduceLeDiff, Nat.reduceEqDiff, Nat.reduceBEq, Nat.reduceMul, Nat.reduceLT, reduceIte, reduceCtorEq, Int.reduceLE, Int.reduceLT, Int.reduceEq, Int.reduceMul, Int.reduceAdd, Int.reduceSub, Int.reduceNeg, Int.reduceToNat, Int.reduceNe, g61, g79, dir0, rot]
    · rintro ⟨n, hn⟩
      simp only [x59L0, push_cast, Nat.reduceAdd, Nat.reduceSub, Nat.reduceLeDiff, Nat.reduceEqDiff, Nat.reduceBEq, Nat.reduceMul, Nat.reduceLT, reduceIte, reduceCtorEq, Int.reduceLE, Int.reduceLT, Int.reduceEq, Int.reduceMul, Int.reduceAdd, Int.reduceSub, Int.reduceNeg, Int.reduceToNat, Int.reduceNe, g61, g79]
      have hb := hb n
      refine ⟨fun h1 => ?_, fun h1 => ?_⟩
      · exact ⟨⟨n + 1, by omega⟩, ⟨by rw [wrapI (by omega) (by omega)]; rfl, wrapI (by omega) (by omega), rfl, rfl⟩, by simp only; omega⟩
      · have hh : n = (h % 256 / 64).toNat := by omega
        rw [dirV_rot, ← hh]
        exact ⟨rfl, rfl, rfl⟩
  · cases hg_
/-- wayfinder/wayfinderref04.Dir -/
def g60 : Con := fun args_ E_ nn_ => match args_ with
  | [.c (.v (.int .i64 h))] => some (.q (-9223372036854775808 ≤ h ∧ h ≤ 9223372036854775807) (.o (.a [.v (.int .i64 ((dirV h).1)), .v (.int .i64 ((dirV h).2.1)), .v (.int .i64 ((dirV h).2.2))])))
  | _ => none
theorem c60 : COk Try.prog 60 g60 := by
  refine cok_q Try.func60 x60_ok (by kernel_rfl) (cok_tab (cok_cons c41 (cok_cons c80 cok_nil))) ?_
  intro args_ E_ nn_ cr_ hg_
  unfold g60 at hg_
  split at hg_
  · rename_i h
    cases hg_
    refine ⟨_, _, rfl, 0, [], [.c (.v (.int .i64 h))], [], .o (.a [.v (.int .i64 ((dirV h).1)), .v (.int .i64 ((dirV h).2.1)), .v (.int .i64 ((dirV h).2.2))]), rfl, rfl, by simp only [push_cast, Nat.reduceLT, Nat.reduceAdd], by simp only [push_cast, Nat.reduceLT, Nat.reduceAdd], by simp only [push_cast, Nat.reduceLT, Nat.reduceAdd], rfl, trivial, rfl, ?_⟩
    intro hpre hlen
    refine ⟨trivial, ?_⟩
    simp (config := {maxSteps := 10000000}) only [x60, push_cast, Nat.reduceAdd, Nat.reduceSub, Nat.reduceLeDiff, Nat.reduceEqDiff, Nat.reduceBEq, Nat.reduceMul, Nat.reduceLT, reduceIte, reduceCtorEq, Int.reduceLE, Int.reduceLT, Int.reduceEq, Int.reduceMul, Int.reduceAdd, Int.reduceSub, Int.reduceNeg, Int.reduceToNat, Int.reduceNe, g41, g80]
    have hs := sq64 h
    rw [show (h % 256).tmod 64 = h % 256 % 64 from Int.tmod_eq_emod_of_nonneg (by omega)]
    rw [wrapI (n := h % 256 % 64 * (h % 256 % 64)) (by omega) (by omega), wrapI (n := 4096 - _) (by omega) (by omega), wrapI (n := 4096 + _) (by omega) (by omega), wrapI (n := 128 * _) (by omega) (by omega)]
    have hq : 0 ≤ h % 256 / 64 ∧ h % 256 / 64 < 4 := by omega
    refine ⟨by omega, by omega, ?_⟩
    have hb := rot_bd 8192 (dir0 h) (dir0_bd h)
    refine vcLoop_upd (α := {n : Nat // n ≤ (h % 256 / 64).toNat}) [0, 2, 4] 0 (fun s => [(5, .o (.c (.v (.int .i64 (s.1 : Nat)))))]) (fun s => [(1, .box [.v (.int .i64 (rot s.1 (dir0 h)).1), .v (.int .i64 (rot s.1 (dir0 h)).2.1), .v (.int .i64 (rot s.1 (dir0 h)).2.2)] 81)]) (fun s => (h % 256 / 64).toNat - s.1) ⟨0, Nat.zero_le _⟩ ?_ ?_
    · simp only [push_cast, Nat.reduceAdd, Nat.reduceSub, Nat.reduceLeDiff, Nat.reduceEqDiff, Nat.reduceBEq, Nat.reduceMul, Nat.reduceLT, reduceIte, reduceCtorEq, Int.reduceLE, Int.reduceLT, Int.reduceEq, Int.reduceMul, Int.reduceAdd, Int.reduceSub, Int.reduceNeg, Int.reduceToNat, Int.reduceNe, g41, g80, dir0, rot]
    · rintro ⟨n, hn⟩
      simp only [x60L0, push_cast, Nat.reduceAdd, Nat.reduceSub, Nat.reduceLeDiff, Nat.reduceEqDiff, Nat.reduceBEq, Nat.reduceMul, Nat.reduceLT, reduceIte, reduceCtorEq, Int.reduceLE, Int.reduceLT, Int.reduceEq, Int.reduceMul, Int.reduceAdd, Int.reduceSub, Int.reduceNeg, Int.reduceToNat, Int.reduceNe, g41, g80]
      have hb := hb n
      rw [show (h % 256).tdiv 64 = h % 256 / 64 from Int.tdiv_eq_ediv_of_nonneg (by omega), wrapI (n := h % 256 / 64) (by omega) (by omega)]
      refine ⟨fun h1 => ?_, fun h1 => ?_⟩
      · exact ⟨⟨n + 1, by omega⟩, ⟨by rw [wrapI (by omega) (by omega)]; rfl, wrapI (by omega) (by omega), rfl, rfl⟩, by simp only; omega⟩
      · have hh : n = (h % 256 / 64).toNat := by omega
        rw [dirV_rot, ← hh]
        exact ⟨rfl, rfl, rfl⟩
  · cases hg_
end Go.Proofs.Ytjcpefnbongmaaa
