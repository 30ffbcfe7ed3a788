/- A part of the proof of a statement about this seat: how a function is stepped through, and plain laws. No conditions. -/
import Derived.Test.YtkpdofgmmpbknaaGreatRows
import Derived.Test.YtkpdofgmmpbknaaGreatWJSz4
import Derived.Test.YtkpdofgmmpbknaaGreatWJQ2
import Derived.Test.YtkpdofgmmpbknaaGreatWJP1
import Derived.KernelRfl
set_option linter.unusedVariables false
set_option linter.unusedSimpArgs false
set_option maxRecDepth 20000
namespace Go.Proofs.YtkpdofgmmpbknaaGreat
open Go.Sx Go.Way
def x64 : XFn := ⟨5, (.seq (.reg false [K1 2 .mv (iV 0)]) (.seq (.reg false [O1 3 .mv 0, K2 4 (.bin .and) 3 (iV 255), O1 2 .mv 4]) .ret)), [(.s 2)]⟩
theorem x64_ok : xfn Tryz.prog Tryz.f64 = some x64.er := by kernel_rfl
def x10 : XFn := ⟨15, (.seq (.reg false [K1 4 .mv (iV 0)]) (.seq (.reg false [O1 6 .mv 0, O1 7 .mv 1, O2 8 (.bin .rem) 6 7, O1 5 .mv 8]) (.seq (.seq (.reg false [O1 9 .mv 5, K2 10 (.bin .lss) 9 (iV 0)]) (.cond (.t 10) (.reg false [O1 11 .mv 5, O1 12 .mv 1, O2 13 (.bin .add) 11 12, O1 5 .mv 13]) .skip)) (.seq (.reg false [O1 14 .mv 5, O1 4 .mv 14]) .ret)))), [(.s 4)]⟩
theorem x10_ok : xfn Tryz.prog Tryz.f10 = some x10.er := by kernel_rfl
def x84L0 : XC := (.seq (.seq (.reg false [O1 21 .mv 9, K2 22 (.bin .neq) 21 (iV 0)]) (.cond (.t 22) .skip (.exit 2))) (.block 3 (.reg true [O1 23 .mv 9, O1 24 .mv 7, O1 25 .mv 9, O2 26 (.bin .rem) 24 25, O1 7 .mv 23, O1 9 .mv 26])))
def x84L1 : XC := (.seq (.reg false [K2 15 (.bin .lss) 14 (iV 2)]) (.seq (.cond (.t 15) .skip (.exit 0)) (.seq (.block 1 (.seq (.reg false [O2 16 (.ix1 2 1) 13 14, O1 9 .mv 16]) (.seq (.reg false [O1 17 .mv 9, O1 18 .mv 9, O1 19 (.un .neg) 18, O2 20 .maxI 17 19, O1 9 .mv 20]) (.block 2 (.loop x84L0))))) (.reg false [K2 27 (.bin .add) 14 (iV 1), O1 14 .mv 27]))))
def x84 : XFn := ⟨38, (.seq (.reg false [⟨(some 6), (.alloc 124 [(iV 0), (iV 0), (iV 0)]), [], none⟩]) (.seq (.reg false [O1 10 .mv 2, O1 7 .mv 10]) (.seq (.seq (.reg false [O1 11 .mv 0, O1 12 .mv 1, ⟨(some 13), (.build [(iV 0), (iV 0)] [(0, 1), (1, 1)]), [(.t 11), (.t 12)], none⟩, K1 14 .mv (iV 0)]) (.block 0 (.loop x84L1))) (.seq (.regD [O1 28 .mv 0, O1 29 .mv 7, O2 30 (.bin .quo) 28 29, O1 31 .mv 1, O1 32 .mv 7, O2 33 (.bin .quo) 31 32, O1 34 .mv 2, O1 35 .mv 7, O2 36 (.bin .quo) 34 35, ⟨(some 37), (.build [(iV 0), (iV 0), (iV 0)] [(0, 1), (1, 1), (2, 1)]), [(.t 30), (.t 33), (.t 36)], none⟩, ⟨none, (.store 3), [(.t 6), (.t 37)], none⟩] [[], [], [0, 1], [], [], [3, 4], [], [], [6, 7], [2, 0, 1, 5, 3, 4, 8, 6, 7], [9, 2, 0, 1, 5, 3, 4, 8, 6, 7]]) .ret)))), [(.bn 6 3)]⟩
theorem x84_ok : xfn Tryz.prog Tryz.f84 = some x84.er := by kernel_rfl
def x65L0 : XC := (.seq (.reg false [O2 23 (.bin .lss) 22 21]) (.seq (.cond (.t 23) .skip (.exit 0)) (.seq (.block 1 (.reg false [O1 24 (.fld 1) 4, O1 25 .load1 24, O1 26 (.un .neg) 25, O1 27 (.fld 0) 4, O1 28 .load1 27, O1 29 (.fld 0) 4, ⟨none, (.store 1), [(.t 29), (.t 26)], none⟩, O1 30 (.fld 1) 4, ⟨none, (.store 1), [(.t 30), (.t 28)], none⟩])) (.reg false [K2 31 (.bin .add) 22 (iV 1), O1 22 .mv 31]))))
def x65 : XFn := ⟨33, (.seq (.reg false [⟨(some 2), (.alloc 124 [(iV 0), (iV 0), (iV 0)]), [], none⟩]) (.seq (.reg false [O1 5 .mv 0, O1 6 (.call 64) 5, O1 0 .mv 6]) (.seq (.reg false [O1 7 .mv 0, K2 8 (.bin .rem) 7 (iV 64), O1 3 .mv 8]) (.seq (.reg false [O1 9 .mv 3, O1 10 .mv 3, O2 11 (.bin .mul) 9 10, ⟨(some 12), (.bin .sub), [(.k (iV 4096)), (.t 11)], none⟩, O1 13 .mv 3, ⟨(some 14), (.bin .mul), [(.k (iV 128)), (.t 13)], none⟩, O1 15 .mv 3, O1 16 .mv 3, O2 17 (.bin .mul) 15 16, ⟨(some 18), (.bin .add), [(.k (iV 4096)), (.t 17)], none⟩, ⟨(some 19), (.call 84), [(.t 12), (.t 14), (.t 18)], none⟩, ⟨(some 4), (.alloc 124 [(iV 0), (iV 0), (iV 0)]), [], none⟩, ⟨none, (.store 3), [(.t 4), (.t 19)], none⟩]) (.seq (.seq (.reg false [O1 20 .mv 0, K2 21 (.bin .quo) 20 (iV 64), K1 22 .mv (iV 0)]) (.block 0 (.loop x65L0))) (.seq (.reg false [O1 32 (.loadN 3) 4, ⟨none, (.store 3), [(.t 2), (.t 32)], none⟩]) .ret)))))), [(.bn 2 3)]⟩
theorem x65_ok : xfn Tryz.prog Tryz.f65 = some x65.er := by kernel_rfl
def x128 : XFn := ⟨58, (.seq (.reg false [O1 1 (.box 124) 0, K1 2 .mv (.bool false)]) (.seq (.seq (.reg false [O1 3 (.fld 2) 1, O1 4 .load1 3, K2 5 (.bin .lss) 4 (iV 1), O1 6 .mv 5, G1 7 (.fld 2) 1 6 false, G1 8 .load1 7 6 false, GK 9 (.bin .gtr) 8 (iV 67108864) 6 false, ⟨(some 10), .pick, [(.t 6), (.k (.bool true)), (.t 9)], none⟩, O1 11 .mv 10, G1 12 (.fld 0) 1 11 false, G1 13 .load1 12 11 false, G1 14 (.fld 2) 1 11 false, G1 15 .load1 14 11 false, G1 16 (.un .neg) 15 11 false, G2 17 (.bin .lss) 13 16 11 false, ⟨(some 18), .pick, [(.t 11), (.k (.bool true)), (.t 17)], none⟩, O1 19 .mv 18, G1 20 (.fld 0) 1 19 false, G1 21 .load1 20 19 false, G1 22 (.fld 2) 1 19 false, G1 23 .load1 22 19 false, G2 24 (.bin .gtr) 21 23 19 false, ⟨(some 25), .pick, [(.t 19), (.k (.bool true)), (.t 24)], none⟩, O1 26 .mv 25, G1 27 (.fld 1) 1 26 false, G1 28 .load1 27 26 false, G1 29 (.fld 2) 1 26 false, G1 30 .load1 29 26 false, G1 31 (.un .neg) 30 26 false, G2 32 (.bin .lss) 28 31 26 false, ⟨(some 33), .pick, [(.t 26), (.k (.bool true)), (.t 32)], none⟩, O1 34 .mv 33, G1 35 (.fld 1) 1 34 false, G1 36 .load1 35 34 false, G1 37 (.fld 2) 1 34 false, G1 38 .load1 37 34 false, G2 39 (.bin .gtr) 36 38 34 false, ⟨(some 40), .pick, [(.t 34), (.k (.bool true)), (.t 39)], none⟩]) (.cond (.t 40) (.seq (.reg false [K1 2 .mv (.bool false)]) .ret) .skip)) (.seq (.reg false [O1 41 (.fld 0) 1, O1 42 .load1 41, O1 43 (.fld 0) 1, O1 44 .load1 43, O2 45 (.bin .mul) 42 44, O1 46 (.fld 1) 1, O1 47 .load1 46, O1 48 (.fld 1) 1, O1 49 .load1 48, O2 50 (.bin .mul) 47 49, O2 51 (.bin .add) 45 50, O1 52 (.fld 2) 1, O1 53 .load1 52, O1 54 (.fld 2) 1, O1 55 .load1 54, O2 56 (.bin .mul) 53 55, O2 57 (.bin .eql) 51 56, O1 2 .mv 57]) .ret))), [(.s 2)]⟩
theorem x128_ok : xfn Tryz.prog Tryz.f128 = some x128.er := by kernel_rfl
def x121 : XFn := ⟨49, (.seq (.reg false [O1 2 (.box 124) 0, O1 3 (.box 124) 1, ⟨(some 4), (.alloc 124 [(iV 0), (iV 0), (iV 0)]), [], none⟩, K1 5 .mv (iV 0)]) (.seq (.seq (.reg false [O1 7 (.loadN 3) 2, O1 8 (.call 128) 7, O1 9 (.un .not) 8, O1 10 .mv 9, G1 11 (.loadN 3) 3 10 false, G1 12 (.call 128) 11 10 false, G1 13 (.un .not) 12 10 false, ⟨(some 14), .pick, [(.t 10), (.k (.bool true)), (.t 13)], none⟩]) (.cond (.t 14) (.seq (.reg false [⟨(some 15), (.build [(iV 0), (iV 0), (iV 0)] []), [], none⟩, ⟨none, (.store 3), [(.t 4), (.t 15)], none⟩, K1 5 .mv (iV 1)]) .ret) .skip)) (.seq (.reg false [O1 16 (.fld 0) 2, O1 17 .load1 16, O1 18 (.fld 0) 3, O1 19 .load1 18, O2 20 (.bin .mul) 17 19, O1 21 (.fld 1) 2, O1 22 .load1 21, O1 23 (.fld 1) 3, O1 24 .load1 23, O2 25 (.bin .mul) 22 24, O2 26 (.bin .sub) 20 25, O1 27 (.fld 0) 2, O1 28 .load1 27, O1 29 (.fld 1) 3, O1 30 .load1 29, O2 31 (.bin .mul) 28 30, O1 32 (.fld 1) 2, O1 33 .load1 32, O1 34 (.fld 0) 3, O1 35 .load1 34, O2 36 (.bin .mul) 33 35, O2 37 (.bin .add) 31 36, O1 38 (.fld 2) 2, O1 39 .load1 38, O1 40 (.fld 2) 3, O1 41 .load1 40, O2 42 (.bin .mul) 39 41, ⟨(some 43), (.call 84), [(.t 26), (.t 37), (.t 42)], none⟩, ⟨(some 6), (.alloc 124 [(iV 0), (iV 0), (iV 0)]), [], none⟩, ⟨none, (.store 3), [(.t 6), (.t 43)], none⟩]) (.seq (.seq (.reg false [O1 44 (.fld 2) 6, O1 45 .load1 44, K2 46 (.bin .gtr) 45 (iV 67108864)]) (.cond (.t 46) (.seq (.reg false [⟨(some 47), (.build [(iV 0), (iV 0), (iV 0)] []), [], none⟩, ⟨none, (.store 3), [(.t 4), (.t 47)], none⟩, K1 5 .mv (iV 2)]) .ret) .skip)) (.seq (.reg false [O1 48 (.loadN 3) 6, ⟨none, (.store 3), [(.t 4), (.t 48)], none⟩, K1 5 .mv (iV 0)]) .ret))))), [(.bn 4 3), (.s 5)]⟩
theorem x121_ok : xfn Tryz.prog Tryz.f121 = some x121.er := by kernel_rfl
def x109 : XFn := ⟨16, (.seq (.reg false [⟨(some 4), (.alloc 124 [(iV 0), (iV 0), (iV 0)]), [], none⟩]) (.seq (.reg false [O1 8 .mv 0, O1 9 (.call 65) 8, O1 10 .mv 1, O1 11 (.call 65) 10, O2 12 (.call 121) 9 11, O1 7 .mv 12, O1 13 (.ext 0) 7, O1 14 (.ext 1) 7, ⟨(some 5), (.alloc 124 [(iV 0), (iV 0), (iV 0)]), [], none⟩, ⟨none, (.store 3), [(.t 5), (.t 13)], none⟩, O1 6 .mv 14]) (.seq (.reg false [O1 15 (.loadN 3) 5, ⟨none, (.store 3), [(.t 4), (.t 15)], none⟩]) .ret))), [(.bn 4 3)]⟩
theorem x109_ok : xfn Tryz.prog Tryz.f109 = some x109.er := by kernel_rfl
def bmX (a b c d e f : Int) : Int × Int × Int := low (a * d - b * e) (a * e + b * d) (c * f)
def bmE (a b c d e f : Int) : Int := if vecB a b c = false ∨ vecB d e f = false then 1 else if 67108864 < (bmX a b c d e f).2.2 then 2 else 0
def bmT (a b c d e f : Int) : Int × Int × Int := if bmE a b c d e f = 0 then bmX a b c d e f else (0, 0, 0)
def beamV (h m : Int) : Int × Int × Int := bmT (dirV h).1 (dirV h).2.1 (dirV h).2.2 (dirV m).1 (dirV m).2.1 (dirV m).2.2
def g64 : Con := fun args_ E_ nn_ => match args_ with
  | [.c (.v (.int .i64 h))] => some (.q (True) (.o (.c (.v (.int .i64 (h % 256))))))
  | _ => none
theorem c64 : COk Tryz.prog 64 g64 := by
  refine cok_q Tryz.func64 x64_ok (by kernel_rfl) (cok_tab cok_nil) ?_
  intro args_ E_ nn_ cr_ hg_
  unfold g64 at hg_
  split at hg_
  · rename_i h
    cases hg_
    refine ⟨_, _, rfl, 0, [], [.c (.v (.int .i64 h))], [], .o (.c (.v (.int .i64 (h % 256)))), rfl, rfl, and3 (by simp only [push_cast, Nat.reduceLT, Nat.reduceAdd]) ⟨rfl, trivial, rfl, ?_⟩⟩
    intro hpre hlen
    refine ⟨trivial, ?_⟩
    simp (maxSteps := 9999999) only [x64, push_cast, simprocAttr]
    exact and_255 h
  · cases hg_
def g10 : Con := fun args_ E_ nn_ => match args_ with
  | [.c (.v (.int .i64 a)), .c (.v (.int .i64 b))] => some (.q (0 < b ∧ -9223372036854775808 ≤ a ∧ a ≤ 9223372036854775807 ∧ b ≤ 9223372036854775807) (.o (.c (.v (.int .i64 (a % b))))))
  | _ => none
theorem c10 : COk Tryz.prog 10 g10 := by
  refine cok_q Tryz.func10 x10_ok (by kernel_rfl) (cok_tab cok_nil) ?_
  intro args_ E_ nn_ cr_ hg_
  unfold g10 at hg_
  split at hg_
  · rename_i a b
    cases hg_
    refine ⟨_, _, rfl, 0, [], [.c (.v (.int .i64 a)), .c (.v (.int .i64 b))], [], .o (.c (.v (.int .i64 (a % b)))), rfl, rfl, and3 (by simp only [push_cast, Nat.reduceLT, Nat.reduceAdd]) ⟨rfl, trivial, rfl, ?_⟩⟩
    intro hpre hlen
    refine ⟨trivial, ?_⟩
    simp (maxSteps := 9999999) only [x10, push_cast, simprocAttr]
    obtain ⟨h1, h2, h3, h4⟩ := hpre
    have k1 := Int.emod_def a b
    have k2 := Int.tmod_def a b
    have k3 := Int.emod_lt_of_pos a h1
    have k4 := Int.emod_nonneg a (show b ≠ 0 by omega)
    refine ⟨by omega, fun h => ?_, fun h => ?_⟩
    · have e := floor_neg h1 h
      have e2 : a.tmod b + b = a % b := by rw [k1, k2, ← e, Int.mul_sub, Int.mul_one]; omega
      rw [e2]
      exact wrapI (by omega) (by omega)
    · rw [k1, k2, floor_pos h1 h]
  · cases hg_
def g84 : Con := fun args_ E_ nn_ => match args_ with
  | [.c (.v (.int .i64 x)), .c (.v (.int .i64 y)), .c (.v (.int .i64 d))] => some (.q (0 < d ∧ d ≤ 4611686018427387904 ∧ -4611686018427387904 ≤ x ∧ x ≤ 4611686018427387904 ∧ -4611686018427387904 ≤ y ∧ y ≤ 4611686018427387904) (.o (.a [.v (.int .i64 ((low x y d).1)), .v (.int .i64 ((low x y d).2.1)), .v (.int .i64 ((low x y d).2.2))])))
  | _ => none
theorem c84 : COk Tryz.prog 84 g84 := by
  refine cok_q Tryz.func84 x84_ok (by kernel_rfl) (cok_tab cok_nil) ?_
  intro args_ E_ nn_ cr_ hg_
  unfold g84 at hg_
  split at hg_
  · rename_i x y d
    cases hg_
    refine ⟨_, _, rfl, 0, [], [.c (.v (.int .i64 x)), .c (.v (.int .i64 y)), .c (.v (.int .i64 d))], [], .o (.a [.v (.int .i64 ((low x y d).1)), .v (.int .i64 ((low x y d).2.1)), .v (.int .i64 ((low x y d).2.2))]), rfl, rfl, and3 (by simp only [push_cast, Nat.reduceLT, Nat.reduceAdd]) ⟨rfl, trivial, rfl, ?_⟩⟩
    intro hpre hlen
    refine ⟨trivial, ?_⟩
    simp (maxSteps := 9999999) only [x84, push_cast, simprocAttr]
    obtain ⟨hd, hd', hx, hx', hy, hy'⟩ := hpre
    refine vcLoop_upd (α := {p : Int × Int // (p.1 = 0 ∧ p.2 = d) ∨ (p.1 = 1 ∧ p.2 = (Int.gcd d x : Int)) ∨ (p.1 = 2 ∧ p.2 = gcd3 x y d)}) [0, 1, 2, 6, 13] 0 (fun s => [(7, .o (.c (.v (.int .i64 (s.1.2))))), (14, .o (.c (.v (.int .i64 (s.1.1)))))]) (fun s => []) (fun s => (2 - s.1.1).toNat) ⟨(0, d), .inl ⟨rfl, rfl⟩⟩ ?_ ?_
    · simp only [push_cast, simprocAttr]
    · rintro ⟨⟨i, g⟩, ⟨hi, he⟩ | ⟨hi, he⟩ | ⟨hi, he⟩⟩
      · simp only at hi he
        subst hi
        simp only [x84L1, push_cast, simprocAttr]
        have hg : 0 < g := by omega
        have hm0 : 0 ≤ max x (-x) := by omega
        rw [wrapI (n := -x) (by omega) (by omega)]
        refine vcLoop_upd (α := {p : Int × Int // 0 ≤ p.1 ∧ 0 ≤ p.2 ∧ p.1 ≤ 9223372036854775807 ∧ p.2 ≤ 9223372036854775807 ∧ Int.gcd p.1 p.2 = Int.gcd g x}) [0, 1, 2, 6, 13, 14] 0 (fun s => [(7, .o (.c (.v (.int .i64 (s.1.1))))), (9, .o (.c (.v (.int .i64 (s.1.2)))))]) (fun s => []) (fun s => s.1.2.toNat) ⟨(g, max x (-x)), Int.le_of_lt hg, hm0, by simp only; omega, by simp only; omega, gcd_abs g x⟩ ?_ ?_
        · simp only [push_cast, simprocAttr]
        · rintro ⟨⟨g2, n2⟩, hg2, hn2, hg2', hn2', he2⟩
          simp only [x84L0, push_cast, simprocAttr]
          simp only at hg2 hn2 hg2' hn2' he2
          refine ⟨fun h => ?_, fun h => ?_⟩
          · have hp : 0 < n2 := by omega
            obtain ⟨hm1, hm2⟩ := emod_range (a := g2) (b := n2) hp
            have hs := Go.Way.gcd_step g2 n2 hn2 hg2
            rw [tmod_pos hg2] at hs ⊢
            have hm3 : g2 % n2 ≤ 9223372036854775807 := by omega
            have hm4 : (g2 % n2).toNat < n2.toNat := by omega
            refine ⟨h, ⟨(n2, g2 % n2), hn2, hm1, hn2', hm3, ?_⟩, ⟨rfl, rfl⟩, hm4⟩
            simp only
            rw [hs]; exact he2
          · subst h
            simp only [Int.gcd_zero_right] at he2
            have e2 : g2 = (Int.gcd g x : Int) := by rw [← he2, Int.natAbs_of_nonneg hg2]
            refine ⟨⟨(0 + 1, g2), .inr (.inl ⟨rfl, by simp only; rw [e2, he]⟩)⟩, ⟨rfl, by rw [wrapI (by omega) (by omega)]; rfl⟩, by simp⟩
      · simp only at hi he
        subst hi
        simp only [x84L1, push_cast, simprocAttr]
        have hg : 0 < g := by
          have : Int.gcd d x ≠ 0 := fun h0 => by have := (Int.gcd_eq_zero_iff.1 h0).1; omega
          omega
        have hgd : g ≤ d := by rw [he]; exact Int.le_of_dvd hd (Int.gcd_dvd_left ..)
        have hm0 : 0 ≤ max y (-y) := by omega
        rw [wrapI (n := -y) (by omega) (by omega)]
        refine vcLoop_upd (α := {p : Int × Int // 0 ≤ p.1 ∧ 0 ≤ p.2 ∧ p.1 ≤ 9223372036854775807 ∧ p.2 ≤ 9223372036854775807 ∧ Int.gcd p.1 p.2 = Int.gcd g y}) [0, 1, 2, 6, 13, 14] 0 (fun s => [(7, .o (.c (.v (.int .i64 (s.1.1))))), (9, .o (.c (.v (.int .i64 (s.1.2)))))]) (fun s => []) (fun s => s.1.2.toNat) ⟨(g, max y (-y)), Int.le_of_lt hg, hm0, by simp only; omega, by simp only; omega, gcd_abs g y⟩ ?_ ?_
        · simp only [push_cast, simprocAttr]
        · rintro ⟨⟨g2, n2⟩, hg2, hn2, hg2', hn2', he2⟩
          simp only [x84L0, push_cast, simprocAttr]
          simp only at hg2 hn2 hg2' hn2' he2
          refine ⟨fun h => ?_, fun h => ?_⟩
          · have hp : 0 < n2 := by omega
            obtain ⟨hm1, hm2⟩ := emod_range (a := g2) (b := n2) hp
            have hs := Go.Way.gcd_step g2 n2 hn2 hg2
            rw [tmod_pos hg2] at hs ⊢
            have hm3 : g2 % n2 ≤ 9223372036854775807 := by omega
            have hm4 : (g2 % n2).toNat < n2.toNat := by omega
            refine ⟨h, ⟨(n2, g2 % n2), hn2, hm1, hn2', hm3, ?_⟩, ⟨rfl, rfl⟩, hm4⟩
            simp only
            rw [hs]; exact he2
          · subst h
            simp only [Int.gcd_zero_right] at he2
            have e2 : g2 = (Int.gcd g y : Int) := by rw [← he2, Int.natAbs_of_nonneg hg2]
            refine ⟨⟨(1 + 1, g2), .inr (.inr ⟨rfl, by simp only; rw [e2, he, gcd3_eq]⟩)⟩, ⟨rfl, by rw [wrapI (by omega) (by omega)]; rfl⟩, by simp⟩
      · simp only at hi he
        subst hi
        simp only [x84L1, push_cast, simprocAttr]
        rw [he]
        obtain ⟨e1, e2, e3⟩ := tdiv_gcd3 (x := x) (y := y) (d := d)
        have hg := gcd3_pos (x := x) (y := y) hd
        have b1 := div_abs hg hx hx'
        have b2 := div_abs hg hy hy'
        have b3 := div_abs hg (show -4611686018427387904 ≤ d by omega) hd'
        rw [e1, e2, e3, wrapI b1.1 b1.2, wrapI b2.1 b2.2, wrapI b3.1 b3.2]
        have : ¬ gcd3 x y d = 0 := by omega
        simp only [this, not_false_eq_true, true_and, low, and_true, and_self]
        try rfl
  · cases hg_
def g65 : Con := fun args_ E_ nn_ => match args_ with
  | [.c (.v (.int .i64 h))] => some (.q (True) (.o (.a [.v (.int .i64 ((dirV h).1)), .v (.int .i64 ((dirV h).2.1)), .v (.int .i64 ((dirV h).2.2))])))
  | _ => none
theorem c65 : COk Tryz.prog 65 g65 := by
  refine cok_q Tryz.func65 x65_ok (by kernel_rfl) (cok_tab (cok_cons c64 (cok_cons c84 cok_nil))) ?_
  intro args_ E_ nn_ cr_ hg_
  unfold g65 at hg_
  split at hg_
  · rename_i h
    cases hg_
    refine ⟨_, _, rfl, 0, [], [.c (.v (.int .i64 h))], [], .o (.a [.v (.int .i64 ((dirV h).1)), .v (.int .i64 ((dirV h).2.1)), .v (.int .i64 ((dirV h).2.2))]), rfl, rfl, and3 (by simp only [push_cast, Nat.reduceLT, Nat.reduceAdd]) ⟨rfl, trivial, rfl, ?_⟩⟩
    intro hpre hlen
    refine ⟨trivial, ?_⟩
    simp (maxSteps := 9999999) only [x65, push_cast, simprocAttr, g64, g84]
    have hs := sq64 h
    rw [show (h % 256).tmod 64 = h % 256 % 64 from Int.tmod_eq_emod_of_nonneg (by omega)]
    rw [show (h % 256).tdiv 64 = h % 256 / 64 from Int.tdiv_eq_ediv_of_nonneg (by omega), wrapI (n := h % 256 / 64) (by omega) (by omega)]
    rw [wrapI (n := h % 256 % 64 * (h % 256 % 64)) (by omega) (by omega), wrapI (n := 4096 - _) (by omega) (by omega), wrapI (n := 4096 + _) (by omega) (by omega), wrapI (n := 128 * _) (by omega) (by omega)]
    have hq : 0 ≤ h % 256 / 64 ∧ h % 256 / 64 < 4 := by omega
    refine ⟨by omega, ?_⟩
    have hb := rot_bd 8192 (dir0 h) (dir0_bd h)
    refine vcLoop_upd (α := {n : Nat // n ≤ (h % 256 / 64).toNat}) [2, 4, 21] 0 (fun s => [(22, .o (.c (.v (.int .i64 (s.1 : Nat)))))]) (fun s => [(1, .box [.v (.int .i64 (rot s.1 (dir0 h)).1), .v (.int .i64 (rot s.1 (dir0 h)).2.1), .v (.int .i64 (rot s.1 (dir0 h)).2.2)] 124)]) (fun s => (h % 256 / 64).toNat - s.1) ⟨0, Nat.zero_le _⟩ ?_ ?_
    · simp only [push_cast, simprocAttr, g64, g84, dir0, rot]
    · rintro ⟨n, hn⟩
      simp only [x65L0, push_cast, simprocAttr, g64, g84]
      have hb := hb n
      refine ⟨fun h1 => ?_, fun h1 => ?_⟩
      · exact ⟨⟨n + 1, by omega⟩, ⟨by rw [wrapI (by omega) (by omega)]; rfl, wrapI (by omega) (by omega), rfl, rfl⟩, by simp only; omega⟩
      · have hh : n = (h % 256 / 64).toNat := by omega
        rw [dirV_rot, ← hh]
        exact ⟨rfl, rfl, rfl⟩
  · cases hg_
def g128 : Con := fun args_ E_ nn_ => match args_ with
  | [.a [.v (.int .i64 v_X), .v (.int .i64 v_Y), .v (.int .i64 v_D)]] => some (.q (True) (.o (.c (.v (.bool (vecB v_X v_Y v_D))))))
  | _ => none
theorem c128 : COk Tryz.prog 128 g128 := by
  refine cok_q Tryz.func128 x128_ok (by kernel_rfl) (cok_tab cok_nil) ?_
  intro args_ E_ nn_ cr_ hg_
  unfold g128 at hg_
  split at hg_
  · rename_i v_X v_Y v_D
    cases hg_
    refine ⟨_, _, rfl, 0, [], [.a [.v (.int .i64 v_X), .v (.int .i64 v_Y), .v (.int .i64 v_D)]], [], .o (.c (.v (.bool (vecB v_X v_Y v_D)))), rfl, rfl, and3 (by simp only [push_cast, Nat.reduceLT, Nat.reduceAdd]) ⟨rfl, trivial, rfl, ?_⟩⟩
    intro hpre hlen
    refine ⟨trivial, ?_⟩
    simp (maxSteps := 9999999) only [x128, push_cast, simprocAttr]
    unfold vecB
    refine ⟨fun h => ?_, fun h1 h2 h3 h4 h5 h6 => ?_⟩
    · symm; rw [decide_eq_false_iff_not]; rintro ⟨a1, a2, a3, a4, a5, a6, a7⟩
      rw [wrapI (n := -v_D) (by omega) (by omega)] at h
      omega
    · rw [wrapI (n := -v_D) (by omega) (by omega)] at h3 h5
      have b1 := mulB (a := v_X) (b := v_X) (A := 67108864) (B := 67108864) (by omega) (by omega) (by omega) (by omega)
      have b2 := mulB (a := v_Y) (b := v_Y) (A := 67108864) (B := 67108864) (by omega) (by omega) (by omega) (by omega)
      have b3 := mulB (a := v_D) (b := v_D) (A := 67108864) (B := 67108864) (by omega) (by omega) (by omega) (by omega)
      rw [wrapI (n := v_X * v_X) (by omega) (by omega), wrapI (n := v_Y * v_Y) (by omega) (by omega), wrapI (n := v_D * v_D) (by omega) (by omega), wrapI (n := v_X * v_X + v_Y * v_Y) (by omega) (by omega)]
      rw [Bool.eq_iff_iff]; simp only [beq_iff_eq, decide_eq_true_eq]
      omega
  · cases hg_
def g121 : Con := fun args_ E_ nn_ => match args_ with
  | [.a [.v (.int .i64 a_X), .v (.int .i64 a_Y), .v (.int .i64 a_D)], .a [.v (.int .i64 b_X), .v (.int .i64 b_Y), .v (.int .i64 b_D)]] => some (.q (True) (.t [.a [.v (.int .i64 (bmT a_X a_Y a_D b_X b_Y b_D).1), .v (.int .i64 (bmT a_X a_Y a_D b_X b_Y b_D).2.1), .v (.int .i64 (bmT a_X a_Y a_D b_X b_Y b_D).2.2)], .c (.v (.int .i64 (bmE a_X a_Y a_D b_X b_Y b_D)))]))
  | _ => none
theorem c121 : COk Tryz.prog 121 g121 := by
  refine cok_q Tryz.func121 x121_ok (by kernel_rfl) (cok_tab (cok_cons c128 (cok_cons c84 cok_nil))) ?_
  intro args_ E_ nn_ cr_ hg_
  unfold g121 at hg_
  split at hg_
  · rename_i a_X a_Y a_D b_X b_Y b_D
    cases hg_
    refine ⟨_, _, rfl, 0, [], [.a [.v (.int .i64 a_X), .v (.int .i64 a_Y), .v (.int .i64 a_D)], .a [.v (.int .i64 b_X), .v (.int .i64 b_Y), .v (.int .i64 b_D)]], [], .t [.a [.v (.int .i64 (bmT a_X a_Y a_D b_X b_Y b_D).1), .v (.int .i64 (bmT a_X a_Y a_D b_X b_Y b_D).2.1), .v (.int .i64 (bmT a_X a_Y a_D b_X b_Y b_D).2.2)], .c (.v (.int .i64 (bmE a_X a_Y a_D b_X b_Y b_D)))], rfl, rfl, and3 (by simp only [push_cast, Nat.reduceLT, Nat.reduceAdd]) ⟨rfl, trivial, rfl, ?_⟩⟩
    intro hpre hlen
    refine ⟨trivial, ?_⟩
    simp (maxSteps := 9999999) only [x121, push_cast, simprocAttr, g128, g84]
    refine ⟨fun h => by simp [bmT, bmE, h], fun h1 h2 => ?_⟩
    have a := vec_bd h1; have b := vec_bd h2
    have m1 := mulB (a := a_X) (b := b_X) (A := 67108864) (B := 67108864) (by omega) (by omega) (by omega) (by omega)
    have m2 := mulB (a := a_Y) (b := b_Y) (A := 67108864) (B := 67108864) (by omega) (by omega) (by omega) (by omega)
    have m3 := mulB (a := a_X) (b := b_Y) (A := 67108864) (B := 67108864) (by omega) (by omega) (by omega) (by omega)
    have m4 := mulB (a := a_Y) (b := b_X) (A := 67108864) (B := 67108864) (by omega) (by omega) (by omega) (by omega)
    have m5 := mulB (a := a_D) (b := b_D) (A := 67108864) (B := 67108864) (by omega) (by omega) (by omega) (by omega)
    have m6 := Int.mul_pos (show 0 < a_D by omega) (show 0 < b_D by omega)
    simp (disch := omega) only [wrapI]
    refine ⟨by omega, fun h => ?_, fun h => ?_⟩
    · have e : bmE a_X a_Y a_D b_X b_Y b_D = 2 := by simp [bmE, bmX, h1, h2, h]
      simp [bmT, e]
    · have e : bmE a_X a_Y a_D b_X b_Y b_D = 0 := by simp [bmE, bmX, h1, h2, h]
      simp [bmT, e, bmX]
  · cases hg_
def g109 : Con := fun args_ E_ nn_ => match args_ with
  | [.c (.v (.int .i64 h)), .c (.v (.int .i64 mark))] => some (.q (True) (.o (.a [.v (.int .i64 (beamV h mark).1), .v (.int .i64 (beamV h mark).2.1), .v (.int .i64 (beamV h mark).2.2)])))
  | _ => none
theorem c109 : COk Tryz.prog 109 g109 := by
  refine cok_q Tryz.func109 x109_ok (by kernel_rfl) (cok_tab (cok_cons c65 (cok_cons c121 cok_nil))) ?_
  intro args_ E_ nn_ cr_ hg_
  unfold g109 at hg_
  split at hg_
  · rename_i h mark
    cases hg_
    refine ⟨_, _, rfl, 0, [], [.c (.v (.int .i64 h)), .c (.v (.int .i64 mark))], [], .o (.a [.v (.int .i64 (beamV h mark).1), .v (.int .i64 (beamV h mark).2.1), .v (.int .i64 (beamV h mark).2.2)]), rfl, rfl, and3 (by simp only [push_cast, Nat.reduceLT, Nat.reduceAdd]) ⟨rfl, trivial, rfl, ?_⟩⟩
    intro hpre hlen
    refine ⟨trivial, ?_⟩
    simp (maxSteps := 9999999) only [x109, push_cast, simprocAttr, g65, g121]
    exact ⟨rfl, rfl, rfl⟩
  · cases hg_
end Go.Proofs.YtkpdofgmmpbknaaGreat
namespace Go.Proofs.YtkpdofgmmpbknaaGreat
open Go.Sx Go.Way
def InS (px py vx vy x0 y0 x1 y1 : Int) (t : Int × Int) : Prop := 0 < t.2 ∧ 0 ≤ t.1 ∧ inC t.1 t.2 px vx x0 x1 ∧ inC t.1 t.2 py vy y0 y1
def Ent (px py vx vy x0 y0 x1 y1 : Int) (t : Int × Int) : Prop := InS px py vx vy x0 y0 x1 y1 t ∧ ∀ s, InS px py vx vy x0 y0 x1 y1 s → flE t s
def Ext (px py vx vy x0 y0 x1 y1 : Int) (t : Int × Int) : Prop := InS px py vx vy x0 y0 x1 y1 t ∧ ∀ s, InS px py vx vy x0 y0 x1 y1 s → flE s t
theorem thr_ent {px py vx vy vd x0 y0 x1 y1 : Int} (h : thrB px py vx vy vd x0 y0 x1 y1 = true) :
    Ent px py vx vy x0 y0 x1 y1 (thrL px py vx vy x0 y0 x1 y1) ∧ Ext px py vx vy x0 y0 x1 y1 (thrH px py vx vy x0 y0 x1 y1) := by
  simp only [thrB, Bool.and_eq_true] at h
  obtain ⟨⟨⟨⟨h1, h2⟩, h3⟩, h4⟩, h5⟩ := h
  have a1 := sPt_bd h1; have a2 := vec_bd h2; have a3 := sRect_bd h3
  have pos1 : 0 < (slabL (0, 1) px vx x0 x1).2 := slabL_pos (by simp)
  have pos2 : 0 < (slabH (8388608, 1) px vx x0 x1).2 := slabH_pos (by simp)
  have posL : 0 < (thrL px py vx vy x0 y0 x1 y1).2 := slabL_pos pos1
  have posH : 0 < (thrH px py vx vy x0 y0 x1 y1).2 := slabH_pos pos2
  rw [slabB_iff] at h4 h5
  have hLH : flE (thrL px py vx vy x0 y0 x1 y1) (thrH px py vx vy x0 y0 x1 y1) := by
    by_cases hy : vy = 0
    · have hx : vx ≠ 0 := (vec_ne h2).resolve_right (fun h => h hy)
      have := h4.2 hx
      unfold thrL thrH
      have e1 : slabL (slabL (0, 1) px vx x0 x1) py vy y0 y1 = slabL (0, 1) px vx x0 x1 := if_pos hy
      have e2 : slabH (slabH (8388608, 1) px vx x0 x1) py vy y0 y1 = slabH (8388608, 1) px vx x0 x1 := if_pos hy
      rw [e1, e2]; exact this
    · exact h5.2 hy
  have key : ∀ n m : Int, 0 < m → ((flE (thrL px py vx vy x0 y0 x1 y1) (n, m) ∧ flE (n, m) (thrH px py vx vy x0 y0 x1 y1)) ↔ InS px py vx vy x0 y0 x1 y1 (n, m)) := by
    intro n m hm
    unfold thrL thrH
    rw [slabLH pos1 pos2 hm, slabLH (by simp) (by simp) hm]
    unfold flE InS
    simp only
    constructor
    · rintro ⟨⟨⟨a, b⟩, c⟩, d⟩
      refine ⟨hm, by omega, ?_, ?_⟩
      · by_cases hx : vx = 0
        · exact (inC_deg hm hx).2 (h4.1 hx)
        · exact c hx
      · by_cases hy : vy = 0
        · exact (inC_deg hm hy).2 (h5.1 hy)
        · exact d hy
    · rintro ⟨_, a, c, d⟩
      have hb : n ≤ 8388608 * m := by
        rcases vec_ne h2 with hh | hh
        · exact inC_bd hm a hh a1.1 a3.1 a3.2.2.1 c
        · exact inC_bd hm a hh a1.2 a3.2.1 a3.2.2.2.1 d
      exact ⟨⟨⟨by omega, by omega⟩, fun _ => c⟩, fun _ => d⟩
  exact ⟨⟨(key _ _ posL).1 ⟨flE_refl _, hLH⟩, fun s hs => ((key s.1 s.2 hs.1).2 hs).1⟩, ⟨(key _ _ posH).1 ⟨hLH, flE_refl _⟩, fun s hs => ((key s.1 s.2 hs.1).2 hs).2⟩⟩
theorem thr_of {px py vx vy vd x0 y0 x1 y1 : Int} (h1 : sPtB px py = true) (h2 : vecB vx vy vd = true) (h3 : sRectB x0 y0 x1 y1 = true) {t : Int × Int} (ht : InS px py vx vy x0 y0 x1 y1 t) : thrB px py vx vy vd x0 y0 x1 y1 = true := by
  obtain ⟨n, m⟩ := t
  obtain ⟨hm, hn, hx, hy⟩ := ht
  simp only at hm hn hx hy
  have a1 := sPt_bd h1; have a2 := vec_bd h2; have a3 := sRect_bd h3
  have pos1 : 0 < (slabL (0, 1) px vx x0 x1).2 := slabL_pos (by simp)
  have pos2 : 0 < (slabH (8388608, 1) px vx x0 x1).2 := slabH_pos (by simp)
  have posL : 0 < (thrL px py vx vy x0 y0 x1 y1).2 := slabL_pos pos1
  have posH : 0 < (thrH px py vx vy x0 y0 x1 y1).2 := slabH_pos pos2
  have hb : n ≤ 8388608 * m := by
    rcases vec_ne h2 with h | h
    · exact inC_bd hm hn h a1.1 a3.1 a3.2.2.1 hx
    · exact inC_bd hm hn h a1.2 a3.2.1 a3.2.2.2.1 hy
  have k2 := (slabLH (p := px) (d := vx) (a := x0) (b := x1) (lo := (0, 1)) (hi := (8388608, 1)) (by simp) (by simp) hm).2 ⟨⟨by unfold flE; simp only; omega, by unfold flE; simp only; omega⟩, fun _ => hx⟩
  have k1 := (slabLH (p := py) (d := vy) (a := y0) (b := y1) pos1 pos2 hm).2 ⟨k2, fun _ => hy⟩
  simp only [thrB, Bool.and_eq_true]
  refine ⟨⟨⟨⟨h1, h2⟩, h3⟩, ?_⟩, ?_⟩
  · rw [slabB_iff]
    exact ⟨fun h => (inC_deg hm h).1 hx, fun _ => flE_trans pos1 hm pos2 k2.1 k2.2⟩
  · rw [slabB_iff]
    exact ⟨fun h => (inC_deg hm h).1 hy, fun _ => flE_trans posL hm posH k1.1 k1.2⟩
def entF (px py vx vy vd x0 y0 x1 y1 : Int) : Int × Int := lowF ((thrL px py vx vy x0 y0 x1 y1).1 * vd) (thrL px py vx vy x0 y0 x1 y1).2
theorem inC_conv {t1 t2 s1 s2 p d a b : Int} (ht : 0 < t2) (hs : 0 < s2) (h0 : 0 ≤ t1) (hle : t1 * s2 ≤ s1 * t2) (h1 : a ≤ p ∧ p ≤ b) (h2 : inC s1 s2 p d a b) : inC t1 t2 p d a b := by
  unfold inC at *
  have hp : 0 ≤ t1 * s2 := Int.mul_nonneg h0 (by omega)
  have ea : a * t2 * s2 ≤ p * t2 * s2 := Int.mul_le_mul_of_nonneg_right (Int.mul_le_mul_of_nonneg_right h1.1 (by omega)) (by omega)
  have eb : p * t2 * s2 ≤ b * t2 * s2 := Int.mul_le_mul_of_nonneg_right (Int.mul_le_mul_of_nonneg_right h1.2 (by omega)) (by omega)
  have f1 := Int.mul_le_mul_of_nonneg_right h2.1 (Int.le_of_lt ht)
  have f2 := Int.mul_le_mul_of_nonneg_right h2.2 (Int.le_of_lt ht)
  have r1 : (p * s2 + s1 * d) * t2 = p * t2 * s2 + s1 * t2 * d := by grind
  have r2 : a * s2 * t2 = a * t2 * s2 := by ac_rfl
  have r3 : b * s2 * t2 = b * t2 * s2 := by ac_rfl
  have r4 : (p * t2 + t1 * d) * s2 = p * t2 * s2 + t1 * s2 * d := by grind
  rw [r1, r2] at f1
  rw [r1, r3] at f2
  constructor
  · refine Int.le_of_mul_le_mul_right (a := s2) ?_ hs
    rw [r4]
    rcases Int.le_total 0 d with hd | hd
    · have := Int.mul_nonneg hp hd; omega
    · have := Int.mul_le_mul_of_nonpos_right hle hd; omega
  · refine Int.le_of_mul_le_mul_right (a := s2) ?_ hs
    rw [r4]
    rcases Int.le_total 0 d with hd | hd
    · have := Int.mul_le_mul_of_nonneg_right hle hd; omega
    · have := Int.mul_nonpos_of_nonneg_of_nonpos hp hd; omega
theorem row_at {n m p d : Int} {K : Int} (hm : 0 < m) (h : inC n m p d 0 (64 * K)) :
    (0 ≤ (p * m + n * d) / (64 * m) ∧ (p * m + n * d) / (64 * m) ≤ K) ∧ inC n m p d ((p * m + n * d) / (64 * m) * 64) ((p * m + n * d) / (64 * m) * 64 + 64) := by
  unfold inC at *
  generalize p * m + n * d = z at *
  have h64 : 0 < 64 * m := by omega
  have q1 := Int.ediv_mul_le z (show 64 * m ≠ 0 by omega)
  have q2 := Int.lt_ediv_add_one_mul_self z h64
  refine ⟨⟨Int.ediv_nonneg (by omega) (by omega), ?_⟩, ?_, ?_⟩
  · refine Int.ediv_le_of_le_mul h64 ?_
    have : K * (64 * m) = 64 * K * m := by ac_rfl
    omega
  · have : z / (64 * m) * 64 * m = z / (64 * m) * (64 * m) := by ac_rfl
    omega
  · have : (z / (64 * m) * 64 + 64) * m = (z / (64 * m) + 1) * (64 * m) := by grind
    omega
theorem exit_face {p d b : Int} (h : d ≠ 0) : (sHi p d 0 b = (p, -d) ∧ d < 0 ∨ sHi p d 0 b = (b - p, d) ∧ 0 < d) := by
  unfold sHi
  by_cases h2 : d < 0
  · left; rw [if_pos h2]; simp [h2]
  · right; rw [if_neg h2]; exact ⟨rfl, by omega⟩
theorem slabH_or {hi : Int × Int} {p d a b : Int} : slabH hi p d a b = hi ∨ (d ≠ 0 ∧ slabH hi p d a b = sHi p d a b) := by
  unfold slabH fmin
  by_cases h : d = 0
  · left; rw [if_pos h]
  · rw [if_neg h]
    split
    · right; exact ⟨h, rfl⟩
    · left; rfl
theorem face_in {p d K n m : Int} (hd : d ≠ 0) (hm : 0 < m) (h : (n, m) = sHi p d 0 (64 * K)) : ∃ c, (c = -1 ∨ c = K) ∧ inC n m p d (c * 64) (c * 64 + 64) := by
  rcases exit_face (p := p) (b := 64 * K) hd with ⟨e, h2⟩ | ⟨e, h2⟩
  · rw [e] at h
    cases h
    refine ⟨-1, .inl rfl, ?_⟩
    unfold inC
    have : p * -d + p * d = 0 := by rw [Int.mul_neg]; omega
    omega
  · rw [e] at h
    cases h
    refine ⟨K, .inr rfl, ?_⟩
    unfold inC
    have e1 : p * d + (64 * K - p) * d = K * 64 * d := by grind
    have e2 : (K * 64 + 64) * d = K * 64 * d + 64 * d := by grind
    omega
theorem ring {W H px py vx vy vd cx cy : Int} {t : Int × Int} (hv : vecB vx vy vd = true) (hW : 1 ≤ W ∧ W ≤ 64) (hH : 1 ≤ H ∧ H ≤ 64) (hx : 0 ≤ px ∧ px ≤ 64 * W) (hy : 0 ≤ py ∧ py ≤ 64 * H)
    (ht : InS px py vx vy (cx * 64) (cy * 64) (cx * 64 + 64) (cy * 64 + 64) t) (hc : ¬ ((-1 ≤ cx ∧ cx ≤ W) ∧ -1 ≤ cy ∧ cy ≤ H)) :
    ∃ bx b2 s, ((-1 ≤ bx ∧ bx ≤ W) ∧ -1 ≤ b2 ∧ b2 ≤ H) ∧ (bx = -1 ∨ bx = W ∨ b2 = -1 ∨ b2 = H) ∧ InS px py vx vy (bx * 64) (b2 * 64) (bx * 64 + 64) (b2 * 64 + 64) s ∧ s.1 * t.2 < t.1 * s.2 := by
  have h1 : sPtB px py = true := by simp only [sPtB, nearB, Bool.and_eq_true, decide_eq_true_eq]; omega
  have h3 : sRectB 0 0 (64 * W) (64 * H) = true := by simp only [sRectB, nearB, Bool.and_eq_true, decide_eq_true_eq]; omega
  have h0 : InS px py vx vy 0 0 (64 * W) (64 * H) (0, 1) := by unfold InS inC; simp only; omega
  have hb := (thr_ent (thr_of h1 hv h3 h0)).2
  have e : thrH px py vx vy 0 0 (64 * W) (64 * H) = slabH (slabH (8388608, 1) px vx 0 (64 * W)) py vy 0 (64 * H) := rfl
  generalize hs : thrH px py vx vy 0 0 (64 * W) (64 * H) = s at *
  obtain ⟨n, m⟩ := s
  obtain ⟨⟨hm, hn, kx, ky⟩, _⟩ := hb
  obtain ⟨tn, tm⟩ := t
  obtain ⟨g1, g2, g3, g4⟩ := ht
  simp only at hm hn kx ky g1 g2 g3 g4
  have hlt : n * tm < tn * m := by
    rcases Int.lt_or_le (n * tm) (tn * m) with h | h
    · exact h
    · exfalso
      have c1 := inC_conv (a := 0) (b := 64 * W) g1 hm g2 h hx kx
      have c2 := inC_conv (a := 0) (b := 64 * H) g1 hm g2 h hy ky
      unfold inC at c1 c2 g3 g4
      apply hc
      have q : ∀ {c K : Int} {z : Int}, 0 * tm ≤ z → z ≤ 64 * K * tm → c * 64 * tm ≤ z → z ≤ (c * 64 + 64) * tm → -1 ≤ c ∧ c ≤ K := by
        intro c K z a1 a2 a3 a4
        constructor
        · have : 0 * tm ≤ (c * 64 + 64) * tm := by omega
          have := Int.le_of_mul_le_mul_right this g1; omega
        · have : c * 64 * tm ≤ 64 * K * tm := by omega
          have := Int.le_of_mul_le_mul_right this g1; omega
      exact ⟨q c1.1 c1.2 g3.1 g3.2, q c2.1 c2.2 g4.1 g4.2⟩
  rcases slabH_or (hi := slabH (8388608, 1) px vx 0 (64 * W)) (p := py) (d := vy) (a := 0) (b := 64 * H) with hA | ⟨hd, hA⟩
  · rcases slabH_or (hi := (8388608, 1)) (p := px) (d := vx) (a := 0) (b := 64 * W) with hB | ⟨hd, hB⟩
    · exfalso
      rw [hA, hB] at e
      cases e
      unfold inC at kx ky
      rcases vec_ne hv with h | h <;> omega
    · rw [hA, hB] at e
      obtain ⟨c, hc1, hc2⟩ := face_in hd hm e
      obtain ⟨r1, r2⟩ := row_at hm ky
      exact ⟨c, _, (n, m), ⟨by omega, by omega⟩, by omega, ⟨hm, hn, hc2, r2⟩, hlt⟩
  · rw [hA] at e
    obtain ⟨c, hc1, hc2⟩ := face_in hd hm e
    obtain ⟨r1, r2⟩ := row_at hm kx
    exact ⟨_, c, (n, m), ⟨by omega, by omega⟩, by omega, ⟨hm, hn, r2, hc2⟩, hlt⟩
section
variable {lt : CC → CC → Bool}
def pickS (lt : CC → CC → Bool) (o : Option CC) (c : CC) : Option CC := match o with
  | none => some c
  | some b => if lt c b = true then some c else some b
def pickL (lt : CC → CC → Bool) (l : List CC) : Option CC := l.foldl (pickS lt) none
theorem pickL_snoc (l : List CC) (c : CC) : pickL lt (l ++ [c]) = pickS lt (pickL lt l) c := by simp [pickL, List.foldl_append]
def Best (lt : CC → CC → Bool) (l : List CC) (c : CC) : Prop := c ∈ l ∧ (∀ b ∈ l, lt b c = false) ∧ ∀ b ∈ l, lt c b = false → b = c ∨ ltC c b
theorem pick_best (tr : ∀ a b c, lt a b = true → lt b c = true → lt a c = true) (neg : ∀ a b c, lt a b = false → lt b c = false → lt a c = false) (irr : ∀ a, lt a a = false) :
    ∀ (l : List CC), l.Pairwise ltC → (pickL lt l = none ∧ l = []) ∨ ∃ c, pickL lt l = some c ∧ Best lt l c := by
  suffices h : ∀ (l pre : List CC) (o : Option CC), (pre ++ l).Pairwise ltC → ((o = none ∧ pre = []) ∨ ∃ c, o = some c ∧ Best lt pre c) → (l.foldl (pickS lt) o = none ∧ pre ++ l = []) ∨ ∃ c, l.foldl (pickS lt) o = some c ∧ Best lt (pre ++ l) c by
    intro l hl
    exact h l [] none hl (.inl ⟨rfl, rfl⟩)
  intro l
  induction l with
  | nil => intro pre o _ h; rw [List.append_nil]; exact h
  | cons x l ih =>
    intro pre o hl h
    have e : pre ++ x :: l = (pre ++ [x]) ++ l := by simp
    rw [e] at hl ⊢
    rw [List.foldl_cons]
    refine ih (pre ++ [x]) _ hl ?_
    have hpx : ∀ b ∈ pre, ltC b x := fun b hb => (List.pairwise_append.1 (List.pairwise_append.1 hl).1).2.2 b hb x (by simp)
    rcases h with ⟨rfl, rfl⟩ | ⟨c, rfl, hc⟩
    · refine .inr ⟨x, rfl, by simp, ?_, ?_⟩
      · intro b hb; simp at hb; subst hb; exact irr _
      · intro b hb _; simp at hb; exact .inl hb
    · obtain ⟨c1, c2, c3⟩ := hc
      refine .inr ?_
      unfold pickS
      simp only
      cases hx : lt x c
      · refine ⟨c, by simp, by simp [c1], ?_, ?_⟩
        · intro b hb
          rcases List.mem_append.1 hb with hb | hb
          · exact c2 b hb
          · simp at hb; subst hb; exact hx
        · intro b hb hcb
          rcases List.mem_append.1 hb with hb | hb
          · exact c3 b hb hcb
          · simp at hb; subst hb; exact .inr (hpx c c1)
      · refine ⟨x, by simp, by simp, ?_, ?_⟩
        · intro b hb
          rcases List.mem_append.1 hb with hb | hb
          · cases hbx : lt b x
            · rfl
            · have := tr _ _ _ hbx hx
              rw [c2 b hb] at this; cases this
          · simp at hb; subst hb; exact irr _
        · intro b hb hxb
          rcases List.mem_append.1 hb with hb | hb
          · have := neg _ _ _ hxb (c2 b hb)
            rw [hx] at this; cases this
          · simp at hb; exact .inl hb
theorem best_uniq {l : List CC} {c d : CC} (hc : Best lt l c) (hd : Best lt l d) : c = d := by
  rcases hc.2.2 d hd.1 (hd.2.1 c hc.1) with h | h
  · exact h.symm
  · rcases hd.2.2 c hc.1 (hc.2.1 d hd.1) with h2 | h2
    · exact h2
    · exact absurd (ltC_trans h h2) (ltC_irrefl _)
theorem pick_eq (tr : ∀ a b c, lt a b = true → lt b c = true → lt a c = true) (neg : ∀ a b c, lt a b = false → lt b c = false → lt a c = false) (irr : ∀ a, lt a a = false)
    {l k : List CC} (hl : l.Pairwise ltC) (hk : k.Pairwise ltC) (h1 : ∀ c ∈ k, c ∈ l) (h2 : ∀ c ∈ l, c ∉ k → ∃ b ∈ k, lt b c = true) : pickL lt l = pickL lt k := by
  rcases pick_best tr neg irr l hl with ⟨a1, a2⟩ | ⟨c, a1, a2⟩
  · rcases pick_best tr neg irr k hk with ⟨b1, b2⟩ | ⟨d, b1, b2⟩
    · rw [a1, b1]
    · have := h1 d b2.1
      rw [a2] at this; cases this
  · have hck : c ∈ k := by
      rcases Classical.em (c ∈ k) with h | h
      · exact h
      · obtain ⟨b, hb, hbc⟩ := h2 c a2.1 h
        rw [a2.2.1 b (h1 b hb)] at hbc; cases hbc
    rcases pick_best tr neg irr k hk with ⟨b1, b2⟩ | ⟨d, b1, b2⟩
    · rw [b2] at hck; cases hck
    · have : Best lt k c := ⟨hck, fun b hb => a2.2.1 b (h1 b hb), fun b hb => a2.2.2 b (h1 b hb)⟩
      rw [a1, b1, best_uniq this b2]
end
theorem low_lt {n d n' d' : Int} (hd : 0 < d) (hd' : 0 < d') : (lowF n d).1 * (lowF n' d').2 < (lowF n' d').1 * (lowF n d).2 ↔ n * d' < n' * d := by
  have key : ∀ {n d : Int}, 0 < d → ∃ g a b : Int, 0 < g ∧ n = a * g ∧ d = b * g ∧ lowF n d = (a, b) := by
    intro n d hd
    have hpos : (0 : Int) < (Int.gcd n d : Int) := by
      have : Int.gcd n d ≠ 0 := fun h => by rw [Int.gcd_eq_zero_iff] at h; omega
      omega
    exact ⟨Int.gcd n d, n / (Int.gcd n d : Int), d / (Int.gcd n d : Int), hpos, (Int.ediv_mul_cancel (Int.gcd_dvd_left _ _)).symm, (Int.ediv_mul_cancel (Int.gcd_dvd_right _ _)).symm, rfl⟩
  obtain ⟨g, a, b, hg, e1, e2, e3⟩ := key (n := n) hd
  obtain ⟨k, c, e, hk, f1, f2, f3⟩ := key (n := n') hd'
  rw [e3, f3, e1, e2, f1, f2]
  simp only
  have hgk : 0 < g * k := Int.mul_pos hg hk
  have r1 : a * g * (e * k) = a * e * (g * k) := by ac_rfl
  have r2 : c * k * (b * g) = c * b * (g * k) := by ac_rfl
  rw [r1, r2]
  exact (Int.mul_lt_mul_right hgk).symm
theorem low_pos {n d : Int} (hd : 0 < d) : 0 < (lowF n d).2 := by
  have hpos : (0 : Int) < (Int.gcd n d : Int) := by
    have : Int.gcd n d ≠ 0 := fun h => by rw [Int.gcd_eq_zero_iff] at h; omega
    omega
  unfold lowF
  exact Int.ediv_pos_of_pos_of_dvd hd (by omega) (Int.gcd_dvd_right _ _)
theorem low_nn {n d : Int} (hn : 0 ≤ n) : 0 ≤ (lowF n d).1 := by
  unfold lowF
  exact Int.ediv_nonneg hn (by omega)
theorem low_one {n d k : Int} (hd : 0 < d) (h : (lowF n d).1 = k * (lowF n d).2) : (lowF n d).2 = 1 := by
  have hn : Int.gcd (lowF n d).1 (lowF n d).2 = 1 := by
    unfold lowF
    simp only
    have hpos : 0 < Int.gcd n d := by
      have : Int.gcd n d ≠ 0 := fun h => by rw [Int.gcd_eq_zero_iff] at h; omega
      omega
    exact Int.gcd_ediv_gcd_ediv_gcd hpos
  have hp := low_pos (n := n) hd
  rw [h, Int.gcd_comm, Int.gcd_mul_left_right] at hn
  omega
def entC (px py vx vy vd : Int) (c : CC) : Int × Int := entF px py vx vy vd (c.X * 64) (c.Y * 64) (c.X * 64 + 64) (c.Y * 64 + 64)
def ltK (px py vx vy vd : Int) (a b : CC) : Bool := decide ((entC px py vx vy vd a).1 * (entC px py vx vy vd b).2 < (entC px py vx vy vd b).1 * (entC px py vx vy vd a).2)
theorem thrL_pos (px py vx vy x0 y0 x1 y1 : Int) : 0 < (thrL px py vx vy x0 y0 x1 y1).2 := slabL_pos (slabL_pos (by simp))
theorem entC_pos (px py vx vy vd : Int) (c : CC) : 0 < (entC px py vx vy vd c).2 := low_pos (thrL_pos _ _ _ _ _ _ _ _)
theorem ltK_tr (px py vx vy vd : Int) (a b c : CC) (h1 : ltK px py vx vy vd a b = true) (h2 : ltK px py vx vy vd b c = true) : ltK px py vx vy vd a c = true := by
  unfold ltK at *
  rw [decide_eq_true_eq] at *
  have pa := entC_pos px py vx vy vd a
  have pb := entC_pos px py vx vy vd b
  have pc := entC_pos px py vx vy vd c
  generalize entC px py vx vy vd a = A at *
  generalize entC px py vx vy vd b = B at *
  generalize entC px py vx vy vd c = C at *
  have e1 := Int.mul_lt_mul_of_pos_right h1 pc
  have e2 := Int.mul_lt_mul_of_pos_right h2 pa
  refine Int.lt_of_mul_lt_mul_right (a := B.2) ?_ (Int.le_of_lt pb)
  have r1 : A.1 * B.2 * C.2 = A.1 * C.2 * B.2 := by ac_rfl
  have r2 : B.1 * A.2 * C.2 = B.1 * C.2 * A.2 := by ac_rfl
  have r3 : C.1 * B.2 * A.2 = C.1 * A.2 * B.2 := by ac_rfl
  omega
theorem ltK_neg (px py vx vy vd : Int) (a b c : CC) (h1 : ltK px py vx vy vd a b = false) (h2 : ltK px py vx vy vd b c = false) : ltK px py vx vy vd a c = false := by
  unfold ltK at *
  rw [decide_eq_false_iff_not] at *
  have pa := entC_pos px py vx vy vd a
  have pb := entC_pos px py vx vy vd b
  have pc := entC_pos px py vx vy vd c
  have := flE_trans (a := entC px py vx vy vd c) (b := entC px py vx vy vd b) (c := entC px py vx vy vd a) pc pb pa (by unfold flE; omega) (by unfold flE; omega)
  unfold flE at this
  omega
theorem ltK_irr (px py vx vy vd : Int) (a : CC) : ltK px py vx vy vd a a = false := by
  unfold ltK; rw [decide_eq_false_iff_not]; omega
def x127L0 : XC := (.seq (.seq (.reg false [O1 18 .mv 8, K2 19 (.bin .neq) 18 (iV 0)]) (.cond (.t 19) .skip (.exit 0))) (.block 1 (.reg true [O1 20 .mv 8, O1 21 .mv 7, O1 22 .mv 8, O2 23 (.bin .rem) 21 22, O1 7 .mv 20, O1 8 .mv 23])))
def x127 : XFn := ⟨35, (.seq (.reg false [O1 2 (.box 160) 0, O1 3 (.box 124) 1, ⟨(some 4), (.alloc 160 [(iV 0), (iV 0)]), [], none⟩]) (.seq (.reg true [O1 9 (.fld 0) 2, O1 10 .load1 9, O1 11 (.fld 2) 3, O1 12 .load1 11, O2 13 (.bin .mul) 10 12, O1 14 (.fld 1) 2, O1 15 .load1 14, O1 5 .mv 13, O1 6 .mv 15]) (.seq (.reg false [O1 16 .mv 5, O1 17 .mv 6, O1 7 .mv 16, O1 8 .mv 17]) (.seq (.block 0 (.loop x127L0)) (.seq (.seq (.reg false [O1 24 .mv 7, K2 25 (.bin .lss) 24 (iV 0)]) (.cond (.t 25) (.reg false [O1 26 .mv 7, O1 27 (.un .neg) 26, O1 7 .mv 27]) .skip)) (.seq (.regD [O1 28 .mv 5, O1 29 .mv 7, O2 30 (.bin .quo) 28 29, O1 31 .mv 6, O1 32 .mv 7, O2 33 (.bin .quo) 31 32, ⟨(some 34), (.build [(iV 0), (iV 0)] [(0, 1), (1, 1)]), [(.t 30), (.t 33)], none⟩, ⟨none, (.store 2), [(.t 4), (.t 34)], none⟩] [[], [], [0, 1], [], [], [3, 4], [2, 0, 1, 5, 3, 4], [6, 2, 0, 1, 5, 3, 4]]) .ret)))))), [(.bn 4 2)]⟩
theorem x127_ok : xfn Tryz.prog Tryz.f127 = some x127.er := by kernel_rfl
def x120 : XFn := ⟨24, (.seq (.reg false [O1 3 (.box 89) 0, O1 4 (.box 124) 1, O1 5 (.box 132) 2, ⟨(some 6), (.alloc 160 [(iV 0), (iV 0)]), [], none⟩, K1 7 .mv (.bool false)]) (.seq (.reg false [O1 11 (.loadN 2) 3, O1 12 (.loadN 3) 4, O1 13 (.loadN 4) 5, ⟨(some 14), (.call 126), [(.t 11), (.t 12), (.t 13)], none⟩, O1 10 .mv 14, O1 15 (.ext 0) 10, O1 16 (.ext 1) 10, ⟨(some 8), (.alloc 187 [(iV 0), (iV 0), (iV 0), (iV 0)]), [], none⟩, ⟨none, (.store 4), [(.t 8), (.t 15)], none⟩, O1 9 .mv 16]) (.seq (.seq (.reg false [O1 17 .mv 9, O1 18 (.un .not) 17]) (.cond (.t 18) (.seq (.reg false [⟨(some 19), (.build [(iV 0), (iV 0)] []), [], none⟩, ⟨none, (.store 2), [(.t 6), (.t 19)], none⟩, K1 7 .mv (.bool false)]) .ret) .skip)) (.seq (.reg false [O1 20 (.fld 0) 8, O1 21 (.loadN 2) 20, O1 22 (.loadN 3) 4, O2 23 (.call 127) 21 22, ⟨none, (.store 2), [(.t 6), (.t 23)], none⟩, K1 7 .mv (.bool true)]) .ret)))), [(.bn 6 2), (.s 7)]⟩
theorem x120_ok : xfn Tryz.prog Tryz.f120 = some x120.er := by kernel_rfl
def x98 : XFn := ⟨15, (.seq (.reg false [K1 6 .mv (.bool false)]) (.seq (.reg false [O1 7 .mv 0, O1 8 .mv 1, O2 9 (.bin .geq) 7 8, O1 10 .mv 9, G1 11 .mv 0 10 true, G1 12 .mv 2 10 true, G2 13 (.bin .leq) 11 12 10 true, ⟨(some 14), .pick, [(.t 10), (.t 13), (.k (.bool false))], none⟩, O1 6 .mv 14]) .ret)), [(.s 6)]⟩
theorem x98_ok : xfn Tryz.prog Tryz.f98 = some x98.er := by kernel_rfl
def x107 : XFn := ⟨23, (.seq (.reg false [O1 2 (.box 24) 0, O1 3 (.box 89) 1, K1 4 .mv (.bool false)]) (.seq (.reg false [O1 5 (.loadN 3) 2, O1 6 (.call 67) 5, O1 7 .mv 6, G1 8 (.fld 0) 3 7 true, G1 9 .load1 8 7 true, G1 10 (.fld 0) 2 7 true, G1 11 .load1 10 7 true, ⟨(some 12), (.bin .mul), [(.k (iV 64)), (.t 11)], (some (7, true))⟩, ⟨(some 13), (.call 98), [(.t 9), (.k (iV 0)), (.t 12)], (some (7, true))⟩, ⟨(some 14), .pick, [(.t 7), (.t 13), (.k (.bool false))], none⟩, O1 15 .mv 14, G1 16 (.fld 1) 3 15 true, G1 17 .load1 16 15 true, G1 18 (.fld 1) 2 15 true, G1 19 .load1 18 15 true, ⟨(some 20), (.bin .mul), [(.k (iV 64)), (.t 19)], (some (15, true))⟩, ⟨(some 21), (.call 98), [(.t 17), (.k (iV 0)), (.t 20)], (some (15, true))⟩, ⟨(some 22), .pick, [(.t 15), (.t 21), (.k (.bool false))], none⟩, O1 4 .mv 22]) .ret)), [(.s 4)]⟩
theorem x107_ok : xfn Tryz.prog Tryz.f107 = some x107.er := by kernel_rfl
def x97 : XFn := ⟨17, (.seq (.reg false [O1 2 (.box 24) 0, O1 3 (.box 28) 1, K1 4 .mv (.bool false)]) (.seq (.reg false [O1 5 (.loadN 3) 2, O1 6 (.fld 0) 3, O1 7 .load1 6, O1 8 (.fld 1) 3, O1 9 .load1 8, ⟨(some 10), (.build [(iV 0), (iV 0)] [(0, 1), (1, 1)]), [(.t 7), (.t 9)], none⟩, O2 11 (.call 107) 5 10, O1 12 .mv 11, G1 13 (.fld 2) 3 12 true, G1 14 .load1 13 12 true, ⟨(some 15), (.call 98), [(.t 14), (.k (iV 0)), (.k (iV 255))], (some (12, true))⟩, ⟨(some 16), .pick, [(.t 12), (.t 15), (.k (.bool false))], none⟩, O1 4 .mv 16]) .ret)), [(.s 4)]⟩
theorem x97_ok : xfn Tryz.prog Tryz.f97 = some x97.er := by kernel_rfl
def inB (W H : Int) (L : List Int) (x y : Int) : Bool := planB W H L && decide ((0 ≤ x ∧ x ≤ 64 * W) ∧ 0 ≤ y ∧ y ≤ 64 * H)
theorem thr_nn {px py vx vy vd x0 y0 x1 y1 : Int} (h : thrB px py vx vy vd x0 y0 x1 y1 = true) : (0 ≤ (thrL px py vx vy x0 y0 x1 y1).1 ∧ (thrL px py vx vy x0 y0 x1 y1).1 ≤ 8388608) ∧ (1 ≤ (thrL px py vx vy x0 y0 x1 y1).2 ∧ (thrL px py vx vy x0 y0 x1 y1).2 ≤ 67108864) ∧ 1 ≤ vd ∧ vd ≤ 67108864 := by
  have b := (thr_bd h).1
  have e := (thr_ent h).1.1
  have hv : vecB vx vy vd = true := by simp only [thrB, Bool.and_eq_true] at h; exact h.1.1.1.2
  have a := vec_bd hv
  unfold bdF at b
  exact ⟨⟨e.2.1, b.2.1⟩, ⟨b.2.2.1, b.2.2.2⟩, a.1, a.2.1⟩
def g127 : Con := fun args_ E_ nn_ => match args_ with
  | [.a [.v (.int .i64 t_N), .v (.int .i64 t_D)], .a [.v (.int .i64 v_X), .v (.int .i64 v_Y), .v (.int .i64 v_D)]] => some (.q ((0 ≤ t_N ∧ t_N ≤ 8388608) ∧ (1 ≤ t_D ∧ t_D ≤ 67108864) ∧ 1 ≤ v_D ∧ v_D ≤ 67108864) (.o (.a [.v (.int .i64 (lowF (t_N * v_D) t_D).1), .v (.int .i64 (lowF (t_N * v_D) t_D).2)])))
  | _ => none
theorem c127 : COk Tryz.prog 127 g127 := by
  refine cok_q Tryz.func127 x127_ok (by kernel_rfl) (cok_tab cok_nil) ?_
  intro args_ E_ nn_ cr_ hg_
  unfold g127 at hg_
  split at hg_
  · rename_i t_N t_D v_X v_Y v_D
    cases hg_
    refine ⟨_, _, rfl, 0, [], [.a [.v (.int .i64 t_N), .v (.int .i64 t_D)], .a [.v (.int .i64 v_X), .v (.int .i64 v_Y), .v (.int .i64 v_D)]], [], .o (.a [.v (.int .i64 (lowF (t_N * v_D) t_D).1), .v (.int .i64 (lowF (t_N * v_D) t_D).2)]), rfl, rfl, and3 (by simp only [push_cast, Nat.reduceLT, Nat.reduceAdd]) ⟨rfl, trivial, rfl, ?_⟩⟩
    intro hpre hlen
    refine ⟨trivial, ?_⟩
    simp (maxSteps := 9999999) only [x127, push_cast, simprocAttr]
    have m := mulB (a := t_N) (b := v_D) (A := 8388608) (B := 67108864) (by omega) (by omega) (by omega) (by omega)
    have mn : 0 ≤ t_N * v_D := Int.mul_nonneg (by omega) (by omega)
    rw [wrapI (n := t_N * v_D) (by omega) (by omega)]
    generalize hz : t_N * v_D = z at *
    refine vcLoop_upd (α := {p : Int × Int // 0 ≤ p.1 ∧ 0 ≤ p.2 ∧ p.1 ≤ 9223372036854775807 ∧ p.2 ≤ 9223372036854775807 ∧ Int.gcd p.1 p.2 = Int.gcd (z) t_D}) [4, 5, 6] 0 (fun s => [(7, .o (.c (.v (.int .i64 (s.1.1))))), (8, .o (.c (.v (.int .i64 (s.1.2)))))]) (fun s => []) (fun s => s.1.2.toNat) ⟨(z, t_D), by simp only; omega, by simp only; omega, by simp only; omega, by simp only; omega, rfl⟩ ?_ ?_
    · simp only [push_cast, simprocAttr]
    · rintro ⟨⟨x, y⟩, h1, h2, h3, h4, h5⟩
      simp only at h1 h2 h3 h4 h5
      simp only [x127L0, push_cast, simprocAttr]
      refine ⟨fun h => ?_, fun h => ?_⟩
      · have hm : x.tmod y = x % y := tmod_pos h1
        have hb := emod_range (a := x) (b := y) (by omega)
        exact ⟨h, ⟨(y, x.tmod y), by simp only; omega, by simp only; omega, by simp only; omega, by simp only; omega, by simp only; rw [gcd_tmod h1, h5]⟩, ⟨rfl, rfl⟩, by simp only; omega⟩
      · subst h
        rw [Int.gcd_zero_right] at h5
        have ex : (Int.gcd z t_D : Int) = x := by rw [← h5]; omega
        have hg : 0 < x := by
          have : Int.gcd z t_D ≠ 0 := fun h => by rw [Int.gcd_eq_zero_iff] at h; omega
          omega
        have d1 : x ∣ z := by rw [← ex]; exact Int.gcd_dvd_left _ _
        have d2 : x ∣ t_D := by rw [← ex]; exact Int.gcd_dvd_right _ _
        have b1 := divB (a := z) (b := x) (A := 9223372036854775807) (by omega) (by omega) (by omega)
        have b2 := divB (a := t_D) (b := x) (A := 9223372036854775807) (by omega) (by omega) (by omega)
        refine ⟨fun h => by omega, fun _ => ⟨by omega, by omega, by rfl, ?_, ?_⟩⟩
        · rw [tdiv_dvd hg d1, wrapI (by omega) (by omega)]
          unfold lowF
          rw [ex]
        · rw [tdiv_dvd hg d2, wrapI (by omega) (by omega)]
          unfold lowF
          rw [ex]
  · cases hg_
def g120 : Con := fun args_ E_ nn_ => match args_ with
  | [.a [.v (.int .i64 p_X), .v (.int .i64 p_Y)], .a [.v (.int .i64 v_X), .v (.int .i64 v_Y), .v (.int .i64 v_D)], .a [.v (.int .i64 r_X0), .v (.int .i64 r_Y0), .v (.int .i64 r_X1), .v (.int .i64 r_Y1)]] => some (.q (True) (.t [.a [.v (.int .i64 (mI (thrB p_X p_Y v_X v_Y v_D r_X0 r_Y0 r_X1 r_Y1) (entF p_X p_Y v_X v_Y v_D r_X0 r_Y0 r_X1 r_Y1).1)), .v (.int .i64 (mI (thrB p_X p_Y v_X v_Y v_D r_X0 r_Y0 r_X1 r_Y1) (entF p_X p_Y v_X v_Y v_D r_X0 r_Y0 r_X1 r_Y1).2))], .c (.v (.bool (thrB p_X p_Y v_X v_Y v_D r_X0 r_Y0 r_X1 r_Y1)))]))
  | _ => none
theorem c120 : COk Tryz.prog 120 g120 := by
  refine cok_q Tryz.func120 x120_ok (by kernel_rfl) (cok_tab (cok_cons c126 (cok_cons c127 cok_nil))) ?_
  intro args_ E_ nn_ cr_ hg_
  unfold g120 at hg_
  split at hg_
  · rename_i p_X p_Y v_X v_Y v_D r_X0 r_Y0 r_X1 r_Y1
    cases hg_
    refine ⟨_, _, rfl, 0, [], [.a [.v (.int .i64 p_X), .v (.int .i64 p_Y)], .a [.v (.int .i64 v_X), .v (.int .i64 v_Y), .v (.int .i64 v_D)], .a [.v (.int .i64 r_X0), .v (.int .i64 r_Y0), .v (.int .i64 r_X1), .v (.int .i64 r_Y1)]], [], .t [.a [.v (.int .i64 (mI (thrB p_X p_Y v_X v_Y v_D r_X0 r_Y0 r_X1 r_Y1) (entF p_X p_Y v_X v_Y v_D r_X0 r_Y0 r_X1 r_Y1).1)), .v (.int .i64 (mI (thrB p_X p_Y v_X v_Y v_D r_X0 r_Y0 r_X1 r_Y1) (entF p_X p_Y v_X v_Y v_D r_X0 r_Y0 r_X1 r_Y1).2))], .c (.v (.bool (thrB p_X p_Y v_X v_Y v_D r_X0 r_Y0 r_X1 r_Y1)))], rfl, rfl, and3 (by simp only [push_cast, Nat.reduceLT, Nat.reduceAdd]) ⟨rfl, trivial, rfl, ?_⟩⟩
    intro hpre hlen
    refine ⟨trivial, ?_⟩
    simp (maxSteps := 9999999) only [x120, push_cast, simprocAttr, g126, g127]
    refine ⟨fun h => by simp [h, mI], fun h => ?_⟩
    rw [h]
    simp only [mI_t]
    refine ⟨thr_nn h, ?_⟩
    simp [entF]
  · cases hg_
def g98 : Con := fun args_ E_ nn_ => match args_ with
  | [.c (.v (.int .i64 n)), .c (.v (.int .i64 lo)), .c (.v (.int .i64 hi))] => some (.q (True) (.o (.c (.v (.bool (decide (lo ≤ n ∧ n ≤ hi)))))))
  | _ => none
theorem c98 : COk Tryz.prog 98 g98 := by
  refine cok_q Tryz.func98 x98_ok (by kernel_rfl) (cok_tab cok_nil) ?_
  intro args_ E_ nn_ cr_ hg_
  unfold g98 at hg_
  split at hg_
  · rename_i n lo hi
    cases hg_
    refine ⟨_, _, rfl, 0, [], [.c (.v (.int .i64 n)), .c (.v (.int .i64 lo)), .c (.v (.int .i64 hi))], [], .o (.c (.v (.bool (decide (lo ≤ n ∧ n ≤ hi))))), rfl, rfl, and3 (by simp only [push_cast, Nat.reduceLT, Nat.reduceAdd]) ⟨rfl, trivial, rfl, ?_⟩⟩
    intro hpre hlen
    refine ⟨trivial, ?_⟩
    simp (maxSteps := 9999999) only [x98, push_cast, simprocAttr]
    rw [Bool.eq_iff_iff]
    simp []
    try omega
  · cases hg_
def g107 : Con := fun args_ E_ nn_ => match args_ with
  | [.a [.v (.int .i64 p_W), .v (.int .i64 p_H), .n p_Cells], .a [.v (.int .i64 at_X), .v (.int .i64 at_Y)]] => (match rowOf E_ p_Cells with
    | some (p_Cells_n, p_Cells_s, p_Cells_f) => some (.q (isRow eU8 p_Cells_n p_Cells_s p_Cells_f ∧ True) (.o (.c (.v (.bool (inB p_W p_H (decL eU8 p_Cells_n p_Cells_f) at_X at_Y))))))
    | none => none)
  | _ => none
theorem c107 : COk Tryz.prog 107 g107 := by
  refine cok_q Tryz.func107 x107_ok (by kernel_rfl) (cok_tab (cok_cons c67 (cok_cons c98 cok_nil))) ?_
  intro args_ E_ nn_ cr_ hg_
  unfold g107 at hg_
  split at hg_
  · rename_i p_W p_H p_Cells at_X at_Y
    split at hg_
    · rename_i p_Cells_n p_Cells_s p_Cells_f h_p_Cells
      cases hg_
      refine ⟨_, _, rfl, 1, [p_Cells], [.a [.v (.int .i64 p_W), .v (.int .i64 p_H), .n 0], .a [.v (.int .i64 at_X), .v (.int .i64 at_Y)]], [(0, .ro (decL eU8 p_Cells_n p_Cells_f).length eU8.sz (rowF eU8 (decL eU8 p_Cells_n p_Cells_f)))], .o (.c (.v (.bool (inB p_W p_H (decL eU8 p_Cells_n p_Cells_f) at_X at_Y)))), rfl, rfl, and3 (by simp only [push_cast, Nat.reduceLT, Nat.reduceAdd]) ⟨rfl, ⟨inE0_row h_p_Cells, trivial⟩, rfl, ?_⟩⟩
      intro hpre hlen
      obtain ⟨i_p_Cells, hpre⟩ := hpre
      refine ⟨⟨inE_row h_p_Cells i_p_Cells, trivial⟩, ?_⟩
      have z_p_Cells := lens_row (E := eU8) hlen h_p_Cells
      clear i_p_Cells
      generalize decL eU8 p_Cells_n p_Cells_f = p_CellsL at *
      clear h_p_Cells
      simp (maxSteps := 9999999) only [x107, push_cast, simprocAttr, g67, g98]
      cases h : planB p_W p_H p_CellsL
      · simp [inB, h]
      have a := planB_at h
      rw [wrapI (n := 64 * p_W) (by omega) (by omega), wrapI (n := 64 * p_H) (by omega) (by omega)]
      rw [Bool.eq_iff_iff]
      simp [inB, h]
      try omega
    · cases hg_
  · cases hg_
def g97 : Con := fun args_ E_ nn_ => match args_ with
  | [.a [.v (.int .i64 p_W), .v (.int .i64 p_H), .n p_Cells], .a [.v (.int .i64 at_X), .v (.int .i64 at_Y), .v (.int .i64 at_H)]] => (match rowOf E_ p_Cells with
    | some (p_Cells_n, p_Cells_s, p_Cells_f) => some (.q (isRow eU8 p_Cells_n p_Cells_s p_Cells_f ∧ True) (.o (.c (.v (.bool (inB p_W p_H (decL eU8 p_Cells_n p_Cells_f) at_X at_Y && decide (0 ≤ at_H ∧ at_H ≤ 255)))))))
    | none => none)
  | _ => none
theorem c97 : COk Tryz.prog 97 g97 := by
  refine cok_q Tryz.func97 x97_ok (by kernel_rfl) (cok_tab (cok_cons c107 (cok_cons c98 cok_nil))) ?_
  intro args_ E_ nn_ cr_ hg_
  unfold g97 at hg_
  split at hg_
  · rename_i p_W p_H p_Cells at_X at_Y at_H
    split at hg_
    · rename_i p_Cells_n p_Cells_s p_Cells_f h_p_Cells
      cases hg_
      refine ⟨_, _, rfl, 1, [p_Cells], [.a [.v (.int .i64 p_W), .v (.int .i64 p_H), .n 0], .a [.v (.int .i64 at_X), .v (.int .i64 at_Y), .v (.int .i64 at_H)]], [(0, .ro (decL eU8 p_Cells_n p_Cells_f).length eU8.sz (rowF eU8 (decL eU8 p_Cells_n p_Cells_f)))], .o (.c (.v (.bool (inB p_W p_H (decL eU8 p_Cells_n p_Cells_f) at_X at_Y && decide (0 ≤ at_H ∧ at_H ≤ 255))))), rfl, rfl, and3 (by simp only [push_cast, Nat.reduceLT, Nat.reduceAdd]) ⟨rfl, ⟨inE0_row h_p_Cells, trivial⟩, rfl, ?_⟩⟩
      intro hpre hlen
      obtain ⟨i_p_Cells, hpre⟩ := hpre
      refine ⟨⟨inE_row h_p_Cells i_p_Cells, trivial⟩, ?_⟩
      have z_p_Cells := lens_row (E := eU8) hlen h_p_Cells
      clear i_p_Cells
      generalize decL eU8 p_Cells_n p_Cells_f = p_CellsL at *
      clear h_p_Cells
      simp (maxSteps := 9999999) only [x97, push_cast, simprocAttr, g107, g98]
    · cases hg_
  · cases hg_
end Go.Proofs.YtkpdofgmmpbknaaGreat
