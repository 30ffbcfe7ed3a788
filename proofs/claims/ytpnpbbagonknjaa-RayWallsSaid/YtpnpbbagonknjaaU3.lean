/- A part of the proof of a statement about this seat: how a function is stepped through, and plain laws. No conditions. -/
import Derived.Test.YtpnpbbagonknjaaRows
import Derived.Test.YtpnpbbagonknjaaSz3
import Derived.Test.YtpnpbbagonknjaaU2
import Derived.KernelRfl
set_option linter.unusedVariables false
set_option linter.unusedSimpArgs false
set_option maxRecDepth 20000
namespace Go.Proofs.Ytpnpbbagonknjaa
open Go.Sx Go.Way
def goodB (W H : Int) (L : List Int) (x y h : Int) : Bool := inB W H L x y && decide (0 ≤ h ∧ h ≤ 255)
def beamB (m r : Int) : Bool := decide ((0 ≤ m ∧ m ≤ 255) ∧ -1 ≤ r ∧ r ≤ 1024)
def lookO (W H : Int) (L : List Int) (x y h m most : Int) : Option CC := firstO W H L x y (beamV h m).1 (beamV h m).2.1 (beamV h m).2.2 most
def lookK (x y h m : Int) : CC → Int × Int := entC x y (beamV h m).1 (beamV h m).2.1 (beamV h m).2.2
def echoB (K : CC → Int × Int) (s : Int) : Option CC → Bool
  | none => false
  | some c => decide (s * (K c).2 ≤ (K c).1)
def plausB (W H : Int) (L : List Int) (x y h m r rng : Int) : Bool :=
  goodB W H L x y h && beamB m r && decide (1 ≤ rng ∧ rng ≤ 32) && (if r = -1 then !(lookO W H L x y h m (1024 - rng)).isSome else echoB (lookK x y h m) (r - rng) (lookO W H L x y h m (r + rng)))
def measE (W H : Int) (L : List Int) (x y h m rng : Int) : Int := if goodB W H L x y h = false then 1 else if (1 ≤ rng ∧ rng ≤ 32) ∧ 0 ≤ m ∧ m ≤ 255 then 0 else 2
def measZ (K : CC → Int × Int) (e : Int) : Option CC → Int
  | none => -1
  | some c => if 1024 < max ((K c).1 / (K c).2 + e) 0 then -1 else max ((K c).1 / (K c).2 + e) 0
def measV (W H : Int) (L : List Int) (x y h m rng er : Int) : Int := if measE W H L x y h m rng = 0 then measZ (lookK x y h m) (min (max er (1 - rng)) rng) (lookO W H L x y h m 1024) else 0
theorem plaus_f {W H : Int} {L : List Int} {x y h m r rng : Int} (k : ((inB W H L x y && decide (0 ≤ h ∧ h ≤ 255)) = false ∨ ¬ ((0 ≤ m ∧ m ≤ 255) ∧ -1 ≤ r ∧ r ≤ 1024)) ∨ ¬ (1 ≤ rng ∧ rng ≤ 32)) : plausB W H L x y h m r rng = false := by
  unfold plausB goodB beamB
  rcases k with (k | k) | k
  · rw [k]; rfl
  · rw [decide_eq_false k, Bool.and_false]; rfl
  · rw [decide_eq_false k, Bool.and_false]; rfl
theorem plaus_t {W H : Int} {L : List Int} {x y h m r rng : Int} (h1 : inB W H L x y = true) (h2 : 0 ≤ h ∧ h ≤ 255) (h3 : (0 ≤ m ∧ m ≤ 255) ∧ -1 ≤ r ∧ r ≤ 1024) (h4 : 1 ≤ rng ∧ rng ≤ 32) :
    plausB W H L x y h m r rng = if r = -1 then !(lookO W H L x y h m (1024 - rng)).isSome else echoB (lookK x y h m) (r - rng) (lookO W H L x y h m (r + rng)) := by
  unfold plausB goodB beamB
  rw [h1, decide_eq_true h2, decide_eq_true h3, decide_eq_true h4]
  rfl
theorem meas1 {W H : Int} {L : List Int} {x y h m rng er : Int} (k : (inB W H L x y && decide (0 ≤ h ∧ h ≤ 255)) = false) : measE W H L x y h m rng = 1 ∧ measV W H L x y h m rng er = 0 := by
  have e : measE W H L x y h m rng = 1 := by unfold measE goodB; rw [k]; rfl
  exact ⟨e, by unfold measV; rw [e]; rfl⟩
theorem meas2 {W H : Int} {L : List Int} {x y h m rng er : Int} (h1 : inB W H L x y = true) (h2 : 0 ≤ h ∧ h ≤ 255) (k : ¬ (1 ≤ rng ∧ rng ≤ 32) ∨ ¬ (0 ≤ m ∧ m ≤ 255)) : measE W H L x y h m rng = 2 ∧ measV W H L x y h m rng er = 0 := by
  have e : measE W H L x y h m rng = 2 := by
    unfold measE goodB
    rw [h1, decide_eq_true h2, if_neg (by decide), if_neg (by omega)]
  exact ⟨e, by unfold measV; rw [e]; rfl⟩
theorem meas0 {W H : Int} {L : List Int} {x y h m rng er : Int} (h1 : inB W H L x y = true) (h2 : 0 ≤ h ∧ h ≤ 255) (k : (1 ≤ rng ∧ rng ≤ 32) ∧ 0 ≤ m ∧ m ≤ 255) : measE W H L x y h m rng = 0 ∧ measV W H L x y h m rng er = measZ (lookK x y h m) (min (max er (1 - rng)) rng) (lookO W H L x y h m 1024) := by
  have e : measE W H L x y h m rng = 0 := by
    unfold measE goodB
    rw [h1, decide_eq_true h2, if_neg (by decide), if_pos k]
  exact ⟨e, by unfold measV; rw [if_pos e]⟩
theorem measQ {n d : Int} (h0 : 0 ≤ n) (h1 : 1 ≤ d) (h2 : n ≤ 2048 * d) : n.tdiv d = n / d ∧ 0 ≤ n / d ∧ n / d ≤ 2048 := by
  refine ⟨Int.tdiv_eq_ediv_of_nonneg h0, Int.ediv_nonneg h0 (by omega), Int.ediv_le_of_le_mul (by omega) h2⟩
def x23 : XFn := ⟨67, (.seq (.reg false [O1 4 (.box 24) 0, O1 5 (.box 26) 1, O1 6 (.box 28) 2, K1 8 .mv (.bool false)]) (.seq (.seq (.reg false [O1 13 (.loadN 3) 4, O1 14 (.loadN 3) 5, O2 15 (.call 50) 13 14, O1 16 (.un .not) 15, O1 17 .mv 16, G1 18 (.loadN 2) 6 17 false, G1 19 (.call 51) 18 17 false, G1 20 (.un .not) 19 17 false, ⟨(some 21), .pick, [(.t 17), (.k (.bool true)), (.t 20)], none⟩, O1 22 .mv 21, G1 23 .mv 3 22 false, ⟨(some 24), (.call 47), [(.t 23), (.k (iV 1)), (.k (iV 32))], (some (22, false))⟩, G1 25 (.un .not) 24 22 false, ⟨(some 26), .pick, [(.t 22), (.k (.bool true)), (.t 25)], none⟩]) (.cond (.t 26) (.seq (.reg false [K1 8 .mv (.bool false)]) .ret) .skip)) (.seq (.seq (.reg false [O1 27 (.fld 1) 6, O1 28 .load1 27, K2 29 (.bin .eql) 28 (iV (-1))]) (.cond (.t 29) (.seq (.reg false [O1 31 (.loadN 3) 4, O1 32 (.loadN 3) 5, O1 33 (.fld 0) 6, O1 34 .load1 33, O1 35 .mv 3, ⟨(some 36), (.bin .sub), [(.k (iV 1024)), (.t 35)], none⟩, ⟨(some 37), (.call 52), [(.t 31), (.t 32), (.t 34), (.t 36)], none⟩, O1 30 .mv 37, O1 38 (.ext 0) 30, O1 39 (.ext 1) 30, ⟨(some 9), (.alloc 35 [(iV 0), (iV 0)]), [], none⟩, ⟨none, (.store 2), [(.t 9), (.t 38)], none⟩, O1 10 .mv 39]) (.seq (.reg false [O1 40 .mv 10, O1 41 (.un .not) 40, O1 8 .mv 41]) .ret)) .skip)) (.seq (.reg false [O1 43 (.loadN 3) 4, O1 44 (.loadN 3) 5, O1 45 (.fld 0) 6, O1 46 .load1 45, O1 47 (.fld 1) 6, O1 48 .load1 47, O1 49 .mv 3, O2 50 (.bin .add) 48 49, ⟨(some 51), (.call 52), [(.t 43), (.t 44), (.t 46), (.t 50)], none⟩, O1 42 .mv 51, O1 52 (.ext 0) 42, O1 53 (.ext 1) 42, ⟨(some 11), (.alloc 35 [(iV 0), (iV 0)]), [], none⟩, ⟨none, (.store 2), [(.t 11), (.t 52)], none⟩, O1 12 .mv 53]) (.seq (.reg false [O1 54 .mv 12, O1 55 .mv 54, G1 56 (.fld 0) 11 55 true, G1 57 .load1 56 55 true, G1 58 (.fld 1) 6 55 true, G1 59 .load1 58 55 true, G1 60 .mv 3 55 true, G2 61 (.bin .sub) 59 60 55 true, G1 62 (.fld 1) 11 55 true, G1 63 .load1 62 55 true, G2 64 (.bin .mul) 61 63 55 true, G2 65 (.bin .geq) 57 64 55 true, ⟨(some 66), .pick, [(.t 55), (.t 65), (.k (.bool false))], none⟩, O1 8 .mv 66]) .ret))))), [(.s 8)]⟩
theorem x23_ok : xfn Try.prog Try.f23 = some x23.er := by kernel_rfl
def x24 : XFn := ⟨85, (.seq (.reg false [O1 4 (.box 24) 0, O1 5 (.box 26) 1, O1 6 (.box 28) 2, K1 8 .mv (.bool false)]) (.seq (.seq (.reg false [O1 16 (.loadN 3) 4, O1 17 (.loadN 3) 5, O2 18 (.call 27) 16 17, O1 19 (.un .not) 18, O1 20 .mv 19, G1 21 (.loadN 2) 6 20 false, G1 22 (.call 28) 21 20 false, G1 23 (.un .not) 22 20 false, ⟨(some 24), .pick, [(.t 20), (.k (.bool true)), (.t 23)], none⟩, O1 25 .mv 24, G1 26 .mv 3 25 false, GK 27 (.bin .lss) 26 (iV 1) 25 false, ⟨(some 28), .pick, [(.t 25), (.k (.bool true)), (.t 27)], none⟩, O1 29 .mv 28, G1 30 .mv 3 29 false, GK 31 (.bin .gtr) 30 (iV 32) 29 false, ⟨(some 32), .pick, [(.t 29), (.k (.bool true)), (.t 31)], none⟩]) (.cond (.t 32) (.seq (.reg false [K1 8 .mv (.bool false)]) .ret) .skip)) (.seq (.reg false [O1 33 (.fld 2) 5, O1 34 .load1 33, O1 35 (.fld 0) 6, O1 36 .load1 35, O2 37 (.call 15) 34 36, ⟨(some 9), (.alloc 32 [(iV 0), (iV 0), (iV 0)]), [], none⟩, ⟨none, (.store 3), [(.t 9), (.t 37)], none⟩]) (.seq (.seq (.reg false [O1 38 (.fld 1) 6, O1 39 .load1 38, K2 40 (.bin .lss) 39 (iV 0)]) (.cond (.t 40) (.seq (.reg false [O1 42 (.loadN 3) 4, O1 43 (.fld 0) 5, O1 44 .load1 43, O1 45 (.fld 1) 5, O1 46 .load1 45, ⟨(some 47), (.build [(iV 0), (iV 0)] [(0, 1), (1, 1)]), [(.t 44), (.t 46)], none⟩, O1 48 (.loadN 3) 9, O1 49 .mv 3, ⟨(some 50), (.bin .sub), [(.k (iV 1024)), (.t 49)], none⟩, ⟨(some 51), (.call 18), [(.t 42), (.t 47), (.t 48), (.t 50)], none⟩, O1 41 .mv 51, O1 52 (.ext 0) 41, O1 53 (.ext 1) 41, O1 54 (.ext 2) 41, ⟨(some 10), (.alloc 35 [(iV 0), (iV 0)]), [], none⟩, ⟨(some 11), (.alloc 37 [(iV 0), (iV 0)]), [], none⟩, ⟨none, (.store 2), [(.t 10), (.t 52)], none⟩, ⟨none, (.store 2), [(.t 11), (.t 53)], none⟩, O1 12 .mv 54]) (.seq (.reg false [O1 55 .mv 12, O1 56 (.un .not) 55, O1 8 .mv 56]) .ret)) .skip)) (.seq (.reg false [O1 58 (.loadN 3) 4, O1 59 (.fld 0) 5, O1 60 .load1 59, O1 61 (.fld 1) 5, O1 62 .load1 61, ⟨(some 63), (.build [(iV 0), (iV 0)] [(0, 1), (1, 1)]), [(.t 60), (.t 62)], none⟩, O1 64 (.loadN 3) 9, O1 65 (.fld 1) 6, O1 66 .load1 65, O1 67 .mv 3, O2 68 (.bin .add) 66 67, ⟨(some 69), (.call 18), [(.t 58), (.t 63), (.t 64), (.t 68)], none⟩, O1 57 .mv 69, O1 70 (.ext 0) 57, O1 71 (.ext 1) 57, O1 72 (.ext 2) 57, ⟨(some 13), (.alloc 35 [(iV 0), (iV 0)]), [], none⟩, ⟨(some 14), (.alloc 37 [(iV 0), (iV 0)]), [], none⟩, ⟨none, (.store 2), [(.t 13), (.t 70)], none⟩, ⟨none, (.store 2), [(.t 14), (.t 71)], none⟩, O1 15 .mv 72]) (.seq (.reg false [O1 73 .mv 15, O1 74 .mv 73, G1 75 (.loadN 2) 13 74 true, G1 76 (.fld 1) 6 74 true, G1 77 .load1 76 74 true, G1 78 .mv 3 74 true, G2 79 (.bin .sub) 77 78 74 true, ⟨(some 80), .maxI, [(.k (iV 0)), (.t 79)], (some (74, true))⟩, ⟨(some 81), (.build [(iV 0), (iV 0)] [(0, 1), (1, 1)]), [(.t 80), (.k (iV 1))], (some (74, true))⟩, G2 82 (.call 35) 75 81 74 true, G1 83 (.un .not) 82 74 true, ⟨(some 84), .pick, [(.t 74), (.t 83), (.k (.bool false))], none⟩, O1 8 .mv 84]) .ret)))))), [(.s 8)]⟩
theorem x24_ok : xfn Try.prog Try.f24 = some x24.er := by kernel_rfl
def x25 : XFn := ⟨54, (.seq (.reg false [O1 5 (.box 24) 0, O1 6 (.box 26) 1, K1 10 .mv (iV 0), K1 11 .mv (iV 0)]) (.seq (.block 0 (.seq (.reg false [O1 16 (.loadN 3) 5, O1 17 (.loadN 3) 6, O2 18 (.call 50) 16 17, O1 19 (.un .not) 18, O1 15 .mv 19]) (.cond (.t 15) (.seq (.reg false [K1 10 .mv (iV 0), K1 11 .mv (iV 1)]) .ret) (.seq (.reg false [O1 21 .mv 3, ⟨(some 22), (.call 47), [(.t 21), (.k (iV 1)), (.k (iV 32))], none⟩, O1 23 (.un .not) 22, O1 24 .mv 23, G1 25 .mv 2 24 false, ⟨(some 26), (.call 47), [(.t 25), (.k (iV 0)), (.k (iV 255))], (some (24, false))⟩, G1 27 (.un .not) 26 24 false, ⟨(some 28), .pick, [(.t 24), (.k (.bool true)), (.t 27)], none⟩, O1 20 .mv 28]) (.cond (.t 20) (.seq (.reg false [K1 10 .mv (iV 0), K1 11 .mv (iV 2)]) .ret) .skip))))) (.seq (.reg false [O1 30 (.loadN 3) 5, O1 31 (.loadN 3) 6, O1 32 .mv 2, ⟨(some 33), (.call 52), [(.t 30), (.t 31), (.t 32), (.k (iV 1024))], none⟩, O1 29 .mv 33, O1 34 (.ext 0) 29, O1 35 (.ext 1) 29, ⟨(some 12), (.alloc 35 [(iV 0), (iV 0)]), [], none⟩, ⟨none, (.store 2), [(.t 12), (.t 34)], none⟩, O1 13 .mv 35]) (.seq (.seq (.reg false [O1 36 .mv 13, O1 37 (.un .not) 36]) (.cond (.t 37) (.seq (.reg false [K1 10 .mv (iV (-1)), K1 11 .mv (iV 0)]) .ret) .skip)) (.seq (.reg false [O1 38 (.fld 0) 12, O1 39 .load1 38, O1 40 (.fld 1) 12, O1 41 .load1 40, O2 42 (.bin .quo) 39 41, O1 43 .mv 4, O1 44 .mv 3, ⟨(some 45), (.bin .sub), [(.k (iV 1)), (.t 44)], none⟩, O2 46 .maxI 43 45, O1 47 .mv 3, O2 48 .minI 46 47, O2 49 (.bin .add) 42 48, K2 50 .maxI 49 (iV 0), O1 14 .mv 50]) (.seq (.seq (.reg false [O1 51 .mv 14, K2 52 (.bin .gtr) 51 (iV 1024)]) (.cond (.t 52) (.reg false [K1 14 .mv (iV (-1))]) .skip)) (.seq (.reg false [O1 53 .mv 14, O1 10 .mv 53, K1 11 .mv (iV 0)]) .ret))))))), [(.s 10), (.s 11)]⟩
theorem x25_ok : xfn Try.prog Try.f25 = some x25.er := by kernel_rfl
def x26 : XFn := ⟨66, (.seq (.reg false [O1 5 (.box 24) 0, O1 6 (.box 26) 1, K1 10 .mv (iV 0), K1 11 .mv (iV 0)]) (.seq (.seq (.reg false [O1 16 (.loadN 3) 5, O1 17 (.loadN 3) 6, O2 18 (.call 27) 16 17, O1 19 (.un .not) 18]) (.cond (.t 19) (.seq (.reg false [K1 10 .mv (iV 0), K1 11 .mv (iV 1)]) .ret) .skip)) (.seq (.seq (.reg false [O1 20 .mv 3, K2 21 (.bin .lss) 20 (iV 1), O1 22 .mv 21, G1 23 .mv 3 22 false, GK 24 (.bin .gtr) 23 (iV 32) 22 false, ⟨(some 25), .pick, [(.t 22), (.k (.bool true)), (.t 24)], none⟩, O1 26 .mv 25, G1 27 .mv 2 26 false, GK 28 (.bin .lss) 27 (iV 0) 26 false, ⟨(some 29), .pick, [(.t 26), (.k (.bool true)), (.t 28)], none⟩, O1 30 .mv 29, G1 31 .mv 2 30 false, GK 32 (.bin .gtr) 31 (iV 255) 30 false, ⟨(some 33), .pick, [(.t 30), (.k (.bool true)), (.t 32)], none⟩]) (.cond (.t 33) (.seq (.reg false [K1 10 .mv (iV 0), K1 11 .mv (iV 2)]) .ret) .skip)) (.seq (.regD [O1 35 (.loadN 3) 5, O1 36 (.fld 0) 6, O1 37 .load1 36, O1 38 (.fld 1) 6, O1 39 .load1 38, ⟨(some 40), (.build [(iV 0), (iV 0)] [(0, 1), (1, 1)]), [(.t 37), (.t 39)], none⟩, O1 41 (.fld 2) 6, O1 42 .load1 41, O1 43 .mv 2, O2 44 (.call 15) 42 43, ⟨(some 45), (.call 18), [(.t 35), (.t 40), (.t 44), (.k (iV 1024))], none⟩, O1 34 .mv 45, O1 46 (.ext 0) 34, O1 47 (.ext 1) 34, O1 48 (.ext 2) 34, ⟨(some 12), (.alloc 35 [(iV 0), (iV 0)]), [], none⟩, ⟨(some 13), (.alloc 37 [(iV 0), (iV 0)]), [], none⟩, ⟨none, (.store 2), [(.t 12), (.t 46)], none⟩, ⟨none, (.store 2), [(.t 13), (.t 47)], none⟩, O1 14 .mv 48] [[], [], [1], [], [3], [2, 1, 4, 3], [], [6], [], [7, 6, 8], [0, 5, 2, 1, 4, 3, 9, 7, 6, 8], [10, 0, 5, 2, 1, 4, 3, 9, 7, 6, 8], [11, 10, 0, 5, 2, 1, 4, 3, 9, 7, 6, 8], [11, 10, 0, 5, 2, 1, 4, 3, 9, 7, 6, 8], [11, 10, 0, 5, 2, 1, 4, 3, 9, 7, 6, 8], [], [], [15, 12, 11, 10, 0, 5, 2, 1, 4, 3, 9, 7, 6, 8, 16], [16, 13, 11, 10, 0, 5, 2, 1, 4, 3, 9, 7, 6, 8, 17, 15, 12], [14, 11, 10, 0, 5, 2, 1, 4, 3, 9, 7, 6, 8, 18, 16, 13, 17, 15, 12]]) (.seq (.seq (.reg false [O1 49 .mv 14, O1 50 (.un .not) 49]) (.cond (.t 50) (.seq (.reg false [K1 10 .mv (iV (-1)), K1 11 .mv (iV 0)]) .ret) .skip)) (.seq (.reg true [O1 51 (.fld 0) 12, O1 52 .load1 51, O1 53 (.fld 1) 12, O1 54 .load1 53, O2 55 (.bin .quo) 52 54, O1 56 .mv 4, O1 57 .mv 3, ⟨(some 58), (.bin .sub), [(.k (iV 1)), (.t 57)], none⟩, O1 59 .mv 3, ⟨(some 60), (.call 53), [(.t 56), (.t 58), (.t 59)], none⟩, O2 61 (.bin .add) 55 60, ⟨(some 62), .maxI, [(.k (iV 0)), (.t 61)], none⟩, O1 15 .mv 62]) (.seq (.seq (.reg false [O1 63 .mv 15, K2 64 (.bin .gtr) 63 (iV 1024)]) (.cond (.t 64) (.seq (.reg false [K1 10 .mv (iV (-1)), K1 11 .mv (iV 0)]) .ret) .skip)) (.seq (.reg false [O1 65 .mv 15, O1 10 .mv 65, K1 11 .mv (iV 0)]) .ret)))))))), [(.s 10), (.s 11)]⟩
theorem x26_ok : xfn Try.prog Try.f26 = some x26.er := by kernel_rfl
/-- wayfinder/ray.Plausible -/
def g23 : Con := fun args_ E_ nn_ => match args_ with
  | [.a [.v (.int .i64 p_W), .v (.int .i64 p_H), .n p_Cells], .a [.v (.int .i64 at_X), .v (.int .i64 at_Y), .v (.int .i64 at_H)], .a [.v (.int .i64 b_Mark), .v (.int .i64 b_Reading)], .c (.v (.int .i64 rng))] => (match rowOf E_ p_Cells with
    | some (p_Cells_n, p_Cells_s, p_Cells_f) => some (.q (isRow eU8 p_Cells_n p_Cells_s p_Cells_f ∧ True) (.o (.c (.v (.bool (plausB p_W p_H (decL eU8 p_Cells_n p_Cells_f) at_X at_Y at_H b_Mark b_Reading rng))))))
    | none => none)
  | _ => none
theorem c23 : COk Try.prog 23 g23 := by
  refine cok_q Try.func23 x23_ok (by kernel_rfl) (cok_tab (cok_cons c50 (cok_cons c51 (cok_cons c47 (cok_cons c52 cok_nil))))) ?_
  intro args_ E_ nn_ cr_ hg_
  unfold g23 at hg_
  split at hg_
  · rename_i p_W p_H p_Cells at_X at_Y at_H b_Mark b_Reading rng
    split at hg_
    · rename_i p_Cells_n p_Cells_s p_Cells_f h_p_Cells
      cases hg_
      refine ⟨_, _, rfl, 1, [p_Cells], [.a [.v (.int .i64 p_W), .v (.int .i64 p_H), .n 0], .a [.v (.int .i64 at_X), .v (.int .i64 at_Y), .v (.int .i64 at_H)], .a [.v (.int .i64 b_Mark), .v (.int .i64 b_Reading)], .c (.v (.int .i64 rng))], [(0, .ro (decL eU8 p_Cells_n p_Cells_f).length eU8.sz (rowF eU8 (decL eU8 p_Cells_n p_Cells_f)))], .o (.c (.v (.bool (plausB p_W p_H (decL eU8 p_Cells_n p_Cells_f) at_X at_Y at_H b_Mark b_Reading rng)))), rfl, rfl, by simp only [push_cast, Nat.reduceLT, Nat.reduceAdd], by simp only [push_cast, Nat.reduceLT, Nat.reduceAdd], by simp only [push_cast, Nat.reduceLT, Nat.reduceAdd], rfl, ⟨inE0_row h_p_Cells, trivial⟩, rfl, ?_⟩
      intro hpre hlen
      obtain ⟨i_p_Cells, hpre⟩ := hpre
      refine ⟨⟨inE_row h_p_Cells i_p_Cells, trivial⟩, ?_⟩
      have z_p_Cells := lens_row (E := eU8) hlen h_p_Cells
      clear i_p_Cells
      generalize decL eU8 p_Cells_n p_Cells_f = p_CellsL at *
      clear h_p_Cells
      simp (config := {maxSteps := 10000000}) only [x23, push_cast, Nat.reduceAdd, Nat.reduceSub, Nat.reduceLeDiff, Nat.reduceEqDiff, Nat.reduceBEq, Nat.reduceMul, Nat.reduceLT, reduceIte, reduceCtorEq, Int.reduceLE, Int.reduceLT, Int.reduceEq, Int.reduceMul, Int.reduceAdd, Int.reduceSub, Int.reduceNeg, Int.reduceToNat, Int.reduceNe, g50, g51, g47, g52]
      refine ⟨fun h => (plaus_f h).symm, fun h1 h2 h3 h4 h5 h6 h7 h8 h9 => ?_⟩
      rw [plaus_t h1 ⟨h2, h3⟩ ⟨⟨h4, h5⟩, h6, h7⟩ ⟨h8, h9⟩, wrapI (n := 1024 - rng) (by omega) (by omega), wrapI (n := b_Reading + rng) (by omega) (by omega), wrapI (n := b_Reading - rng) (by omega) (by omega)]
      refine ⟨fun h => by rw [if_pos h]; rfl, fun h => ?_⟩
      rw [if_neg h]
      unfold lookO lookK
      cases ho : firstO p_W p_H p_CellsL at_X at_Y (beamV at_H b_Mark).1 (beamV at_H b_Mark).2.1 (beamV at_H b_Mark).2.2 (b_Reading + rng) with
      | none => rfl
      | some c =>
        have hb := hit_bd (first_hit ho).1 (first_hit ho).2.1
        have m := mulB (a := b_Reading - rng) (b := (entC at_X at_Y (beamV at_H b_Mark).1 (beamV at_H b_Mark).2.1 (beamV at_H b_Mark).2.2 c).2) (A := 2048) (B := 67108864) (by omega) (by omega) (by omega) (by omega)
        change decide (IntKind.i64.wrap ((b_Reading - rng) * (entC at_X at_Y (beamV at_H b_Mark).1 (beamV at_H b_Mark).2.1 (beamV at_H b_Mark).2.2 c).2) ≤ (entC at_X at_Y (beamV at_H b_Mark).1 (beamV at_H b_Mark).2.1 (beamV at_H b_Mark).2.2 c).1) = decide ((b_Reading - rng) * (entC at_X at_Y (beamV at_H b_Mark).1 (beamV at_H b_Mark).2.1 (beamV at_H b_Mark).2.2 c).2 ≤ (entC at_X at_Y (beamV at_H b_Mark).1 (beamV at_H b_Mark).2.1 (beamV at_H b_Mark).2.2 c).1)
        rw [wrapI (by omega) (by omega)]
    · cases hg_
  · cases hg_
/-- wayfinder/wayfinderref10.Plausible -/
def g24 : Con := fun args_ E_ nn_ => match args_ with
  | [.a [.v (.int .i64 p_W), .v (.int .i64 p_H), .n p_Cells], .a [.v (.int .i64 at_X), .v (.int .i64 at_Y), .v (.int .i64 at_H)], .a [.v (.int .i64 b_Mark), .v (.int .i64 b_Reading)], .c (.v (.int .i64 rng))] => (match rowOf E_ p_Cells with
    | some (p_Cells_n, p_Cells_s, p_Cells_f) => some (.q (isRow eU8 p_Cells_n p_Cells_s p_Cells_f ∧ True) (.o (.c (.v (.bool (plausB p_W p_H (decL eU8 p_Cells_n p_Cells_f) at_X at_Y at_H b_Mark b_Reading rng))))))
    | none => none)
  | _ => none
theorem c24 : COk Try.prog 24 g24 := by
  refine cok_q Try.func24 x24_ok (by kernel_rfl) (cok_tab (cok_cons c27 (cok_cons c28 (cok_cons c15 (cok_cons c18 (cok_cons c35 cok_nil)))))) ?_
  intro args_ E_ nn_ cr_ hg_
  unfold g24 at hg_
  split at hg_
  · rename_i p_W p_H p_Cells at_X at_Y at_H b_Mark b_Reading rng
    split at hg_
    · rename_i p_Cells_n p_Cells_s p_Cells_f h_p_Cells
      cases hg_
      refine ⟨_, _, rfl, 1, [p_Cells], [.a [.v (.int .i64 p_W), .v (.int .i64 p_H), .n 0], .a [.v (.int .i64 at_X), .v (.int .i64 at_Y), .v (.int .i64 at_H)], .a [.v (.int .i64 b_Mark), .v (.int .i64 b_Reading)], .c (.v (.int .i64 rng))], [(0, .ro (decL eU8 p_Cells_n p_Cells_f).length eU8.sz (rowF eU8 (decL eU8 p_Cells_n p_Cells_f)))], .o (.c (.v (.bool (plausB p_W p_H (decL eU8 p_Cells_n p_Cells_f) at_X at_Y at_H b_Mark b_Reading rng)))), rfl, rfl, by simp only [push_cast, Nat.reduceLT, Nat.reduceAdd], by simp only [push_cast, Nat.reduceLT, Nat.reduceAdd], by simp only [push_cast, Nat.reduceLT, Nat.reduceAdd], rfl, ⟨inE0_row h_p_Cells, trivial⟩, rfl, ?_⟩
      intro hpre hlen
      obtain ⟨i_p_Cells, hpre⟩ := hpre
      refine ⟨⟨inE_row h_p_Cells i_p_Cells, trivial⟩, ?_⟩
      have z_p_Cells := lens_row (E := eU8) hlen h_p_Cells
      clear i_p_Cells
      generalize decL eU8 p_Cells_n p_Cells_f = p_CellsL at *
      clear h_p_Cells
      simp (config := {maxSteps := 10000000}) only [x24, push_cast, Nat.reduceAdd, Nat.reduceSub, Nat.reduceLeDiff, Nat.reduceEqDiff, Nat.reduceBEq, Nat.reduceMul, Nat.reduceLT, reduceIte, reduceCtorEq, Int.reduceLE, Int.reduceLT, Int.reduceEq, Int.reduceMul, Int.reduceAdd, Int.reduceSub, Int.reduceNeg, Int.reduceToNat, Int.reduceNe, g27, g28, g15, g18, g35]
      refine ⟨fun h => (plaus_f (by rcases h with ((h | h) | h) | h; exact .inl (.inl h); exact .inl (.inr h); omega; omega)).symm, fun h1 h2 h3 h4 h5 h6 h7 h8 h9 => ⟨by omega, ?_⟩⟩
      rw [plaus_t h1 ⟨h2, h3⟩ ⟨⟨h4, h5⟩, h6, h7⟩ ⟨by omega, by omega⟩, wrapI (n := 1024 - rng) (by omega) (by omega), wrapI (n := b_Reading + rng) (by omega) (by omega), wrapI (n := b_Reading - rng) (by omega) (by omega)]
      refine ⟨fun h => by rw [if_pos (by omega)]; rfl, fun h => ?_⟩
      rw [if_neg (by omega)]
      unfold lookO lookK
      cases ho : firstO p_W p_H p_CellsL at_X at_Y (beamV at_H b_Mark).1 (beamV at_H b_Mark).2.1 (beamV at_H b_Mark).2.2 (b_Reading + rng) with
      | none => exact ⟨fun h => by simp at h, rfl⟩
      | some c =>
        have hb := hit_bd (first_hit ho).1 (first_hit ho).2.1
        generalize hK : entC at_X at_Y (beamV at_H b_Mark).1 (beamV at_H b_Mark).2.1 (beamV at_H b_Mark).2.2 = K at *
        refine ⟨fun _ => ⟨rfl, ?_⟩, ?_⟩
        · change (0 ≤ (K c).1 ∧ 0 < (K c).2 ∧ (K c).2 ≤ 2147483648) ∧ 0 ≤ max 0 (b_Reading - rng) ∧ (K c).1 ≤ 9223372036854775807 ∧ max 0 (b_Reading - rng) ≤ 9223372036854775807
          omega
        · change (!decide ((K c).1 * 1 < max 0 (b_Reading - rng) * (K c).2)) = decide ((b_Reading - rng) * (K c).2 ≤ (K c).1)
          rw [← decide_not, decide_eq_decide]
          rcases Int.le_total 0 (b_Reading - rng) with hz | hz
          · rw [Int.max_eq_right hz]; omega
          · rw [Int.max_eq_left hz]
            have := Int.mul_nonneg_of_nonpos_of_nonpos hz (show -(K c).2 ≤ 0 by omega)
            rw [Int.mul_neg] at this
            omega
    · cases hg_
  · cases hg_
/-- wayfinder/ray.Measure -/
def g25 : Con := fun args_ E_ nn_ => match args_ with
  | [.a [.v (.int .i64 p_W), .v (.int .i64 p_H), .n p_Cells], .a [.v (.int .i64 at_X), .v (.int .i64 at_Y), .v (.int .i64 at_H)], .c (.v (.int .i64 mark)), .c (.v (.int .i64 rng)), .c (.v (.int .i64 err))] => (match rowOf E_ p_Cells with
    | some (p_Cells_n, p_Cells_s, p_Cells_f) => some (.q (isRow eU8 p_Cells_n p_Cells_s p_Cells_f ∧ True) (.t [.c (.v (.int .i64 (measV p_W p_H (decL eU8 p_Cells_n p_Cells_f) at_X at_Y at_H mark rng err))), .c (.v (.int .i64 (measE p_W p_H (decL eU8 p_Cells_n p_Cells_f) at_X at_Y at_H mark rng)))]))
    | none => none)
  | _ => none
theorem c25 : COk Try.prog 25 g25 := by
  refine cok_q Try.func25 x25_ok (by kernel_rfl) (cok_tab (cok_cons c50 (cok_cons c47 (cok_cons c52 cok_nil)))) ?_
  intro args_ E_ nn_ cr_ hg_
  unfold g25 at hg_
  split at hg_
  · rename_i p_W p_H p_Cells at_X at_Y at_H mark rng err
    split at hg_
    · rename_i p_Cells_n p_Cells_s p_Cells_f h_p_Cells
      cases hg_
      refine ⟨_, _, rfl, 1, [p_Cells], [.a [.v (.int .i64 p_W), .v (.int .i64 p_H), .n 0], .a [.v (.int .i64 at_X), .v (.int .i64 at_Y), .v (.int .i64 at_H)], .c (.v (.int .i64 mark)), .c (.v (.int .i64 rng)), .c (.v (.int .i64 err))], [(0, .ro (decL eU8 p_Cells_n p_Cells_f).length eU8.sz (rowF eU8 (decL eU8 p_Cells_n p_Cells_f)))], .t [.c (.v (.int .i64 (measV p_W p_H (decL eU8 p_Cells_n p_Cells_f) at_X at_Y at_H mark rng err))), .c (.v (.int .i64 (measE p_W p_H (decL eU8 p_Cells_n p_Cells_f) at_X at_Y at_H mark rng)))], rfl, rfl, by simp only [push_cast, Nat.reduceLT, Nat.reduceAdd], by simp only [push_cast, Nat.reduceLT, Nat.reduceAdd], by simp only [push_cast, Nat.reduceLT, Nat.reduceAdd], rfl, ⟨inE0_row h_p_Cells, trivial⟩, rfl, ?_⟩
      intro hpre hlen
      obtain ⟨i_p_Cells, hpre⟩ := hpre
      refine ⟨⟨inE_row h_p_Cells i_p_Cells, trivial⟩, ?_⟩
      have z_p_Cells := lens_row (E := eU8) hlen h_p_Cells
      clear i_p_Cells
      generalize decL eU8 p_Cells_n p_Cells_f = p_CellsL at *
      clear h_p_Cells
      simp (config := {maxSteps := 10000000}) only [x25, push_cast, Nat.reduceAdd, Nat.reduceSub, Nat.reduceLeDiff, Nat.reduceEqDiff, Nat.reduceBEq, Nat.reduceMul, Nat.reduceLT, reduceIte, reduceCtorEq, Int.reduceLE, Int.reduceLT, Int.reduceEq, Int.reduceMul, Int.reduceAdd, Int.reduceSub, Int.reduceNeg, Int.reduceToNat, Int.reduceNe, g50, g47, g52]
      refine ⟨fun h => ?_, fun h1 h2 h3 => ⟨fun h => ?_, fun h4 h5 h6 h7 => ?_⟩⟩
      · have z := meas1 (m := mark) (rng := rng) (er := err) h; rw [z.1, z.2]; exact ⟨rfl, rfl⟩
      · have z := meas2 (er := err) h1 ⟨h2, h3⟩ h; rw [z.1, z.2]; exact ⟨rfl, rfl⟩
      have z := meas0 (er := err) h1 ⟨h2, h3⟩ (show (1 ≤ rng ∧ rng ≤ 32) ∧ 0 ≤ mark ∧ mark ≤ 255 by omega)
      rw [z.1, z.2]
      unfold lookO lookK
      cases ho : firstO p_W p_H p_CellsL at_X at_Y (beamV at_H mark).1 (beamV at_H mark).2.1 (beamV at_H mark).2.2 1024 with
      | none => exact ⟨fun _ => ⟨rfl, rfl⟩, fun h => by simp at h⟩
      | some c =>
        have hb := hit_bd (first_hit ho).1 (first_hit ho).2.1
        generalize hK : entC at_X at_Y (beamV at_H mark).1 (beamV at_H mark).2.1 (beamV at_H mark).2.2 = K at *
        have q := measQ hb.1.1 hb.1.2.1 hb.2.1
        refine ⟨fun h => by simp at h, fun _ => ?_⟩
        change ¬ (K c).2 = 0 ∧ (1024 < max (IntKind.i64.wrap (IntKind.i64.wrap ((K c).1.tdiv (K c).2) + min (max err (IntKind.i64.wrap (1 - rng))) rng)) 0 → -1 = measZ K (min (max err (1 - rng)) rng) (some c) ∧ (0 : Int) = 0) ∧ (¬ 1024 < max (IntKind.i64.wrap (IntKind.i64.wrap ((K c).1.tdiv (K c).2) + min (max err (IntKind.i64.wrap (1 - rng))) rng)) 0 → max (IntKind.i64.wrap (IntKind.i64.wrap ((K c).1.tdiv (K c).2) + min (max err (IntKind.i64.wrap (1 - rng))) rng)) 0 = measZ K (min (max err (1 - rng)) rng) (some c) ∧ (0 : Int) = 0)
        rw [q.1, wrapI (n := (K c).1 / (K c).2) (by omega) (by omega), wrapI (n := 1 - rng) (by omega) (by omega), wrapI (n := (K c).1 / (K c).2 + min (max err (1 - rng)) rng) (by omega) (by omega)]
        exact ⟨by omega, fun g => ⟨(if_pos g).symm, rfl⟩, fun g => ⟨(if_neg g).symm, rfl⟩⟩
    · cases hg_
  · cases hg_
/-- wayfinder/wayfinderref10.Measure -/
def g26 : Con := fun args_ E_ nn_ => match args_ with
  | [.a [.v (.int .i64 p_W), .v (.int .i64 p_H), .n p_Cells], .a [.v (.int .i64 at_X), .v (.int .i64 at_Y), .v (.int .i64 at_H)], .c (.v (.int .i64 mark)), .c (.v (.int .i64 rng)), .c (.v (.int .i64 err))] => (match rowOf E_ p_Cells with
    | some (p_Cells_n, p_Cells_s, p_Cells_f) => some (.q (isRow eU8 p_Cells_n p_Cells_s p_Cells_f ∧ True) (.t [.c (.v (.int .i64 (measV p_W p_H (decL eU8 p_Cells_n p_Cells_f) at_X at_Y at_H mark rng err))), .c (.v (.int .i64 (measE p_W p_H (decL eU8 p_Cells_n p_Cells_f) at_X at_Y at_H mark rng)))]))
    | none => none)
  | _ => none
theorem c26 : COk Try.prog 26 g26 := by
  refine cok_q Try.func26 x26_ok (by kernel_rfl) (cok_tab (cok_cons c27 (cok_cons c15 (cok_cons c18 (cok_cons c53 cok_nil))))) ?_
  intro args_ E_ nn_ cr_ hg_
  unfold g26 at hg_
  split at hg_
  · rename_i p_W p_H p_Cells at_X at_Y at_H mark rng err
    split at hg_
    · rename_i p_Cells_n p_Cells_s p_Cells_f h_p_Cells
      cases hg_
      refine ⟨_, _, rfl, 1, [p_Cells], [.a [.v (.int .i64 p_W), .v (.int .i64 p_H), .n 0], .a [.v (.int .i64 at_X), .v (.int .i64 at_Y), .v (.int .i64 at_H)], .c (.v (.int .i64 mark)), .c (.v (.int .i64 rng)), .c (.v (.int .i64 err))], [(0, .ro (decL eU8 p_Cells_n p_Cells_f).length eU8.sz (rowF eU8 (decL eU8 p_Cells_n p_Cells_f)))], .t [.c (.v (.int .i64 (measV p_W p_H (decL eU8 p_Cells_n p_Cells_f) at_X at_Y at_H mark rng err))), .c (.v (.int .i64 (measE p_W p_H (decL eU8 p_Cells_n p_Cells_f) at_X at_Y at_H mark rng)))], rfl, rfl, by simp only [push_cast, Nat.reduceLT, Nat.reduceAdd], by simp only [push_cast, Nat.reduceLT, Nat.reduceAdd], by simp only [push_cast, Nat.reduceLT, Nat.reduceAdd], rfl, ⟨inE0_row h_p_Cells, trivial⟩, rfl, ?_⟩
      intro hpre hlen
      obtain ⟨i_p_Cells, hpre⟩ := hpre
      refine ⟨⟨inE_row h_p_Cells i_p_Cells, trivial⟩, ?_⟩
      have z_p_Cells := lens_row (E := eU8) hlen h_p_Cells
      clear i_p_Cells
      generalize decL eU8 p_Cells_n p_Cells_f = p_CellsL at *
      clear h_p_Cells
      simp (config := {maxSteps := 10000000}) only [x26, push_cast, Nat.reduceAdd, Nat.reduceSub, Nat.reduceLeDiff, Nat.reduceEqDiff, Nat.reduceBEq, Nat.reduceMul, Nat.reduceLT, reduceIte, reduceCtorEq, Int.reduceLE, Int.reduceLT, Int.reduceEq, Int.reduceMul, Int.reduceAdd, Int.reduceSub, Int.reduceNeg, Int.reduceToNat, Int.reduceNe, g27, g15, g18, g53]
      refine ⟨fun h => ?_, fun h1 h2 h3 => ⟨fun h => ?_, fun h4 h5 h6 h7 => ⟨by omega, by rfl, ?_⟩⟩⟩
      · have z := meas1 (m := mark) (rng := rng) (er := err) h; rw [z.1, z.2]; exact ⟨rfl, rfl⟩
      · have z := meas2 (rng := rng) (m := mark) (er := err) h1 ⟨h2, h3⟩ (by omega); rw [z.1, z.2]; exact ⟨rfl, rfl⟩
      have z := meas0 (er := err) h1 ⟨h2, h3⟩ (show (1 ≤ rng ∧ rng ≤ 32) ∧ 0 ≤ mark ∧ mark ≤ 255 by omega)
      rw [z.1, z.2]
      unfold lookO lookK
      cases ho : firstO p_W p_H p_CellsL at_X at_Y (beamV at_H mark).1 (beamV at_H mark).2.1 (beamV at_H mark).2.2 1024 with
      | none => exact ⟨fun _ => ⟨rfl, rfl⟩, fun h => by simp at h⟩
      | some c =>
        have hb := hit_bd (first_hit ho).1 (first_hit ho).2.1
        generalize hK : entC at_X at_Y (beamV at_H mark).1 (beamV at_H mark).2.1 (beamV at_H mark).2.2 = K at *
        have q := measQ hb.1.1 hb.1.2.1 hb.2.1
        refine ⟨fun h => by simp at h, fun _ => ?_⟩
        change ¬ (K c).2 = 0 ∧ (1024 < max 0 (IntKind.i64.wrap (IntKind.i64.wrap ((K c).1.tdiv (K c).2) + max (IntKind.i64.wrap (1 - rng)) (min err rng))) → -1 = measZ K (min (max err (1 - rng)) rng) (some c) ∧ (0 : Int) = 0) ∧ (¬ 1024 < max 0 (IntKind.i64.wrap (IntKind.i64.wrap ((K c).1.tdiv (K c).2) + max (IntKind.i64.wrap (1 - rng)) (min err rng))) → max 0 (IntKind.i64.wrap (IntKind.i64.wrap ((K c).1.tdiv (K c).2) + max (IntKind.i64.wrap (1 - rng)) (min err rng))) = measZ K (min (max err (1 - rng)) rng) (some c) ∧ (0 : Int) = 0)
        rw [q.1, wrapI (n := (K c).1 / (K c).2) (by omega) (by omega), wrapI (n := 1 - rng) (by omega) (by omega), wrapI (n := (K c).1 / (K c).2 + max (1 - rng) (min err rng)) (by omega) (by omega)]
        rw [show max (1 - rng) (min err rng) = min (max err (1 - rng)) rng by omega, Int.max_comm 0]
        exact ⟨by omega, fun g => ⟨(if_pos g).symm, rfl⟩, fun g => ⟨(if_neg g).symm, rfl⟩⟩
    · cases hg_
  · cases hg_
end Go.Proofs.Ytpnpbbagonknjaa
set_option linter.unusedVariables false
set_option linter.unusedSimpArgs false
set_option maxRecDepth 20000
namespace Go.Proofs.Ytpnpbbagonknjaa
open Go.Sx Go.Way
/-! ### Sweeps -/
def swE1 (W H : Int) (L : List Int) (x y h rng : Int) (M : List Int) : Nat → Int
  | 0 => 0
  | k + 1 => if swE1 W H L x y h rng M k = 0 then measE W H L x y h (M.getD k eI.dflt) rng else swE1 W H L x y h rng M k
def swV (W H : Int) (L : List Int) (x y h rng : Int) (M R : List Int) (k : Nat) : List CC := (List.range k).map fun i => ⟨M.getD i eI.dflt, measV W H L x y h (M.getD i eI.dflt) rng (if i < R.length then R.getD i eI.dflt else 0)⟩
def swpE (W H : Int) (L : List Int) (x y h rng : Int) (M : List Int) : Int := if 32 < M.length then 6 else swE1 W H L x y h rng M M.length
def swpL (W H : Int) (L : List Int) (x y h rng : Int) (M R : List Int) : List CC := if swpE W H L x y h rng M = 0 then swV W H L x y h rng M R M.length else []
theorem swV_succ (W H : Int) (L : List Int) (x y h rng : Int) (M R : List Int) (k : Nat) : swV W H L x y h rng M R (k + 1) = swV W H L x y h rng M R k ++ [⟨M.getD k eI.dflt, measV W H L x y h (M.getD k eI.dflt) rng (if k < R.length then R.getD k eI.dflt else 0)⟩] := by simp [swV, List.range_succ]
theorem swV_len (W H : Int) (L : List Int) (x y h rng : Int) (M R : List Int) (k : Nat) : (swV W H L x y h rng M R k).length = k := by simp [swV]
theorem swE1_stop {W H : Int} {L : List Int} {x y h rng : Int} {M : List Int} {k : Nat} (h0 : swE1 W H L x y h rng M k ≠ 0) : ∀ n, k ≤ n → swE1 W H L x y h rng M n = swE1 W H L x y h rng M k
  | 0, hn => by obtain rfl : k = 0 := by omega
                rfl
  | n + 1, hn => by
    rcases Nat.lt_or_ge n k with g | g
    · obtain rfl : k = n + 1 := by omega
      rfl
    · have e := swE1_stop h0 n g
      show (if swE1 W H L x y h rng M n = 0 then _ else _) = _
      rw [e, if_neg h0]
theorem swp_full {W H : Int} {L : List Int} {x y h rng : Int} {M : List Int} (R : List Int) (k : 32 < M.length) : swpE W H L x y h rng M = 6 ∧ swpL W H L x y h rng M R = [] := by
  have e : swpE W H L x y h rng M = 6 := if_pos k
  exact ⟨e, by unfold swpL; rw [e]; rfl⟩
theorem swp_bad {W H : Int} {L : List Int} {x y h rng : Int} {M : List Int} (R : List Int) {k : Nat} (hm : ¬ 32 < M.length) (hk : k < M.length) (h0 : swE1 W H L x y h rng M k = 0) (h1 : measE W H L x y h (M.getD k eI.dflt) rng ≠ 0) :
    swpE W H L x y h rng M = measE W H L x y h (M.getD k eI.dflt) rng ∧ swpL W H L x y h rng M R = [] := by
  have e0 : swE1 W H L x y h rng M (k + 1) = measE W H L x y h (M.getD k eI.dflt) rng := if_pos h0
  have e : swpE W H L x y h rng M = measE W H L x y h (M.getD k eI.dflt) rng := by
    unfold swpE
    rw [if_neg hm, swE1_stop (k := k + 1) (by rw [e0]; exact h1) _ (by omega), e0]
  exact ⟨e, by unfold swpL; rw [e, if_neg h1]⟩
theorem swp_good {W H : Int} {L : List Int} {x y h rng : Int} {M : List Int} (R : List Int) (hm : ¬ 32 < M.length) (h0 : swE1 W H L x y h rng M M.length = 0) : swpE W H L x y h rng M = 0 ∧ swpL W H L x y h rng M R = swV W H L x y h rng M R M.length := by
  have e : swpE W H L x y h rng M = 0 := by unfold swpE; rw [if_neg hm, h0]
  exact ⟨e, by unfold swpL; rw [if_pos e]⟩
def scanB (S : List CC) : Bool := decide (S.length ≤ 32) && S.all fun c => beamB c.X c.Y
def allB (W H : Int) (L : List Int) (x y h rng : Int) (S : List CC) : Bool := (S.all fun c => plausB W H L x y h c.X c.Y rng) && decide (S.length ≤ 32)
theorem all_no {S : List CC} {f : CC → Bool} {k : Nat} (hk : k < S.length) (h : f (S.getD k eC.dflt) = false) : S.all f = false := by
  rw [Bool.eq_false_iff]
  intro g
  rw [List.all_eq_true] at g
  rw [g _ (getD_in hk)] at h
  cases h
theorem all_yes {S : List CC} {f : CC → Bool} (h : ∀ i, i < S.length → f (S.getD i eC.dflt) = true) : S.all f = true := by
  rw [List.all_eq_true]
  intro c hc
  obtain ⟨j, hj, rfl⟩ := getD_mem hc
  exact h j hj
theorem plaus_beam {W H : Int} {L : List Int} {x y h m r rng : Int} (k : plausB W H L x y h m r rng = true) : beamB m r = true := by
  unfold plausB at k
  simp only [Bool.and_eq_true] at k
  exact k.1.1.2
def x29L0 : XC := (.seq (.reg false [O2 24 (.bin .lss) 23 22]) (.seq (.cond (.t 24) .skip (.exit 0)) (.seq (.block 1 (.seq (.reg false [O1 25 .mv 23, O2 26 (.ixS 1) 21 23, O1 27 .load1 26, O1 13 .mv 25, O1 14 .mv 27]) (.seq (.reg false [K1 15 .mv (iV 0)]) (.seq (.seq (.reg false [O1 28 .mv 13, O1 29 .mv 4, O1 30 .lenS 29, O2 31 (.bin .lss) 28 30]) (.cond (.t 31) (.reg false [O1 32 .mv 4, O1 33 .mv 13, O2 34 (.ixS 1) 32 33, O1 35 .load1 34, O1 15 .mv 35]) .skip)) (.seq (.reg false [O1 37 (.loadN 3) 5, O1 38 (.loadN 3) 6, O1 39 .mv 14, O1 40 .mv 3, O1 41 .mv 15, ⟨(some 42), (.call 25), [(.t 37), (.t 38), (.t 39), (.t 40), (.t 41)], none⟩, O1 36 .mv 42, O1 43 (.ext 0) 36, O1 44 (.ext 1) 36, O1 16 .mv 43, O1 17 .mv 44]) (.seq (.seq (.reg false [O1 45 .mv 17, K2 46 (.bin .neq) 45 (iV 0)]) (.cond (.t 46) (.seq (.reg false [O1 47 .mv 17, K1 10 .mv (.slice none 0 0), O1 11 .mv 47]) .ret) .skip)) (.reg false [O1 48 .mv 12, O1 49 .mv 14, O1 50 .mv 16, ⟨(some 51), (.build [(iV 0), (iV 0)] [(0, 1), (1, 1)]), [(.t 49), (.t 50)], none⟩, ⟨(some 52), (.slit 28 1 2 [(iV 0), (iV 0)] [(0, 2)]), [(.t 51)], none⟩, O2 53 (.app 28 2 16) 48 52, O1 12 .mv 53]))))))) (.reg false [K2 54 (.bin .add) 23 (iV 1), O1 23 .mv 54]))))
def x29 : XFn := ⟨56, (.seq (.reg false [O1 5 (.box 24) 0, O1 6 (.box 26) 1, K1 10 .mv (.slice none 0 0), K1 11 .mv (iV 0)]) (.seq (.seq (.reg false [O1 18 .mv 2, O1 19 .lenS 18, K2 20 (.bin .gtr) 19 (iV 32)]) (.cond (.t 20) (.seq (.reg false [K1 10 .mv (.slice none 0 0), K1 11 .mv (iV 6)]) .ret) .skip)) (.seq (.reg false [K1 12 .mv (.slice none 0 0)]) (.seq (.seq (.reg false [O1 21 .mv 2, O1 22 .lenS 21, K1 23 .mv (iV 0)]) (.block 0 (.loop x29L0))) (.seq (.reg false [O1 55 .mv 12, O1 10 .mv 55, K1 11 .mv (iV 0)]) .ret))))), [(.s 10), (.s 11)]⟩
theorem x29_ok : xfn Try.prog Try.f29 = some x29.er := by kernel_rfl
def x30L0 : XC := (.seq (.seq (.reg false [O1 20 .mv 13, O1 21 .mv 2, O1 22 .lenS 21, O2 23 (.bin .lss) 20 22]) (.cond (.t 23) .skip (.exit 0))) (.seq (.block 1 (.seq (.reg false [K1 14 .mv (iV 0)]) (.seq (.seq (.reg false [O1 26 .mv 13, O1 27 .mv 4, O1 28 .lenS 27, O2 29 (.bin .lss) 26 28]) (.cond (.t 29) (.reg false [O1 30 .mv 4, O1 31 .mv 13, O2 32 (.ixS 1) 30 31, O1 33 .load1 32, O1 14 .mv 33]) .skip)) (.seq (.reg true [O1 35 (.loadN 3) 5, O1 36 (.loadN 3) 6, O1 37 .mv 2, O1 38 .mv 13, O2 39 (.ixS 1) 37 38, O1 40 .load1 39, O1 41 .mv 3, O1 42 .mv 14, ⟨(some 43), (.call 26), [(.t 35), (.t 36), (.t 40), (.t 41), (.t 42)], none⟩, O1 34 .mv 43, O1 44 (.ext 0) 34, O1 45 (.ext 1) 34, O1 15 .mv 44, O1 16 .mv 45]) (.seq (.seq (.reg false [O1 46 .mv 16, K2 47 (.bin .neq) 46 (iV 0)]) (.cond (.t 47) (.seq (.reg false [O1 48 .mv 16, K1 10 .mv (.slice none 0 0), O1 11 .mv 48]) .ret) .skip)) (.reg false [O1 49 .mv 12, O1 50 .mv 2, O1 51 .mv 13, O2 52 (.ixS 1) 50 51, O1 53 .load1 52, O1 54 .mv 15, ⟨(some 55), (.build [(iV 0), (iV 0)] [(0, 1), (1, 1)]), [(.t 53), (.t 54)], none⟩, ⟨(some 56), (.slit 28 1 2 [(iV 0), (iV 0)] [(0, 2)]), [(.t 55)], none⟩, O2 57 (.app 28 2 16) 49 56, O1 12 .mv 57])))))) (.reg false [O1 24 .mv 13, K2 25 (.bin .add) 24 (iV 1), O1 13 .mv 25])))
def x30 : XFn := ⟨59, (.seq (.reg false [O1 5 (.box 24) 0, O1 6 (.box 26) 1, K1 10 .mv (.slice none 0 0), K1 11 .mv (iV 0)]) (.seq (.seq (.reg false [O1 17 .mv 2, O1 18 .lenS 17, K2 19 (.bin .gtr) 18 (iV 32)]) (.cond (.t 19) (.seq (.reg false [K1 10 .mv (.slice none 0 0), K1 11 .mv (iV 6)]) .ret) .skip)) (.seq (.reg false [K1 12 .mv (.slice none 0 0)]) (.seq (.seq (.reg false [K1 13 .mv (iV 0)]) (.block 0 (.loop x30L0))) (.seq (.reg false [O1 58 .mv 12, O1 10 .mv 58, K1 11 .mv (iV 0)]) .ret))))), [(.s 10), (.s 11)]⟩
theorem x30_ok : xfn Try.prog Try.f30 = some x30.er := by kernel_rfl
def x32L0 : XC := (.seq (.reg false [O2 14 (.bin .lss) 13 12]) (.seq (.cond (.t 14) .skip (.exit 0)) (.seq (.block 1 (.seq (.reg false [O2 15 (.ixS 2) 11 13, O1 16 (.loadN 2) 15, ⟨(some 10), (.alloc 28 [(iV 0), (iV 0)]), [], none⟩, ⟨none, (.store 2), [(.t 10), (.t 16)], none⟩]) (.seq (.reg false [O1 17 (.loadN 3) 4, O1 18 (.loadN 3) 5, O1 19 (.loadN 2) 10, O1 20 .mv 3, ⟨(some 21), (.call 23), [(.t 17), (.t 18), (.t 19), (.t 20)], none⟩, O1 22 (.un .not) 21]) (.cond (.t 22) (.seq (.reg false [K1 8 .mv (.bool false)]) .ret) .skip)))) (.reg false [K2 23 (.bin .add) 13 (iV 1), O1 13 .mv 23]))))
def x32 : XFn := ⟨27, (.seq (.reg false [O1 4 (.box 24) 0, O1 5 (.box 26) 1, K1 8 .mv (.bool false)]) (.seq (.seq (.reg false [O1 11 .mv 2, O1 12 .lenS 11, K1 13 .mv (iV 0)]) (.block 0 (.loop x32L0))) (.seq (.reg false [O1 24 .mv 2, O1 25 .lenS 24, K2 26 (.bin .leq) 25 (iV 32), O1 8 .mv 26]) .ret))), [(.s 8)]⟩
theorem x32_ok : xfn Try.prog Try.f32 = some x32.er := by kernel_rfl
def x34L0 : XC := (.seq (.seq (.reg false [O1 10 .mv 9, O1 11 .mv 2, O1 12 .lenS 11, O2 13 (.bin .lss) 10 12]) (.cond (.t 13) .skip (.exit 0))) (.seq (.block 1 (.seq (.reg true [O1 16 (.loadN 3) 4, O1 17 (.loadN 3) 5, O1 18 .mv 2, O1 19 .mv 9, O2 20 (.ixS 2) 18 19, O1 21 (.loadN 2) 20, O1 22 .mv 3, ⟨(some 23), (.call 24), [(.t 16), (.t 17), (.t 21), (.t 22)], none⟩, O1 24 (.un .not) 23]) (.cond (.t 24) (.seq (.reg false [K1 8 .mv (.bool false)]) .ret) .skip))) (.reg false [O1 14 .mv 9, K2 15 (.bin .add) 14 (iV 1), O1 9 .mv 15])))
def x34 : XFn := ⟨27, (.seq (.reg false [O1 4 (.box 24) 0, O1 5 (.box 26) 1, K1 8 .mv (.bool false)]) (.seq (.seq (.reg false [K1 9 .mv (iV 0)]) (.block 0 (.loop x34L0))) (.seq (.reg false [O1 25 .mv 2, O1 26 (.call 33) 25, O1 8 .mv 26]) .ret))), [(.s 8)]⟩
theorem x34_ok : xfn Try.prog Try.f34 = some x34.er := by kernel_rfl
def x33L0 : XC := (.seq (.seq (.reg false [O1 7 .mv 3, O1 8 .mv 0, O1 9 .lenS 8, O2 10 (.bin .lss) 7 9]) (.cond (.t 10) .skip (.exit 0))) (.seq (.block 1 (.seq (.reg false [O1 13 .mv 0, O1 14 .mv 3, O2 15 (.ixS 2) 13 14, O1 16 (.loadN 2) 15, O1 17 (.call 28) 16, O1 18 (.un .not) 17]) (.cond (.t 18) (.seq (.reg false [K1 2 .mv (.bool false)]) .ret) .skip))) (.reg false [O1 11 .mv 3, K2 12 (.bin .add) 11 (iV 1), O1 3 .mv 12])))
def x33 : XFn := ⟨19, (.seq (.reg false [K1 2 .mv (.bool false)]) (.seq (.seq (.reg false [O1 4 .mv 0, O1 5 .lenS 4, K2 6 (.bin .gtr) 5 (iV 32)]) (.cond (.t 6) (.seq (.reg false [K1 2 .mv (.bool false)]) .ret) .skip)) (.seq (.seq (.reg false [K1 3 .mv (iV 0)]) (.block 0 (.loop x33L0))) (.seq (.reg false [K1 2 .mv (.bool true)]) .ret)))), [(.s 2)]⟩
theorem x33_ok : xfn Try.prog Try.f33 = some x33.er := by kernel_rfl
def x31L0 : XC := (.seq (.seq (.reg false [O1 11 .mv 5, O1 12 .mv 0, O1 13 .lenS 12, O2 14 (.bin .lss) 11 13]) (.cond (.t 14) .skip (.exit 0))) (.seq (.block 1 (.seq (.reg true [O1 17 .mv 0, O1 18 .mv 5, O2 19 (.ixS 2) 17 18, O1 20 (.loadN 2) 19, O1 21 .mv 1, O1 22 .mv 5, O2 23 (.ixS 2) 21 22, O1 24 (.loadN 2) 23, ⟨(some 25), (.eqA true [(.i .i64), (.i .i64)]), [(.t 20), (.t 24)], none⟩]) (.cond (.t 25) (.seq (.reg false [K1 4 .mv (.bool false)]) .ret) .skip))) (.reg false [O1 15 .mv 5, K2 16 (.bin .add) 15 (iV 1), O1 5 .mv 16])))
def x31 : XFn := ⟨26, (.seq (.reg false [K1 4 .mv (.bool false)]) (.seq (.seq (.reg false [O1 6 .mv 0, O1 7 .lenS 6, O1 8 .mv 1, O1 9 .lenS 8, O2 10 (.bin .neq) 7 9]) (.cond (.t 10) (.seq (.reg false [K1 4 .mv (.bool false)]) .ret) .skip)) (.seq (.seq (.reg false [K1 5 .mv (iV 0)]) (.block 0 (.loop x31L0))) (.seq (.reg false [K1 4 .mv (.bool true)]) .ret)))), [(.s 4)]⟩
theorem x31_ok : xfn Try.prog Try.f31 = some x31.er := by kernel_rfl
/-- wayfinder/ray.Sweep -/
def g29 : Con := fun args_ E_ nn_ => match args_ with
  | [.a [.v (.int .i64 p_W), .v (.int .i64 p_H), .n p_Cells], .a [.v (.int .i64 at_X), .v (.int .i64 at_Y), .v (.int .i64 at_H)], .c (.n marks), .c (.v (.int .i64 rng)), .c (.n errs)] => (match rowOf E_ p_Cells with
    | some (p_Cells_n, p_Cells_s, p_Cells_f) => (match rowOf E_ marks with
    | some (marks_n, marks_s, marks_f) => (match rowOf E_ errs with
    | some (errs_n, errs_s, errs_f) => some (.e (isRow eU8 p_Cells_n p_Cells_s p_Cells_f ∧ isRow eI marks_n marks_s marks_f ∧ isRow eI errs_n errs_s errs_f ∧ True) (.t [.c (.n (nn_ + 0)), .c (.v (.int .i64 (swpE p_W p_H (decL eU8 p_Cells_n p_Cells_f) at_X at_Y at_H rng (decL eI marks_n marks_f))))]) [((nn_ + 0), .own (swpL p_W p_H (decL eU8 p_Cells_n p_Cells_f) at_X at_Y at_H rng (decL eI marks_n marks_f) (decL eI errs_n errs_f)).length 2 (rowF eC (swpL p_W p_H (decL eU8 p_Cells_n p_Cells_f) at_X at_Y at_H rng (decL eI marks_n marks_f) (decL eI errs_n errs_f))) 28)] (nn_ + 1))
    | none => none)
    | none => none)
    | none => none)
  | _ => none
theorem c29 : COk Try.prog 29 g29 := by
  refine cok_e Try.func29 x29_ok (by kernel_rfl) (cok_tab (cok_cons c25 cok_nil)) ?_
  intro args_ E_ nn_ cr_ hg_
  unfold g29 at hg_
  split at hg_
  · rename_i p_W p_H p_Cells at_X at_Y at_H marks rng errs
    split at hg_
    · rename_i p_Cells_n p_Cells_s p_Cells_f h_p_Cells
      split at hg_
      · rename_i marks_n marks_s marks_f h_marks
        split at hg_
        · rename_i errs_n errs_s errs_f h_errs
          cases hg_
          refine ⟨_, _, _, _, rfl, 3, [p_Cells, marks, errs], [.a [.v (.int .i64 p_W), .v (.int .i64 p_H), .n 0], .a [.v (.int .i64 at_X), .v (.int .i64 at_Y), .v (.int .i64 at_H)], .c (.n 1), .c (.v (.int .i64 rng)), .c (.n 2)], [(0, .ro (decL eU8 p_Cells_n p_Cells_f).length eU8.sz (rowF eU8 (decL eU8 p_Cells_n p_Cells_f))), (1, .ro (decL eI marks_n marks_f).length eI.sz (rowF eI (decL eI marks_n marks_f))), (2, .ro (decL eI errs_n errs_f).length eI.sz (rowF eI (decL eI errs_n errs_f)))], .t [.c (.n 3), .c (.v (.int .i64 (swpE p_W p_H (decL eU8 p_Cells_n p_Cells_f) at_X at_Y at_H rng (decL eI marks_n marks_f))))], [(3, .own (swpL p_W p_H (decL eU8 p_Cells_n p_Cells_f) at_X at_Y at_H rng (decL eI marks_n marks_f) (decL eI errs_n errs_f)).length 2 (rowF eC (swpL p_W p_H (decL eU8 p_Cells_n p_Cells_f) at_X at_Y at_H rng (decL eI marks_n marks_f) (decL eI errs_n errs_f))) 28)], 4, rfl, rfl, by simp only [renE, Ent.ren, rowF_renf] <;> rfl, rfl, by decide, by simp only [push_cast, Nat.reduceLT, Nat.reduceAdd], by simp only [push_cast, Nat.reduceLT, Nat.reduceAdd], by simp only [push_cast, Nat.reduceLT, Nat.reduceAdd], by simp only [push_cast, Nat.reduceLT, Nat.reduceAdd], rfl, ⟨inE0_row h_p_Cells, inE0_row h_marks, inE0_row h_errs, trivial⟩, by simp only [keysNodup, outN, keys] <;> decide, rfl, rfl, ?_⟩
          intro hpre hlen
          obtain ⟨i_p_Cells, hpre⟩ := hpre
          obtain ⟨i_marks, hpre⟩ := hpre
          obtain ⟨i_errs, hpre⟩ := hpre
          refine ⟨⟨inE_row h_p_Cells i_p_Cells, inE_row h_marks i_marks, inE_row h_errs i_errs, trivial⟩, by simp only [apartE] <;> (first | trivial | (simp [Ent.mut]; done)), ?_⟩
          have z_p_Cells := lens_row (E := eU8) hlen h_p_Cells
          have z_marks := lens_row (E := eI) hlen h_marks
          have z_errs := lens_row (E := eI) hlen h_errs
          clear i_p_Cells
          generalize decL eU8 p_Cells_n p_Cells_f = p_CellsL at *
          clear i_marks
          generalize decL eI marks_n marks_f = marksL at *
          clear i_errs
          generalize decL eI errs_n errs_f = errsL at *
          clear h_p_Cells
          clear h_marks
          clear h_errs
          simp (config := {maxSteps := 10000000}) only [x29, push_cast, Nat.reduceAdd, Nat.reduceSub, Nat.reduceLeDiff, Nat.reduceEqDiff, Nat.reduceBEq, Nat.reduceMul, Nat.reduceLT, reduceIte, reduceCtorEq, Int.reduceLE, Int.reduceLT, Int.reduceEq, Int.reduceMul, Int.reduceAdd, Int.reduceSub, Int.reduceNeg, Int.reduceToNat, Int.reduceNe, g25]
          refine ⟨fun h => by have z := swp_full (W := p_W) (H := p_H) (L := p_CellsL) (x := at_X) (y := at_Y) (h := at_H) (rng := rng) (M := marksL) errsL (by omega); rw [z.1, z.2]; exact ⟨rfl, rfl⟩, fun h => ?_⟩
          refine vcLoop_upd (α := {k : Nat // k ≤ marksL.length ∧ swE1 p_W p_H p_CellsL at_X at_Y at_H rng marksL k = 0}) [3, 4, 5, 6, 21, 22] 1 (fun s => [(12, .o (.c (.n 5))), (23, .o (.c (.v (.int .i64 (s.1 : Nat)))))]) (fun s => [(5, .own (swV p_W p_H p_CellsL at_X at_Y at_H rng marksL errsL s.1).length 2 (rowF eC (swV p_W p_H p_CellsL at_X at_Y at_H rng marksL errsL s.1)) 28)]) (fun s => marksL.length - s.1) ⟨0, by omega, rfl⟩ ?_ ?_
          · simp only [push_cast, Nat.reduceAdd, Nat.reduceSub, Nat.reduceLeDiff, Nat.reduceEqDiff, Nat.reduceBEq, Nat.reduceMul, Nat.reduceLT, reduceIte, reduceCtorEq, Int.reduceLE, Int.reduceLT, Int.reduceEq, Int.reduceMul, Int.reduceAdd, Int.reduceSub, Int.reduceNeg, Int.reduceToNat, Int.reduceNe, g25, swV_len]
          · rintro ⟨k, hk, h0⟩
            simp only [x29L0, push_cast, Nat.reduceAdd, Nat.reduceSub, Nat.reduceLeDiff, Nat.reduceEqDiff, Nat.reduceBEq, Nat.reduceMul, Nat.reduceLT, reduceIte, reduceCtorEq, Int.reduceLE, Int.reduceLT, Int.reduceEq, Int.reduceMul, Int.reduceAdd, Int.reduceSub, Int.reduceNeg, Int.reduceToNat, Int.reduceNe, g25]
            have hz := swV_len p_W p_H p_CellsL at_X at_Y at_H rng marksL errsL k
            refine ⟨fun hlt => ⟨hlt, hlt, fun hr => ⟨hr, hr, fun he => by have z := swp_bad errsL (by omega) hlt h0 he; rw [z.1, z.2]; exact ⟨rfl, rfl⟩, fun he => ⟨by omega, ⟨k + 1, by omega, (if_pos h0).trans he⟩, ⟨wrapI (by omega) (by omega), push_eq (E := eC) (x := ⟨marksL.getD k eI.dflt, measV p_W p_H p_CellsL at_X at_Y at_H (marksL.getD k eI.dflt) rng (errsL.getD k eI.dflt)⟩) (by simp only; rw [swV_succ, if_pos hr])⟩, by simp only; omega⟩⟩, fun hr => ⟨fun he => by have z := swp_bad errsL (by omega) hlt h0 he; rw [z.1, z.2]; exact ⟨rfl, rfl⟩, fun he => ⟨by omega, ⟨k + 1, by omega, (if_pos h0).trans he⟩, ⟨wrapI (by omega) (by omega), push_eq (E := eC) (x := ⟨marksL.getD k eI.dflt, measV p_W p_H p_CellsL at_X at_Y at_H (marksL.getD k eI.dflt) rng (0)⟩) (by simp only; rw [swV_succ, if_neg hr])⟩, by simp only; omega⟩⟩⟩, fun hge => ?_⟩
            obtain rfl : k = marksL.length := by omega
            have z := swp_good errsL (by omega) h0
            rw [z.1]
            exact ⟨rfl, same_eq z.2⟩
        · cases hg_
      · cases hg_
    · cases hg_
  · cases hg_
/-- wayfinder/wayfinderref10.Sweep -/
def g30 : Con := fun args_ E_ nn_ => match args_ with
  | [.a [.v (.int .i64 p_W), .v (.int .i64 p_H), .n p_Cells], .a [.v (.int .i64 at_X), .v (.int .i64 at_Y), .v (.int .i64 at_H)], .c (.n marks), .c (.v (.int .i64 rng)), .c (.n errs)] => (match rowOf E_ p_Cells with
    | some (p_Cells_n, p_Cells_s, p_Cells_f) => (match rowOf E_ marks with
    | some (marks_n, marks_s, marks_f) => (match rowOf E_ errs with
    | some (errs_n, errs_s, errs_f) => some (.e (isRow eU8 p_Cells_n p_Cells_s p_Cells_f ∧ isRow eI marks_n marks_s marks_f ∧ isRow eI errs_n errs_s errs_f ∧ True) (.t [.c (.n (nn_ + 0)), .c (.v (.int .i64 (swpE p_W p_H (decL eU8 p_Cells_n p_Cells_f) at_X at_Y at_H rng (decL eI marks_n marks_f))))]) [((nn_ + 0), .own (swpL p_W p_H (decL eU8 p_Cells_n p_Cells_f) at_X at_Y at_H rng (decL eI marks_n marks_f) (decL eI errs_n errs_f)).length 2 (rowF eC (swpL p_W p_H (decL eU8 p_Cells_n p_Cells_f) at_X at_Y at_H rng (decL eI marks_n marks_f) (decL eI errs_n errs_f))) 28)] (nn_ + 1))
    | none => none)
    | none => none)
    | none => none)
  | _ => none
theorem c30 : COk Try.prog 30 g30 := by
  refine cok_e Try.func30 x30_ok (by kernel_rfl) (cok_tab (cok_cons c26 cok_nil)) ?_
  intro args_ E_ nn_ cr_ hg_
  unfold g30 at hg_
  split at hg_
  · rename_i p_W p_H p_Cells at_X at_Y at_H marks rng errs
    split at hg_
    · rename_i p_Cells_n p_Cells_s p_Cells_f h_p_Cells
      split at hg_
      · rename_i marks_n marks_s marks_f h_marks
        split at hg_
        · rename_i errs_n errs_s errs_f h_errs
          cases hg_
          refine ⟨_, _, _, _, rfl, 3, [p_Cells, marks, errs], [.a [.v (.int .i64 p_W), .v (.int .i64 p_H), .n 0], .a [.v (.int .i64 at_X), .v (.int .i64 at_Y), .v (.int .i64 at_H)], .c (.n 1), .c (.v (.int .i64 rng)), .c (.n 2)], [(0, .ro (decL eU8 p_Cells_n p_Cells_f).length eU8.sz (rowF eU8 (decL eU8 p_Cells_n p_Cells_f))), (1, .ro (decL eI marks_n marks_f).length eI.sz (rowF eI (decL eI marks_n marks_f))), (2, .ro (decL eI errs_n errs_f).length eI.sz (rowF eI (decL eI errs_n errs_f)))], .t [.c (.n 3), .c (.v (.int .i64 (swpE p_W p_H (decL eU8 p_Cells_n p_Cells_f) at_X at_Y at_H rng (decL eI marks_n marks_f))))], [(3, .own (swpL p_W p_H (decL eU8 p_Cells_n p_Cells_f) at_X at_Y at_H rng (decL eI marks_n marks_f) (decL eI errs_n errs_f)).length 2 (rowF eC (swpL p_W p_H (decL eU8 p_Cells_n p_Cells_f) at_X at_Y at_H rng (decL eI marks_n marks_f) (decL eI errs_n errs_f))) 28)], 4, rfl, rfl, by simp only [renE, Ent.ren, rowF_renf] <;> rfl, rfl, by decide, by simp only [push_cast, Nat.reduceLT, Nat.reduceAdd], by simp only [push_cast, Nat.reduceLT, Nat.reduceAdd], by simp only [push_cast, Nat.reduceLT, Nat.reduceAdd], by simp only [push_cast, Nat.reduceLT, Nat.reduceAdd], rfl, ⟨inE0_row h_p_Cells, inE0_row h_marks, inE0_row h_errs, trivial⟩, by simp only [keysNodup, outN, keys] <;> decide, rfl, rfl, ?_⟩
          intro hpre hlen
          obtain ⟨i_p_Cells, hpre⟩ := hpre
          obtain ⟨i_marks, hpre⟩ := hpre
          obtain ⟨i_errs, hpre⟩ := hpre
          refine ⟨⟨inE_row h_p_Cells i_p_Cells, inE_row h_marks i_marks, inE_row h_errs i_errs, trivial⟩, by simp only [apartE] <;> (first | trivial | (simp [Ent.mut]; done)), ?_⟩
          have z_p_Cells := lens_row (E := eU8) hlen h_p_Cells
          have z_marks := lens_row (E := eI) hlen h_marks
          have z_errs := lens_row (E := eI) hlen h_errs
          clear i_p_Cells
          generalize decL eU8 p_Cells_n p_Cells_f = p_CellsL at *
          clear i_marks
          generalize decL eI marks_n marks_f = marksL at *
          clear i_errs
          generalize decL eI errs_n errs_f = errsL at *
          clear h_p_Cells
          clear h_marks
          clear h_errs
          simp (config := {maxSteps := 10000000}) only [x30, push_cast, Nat.reduceAdd, Nat.reduceSub, Nat.reduceLeDiff, Nat.reduceEqDiff, Nat.reduceBEq, Nat.reduceMul, Nat.reduceLT, reduceIte, reduceCtorEq, Int.reduceLE, Int.reduceLT, Int.reduceEq, Int.reduceMul, Int.reduceAdd, Int.reduceSub, Int.reduceNeg, Int.reduceToNat, Int.reduceNe, g26]
          refine ⟨fun h => by have z := swp_full (W := p_W) (H := p_H) (L := p_CellsL) (x := at_X) (y := at_Y) (h := at_H) (rng := rng) (M := marksL) errsL (by omega); rw [z.1, z.2]; exact ⟨rfl, rfl⟩, fun h => ?_⟩
          refine vcLoop_upd (α := {k : Nat // k ≤ marksL.length ∧ swE1 p_W p_H p_CellsL at_X at_Y at_H rng marksL k = 0}) [2, 3, 4, 5, 6] 1 (fun s => [(12, .o (.c (.n 5))), (13, .o (.c (.v (.int .i64 (s.1 : Nat)))))]) (fun s => [(5, .own (swV p_W p_H p_CellsL at_X at_Y at_H rng marksL errsL s.1).length 2 (rowF eC (swV p_W p_H p_CellsL at_X at_Y at_H rng marksL errsL s.1)) 28)]) (fun s => marksL.length - s.1) ⟨0, by omega, rfl⟩ ?_ ?_
          · simp only [push_cast, Nat.reduceAdd, Nat.reduceSub, Nat.reduceLeDiff, Nat.reduceEqDiff, Nat.reduceBEq, Nat.reduceMul, Nat.reduceLT, reduceIte, reduceCtorEq, Int.reduceLE, Int.reduceLT, Int.reduceEq, Int.reduceMul, Int.reduceAdd, Int.reduceSub, Int.reduceNeg, Int.reduceToNat, Int.reduceNe, g26, swV_len]
          · rintro ⟨k, hk, h0⟩
            simp only [x30L0, push_cast, Nat.reduceAdd, Nat.reduceSub, Nat.reduceLeDiff, Nat.reduceEqDiff, Nat.reduceBEq, Nat.reduceMul, Nat.reduceLT, reduceIte, reduceCtorEq, Int.reduceLE, Int.reduceLT, Int.reduceEq, Int.reduceMul, Int.reduceAdd, Int.reduceSub, Int.reduceNeg, Int.reduceToNat, Int.reduceNe, g26]
            have hz := swV_len p_W p_H p_CellsL at_X at_Y at_H rng marksL errsL k
            refine ⟨fun hlt => ⟨fun hr => ⟨hr, hr, hlt, hlt, fun he => by have z := swp_bad errsL (by omega) hlt h0 he; rw [z.1, z.2]; exact ⟨rfl, rfl⟩, fun he => ⟨hlt, hlt, by omega, ⟨k + 1, by omega, (if_pos h0).trans he⟩, ⟨wrapI (by omega) (by omega), push_eq (E := eC) (x := ⟨marksL.getD k eI.dflt, measV p_W p_H p_CellsL at_X at_Y at_H (marksL.getD k eI.dflt) rng (errsL.getD k eI.dflt)⟩) (by simp only; rw [swV_succ, if_pos hr])⟩, by simp only; omega⟩⟩, fun hr => ⟨hlt, hlt, fun he => by have z := swp_bad errsL (by omega) hlt h0 he; rw [z.1, z.2]; exact ⟨rfl, rfl⟩, fun he => ⟨hlt, hlt, by omega, ⟨k + 1, by omega, (if_pos h0).trans he⟩, ⟨wrapI (by omega) (by omega), push_eq (E := eC) (x := ⟨marksL.getD k eI.dflt, measV p_W p_H p_CellsL at_X at_Y at_H (marksL.getD k eI.dflt) rng (0)⟩) (by simp only; rw [swV_succ, if_neg hr])⟩, by simp only; omega⟩⟩⟩, fun hge => ?_⟩
            obtain rfl : k = marksL.length := by omega
            have z := swp_good errsL (by omega) h0
            rw [z.1]
            exact ⟨rfl, same_eq z.2⟩
        · cases hg_
      · cases hg_
    · cases hg_
  · cases hg_
/-- wayfinder/wayfinderbase.Scan -/
def g33 : Con := fun args_ E_ nn_ => match args_ with
  | [.c (.n l)] => (match rowOf E_ l with
    | some (l_n, l_s, l_f) => some (.q (isRow eC l_n l_s l_f ∧ True) (.o (.c (.v (.bool (scanB (decL eC l_n l_f)))))))
    | none => none)
  | _ => none
theorem c33 : COk Try.prog 33 g33 := by
  refine cok_q Try.func33 x33_ok (by kernel_rfl) (cok_tab (cok_cons c28 cok_nil)) ?_
  intro args_ E_ nn_ cr_ hg_
  unfold g33 at hg_
  split at hg_
  · rename_i l
    split at hg_
    · rename_i l_n l_s l_f h_l
      cases hg_
      refine ⟨_, _, rfl, 1, [l], [.c (.n 0)], [(0, .ro (decL eC l_n l_f).length eC.sz (rowF eC (decL eC l_n l_f)))], .o (.c (.v (.bool (scanB (decL eC l_n l_f))))), rfl, rfl, by simp only [push_cast, Nat.reduceLT, Nat.reduceAdd], by simp only [push_cast, Nat.reduceLT, Nat.reduceAdd], by simp only [push_cast, Nat.reduceLT, Nat.reduceAdd], rfl, ⟨inE0_row h_l, trivial⟩, rfl, ?_⟩
      intro hpre hlen
      obtain ⟨i_l, hpre⟩ := hpre
      refine ⟨⟨inE_row h_l i_l, trivial⟩, ?_⟩
      have z_l := lens_row (E := eC) hlen h_l
      clear i_l
      generalize decL eC l_n l_f = lL at *
      clear h_l
      simp (config := {maxSteps := 10000000}) only [x33, push_cast, Nat.reduceAdd, Nat.reduceSub, Nat.reduceLeDiff, Nat.reduceEqDiff, Nat.reduceBEq, Nat.reduceMul, Nat.reduceLT, reduceIte, reduceCtorEq, Int.reduceLE, Int.reduceLT, Int.reduceEq, Int.reduceMul, Int.reduceAdd, Int.reduceSub, Int.reduceNeg, Int.reduceToNat, Int.reduceNe, g28]
      refine ⟨fun h => ?_, fun h => ?_⟩
      · unfold scanB; rw [decide_eq_false (by omega)]; rfl
      refine vcLoop_upd (α := {k : Nat // k ≤ lL.length ∧ ∀ i, i < k → beamB (lL.getD i eC.dflt).X (lL.getD i eC.dflt).Y = true}) [0] 0 (fun s => [(3, .o (.c (.v (.int .i64 (s.1 : Nat)))))]) (fun s => []) (fun s => lL.length - s.1) ⟨0, by omega, fun i hi => by omega⟩ ?_ ?_
      · simp only [push_cast, Nat.reduceAdd, Nat.reduceSub, Nat.reduceLeDiff, Nat.reduceEqDiff, Nat.reduceBEq, Nat.reduceMul, Nat.reduceLT, reduceIte, reduceCtorEq, Int.reduceLE, Int.reduceLT, Int.reduceEq, Int.reduceMul, Int.reduceAdd, Int.reduceSub, Int.reduceNeg, Int.reduceToNat, Int.reduceNe, g28]
      · rintro ⟨k, hk, hall⟩
        simp only [x33L0, push_cast, Nat.reduceAdd, Nat.reduceSub, Nat.reduceLeDiff, Nat.reduceEqDiff, Nat.reduceBEq, Nat.reduceMul, Nat.reduceLT, reduceIte, reduceCtorEq, Int.reduceLE, Int.reduceLT, Int.reduceEq, Int.reduceMul, Int.reduceAdd, Int.reduceSub, Int.reduceNeg, Int.reduceToNat, Int.reduceNe, g28]
        refine ⟨fun hlt => ⟨hlt, hlt, fun g => ?_, fun a1 a2 a3 a4 => ⟨⟨k + 1, by omega, fun i hi => by by_cases e : i = k; subst e; exact decide_eq_true ⟨⟨a1, a2⟩, a3, a4⟩; exact hall i (by omega)⟩, wrapI (by omega) (by omega), by simp only; omega⟩⟩, fun hge => ?_⟩
        · unfold scanB; rw [all_no (f := fun c => beamB c.X c.Y) hlt (decide_eq_false g), Bool.and_false]
        · unfold scanB; rw [all_yes (f := fun c => beamB c.X c.Y) (fun i hi => hall i (by omega)), decide_eq_true (by omega)]; rfl
    · cases hg_
  · cases hg_
/-- wayfinder/ray.All -/
def g32 : Con := fun args_ E_ nn_ => match args_ with
  | [.a [.v (.int .i64 p_W), .v (.int .i64 p_H), .n p_Cells], .a [.v (.int .i64 at_X), .v (.int .i64 at_Y), .v (.int .i64 at_H)], .c (.n s), .c (.v (.int .i64 rng))] => (match rowOf E_ p_Cells with
    | some (p_Cells_n, p_Cells_s, p_Cells_f) => (match rowOf E_ s with
    | some (s_n, s_s, s_f) => some (.q (isRow eU8 p_Cells_n p_Cells_s p_Cells_f ∧ isRow eC s_n s_s s_f ∧ True) (.o (.c (.v (.bool (allB p_W p_H (decL eU8 p_Cells_n p_Cells_f) at_X at_Y at_H rng (decL eC s_n s_f)))))))
    | none => none)
    | none => none)
  | _ => none
theorem c32 : COk Try.prog 32 g32 := by
  refine cok_q Try.func32 x32_ok (by kernel_rfl) (cok_tab (cok_cons c23 cok_nil)) ?_
  intro args_ E_ nn_ cr_ hg_
  unfold g32 at hg_
  split at hg_
  · rename_i p_W p_H p_Cells at_X at_Y at_H s rng
    split at hg_
    · rename_i p_Cells_n p_Cells_s p_Cells_f h_p_Cells
      split at hg_
      · rename_i s_n s_s s_f h_s
        cases hg_
        refine ⟨_, _, rfl, 2, [p_Cells, s], [.a [.v (.int .i64 p_W), .v (.int .i64 p_H), .n 0], .a [.v (.int .i64 at_X), .v (.int .i64 at_Y), .v (.int .i64 at_H)], .c (.n 1), .c (.v (.int .i64 rng))], [(0, .ro (decL eU8 p_Cells_n p_Cells_f).length eU8.sz (rowF eU8 (decL eU8 p_Cells_n p_Cells_f))), (1, .ro (decL eC s_n s_f).length eC.sz (rowF eC (decL eC s_n s_f)))], .o (.c (.v (.bool (allB p_W p_H (decL eU8 p_Cells_n p_Cells_f) at_X at_Y at_H rng (decL eC s_n s_f))))), rfl, rfl, by simp only [push_cast, Nat.reduceLT, Nat.reduceAdd], by simp only [push_cast, Nat.reduceLT, Nat.reduceAdd], by simp only [push_cast, Nat.reduceLT, Nat.reduceAdd], rfl, ⟨inE0_row h_p_Cells, inE0_row h_s, trivial⟩, rfl, ?_⟩
        intro hpre hlen
        obtain ⟨i_p_Cells, hpre⟩ := hpre
        obtain ⟨i_s, hpre⟩ := hpre
        refine ⟨⟨inE_row h_p_Cells i_p_Cells, inE_row h_s i_s, trivial⟩, ?_⟩
        have z_p_Cells := lens_row (E := eU8) hlen h_p_Cells
        have z_s := lens_row (E := eC) hlen h_s
        clear i_p_Cells
        generalize decL eU8 p_Cells_n p_Cells_f = p_CellsL at *
        clear i_s
        generalize decL eC s_n s_f = sL at *
        clear h_p_Cells
        clear h_s
        simp (config := {maxSteps := 10000000}) only [x32, push_cast, Nat.reduceAdd, Nat.reduceSub, Nat.reduceLeDiff, Nat.reduceEqDiff, Nat.reduceBEq, Nat.reduceMul, Nat.reduceLT, reduceIte, reduceCtorEq, Int.reduceLE, Int.reduceLT, Int.reduceEq, Int.reduceMul, Int.reduceAdd, Int.reduceSub, Int.reduceNeg, Int.reduceToNat, Int.reduceNe, g23]
        refine vcLoop_upd (α := {k : Nat // k ≤ sL.length ∧ ∀ i, i < k → plausB p_W p_H p_CellsL at_X at_Y at_H (sL.getD i eC.dflt).X (sL.getD i eC.dflt).Y rng = true}) [2, 3, 4, 5, 11, 12] 0 (fun s => [(13, .o (.c (.v (.int .i64 (s.1 : Nat)))))]) (fun s => []) (fun s => sL.length - s.1) ⟨0, by omega, fun i hi => by omega⟩ ?_ ?_
        · simp only [push_cast, Nat.reduceAdd, Nat.reduceSub, Nat.reduceLeDiff, Nat.reduceEqDiff, Nat.reduceBEq, Nat.reduceMul, Nat.reduceLT, reduceIte, reduceCtorEq, Int.reduceLE, Int.reduceLT, Int.reduceEq, Int.reduceMul, Int.reduceAdd, Int.reduceSub, Int.reduceNeg, Int.reduceToNat, Int.reduceNe, g23]
        · rintro ⟨k, hk, hall⟩
          simp only [x32L0, push_cast, Nat.reduceAdd, Nat.reduceSub, Nat.reduceLeDiff, Nat.reduceEqDiff, Nat.reduceBEq, Nat.reduceMul, Nat.reduceLT, reduceIte, reduceCtorEq, Int.reduceLE, Int.reduceLT, Int.reduceEq, Int.reduceMul, Int.reduceAdd, Int.reduceSub, Int.reduceNeg, Int.reduceToNat, Int.reduceNe, g23]
          refine ⟨fun hlt => ⟨hlt, hlt, fun g => ?_, fun g => ⟨⟨k + 1, by omega, fun i hi => by by_cases e : i = k; subst e; exact g; exact hall i (by omega)⟩, wrapI (by omega) (by omega), by simp only; omega⟩⟩, fun hge => ?_⟩
          · unfold allB; rw [all_no (f := fun c => plausB p_W p_H p_CellsL at_X at_Y at_H c.X c.Y rng) hlt g]; rfl
          · have e1 := all_yes (S := sL) (f := fun c => plausB p_W p_H p_CellsL at_X at_Y at_H c.X c.Y rng) (fun i hi => hall i (by omega))
            have e2 := all_yes (S := sL) (f := fun c => beamB c.X c.Y) (fun i hi => plaus_beam (hall i (by omega)))
            unfold allB
            rw [e1, Bool.true_and]
            rw [decide_eq_decide]; omega
      · cases hg_
    · cases hg_
  · cases hg_
/-- wayfinder/wayfinderref10.All -/
def g34 : Con := fun args_ E_ nn_ => match args_ with
  | [.a [.v (.int .i64 p_W), .v (.int .i64 p_H), .n p_Cells], .a [.v (.int .i64 at_X), .v (.int .i64 at_Y), .v (.int .i64 at_H)], .c (.n s), .c (.v (.int .i64 rng))] => (match rowOf E_ p_Cells with
    | some (p_Cells_n, p_Cells_s, p_Cells_f) => (match rowOf E_ s with
    | some (s_n, s_s, s_f) => some (.q (isRow eU8 p_Cells_n p_Cells_s p_Cells_f ∧ isRow eC s_n s_s s_f ∧ True) (.o (.c (.v (.bool (allB p_W p_H (decL eU8 p_Cells_n p_Cells_f) at_X at_Y at_H rng (decL eC s_n s_f)))))))
    | none => none)
    | none => none)
  | _ => none
theorem c34 : COk Try.prog 34 g34 := by
  refine cok_q Try.func34 x34_ok (by kernel_rfl) (cok_tab (cok_cons c24 (cok_cons c33 cok_nil))) ?_
  intro args_ E_ nn_ cr_ hg_
  unfold g34 at hg_
  split at hg_
  · rename_i p_W p_H p_Cells at_X at_Y at_H s rng
    split at hg_
    · rename_i p_Cells_n p_Cells_s p_Cells_f h_p_Cells
      split at hg_
      · rename_i s_n s_s s_f h_s
        cases hg_
        refine ⟨_, _, rfl, 2, [p_Cells, s], [.a [.v (.int .i64 p_W), .v (.int .i64 p_H), .n 0], .a [.v (.int .i64 at_X), .v (.int .i64 at_Y), .v (.int .i64 at_H)], .c (.n 1), .c (.v (.int .i64 rng))], [(0, .ro (decL eU8 p_Cells_n p_Cells_f).length eU8.sz (rowF eU8 (decL eU8 p_Cells_n p_Cells_f))), (1, .ro (decL eC s_n s_f).length eC.sz (rowF eC (decL eC s_n s_f)))], .o (.c (.v (.bool (allB p_W p_H (decL eU8 p_Cells_n p_Cells_f) at_X at_Y at_H rng (decL eC s_n s_f))))), rfl, rfl, by simp only [push_cast, Nat.reduceLT, Nat.reduceAdd], by simp only [push_cast, Nat.reduceLT, Nat.reduceAdd], by simp only [push_cast, Nat.reduceLT, Nat.reduceAdd], rfl, ⟨inE0_row h_p_Cells, inE0_row h_s, trivial⟩, rfl, ?_⟩
        intro hpre hlen
        obtain ⟨i_p_Cells, hpre⟩ := hpre
        obtain ⟨i_s, hpre⟩ := hpre
        refine ⟨⟨inE_row h_p_Cells i_p_Cells, inE_row h_s i_s, trivial⟩, ?_⟩
        have z_p_Cells := lens_row (E := eU8) hlen h_p_Cells
        have z_s := lens_row (E := eC) hlen h_s
        clear i_p_Cells
        generalize decL eU8 p_Cells_n p_Cells_f = p_CellsL at *
        clear i_s
        generalize decL eC s_n s_f = sL at *
        clear h_p_Cells
        clear h_s
        simp (config := {maxSteps := 10000000}) only [x34, push_cast, Nat.reduceAdd, Nat.reduceSub, Nat.reduceLeDiff, Nat.reduceEqDiff, Nat.reduceBEq, Nat.reduceMul, Nat.reduceLT, reduceIte, reduceCtorEq, Int.reduceLE, Int.reduceLT, Int.reduceEq, Int.reduceMul, Int.reduceAdd, Int.reduceSub, Int.reduceNeg, Int.reduceToNat, Int.reduceNe, g24, g33]
        refine vcLoop_upd (α := {k : Nat // k ≤ sL.length ∧ ∀ i, i < k → plausB p_W p_H p_CellsL at_X at_Y at_H (sL.getD i eC.dflt).X (sL.getD i eC.dflt).Y rng = true}) [2, 3, 4, 5] 0 (fun s => [(9, .o (.c (.v (.int .i64 (s.1 : Nat)))))]) (fun s => []) (fun s => sL.length - s.1) ⟨0, by omega, fun i hi => by omega⟩ ?_ ?_
        · simp only [push_cast, Nat.reduceAdd, Nat.reduceSub, Nat.reduceLeDiff, Nat.reduceEqDiff, Nat.reduceBEq, Nat.reduceMul, Nat.reduceLT, reduceIte, reduceCtorEq, Int.reduceLE, Int.reduceLT, Int.reduceEq, Int.reduceMul, Int.reduceAdd, Int.reduceSub, Int.reduceNeg, Int.reduceToNat, Int.reduceNe, g24, g33]
        · rintro ⟨k, hk, hall⟩
          simp only [x34L0, push_cast, Nat.reduceAdd, Nat.reduceSub, Nat.reduceLeDiff, Nat.reduceEqDiff, Nat.reduceBEq, Nat.reduceMul, Nat.reduceLT, reduceIte, reduceCtorEq, Int.reduceLE, Int.reduceLT, Int.reduceEq, Int.reduceMul, Int.reduceAdd, Int.reduceSub, Int.reduceNeg, Int.reduceToNat, Int.reduceNe, g24, g33]
          refine ⟨fun hlt => ⟨hlt, hlt, fun g => ?_, fun g => ⟨⟨k + 1, by omega, fun i hi => by by_cases e : i = k; subst e; exact g; exact hall i (by omega)⟩, wrapI (by omega) (by omega), by simp only; omega⟩⟩, fun hge => ?_⟩
          · unfold allB; rw [all_no (f := fun c => plausB p_W p_H p_CellsL at_X at_Y at_H c.X c.Y rng) hlt g]; rfl
          · have e1 := all_yes (S := sL) (f := fun c => plausB p_W p_H p_CellsL at_X at_Y at_H c.X c.Y rng) (fun i hi => hall i (by omega))
            have e2 := all_yes (S := sL) (f := fun c => beamB c.X c.Y) (fun i hi => plaus_beam (hall i (by omega)))
            unfold allB
            rw [e1, Bool.true_and]
            unfold scanB; rw [e2, Bool.and_true]
      · cases hg_
    · cases hg_
  · cases hg_
end Go.Proofs.Ytpnpbbagonknjaa
set_option linter.unusedVariables false
set_option linter.unusedSimpArgs false
set_option maxRecDepth 20000
namespace Go.Proofs.Ytpnpbbagonknjaa
open Go.Sx Go.Way
def x14 : XFn := ⟨7, (.seq (.reg false [O1 1 (.box 24) 0, K1 2 .mv (.bool false)]) (.seq (.reg false [O1 3 (.fld 2) 1, O1 4 .load1 3, O1 5 .lenS 4, K2 6 (.bin .leq) 5 (iV 5000), O1 2 .mv 6]) .ret)), [(.s 2)]⟩
theorem x14_ok : xfn Try.prog Try.f14 = some x14.er := by kernel_rfl
def x17 : XFn := ⟨8, (.seq (.reg false [O1 1 (.box 26) 0, ⟨(some 2), (.alloc 40 [(iV 0), (iV 0)]), [], none⟩]) (.seq (.reg false [O1 3 (.fld 0) 1, O1 4 .load1 3, O1 5 (.fld 1) 1, O1 6 .load1 5, ⟨(some 7), (.build [(iV 0), (iV 0)] [(0, 1), (1, 1)]), [(.t 4), (.t 6)], none⟩, ⟨none, (.store 2), [(.t 2), (.t 7)], none⟩]) .ret)), [(.bn 2 2)]⟩
theorem x17_ok : xfn Try.prog Try.f17 = some x17.er := by kernel_rfl
def x13 : XFn := ⟨106, (.seq (.reg false [K1 0 .mv (.bool false)]) (.seq (.reg false [⟨(some 10), (.slit 5 3 1 [(.int .u8 0), (.int .u8 0), (.int .u8 0)] [(0, 1), (1, 1), (2, 1)]), [(.k (.int .u8 1)), (.k (.int .u8 0)), (.k (.int .u8 2))], none⟩, ⟨(some 11), (.build [(iV 0), (iV 0), (.slice none 0 0)] [(0, 1), (1, 1), (2, 1)]), [(.k (iV 3)), (.k (iV 1)), (.t 10)], none⟩, ⟨(some 1), (.alloc 24 [(iV 0), (iV 0), (.slice none 0 0)]), [], none⟩, ⟨none, (.store 3), [(.t 1), (.t 11)], none⟩]) (.seq (.reg false [⟨(some 12), (.build [(iV 0), (iV 0), (iV 0)] [(0, 1), (1, 1)]), [(.k (iV 32)), (.k (iV 32))], none⟩, ⟨(some 2), (.alloc 26 [(iV 0), (iV 0), (iV 0)]), [], none⟩, ⟨none, (.store 3), [(.t 2), (.t 12)], none⟩]) (.seq (.reg false [O1 14 (.loadN 3) 1, ⟨(some 15), (.build [(iV 0), (iV 0)] [(0, 1), (1, 1)]), [(.k (iV 32)), (.k (iV 32))], none⟩, ⟨(some 16), (.build [(iV 0), (iV 0), (iV 0)] [(0, 1), (2, 1)]), [(.k (iV 1)), (.k (iV 1))], none⟩, ⟨(some 17), (.call 16), [(.t 14), (.t 15), (.t 16), (.k (iV 200))], none⟩, O1 13 .mv 17, O1 18 (.ext 0) 13, O1 19 (.ext 1) 13, O1 20 (.ext 2) 13, ⟨(some 3), (.alloc 35 [(iV 0), (iV 0)]), [], none⟩, ⟨(some 4), (.alloc 37 [(iV 0), (iV 0)]), [], none⟩, ⟨none, (.store 2), [(.t 3), (.t 18)], none⟩, ⟨none, (.store 2), [(.t 4), (.t 19)], none⟩, O1 5 .mv 20]) (.seq (.reg false [O1 22 (.loadN 3) 1, O1 23 (.loadN 3) 2, ⟨(some 24), (.call 25), [(.t 22), (.t 23), (.k (iV 0)), (.k (iV 4)), (.k (iV 9))], none⟩, O1 21 .mv 24, O1 25 (.ext 0) 21, O1 26 (.ext 1) 21, O1 6 .mv 25, O1 7 .mv 26]) (.seq (.reg false [O1 28 (.loadN 3) 1, O1 29 (.loadN 3) 2, ⟨(some 30), (.slit 3 2 1 [(iV 0), (iV 0)] [(0, 1), (1, 1)]), [(.k (iV 0)), (.k (iV 64))], none⟩, ⟨(some 31), (.call 29), [(.t 28), (.t 29), (.t 30), (.k (iV 4)), (.k (.slice none 0 0))], none⟩, O1 27 .mv 31, O1 32 (.ext 0) 27, O1 33 (.ext 1) 27, O1 8 .mv 32, O1 9 .mv 33]) (.seq (.seq (.reg false [O1 34 .mv 8, O1 35 .lenS 34, K2 36 (.bin .neq) 35 (iV 2)]) (.cond (.t 36) (.seq (.reg false [K1 0 .mv (.bool false)]) .ret) .skip)) (.seq (.reg false [O1 37 (.loadN 2) 3, ⟨(some 38), (.build [(iV 0), (iV 0)] [(0, 1), (1, 1)]), [(.k (iV 96)), (.k (iV 1))], none⟩, ⟨(some 39), (.eqA false [(.i .i64), (.i .i64)]), [(.t 37), (.t 38)], none⟩, O1 40 .mv 39, G1 41 (.loadN 2) 4 40 true, ⟨(some 42), (.build [(iV 0), (iV 0)] [(0, 1)]), [(.k (iV 2))], (some (40, true))⟩, ⟨(some 43), (.eqA false [(.i .i64), (.i .i64)]), [(.t 41), (.t 42)], (some (40, true))⟩, ⟨(some 44), .pick, [(.t 40), (.t 43), (.k (.bool false))], none⟩, O1 45 .mv 44, G1 46 .mv 5 45 true, ⟨(some 47), .pick, [(.t 45), (.t 46), (.k (.bool false))], none⟩, O1 48 .mv 47, G1 49 (.loadN 3) 1 48 true, ⟨(some 50), (.build [(iV 0), (iV 0)] [(0, 1), (1, 1)]), [(.k (iV 32)), (.k (iV 32))], (some (48, true))⟩, ⟨(some 51), (.build [(iV 0), (iV 0), (iV 0)] [(0, 1), (2, 1)]), [(.k (iV 1)), (.k (iV 1))], (some (48, true))⟩, ⟨(some 52), (.call 19), [(.t 49), (.t 50), (.t 51), (.k (iV 96))], (some (48, true))⟩, ⟨(some 53), .pick, [(.t 48), (.t 52), (.k (.bool false))], none⟩, O1 54 .mv 53, G1 55 (.loadN 3) 1 54 true, ⟨(some 56), (.build [(iV 0), (iV 0)] [(0, 1), (1, 1)]), [(.k (iV 32)), (.k (iV 32))], (some (54, true))⟩, ⟨(some 57), (.build [(iV 0), (iV 0), (iV 0)] [(0, 1), (2, 1)]), [(.k (iV 1)), (.k (iV 1))], (some (54, true))⟩, ⟨(some 58), (.call 19), [(.t 55), (.t 56), (.t 57), (.k (iV 97))], (some (54, true))⟩, G1 59 (.un .not) 58 54 true, ⟨(some 60), .pick, [(.t 54), (.t 59), (.k (.bool false))], none⟩, O1 61 .mv 60, G1 62 (.loadN 3) 1 61 true, G1 63 (.loadN 3) 2 61 true, ⟨(some 64), (.build [(iV 0), (iV 0)] [(1, 1)]), [(.k (iV 100))], (some (61, true))⟩, ⟨(some 65), (.call 23), [(.t 62), (.t 63), (.t 64), (.k (iV 4))], (some (61, true))⟩, ⟨(some 66), .pick, [(.t 61), (.t 65), (.k (.bool false))], none⟩, O1 67 .mv 66, G1 68 (.loadN 3) 1 67 true, G1 69 (.loadN 3) 2 67 true, ⟨(some 70), (.build [(iV 0), (iV 0)] [(1, 1)]), [(.k (iV 101))], (some (67, true))⟩, ⟨(some 71), (.call 23), [(.t 68), (.t 69), (.t 70), (.k (iV 4))], (some (67, true))⟩, G1 72 (.un .not) 71 67 true, ⟨(some 73), .pick, [(.t 67), (.t 72), (.k (.bool false))], none⟩, O1 74 .mv 73, G1 75 .mv 6 74 true, GK 76 (.bin .eql) 75 (iV 100) 74 true, ⟨(some 77), .pick, [(.t 74), (.t 76), (.k (.bool false))], none⟩, O1 78 .mv 77, G1 79 .mv 7 78 true, GK 80 (.bin .eql) 79 (iV 0) 78 true, ⟨(some 81), .pick, [(.t 78), (.t 80), (.k (.bool false))], none⟩, O1 82 .mv 81, G1 83 .mv 8 82 true, GK 84 (.ixS 2) 83 (iV 0) 82 true, G1 85 (.fld 1) 84 82 true, G1 86 .load1 85 82 true, GK 87 (.bin .eql) 86 (iV 96) 82 true, ⟨(some 88), .pick, [(.t 82), (.t 87), (.k (.bool false))], none⟩, O1 89 .mv 88, G1 90 .mv 8 89 true, GK 91 (.ixS 2) 90 (iV 1) 89 true, G1 92 (.fld 1) 91 89 true, G1 93 .load1 92 89 true, GK 94 (.bin .eql) 93 (iV 32) 89 true, ⟨(some 95), .pick, [(.t 89), (.t 94), (.k (.bool false))], none⟩, O1 96 .mv 95, G1 97 .mv 9 96 true, GK 98 (.bin .eql) 97 (iV 0) 96 true, ⟨(some 99), .pick, [(.t 96), (.t 98), (.k (.bool false))], none⟩, O1 100 .mv 99, G1 101 (.loadN 3) 1 100 true, G1 102 (.loadN 3) 2 100 true, G1 103 .mv 8 100 true, ⟨(some 104), (.call 32), [(.t 101), (.t 102), (.t 103), (.k (iV 1))], (some (100, true))⟩, ⟨(some 105), .pick, [(.t 100), (.t 104), (.k (.bool false))], none⟩, O1 0 .mv 105]) .ret)))))))), [(.s 0)]⟩
theorem x13_ok : xfn Try.prog Try.f13 = some x13.er := by kernel_rfl
/-- wayfinder/wayfinderbase.Beams -/
def g31 : Con := fun args_ E_ nn_ => match args_ with
  | [.c (.n a), .c (.n b)] => (match rowOf E_ a with
    | some (a_n, a_s, a_f) => (match rowOf E_ b with
    | some (b_n, b_s, b_f) => some (.q (isRow eC a_n a_s a_f ∧ isRow eC b_n b_s b_f ∧ True) (.o (.c (.v (.bool (decide ((decL eC a_n a_f) = (decL eC b_n b_f))))))))
    | none => none)
    | none => none)
  | _ => none
theorem c31 : COk Try.prog 31 g31 := by
  refine cok_q Try.func31 x31_ok (by kernel_rfl) (cok_tab cok_nil) ?_
  intro args_ E_ nn_ cr_ hg_
  unfold g31 at hg_
  split at hg_
  · rename_i a b
    split at hg_
    · rename_i a_n a_s a_f h_a
      split at hg_
      · rename_i b_n b_s b_f h_b
        cases hg_
        refine ⟨_, _, rfl, 2, [a, b], [.c (.n 0), .c (.n 1)], [(0, .ro (decL eC a_n a_f).length eC.sz (rowF eC (decL eC a_n a_f))), (1, .ro (decL eC b_n b_f).length eC.sz (rowF eC (decL eC b_n b_f)))], .o (.c (.v (.bool (decide ((decL eC a_n a_f) = (decL eC b_n b_f)))))), rfl, rfl, by simp only [push_cast, Nat.reduceLT, Nat.reduceAdd], by simp only [push_cast, Nat.reduceLT, Nat.reduceAdd], by simp only [push_cast, Nat.reduceLT, Nat.reduceAdd], rfl, ⟨inE0_row h_a, inE0_row h_b, trivial⟩, rfl, ?_⟩
        intro hpre hlen
        obtain ⟨i_a, hpre⟩ := hpre
        obtain ⟨i_b, hpre⟩ := hpre
        refine ⟨⟨inE_row h_a i_a, inE_row h_b i_b, trivial⟩, ?_⟩
        have z_a := lens_row (E := eC) hlen h_a
        have z_b := lens_row (E := eC) hlen h_b
        clear i_a
        generalize decL eC a_n a_f = aL at *
        clear i_b
        generalize decL eC b_n b_f = bL at *
        clear h_a
        clear h_b
        simp (config := {maxSteps := 10000000}) only [x31, push_cast, Nat.reduceAdd, Nat.reduceSub, Nat.reduceLeDiff, Nat.reduceEqDiff, Nat.reduceBEq, Nat.reduceMul, Nat.reduceLT, reduceIte, reduceCtorEq, Int.reduceLE, Int.reduceLT, Int.reduceEq, Int.reduceMul, Int.reduceAdd, Int.reduceSub, Int.reduceNeg, Int.reduceToNat, Int.reduceNe]
        refine ⟨fun h => ?_, fun h => ?_⟩
        · symm; rw [decide_eq_false_iff_not]; intro e; exact h (by rw [e])
        refine vcLoop_upd (α := {k : Nat // k ≤ aL.length ∧ ∀ i, i < k → aL.getD i eC.dflt = bL.getD i eC.dflt}) [0, 1] 0 (fun s => [(5, .o (.c (.v (.int .i64 (s.1 : Nat)))))]) (fun s => []) (fun s => aL.length - s.1) ⟨0, by omega, fun i hi => by omega⟩ ?_ ?_
        · simp only [push_cast, Nat.reduceAdd, Nat.reduceSub, Nat.reduceLeDiff, Nat.reduceEqDiff, Nat.reduceBEq, Nat.reduceMul, Nat.reduceLT, reduceIte, reduceCtorEq, Int.reduceLE, Int.reduceLT, Int.reduceEq, Int.reduceMul, Int.reduceAdd, Int.reduceSub, Int.reduceNeg, Int.reduceToNat, Int.reduceNe]
        · rintro ⟨k, hk, hall⟩
          simp only [x31L0, push_cast, Nat.reduceAdd, Nat.reduceSub, Nat.reduceLeDiff, Nat.reduceEqDiff, Nat.reduceBEq, Nat.reduceMul, Nat.reduceLT, reduceIte, reduceCtorEq, Int.reduceLE, Int.reduceLT, Int.reduceEq, Int.reduceMul, Int.reduceAdd, Int.reduceSub, Int.reduceNeg, Int.reduceToNat, Int.reduceNe]
          refine ⟨fun hlt => ⟨hlt, hlt, by omega, by omega, fun hne => ?_, fun hx hy => ⟨⟨k + 1, by omega, fun i hi => ?_⟩, ?_, by simp only; omega⟩⟩, fun hge => ?_⟩
          · symm; rw [decide_eq_false_iff_not]; intro e; rw [e] at hne; simp at hne
          · by_cases hik : i = k
            · subst hik; rw [← decide_eq_true_eq (p := aL.getD i eC.dflt = bL.getD i eC.dflt), ← cc_eq, hx, hy]; simp
            · exact hall i (by omega)
          · rw [wrapI (by omega) (by omega)]; rfl
          · symm; rw [decide_eq_true_eq]; exact getD_ext eC.dflt (by omega) (fun i hi => hall i (by omega))
      · cases hg_
    · cases hg_
  · cases hg_
/-- wayfinder/wayfinderlaw10.few -/
def g14 : Con := fun args_ E_ nn_ => match args_ with
  | [.a [.v (.int .i64 p_W), .v (.int .i64 p_H), .n p_Cells]] => (match rowOf E_ p_Cells with
    | some (p_Cells_n, p_Cells_s, p_Cells_f) => some (.q (isRow eU8 p_Cells_n p_Cells_s p_Cells_f ∧ True) (.o (.c (.v (.bool (decide (((decL eU8 p_Cells_n p_Cells_f)).length ≤ 5000)))))))
    | none => none)
  | _ => none
theorem c14 : COk Try.prog 14 g14 := by
  refine cok_q Try.func14 x14_ok (by kernel_rfl) (cok_tab cok_nil) ?_
  intro args_ E_ nn_ cr_ hg_
  unfold g14 at hg_
  split at hg_
  · rename_i p_W p_H p_Cells
    split at hg_
    · rename_i p_Cells_n p_Cells_s p_Cells_f h_p_Cells
      cases hg_
      refine ⟨_, _, rfl, 1, [p_Cells], [.a [.v (.int .i64 p_W), .v (.int .i64 p_H), .n 0]], [(0, .ro (decL eU8 p_Cells_n p_Cells_f).length eU8.sz (rowF eU8 (decL eU8 p_Cells_n p_Cells_f)))], .o (.c (.v (.bool (decide (((decL eU8 p_Cells_n p_Cells_f)).length ≤ 5000))))), rfl, rfl, by simp only [push_cast, Nat.reduceLT, Nat.reduceAdd], by simp only [push_cast, Nat.reduceLT, Nat.reduceAdd], by simp only [push_cast, Nat.reduceLT, Nat.reduceAdd], rfl, ⟨inE0_row h_p_Cells, trivial⟩, rfl, ?_⟩
      intro hpre hlen
      obtain ⟨i_p_Cells, hpre⟩ := hpre
      refine ⟨⟨inE_row h_p_Cells i_p_Cells, trivial⟩, ?_⟩
      have z_p_Cells := lens_row (E := eU8) hlen h_p_Cells
      clear i_p_Cells
      generalize decL eU8 p_Cells_n p_Cells_f = p_CellsL at *
      clear h_p_Cells
      simp (config := {maxSteps := 10000000}) only [x14, push_cast, Nat.reduceAdd, Nat.reduceSub, Nat.reduceLeDiff, Nat.reduceEqDiff, Nat.reduceBEq, Nat.reduceMul, Nat.reduceLT, reduceIte, reduceCtorEq, Int.reduceLE, Int.reduceLT, Int.reduceEq, Int.reduceMul, Int.reduceAdd, Int.reduceSub, Int.reduceNeg, Int.reduceToNat, Int.reduceNe]
      rw [decide_eq_decide]; omega
    · cases hg_
  · cases hg_
/-- wayfinder/wayfinderlaw10.point -/
def g17 : Con := fun args_ E_ nn_ => match args_ with
  | [.a [.v (.int .i64 at_X), .v (.int .i64 at_Y), .v (.int .i64 at_H)]] => some (.q (True) (.o (.a [.v (.int .i64 at_X), .v (.int .i64 at_Y)])))
  | _ => none
theorem c17 : COk Try.prog 17 g17 := by
  refine cok_q Try.func17 x17_ok (by kernel_rfl) (cok_tab cok_nil) ?_
  intro args_ E_ nn_ cr_ hg_
  unfold g17 at hg_
  split at hg_
  · rename_i at_X at_Y at_H
    cases hg_
    refine ⟨_, _, rfl, 0, [], [.a [.v (.int .i64 at_X), .v (.int .i64 at_Y), .v (.int .i64 at_H)]], [], .o (.a [.v (.int .i64 at_X), .v (.int .i64 at_Y)]), rfl, rfl, by simp only [push_cast, Nat.reduceLT, Nat.reduceAdd], by simp only [push_cast, Nat.reduceLT, Nat.reduceAdd], by simp only [push_cast, Nat.reduceLT, Nat.reduceAdd], rfl, trivial, rfl, ?_⟩
    intro hpre hlen
    refine ⟨trivial, ?_⟩
    simp (config := {maxSteps := 10000000}) only [x17, push_cast, Nat.reduceAdd, Nat.reduceSub, Nat.reduceLeDiff, Nat.reduceEqDiff, Nat.reduceBEq, Nat.reduceMul, Nat.reduceLT, reduceIte, reduceCtorEq, Int.reduceLE, Int.reduceLT, Int.reduceEq, Int.reduceMul, Int.reduceAdd, Int.reduceSub, Int.reduceNeg, Int.reduceToNat, Int.reduceNe]
  · cases hg_
/-- wayfinder/ray.Sweep -/
def g29n : Con := fun args_ E_ nn_ => match args_ with
  | [.a [.v (.int .i64 p_W), .v (.int .i64 p_H), .n p_Cells], .a [.v (.int .i64 at_X), .v (.int .i64 at_Y), .v (.int .i64 at_H)], .c (.n marks), .c (.v (.int .i64 rng)), .c (.v (.slice none 0 0))] => (match rowOf E_ p_Cells with
    | some (p_Cells_n, p_Cells_s, p_Cells_f) => (match rowOf E_ marks with
    | some (marks_n, marks_s, marks_f) => some (.e (isRow eU8 p_Cells_n p_Cells_s p_Cells_f ∧ isRow eI marks_n marks_s marks_f ∧ True) (.t [.c (.n (nn_ + 0)), .c (.v (.int .i64 (swpE p_W p_H (decL eU8 p_Cells_n p_Cells_f) at_X at_Y at_H rng (decL eI marks_n marks_f))))]) [((nn_ + 0), .own (swpL p_W p_H (decL eU8 p_Cells_n p_Cells_f) at_X at_Y at_H rng (decL eI marks_n marks_f) ([] : List Int)).length 2 (rowF eC (swpL p_W p_H (decL eU8 p_Cells_n p_Cells_f) at_X at_Y at_H rng (decL eI marks_n marks_f) ([] : List Int))) 28)] (nn_ + 1))
    | none => none)
    | none => none)
  | _ => none
theorem c29n : COk Try.prog 29 g29n := by
  refine cok_e Try.func29 x29_ok (by kernel_rfl) (cok_tab (cok_cons c25 cok_nil)) ?_
  intro args_ E_ nn_ cr_ hg_
  unfold g29n at hg_
  split at hg_
  · rename_i p_W p_H p_Cells at_X at_Y at_H marks rng
    split at hg_
    · rename_i p_Cells_n p_Cells_s p_Cells_f h_p_Cells
      split at hg_
      · rename_i marks_n marks_s marks_f h_marks
        cases hg_
        refine ⟨_, _, _, _, rfl, 2, [p_Cells, marks], [.a [.v (.int .i64 p_W), .v (.int .i64 p_H), .n 0], .a [.v (.int .i64 at_X), .v (.int .i64 at_Y), .v (.int .i64 at_H)], .c (.n 1), .c (.v (.int .i64 rng)), .c (.v (.slice none 0 0))], [(0, .ro (decL eU8 p_Cells_n p_Cells_f).length eU8.sz (rowF eU8 (decL eU8 p_Cells_n p_Cells_f))), (1, .ro (decL eI marks_n marks_f).length eI.sz (rowF eI (decL eI marks_n marks_f)))], .t [.c (.n 2), .c (.v (.int .i64 (swpE p_W p_H (decL eU8 p_Cells_n p_Cells_f) at_X at_Y at_H rng (decL eI marks_n marks_f))))], [(2, .own (swpL p_W p_H (decL eU8 p_Cells_n p_Cells_f) at_X at_Y at_H rng (decL eI marks_n marks_f) ([] : List Int)).length 2 (rowF eC (swpL p_W p_H (decL eU8 p_Cells_n p_Cells_f) at_X at_Y at_H rng (decL eI marks_n marks_f) ([] : List Int))) 28)], 3, rfl, rfl, by simp only [renE, Ent.ren, rowF_renf] <;> rfl, rfl, by decide, by simp only [push_cast, Nat.reduceLT, Nat.reduceAdd], by simp only [push_cast, Nat.reduceLT, Nat.reduceAdd], by simp only [push_cast, Nat.reduceLT, Nat.reduceAdd], by simp only [push_cast, Nat.reduceLT, Nat.reduceAdd], rfl, ⟨inE0_row h_p_Cells, inE0_row h_marks, trivial⟩, by simp only [keysNodup, outN, keys] <;> decide, rfl, rfl, ?_⟩
        intro hpre hlen
        obtain ⟨i_p_Cells, hpre⟩ := hpre
        obtain ⟨i_marks, hpre⟩ := hpre
        refine ⟨⟨inE_row h_p_Cells i_p_Cells, inE_row h_marks i_marks, trivial⟩, by simp only [apartE] <;> (first | trivial | (simp [Ent.mut]; done)), ?_⟩
        have z_p_Cells := lens_row (E := eU8) hlen h_p_Cells
        have z_marks := lens_row (E := eI) hlen h_marks
        clear i_p_Cells
        generalize decL eU8 p_Cells_n p_Cells_f = p_CellsL at *
        clear i_marks
        generalize decL eI marks_n marks_f = marksL at *
        clear h_p_Cells
        clear h_marks
        simp (config := {maxSteps := 10000000}) only [x29, push_cast, Nat.reduceAdd, Nat.reduceSub, Nat.reduceLeDiff, Nat.reduceEqDiff, Nat.reduceBEq, Nat.reduceMul, Nat.reduceLT, reduceIte, reduceCtorEq, Int.reduceLE, Int.reduceLT, Int.reduceEq, Int.reduceMul, Int.reduceAdd, Int.reduceSub, Int.reduceNeg, Int.reduceToNat, Int.reduceNe, g25]
        refine ⟨fun h => by have z := swp_full (W := p_W) (H := p_H) (L := p_CellsL) (x := at_X) (y := at_Y) (h := at_H) (rng := rng) (M := marksL) [] (by omega); rw [z.1, z.2]; exact ⟨rfl, rfl⟩, fun h => ?_⟩
        refine vcLoop_upd (α := {k : Nat // k ≤ marksL.length ∧ swE1 p_W p_H p_CellsL at_X at_Y at_H rng marksL k = 0}) [3, 4, 5, 6, 21, 22] 1 (fun s => [(12, .o (.c (.n 4))), (23, .o (.c (.v (.int .i64 (s.1 : Nat)))))]) (fun s => [(4, .own (swV p_W p_H p_CellsL at_X at_Y at_H rng marksL ([] : List Int) s.1).length 2 (rowF eC (swV p_W p_H p_CellsL at_X at_Y at_H rng marksL ([] : List Int) s.1)) 28)]) (fun s => marksL.length - s.1) ⟨0, by omega, rfl⟩ ?_ ?_
        · simp only [push_cast, Nat.reduceAdd, Nat.reduceSub, Nat.reduceLeDiff, Nat.reduceEqDiff, Nat.reduceBEq, Nat.reduceMul, Nat.reduceLT, reduceIte, reduceCtorEq, Int.reduceLE, Int.reduceLT, Int.reduceEq, Int.reduceMul, Int.reduceAdd, Int.reduceSub, Int.reduceNeg, Int.reduceToNat, Int.reduceNe, g25, swV_len]
        · rintro ⟨k, hk, h0⟩
          simp only [x29L0, push_cast, Nat.reduceAdd, Nat.reduceSub, Nat.reduceLeDiff, Nat.reduceEqDiff, Nat.reduceBEq, Nat.reduceMul, Nat.reduceLT, reduceIte, reduceCtorEq, Int.reduceLE, Int.reduceLT, Int.reduceEq, Int.reduceMul, Int.reduceAdd, Int.reduceSub, Int.reduceNeg, Int.reduceToNat, Int.reduceNe, g25]
          have hz := swV_len p_W p_H p_CellsL at_X at_Y at_H rng marksL [] k
          refine ⟨fun hlt => ⟨hlt, hlt, fun hh => by omega, fun _ => ⟨fun he => by have z := swp_bad [] (by omega) hlt h0 he; rw [z.1, z.2]; exact ⟨rfl, rfl⟩, fun he => ⟨by omega, ⟨k + 1, by omega, (if_pos h0).trans he⟩, ⟨wrapI (by omega) (by omega), push_eq (E := eC) (x := ⟨marksL.getD k eI.dflt, measV p_W p_H p_CellsL at_X at_Y at_H (marksL.getD k eI.dflt) rng 0⟩) (by simp only; rw [swV_succ, if_neg (by simp)])⟩, by simp only; omega⟩⟩⟩, fun hge => ?_⟩
          obtain rfl : k = marksL.length := by omega
          have z := swp_good [] (by omega) h0
          rw [z.1]
          exact ⟨rfl, same_eq z.2⟩
      · cases hg_
    · cases hg_
  · cases hg_
/-- wayfinder/wayfinderlaw10.awake -/
def g13 : Con := fun args_ E_ nn_ => match args_ with
  | [] => some (.q (True) (.o (.c (.v (.bool (true))))))
  | _ => none
theorem c13 : COk Try.prog 13 g13 := by
  refine cok_q Try.func13 x13_ok (by kernel_rfl) (cok_tab (cok_cons c16 (cok_cons c25 (cok_cons c29n (cok_cons c19 (cok_cons c23 (cok_cons c32 cok_nil))))))) ?_
  intro args_ E_ nn_ cr_ hg_
  unfold g13 at hg_
  split at hg_
  · skip
    cases hg_
    refine ⟨_, _, rfl, 0, [], [], [], .o (.c (.v (.bool (true)))), rfl, rfl, by simp only [push_cast, Nat.reduceLT, Nat.reduceAdd], by simp only [push_cast, Nat.reduceLT, Nat.reduceAdd], by simp only [push_cast, Nat.reduceLT, Nat.reduceAdd], rfl, trivial, rfl, ?_⟩
    intro hpre hlen
    refine ⟨trivial, ?_⟩
    have q1 : isRow eU8 3 1 (litF [SC.v (Value.int IntKind.u8 1), SC.v (Value.int IntKind.u8 0), SC.v (Value.int IntKind.u8 2)] 1) ↔ True := iff_true_intro (lits_row eU8 [1, 0, 2]).1
    have q2 : decL eU8 3 (litF [SC.v (Value.int IntKind.u8 1), SC.v (Value.int IntKind.u8 0), SC.v (Value.int IntKind.u8 2)] 1) = [1, 0, 2] := (lits_row eU8 [1, 0, 2]).2
    have r1 : isRow eI 2 1 (litF [SC.v (Value.int IntKind.i64 0), SC.v (Value.int IntKind.i64 64)] 1) ↔ True := iff_true_intro (lits_row eI [0, 64]).1
    have r2 : decL eI 2 (litF [SC.v (Value.int IntKind.i64 0), SC.v (Value.int IntKind.i64 64)] 1) = [0, 64] := (lits_row eI [0, 64]).2
    simp (config := {maxSteps := 10000000}) only [x13, push_cast, Nat.reduceAdd, Nat.reduceSub, Nat.reduceLeDiff, Nat.reduceEqDiff, Nat.reduceBEq, Nat.reduceMul, Nat.reduceLT, reduceIte, reduceCtorEq, Int.reduceLE, Int.reduceLT, Int.reduceEq, Int.reduceMul, Int.reduceAdd, Int.reduceSub, Int.reduceNeg, Int.reduceToNat, Int.reduceNe, g16, g25, g29n, g19, g23, g32, q1, q2, r1, r2]
    have a1 : firstO 3 1 [1, 0, 2] 32 32 1 0 1 200 = some ⟨2, 0⟩ := by decide +kernel
    have a2 : entC 32 32 1 0 1 ⟨2, 0⟩ = (96, 1) := by decide +kernel
    have a3 : clearB 3 1 [1, 0, 2] 32 32 1 0 1 96 = true := by decide +kernel
    have a4 : clearB 3 1 [1, 0, 2] 32 32 1 0 1 97 = false := by decide +kernel
    have a5 : plausB 3 1 [1, 0, 2] 32 32 0 0 100 4 = true := by decide +kernel
    have a6 : plausB 3 1 [1, 0, 2] 32 32 0 0 101 4 = false := by decide +kernel
    have a7 : measV 3 1 [1, 0, 2] 32 32 0 0 4 9 = 100 := by decide +kernel
    have a8 : measE 3 1 [1, 0, 2] 32 32 0 0 4 = 0 := by decide +kernel
    have a9 : swpL 3 1 [1, 0, 2] 32 32 0 4 [0, 64] [] = [⟨0, 96⟩, ⟨64, 32⟩] := by decide +kernel
    have a10 : swpE 3 1 [1, 0, 2] 32 32 0 4 [0, 64] = 0 := by decide +kernel
    have a11 : allB 3 1 [1, 0, 2] 32 32 0 1 [⟨0, 96⟩, ⟨64, 32⟩] = true := by decide +kernel
    simp [a1, a2, a3, a4, a5, a6, a7, a8, a9, a10, a11, bestF, bestC]
  · cases hg_
end Go.Proofs.Ytpnpbbagonknjaa
