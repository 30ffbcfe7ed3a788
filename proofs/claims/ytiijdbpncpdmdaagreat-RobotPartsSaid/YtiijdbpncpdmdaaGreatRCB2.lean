/- A part of the proof of a statement about this seat: how a function is stepped through, and plain laws. No conditions. -/
import Derived.Test.YtiijdbpncpdmdaaGreatRows
import Derived.Test.YtiijdbpncpdmdaaGreatRCSz4
import Derived.Test.YtiijdbpncpdmdaaGreatRCB1
import Derived.KernelRfl
set_option linter.unusedVariables false
set_option linter.unusedSimpArgs false
set_option maxRecDepth 20000
namespace Go.Proofs.YtiijdbpncpdmdaaGreat
open Go.Sx Go.Way
def x6 : XFn := ⟨91, (.seq (.reg false [K1 0 .mv (.bool false)]) (.seq (.reg false [⟨(some 10), (.call 23), [], none⟩, ⟨(some 11), (.build [(iV 0), (iV 0), (iV 0), (iV 0)] [(3, 1)]), [(.k (iV 1))], none⟩, ⟨(some 12), (.build [(iV 0), (iV 0), (iV 0)] [(0, 1), (1, 1)]), [(.k (iV 96)), (.k (iV 96))], none⟩, ⟨(some 13), (.call 8), [(.t 10), (.t 11), (.t 12)], none⟩, O1 9 .mv 13, O1 14 (.ext 0) 9, O1 15 (.ext 1) 9, O1 1 .mv 14, O1 2 .mv 15]) (.seq (.seq (.reg false [O1 16 .mv 2, K2 17 (.bin .neq) 16 (iV 0), O1 18 .mv 17, G1 19 .mv 1 18 false, ⟨(some 20), (.x (.eqP false)), [(.t 19), (.k (.pointer none))], (some (18, false))⟩, ⟨(some 21), .pick, [(.t 18), (.k (.bool true)), (.t 20)], none⟩]) (.cond (.t 21) (.seq (.reg false [K1 0 .mv (.bool false)]) .ret) .skip)) (.seq (.reg false [O1 23 .mv 1, ⟨(some 24), (.build [(iV 0), (iV 0)] [(0, 1)]), [(.k (iV 64))], none⟩, ⟨(some 25), (.build [(iV 0), (iV 0), (iV 0), (iV 0), (iV 0), (iV 0), (.slice none 0 0), (.slice none 0 0)] [(0, 2)]), [(.t 24)], none⟩, O2 26 (.call 16) 23 25, O1 22 .mv 26, O1 27 (.ext 0) 22, O1 28 (.ext 1) 22, ⟨(some 3), (.alloc 50 [(iV 0), (iV 0), (iV 0), (.bool false), (.slice none 0 0)]), [], none⟩, ⟨none, (.store 5), [(.t 3), (.t 27)], none⟩, O1 4 .mv 28]) (.seq (.reg false [O1 30 .mv 1, ⟨(some 31), (.build [(iV 0), (iV 0)] [(0, 1), (1, 1)]), [(.k (iV 32)), (.k (iV 32))], none⟩, ⟨(some 32), (.build [(iV 0), (iV 0), (iV 0), (iV 0), (iV 0), (iV 0), (.slice none 0 0), (.slice none 0 0)] [(0, 2)]), [(.t 31)], none⟩, O2 33 (.call 16) 30 32, O1 29 .mv 33, O1 34 (.ext 0) 29, O1 35 (.ext 1) 29, ⟨(some 5), (.alloc 50 [(iV 0), (iV 0), (iV 0), (.bool false), (.slice none 0 0)]), [], none⟩, ⟨none, (.store 5), [(.t 5), (.t 34)], none⟩, O1 6 .mv 35]) (.seq (.reg false [O1 37 .mv 1, ⟨(some 38), (.build [(iV 0), (iV 0)] [(0, 1), (1, 1)]), [(.k (iV 32)), (.k (iV 32))], none⟩, ⟨(some 39), (.slit 3 1 1 [(iV 0)] [(0, 1)]), [(.k (iV 0))], none⟩, ⟨(some 40), (.build [(iV 0), (iV 0), (iV 0), (iV 0), (iV 0), (iV 0), (.slice none 0 0), (.slice none 0 0)] [(0, 2), (6, 1)]), [(.t 38), (.t 39)], none⟩, O2 41 (.call 16) 37 40, O1 36 .mv 41, O1 42 (.ext 0) 36, O1 43 (.ext 1) 36, ⟨(some 7), (.alloc 50 [(iV 0), (iV 0), (iV 0), (.bool false), (.slice none 0 0)]), [], none⟩, ⟨none, (.store 5), [(.t 7), (.t 42)], none⟩, O1 8 .mv 43]) (.seq (.reg false [O1 44 .mv 4, K2 45 (.bin .eql) 44 (iV 1), O1 46 .mv 45, G1 47 (.fld 0) 3 46 true, G1 48 .load1 47 46 true, GK 49 (.bin .eql) 48 (iV 0) 46 true, ⟨(some 50), .pick, [(.t 46), (.t 49), (.k (.bool false))], none⟩, O1 51 .mv 50, G1 52 .mv 6 51 true, GK 53 (.bin .eql) 52 (iV 0) 51 true, ⟨(some 54), .pick, [(.t 51), (.t 53), (.k (.bool false))], none⟩, O1 55 .mv 54, G1 56 (.fld 0) 5 55 true, G1 57 .load1 56 55 true, GK 58 (.bin .eql) 57 (iV 1) 55 true, ⟨(some 59), .pick, [(.t 55), (.t 58), (.k (.bool false))], none⟩, O1 60 .mv 59, G1 61 (.fld 3) 5 60 true, G1 62 .load1 61 60 true, G1 63 (.un .not) 62 60 true, ⟨(some 64), .pick, [(.t 60), (.t 63), (.k (.bool false))], none⟩, O1 65 .mv 64, G1 66 .mv 8 65 true, GK 67 (.bin .eql) 66 (iV 0) 65 true, ⟨(some 68), .pick, [(.t 65), (.t 67), (.k (.bool false))], none⟩, O1 69 .mv 68, G1 70 (.fld 0) 7 69 true, G1 71 .load1 70 69 true, GK 72 (.bin .eql) 71 (iV 2) 69 true, ⟨(some 73), .pick, [(.t 69), (.t 72), (.k (.bool false))], none⟩, O1 74 .mv 73, G1 75 (.fld 4) 7 74 true, G1 76 .load1 75 74 true, G1 77 .lenS 76 74 true, GK 78 (.bin .eql) 77 (iV 1) 74 true, ⟨(some 79), .pick, [(.t 74), (.t 78), (.k (.bool false))], none⟩, O1 80 .mv 79, G1 81 .mv 1 80 true, G1 82 (.call 12) 81 80 true, GK 83 (.bin .eql) 82 (iV 2) 80 true, ⟨(some 84), .pick, [(.t 80), (.t 83), (.k (.bool false))], none⟩, O1 85 .mv 84, G1 86 .mv 1 85 true, G1 87 (.call 11) 86 85 true, G1 88 (.part1 2) 87 85 true, GK 89 (.bin .eql) 88 (iV 64) 85 true, ⟨(some 90), .pick, [(.t 85), (.t 89), (.k (.bool false))], none⟩, O1 0 .mv 90]) .ret))))))), [(.s 0)]⟩
theorem x6_ok : xfn Tryz.prog Tryz.f6 = some x6.er := by kernel_rfl
def roomL : List Int := [1, 1, 1, 1, 1, 1, 1, 1, 1]
theorem room_build : buildB 3 3 roomL = true := by decide
theorem room_at {x y : Int} (hx : 0 ≤ x ∧ x ≤ 2) (hy : 0 ≤ y ∧ y ≤ 2) : atB 3 3 roomL x y = 1 := by
  rcases (by omega : x = 0 ∨ x = 1 ∨ x = 2) with rfl | rfl | rfl <;> rcases (by omega : y = 0 ∨ y = 1 ∨ y = 2) with rfl | rfl | rfl <;> decide
theorem room_hit {fx fy tx ty : Int} (h1 : 20 < fx ∧ fx < 172) (h2 : 20 < fy ∧ fy < 172) (h3 : 20 < tx ∧ tx < 172) (h4 : 20 < ty ∧ ty < 172) (x y : Int) : hitW 3 3 roomL fx fy tx ty x y = false := by
  rw [Bool.eq_false_iff]; intro h
  unfold hitW at h
  rw [Bool.and_eq_true, decide_eq_true_eq] at h
  have z := touch_rng h.2
  rw [room_at (by omega) (by omega)] at h
  exact absurd h.1 (by decide)
theorem room_blk {fx fy tx ty : Int} (h1 : 20 < fx ∧ fx < 172) (h2 : 20 < fy ∧ fy < 172) (h3 : 20 < tx ∧ tx < 172) (h4 : 20 < ty ∧ ty < 172) : blkB 3 3 roomL fx fy tx ty = false :=
  blk_no room_build (by unfold wayB; rw [decide_eq_true_eq]; omega) (room_hit h1 h2 h3 h4)
theorem room_new : rnewE 3 3 roomL 0 0 0 1 96 96 0 = 0 := by
  rw [rnew_fit (ckV_ok.2 room_build) (by omega), if_neg]
  unfold fitB
  rw [room_blk (by omega) (by omega) (by omega) (by omega)]
  decide
def rmR (x y h t : Int) : RobS := ⟨3, 3, roomL, 0, 0, 0, 1, x, y, h, t, 0⟩
theorem room_slip (x y h t tu f : Int) (ms es : List Int) : slipO (rmR x y h t) ⟨tu, f, 0, 0, 0, 0, ms, es⟩ = (0, 0, 0, 0, 0) := by
  show clipS 0 0 0 1 0 0 0 0 = _
  rw [clipS_go (by omega)]; rfl
theorem room_do {x y h t tu f nx ny nh : Int} {ms es : List Int} (ha : actOk ⟨tu, f, 0, 0, 0, 0, ms, es⟩ = true) (h1 : 20 < x ∧ x < 172) (h2 : 20 < y ∧ y < 172) (hn : nextS x y h tu f 0 0 0 0 = (nx, ny, nh, 0)) (h3 : 20 < nx ∧ nx < 172) (h4 : 20 < ny ∧ ny < 172) :
    doR (rmR x y h t) ⟨tu, f, 0, 0, 0, 0, ms, es⟩ = rmR nx ny nh (t + 1) ∧ ∃ sc, doV (rmR x y h t) ⟨tu, f, 0, 0, 0, 0, ms, es⟩ = ⟨t + 1, tu, f, false, sc⟩ := by
  have hst : stO (rmR x y h t) ⟨tu, f, 0, 0, 0, 0, ms, es⟩ = (nx, ny, nh, false, 0) := by
    unfold stO
    rw [room_slip]
    simp only [rmR]
    unfold stepS
    have hp : planB 3 3 roomL = true := by decide
    rw [if_neg (by rw [hp]; decide), if_neg (by rw [room_build]; decide), hn]
    simp only [ne_eq, not_true_eq_false, if_false]
    rw [room_blk h1 h2 h3 h4]
    simp
  rw [doR_t ha, doV_t ha, hst]
  exact ⟨rfl, _, rfl⟩
theorem room_ok {x y h t : Int} (h1 : 20 < x ∧ x < 172) (h2 : 20 < y ∧ y < 172) (hh : 0 ≤ h ∧ h ≤ 255) : okS (rmR x y h t) := by
  unfold okS rmR
  simp only
  refine ⟨?_, hh, by omega, by omega, by omega, by omega⟩
  unfold fitB
  rw [room_blk h1 h2 h1 h2]; rfl
theorem room_a1 : actOk ⟨64, 0, 0, 0, 0, 0, [], []⟩ = false := by decide
theorem room_a2 : actOk ⟨32, 32, 0, 0, 0, 0, [], []⟩ = true := by decide
theorem room_a3 : actOk ⟨32, 32, 0, 0, 0, 0, [0], []⟩ = true := by decide
theorem room_d1 : doR (rmR 96 96 0 0) ⟨64, 0, 0, 0, 0, 0, [], []⟩ = rmR 96 96 0 0 := doR_f room_a1
theorem room_v1 : doV (rmR 96 96 0 0) ⟨64, 0, 0, 0, 0, 0, [], []⟩ = ⟨0, 0, 0, false, []⟩ := doV_f room_a1
theorem room_n2 : nextS 96 96 0 32 32 0 0 0 0 = (115, 121, 32, 0) := by decide +kernel
theorem room_n3 : nextS 115 121 32 32 32 0 0 0 0 = (115, 153, 64, 0) := by decide +kernel
theorem room_e2 : doR (rmR 96 96 0 0) ⟨32, 32, 0, 0, 0, 0, [], []⟩ = rmR 115 121 32 1 ∧ ∃ sc, doV (rmR 96 96 0 0) ⟨32, 32, 0, 0, 0, 0, [], []⟩ = ⟨1, 32, 32, false, sc⟩ := room_do room_a2 (by omega) (by omega) room_n2 (by omega) (by omega)
theorem room_e3 : doR (rmR 115 121 32 1) ⟨32, 32, 0, 0, 0, 0, [0], []⟩ = rmR 115 153 64 2 ∧ ∃ sc, doV (rmR 115 121 32 1) ⟨32, 32, 0, 0, 0, 0, [0], []⟩ = ⟨2, 32, 32, false, sc⟩ ∧ sc.length = 1 := by
  obtain ⟨h1, sc, h2⟩ := room_do (t := 1) room_a3 (x := 115) (y := 121) (h := 32) (by omega) (by omega) room_n3 (by omega) (by omega)
  refine ⟨h1, sc, h2, ?_⟩
  have := (scan_law (room_ok (x := 115) (y := 121) (h := 32) (t := 1) (by omega) (by omega) (by omega)) room_a3).1
  rw [h2] at this
  exact this
theorem room_q1 : doE ⟨64, 0, 0, 0, 0, 0, [], []⟩ = 1 := by decide
theorem room_q2 : doE ⟨32, 32, 0, 0, 0, 0, [], []⟩ = 0 := by decide
theorem room_q3 : doE ⟨32, 32, 0, 0, 0, 0, [0], []⟩ = 0 := by decide
theorem room_u8 : u8s roomL := by
  intro x hx
  simp only [roomL, List.mem_cons, List.not_mem_nil, or_false] at hx
  omega
theorem room_row (b : Bnd) : rowEq 9 1 (litF [SC.v (.int .u8 1), SC.v (.int .u8 1), SC.v (.int .u8 1), SC.v (.int .u8 1), SC.v (.int .u8 1), SC.v (.int .u8 1), SC.v (.int .u8 1), SC.v (.int .u8 1), SC.v (.int .u8 1)] 1) (rowF eU8 roomL) (SC.sub b) := by
  intro e j he hj
  obtain rfl : j = 0 := by omega
  rw [rowF_sub]
  rcases (by omega : e = 0 ∨ e = 1 ∨ e = 2 ∨ e = 3 ∨ e = 4 ∨ e = 5 ∨ e = 6 ∨ e = 7 ∨ e = 8) with rfl | rfl | rfl | rfl | rfl | rfl | rfl | rfl | rfl <;> rfl
noncomputable def g16n : Con := nilG g16
theorem c16n : COk Tryz.prog 16 g16n := cok_nilG c16
def x23 : XFn := ⟨3, (.seq (.reg false [⟨(some 0), (.alloc 24 [(iV 0), (iV 0), (.slice none 0 0)]), [], none⟩]) (.seq (.reg false [⟨(some 1), (.slit 5 9 1 [(.int .u8 0), (.int .u8 0), (.int .u8 0), (.int .u8 0), (.int .u8 0), (.int .u8 0), (.int .u8 0), (.int .u8 0), (.int .u8 0)] [(0, 1), (1, 1), (2, 1), (3, 1), (4, 1), (5, 1), (6, 1), (7, 1), (8, 1)]), [(.k (.int .u8 1)), (.k (.int .u8 1)), (.k (.int .u8 1)), (.k (.int .u8 1)), (.k (.int .u8 1)), (.k (.int .u8 1)), (.k (.int .u8 1)), (.k (.int .u8 1)), (.k (.int .u8 1))], none⟩, ⟨(some 2), (.build [(iV 0), (iV 0), (.slice none 0 0)] [(0, 1), (1, 1), (2, 1)]), [(.k (iV 3)), (.k (iV 3)), (.t 1)], none⟩, ⟨none, (.store 3), [(.t 0), (.t 2)], none⟩]) .ret)), [(.bn 0 3)]⟩
theorem x23_ok : xfn Tryz.prog Tryz.f23 = some x23.er := by kernel_rfl
def g23 : Con := fun args_ E_ nn_ => match args_ with
  | [] => some (.e (True) (.o (.a [.v (.int .i64 (3)), .v (.int .i64 (3)), .n (nn_ + 0)])) [((nn_ + 0), .own (roomL).length 1 (rowF eU8 (roomL)) 5)] (nn_ + 1))
  | _ => none
theorem c23 : COk Tryz.prog 23 g23 := by
  refine cok_e Tryz.func23 x23_ok (by kernel_rfl) (cok_tab cok_nil) ?_
  intro args_ E_ nn_ cr_ hg_
  unfold g23 at hg_
  split at hg_
  · skip
    cases hg_
    refine ⟨_, _, _, _, rfl, 0, [], [], [], .o (.a [.v (.int .i64 (3)), .v (.int .i64 (3)), .n 0]), [(0, .own (roomL).length 1 (rowF eU8 (roomL)) 5)], 1, rfl, rfl, by simp only [renE, Ent.ren, rowF_renf] <;> rfl, rfl, by decide, and4 (by simp only [push_cast, simprocAttr]) ⟨rfl, trivial, by simp only [keysNodup, outN, keys] <;> decide, rfl, rfl, ?_⟩⟩
    intro hpre hlen
    refine ⟨trivial, by simp only [apartE] <;> (first | trivial | (simp [Ent.mut]; done)), ?_⟩
    simp (maxSteps := 9999999) only [x23, push_cast, simprocAttr]
    exact ⟨rfl, room_row _⟩
  · cases hg_
noncomputable def g6 : Con := fun args_ E_ nn_ => match args_ with
  | [] => some (.q (True) (.o (.c (.v (.bool (true))))))
  | _ => none
set_option maxHeartbeats 4000000 in
theorem c6 : COk Tryz.prog 6 g6 := by
  refine cok_q Tryz.func6 x6_ok (by kernel_rfl) (cok_tab (cok_cons c23 (cok_cons c8 (cok_cons c16n (cok_cons c12 (cok_cons c11 cok_nil)))))) ?_
  intro args_ E_ nn_ cr_ hg_
  unfold g6 at hg_
  split at hg_
  · skip
    cases hg_
    refine ⟨_, _, rfl, 0, [], [], [], .o (.c (.v (.bool (true)))), rfl, rfl, and3 (by simp only [push_cast, simprocAttr]) ⟨rfl, trivial, rfl, ?_⟩⟩
    intro hpre hlen
    refine ⟨trivial, ?_⟩
    have d1 := room_d1
    have v1 := room_v1
    obtain ⟨d2, sc2, v2⟩ := room_e2
    obtain ⟨d3, sc3, v3, l3⟩ := room_e3
    have q1 := room_q1
    have q2 := room_q2
    have q3 := room_q3
    have hn := room_new
    have m1 : isRow eI 1 1 (litF [SC.v (Value.int IntKind.i64 0)] 1) ↔ True := iff_true_intro (lits_row eI [0]).1
    have m2 : decL eI 1 (litF [SC.v (Value.int IntKind.i64 0)] 1) = [0] := (lits_row eI [0]).2
    simp only [rmR] at d1 v1 d2 v2 d3 v3
    simp (maxSteps := 9999999) only [x6, push_cast, simprocAttr, g23, g8, g16n, g12, g11, g16, g8a, hn, d1, v1, d2, v2, d3, v3, l3, q1, q2, q3, m1, m2]
    exact room_u8
  · cases hg_
end Go.Proofs.YtiijdbpncpdmdaaGreat
namespace Go.Proofs.YtiijdbpncpdmdaaGreat
open Go.Sx Go.Way
deriving instance DecidableEq for QQ
deriving instance DecidableEq for EvtL
theorem qq_eq {x y : QQ} : (x.X == y.X && (x.Y == y.Y && x.H == y.H)) = decide (x = y) := by
  obtain ⟨a, b, c⟩ := x
  obtain ⟨d, e, f⟩ := y
  rw [Bool.eq_iff_iff]
  simp
def x21L0 : XC := (.seq (.seq (.reg false [O1 11 .mv 5, O1 12 .mv 0, O1 13 .lenS 12, O2 14 (.bin .lss) 11 13]) (.cond (.t 14) .skip (.exit 0))) (.seq (.block 1 (.seq (.reg true [O1 17 .mv 0, O1 18 .mv 5, O2 19 (.ixS 3) 17 18, O1 20 (.loadN 3) 19, O1 21 .mv 1, O1 22 .mv 5, O2 23 (.ixS 3) 21 22, O1 24 (.loadN 3) 23, ⟨(some 25), (.eqA true [(.i .i64), (.i .i64), (.i .i64)]), [(.t 20), (.t 24)], none⟩]) (.cond (.t 25) (.seq (.reg false [K1 4 .mv (.bool false)]) .ret) .skip))) (.reg false [O1 15 .mv 5, K2 16 (.bin .add) 15 (iV 1), O1 5 .mv 16])))
def x21 : XFn := ⟨26, (.seq (.reg false [K1 4 .mv (.bool false)]) (.seq (.seq (.reg false [O1 6 .mv 0, O1 7 .lenS 6, O1 8 .mv 1, O1 9 .lenS 8, O2 10 (.bin .neq) 7 9]) (.cond (.t 10) (.seq (.reg false [K1 4 .mv (.bool false)]) .ret) .skip)) (.seq (.seq (.reg false [K1 5 .mv (iV 0)]) (.block 0 (.loop x21L0))) (.seq (.reg false [K1 4 .mv (.bool true)]) .ret)))), [(.s 4)]⟩
theorem x21_ok : xfn Tryz.prog Tryz.f21 = some x21.er := by kernel_rfl
def g21 : Con := fun args_ E_ nn_ => match args_ with
  | [.c (.n a), .c (.n b)] => (match rowOf E_ a with
    | some (a_n, a_s, a_f) => (match rowOf E_ b with
    | some (b_n, b_s, b_f) => some (.q (isRow eQ a_n a_s a_f ∧ isRow eQ b_n b_s b_f ∧ True) (.o (.c (.v (.bool (decide ((decL eQ a_n a_f) = (decL eQ b_n b_f))))))))
    | none => none)
    | none => none)
  | _ => none
theorem c21 : COk Tryz.prog 21 g21 := by
  refine cok_q Tryz.func21 x21_ok (by kernel_rfl) (cok_tab cok_nil) ?_
  intro args_ E_ nn_ cr_ hg_
  unfold g21 at hg_
  split at hg_
  · rename_i a b
    split at hg_
    · rename_i a_n a_s a_f h_a
      split at hg_
      · rename_i b_n b_s b_f h_b
        cases hg_
        refine ⟨_, _, rfl, 2, [a, b], [.c (.n 0), .c (.n 1)], [(0, .ro (decL eQ a_n a_f).length eQ.sz (rowF eQ (decL eQ a_n a_f))), (1, .ro (decL eQ b_n b_f).length eQ.sz (rowF eQ (decL eQ b_n b_f)))], .o (.c (.v (.bool (decide ((decL eQ a_n a_f) = (decL eQ b_n b_f)))))), rfl, rfl, and3 (by simp only [push_cast, simprocAttr]) ⟨rfl, ⟨inE0_row h_a, inE0_row h_b, trivial⟩, rfl, ?_⟩⟩
        intro hpre hlen
        obtain ⟨i_a, hpre⟩ := hpre
        obtain ⟨i_b, hpre⟩ := hpre
        refine ⟨⟨inE_row h_a i_a, inE_row h_b i_b, trivial⟩, ?_⟩
        have z_a := lens_row (E := eQ) hlen h_a
        have z_b := lens_row (E := eQ) hlen h_b
        clear i_a
        generalize decL eQ a_n a_f = aL at *
        clear i_b
        generalize decL eQ b_n b_f = bL at *
        clear h_a
        clear h_b
        simp (maxSteps := 9999999) only [x21, push_cast, simprocAttr]
        refine ⟨fun h => ?_, fun h => ?_⟩
        · symm; rw [decide_eq_false_iff_not]; intro e; exact h (by rw [e])
        refine vcLoop_upd (α := {k : Nat // k ≤ aL.length ∧ ∀ i, i < k → aL.getD i eQ.dflt = bL.getD i eQ.dflt}) [0, 1] 0 (fun s => [(5, .o (.c (.v (.int .i64 (s.1 : Nat)))))]) (fun s => []) (fun s => aL.length - s.1) ⟨0, by omega, fun i hi => by omega⟩ ?_ ?_
        · simp only [push_cast, simprocAttr]
        · rintro ⟨k, hk, hall⟩
          simp only [x21L0, push_cast, simprocAttr]
          refine ⟨fun hlt => ⟨hlt, hlt, by omega, by omega, fun hne => ?_, fun x1 x2 x3 => ⟨⟨k + 1, by omega, fun i hi => ?_⟩, wrapI (by omega) (by omega), by simp only; omega⟩⟩, fun hge => ?_⟩
          · symm; rw [decide_eq_false_iff_not]; intro e; rw [e] at hne; simp at hne
          · by_cases hik : i = k
            · subst hik; rw [← decide_eq_true_eq (p := aL.getD i eQ.dflt = bL.getD i eQ.dflt), ← qq_eq, x1, x2, x3]; simp
            · exact hall i (by omega)
          · symm; rw [decide_eq_true_eq]; exact getD_ext eQ.dflt (by omega) (fun i hi => hall i (by omega))
      · cases hg_
    · cases hg_
  · cases hg_
end Go.Proofs.YtiijdbpncpdmdaaGreat
