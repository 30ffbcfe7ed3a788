/- A part of the proof of a statement about this seat: how a function is stepped through, and plain laws. No conditions. -/
import Derived.Test.YtiijdbpncpdmdaaGreatRows
import Derived.Test.YtiijdbpncpdmdaaGreatRBSz4
import Derived.Test.YtiijdbpncpdmdaaGreatRBB1
import Derived.KernelRfl
set_option linter.unusedVariables false
set_option linter.unusedSimpArgs false
set_option maxRecDepth 20000
namespace Go.Proofs.YtiijdbpncpdmdaaGreat
open Go.Sx Go.Way
def x6 : XFn := ⟨91, (.seq (.reg false [K1 0 .mv (.bool false)]) (.seq (.reg false [⟨(some 10), (.call 23), [], none⟩, ⟨(some 11), (.build [(iV 0), (iV 0), (iV 0), (iV 0)] [(3, 1)]), [(.k (iV 1))], none⟩, ⟨(some 12), (.build [(iV 0), (iV 0), (iV 0)] [(0, 1), (1, 1)]), [(.k (iV 96)), (.k (iV 96))], none⟩, ⟨(some 13), (.call 8), [(.t 10), (.t 11), (.t 12)], none⟩, O1 9 .mv 13, O1 14 (.ext 0) 9, O1 15 (.ext 1) 9, O1 1 .mv 14, O1 2 .mv 15]) (.seq (.seq (.reg false [O1 16 .mv 2, K2 17 (.bin .neq) 16 (iV 0), O1 18 .mv 17, G1 19 .mv 1 18 false, ⟨(some 20), (.x (.eqP false)), [(.t 19), (.k (.pointer none))], (some (18, false))⟩, ⟨(some 21), .pick, [(.t 18), (.k (.bool true)), (.t 20)], none⟩]) (.cond (.t 21) (.seq (.reg false [K1 0 .mv (.bool false)]) .ret) .skip)) (.seq (.reg false [O1 23 .mv 1, ⟨(some 24), (.build [(iV 0), (iV 0)] [(0, 1)]), [(.k (iV 64))], none⟩, ⟨(some 25), (.build [(iV 0), (iV 0), (iV 0), (iV 0), (iV 0), (iV 0), (.slice none 0 0), (.slice none 0 0)] [(0, 2)]), [(.t 24)], none⟩, O2 26 (.call 16) 23 25, O1 22 .mv 26, O1 27 (.ext 0) 22, O1 28 (.ext 1) 22, ⟨(some 3), (.alloc 50 [(iV 0), (iV 0), (iV 0), (.bool false), (.slice none 0 0)]), [], none⟩, ⟨none, (.store 5), [(.t 3), (.t 27)], none⟩, O1 4 .mv 28]) (.seq (.reg false [O1 30 .mv 1, ⟨(some 31), (.build [(iV 0), (iV 0)] [(0, 1), (1, 1)]), [(.k (iV 32)), (.k (iV 32))], none⟩, ⟨(some 32), (.build [(iV 0), (iV 0), (iV 0), (iV 0), (iV 0), (iV 0), (.slice none 0 0), (.slice none 0 0)] [(0, 2)]), [(.t 31)], none⟩, O2 33 (.call 16) 30 32, O1 29 .mv 33, O1 34 (.ext 0) 29, O1 35 (.ext 1) 29, ⟨(some 5), (.alloc 50 [(iV 0), (iV 0), (iV 0), (.bool false), (.slice none 0 0)]), [], none⟩, ⟨none, (.store 5), [(.t 5), (.t 34)], none⟩, O1 6 .mv 35]) (.seq (.reg false [O1 37 .mv 1, ⟨(some 38), (.build [(iV 0), (iV 0)] [(0, 1), (1, 1)]), [(.k (iV 32)), (.k (iV 32))], none⟩, ⟨(some 39), (.slit 3 1 1 [(iV 0)] [(0, 1)]), [(.k (iV 0))], none⟩, ⟨(some 40), (.build [(iV 0), (iV 0), (iV 0), (iV 0), (iV 0), (iV 0), (.slice none 0 0), (.slice none 0 0)] [(0, 2), (6, 1)]), [(.t 38), (.t 39)], none⟩, O2 41 (.call 16) 37 40, O1 36 .mv 41, O1 42 (.ext 0) 36, O1 43 (.ext 1) 36, ⟨(some 7), (.alloc 50 [(iV 0), (iV 0), (iV 0), (.bool false), (.slice none 0 0)]), [], none⟩, ⟨none, (.store 5), [(.t 7), (.t 42)], none⟩, O1 8 .mv 43]) (.seq (.reg false [O1 44 .mv 4, K2 45 (.bin .eql) 44 (iV 1), O1 46 .mv 45, G1 47 (.fld 0) 3 46 true, G1 48 .load1 47 46 true, GK 49 (.bin .eql) 48 (iV 0) 46 true, ⟨(some 50), .pick, [(.t 46), (.t 49), (.k (.bool false))], none⟩, O1 51 .mv 50, G1 52 .mv 6 51 true, GK 53 (.bin .eql) 52 (iV 0) 51 true, ⟨(some 54), .pick, [(.t 51), (.t 53), (.k (.bool false))], none⟩, O1 55 .mv 54, G1 56 (.fld 0) 5 55 true, G1 57 .load1 56 55 true, GK 58 (.bin .eql) 57 (iV 1) 55 true, ⟨(some 59), .pick, [(.t 55), (.t 58), (.k (.bool false))], none⟩, O1 60 .mv 59, G1 61 (.fld 3) 5 60 true, G1 62 .load1 61 60 true, G1 63 (.un .not) 62 60 true, ⟨(some 64), .pick, [(.t 60), (.t 63), (.k (.bool false))], none⟩, O1 65 .mv 64, G1 66 .mv 8 65 true, GK 67 (.bin .eql) 66 (iV 0) 65 true, ⟨(some 68), .pick, [(.t 65), (.t 67), (.k (.bool false))], none⟩, O1 69 .mv 68, G1 70 (.fld 0) 7 69 true, G1 71 .load1 70 69 true, GK 72 (.bin .eql) 71 (iV 2) 69 true, ⟨(some 73), .pick, [(.t 69), (.t 72), (.k (.bool false))], none⟩, O1 74 .mv 73, G1 75 (.fld 4) 7 74 true, G1 76 .load1 75 74 true, G1 77 .lenS 76 74 true, GK 78 (.bin .eql) 77 (iV 1) 74 true, ⟨(some 79), .pick, [(.t 74), (.t 78), (.k (.bool false))], none⟩, O1 80 .mv 79, G1 81 .mv 1 80 true, G1 82 (.call 12) 81 80 true, GK 83 (.bin .eql) 82 (iV 2) 80 true, ⟨(some 84), .pick, [(.t 80), (.t 83), (.k (.bool false))], none⟩, O1 85 .mv 84, G1 86 .mv 1 85 true, G1 87 (.call 11) 86 85 true, G1 88 (.part1 2) 87 85 true, GK 89 (.bin .eql) 88 (iV 64) 85 true, ⟨(some 90), .pick, [(.t 85), (.t 89), (.k (.bool false))], none⟩, O1 0 .mv 90]) .ret))))))), [(.s 0)]⟩
theorem x6_ok : xfn Tryz.prog Tryz.f6 = some x6.er := by kernel_rfl
def roomL : List Int := [1, 1, 1, 1, 1, 1, 1, 1, 1]
theorem room_build : buildB 3 3 roomL = true := by decide
theorem room_at {x y : Int} (hx : 0 ≤ x ∧ x ≤ 2) (hy : 0 ≤ y ∧ y ≤ 2) : atB 3 3 roomL x y = 1 := by
  rcases (by omega : x = 0 ∨ x = 1 ∨ x = 2) with rfl | rfl | rfl <;> rcases (by omega : y = 0 ∨ y = 1 ∨ y = 2) with rfl | rfl | rfl <;> decide
theorem room_hit {fx fy tx ty : Int} (h1 : 20 < fx ∧ fx < 172) (h2 : 20 < fy ∧ fy < 172) (h3 : 20 < tx ∧ tx < 172) (h4 : 20 < ty ∧ ty < 172) (x y : Int) : hitW 3 3 roomL fx fy tx ty x y = false := by
  rw [Bool.eq_false_iff]; intro h
  unfold hitW at h
  rw [Bool.and_eq_true, decide_eq_true_eq] at h
  have z := touch_rng h.2
  rw [room_at (by omega) (by omega)] at h
  exact absurd h.1 (by decide)
theorem room_blk {fx fy tx ty : Int} (h1 : 20 < fx ∧ fx < 172) (h2 : 20 < fy ∧ fy < 172) (h3 : 20 < tx ∧ tx < 172) (h4 : 20 < ty ∧ ty < 172) : blkB 3 3 roomL fx fy tx ty = false :=
  blk_no room_build (by unfold wayB; rw [decide_eq_true_eq]; omega) (room_hit h1 h2 h3 h4)
theorem room_new : rnewE 3 3 roomL 0 0 0 1 96 96 0 = 0 := by
  rw [rnew_fit (ckV_ok.2 room_build) (by omega), if_neg]
  unfold fitB
  rw [room_blk (by omega) (by omega) (by omega) (by omega)]
  decide
def rmR (x y h t : Int) : RobS := ⟨3, 3, roomL, 0, 0, 0, 1, x, y, h, t, 0⟩
theorem room_slip (x y h t tu f : Int) (ms es : List Int) : slipO (rmR x y h t) ⟨tu, f, 0, 0, 0, 0, ms, es⟩ = (0, 0, 0, 0, 0) := by
  show clipS 0 0 0 1 0 0 0 0 = _
  rw [clipS_go (by omega)]; rfl
theorem room_do {x y h t tu f nx ny nh : Int} {ms es : List Int} (ha : actOk ⟨tu, f, 0, 0, 0, 0, ms, es⟩ = true) (h1 : 20 < x ∧ x < 172) (h2 : 20 < y ∧ y < 172) (hn : nextS x y h tu f 0 0 0 0 = (nx, ny, nh, 0)) (h3 : 20 < nx ∧ nx < 172) (h4 : 20 < ny ∧ ny < 172) :
    doR (rmR x y h t) ⟨tu, f, 0, 0, 0, 0, ms, es⟩ = rmR nx ny nh (t + 1) ∧ ∃ sc, doV (rmR x y h t) ⟨tu, f, 0, 0, 0, 0, ms, es⟩ = ⟨t + 1, tu, f, false, sc⟩ := by
  have hst : stO (rmR x y h t) ⟨tu, f, 0, 0, 0, 0, ms, es⟩ = (nx, ny, nh, false, 0) := by
    unfold stO
    rw [room_slip]
    simp only [rmR]
    unfold stepS
    have hp : planB 3 3 roomL = true := by decide
    rw [if_neg (by rw [hp]; decide), if_neg (by rw [room_build]; decide), hn]
    simp only [ne_eq, not_true_eq_false, if_false]
    rw [room_blk h1 h2 h3 h4]
    simp
  rw [doR_t ha, doV_t ha, hst]
  exact ⟨rfl, _, rfl⟩
theorem room_ok {x y h t : Int} (h1 : 20 < x ∧ x < 172) (h2 : 20 < y ∧ y < 172) (hh : 0 ≤ h ∧ h ≤ 255) : okS (rmR x y h t) := by
  unfold okS rmR
  simp only
  refine ⟨?_, hh, by omega, by omega, by omega, by omega⟩
  unfold fitB
  rw [room_blk h1 h2 h1 h2]; rfl
theorem room_a1 : actOk ⟨64, 0, 0, 0, 0, 0, [], []⟩ = false := by decide
theorem room_a2 : actOk ⟨32, 32, 0, 0, 0, 0, [], []⟩ = true := by decide
theorem room_a3 : actOk ⟨32, 32, 0, 0, 0, 0, [0], []⟩ = true := by decide
theorem room_d1 : doR (rmR 96 96 0 0) ⟨64, 0, 0, 0, 0, 0, [], []⟩ = rmR 96 96 0 0 := doR_f room_a1
theorem room_v1 : doV (rmR 96 96 0 0) ⟨64, 0, 0, 0, 0, 0, [], []⟩ = ⟨0, 0, 0, false, []⟩ := doV_f room_a1
theorem room_n2 : nextS 96 96 0 32 32 0 0 0 0 = (115, 121, 32, 0) := by decide +kernel
theorem room_n3 : nextS 115 121 32 32 32 0 0 0 0 = (115, 153, 64, 0) := by decide +kernel
theorem room_e2 : doR (rmR 96 96 0 0) ⟨32, 32, 0, 0, 0, 0, [], []⟩ = rmR 115 121 32 1 ∧ ∃ sc, doV (rmR 96 96 0 0) ⟨32, 32, 0, 0, 0, 0, [], []⟩ = ⟨1, 32, 32, false, sc⟩ := room_do room_a2 (by omega) (by omega) room_n2 (by omega) (by omega)
theorem room_e3 : doR (rmR 115 121 32 1) ⟨32, 32, 0, 0, 0, 0, [0], []⟩ = rmR 115 153 64 2 ∧ ∃ sc, doV (rmR 115 121 32 1) ⟨32, 32, 0, 0, 0, 0, [0], []⟩ = ⟨2, 32, 32, false, sc⟩ ∧ sc.length = 1 := by
  obtain ⟨h1, sc, h2⟩ := room_do (t := 1) room_a3 (x := 115) (y := 121) (h := 32) (by omega) (by omega) room_n3 (by omega) (by omega)
  refine ⟨h1, sc, h2, ?_⟩
  have := (scan_law (room_ok (x := 115) (y := 121) (h := 32) (t := 1) (by omega) (by omega) (by omega)) room_a3).1
  rw [h2] at this
  exact this
theorem room_q1 : doE ⟨64, 0, 0, 0, 0, 0, [], []⟩ = 1 := by decide
theorem room_q2 : doE ⟨32, 32, 0, 0, 0, 0, [], []⟩ = 0 := by decide
theorem room_q3 : doE ⟨32, 32, 0, 0, 0, 0, [0], []⟩ = 0 := by decide
theorem room_u8 : u8s roomL := by
  intro x hx
  simp only [roomL, List.mem_cons, List.not_mem_nil, or_false] at hx
  omega
theorem room_row (b : Bnd) : rowEq 9 1 (litF [SC.v (.int .u8 1), SC.v (.int .u8 1), SC.v (.int .u8 1), SC.v (.int .u8 1), SC.v (.int .u8 1), SC.v (.int .u8 1), SC.v (.int .u8 1), SC.v (.int .u8 1), SC.v (.int .u8 1)] 1) (rowF eU8 roomL) (SC.sub b) := by
  intro e j he hj
  obtain rfl : j = 0 := by omega
  rw [rowF_sub]
  rcases (by omega : e = 0 ∨ e = 1 ∨ e = 2 ∨ e = 3 ∨ e = 4 ∨ e = 5 ∨ e = 6 ∨ e = 7 ∨ e = 8) with rfl | rfl | rfl | rfl | rfl | rfl | rfl | rfl | rfl <;> rfl
noncomputable def g16n : Con := nilG g16
theorem c16n : COk Tryz.prog 16 g16n := cok_nilG c16
def x23 : XFn := ⟨3, (.seq (.reg false [⟨(some 0), (.alloc 24 [(iV 0), (iV 0), (.slice none 0 0)]), [], none⟩]) (.seq (.reg false [⟨(some 1), (.slit 5 9 1 [(.int .u8 0), (.int .u8 0), (.int .u8 0), (.int .u8 0), (.int .u8 0), (.int .u8 0), (.int .u8 0), (.int .u8 0), (.int .u8 0)] [(0, 1), (1, 1), (2, 1), (3, 1), (4, 1), (5, 1), (6, 1), (7, 1), (8, 1)]), [(.k (.int .u8 1)), (.k (.int .u8 1)), (.k (.int .u8 1)), (.k (.int .u8 1)), (.k (.int .u8 1)), (.k (.int .u8 1)), (.k (.int .u8 1)), (.k (.int .u8 1)), (.k (.int .u8 1))], none⟩, ⟨(some 2), (.build [(iV 0), (iV 0), (.slice none 0 0)] [(0, 1), (1, 1), (2, 1)]), [(.k (iV 3)), (.k (iV 3)), (.t 1)], none⟩, ⟨none, (.store 3), [(.t 0), (.t 2)], none⟩]) .ret)), [(.bn 0 3)]⟩
theorem x23_ok : xfn Tryz.prog Tryz.f23 = some x23.er := by kernel_rfl
def g23 : Con := fun args_ E_ nn_ => match args_ with
  | [] => some (.e (True) (.o (.a [.v (.int .i64 (3)), .v (.int .i64 (3)), .n (nn_ + 0)])) [((nn_ + 0), .own (roomL).length 1 (rowF eU8 (roomL)) 5)] (nn_ + 1))
  | _ => none
theorem c23 : COk Tryz.prog 23 g23 := by
  refine cok_e Tryz.func23 x23_ok (by kernel_rfl) (cok_tab cok_nil) ?_
  intro args_ E_ nn_ cr_ hg_
  unfold g23 at hg_
  split at hg_
  · skip
    cases hg_
    refine ⟨_, _, _, _, rfl, 0, [], [], [], .o (.a [.v (.int .i64 (3)), .v (.int .i64 (3)), .n 0]), [(0, .own (roomL).length 1 (rowF eU8 (roomL)) 5)], 1, rfl, rfl, by simp only [renE, Ent.ren, rowF_renf] <;> rfl, rfl, by decide, and4 (by simp only [push_cast, simprocAttr]) ⟨rfl, trivial, by simp only [keysNodup, outN, keys] <;> decide, rfl, rfl, ?_⟩⟩
    intro hpre hlen
    refine ⟨trivial, by simp only [apartE] <;> (first | trivial | (simp [Ent.mut]; done)), ?_⟩
    simp (maxSteps := 9999999) only [x23, push_cast, simprocAttr]
    exact ⟨rfl, room_row _⟩
  · cases hg_
noncomputable def g6 : Con := fun args_ E_ nn_ => match args_ with
  | [] => some (.q (True) (.o (.c (.v (.bool (true))))))
  | _ => none
set_option maxHeartbeats 4000000 in
theorem c6 : COk Tryz.prog 6 g6 := by
  refine cok_q Tryz.func6 x6_ok (by kernel_rfl) (cok_tab (cok_cons c23 (cok_cons c8 (cok_cons c16n (cok_cons c12 (cok_cons c11 cok_nil)))))) ?_
  intro args_ E_ nn_ cr_ hg_
  unfold g6 at hg_
  split at hg_
  · skip
    cases hg_
    refine ⟨_, _, rfl, 0, [], [], [], .o (.c (.v (.bool (true)))), rfl, rfl, and3 (by simp only [push_cast, simprocAttr]) ⟨rfl, trivial, rfl, ?_⟩⟩
    intro hpre hlen
    refine ⟨trivial, ?_⟩
    have d1 := room_d1
    have v1 := room_v1
    obtain ⟨d2, sc2, v2⟩ := room_e2
    obtain ⟨d3, sc3, v3, l3⟩ := room_e3
    have q1 := room_q1
    have q2 := room_q2
    have q3 := room_q3
    have hn := room_new
    have m1 : isRow eI 1 1 (litF [SC.v (Value.int IntKind.i64 0)] 1) ↔ True := iff_true_intro (lits_row eI [0]).1
    have m2 : decL eI 1 (litF [SC.v (Value.int IntKind.i64 0)] 1) = [0] := (lits_row eI [0]).2
    simp only [rmR] at d1 v1 d2 v2 d3 v3
    simp (maxSteps := 9999999) only [x6, push_cast, simprocAttr, g23, g8, g16n, g12, g11, g16, g8a, hn, d1, v1, d2, v2, d3, v3, l3, q1, q2, q3, m1, m2]
    exact room_u8
  · cases hg_
end Go.Proofs.YtiijdbpncpdmdaaGreat
namespace Go.Proofs.YtiijdbpncpdmdaaGreat
open Go.Sx Go.Way
deriving instance DecidableEq for QQ
deriving instance DecidableEq for EvtL
theorem gapO_mx {n lo hi : Int} : max (max (lo - n) 0) (n - hi) = gapO n lo hi := by
  unfold gapO; omega
theorem q20 : IntKind.i64.wrap (IntKind.i64.wrap 0 + 2) = 2 := by decide
theorem any_wr {M : List Int} : M.any wrongM = true ↔ ∃ k, k < M.length ∧ wrongM (M.getD k eI.dflt) = true := by
  rw [List.any_eq_true]
  constructor
  · rintro ⟨x, hx, h⟩
    obtain ⟨k, hk, rfl⟩ := List.getElem_of_mem hx
    refine ⟨k, hk, ?_⟩
    rw [List.getD_eq_getElem?_getD, List.getElem?_eq_getElem hk, Option.getD_some]; exact h
  · rintro ⟨k, hk, h⟩
    rw [List.getD_eq_getElem?_getD, List.getElem?_eq_getElem hk, Option.getD_some] at h
    exact ⟨M[k], List.getElem_mem hk, h⟩
def x30 : XFn := ⟨41, (.seq (.reg false [O1 1 (.box 26) 0, K1 2 .mv (.bool false)]) (.seq (.reg false [O1 3 (.fld 0) 1, O1 4 .load1 3, K2 5 (.bin .geq) 4 (iV 0), O1 6 .mv 5, G1 7 (.fld 0) 1 6 true, G1 8 .load1 7 6 true, GK 9 (.bin .leq) 8 (iV 8) 6 true, ⟨(some 10), .pick, [(.t 6), (.t 9), (.k (.bool false))], none⟩, O1 11 .mv 10, G1 12 (.fld 1) 1 11 true, G1 13 .load1 12 11 true, GK 14 (.bin .geq) 13 (iV 0) 11 true, ⟨(some 15), .pick, [(.t 11), (.t 14), (.k (.bool false))], none⟩, O1 16 .mv 15, G1 17 (.fld 1) 1 16 true, G1 18 .load1 17 16 true, GK 19 (.bin .leq) 18 (iV 16) 16 true, ⟨(some 20), .pick, [(.t 16), (.t 19), (.k (.bool false))], none⟩, O1 21 .mv 20, G1 22 (.fld 2) 1 21 true, G1 23 .load1 22 21 true, GK 24 (.bin .geq) 23 (iV 0) 21 true, ⟨(some 25), .pick, [(.t 21), (.t 24), (.k (.bool false))], none⟩, O1 26 .mv 25, G1 27 (.fld 2) 1 26 true, G1 28 .load1 27 26 true, GK 29 (.bin .leq) 28 (iV 8) 26 true, ⟨(some 30), .pick, [(.t 26), (.t 29), (.k (.bool false))], none⟩, O1 31 .mv 30, G1 32 (.fld 3) 1 31 true, G1 33 .load1 32 31 true, GK 34 (.bin .geq) 33 (iV 1) 31 true, ⟨(some 35), .pick, [(.t 31), (.t 34), (.k (.bool false))], none⟩, O1 36 .mv 35, G1 37 (.fld 3) 1 36 true, G1 38 .load1 37 36 true, GK 39 (.bin .leq) 38 (iV 32) 36 true, ⟨(some 40), .pick, [(.t 36), (.t 39), (.k (.bool false))], none⟩, O1 2 .mv 40]) .ret)), [(.s 2)]⟩
theorem x30_ok : xfn Tryz.prog Tryz.f30 = some x30.er := by kernel_rfl
def x29 : XFn := ⟨9, (.seq (.reg false [O1 1 (.box 24) 0, K1 2 .mv (iV 0)]) (.seq (.seq (.reg false [O1 3 (.loadN 3) 1, O1 4 (.call 53) 3, O1 5 (.un .not) 4]) (.cond (.t 5) (.seq (.reg false [K1 2 .mv (iV 1)]) .ret) .skip)) (.seq (.seq (.reg false [O1 6 (.loadN 3) 1, O1 7 (.call 54) 6, O1 8 (.un .not) 7]) (.cond (.t 8) (.seq (.reg false [K1 2 .mv (iV 3)]) .ret) .skip)) (.seq (.reg false [K1 2 .mv (iV 0)]) .ret)))), [(.s 2)]⟩
theorem x29_ok : xfn Tryz.prog Tryz.f29 = some x29.er := by kernel_rfl
def x59 : XFn := ⟨39, (.seq (.reg false [O1 2 (.box 75) 0, O1 3 (.box 93) 1, K1 4 .mv (iV 0)]) (.seq (.reg false [O1 8 (.loadN 2) 3, O1 9 (.call 84) 8, ⟨(some 5), (.alloc 98 [(iV 0), (iV 0), (iV 0), (iV 0)]), [], none⟩, ⟨none, (.store 4), [(.t 5), (.t 9)], none⟩]) (.seq (.reg false [O1 10 (.fld 0) 5, O1 11 .load1 10, O1 12 (.fld 0) 2, O1 13 .load1 12, O2 14 (.bin .sub) 11 13, O1 15 (.fld 0) 2, O1 16 .load1 15, O1 17 (.fld 2) 5, O1 18 .load1 17, O2 19 (.bin .sub) 16 18, ⟨(some 20), .maxI, [(.t 14), (.k (iV 0)), (.t 19)], none⟩, O1 6 .mv 20]) (.seq (.reg false [O1 21 (.fld 1) 5, O1 22 .load1 21, O1 23 (.fld 1) 2, O1 24 .load1 23, O2 25 (.bin .sub) 22 24, O1 26 (.fld 1) 2, O1 27 .load1 26, O1 28 (.fld 3) 5, O1 29 .load1 28, O2 30 (.bin .sub) 27 29, ⟨(some 31), .maxI, [(.t 25), (.k (iV 0)), (.t 30)], none⟩, O1 7 .mv 31]) (.seq (.reg false [O1 32 .mv 6, O1 33 .mv 6, O2 34 (.bin .mul) 32 33, O1 35 .mv 7, O1 36 .mv 7, O2 37 (.bin .mul) 35 36, O2 38 (.bin .add) 34 37, O1 4 .mv 38]) .ret))))), [(.s 4)]⟩
theorem x59_ok : xfn Tryz.prog Tryz.f59 = some x59.er := by kernel_rfl
def x32L0 : XC := (.seq (.seq (.reg false [O1 51 .mv 11, O1 52 .mv 7, O1 53 .mv 9, O2 54 (.bin .add) 52 53, O2 55 (.bin .leq) 51 54]) (.cond (.t 55) .skip (.exit 2))) (.seq (.block 3 (.seq (.reg false [O1 58 .mv 11, O1 59 .mv 10, ⟨(some 60), (.build [(iV 0), (iV 0)] [(0, 1), (1, 1)]), [(.t 58), (.t 59)], none⟩, ⟨(some 12), (.alloc 93 [(iV 0), (iV 0)]), [], none⟩, ⟨none, (.store 2), [(.t 12), (.t 60)], none⟩]) (.seq (.reg false [O1 61 (.loadN 3) 3, O1 62 (.loadN 2) 12, O2 63 (.call 58) 61 62, K2 64 (.bin .eql) 63 (.int .u8 2), O1 65 .mv 64, G1 66 (.loadN 2) 4 65 true, G1 67 (.loadN 2) 12 65 true, G2 68 (.call 59) 66 67 65 true, G1 69 .mv 2 65 true, G1 70 .mv 2 65 true, G2 71 (.bin .mul) 69 70 65 true, G2 72 (.bin .leq) 68 71 65 true, ⟨(some 73), .pick, [(.t 65), (.t 72), (.k (.bool false))], none⟩]) (.cond (.t 73) (.seq (.reg false [K1 6 .mv (.bool false)]) .ret) .skip)))) (.reg false [O1 56 .mv 11, K2 57 (.bin .add) 56 (iV 1), O1 11 .mv 57])))
def x32L1 : XC := (.seq (.seq (.reg false [O1 41 .mv 10, O1 42 .mv 8, O1 43 .mv 9, O2 44 (.bin .add) 42 43, O2 45 (.bin .leq) 41 44]) (.cond (.t 45) .skip (.exit 0))) (.seq (.block 1 (.seq (.reg false [O1 48 .mv 7, O1 49 .mv 9, O2 50 (.bin .sub) 48 49, O1 11 .mv 50]) (.block 2 (.loop x32L0)))) (.reg false [O1 46 .mv 10, K2 47 (.bin .add) 46 (iV 1), O1 10 .mv 47])))
def x32 : XFn := ⟨74, (.seq (.reg false [O1 3 (.box 24) 0, O1 4 (.box 75) 1, K1 6 .mv (.bool false)]) (.seq (.seq (.reg false [O1 13 (.loadN 3) 3, O1 14 (.call 54) 13, O1 15 (.un .not) 14, O1 16 .mv 15, G1 17 (.loadN 2) 4 16 false, G1 18 (.call 56) 17 16 false, G1 19 (.un .not) 18 16 false, ⟨(some 20), .pick, [(.t 16), (.k (.bool true)), (.t 19)], none⟩, O1 21 .mv 20, G1 22 .mv 2 21 false, GK 23 (.bin .lss) 22 (iV 0) 21 false, ⟨(some 24), .pick, [(.t 21), (.k (.bool true)), (.t 23)], none⟩, O1 25 .mv 24, G1 26 .mv 2 25 false, GK 27 (.bin .gtr) 26 (iV 1024) 25 false, ⟨(some 28), .pick, [(.t 25), (.k (.bool true)), (.t 27)], none⟩]) (.cond (.t 28) (.seq (.reg false [K1 6 .mv (.bool false)]) .ret) .skip)) (.seq (.reg true [O1 29 (.fld 0) 4, O1 30 .load1 29, K2 31 (.call 57) 30 (iV 64), O1 32 (.fld 1) 4, O1 33 .load1 32, K2 34 (.call 57) 33 (iV 64), O1 7 .mv 31, O1 8 .mv 34]) (.seq (.reg false [O1 35 .mv 2, K2 36 (.bin .quo) 35 (iV 64), K2 37 (.bin .add) 36 (iV 2), O1 9 .mv 37]) (.seq (.seq (.reg false [O1 38 .mv 8, O1 39 .mv 9, O2 40 (.bin .sub) 38 39, O1 10 .mv 40]) (.block 0 (.loop x32L1))) (.seq (.reg false [K1 6 .mv (.bool true)]) .ret)))))), [(.s 6)]⟩
theorem x32_ok : xfn Tryz.prog Tryz.f32 = some x32.er := by kernel_rfl
def x34 : XFn := ⟨43, (.seq (.reg false [O1 2 (.box 26) 0, O1 3 (.box 54) 1, ⟨(some 4), (.alloc 54 [(iV 0), (iV 0), (iV 0), (iV 0)]), [], none⟩, K1 5 .mv (iV 0)]) (.seq (.seq (.reg false [O1 6 (.loadN 4) 2, O1 7 (.call 30) 6, O1 8 (.un .not) 7]) (.cond (.t 8) (.seq (.reg false [⟨(some 9), (.build [(iV 0), (iV 0), (iV 0), (iV 0)] []), [], none⟩, ⟨none, (.store 4), [(.t 4), (.t 9)], none⟩, K1 5 .mv (iV 1)]) .ret) .skip)) (.seq (.regD [O1 10 (.fld 0) 3, O1 11 .load1 10, O1 12 (.fld 0) 2, O1 13 .load1 12, O1 14 (.un .neg) 13, O1 15 (.fld 0) 2, O1 16 .load1 15, ⟨(some 17), (.call 61), [(.t 11), (.t 14), (.t 16)], none⟩, O1 18 (.fld 1) 3, O1 19 .load1 18, O1 20 (.fld 1) 2, O1 21 .load1 20, O1 22 (.un .neg) 21, O1 23 (.fld 1) 2, O1 24 .load1 23, ⟨(some 25), (.call 61), [(.t 19), (.t 22), (.t 24)], none⟩, O1 26 (.fld 2) 3, O1 27 .load1 26, O1 28 (.fld 2) 2, O1 29 .load1 28, O1 30 (.un .neg) 29, O1 31 (.fld 2) 2, O1 32 .load1 31, ⟨(some 33), (.call 61), [(.t 27), (.t 30), (.t 32)], none⟩, O1 34 (.fld 3) 3, O1 35 .load1 34, O1 36 (.fld 2) 2, O1 37 .load1 36, O1 38 (.un .neg) 37, O1 39 (.fld 2) 2, O1 40 .load1 39, ⟨(some 41), (.call 61), [(.t 35), (.t 38), (.t 40)], none⟩, ⟨(some 42), (.build [(iV 0), (iV 0), (iV 0), (iV 0)] [(0, 1), (1, 1), (2, 1), (3, 1)]), [(.t 17), (.t 25), (.t 33), (.t 41)], none⟩, ⟨none, (.store 4), [(.t 4), (.t 42)], none⟩, K1 5 .mv (iV 0)] [[], [0], [], [2], [3, 2], [], [5], [1, 0, 4, 3, 2, 6, 5], [], [8], [], [10], [11, 10], [], [13], [9, 8, 12, 11, 10, 14, 13, 7, 1, 0, 4, 3, 2, 6, 5], [], [16], [], [18], [19, 18], [], [21], [17, 16, 20, 19, 18, 22, 21, 15, 9, 8, 12, 11, 10, 14, 13, 7, 1, 0, 4, 3, 2, 6, 5], [], [24], [], [26], [27, 26], [], [29], [25, 24, 28, 27, 26, 30, 29, 23, 17, 16, 20, 19, 18, 22, 21, 15, 9, 8, 12, 11, 10, 14, 13, 7, 1, 0, 4, 3, 2, 6, 5], [7, 1, 0, 4, 3, 2, 6, 5, 15, 9, 8, 12, 11, 10, 14, 13, 23, 17, 16, 20, 19, 18, 22, 21, 31, 25, 24, 28, 27, 26, 30, 29], [32, 7, 1, 0, 4, 3, 2, 6, 5, 15, 9, 8, 12, 11, 10, 14, 13, 23, 17, 16, 20, 19, 18, 22, 21, 31, 25, 24, 28, 27, 26, 30, 29], [33, 32, 7, 1, 0, 4, 3, 2, 6, 5, 15, 9, 8, 12, 11, 10, 14, 13, 23, 17, 16, 20, 19, 18, 22, 21, 31, 25, 24, 28, 27, 26, 30, 29]]) .ret))), [(.bn 4 4), (.s 5)]⟩
theorem x34_ok : xfn Tryz.prog Tryz.f34 = some x34.er := by kernel_rfl
def x33L0 : XC := (.seq (.seq (.reg false [O1 14 .mv 3, O1 15 (.fld 6) 1, O1 16 .load1 15, O1 17 .lenS 16, O2 18 (.bin .lss) 14 17]) (.cond (.t 18) .skip (.exit 0))) (.seq (.block 1 (.seq (.reg false [O1 21 (.fld 6) 1, O1 22 .load1 21, O1 23 .mv 3, O2 24 (.ixS 1) 22 23, O1 25 .load1 24, K2 26 (.bin .lss) 25 (iV 0), O1 27 .mv 26, G1 28 (.fld 6) 1 27 false, G1 29 .load1 28 27 false, G1 30 .mv 3 27 false, G2 31 (.ixS 1) 29 30 27 false, G1 32 .load1 31 27 false, GK 33 (.bin .geq) 32 (iV 256) 27 false, ⟨(some 34), .pick, [(.t 27), (.k (.bool true)), (.t 33)], none⟩]) (.cond (.t 34) (.seq (.reg false [K1 2 .mv (.bool false)]) .ret) .skip))) (.reg false [O1 19 .mv 3, K2 20 (.bin .add) 19 (iV 1), O1 3 .mv 20])))
def x33 : XFn := ⟨35, (.seq (.reg false [O1 1 (.box 57) 0, K1 2 .mv (.bool false)]) (.seq (.seq (.reg false [O1 4 (.fld 0) 1, O1 5 (.loadN 2) 4, O1 6 (.call 60) 5, O1 7 (.un .not) 6, O1 8 .mv 7, G1 9 (.fld 6) 1 8 false, G1 10 .load1 9 8 false, G1 11 .lenS 10 8 false, GK 12 (.bin .gtr) 11 (iV 32) 8 false, ⟨(some 13), .pick, [(.t 8), (.k (.bool true)), (.t 12)], none⟩]) (.cond (.t 13) (.seq (.reg false [K1 2 .mv (.bool false)]) .ret) .skip)) (.seq (.seq (.reg false [K1 3 .mv (iV 0)]) (.block 0 (.loop x33L0))) (.seq (.reg false [K1 2 .mv (.bool true)]) .ret)))), [(.s 2)]⟩
theorem x33_ok : xfn Tryz.prog Tryz.f33 = some x33.er := by kernel_rfl
def x13 : XFn := ⟨9, (.seq (.reg false [K1 2 .mv (iV 0)]) (.seq (.seq (.reg false [O1 3 .mv 0, ⟨(some 4), (.x (.eqP false)), [(.t 3), (.k (.pointer none))], none⟩]) (.cond (.t 4) (.seq (.reg false [K1 2 .mv (iV 0)]) .ret) .skip)) (.seq (.reg false [O1 5 .mv 0, O1 6 .nilc 5, O1 7 (.fld 11) 6, O1 8 .load1 7, O1 2 .mv 8]) .ret))), [(.s 2)]⟩
theorem x13_ok : xfn Tryz.prog Tryz.f13 = some x13.er := by kernel_rfl
def g30 : Con := fun args_ E_ nn_ => match args_ with
  | [.a [.v (.int .i64 b_Turn), .v (.int .i64 b_Length), .v (.int .i64 b_Slip), .v (.int .i64 b_Range)]] => some (.q (True) (.o (.c (.v (.bool (decide ((0 ≤ b_Turn ∧ b_Turn ≤ 8) ∧ (0 ≤ b_Length ∧ b_Length ≤ 16) ∧ (0 ≤ b_Slip ∧ b_Slip ≤ 8) ∧ 1 ≤ b_Range ∧ b_Range ≤ 32)))))))
  | _ => none
theorem c30 : COk Tryz.prog 30 g30 := by
  refine cok_q Tryz.func30 x30_ok (by kernel_rfl) (cok_tab cok_nil) ?_
  intro args_ E_ nn_ cr_ hg_
  unfold g30 at hg_
  split at hg_
  · rename_i b_Turn b_Length b_Slip b_Range
    cases hg_
    refine ⟨_, _, rfl, 0, [], [.a [.v (.int .i64 b_Turn), .v (.int .i64 b_Length), .v (.int .i64 b_Slip), .v (.int .i64 b_Range)]], [], .o (.c (.v (.bool (decide ((0 ≤ b_Turn ∧ b_Turn ≤ 8) ∧ (0 ≤ b_Length ∧ b_Length ≤ 16) ∧ (0 ≤ b_Slip ∧ b_Slip ≤ 8) ∧ 1 ≤ b_Range ∧ b_Range ≤ 32))))), rfl, rfl, and3 (by simp only [push_cast, simprocAttr]) ⟨rfl, trivial, rfl, ?_⟩⟩
    intro hpre hlen
    refine ⟨trivial, ?_⟩
    simp (maxSteps := 9999999) only [x30, push_cast, simprocAttr]
    rw [Bool.eq_iff_iff]
    simp []
    try omega
  · cases hg_
def g29 : Con := fun args_ E_ nn_ => match args_ with
  | [.a [.v (.int .i64 p_W), .v (.int .i64 p_H), .n p_Cells]] => (match rowOf E_ p_Cells with
    | some (p_Cells_n, p_Cells_s, p_Cells_f) => some (.q (isRow eU8 p_Cells_n p_Cells_s p_Cells_f ∧ True) (.o (.c (.v (.int .i64 (ckV p_W p_H (decL eU8 p_Cells_n p_Cells_f)))))))
    | none => none)
  | _ => none
theorem c29 : COk Tryz.prog 29 g29 := by
  refine cok_q Tryz.func29 x29_ok (by kernel_rfl) (cok_tab (cok_cons c53 (cok_cons c54 cok_nil))) ?_
  intro args_ E_ nn_ cr_ hg_
  unfold g29 at hg_
  split at hg_
  · rename_i p_W p_H p_Cells
    split at hg_
    · rename_i p_Cells_n p_Cells_s p_Cells_f h_p_Cells
      cases hg_
      refine ⟨_, _, rfl, 1, [p_Cells], [.a [.v (.int .i64 p_W), .v (.int .i64 p_H), .n 0]], [(0, .ro (decL eU8 p_Cells_n p_Cells_f).length eU8.sz (rowF eU8 (decL eU8 p_Cells_n p_Cells_f)))], .o (.c (.v (.int .i64 (ckV p_W p_H (decL eU8 p_Cells_n p_Cells_f))))), rfl, rfl, and3 (by simp only [push_cast, simprocAttr]) ⟨rfl, ⟨inE0_row h_p_Cells, trivial⟩, rfl, ?_⟩⟩
      intro hpre hlen
      obtain ⟨i_p_Cells, hpre⟩ := hpre
      refine ⟨⟨inE_row h_p_Cells i_p_Cells, trivial⟩, ?_⟩
      have z_p_Cells := lens_row (E := eU8) hlen h_p_Cells
      clear i_p_Cells
      generalize decL eU8 p_Cells_n p_Cells_f = p_CellsL at *
      clear h_p_Cells
      simp (maxSteps := 9999999) only [x29, push_cast, simprocAttr, g53, g54]
      unfold ckV
      refine ⟨fun h => by rw [if_pos h], fun h => ⟨fun h2 => ?_, fun h2 => ?_⟩⟩
      · rw [if_neg (by rw [h]; decide), if_pos h2]
      · rw [if_neg (by rw [h]; decide), if_neg (by rw [h2]; decide)]
    · cases hg_
  · cases hg_
def g59 : Con := fun args_ E_ nn_ => match args_ with
  | [.a [.v (.int .i64 at_X), .v (.int .i64 at_Y)], .a [.v (.int .i64 c_X), .v (.int .i64 c_Y)]] => some (.q (((-1048576 ≤ at_X ∧ at_X ≤ 1048576) ∧ -1048576 ≤ at_Y ∧ at_Y ≤ 1048576) ∧ (-20000 ≤ c_X ∧ c_X ≤ 20000) ∧ -20000 ≤ c_Y ∧ c_Y ≤ 20000) (.o (.c (.v (.int .i64 (gapV at_X at_Y (c_X * 64) (c_Y * 64) (c_X * 64 + 64) (c_Y * 64 + 64)))))))
  | _ => none
theorem c59 : COk Tryz.prog 59 g59 := by
  refine cok_q Tryz.func59 x59_ok (by kernel_rfl) (cok_tab (cok_cons c84 cok_nil)) ?_
  intro args_ E_ nn_ cr_ hg_
  unfold g59 at hg_
  split at hg_
  · rename_i at_X at_Y c_X c_Y
    cases hg_
    refine ⟨_, _, rfl, 0, [], [.a [.v (.int .i64 at_X), .v (.int .i64 at_Y)], .a [.v (.int .i64 c_X), .v (.int .i64 c_Y)]], [], .o (.c (.v (.int .i64 (gapV at_X at_Y (c_X * 64) (c_Y * 64) (c_X * 64 + 64) (c_Y * 64 + 64))))), rfl, rfl, and3 (by simp only [push_cast, simprocAttr]) ⟨rfl, trivial, rfl, ?_⟩⟩
    intro hpre hlen
    refine ⟨trivial, ?_⟩
    simp (maxSteps := 9999999) only [x59, push_cast, simprocAttr, g84]
    have g1 := gapO_mx (n := at_X) (lo := c_X * 64) (hi := c_X * 64 + 64)
    have g2 := gapO_mx (n := at_Y) (lo := c_Y * 64) (hi := c_Y * 64 + 64)
    have m1 := sq_bd (a := gapO at_X (c_X * 64) (c_X * 64 + 64)) (A := 4194304) (by unfold gapO; omega)
    have m2 := sq_bd (a := gapO at_Y (c_Y * 64) (c_Y * 64 + 64)) (A := 4194304) (by unfold gapO; omega)
    refine ⟨by omega, ?_⟩
    rw [wrapI (n := c_X * 64 - at_X) (by omega) (by omega), wrapI (n := c_Y * 64 - at_Y) (by omega) (by omega), wrapI (n := at_X - (c_X * 64 + 64)) (by omega) (by omega), wrapI (n := at_Y - (c_Y * 64 + 64)) (by omega) (by omega), g1, g2, wrapI (n := gapO at_X (c_X * 64) (c_X * 64 + 64) * gapO at_X (c_X * 64) (c_X * 64 + 64)) (by omega) (by omega), wrapI (n := gapO at_Y (c_Y * 64) (c_Y * 64 + 64) * gapO at_Y (c_Y * 64) (c_Y * 64 + 64)) (by omega) (by omega), wrapI (by omega) (by omega)]
    rfl
  · cases hg_
noncomputable def g32 : Con := fun args_ E_ nn_ => match args_ with
  | [.a [.v (.int .i64 p_W), .v (.int .i64 p_H), .n p_Cells], .a [.v (.int .i64 at_X), .v (.int .i64 at_Y)], .c (.v (.int .i64 radius))] => (match rowOf E_ p_Cells with
    | some (p_Cells_n, p_Cells_s, p_Cells_f) => some (.q (isRow eU8 p_Cells_n p_Cells_s p_Cells_f ∧ radius = 20) (.o (.c (.v (.bool (fitB p_W p_H (decL eU8 p_Cells_n p_Cells_f) at_X at_Y))))))
    | none => none)
  | _ => none
theorem c32 : COk Tryz.prog 32 g32 := by
  refine cok_q Tryz.func32 x32_ok (by kernel_rfl) (cok_tab (cok_cons c54 (cok_cons c56 (cok_cons c57 (cok_cons c58 (cok_cons c59 cok_nil)))))) ?_
  intro args_ E_ nn_ cr_ hg_
  unfold g32 at hg_
  split at hg_
  · rename_i p_W p_H p_Cells at_X at_Y radius
    split at hg_
    · rename_i p_Cells_n p_Cells_s p_Cells_f h_p_Cells
      cases hg_
      refine ⟨_, _, rfl, 1, [p_Cells], [.a [.v (.int .i64 p_W), .v (.int .i64 p_H), .n 0], .a [.v (.int .i64 at_X), .v (.int .i64 at_Y)], .c (.v (.int .i64 radius))], [(0, .ro (decL eU8 p_Cells_n p_Cells_f).length eU8.sz (rowF eU8 (decL eU8 p_Cells_n p_Cells_f)))], .o (.c (.v (.bool (fitB p_W p_H (decL eU8 p_Cells_n p_Cells_f) at_X at_Y)))), rfl, rfl, and3 (by simp only [push_cast, simprocAttr]) ⟨rfl, ⟨inE0_row h_p_Cells, trivial⟩, rfl, ?_⟩⟩
      intro hpre hlen
      obtain ⟨i_p_Cells, hpre⟩ := hpre
      refine ⟨⟨inE_row h_p_Cells i_p_Cells, trivial⟩, ?_⟩
      have z_p_Cells := lens_row (E := eU8) hlen h_p_Cells
      clear i_p_Cells
      generalize decL eU8 p_Cells_n p_Cells_f = p_CellsL at *
      clear h_p_Cells
      obtain rfl := hpre
      simp (maxSteps := 9999999) only [x32, push_cast, simprocAttr, g54, g56, g57, g58, g59]
      refine ⟨fun h => ?_, fun hb hp => ?_⟩
      · symm; rw [Bool.eq_false_iff]; intro q
        obtain ⟨q1, q2, _⟩ := fit_iff.1 q
        rcases h with h | h
        · rw [q1] at h; cases h
        · rw [pPt_iff.2 q2] at h; cases h
      have hq := pPt_iff.1 hp
      have hpl : planB p_W p_H p_CellsL = true := by unfold buildB at hb; rw [Bool.and_eq_true] at hb; exact hb.1
      have hlow : ∀ x y, (x < at_X / 64 - 2 ∨ y < at_Y / 64 - 2 ∨ at_X / 64 + 2 < x ∨ at_Y / 64 + 2 < y) → hitW p_W p_H p_CellsL at_X at_Y at_X at_Y x y = false := by
        intro x y h
        rw [Bool.eq_false_iff]; intro q
        have := hit_rng q
        omega
      refine ⟨by omega, by omega, ?_⟩
      rw [q20, wrapI (n := at_Y / 64 - 2) (by omega) (by omega)]
      have r1 : -20000 ≤ at_X / 64 ∧ at_X / 64 ≤ 20000 := by omega
      have r2 : -20000 ≤ at_Y / 64 ∧ at_Y / 64 ≤ 20000 := by omega
      generalize eX0 : at_X / 64 = X0 at *
      generalize eY0 : at_Y / 64 = Y0 at *
      refine vcLoop_upd (α := {k : Nat // k ≤ 5 ∧ ∀ x y, y < Y0 - 2 + k → (hitW p_W p_H p_CellsL at_X at_Y at_X at_Y x y) = false}) [2, 3, 4, 7, 8, 9] 0 (fun s => [(10, .o (.c (.v (.int .i64 (Y0 - 2 + (s.1 : Nat))))))]) (fun s => []) (fun s => 5 - s.1) ⟨0, by omega, fun x y h => hlow x y (.inr (.inl (by omega)))⟩ ?_ ?_
      · simp only [push_cast, simprocAttr, g54, g56, g57, g58, g59, Int.add_zero]
      rintro ⟨k, hk, z⟩
      simp only [x32L1, push_cast, simprocAttr, g54, g56, g57, g58, g59]
      rw [wrapI (n := Y0 + 2) (by omega) (by omega), wrapI (n := X0 - 2) (by omega) (by omega)]
      refine ⟨fun hlt => ?_, fun hge => ?_⟩
      · refine vcLoop_upd (α := {i : Nat // i ≤ 5 ∧ ∀ x, x < X0 - 2 + i → (hitW p_W p_H p_CellsL at_X at_Y at_X at_Y x (Y0 - 2 + k)) = false}) [2, 3, 4, 7, 8, 9, 10] 0 (fun s => [(11, .o (.c (.v (.int .i64 (X0 - 2 + (s.1 : Nat))))))]) (fun s => []) (fun s => 5 - s.1) ⟨0, by omega, fun x h => hlow x _ (.inl (by omega))⟩ ?_ ?_
        · simp only [push_cast, simprocAttr, g54, g56, g57, g58, g59, Int.add_zero]
        rintro ⟨i, hi, zi⟩
        simp only [x32L0, push_cast, simprocAttr, g54, g56, g57, g58, g59]
        rw [wrapI (n := X0 + 2) (by omega) (by omega)]
        have h400 : IntKind.i64.wrap 400 = 400 := by decide
        rw [h400]
        have e := hit_pt (W := p_W) (H := p_H) (L := p_CellsL) hq.1 hq.2 (cx := X0 - 2 + (i : Int)) (cy := Y0 - 2 + (k : Int)) (by omega) (by omega)
        have hstep : (hitW p_W p_H p_CellsL at_X at_Y at_X at_Y (X0 - 2 + (i : Int)) (Y0 - 2 + (k : Int))) = false → X0 - 2 + (i : Int) ≤ X0 + 2 → ∃ y : {i : Nat // i ≤ 5 ∧ ∀ x, x < X0 - 2 + i → (hitW p_W p_H p_CellsL at_X at_Y at_X at_Y x (Y0 - 2 + k)) = false}, IntKind.i64.wrap (X0 - 2 + (i : Int) + 1) = X0 - 2 + (y.val : Nat) ∧ 5 - y.val < 5 - i := fun hz hle =>
          ⟨⟨i + 1, by omega, fun x hx => by rcases (by omega : x < X0 - 2 + (i : Int) ∨ x = X0 - 2 + (i : Int)) with q | q; exact zi x q; rw [q]; exact hz⟩, by rw [wrapI (by omega) (by omega)]; simp only; omega, by simp only; omega⟩
        refine ⟨fun hle => ⟨hpl, fun h => ⟨h, hq, by omega, by omega⟩, fun h1 h2 => ?_, fun h => hstep ?_ hle⟩, fun hgt => ⟨⟨k + 1, by omega, fun x y hy => ?_⟩, by rw [wrapI (by omega) (by omega)]; simp only; omega, by simp only; omega⟩⟩
        · rw [fit_no (cx := X0 - 2 + (i : Int)) (cy := Y0 - 2 + (k : Int)) (by rw [e, decide_eq_true h1, decide_eq_true h2]; rfl)]
        · rw [e, ← h]; congr 1
        · rcases (by omega : y < Y0 - 2 + (k : Int) ∨ y = Y0 - 2 + (k : Int)) with q | q
          · exact z x y q
          · rcases (by omega : x < X0 - 2 + (i : Int) ∨ X0 + 2 < x) with q2 | q2
            · rw [q]; exact zi x q2
            · exact hlow x y (.inr (.inr (.inl q2)))
      symm
      refine fit_iff.2 ⟨hb, hq, fun x y => ?_⟩
      rcases (by omega : y < Y0 - 2 + (k : Int) ∨ Y0 + 2 < y) with q | q
      · exact z x y q
      · exact hlow x y (.inr (.inr (.inr q)))
    · cases hg_
  · cases hg_
def g34 : Con := fun args_ E_ nn_ => match args_ with
  | [.a [.v (.int .i64 b_Turn), .v (.int .i64 b_Length), .v (.int .i64 b_Slip), .v (.int .i64 b_Range)], .a [.v (.int .i64 e_Turn), .v (.int .i64 e_Length), .v (.int .i64 e_X), .v (.int .i64 e_Y)]] => some (.q (True) (.t [.a [.v (.int .i64 (clipS b_Turn b_Length b_Slip b_Range e_Turn e_Length e_X e_Y).1), .v (.int .i64 (clipS b_Turn b_Length b_Slip b_Range e_Turn e_Length e_X e_Y).2.1), .v (.int .i64 (clipS b_Turn b_Length b_Slip b_Range e_Turn e_Length e_X e_Y).2.2.1), .v (.int .i64 (clipS b_Turn b_Length b_Slip b_Range e_Turn e_Length e_X e_Y).2.2.2.1)], .c (.v (.int .i64 ((clipS b_Turn b_Length b_Slip b_Range e_Turn e_Length e_X e_Y).2.2.2.2)))]))
  | _ => none
theorem c34 : COk Tryz.prog 34 g34 := by
  refine cok_q Tryz.func34 x34_ok (by kernel_rfl) (cok_tab (cok_cons c30 (cok_cons c61 cok_nil))) ?_
  intro args_ E_ nn_ cr_ hg_
  unfold g34 at hg_
  split at hg_
  · rename_i b_Turn b_Length b_Slip b_Range e_Turn e_Length e_X e_Y
    cases hg_
    refine ⟨_, _, rfl, 0, [], [.a [.v (.int .i64 b_Turn), .v (.int .i64 b_Length), .v (.int .i64 b_Slip), .v (.int .i64 b_Range)], .a [.v (.int .i64 e_Turn), .v (.int .i64 e_Length), .v (.int .i64 e_X), .v (.int .i64 e_Y)]], [], .t [.a [.v (.int .i64 (clipS b_Turn b_Length b_Slip b_Range e_Turn e_Length e_X e_Y).1), .v (.int .i64 (clipS b_Turn b_Length b_Slip b_Range e_Turn e_Length e_X e_Y).2.1), .v (.int .i64 (clipS b_Turn b_Length b_Slip b_Range e_Turn e_Length e_X e_Y).2.2.1), .v (.int .i64 (clipS b_Turn b_Length b_Slip b_Range e_Turn e_Length e_X e_Y).2.2.2.1)], .c (.v (.int .i64 ((clipS b_Turn b_Length b_Slip b_Range e_Turn e_Length e_X e_Y).2.2.2.2)))], rfl, rfl, and3 (by simp only [push_cast, simprocAttr]) ⟨rfl, trivial, rfl, ?_⟩⟩
    intro hpre hlen
    refine ⟨trivial, ?_⟩
    simp (maxSteps := 9999999) only [x34, push_cast, simprocAttr, g30, g61]
    refine ⟨fun h => ?_, fun b1 b2 b3 b4 b5 b6 b7 b8 => ?_⟩
    · rw [clipS_arg (by omega)]; exact ⟨⟨rfl, rfl, rfl, rfl⟩, rfl⟩
    · rw [clipS_go (by omega)]
      exact ⟨by rfl, ⟨by rw [wrapI (by omega) (by omega)]; simp only [clp], by rw [wrapI (by omega) (by omega)]; simp only [clp], by rw [wrapI (by omega) (by omega)]; simp only [clp], by rw [wrapI (by omega) (by omega)]; simp only [clp]⟩, rfl⟩
  · cases hg_
noncomputable def g33 : Con := fun args_ E_ nn_ => match args_ with
  | [.a [.v (.int .i64 a_Command_Turn), .v (.int .i64 a_Command_Forward), .v (.int .i64 a_Slip_Turn), .v (.int .i64 a_Slip_Length), .v (.int .i64 a_Slip_X), .v (.int .i64 a_Slip_Y), .n a_Marks, .n a_Errs]] => (match rowOf E_ a_Marks with
    | some (a_Marks_n, a_Marks_s, a_Marks_f) => (match rowOf E_ a_Errs with
    | some (a_Errs_n, a_Errs_s, a_Errs_f) => some (.q (isRow eI a_Marks_n a_Marks_s a_Marks_f ∧ isRow eI a_Errs_n a_Errs_s a_Errs_f ∧ True) (.o (.c (.v (.bool (actOk (⟨a_Command_Turn, a_Command_Forward, a_Slip_Turn, a_Slip_Length, a_Slip_X, a_Slip_Y, (decL eI a_Marks_n a_Marks_f), (decL eI a_Errs_n a_Errs_f)⟩ : ActL)))))))
    | none => none)
    | none => none)
  | _ => none
theorem c33 : COk Tryz.prog 33 g33 := by
  refine cok_q Tryz.func33 x33_ok (by kernel_rfl) (cok_tab (cok_cons c60 cok_nil)) ?_
  intro args_ E_ nn_ cr_ hg_
  unfold g33 at hg_
  split at hg_
  · rename_i a_Command_Turn a_Command_Forward a_Slip_Turn a_Slip_Length a_Slip_X a_Slip_Y a_Marks a_Errs
    split at hg_
    · rename_i a_Marks_n a_Marks_s a_Marks_f h_a_Marks
      split at hg_
      · rename_i a_Errs_n a_Errs_s a_Errs_f h_a_Errs
        cases hg_
        refine ⟨_, _, rfl, 2, [a_Marks, a_Errs], [.a [.v (.int .i64 a_Command_Turn), .v (.int .i64 a_Command_Forward), .v (.int .i64 a_Slip_Turn), .v (.int .i64 a_Slip_Length), .v (.int .i64 a_Slip_X), .v (.int .i64 a_Slip_Y), .n 0, .n 1]], [(0, .ro (decL eI a_Marks_n a_Marks_f).length eI.sz (rowF eI (decL eI a_Marks_n a_Marks_f))), (1, .ro (decL eI a_Errs_n a_Errs_f).length eI.sz (rowF eI (decL eI a_Errs_n a_Errs_f)))], .o (.c (.v (.bool (actOk (⟨a_Command_Turn, a_Command_Forward, a_Slip_Turn, a_Slip_Length, a_Slip_X, a_Slip_Y, (decL eI a_Marks_n a_Marks_f), (decL eI a_Errs_n a_Errs_f)⟩ : ActL))))), rfl, rfl, and3 (by simp only [push_cast, simprocAttr]) ⟨rfl, ⟨inE0_row h_a_Marks, inE0_row h_a_Errs, trivial⟩, rfl, ?_⟩⟩
        intro hpre hlen
        obtain ⟨i_a_Marks, hpre⟩ := hpre
        obtain ⟨i_a_Errs, hpre⟩ := hpre
        refine ⟨⟨inE_row h_a_Marks i_a_Marks, inE_row h_a_Errs i_a_Errs, trivial⟩, ?_⟩
        have z_a_Marks := lens_row (E := eI) hlen h_a_Marks
        have z_a_Errs := lens_row (E := eI) hlen h_a_Errs
        clear i_a_Marks
        generalize decL eI a_Marks_n a_Marks_f = a_MarksL at *
        clear i_a_Errs
        generalize decL eI a_Errs_n a_Errs_f = a_ErrsL at *
        clear h_a_Marks
        clear h_a_Errs
        simp (maxSteps := 9999999) only [x33, push_cast, simprocAttr, g60]
        refine ⟨fun h => (actOk_f (.inl h)).symm, fun b1 b2 b3 b4 b5 => ?_⟩
        refine vcLoop_upd (α := {k : Nat // k ≤ a_MarksL.length ∧ ∀ i, i < k → wrongM (a_MarksL.getD i eI.dflt) = false}) [1] 0 (fun s => [(3, .o (.c (.v (.int .i64 (s.1 : Nat)))))]) (fun s => []) (fun s => a_MarksL.length - s.1) ⟨0, by omega, fun i hi => by omega⟩ ?_ ?_
        · simp only [push_cast, simprocAttr, g60]
        rintro ⟨k, hk, z⟩
        simp only [x33L0, push_cast, simprocAttr, g60]
        refine ⟨fun hlt => ?_, fun hge => ?_⟩
        · refine ⟨hlt, hlt, fun h => ⟨h, hlt⟩, fun h => ⟨h, hlt⟩, fun h => (actOk_f (.inr ?_)).symm, fun h1 h2 => ⟨⟨k + 1, by omega, fun i hi => ?_⟩, wrapI (by omega) (by omega), by simp only; omega⟩⟩
          · rw [any_wr]
            exact ⟨k, hlt, decide_eq_true h⟩
          · rcases Nat.lt_succ_iff_lt_or_eq.1 hi with q | q
            · exact z i q
            · subst q; exact decide_eq_false (by omega)
        · symm; refine actOk_t ⟨⟨b1, b2⟩, b3, b4⟩ (by simp only; omega) ?_
          rw [Bool.eq_false_iff]; intro h
          rw [any_wr] at h
          obtain ⟨i, h1, h2⟩ := h
          have h1 : i < a_MarksL.length := h1
          have h3 := z i (by omega)
          have h2 : wrongM (a_MarksL.getD i eI.dflt) = true := h2
          rw [h3] at h2; cases h2
      · cases hg_
    · cases hg_
  · cases hg_
def g13 : Con := fun args_ E_ nn_ => match args_ with
  | [.c (.p r 0)] => (match E_ r with
    | some (.box [.v (.int .i64 r_plan_W), .v (.int .i64 r_plan_H), .n r_plan_Cells, .v (.int .i64 r_bounds_Turn), .v (.int .i64 r_bounds_Length), .v (.int .i64 r_bounds_Slip), .v (.int .i64 r_bounds_Range), .v (.int .i64 r_at_X), .v (.int .i64 r_at_Y), .v (.int .i64 r_at_H), .v (.int .i64 r_ticks), .v (.int .i64 r_bumps)] r_ty) => (match rowOf E_ r_plan_Cells with
    | some (r_plan_Cells_n, r_plan_Cells_s, r_plan_Cells_f) => some (.q (isRow eU8 r_plan_Cells_n r_plan_Cells_s r_plan_Cells_f ∧ True) (.o (.c (.v (.int .i64 (r_bumps))))))
    | none => none)
    | _ => none)
  | _ => none
theorem c13 : COk Tryz.prog 13 g13 := by
  refine cok_r Tryz.func13 x13_ok (by kernel_rfl) (cok_tab cok_nil) ?_
  intro args_ E_ nn_ cr_ hg_
  unfold g13 at hg_
  split at hg_
  · rename_i r
    split at hg_
    · rename_i r_plan_W r_plan_H r_plan_Cells r_bounds_Turn r_bounds_Length r_bounds_Slip r_bounds_Range r_at_X r_at_Y r_at_H r_ticks r_bumps r_ty h_r
      split at hg_
      · rename_i r_plan_Cells_n r_plan_Cells_s r_plan_Cells_f h_r_plan_Cells
        cases hg_
        refine ⟨_, _, rfl, 2, [r, r_plan_Cells], [.c (.p 0 0)], [(0, .box [.v (.int .i64 r_plan_W), .v (.int .i64 r_plan_H), .n 1, .v (.int .i64 r_bounds_Turn), .v (.int .i64 r_bounds_Length), .v (.int .i64 r_bounds_Slip), .v (.int .i64 r_bounds_Range), .v (.int .i64 r_at_X), .v (.int .i64 r_at_Y), .v (.int .i64 r_at_H), .v (.int .i64 r_ticks), .v (.int .i64 r_bumps)] r_ty), (1, .ro (decL eU8 r_plan_Cells_n r_plan_Cells_f).length eU8.sz (rowF eU8 (decL eU8 r_plan_Cells_n r_plan_Cells_f)))], .o (.c (.v (.int .i64 (r_bumps)))), rfl, rfl, and3 (by simp only [push_cast, simprocAttr]) ⟨rfl, ⟨⟨_, h_r⟩, inE0_row h_r_plan_Cells, trivial⟩, rfl, ?_⟩⟩
        intro hpre hlen
        obtain ⟨i_r_plan_Cells, hpre⟩ := hpre
        have hap : apartE (sg 2 nn_ [r, r_plan_Cells]) [(0, .box [.v (.int .i64 r_plan_W), .v (.int .i64 r_plan_H), .n 1, .v (.int .i64 r_bounds_Turn), .v (.int .i64 r_bounds_Length), .v (.int .i64 r_bounds_Slip), .v (.int .i64 r_bounds_Range), .v (.int .i64 r_at_X), .v (.int .i64 r_at_Y), .v (.int .i64 r_at_H), .v (.int .i64 r_ticks), .v (.int .i64 r_bumps)] r_ty), (1, .ro (decL eU8 r_plan_Cells_n r_plan_Cells_f).length eU8.sz (rowF eU8 (decL eU8 r_plan_Cells_n r_plan_Cells_f)))] [(0, .box [.v (.int .i64 r_plan_W), .v (.int .i64 r_plan_H), .n 1, .v (.int .i64 r_bounds_Turn), .v (.int .i64 r_bounds_Length), .v (.int .i64 r_bounds_Slip), .v (.int .i64 r_bounds_Range), .v (.int .i64 r_at_X), .v (.int .i64 r_at_Y), .v (.int .i64 r_at_H), .v (.int .i64 r_ticks), .v (.int .i64 r_bumps)] r_ty), (1, .ro (decL eU8 r_plan_Cells_n r_plan_Cells_f).length eU8.sz (rowF eU8 (decL eU8 r_plan_Cells_n r_plan_Cells_f)))] := by
          refine ⟨fun _ k2 e2 hm hne => ?_, ?_⟩
          · simp only [List.mem_cons, List.not_mem_nil, or_false, Prod.mk.injEq] at hm
            rcases hm with ⟨rfl, _⟩ | ⟨rfl, _⟩
            · exact absurd rfl hne
            · exact fun hh => by
                have hh2 : r_plan_Cells = r := hh
                have hh3 := h_r_plan_Cells
                rw [hh2] at hh3; unfold rowOf at hh3; rw [h_r] at hh3; cases hh3
          refine ⟨fun h => by (cases h), ?_⟩
          trivial
        refine ⟨⟨⟨_, h_r, by simp only [leE, mapEq, SC.ren, and_true, true_and, and_self] <;> rfl⟩, inE_row h_r_plan_Cells i_r_plan_Cells, trivial⟩, hap, ?_⟩
        have z_r_plan_Cells := lens_row (E := eU8) hlen h_r_plan_Cells
        clear i_r_plan_Cells
        generalize decL eU8 r_plan_Cells_n r_plan_Cells_f = r_plan_CellsL at *
        clear h_r_plan_Cells
        simp (maxSteps := 9999999) only [x13, push_cast, simprocAttr]
      · cases hg_
    · cases hg_
  · cases hg_
end Go.Proofs.YtiijdbpncpdmdaaGreat
