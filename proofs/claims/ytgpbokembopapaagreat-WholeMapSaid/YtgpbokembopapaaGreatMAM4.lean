/- A part of the proof of a statement about this seat: how a function is stepped through, and plain laws. No conditions. -/
import Derived.Test.YtgpbokembopapaaGreatRows
import Derived.Test.YtgpbokembopapaaGreatMASz4
import Derived.Test.YtgpbokembopapaaGreatMAM3
import Derived.KernelRfl
set_option linter.unusedVariables false
set_option linter.unusedSimpArgs false
set_option maxRecDepth 20000
namespace Go.Proofs.YtgpbokembopapaaGreat
open Go.Sx Go.Way
def gapD (d : List Int) : Int := ((rdU d).1 : Nat)
def hitD (d : List Int) : Int := unz (rdU (rdU d).2.1).1
def pasD (d : List Int) : Int := unz (rdU (rdU (rdU d).2.1).2.1).1
def rstD (d : List Int) : List Int := (rdU (rdU (rdU d).2.1).2.1).2.1
def entP (x y n : Int) (d : List Int) : Prop := ∃ (g : Nat) (h p : Int) (r : List Int), d = uintL g ++ (uintL (zig h) ++ (uintL (zig p) ++ r)) ∧ d.length ≤ 100000 ∧ u8s r ∧ 0 ≤ n ∧ n + g < 256 ∧ (-1099511627776 ≤ h ∧ h ≤ 1099511627776) ∧ (-1099511627776 ≤ p ∧ p ≤ 1099511627776) ∧ (h ≠ 0 ∨ p ≠ 0) ∧
  (-16384 ≤ 16 * x + (n + g) % 16 ∧ 16 * x + (n + g) % 16 ≤ 16384) ∧ -16384 ≤ 16 * y + (n + g) / 16 ∧ 16 * y + (n + g) / 16 ≤ 16384
theorem shr4 (x : Int) : x.fdiv (2 ^ min 4 IntKind.i64.bits) = x / 16 := by
  show x.fdiv 16 = _
  rw [Int.fdiv_eq_ediv_of_nonneg _ (by omega)]
theorem tmod16 {x : Int} (h : 0 ≤ x) : x.tmod 16 = x % 16 := Int.tmod_eq_emod_of_nonneg h
theorem tdiv16 {x : Int} (h : 0 ≤ x) : x.tdiv 16 = x / 16 := Int.tdiv_eq_ediv_of_nonneg h
theorem zig_lt {n : Int} (h : -1099511627776 ≤ n ∧ n ≤ 1099511627776) : zig n < 9223372036854775808 := by unfold zig; split <;> omega
theorem u8s_app {L M : List Int} (h1 : u8s L) (h2 : u8s M) : u8s (L ++ M) := fun x hx => (List.mem_append.1 hx).elim (h1 x) (h2 x)
def x97 : XFn := ⟨27, (.seq (.reg false [O1 1 (.box 109) 0, ⟨(some 2), (.alloc 109 [(iV 0), (iV 0)]), [], none⟩, K1 3 .mv (iV 0)]) (.seq (.reg false [O1 5 (.fld 0) 1, O1 6 .load1 5, K2 7 (.bin .shr) 6 (.int .u64 4), O1 8 (.fld 1) 1, O1 9 .load1 8, K2 10 (.bin .shr) 9 (.int .u64 4), ⟨(some 11), (.build [(iV 0), (iV 0)] [(0, 1), (1, 1)]), [(.t 7), (.t 10)], none⟩, ⟨(some 4), (.alloc 109 [(iV 0), (iV 0)]), [], none⟩, ⟨none, (.store 2), [(.t 4), (.t 11)], none⟩]) (.seq (.regD [O1 12 (.loadN 2) 4, O1 13 (.fld 1) 1, O1 14 .load1 13, O1 15 (.fld 1) 4, O1 16 .load1 15, ⟨(some 17), (.bin .mul), [(.k (iV 16)), (.t 16)], none⟩, O2 18 (.bin .sub) 14 17, K2 19 (.bin .mul) 18 (iV 16), O1 20 (.fld 0) 1, O1 21 .load1 20, O2 22 (.bin .add) 19 21, O1 23 (.fld 0) 4, O1 24 .load1 23, ⟨(some 25), (.bin .mul), [(.k (iV 16)), (.t 24)], none⟩, O2 26 (.bin .sub) 22 25, ⟨none, (.store 2), [(.t 2), (.t 12)], none⟩, O1 3 .mv 26] [[], [], [1], [], [3], [4, 3], [2, 1, 5, 4, 3], [6, 2, 1, 5, 4, 3], [], [8], [7, 6, 2, 1, 5, 4, 3, 9, 8], [], [11], [12, 11], [10, 7, 6, 2, 1, 5, 4, 3, 9, 8, 13, 12, 11], [0], [14, 10, 7, 6, 2, 1, 5, 4, 3, 9, 8, 13, 12, 11, 15, 0]]) .ret))), [(.bn 2 2), (.s 3)]⟩
theorem x97_ok : xfn Tryz.prog Tryz.f97 = some x97.er := by kernel_rfl
def x57 : XFn := ⟨108, (.seq (.reg false [O1 3 (.box 116) 0, ⟨(some 6), (.alloc 119 [(iV 0), (iV 0), (iV 0), (iV 0)]), [], none⟩, K1 7 .mv (iV 0), K1 8 .mv (.slice none 0 0), K1 9 .mv (iV 0)]) (.seq (.reg false [O1 17 .mv 2, O1 18 (.call 101) 17, O1 16 .mv 18, O1 19 (.ext 0) 16, O1 20 (.ext 1) 16, O1 21 (.ext 2) 16, O1 10 .mv 19, O1 2 .mv 20, O1 11 .mv 21]) (.seq (.seq (.reg false [O1 22 .mv 11, K2 23 (.bin .neq) 22 (iV 0)]) (.cond (.t 23) (.seq (.reg false [⟨(some 24), (.build [(iV 0), (iV 0), (iV 0), (iV 0)] []), [], none⟩, O1 25 .mv 11, ⟨none, (.store 4), [(.t 6), (.t 24)], none⟩, K1 7 .mv (iV 0), K1 8 .mv (.slice none 0 0), O1 9 .mv 25]) .ret) .skip)) (.seq (.reg false [O1 27 .mv 2, O1 28 (.call 102) 27, O1 26 .mv 28, O1 29 (.ext 0) 26, O1 30 (.ext 1) 26, O1 31 (.ext 2) 26, O1 12 .mv 29, O1 2 .mv 30, O1 11 .mv 31]) (.seq (.seq (.reg false [O1 32 .mv 11, K2 33 (.bin .neq) 32 (iV 0)]) (.cond (.t 33) (.seq (.reg false [⟨(some 34), (.build [(iV 0), (iV 0), (iV 0), (iV 0)] []), [], none⟩, O1 35 .mv 11, ⟨none, (.store 4), [(.t 6), (.t 34)], none⟩, K1 7 .mv (iV 0), K1 8 .mv (.slice none 0 0), O1 9 .mv 35]) .ret) .skip)) (.seq (.reg false [O1 37 .mv 2, O1 38 (.call 102) 37, O1 36 .mv 38, O1 39 (.ext 0) 36, O1 40 (.ext 1) 36, O1 41 (.ext 2) 36, O1 13 .mv 39, O1 2 .mv 40, O1 11 .mv 41]) (.seq (.seq (.reg false [O1 42 .mv 11, K2 43 (.bin .neq) 42 (iV 0)]) (.cond (.t 43) (.seq (.reg false [⟨(some 44), (.build [(iV 0), (iV 0), (iV 0), (iV 0)] []), [], none⟩, O1 45 .mv 11, ⟨none, (.store 4), [(.t 6), (.t 44)], none⟩, K1 7 .mv (iV 0), K1 8 .mv (.slice none 0 0), O1 9 .mv 45]) .ret) .skip)) (.seq (.seq (.reg false [O1 46 .mv 10, K2 47 (.bin .geq) 46 (.int .u64 256), O1 48 .mv 47, G1 49 .mv 1 48 false, G1 50 .mv 10 48 false, G1 51 (.conv .i64) 50 48 false, G2 52 (.bin .add) 49 51 48 false, GK 53 (.bin .geq) 52 (iV 256) 48 false, ⟨(some 54), .pick, [(.t 48), (.k (.bool true)), (.t 53)], none⟩, O1 55 .mv 54, G1 56 .mv 12 55 false, GK 57 (.bin .eql) 56 (iV 0) 55 false, G1 58 .mv 57 55 false, G1 59 .mv 13 58 true, GK 60 (.bin .eql) 59 (iV 0) 58 true, ⟨(some 61), .pick, [(.t 58), (.t 60), (.k (.bool false))], (some (55, false))⟩, ⟨(some 62), .pick, [(.t 55), (.k (.bool true)), (.t 61)], none⟩]) (.cond (.t 62) (.seq (.reg false [⟨(some 63), (.build [(iV 0), (iV 0), (iV 0), (iV 0)] []), [], none⟩, ⟨none, (.store 4), [(.t 6), (.t 63)], none⟩, K1 7 .mv (iV 0), K1 8 .mv (.slice none 0 0), K1 9 .mv (iV 3)]) .ret) .skip)) (.seq (.seq (.reg false [O1 64 .mv 12, K2 65 (.call 56) 64 (iV 1099511627776), O1 66 (.un .not) 65, O1 67 .mv 66, G1 68 .mv 13 67 false, GK 69 (.call 56) 68 (iV 1099511627776) 67 false, G1 70 (.un .not) 69 67 false, ⟨(some 71), .pick, [(.t 67), (.k (.bool true)), (.t 70)], none⟩]) (.cond (.t 71) (.seq (.reg false [⟨(some 72), (.build [(iV 0), (iV 0), (iV 0), (iV 0)] []), [], none⟩, ⟨none, (.store 4), [(.t 6), (.t 72)], none⟩, K1 7 .mv (iV 0), K1 8 .mv (.slice none 0 0), K1 9 .mv (iV 2)]) .ret) .skip)) (.seq (.reg false [O1 73 .mv 1, O1 74 .mv 10, O1 75 (.conv .i64) 74, O2 76 (.bin .add) 73 75, O1 14 .mv 76]) (.seq (.reg false [O1 77 (.fld 0) 3, O1 78 .load1 77, ⟨(some 79), (.bin .mul), [(.k (iV 16)), (.t 78)], none⟩, O1 80 .mv 14, K2 81 (.bin .rem) 80 (iV 16), O2 82 (.bin .add) 79 81, O1 83 (.fld 1) 3, O1 84 .load1 83, ⟨(some 85), (.bin .mul), [(.k (iV 16)), (.t 84)], none⟩, O1 86 .mv 14, K2 87 (.bin .quo) 86 (iV 16), O2 88 (.bin .add) 85 87, ⟨(some 89), (.build [(iV 0), (iV 0)] [(0, 1), (1, 1)]), [(.t 82), (.t 88)], none⟩, ⟨(some 15), (.alloc 109 [(iV 0), (iV 0)]), [], none⟩, ⟨none, (.store 2), [(.t 15), (.t 89)], none⟩]) (.seq (.seq (.reg false [O1 90 (.fld 0) 15, O1 91 .load1 90, K2 92 (.call 56) 91 (iV 16384), O1 93 (.un .not) 92, O1 94 .mv 93, G1 95 (.fld 1) 15 94 false, G1 96 .load1 95 94 false, GK 97 (.call 56) 96 (iV 16384) 94 false, G1 98 (.un .not) 97 94 false, ⟨(some 99), .pick, [(.t 94), (.k (.bool true)), (.t 98)], none⟩]) (.cond (.t 99) (.seq (.reg false [⟨(some 100), (.build [(iV 0), (iV 0), (iV 0), (iV 0)] []), [], none⟩, ⟨none, (.store 4), [(.t 6), (.t 100)], none⟩, K1 7 .mv (iV 0), K1 8 .mv (.slice none 0 0), K1 9 .mv (iV 1)]) .ret) .skip)) (.seq (.reg false [O1 101 (.loadN 2) 15, O1 102 .mv 12, O1 103 .mv 13, ⟨(some 104), (.build [(iV 0), (iV 0), (iV 0), (iV 0)] [(0, 2), (2, 1), (3, 1)]), [(.t 101), (.t 102), (.t 103)], none⟩, O1 105 .mv 14, K2 106 (.bin .add) 105 (iV 1), O1 107 .mv 2, ⟨none, (.store 4), [(.t 6), (.t 104)], none⟩, O1 7 .mv 106, O1 8 .mv 107, K1 9 .mv (iV 0)]) .ret))))))))))))), [(.bn 6 4), (.s 7), (.s 8), (.s 9)]⟩
theorem x57_ok : xfn Tryz.prog Tryz.f57 = some x57.er := by kernel_rfl
def g97 : Con := fun args_ E_ nn_ => match args_ with
  | [.a [.v (.int .i64 c_X), .v (.int .i64 c_Y)]] => some (.q ((-32768 ≤ c_X ∧ c_X ≤ 32768) ∧ -32768 ≤ c_Y ∧ c_Y ≤ 32768) (.t [.a [.v (.int .i64 (c_X / 16)), .v (.int .i64 (c_Y / 16))], .c (.v (.int .i64 ((c_Y % 16) * 16 + c_X % 16)))]))
  | _ => none
theorem c97 : COk Tryz.prog 97 g97 := by
  refine cok_q Tryz.func97 x97_ok (by kernel_rfl) (cok_tab cok_nil) ?_
  intro args_ E_ nn_ cr_ hg_
  unfold g97 at hg_
  split at hg_
  · rename_i c_X c_Y
    cases hg_
    refine ⟨_, _, rfl, 0, [], [.a [.v (.int .i64 c_X), .v (.int .i64 c_Y)]], [], .t [.a [.v (.int .i64 (c_X / 16)), .v (.int .i64 (c_Y / 16))], .c (.v (.int .i64 ((c_Y % 16) * 16 + c_X % 16)))], rfl, rfl, and3 (by simp only [push_cast, Nat.reduceLT, Nat.reduceAdd]) ⟨rfl, trivial, rfl, ?_⟩⟩
    intro hpre hlen
    refine ⟨trivial, ?_⟩
    simp (maxSteps := 9999999) only [x97, push_cast, simprocAttr, shr4]
    refine ⟨by rfl, ?_⟩
    rw [wrapI (n := 16 * (c_Y / 16)) (by omega) (by omega), wrapI (n := c_Y - 16 * (c_Y / 16)) (by omega) (by omega), wrapI (n := (c_Y - 16 * (c_Y / 16)) * 16) (by omega) (by omega), wrapI (n := 16 * (c_X / 16)) (by omega) (by omega), wrapI (n := (c_Y - 16 * (c_Y / 16)) * 16 + c_X) (by omega) (by omega), wrapI (by omega) (by omega)]
    omega
  · cases hg_
def g57 : Con := fun args_ E_ nn_ => match args_ with
  | [.a [.v (.int .i64 t_X), .v (.int .i64 t_Y), .n t_Data], .c (.v (.int .i64 next)), .c (.n data)] => (match rowOf E_ t_Data with
    | some (t_Data_n, t_Data_s, t_Data_f) => (match rowOf E_ data with
    | some (data_n, data_s, data_f) => some (.e (isRow eU8 t_Data_n t_Data_s t_Data_f ∧ isRow eU8 data_n data_s data_f ∧ entP t_X t_Y next (decL eU8 data_n data_f)) (.t [.a [.v (.int .i64 (16 * t_X + (next + gapD (decL eU8 data_n data_f)) % 16)), .v (.int .i64 (16 * t_Y + (next + gapD (decL eU8 data_n data_f)) / 16)), .v (.int .i64 (hitD (decL eU8 data_n data_f))), .v (.int .i64 (pasD (decL eU8 data_n data_f)))], .c (.v (.int .i64 (next + gapD (decL eU8 data_n data_f) + 1))), .c (.n (nn_ + 0)), .c (.v (.int .i64 (0)))]) [((nn_ + 0), .own (rstD (decL eU8 data_n data_f)).length 1 (rowF eU8 (rstD (decL eU8 data_n data_f))) 5)] (nn_ + 1))
    | none => none)
    | none => none)
  | _ => none
theorem c57 : COk Tryz.prog 57 g57 := by
  refine cok_d Tryz.func57 x57_ok (by kernel_rfl) (cok_tab (cok_cons c101 (cok_cons c102 (cok_cons c56 cok_nil)))) ?_
  intro args_ E_ nn_ cr_ hg_
  unfold g57 at hg_
  split at hg_
  · rename_i t_X t_Y t_Data next data
    split at hg_
    · rename_i t_Data_n t_Data_s t_Data_f h_t_Data
      split at hg_
      · rename_i data_n data_s data_f h_data
        cases hg_
        refine ⟨_, _, _, _, rfl, 2, [t_Data, data], [.a [.v (.int .i64 t_X), .v (.int .i64 t_Y), .n 0], .c (.v (.int .i64 next)), .c (.n 1)], [(0, .ro (decL eU8 t_Data_n t_Data_f).length eU8.sz (rowF eU8 (decL eU8 t_Data_n t_Data_f))), (1, .ro (decL eU8 data_n data_f).length eU8.sz (rowF eU8 (decL eU8 data_n data_f)))], .t [.a [.v (.int .i64 (16 * t_X + (next + gapD (decL eU8 data_n data_f)) % 16)), .v (.int .i64 (16 * t_Y + (next + gapD (decL eU8 data_n data_f)) / 16)), .v (.int .i64 (hitD (decL eU8 data_n data_f))), .v (.int .i64 (pasD (decL eU8 data_n data_f)))], .c (.v (.int .i64 (next + gapD (decL eU8 data_n data_f) + 1))), .c (.n 2), .c (.v (.int .i64 (0)))], [(2, .own (rstD (decL eU8 data_n data_f)).length 1 (rowF eU8 (rstD (decL eU8 data_n data_f))) 5)], 3, rfl, rfl, by simp only [renE, Ent.ren, rowF_renf] <;> rfl, rfl, by decide, and4 (by simp only [push_cast, Nat.reduceLT, Nat.reduceAdd]) ⟨rfl, ⟨inE0_row h_t_Data, inE0_row h_data, trivial⟩, by simp only [keysNodup, outN, keys] <;> decide, rfl, .inl rfl, ?_⟩⟩
        intro hpre hlen
        obtain ⟨i_t_Data, hpre⟩ := hpre
        obtain ⟨i_data, hpre⟩ := hpre
        refine ⟨⟨inE_row h_t_Data i_t_Data, inE_row h_data i_data, trivial⟩, by simp only [apartE] <;> (first | trivial | (simp [Ent.mut]; done)), ?_⟩
        have z_t_Data := lens_row (E := eU8) hlen h_t_Data
        have z_data := lens_row (E := eU8) hlen h_data
        clear i_t_Data
        generalize decL eU8 t_Data_n t_Data_f = t_DataL at *
        clear i_data
        generalize decL eU8 data_n data_f = dataL at *
        clear h_t_Data
        clear h_data
        obtain ⟨g, h, p, r, rfl, hl, hr, hn, hg, hh, hp, hz, hx, hy⟩ := hpre
        have zh := zig_lt hh
        have zp := zig_lt hp
        have e1 : rdU (uintL g ++ (uintL (zig h) ++ (uintL (zig p) ++ r))) = (g, uintL (zig h) ++ (uintL (zig p) ++ r), 0) := rdU_uint _ (by omega)
        have e2 : rdU (uintL (zig h) ++ (uintL (zig p) ++ r)) = (zig h, uintL (zig p) ++ r, 0) := rdU_uint _ (by omega)
        have e3 : rdU (uintL (zig p) ++ r) = (zig p, r, 0) := rdU_uint _ (by omega)
        have f1 : gapD (uintL g ++ (uintL (zig h) ++ (uintL (zig p) ++ r))) = (g : Int) := by unfold gapD; rw [e1]
        have f2 : hitD (uintL g ++ (uintL (zig h) ++ (uintL (zig p) ++ r))) = h := by unfold hitD; rw [e1, e2, unz_zig]
        have f3 : pasD (uintL g ++ (uintL (zig h) ++ (uintL (zig p) ++ r))) = p := by unfold pasD; rw [e1, e2, e3, unz_zig]
        have f4 : rstD (uintL g ++ (uintL (zig h) ++ (uintL (zig p) ++ r))) = r := by unfold rstD; rw [e1, e2, e3]
        have u3 : u8s (uintL (zig p) ++ r) := u8s_app (uintL_u8 _) hr
        have u2 : u8s (uintL (zig h) ++ (uintL (zig p) ++ r)) := u8s_app (uintL_u8 _) u3
        have u1 : u8s (uintL g ++ (uintL (zig h) ++ (uintL (zig p) ++ r))) := u8s_app (uintL_u8 _) u2
        have l3 : (uintL (zig p) ++ r).length ≤ 100000 := by simp only [List.length_append] at hl ⊢; omega
        have l2 : (uintL (zig h) ++ (uintL (zig p) ++ r)).length ≤ 100000 := by simp only [List.length_append] at hl ⊢; omega
        have w1 : IntKind.i64.wrap (g : Int) = g := wrapI (by omega) (by omega)
        have w2 : IntKind.i64.wrap (next + (g : Int)) = next + g := wrapI (by omega) (by omega)
        have w3 : IntKind.i64.wrap (next + (g : Int) + 1) = next + g + 1 := wrapI (by omega) (by omega)
        have m1 := tmod16 (x := next + (g : Int)) (by omega)
        have m2 := tdiv16 (x := next + (g : Int)) (by omega)
        have d1 : (256 ≤ (g : Int)) = False := by simp; omega
        have d2 : (256 ≤ next + (g : Int)) = False := by simp; omega
        have k1 : winB h 1099511627776 = true := by unfold winB; rw [decide_eq_true_eq]; omega
        have k2 : winB p 1099511627776 = true := by unfold winB; rw [decide_eq_true_eq]; omega
        have k3 : winB (16 * t_X + (next + (g : Int)) % 16) 16384 = true := by unfold winB; rw [decide_eq_true_eq]; omega
        have k4 : winB (16 * t_Y + (next + (g : Int)) / 16) 16384 = true := by unfold winB; rw [decide_eq_true_eq]; omega
        have w4 : IntKind.i64.wrap (16 * t_X) = 16 * t_X := wrapI (by omega) (by omega)
        have w5 : IntKind.i64.wrap (16 * t_Y) = 16 * t_Y := wrapI (by omega) (by omega)
        have w6 : IntKind.i64.wrap ((next + (g : Int)) / 16) = (next + g) / 16 := wrapI (by omega) (by omega)
        have w7 : IntKind.i64.wrap (16 * t_X + (next + (g : Int)) % 16) = 16 * t_X + (next + g) % 16 := wrapI (by omega) (by omega)
        have w8 : IntKind.i64.wrap (16 * t_Y + (next + (g : Int)) / 16) = 16 * t_Y + (next + g) / 16 := wrapI (by omega) (by omega)
        simp (maxSteps := 9999999) only [x57, push_cast, simprocAttr, g101, g102, g56, e1, e2, e3, f1, f2, f3, f4, u1, u2, u3, l2, l3, hl, unz_zig, w1, w2, w3, w4, w5, w6, w7, w8, m1, m2, d1, d2, k1, k2, k3, k4, zh, zp]
        exact fun a b => hz.elim (fun k => k a) (fun k => k b)
      · cases hg_
    · cases hg_
  · cases hg_
end Go.Proofs.YtgpbokembopapaaGreat
namespace Go.Proofs.YtgpbokembopapaaGreat
open Go.Sx Go.Way
section
open Go.Sx
variable {P : Program}
def stoConE {α : Type} (En : Enc α) : Con := fun args E n => match args with
  | [.c (.n i), .c (.v (.int .i64 s)), .c (.n j)] => match E i with
    | some (.dm k l) => match E j with
      | some (.own m sz f ty) => some (.d (0 ≤ s ∧ s < l.length ∧ isRow En m sz f ∧ sz = En.sz) (fun _ => True) (fun _ => .t []) (fun G => [(i, .dm k (putDM l s.toNat (G 0 0) (some (some ty, m, En.sz, rowG En (decL En m f))))), (j, .dead)]) n)
      | _ => none
    | _ => none
  | _ => none
theorem cok_stoE {α : Type} {En : Enc α} {t : Nat} : COk P (vN t 5) (stoConE En) := by
  intro args E n hargs hE
  unfold stoConE
  split
  · rename_i i s j
    split
    · rename_i k l hEi
      split
      · rename_i m sz f ty hEj
        have hij : j ≠ i := by rintro rfl; rw [hEj] at hEi; cases hEi
        have e1 : upd [(j, Ent.own m En.sz (rowF En (decL En m f)) ty)] E i = some (.dm k l) := by rw [upd_one, if_neg hij]; exact hEi
        have e2 : upd [(j, Ent.own m En.sz (rowF En (decL En m f)) ty)] E j = some (.own m En.sz (rowF En (decL En m f)) ty) := by rw [upd_one, if_pos rfl]
        have hE2 : ∀ q e, upd [(j, Ent.own m En.sz (rowF En (decL En m f)) ty)] E q = some e → q < n ∧ e.sc (upto n) := by
          intro q e hq
          rw [upd_one] at hq
          by_cases h : j = q
          · subst h; rw [if_pos rfl] at hq; cases hq; exact ⟨(hE _ _ hEj).1, rowF_sc _ _⟩
          · rw [if_neg h] at hq; exact hE _ _ hq
        have hc := cok_sto (P := P) (t := t) [.c (.n i), .c (.v (.int .i64 s)), .c (.n j)] (upd [(j, Ent.own m En.sz (rowF En (decL En m f)) ty)] E) n hargs hE2
        simp only [stoCon, e1, e2] at hc
        rintro ⟨hs0, hs1, hrow, rfl⟩
        obtain ⟨a1, a2, a3, a4⟩ := hc ⟨hs0, hs1, (clF_rowF _ _ _).2 trivial⟩
        have hupd : ∀ L : List (Nat × Ent), (lk L j).isSome = true → upd L (upd [(j, Ent.own m En.sz (rowF En (decL En m f)) ty)] E) = upd L E := by
          intro L hL
          funext q
          unfold upd
          cases hq : lk L q with
          | some e => rfl
          | none =>
            simp only
            have hne : j ≠ q := by rintro rfl; rw [hq] at hL; cases hL
            have := upd_one j (Ent.own m En.sz (rowF En (decL En m f)) ty) E q
            unfold upd at this
            rw [this, if_neg hne]
        refine ⟨Nat.le_refl _, fun G q h1 hq h3 => ⟨tNil_sc, fun p e h => ?_⟩, fun G p e h => ?_, fun base M r w hh => ?_⟩
        · rcases lk_two2 h with ⟨rfl, rfl⟩ | ⟨rfl, rfl⟩
          · exact ⟨(hq _ _ hEi).1, trivial⟩
          · exact ⟨(hq _ _ hEj).1, trivial⟩
        · rcases lk_two2 h with ⟨rfl, rfl⟩ | ⟨rfl, rfl⟩
          · exact .inl (by rw [hEi]; simp)
          · exact .inl (by rw [hEj]; simp)
        · have hh' : HeapRel base M r (upd [(j, Ent.own m En.sz (rowF En (decL En m f)) ty)] E) w := by
            refine hh.turn hEj rfl (Turn.same _ _) ?_
            obtain ⟨hm, hr⟩ := hh.ent j _ hEj
            refine ⟨hm, ?_⟩
            rcases hr with ⟨b, o, cap, cur, h1, h2, h3, h4, h5, h6⟩ | hr
            · exact .inl ⟨b, o, cap, cur, h1, h2, h3, h4, h5, fun e q he hq => by rw [h6 e q he hq, hrow.2 e q he hq]⟩
            · exact .inr hr
          have := a4 base M r w hh'
          refine this.mono ?_
          rintro e w' ⟨G, r', p1, p2, p3, p4⟩
          refine ⟨G, r', p1, p2, p3, ?_⟩
          rw [hupd _ (by unfold lk; split <;> first | rfl | (unfold lk; rw [if_pos rfl]; rfl))] at p4
          exact p4
      · trivial
    · trivial
  · trivial
end
structure PE where
  x : Int
  y : Int
  v : Value
  l : List EE
def ePr : MEnc PE where
  k := true
  enc := fun p => ⟨p.x, p.y, p.v, some (some 119, p.l.length, 4, rowG eE p.l)⟩
  dec := fun d => ⟨d.x, d.y, d.val, match d.row with | some (_, n, _, g) => decL eE n (fun a b => .v (g a b)) | none => []⟩
  de := fun p => by
    show PE.mk p.x p.y p.v (decL eE p.l.length (vF (rowG eE p.l))) = p
    rw [rowG_f, decL_rowF]
def ePz : MEnc PE where
  k := true
  enc := fun p => ⟨p.x, p.y, p.v, some (none, p.l.length, 4, rowG eE p.l)⟩
  dec := fun d => ⟨d.x, d.y, d.val, match d.row with | some (_, n, _, g) => decL eE n (fun a b => .v (g a b)) | none => []⟩
  de := fun p => by
    show PE.mk p.x p.y p.v (decL eE p.l.length (vF (rowG eE p.l))) = p
    rw [rowG_f, decL_rowF]
theorem mapF_frz (ps : List PE) : mapF ePz ps = (mapF ePr ps).map DM.frz := by
  unfold mapF
  rw [List.map_map]
  exact List.map_congr_left fun p _ => rfl
def findP : List PE → Int → Int → Option PE
  | [], _, _ => none
  | p :: ps, x, y => if p.x = x ∧ p.y = y then some p else findP ps x y
theorem sameP (M : MEnc PE) (hx : ∀ p, (M.enc p).x = p.x ∧ (M.enc p).y = p.y) (p : PE) (x y : Int) : sameDM true (M.enc p) x y = decide (p.x = x ∧ p.y = y) := by
  unfold sameDM; rw [(hx p).1, (hx p).2, Bool.eq_iff_iff]; simp
theorem findDM_P (M : MEnc PE) (hx : ∀ p, (M.enc p).x = p.x ∧ (M.enc p).y = p.y) (x y : Int) : ∀ L : List PE, findDM true (mapF M L) x y = (findP L x y).map M.enc
  | [] => rfl
  | e :: L => by
    have hs := sameP M hx e x y
    show (if sameDM true (M.enc e) x y = true then some (M.enc e) else findDM true (mapF M L) x y) = _
    unfold findP
    by_cases g : e.x = x ∧ e.y = y
    · rw [decide_eq_true g] at hs; rw [if_pos hs, if_pos g]; rfl
    · rw [decide_eq_false g] at hs; rw [if_neg (by rw [hs]; simp), if_neg g]; exact findDM_P M hx x y L
abbrev PS := Int × Int × List EE
def putS : List PS → Int → Int → EE → List PS
  | [], x, y, e => [(x, y, [e])]
  | p :: l, x, y, e => if p.1 = x ∧ p.2.1 = y then (p.1, p.2.1, p.2.2 ++ [e]) :: l else p :: putS l x y e
def shP (ps : List PE) : List PS := ps.map fun p => (p.x, p.y, p.l)
def partsL (A : List EE) : List PS := A.foldl (fun l e => putS l (e.X / 16) (e.Y / 16) e) []
def ordL (A : List EE) : List CC := (partsL A).map fun p => ⟨p.1, p.2.1⟩
theorem partsL_take {A : List EE} {k : Nat} (h : k < A.length) : partsL (A.take (k + 1)) = putS (partsL (A.take k)) ((A.getD k eE.dflt).X / 16) ((A.getD k eE.dflt).Y / 16) (A.getD k eE.dflt) := by
  unfold partsL
  rw [List.take_add_one, List.getElem?_eq_getElem h, List.foldl_append]
  simp only [Option.toList_some, List.foldl_cons, List.foldl_nil, List.getD_eq_getElem?_getD, List.getElem?_eq_getElem h, Option.getD_some]
def putP : List PE → Int → Int → Value → EE → List PE
  | [], x, y, V, e => [⟨x, y, V, [e]⟩]
  | p :: l, x, y, V, e => if p.x = x ∧ p.y = y then ⟨p.x, p.y, V, p.l ++ [e]⟩ :: l else p :: putP l x y V e
theorem shP_put (x y : Int) (V : Value) (e : EE) : ∀ ps : List PE, shP (putP ps x y V e) = putS (shP ps) x y e
  | [] => rfl
  | p :: ps => by
    unfold putP
    show _ = putS ((p.x, p.y, p.l) :: shP ps) x y e
    unfold putS
    by_cases g : p.x = x ∧ p.y = y
    · rw [if_pos g, if_pos g]; rfl
    · rw [if_neg g, if_neg g]
      show (p.x, p.y, p.l) :: shP (putP ps x y V e) = _
      rw [shP_put x y V e ps]
theorem putP_new (x y : Int) (V : Value) (e : EE) : ∀ {ps : List PE}, findP ps x y = none → mapF ePr (putP ps x y V e) = putDM (mapF ePr ps ++ [⟨x, y, .slice none 0 0, none⟩]) ps.length V (some (some 119, 1, 4, rowG eE [e]))
  | [], _ => rfl
  | p :: ps, h => by
    unfold findP at h
    split at h
    · cases h
    · rename_i g
      unfold putP
      rw [if_neg g]
      show ePr.enc p :: mapF ePr (putP ps x y V e) = ePr.enc p :: putDM _ _ _ _
      rw [putP_new x y V e h]
      rfl
theorem putP_old (x y : Int) (V : Value) (e q : EE) : ∀ {ps : List PE} {p : PE}, findP ps x y = some p → mapF ePr (putP ps x y V e) = putDM (takDM (mapF ePr ps) (idxDM true (mapF ePr ps) x y)) (idxDM true (mapF ePr ps) x y) V (some (some 119, (p.l ++ [e]).length, 4, rowG eE (p.l ++ [e]))) ∧ idxDM true (mapF ePr ps) x y < ps.length
  | [], _, h => by cases h
  | a :: ps, p, h => by
    have hs := sameP ePr (fun _ => ⟨rfl, rfl⟩) a x y
    unfold findP at h
    split at h
    · rename_i g
      cases h
      rw [decide_eq_true g] at hs
      have hi : idxDM true (mapF ePr (a :: ps)) x y = 0 := by
        show (if sameDM true (ePr.enc a) x y = true then 0 else idxDM true (mapF ePr ps) x y + 1) = _
        rw [if_pos hs]
      rw [hi]
      unfold putP
      rw [if_pos g]
      exact ⟨rfl, by simp⟩
    · rename_i g
      rw [decide_eq_false g] at hs
      have hi : idxDM true (mapF ePr (a :: ps)) x y = idxDM true (mapF ePr ps) x y + 1 := by
        show (if sameDM true (ePr.enc a) x y = true then 0 else idxDM true (mapF ePr ps) x y + 1) = _
        rw [if_neg (by rw [hs]; simp)]
      obtain ⟨h1, h2⟩ := putP_old x y V e q h
      rw [hi]
      unfold putP
      rw [if_neg g]
      refine ⟨?_, by simp only [List.length_cons]; omega⟩
      show ePr.enc a :: mapF ePr (putP ps x y V e) = ePr.enc a :: putDM _ _ _ _
      rw [h1]
      rfl
theorem ePr_row (p : PE) : (ePr.enc p).row = some (some 119, p.l.length, 4, rowG eE p.l) := rfl
theorem ePr_val (p : PE) : (ePr.enc p).val = p.v := rfl
theorem ePr_k : ePr.k = true := rfl
theorem ePz_row (p : PE) : (ePz.enc p).row = some (none, p.l.length, 4, rowG eE p.l) := rfl
theorem ePz_k : ePz.k = true := rfl
attribute [push_cast] ePr_row ePr_val ePr_k ePz_row ePz_k
structure TT where
  x : Int
  y : Int
  d : List Int
def eTl : DEnc TT where
  sz := 3
  cell := fun x j => match j with
    | 0 => some (.int .i64 x.x)
    | 1 => some (.int .i64 x.y)
    | _ => none
  inr := fun x j => match j with
    | 2 => inL eU8 x.d
    | _ => none
  dflt := ⟨0, 0, []⟩
  dec := fun f c => ⟨intV (f 0), intV (f 1), decO eU8 (c 2)⟩
  de := by
    intro x f c h1 h2
    have a0 := h1 0 _ (by decide) rfl
    have a1 := h1 1 _ (by decide) rfl
    have a2 := decO_in (h2 2 (by decide))
    simp only [a0, a1, a2, intV]
theorem eTl_sz : eTl.sz = 3 := rfl
theorem eTl_0 (L : List TT) (V : Nat → Nat → Value) (e : Nat) : deepF eTl L V e 0 = .int .i64 (L.getD e eTl.dflt).x := rfl
theorem eTl_1 (L : List TT) (V : Nat → Nat → Value) (e : Nat) : deepF eTl L V e 1 = .int .i64 (L.getD e eTl.dflt).y := rfl
theorem eTl_2 (L : List TT) (e : Nat) : deepC eTl L e 2 = some ((L.getD e eTl.dflt).d.length, 1, rowG eU8 (L.getD e eTl.dflt).d) := rfl
attribute [push_cast] eTl_sz eTl_0 eTl_1 eTl_2
def encP : Int → List EE → List Int
  | _, [] => []
  | n, e :: l => uintL (((e.Y % 16) * 16 + e.X % 16 - n).toNat) ++ (uintL (zig e.H) ++ (uintL (zig e.P) ++ encP ((e.Y % 16) * 16 + e.X % 16 + 1) l))
def partE (A : List EE) (c : CC) : List EE := A.filter fun e => decide (e.X / 16 = c.X ∧ e.Y / 16 = c.Y)
def packL (A : List EE) : List TT := (srtL cmpCC (ordL A)).map fun c => ⟨c.X, c.Y, encP 0 (partE A c)⟩
def findS : List PS → Int → Int → Option (List EE)
  | [], _, _ => none
  | p :: l, x, y => if p.1 = x ∧ p.2.1 = y then some p.2.2 else findS l x y
theorem findP_S (x y : Int) : ∀ ps : List PE, findS (shP ps) x y = (findP ps x y).map PE.l
  | [] => rfl
  | p :: ps => by
    show (if p.x = x ∧ p.y = y then some p.l else findS (shP ps) x y) = (findP (p :: ps) x y).map PE.l
    unfold findP
    split
    · rfl
    · exact findP_S x y ps
theorem findS_put (x y : Int) (e : EE) (a b : Int) : ∀ l : List PS, findS (putS l x y e) a b = if a = x ∧ b = y then some ((findS l x y).getD [] ++ [e]) else findS l a b
  | [] => by
    unfold putS findS
    by_cases g : a = x ∧ b = y
    · rw [if_pos g, if_pos ⟨g.1.symm, g.2.symm⟩]; rfl
    · rw [if_neg g, if_neg (fun h => g ⟨h.1.symm, h.2.symm⟩)]; rfl
  | p :: l => by
    have ih := findS_put x y e a b l
    unfold putS
    by_cases g : p.1 = x ∧ p.2.1 = y
    · rw [if_pos g]
      simp only [findS]
      rw [if_pos g]
      by_cases g2 : a = x ∧ b = y
      · rw [if_pos g2, if_pos ⟨g.1.trans g2.1.symm, g.2.trans g2.2.symm⟩]; rfl
      · rw [if_neg g2, if_neg (fun h => g2 ⟨h.1.symm.trans g.1, h.2.symm.trans g.2⟩), if_neg (fun h => g2 ⟨h.1.symm.trans g.1, h.2.symm.trans g.2⟩)]
    · rw [if_neg g]
      simp only [findS]
      rw [if_neg g, ih]
      by_cases g2 : a = x ∧ b = y
      · rw [if_pos g2, if_pos g2, if_neg (fun h => g ⟨h.1.trans g2.1, h.2.trans g2.2⟩)]
      · rw [if_neg g2, if_neg g2]
def keyS (p : PS) : CC := ⟨p.1, p.2.1⟩
theorem putS_keys (x y : Int) (e : EE) : ∀ l : List PS, (putS l x y e).map keyS = match findS l x y with | some _ => l.map keyS | none => l.map keyS ++ [⟨x, y⟩]
  | [] => rfl
  | p :: l => by
    have ih := putS_keys x y e l
    unfold putS findS
    by_cases g : p.1 = x ∧ p.2.1 = y
    · rw [if_pos g, if_pos g]; rfl
    · rw [if_neg g, if_neg g, List.map_cons, ih]
      cases findS l x y <;> rfl
theorem findS_mem (x y : Int) : ∀ l : List PS, (⟨x, y⟩ : CC) ∈ l.map keyS ↔ findS l x y ≠ none
  | [] => by simp [findS]
  | p :: l => by
    unfold findS
    rw [List.map_cons, List.mem_cons, findS_mem x y l]
    by_cases g : p.1 = x ∧ p.2.1 = y
    · rw [if_pos g]; simp [keyS, g.1, g.2]
    · rw [if_neg g]
      refine ⟨fun h => h.elim (fun e => absurd ⟨(congrArg CC.X e).symm, (congrArg CC.Y e).symm⟩ g) id, .inr⟩
structure PartsOk (l : List PS) (B : List EE) : Prop where
  nd : (l.map keyS).Nodup
  at_ : ∀ x y, findS l x y = if partE B ⟨x, y⟩ = [] then none else some (partE B ⟨x, y⟩)
theorem partE_snoc (B : List EE) (e : EE) (c : CC) : partE (B ++ [e]) c = if e.X / 16 = c.X ∧ e.Y / 16 = c.Y then partE B c ++ [e] else partE B c := by
  unfold partE
  rw [List.filter_append]
  by_cases g : e.X / 16 = c.X ∧ e.Y / 16 = c.Y
  · rw [if_pos g]; simp [g.1, g.2]
  · rw [if_neg g]
    have : [e].filter (fun e => decide (e.X / 16 = c.X ∧ e.Y / 16 = c.Y)) = [] := by
      rw [List.filter_eq_nil_iff]; intro a ha; rw [List.mem_singleton] at ha; subst ha; rw [decide_eq_true_eq]; exact g
    rw [this, List.append_nil]
theorem PartsOk.put {l : List PS} {B : List EE} (h : PartsOk l B) (e : EE) : PartsOk (putS l (e.X / 16) (e.Y / 16) e) (B ++ [e]) := by
  refine ⟨?_, fun x y => ?_⟩
  · rw [putS_keys]
    cases hf : findS l (e.X / 16) (e.Y / 16) with
    | some _ => exact h.nd
    | none =>
      rw [List.nodup_append]
      refine ⟨h.nd, by simp, fun a ha b hb hab => ?_⟩
      rw [List.mem_singleton] at hb
      subst hb; subst hab
      exact (findS_mem _ _ l).1 ha hf
  · rw [findS_put, partE_snoc]
    simp only
    by_cases g : x = e.X / 16 ∧ y = e.Y / 16
    · have g2 : e.X / 16 = x ∧ e.Y / 16 = y := ⟨g.1.symm, g.2.symm⟩
      rw [if_pos g, if_pos g2, if_neg (by simp), g2.1, g2.2, h.at_]
      split
      · rename_i h0; rw [h0]; rfl
      · rfl
    · have g2 : ¬(e.X / 16 = x ∧ e.Y / 16 = y) := fun q => g ⟨q.1.symm, q.2.symm⟩
      rw [if_neg g, if_neg g2, h.at_]
theorem partsOk (A : List EE) : ∀ k, k ≤ A.length → PartsOk (partsL (A.take k)) (A.take k)
  | 0, _ => ⟨List.nodup_nil, fun x y => by simp [partsL, findS, partE]⟩
  | k + 1, hk => by
    have := (partsOk A k (by omega)).put (A.getD k eE.dflt)
    rw [partsL_take (by omega), List.take_add_one, List.getElem?_eq_getElem (show k < A.length by omega)]
    rw [List.getD_eq_getElem?_getD, List.getElem?_eq_getElem (show k < A.length by omega)] at this ⊢
    exact this
theorem ordL_take {A : List EE} {k : Nat} (h : k < A.length) : ordL (A.take (k + 1)) = match findS (partsL (A.take k)) ((A.getD k eE.dflt).X / 16) ((A.getD k eE.dflt).Y / 16) with | some _ => ordL (A.take k) | none => ordL (A.take k) ++ [⟨(A.getD k eE.dflt).X / 16, (A.getD k eE.dflt).Y / 16⟩] := by
  unfold ordL
  rw [partsL_take h]
  exact putS_keys _ _ _ _
theorem ordL_len {A : List EE} : ∀ k, k ≤ A.length → (ordL (A.take k)).length ≤ k
  | 0, _ => by simp [ordL, partsL]
  | k + 1, hk => by
    have := ordL_len (A := A) k (by omega)
    rw [ordL_take (by omega)]
    split
    · omega
    · simp only [List.length_append, List.length_cons, List.length_nil]; omega
theorem cmpCC_zero (a b : CC) : cmpCC a b = 0 ↔ a = b := by
  have h := cmpC_cases a.X a.Y b.X b.Y
  unfold cmpCC
  constructor
  · intro h0
    have : a.X = b.X ∧ a.Y = b.Y := by omega
    cases a; cases b; simp only at this; rw [this.1, this.2]
  · rintro rfl; omega
theorem ordL_diff (A : List EE) : diffL cmpCC (ordL A) := by
  have h := (partsOk A A.length (Nat.le_refl _)).nd
  rw [List.take_length] at h
  unfold diffL
  exact List.Pairwise.imp (fun {a b} hab h0 => hab ((cmpCC_zero a b).1 h0)) h
theorem okE_good {L : List EE} {k : Nat} (h : okE L k = true) : (-16384 ≤ (L.getD k eE.dflt).X ∧ (L.getD k eE.dflt).X ≤ 16384) ∧ -16384 ≤ (L.getD k eE.dflt).Y ∧ (L.getD k eE.dflt).Y ≤ 16384 := by
  unfold okE goodE winB at h
  simp only [Bool.and_eq_true, decide_eq_true_eq] at h
  exact ⟨h.1.1.2, h.1.2⟩
theorem takDM_len : ∀ (l : List DM) (n : Nat), (takDM l n).length = l.length
  | [], _ => rfl
  | d :: l, 0 => rfl
  | d :: l, n + 1 => by show (takDM l n).length + 1 = l.length + 1; rw [takDM_len l n]
theorem pushE (L : List EE) (x : EE) : isRow eE (L.length + 1) 4 (catF L.length (rowF eE L) (litF [.v (.int .i64 x.X), .v (.int .i64 x.Y), .v (.int .i64 x.H), .v (.int .i64 x.P)] 4)) ∧ decL eE (L.length + 1) (catF L.length (rowF eE L) (litF [.v (.int .i64 x.X), .v (.int .i64 x.Y), .v (.int .i64 x.H), .v (.int .i64 x.P)] 4)) = L ++ [x] := by
  have h := rowEq_push1 eE L x (sz := 4) (τ := id) (fun _ => rfl)
  have hn : L.length + 1 = (L ++ [x]).length := by simp
  have h2 : ∀ e j, e < L.length + 1 → j < eE.sz → catF L.length (rowF eE L) (litF (eE.enc x) 4) e j = rowF eE (L ++ [x]) e j := fun e j he hj => h e j he hj
  exact ⟨isRow_of hn (.inr rfl) h2, decL_eq hn h2⟩
theorem partE_len (B : List EE) (c : CC) : (partE B c).length ≤ B.length := List.length_filter_le _ _
theorem findS_part {A : List EE} {k : Nat} (hk : k ≤ A.length) {x y : Int} {l : List EE} (h : findS (partsL (A.take k)) x y = some l) : 0 < l.length ∧ l.length ≤ k := by
  rw [(partsOk A k hk).at_] at h
  split at h
  · cases h
  · rename_i hne
    cases h
    refine ⟨List.length_pos_iff.2 hne, Nat.le_trans (partE_len _ _) ?_⟩
    rw [List.length_take]; omega
theorem part_at {A : List EE} {ps : List PE} (hps : shP ps = partsL A) {c : CC} (hc : c ∈ ordL A) : ∃ p, findP ps c.X c.Y = some p ∧ p.l = partE A c ∧ partE A c ≠ [] := by
  have ho := partsOk A A.length (Nat.le_refl _)
  rw [List.take_length] at ho
  have h1 := (findS_mem c.X c.Y (partsL A)).1 hc
  have h2 := findP_S c.X c.Y ps
  rw [hps] at h2
  rw [ho.at_] at h1 h2
  split at h1
  · exact absurd rfl h1
  · rename_i hne
    rw [if_neg hne] at h2
    cases hf : findP ps c.X c.Y with
    | none => rw [hf] at h2; cases h2
    | some p => rw [hf] at h2; exact ⟨p, rfl, (Option.some.inj h2).symm, hne⟩
def tilesO (A : List EE) (O : List CC) : List TT := O.map fun c => ⟨c.X, c.Y, encP 0 (partE A c)⟩
theorem tilesO_take (A : List EE) {O : List CC} {k : Nat} (h : k < O.length) : tilesO A (O.take (k + 1)) = tilesO A (O.take k) ++ [⟨(O.getD k eC.dflt).X, (O.getD k eC.dflt).Y, encP 0 (partE A (O.getD k eC.dflt))⟩] := by
  unfold tilesO
  rw [List.take_add_one, List.getElem?_eq_getElem h, List.map_append]
  simp only [Option.toList_some, List.map_cons, List.map_nil, List.getD_eq_getElem?_getD, List.getElem?_eq_getElem h, Option.getD_some]
theorem tilesO_len (A : List EE) {O : List CC} {k : Nat} (h : k ≤ O.length) : (tilesO A (O.take k)).length = k := by
  unfold tilesO; rw [List.length_map, List.length_take]; omega
theorem sort_len (A : List EE) : (srtL cmpCC (ordL A)).length = (ordL A).length := srtL_len _
def numE (e : EE) : Int := (e.Y % 16) * 16 + e.X % 16
def nxtE (A : List EE) : Int := match A.getLast? with | some e => numE e + 1 | none => 0
theorem encP_snoc (e : EE) : ∀ (l : List EE) (n : Int), encP n (l ++ [e]) = encP n l ++ (uintL ((numE e - (match l.getLast? with | some x => numE x + 1 | none => n)).toNat) ++ (uintL (zig e.H) ++ uintL (zig e.P)))
  | [], n => by simp [encP, numE]
  | a :: l, n => by
    have ih := encP_snoc e l ((a.Y % 16) * 16 + a.X % 16 + 1)
    simp only [List.cons_append, encP]
    rw [ih]
    cases l with
    | nil => simp [numE]
    | cons b l =>
      have hz : (b :: l).getLast? = some ((b :: l).getLast (by simp)) := List.getLast?_eq_some_getLast _
      simp [List.getLast?_cons_cons, List.append_assoc, hz]
structure PartOk (P : List EE) : Prop where
  up : P.Pairwise fun a b => numE a < numE b
  cnt : ∀ e ∈ P, (-1099511627776 ≤ e.H ∧ e.H ≤ 1099511627776) ∧ -1099511627776 ≤ e.P ∧ e.P ≤ 1099511627776
  at_ : ∀ e ∈ P, (-16384 ≤ e.X ∧ e.X ≤ 16384) ∧ -16384 ≤ e.Y ∧ e.Y ≤ 16384
theorem numE_bd (e : EE) : 0 ≤ numE e ∧ numE e ≤ 255 := by unfold numE; omega
theorem valE_up {A : List EE} (h : valE A = true) : A.Pairwise fun a b => cmpE a b < 0 := by
  obtain ⟨_, hall⟩ := valE_get h
  have step : ∀ i, 0 < i → i < A.length → cmpE (A.getD (i - 1) eE.dflt) (A.getD i eE.dflt) < 0 := by
    intro i h0 hi
    have := hall i hi
    unfold okE at this
    simp only [Bool.and_eq_true, Bool.or_eq_true, decide_eq_true_eq] at this
    rcases this.2 with g | g
    · omega
    · exact g
  rw [List.pairwise_iff_getElem]
  intro i j hi hj hij
  obtain ⟨d, rfl⟩ : ∃ d, j = i + 1 + d := ⟨j - (i + 1), by omega⟩
  clear hij
  have gd : ∀ k (h : k < A.length), A.getD k eE.dflt = A[k] := fun k h => by rw [List.getD_eq_getElem?_getD, List.getElem?_eq_getElem h]; rfl
  induction d with
  | zero =>
    have := step (i + 1) (by omega) hj
    rw [gd _ hj, gd _ (by omega)] at this
    exact this
  | succ d ih =>
    have h1 := ih (by omega)
    have h2 := step (i + 1 + (d + 1)) (by omega) hj
    rw [gd _ hj, gd _ (by omega)] at h2
    have e : i + 1 + (d + 1) - 1 = i + 1 + d := by omega
    simp only [e] at h2
    unfold cmpE at *
    have a1 := cmpC_cases A[i].X A[i].Y A[i + 1 + d].X A[i + 1 + d].Y
    have a2 := cmpC_cases A[i + 1 + d].X A[i + 1 + d].Y A[i + 1 + (d + 1)].X A[i + 1 + (d + 1)].Y
    have a3 := cmpC_cases A[i].X A[i].Y A[i + 1 + (d + 1)].X A[i + 1 + (d + 1)].Y
    omega
theorem partE_ok {A : List EE} (h : valE A = true) (c : CC) : PartOk (partE A c) := by
  obtain ⟨_, hall⟩ := valE_get h
  have hmem : ∀ e ∈ A, ∃ k, k < A.length ∧ A.getD k eE.dflt = e := by
    intro e he
    obtain ⟨i, hi, rfl⟩ := List.getElem_of_mem he
    exact ⟨i, hi, by rw [List.getD_eq_getElem?_getD, List.getElem?_eq_getElem hi]; rfl⟩
  refine ⟨?_, fun e he => ?_, fun e he => ?_⟩
  · have h1 := (valE_up h).filter (fun e => decide (e.X / 16 = c.X ∧ e.Y / 16 = c.Y))
    refine List.Pairwise.imp_of_mem (fun {a b} ha hb hab => ?_) h1
    have q1 := (List.mem_filter.1 ha).2
    have q2 := (List.mem_filter.1 hb).2
    rw [decide_eq_true_eq] at q1 q2
    unfold cmpE at hab
    have := cmpC_cases a.X a.Y b.X b.Y
    unfold numE
    omega
  · obtain ⟨k, hk, rfl⟩ := hmem e (List.mem_filter.1 he).1
    have := okE_cnt (hall k hk)
    exact this
  · obtain ⟨k, hk, rfl⟩ := hmem e (List.mem_filter.1 he).1
    exact okE_good (hall k hk)
theorem nxtE_le {P : List EE} (h : PartOk P) {i : Nat} (hi : i < P.length) : 0 ≤ nxtE (P.take i) ∧ nxtE (P.take i) ≤ numE (P.getD i eE.dflt) := by
  unfold nxtE
  cases hg : (P.take i).getLast? with
  | none => have := numE_bd (P.getD i eE.dflt); simp only; omega
  | some x =>
    simp only
    have hx : x ∈ P.take i := List.mem_of_getLast? hg
    have hb := numE_bd x
    obtain ⟨j, hj, rfl⟩ := List.getElem_of_mem hx
    rw [List.length_take] at hj
    have := List.pairwise_iff_getElem.1 h.up j i (by omega) hi (by omega)
    rw [List.getElem_take] at hb ⊢
    rw [List.getD_eq_getElem?_getD, List.getElem?_eq_getElem hi, Option.getD_some]
    omega
theorem nxtE_snoc {P : List EE} {i : Nat} (hi : i < P.length) : nxtE (P.take (i + 1)) = numE (P.getD i eE.dflt) + 1 := by
  unfold nxtE
  have e : (P.take (i + 1)).getLast? = some P[i] := by
    rw [List.take_add_one, List.getElem?_eq_getElem hi]; exact List.getLast?_concat
  rw [e, List.getD_eq_getElem?_getD, List.getElem?_eq_getElem hi]
  rfl
theorem encP_step {P : List EE} {i : Nat} (hi : i < P.length) : encP 0 (P.take (i + 1)) = encP 0 (P.take i) ++ (uintL ((numE (P.getD i eE.dflt) - nxtE (P.take i)).toNat) ++ (uintL (zig (P.getD i eE.dflt).H) ++ uintL (zig (P.getD i eE.dflt).P))) := by
  rw [List.take_add_one, List.getElem?_eq_getElem hi, List.getD_eq_getElem?_getD, List.getElem?_eq_getElem hi]
  simp only [Option.toList_some, Option.getD_some]
  rw [encP_snoc]
  rfl
theorem encP_bd {P : List EE} (h : PartOk P) : ∀ i, i ≤ P.length → (encP 0 (P.take i)).length ≤ 30 * i
  | 0, _ => by simp [encP]
  | i + 1, hi => by
    have ih := encP_bd h i (by omega)
    have hm := getE_mem (L := P) (k := i) (by omega)
    have hc := h.cnt _ hm
    have hb := numE_bd (P.getD i eE.dflt)
    have hn := nxtE_le h (i := i) (by omega)
    rw [encP_step (by omega)]
    have z1 := uintL_10 (n := (numE (P.getD i eE.dflt) - nxtE (P.take i)).toNat) (by omega)
    have z2 := uintL_10 (n := zig (P.getD i eE.dflt).H) (by have := zig_lt hc.1; omega)
    have z3 := uintL_10 (n := zig (P.getD i eE.dflt).P) (by have := zig_lt hc.2; omega)
    simp only [List.length_append]
    omega
theorem app4 {A B C D L : List Int} {b : Bnd} (h : L = A ++ (B ++ (C ++ D))) : A.length + B.length + C.length + D.length = L.length ∧ rowEq (A.length + B.length + C.length + D.length) 1 (catF (A.length + B.length + C.length) (catF (A.length + B.length) (catF A.length (rowF eU8 A) (rowF eU8 B)) (rowF eU8 C)) (rowF eU8 D)) (rowF eU8 L) (SC.sub b) := by
  have h2 : L = ((A ++ B) ++ C) ++ D := by rw [h]; simp
  refine ⟨by rw [h2]; simp only [List.length_append], fun e j he hj => ?_⟩
  rw [rowF_sub, h2]
  rw [← catF_at eU8 ((A ++ B) ++ C) D (e := e) (by simp only [List.length_append]; omega)]
  unfold catF
  simp only [List.length_append]
  by_cases h3 : e < A.length + B.length + C.length
  · rw [if_pos h3, if_pos h3, ← catF_at eU8 (A ++ B) C (e := e) (by simp only [List.length_append]; omega)]
    unfold catF
    simp only [List.length_append]
    by_cases h4 : e < A.length + B.length
    · rw [if_pos h4, if_pos h4, ← catF_at eU8 A B (e := e) (by omega)]
      rfl
    · rw [if_neg h4, if_neg h4]
  · rw [if_neg h3, if_neg h3]
theorem push_til {E : Nat → Option Ent} {x : TT} {c : SC} (h : cEq (mrg1 E c) (inL eU8 x.d)) (i : Nat) (hi : i < 1) : pushC eTl E ([x].getD i eTl.dflt) (litF [.v (.int .i64 x.x), .v (.int .i64 x.y), c] 3 i) := by
  obtain rfl : i = 0 := by omega
  intro j hj
  have hj : j < 3 := hj
  rcases (by omega : j = 0 ∨ j = 1 ∨ j = 2) with rfl | rfl | rfl
  · exact ⟨rfl, trivial⟩
  · exact ⟨rfl, trivial⟩
  · exact ⟨trivial, h⟩
def x53L0 : XC := (.seq (.reg false [O2 22 (.bin .lss) 21 20]) (.seq (.cond (.t 22) .skip (.exit 0)) (.seq (.block 1 (.seq (.reg false [O2 23 (.ixS 4) 19 21, O1 24 (.loadN 4) 23, ⟨(some 7), (.alloc 119 [(iV 0), (iV 0), (iV 0), (iV 0)]), [], none⟩, ⟨none, (.store 4), [(.t 7), (.t 24)], none⟩]) (.seq (.reg false [O1 26 (.fld 0) 7, O1 27 (.loadN 2) 26, O1 28 (.call 97) 27, O1 25 .mv 28, O1 29 (.ext 0) 25, O1 30 (.ext 1) 25, ⟨(some 8), (.alloc 109 [(iV 0), (iV 0)]), [], none⟩, ⟨none, (.store 2), [(.t 8), (.t 29)], none⟩, O1 9 .mv 30]) (.seq (.seq (.reg false [O1 31 .mv 5, O1 32 (.loadN 2) 8, O2 33 (.call 1051137) 31 32, O1 34 (.isnil false) 33]) (.cond (.t 34) (.reg false [O1 35 .mv 4, O1 36 (.loadN 2) 8, ⟨(some 37), (.slit 109 1 2 [(iV 0), (iV 0)] [(0, 2)]), [(.t 36)], none⟩, O2 38 (.app 109 2 16) 35 37, O1 4 .mv 38]) .skip)) (.reg false [O1 39 .mv 5, O1 40 (.loadN 2) 8, O1 42 (.loadN 4) 7, ⟨(some 43), (.slit 119 1 4 [(iV 0), (iV 0), (iV 0), (iV 0)] [(0, 4)]), [(.t 42)], none⟩, O2 44 (.call 1051140) 39 40, O1 41 (.ext 0) 44, O2 45 (.app 119 4 32) 41 43, O1 46 (.ext 1) 44, ⟨none, (.call 1051141), [(.t 39), (.t 46), (.t 45)], none⟩]))))) (.reg false [K2 47 (.bin .add) 21 (iV 1), O1 21 .mv 47]))))
def x53L1 : XC := (.seq (.reg false [O2 66 (.bin .lss) 65 64]) (.seq (.cond (.t 66) .skip (.exit 4)) (.seq (.block 5 (.seq (.reg false [O2 67 (.ixS 4) 63 65, O1 68 (.loadN 4) 67, ⟨(some 15), (.alloc 119 [(iV 0), (iV 0), (iV 0), (iV 0)]), [], none⟩, ⟨none, (.store 4), [(.t 15), (.t 68)], none⟩]) (.seq (.reg false [O1 70 (.fld 0) 15, O1 71 (.loadN 2) 70, O1 72 (.call 97) 71, O1 69 .mv 72, O1 73 (.ext 0) 69, O1 74 (.ext 1) 69, ⟨(some 16), (.alloc 109 [(iV 0), (iV 0)]), [], none⟩, ⟨none, (.store 2), [(.t 16), (.t 73)], none⟩, O1 17 .mv 74]) (.seq (.regD [O1 75 (.fld 2) 12, O1 76 .load1 75, O1 77 .mv 17, O1 78 .mv 13, O2 79 (.bin .sub) 77 78, O1 80 (.conv .u64) 79, O1 81 (.call 99) 80, O2 82 (.app 5 1 1) 76 81, O1 83 (.fld 2) 12, ⟨none, (.store 1), [(.t 83), (.t 82)], none⟩] [[], [0], [], [], [2, 3], [4, 2, 3], [5, 4, 2, 3], [1, 0, 6, 5, 4, 2, 3], [0, 1, 2, 3, 4, 5, 6, 7], [8, 0, 1, 2, 3, 4, 5, 6, 7]]) (.seq (.regD [O1 84 (.fld 2) 12, O1 85 .load1 84, O1 86 (.fld 2) 15, O1 87 .load1 86, O1 88 (.call 100) 87, O2 89 (.app 5 1 1) 85 88, O1 90 (.fld 2) 12, ⟨none, (.store 1), [(.t 90), (.t 89)], none⟩] [[], [0], [], [2], [3, 2], [1, 0, 4, 3, 2], [0, 1, 2, 3, 4, 5], [6, 0, 1, 2, 3, 4, 5]]) (.seq (.regD [O1 91 (.fld 2) 12, O1 92 .load1 91, O1 93 (.fld 3) 15, O1 94 .load1 93, O1 95 (.call 100) 94, O2 96 (.app 5 1 1) 92 95, O1 97 (.fld 2) 12, ⟨none, (.store 1), [(.t 97), (.t 96)], none⟩] [[], [0], [], [2], [3, 2], [1, 0, 4, 3, 2], [0, 1, 2, 3, 4, 5], [6, 0, 1, 2, 3, 4, 5]]) (.reg false [O1 98 .mv 17, K2 99 (.bin .add) 98 (iV 1), O1 13 .mv 99]))))))) (.reg false [K2 100 (.bin .add) 65 (iV 1), O1 65 .mv 100]))))
def x53L2 : XC := (.seq (.reg false [O2 53 (.bin .lss) 52 51]) (.seq (.cond (.t 53) .skip (.exit 2)) (.seq (.block 3 (.seq (.reg false [O2 54 (.ixS 2) 50 52, O1 55 (.loadN 2) 54, ⟨(some 11), (.alloc 109 [(iV 0), (iV 0)]), [], none⟩, ⟨none, (.store 2), [(.t 11), (.t 55)], none⟩]) (.seq (.reg false [O1 56 (.fld 0) 11, O1 57 .load1 56, O1 58 (.fld 1) 11, O1 59 .load1 58, ⟨(some 60), (.build [(iV 0), (iV 0), (.slice none 0 0)] [(0, 1), (1, 1)]), [(.t 57), (.t 59)], none⟩, ⟨(some 12), (.alloc 116 [(iV 0), (iV 0), (.slice none 0 0)]), [], none⟩, ⟨none, (.store 3), [(.t 12), (.t 60)], none⟩]) (.seq (.reg false [K1 13 .mv (iV 0)]) (.seq (.cut (.seq (.reg false [O1 61 .mv 5, O1 62 (.loadN 2) 11, O2 63 (.call 1051137) 61 62, O1 64 .lenS 63, K1 65 .mv (iV 0)]) (.block 4 (.loop x53L1)))) (.spl 3 (.reg false [O1 101 .mv 3, O1 102 (.loadN 3) 12, ⟨(some 103), (.slit 116 1 3 [(iV 0), (iV 0), (.slice none 0 0)] [(0, 3)]), [(.t 102)], none⟩, O2 104 (.app 116 3 40) 101 103, O1 3 .mv 104]))))))) (.mrg 3 (.reg false [K2 105 (.bin .add) 52 (iV 1), O1 52 .mv 105])))))
def x53 : XFn := ⟨107, (.seq (.reg false [K1 2 .mv (.slice none 0 0)]) (.seq (.reg false [K1 3 .mv (.slice none 0 0)]) (.seq (.reg false [K1 4 .mv (.slice none 0 0)]) (.seq (.reg false [⟨(some 18), (.call 1051139), [], none⟩, O1 5 .mv 18]) (.seq (.cut (.seq (.reg false [O1 19 .mv 0, O1 20 .lenS 19, K1 21 .mv (iV 0)]) (.block 0 (.loop x53L0)))) (.seq (.reg false [O1 48 .mv 4, ⟨(some 49), (.call 98), [(.t 48), (.k (.func (.func 55) #[] #[]))], none⟩]) (.seq (.seq (.reg false [O1 50 .mv 4, O1 51 .lenS 50, K1 52 .mv (iV 0)]) (.block 2 (.loop x53L2))) (.seq (.reg false [O1 106 .mv 3, O1 2 .mv 106]) .ret)))))))), [(.s 2)]⟩
theorem x53_ok : xfn Tryz.prog Tryz.f53 = some x53.er := by kernel_rfl
theorem mt160 : mapT Tryz.prog 160 = some (true, (.slice none 0 0)) := by kernel_rfl
def g1051137 : Con := lookCon false true (.slice none 0 0)
theorem c1051137 : COk Tryz.prog 1051137 g1051137 := cok_look (t := 160) mt160
def g1051139 : Con := mkmCon true
theorem c1051139 : COk Tryz.prog 1051139 g1051139 := cok_mkm (t := 160) mt160
def g1051140 : Con := entCon true (.slice none 0 0)
theorem c1051140 : COk Tryz.prog 1051140 g1051140 := cok_ent (t := 160) mt160
def g1051141 : Con := stoConE eE
theorem c1051141 : COk Tryz.prog 1051141 g1051141 := cok_stoE (t := 160)
attribute [push_cast] stoConE
noncomputable def g53 : Con := fun args_ E_ nn_ => match args_ with
  | [.c (.n l)] => (match rowOf E_ l with
    | some (l_n, l_s, l_f) => some (.d (isRow eE l_n l_s l_f ∧ valE (decL eE l_n l_f) = true) (fun G_ => True) (fun G_ => .o (.c (.n (nn_ + 0)))) (fun G_ => [((nn_ + 0), .deep (some 116) (packL (decL eE l_n l_f)).length 3 (deepF eTl (packL (decL eE l_n l_f)) G_) (deepC eTl (packL (decL eE l_n l_f))) []), (l, .ro ((decL eE l_n l_f)).length 4 (rowF eE ((decL eE l_n l_f))))]) (nn_ + 1))
    | none => none)
  | _ => none
theorem c53 : COk Tryz.prog 53 g53 := by
  refine cok_g Tryz.func53 x53_ok (by kernel_rfl) (cok_tab (cok_cons c97 (cok_cons c98 (cok_cons c1051137 (cok_cons c1051139 (cok_cons c1051140 (cok_cons c1051141 (cok_cons c99 (cok_cons c100 cok_nil))))))))) ?_
  intro args_ E_ nn_ cr_ hg_
  unfold g53 at hg_
  split at hg_
  · rename_i l
    split at hg_
    · rename_i l_n l_s l_f h_l
      cases hg_
      refine ⟨_, _, _, _, _, rfl, 1, [l], [.c (.n 0)], [(0, .ro (decL eE l_n l_f).length eE.sz (rowF eE (decL eE l_n l_f)))], (fun G_ => .o (.c (.n 1))), (fun G_ => [(1, .deep (some 116) (packL (decL eE l_n l_f)).length 3 (deepF eTl (packL (decL eE l_n l_f)) G_) (deepC eTl (packL (decL eE l_n l_f))) []), (0, .ro ((decL eE l_n l_f)).length 4 (rowF eE ((decL eE l_n l_f))))]), 2, rfl, (fun _ => rfl), (fun _ => by simp only [renE, Ent.ren, renAl, rowF_renf] <;> rfl), rfl, by decide, by simp only [push_cast, Nat.reduceLT, Nat.reduceAdd], by simp only [push_cast, Nat.reduceLT, Nat.reduceAdd], (fun _ => by simp only [push_cast, Nat.reduceLT, Nat.reduceAdd]), (fun _ => by simp only [push_cast, Nat.reduceLT, Nat.reduceAdd]), rfl, ⟨inE0_row h_l, trivial⟩, (fun _ => by simp only [keysNodup, outN, keys] <;> decide), (fun _ => rfl), (fun _ => .inr ⟨.inl rfl, trivial⟩), ?_⟩
      intro hpre hlen
      obtain ⟨i_l, hpre⟩ := hpre
      refine ⟨⟨inE_row h_l i_l, trivial⟩, by simp only [apartE] <;> (first | trivial | (simp [Ent.mut]; done)), ?_⟩
      have z_l := lens_row (E := eE) hlen h_l
      clear i_l
      generalize decL eE l_n l_f = lL at *
      clear h_l
      simp (maxSteps := 9999999) only [x53, push_cast, simprocAttr, g97, g98, g1051137, g1051139, g1051140, g1051141, g99, g100]
      refine vcCut_upd (α := {ps : List PE // shP ps = partsL lL}) [3, 5] 1 (fun s => [(4, .o (.c (.n 2)))]) (fun s => [(2, .own (ordL lL).length 2 (rowF eC (ordL lL)) 109), (1, .dm true (mapF ePz (s.1))), (0, .ro (lL).length 4 (rowF eE (lL)))]) ?_ ?_
      rotate_left
      · simp only [push_cast, simprocAttr, g97, g98, g1051137, g1051139, g1051140, g1051141, g99, g100]
        refine vcLoop_upd (α := {s : Nat × List PE // s.1 ≤ lL.length ∧ shP s.2 = partsL (lL.take s.1)}) [3, 5, 19, 20] 1 (fun s => [(4, .o (.c (.n 2))), (21, .o (.c (.v (.int .i64 (s.1.1 : Nat)))))]) (fun s => [(2, .own (ordL (lL.take s.1.1)).length 2 (rowF eC (ordL (lL.take s.1.1))) 109), (1, .dm true (mapF ePr (s.1.2)))]) (fun s => lL.length - s.1.1) ⟨(0, []), by simp only; omega, rfl⟩ ?_ ?_
        · simp only [push_cast, simprocAttr, g97, g98, g1051137, g1051139, g1051140, g1051141, g99, g100]
          rfl
        rintro ⟨⟨k, ps⟩, hk, hps⟩
        simp only at hk hps
        obtain ⟨hlb, hall⟩ := valE_get hpre
        have hol := ordL_len (A := lL) k hk
        have hd := findDM_P ePr (fun _ => ⟨rfl, rfl⟩) ((lL.getD k eE.dflt).X / 16) ((lL.getD k eE.dflt).Y / 16) ps
        have hfs := findP_S ((lL.getD k eE.dflt).X / 16) ((lL.getD k eE.dflt).Y / 16) ps
        rw [hps] at hfs
        cases hf : findP ps ((lL.getD k eE.dflt).X / 16) ((lL.getD k eE.dflt).Y / 16) with
        | none =>
          rw [hf] at hd hfs
          simp only [Option.map_none] at hd hfs
          simp only [x53L0, push_cast, simprocAttr, g97, g98, g1051137, g1051139, g1051140, g1051141, g99, g100, hd]
          refine ⟨fun hlt => ?_, fun hn => ?_⟩
          · have hot := ordL_take hlt
            have hpt := partsL_take hlt
            have hgd := okE_good (hall k hlt)
            rw [hfs] at hot
            have hot : ordL (lL.take (k + 1)) = ordL (lL.take k) ++ [⟨(lL.getD k eE.dflt).X / 16, (lL.getD k eE.dflt).Y / 16⟩] := hot
            have l1 := lits_row eE [lL.getD k eE.dflt]
            have d1 : decL eE 1 (litF [.v (.int .i64 (lL.getD k eE.dflt).X), .v (.int .i64 (lL.getD k eE.dflt).Y), .v (.int .i64 (lL.getD k eE.dflt).H), .v (.int .i64 (lL.getD k eE.dflt).P)] 4) = [lL.getD k eE.dflt] := l1.2
            refine ⟨hlt, hlt, ⟨⟨by omega, by omega⟩, by omega, by omega⟩, by omega, ⟨by rw [List.length_append, mapF_len]; simp, l1.1⟩, fun G => ⟨⟨(k + 1, putP ps ((lL.getD k eE.dflt).X / 16) ((lL.getD k eE.dflt).Y / 16) (G 0 0) (lL.getD k eE.dflt)), by simp only; omega, by simp only; rw [shP_put, hps, ← hpt]⟩, ⟨wrapI (by omega) (by omega), push_eq (E := eC) (x := ⟨(lL.getD k eE.dflt).X / 16, (lL.getD k eE.dflt).Y / 16⟩) hot, .inl ?_⟩, by simp only; omega⟩⟩
            rw [d1]
            exact putP_new _ _ _ _ hf
          · obtain rfl : k = lL.length := by omega
            rw [List.take_length] at hps
            rw [List.take_length]
            exact ⟨⟨ps, hps⟩, ⟨rfl, (rowEq_rowF _ _ _ _).2 trivial⟩, .inr (mapF_frz ps)⟩
        | some p =>
          rw [hf] at hd hfs
          simp only [Option.map_some] at hd hfs
          simp only [x53L0, push_cast, simprocAttr, g97, g98, g1051137, g1051139, g1051140, g1051141, g99, g100, hd]
          refine ⟨fun hlt => ?_, fun hn => ?_⟩
          · have hot := ordL_take hlt
            have hpt := partsL_take hlt
            have hgd := okE_good (hall k hlt)
            rw [hfs] at hot
            have hot : ordL (lL.take (k + 1)) = ordL (lL.take k) := hot
            have hpl := findS_part hk hfs
            obtain ⟨u1, u2⟩ := pushE p.l (lL.getD k eE.dflt)
            refine ⟨hlt, hlt, ⟨⟨by omega, by omega⟩, by omega, by omega⟩, fun b hb => ⟨fun hb1 => by have := hb hb1; omega, fun _ => ⟨by omega, ⟨?_, u1⟩, fun G => ⟨⟨(k + 1, putP ps ((lL.getD k eE.dflt).X / 16) ((lL.getD k eE.dflt).Y / 16) (G 0 0) (lL.getD k eE.dflt)), by simp only; omega, by simp only; rw [shP_put, hps, ← hpt]⟩, ⟨wrapI (by omega) (by omega), same_eq hot, .inl ?_⟩, by simp only; omega⟩⟩⟩⟩
            · rw [takDM_len, mapF_len]
              exact (putP_old _ _ (.bool false) (lL.getD k eE.dflt) (lL.getD k eE.dflt) hf).2
            · rw [u2]
              have := (putP_old _ _ (G 0 0) (lL.getD k eE.dflt) (lL.getD k eE.dflt) hf).1
              rw [List.length_append] at this
              exact this
          · obtain rfl : k = lL.length := by omega
            rw [List.take_length] at hps
            rw [List.take_length]
            exact ⟨⟨ps, hps⟩, ⟨rfl, (rowEq_rowF _ _ _ _).2 trivial⟩, .inr (mapF_frz ps)⟩
      rintro ⟨ps, hps⟩
      simp only [push_cast, simprocAttr, g97, g98, g1051137, g1051139, g1051140, g1051141, g99, g100]
      obtain ⟨hlb, hall⟩ := valE_get hpre
      have hol := ordL_len (A := lL) lL.length (Nat.le_refl _)
      rw [List.take_length] at hol
      refine ⟨⟨by omega, ordL_diff _⟩, ?_⟩
      have hso := sort_len lL
      have hmo : ∀ c ∈ srtL cmpCC (ordL lL), c ∈ ordL lL := fun c h => (srtL_perm _).mem_iff.1 h
      have hpk : packL lL = tilesO lL (srtL cmpCC (ordL lL)) := rfl
      rw [hpk]
      rw [← hso]
      generalize srtL cmpCC (ordL lL) = O at *
      refine vcLoop_upd (α := {s : Nat × (Nat → Nat → Value) // s.1 ≤ O.length}) [5, 50, 51] 1 (fun s => [(3, .o (.c (.n 3))), (52, .o (.c (.v (.int .i64 (s.1.1 : Nat)))))]) (fun s => [(3, .deep (some 116) s.1.1 3 (deepF eTl (tilesO lL (O.take s.1.1)) s.1.2) (deepC eTl (tilesO lL (O.take s.1.1))) []), (2, .own (O).length 2 (rowF eC (O)) 109), (1, .dm true (mapF ePz (ps))), (0, .ro (lL).length 4 (rowF eE (lL)))]) (fun s => O.length - s.1.1) ⟨(0, fun _ _ => .bool false), by simp⟩ ?_ ?_
      · simp only [push_cast, simprocAttr, g97, g98, g1051137, g1051139, g1051140, g1051141, g99, g100]
      rintro ⟨⟨k, V⟩, hk⟩
      simp only at hk
      by_cases hlt : k < O.length
      · obtain ⟨p, hf, hpl, hne⟩ := part_at hps (hmo _ (getC_mem hlt))
        have hd := findDM_P ePz (fun _ => ⟨rfl, rfl⟩) (O.getD k eC.dflt).X (O.getD k eC.dflt).Y ps
        rw [hf] at hd
        simp only [Option.map_some] at hd
        simp only [x53L2, push_cast, simprocAttr, g97, g98, g1051137, g1051139, g1051140, g1051141, g99, g100, hd, hlt]
        have hP := partE_ok hpre (O.getD k eC.dflt)
        have hpln := partE_len lL (O.getD k eC.dflt)
        have htk := tilesO_take lL hlt
        rw [← hpl] at hP hpln htk
        refine vcCut_upd (α := Unit) [3, 5, 12, 50, 51, 52] 1 (fun _ => []) (fun _ => [(5, .box [.v (.int .i64 (O.getD k eC.dflt).X), .v (.int .i64 (O.getD k eC.dflt).Y), .n 6] 116), (6, .ro (encP 0 p.l).length 1 (rowF eU8 (encP 0 p.l))), (0, .ro (lL).length 4 (rowF eE (lL)))]) ?_ ?_
        rotate_left
        · simp only [push_cast, simprocAttr, g97, g98, g1051137, g1051139, g1051140, g1051141, g99, g100, hd]
          generalize p.l = P at *
          refine vcLoop_upd (α := {i : Nat // i ≤ P.length}) [3, 5, 12, 50, 51, 52, 63, 64] 1 (fun s => [(13, .o (.c (.v (.int .i64 (nxtE (P.take s.1)))))), (65, .o (.c (.v (.int .i64 (s.1 : Nat)))))]) (fun s => [(5, .box [.v (.int .i64 (O.getD k eC.dflt).X), .v (.int .i64 (O.getD k eC.dflt).Y), .n 7] 116), (7, .own (encP 0 (P.take s.1)).length 1 (rowF eU8 (encP 0 (P.take s.1))) 5), (0, .ro (lL).length 4 (rowF eE (lL)))]) (fun s => P.length - s.1) ⟨0, by omega⟩ ?_ ?_
          · simp only [push_cast, simprocAttr, g97, g98, g1051137, g1051139, g1051140, g1051141, g99, g100]
            exact ⟨rfl, rfl⟩
          rintro ⟨i, hi⟩
          simp only [x53L1, push_cast, simprocAttr, g97, g98, g1051137, g1051139, g1051140, g1051141, g99, g100]
          refine ⟨fun hl => ?_, fun hn => ?_⟩
          · have hgd := hP.at_ _ (getE_mem hl)
            have hcd := hP.cnt _ (getE_mem hl)
            have hnx := nxtE_le hP hl
            have hnb := numE_bd (P.getD i eE.dflt)
            have hbd := encP_bd hP (i + 1) hl
            have hst := encP_step hl
            have hns := nxtE_snoc hl
            have w0 : IntKind.u64.wrap (IntKind.i64.wrap ((P.getD i eE.dflt).Y % 16 * 16 + (P.getD i eE.dflt).X % 16 - nxtE (P.take i))) = numE (P.getD i eE.dflt) - nxtE (P.take i) := by
              show IntKind.u64.wrap (IntKind.i64.wrap (numE (P.getD i eE.dflt) - nxtE (P.take i))) = _
              rw [wrapI (by omega) (by omega), wr64]; omega
            rw [w0]
            rw [hst] at hbd
            simp only [List.length_append] at hbd
            refine ⟨hl, hl, ⟨by omega, by omega, by omega⟩, ⟨by omega, by omega⟩, by omega, by rfl, by omega, by omega, by rfl, by omega, by omega, by rfl, ⟨i + 1, by omega⟩, ⟨⟨?_, wrapI (by omega) (by omega)⟩, app4 hst⟩, by simp only; omega⟩
            rw [hns]
            exact wrapI (by omega) (by omega)
          · obtain rfl : i = P.length := by omega
            rw [List.take_length]
            exact ⟨(), rfl, (rowEq_rowF _ _ _ _).2 trivial⟩
        rintro ⟨⟩
        generalize p.l = P at *
        simp only [push_cast, simprocAttr, g97, g98, g1051137, g1051139, g1051140, g1051141, g99, g100]
        refine ⟨by omega, ⟨by omega, mrgOk_push' (tilesO_len lL hk).symm fun e j _ _ => okM_lit ?_ e j⟩, fun F' hF => ⟨⟨(k + 1, F'), by simp only; omega⟩, ⟨wrapI (by omega) (by omega), rfl, deep_push' (X := [⟨(O.getD k eC.dflt).X, (O.getD k eC.dflt).Y, encP 0 P⟩]) (tilesO_len lL hk).symm rfl htk hF (push_til (mrg1_ro (E := eU8) rfl rfl rfl))⟩, by simp only; omega⟩⟩
        intro c hc
        simp only [List.mem_cons, List.not_mem_nil, or_false] at hc
        rcases hc with rfl | rfl | rfl
        · trivial
        · trivial
        · exact okM_ro (E := eU8) rfl
      have hd := findDM_P ePz (fun _ => ⟨rfl, rfl⟩) (O.getD k eC.dflt).X (O.getD k eC.dflt).Y ps
      cases hf : findP ps (O.getD k eC.dflt).X (O.getD k eC.dflt).Y with
      | none =>
        rw [hf] at hd
        simp only [Option.map_none] at hd
        simp only [x53L2, push_cast, simprocAttr, g97, g98, g1051137, g1051139, g1051140, g1051141, g99, g100, hd, hlt]
        obtain rfl : k = O.length := by omega
        rw [List.take_length]
        exact ⟨V, by unfold tilesO; rw [List.length_map], fun _ _ _ _ => ⟨rfl, cEq_refl _⟩⟩
      | some p =>
        rw [hf] at hd
        simp only [Option.map_some] at hd
        simp only [x53L2, push_cast, simprocAttr, g97, g98, g1051137, g1051139, g1051140, g1051141, g99, g100, hd, hlt]
        obtain rfl : k = O.length := by omega
        rw [List.take_length]
        exact ⟨V, by unfold tilesO; rw [List.length_map], fun _ _ _ _ => ⟨rfl, cEq_refl _⟩⟩
    · cases hg_
  · cases hg_
end Go.Proofs.YtgpbokembopapaaGreat
