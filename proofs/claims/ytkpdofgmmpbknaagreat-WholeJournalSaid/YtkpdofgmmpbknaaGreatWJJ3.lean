/- A part of the proof of a statement about this seat: how a function is stepped through, and plain laws. No conditions. -/
import Derived.Test.YtkpdofgmmpbknaaGreatRows
import Derived.Test.YtkpdofgmmpbknaaGreatWJSz4
import Derived.Test.YtkpdofgmmpbknaaGreatWJJ2
import Derived.KernelRfl
set_option linter.unusedVariables false
set_option linter.unusedSimpArgs false
set_option maxRecDepth 20000
namespace Go.Proofs.YtkpdofgmmpbknaaGreat
open Go.Sx Go.Way
def x57 : XFn := ⟨29, (.seq (.reg false [K1 2 .mv (iV 0)]) (.seq (.seq (.reg false [O1 6 .mv 0, O1 7 .nilc 6, O1 8 (.fld 1) 7, O1 9 .load1 8, K2 10 (.bin .neq) 9 (iV 0)]) (.cond (.t 10) (.seq (.reg false [K1 2 .mv (iV 0)]) .ret) .skip)) (.seq (.reg false [O1 12 .mv 0, O1 13 .nilc 12, O1 14 (.fld 0) 13, O1 15 .load1 14, O1 16 (.call 83) 15, O1 11 .mv 16, O1 17 (.ext 0) 11, O1 18 (.ext 1) 11, O1 19 (.ext 2) 11, O1 3 .mv 17, O1 4 .mv 18, O1 5 .mv 19]) (.seq (.reg false [O1 20 .mv 0, O1 21 .mv 0, O1 22 .mv 4, O1 23 .mv 5, O1 24 .nilc 20, O1 25 (.fld 0) 24, ⟨none, (.store 1), [(.t 25), (.t 22)], none⟩, O1 26 .nilc 21, O1 27 (.fld 1) 26, ⟨none, (.store 1), [(.t 27), (.t 23)], none⟩]) (.seq (.reg false [O1 28 .mv 3, O1 2 .mv 28]) .ret))))), [(.s 2)]⟩
theorem x57_ok : xfn Tryz.prog Tryz.f57 = some x57.er := by kernel_rfl
def x58 : XFn := ⟨47, (.seq (.reg false [K1 2 .mv (.bool false)]) (.seq (.block 0 (.seq (.reg false [O1 5 .mv 0, O1 6 .nilc 5, O1 7 (.fld 1) 6, O1 8 .load1 7, K2 9 (.bin .neq) 8 (iV 0), O1 4 .mv 9]) (.cond (.t 4) (.seq (.reg false [K1 2 .mv (.bool false)]) .ret) (.seq (.reg false [O1 11 .mv 0, O1 12 .nilc 11, O1 13 (.fld 0) 12, O1 14 .load1 13, O1 15 .lenS 14, K2 16 (.bin .eql) 15 (iV 0), O1 10 .mv 16]) (.cond (.t 10) (.seq (.reg false [O1 17 .mv 0, O1 18 .nilc 17, O1 19 (.fld 1) 18, ⟨none, (.store 1), [(.t 19), (.k (iV 4))], none⟩]) (.seq (.reg false [K1 2 .mv (.bool false)]) .ret)) (.seq (.reg false [O1 21 .mv 0, O1 22 .nilc 21, O1 23 (.fld 0) 22, O1 24 .load1 23, K2 25 (.ixS 1) 24 (iV 0), O1 26 .load1 25, K2 27 (.bin .gtr) 26 (.int .u8 1), O1 20 .mv 27]) (.cond (.t 20) (.seq (.reg false [O1 28 .mv 0, O1 29 .nilc 28, O1 30 (.fld 1) 29, ⟨none, (.store 1), [(.t 30), (.k (iV 3))], none⟩]) (.seq (.reg false [K1 2 .mv (.bool false)]) .ret)) .skip))))))) (.seq (.reg false [O1 31 .mv 0, O1 32 .nilc 31, O1 33 (.fld 0) 32, O1 34 .load1 33, K2 35 (.ixS 1) 34 (iV 0), O1 36 .load1 35, K2 37 (.bin .eql) 36 (.int .u8 1), O1 3 .mv 37]) (.seq (.reg false [O1 38 .mv 0, O1 39 .mv 0, O1 40 .nilc 39, O1 41 (.fld 0) 40, O1 42 .load1 41, K2 43 (.slc 1 true false false) 42 (iV 1), O1 44 .nilc 38, O1 45 (.fld 0) 44, ⟨none, (.store 1), [(.t 45), (.t 43)], none⟩]) (.seq (.reg false [O1 46 .mv 3, O1 2 .mv 46]) .ret))))), [(.s 2)]⟩
theorem x58_ok : xfn Tryz.prog Tryz.f58 = some x58.er := by kernel_rfl
def x59 : XFn := ⟨50, (.seq (.reg false [K1 6 .mv (iV 0)]) (.seq (.seq (.reg false [O1 10 .mv 0, O1 11 .nilc 10, O1 12 (.fld 1) 11, O1 13 .load1 12, K2 14 (.bin .neq) 13 (iV 0)]) (.cond (.t 14) (.seq (.reg false [K1 6 .mv (iV 0)]) .ret) .skip)) (.seq (.reg false [O1 16 .mv 0, O1 17 .nilc 16, O1 18 (.fld 0) 17, O1 19 .load1 18, O1 20 (.call 55) 19, O1 15 .mv 20, O1 21 (.ext 0) 15, O1 22 (.ext 1) 15, O1 23 (.ext 2) 15, O1 7 .mv 21, O1 8 .mv 22, O1 9 .mv 23]) (.seq (.reg false [O1 24 .mv 0, O1 25 .mv 0, O1 26 .mv 8, O1 27 .mv 9, O1 28 .nilc 24, O1 29 (.fld 0) 28, ⟨none, (.store 1), [(.t 29), (.t 26)], none⟩, O1 30 .nilc 25, O1 31 (.fld 1) 30, ⟨none, (.store 1), [(.t 31), (.t 27)], none⟩]) (.seq (.seq (.reg false [O1 32 .mv 9, K2 33 (.bin .eql) 32 (iV 0), O1 34 .mv 33, G1 35 .mv 7 34 true, G1 36 .mv 1 34 true, G2 37 (.bin .gtr) 35 36 34 true, ⟨(some 38), .pick, [(.t 34), (.t 37), (.k (.bool false))], none⟩]) (.cond (.t 38) (.reg false [O1 39 .mv 0, O1 40 .mv 2, O1 41 .nilc 39, O1 42 (.fld 1) 41, ⟨none, (.store 1), [(.t 42), (.t 40)], none⟩]) .skip)) (.seq (.seq (.reg false [O1 43 .mv 0, O1 44 .nilc 43, O1 45 (.fld 1) 44, O1 46 .load1 45, K2 47 (.bin .neq) 46 (iV 0)]) (.cond (.t 47) (.seq (.reg false [K1 6 .mv (iV 0)]) .ret) .skip)) (.seq (.reg false [O1 48 .mv 7, O1 49 (.conv .i64) 48, O1 6 .mv 49]) .ret))))))), [(.s 6)]⟩
theorem x59_ok : xfn Tryz.prog Tryz.f59 = some x59.er := by kernel_rfl
def g57 : Con := fun args_ E_ nn_ => match args_ with
  | [.c (.p r 0)] => (match E_ r with
    | some (.box [.n r_rest, .v (.int .i64 r_err)] r_ty) => (match rowOf E_ r_rest with
    | some (r_rest_n, r_rest_s, r_rest_f) => some (.e (isRow eU8 r_rest_n r_rest_s r_rest_f ∧ r_err = 0 ∧ r_ty = 116 ∧ u8s (decL eU8 r_rest_n r_rest_f) ∧ ((decL eU8 r_rest_n r_rest_f)).length ≤ 100000 ∧ (rdU (decL eU8 r_rest_n r_rest_f)).2.2 = 0 ∧ (rdU (decL eU8 r_rest_n r_rest_f)).1 < 9223372036854775808) (.o (.c (.v (.int .i64 (unz (rdU (decL eU8 r_rest_n r_rest_f)).1))))) [((nn_ + 0), .ro ((rdU (decL eU8 r_rest_n r_rest_f)).2.1).length 1 (rowF eU8 ((rdU (decL eU8 r_rest_n r_rest_f)).2.1))), (r, .box [.n (nn_ + 0), .v (.int .i64 0)] 116), (r_rest, .ro ((decL eU8 r_rest_n r_rest_f)).length 1 (rowF eU8 ((decL eU8 r_rest_n r_rest_f))))] (nn_ + 1))
    | none => none)
    | _ => none)
  | _ => none
theorem c57 : COk Tryz.prog 57 g57 := by
  refine cok_d Tryz.func57 x57_ok (by kernel_rfl) (cok_tab (cok_cons c83 cok_nil)) ?_
  intro args_ E_ nn_ cr_ hg_
  unfold g57 at hg_
  split at hg_
  · rename_i r
    split at hg_
    · rename_i r_rest r_err r_ty h_r
      split at hg_
      · rename_i r_rest_n r_rest_s r_rest_f h_r_rest
        cases hg_
        refine ⟨_, _, _, _, rfl, 2, [r, r_rest], [.c (.p 0 0)], [(0, .box [.n 1, .v (.int .i64 r_err)] r_ty), (1, .ro (decL eU8 r_rest_n r_rest_f).length eU8.sz (rowF eU8 (decL eU8 r_rest_n r_rest_f)))], .o (.c (.v (.int .i64 (unz (rdU (decL eU8 r_rest_n r_rest_f)).1)))), [(2, .ro ((rdU (decL eU8 r_rest_n r_rest_f)).2.1).length 1 (rowF eU8 ((rdU (decL eU8 r_rest_n r_rest_f)).2.1))), (0, .box [.n 2, .v (.int .i64 0)] 116), (1, .ro ((decL eU8 r_rest_n r_rest_f)).length 1 (rowF eU8 ((decL eU8 r_rest_n r_rest_f))))], 3, rfl, rfl, by simp only [renE, Ent.ren, rowF_renf] <;> rfl, rfl, by decide, and4 (by simp only [push_cast, Nat.reduceLT, Nat.reduceAdd]) ⟨rfl, ⟨⟨_, h_r⟩, inE0_row h_r_rest, trivial⟩, by simp only [keysNodup, outN, keys] <;> decide, rfl, .inr ⟨.inl rfl, .inl rfl, trivial⟩, ?_⟩⟩
        intro hpre hlen
        obtain ⟨i_r_rest, hpre⟩ := hpre
        have hap : apartE (sg 2 nn_ [r, r_rest]) [(0, .box [.n 1, .v (.int .i64 r_err)] r_ty), (1, .ro (decL eU8 r_rest_n r_rest_f).length eU8.sz (rowF eU8 (decL eU8 r_rest_n r_rest_f)))] [(0, .box [.n 1, .v (.int .i64 r_err)] r_ty), (1, .ro (decL eU8 r_rest_n r_rest_f).length eU8.sz (rowF eU8 (decL eU8 r_rest_n r_rest_f)))] := by
          refine ⟨fun _ k2 e2 hm hne => ?_, ?_⟩
          · simp only [List.mem_cons, List.not_mem_nil, or_false, Prod.mk.injEq] at hm
            rcases hm with ⟨rfl, _⟩ | ⟨rfl, _⟩
            · exact absurd rfl hne
            · exact fun hh => by
                have hh2 : r_rest = r := hh
                have hh3 := h_r_rest
                rw [hh2] at hh3; unfold rowOf at hh3; rw [h_r] at hh3; cases hh3
          refine ⟨fun h => by (cases h), ?_⟩
          trivial
        refine ⟨⟨⟨_, h_r, by simp only [leE, mapEq, SC.ren, and_true, true_and, and_self] <;> first | rfl | exact ⟨rfl, rfl⟩⟩, inE_row h_r_rest i_r_rest, trivial⟩, hap, ?_⟩
        have z_r_rest := lens_row (E := eU8) hlen h_r_rest
        clear i_r_rest
        generalize decL eU8 r_rest_n r_rest_f = r_restL at *
        clear h_r_rest
        obtain ⟨rfl, rfl, p1, p2, p3, p4⟩ := hpre
        simp (maxSteps := 9999999) only [x57, push_cast, simprocAttr, g83]
        exact ⟨p1, p2, p3, p4⟩
      · cases hg_
    · cases hg_
  · cases hg_
def g58 : Con := fun args_ E_ nn_ => match args_ with
  | [.c (.p r 0)] => (match E_ r with
    | some (.box [.n r_rest, .v (.int .i64 r_err)] r_ty) => (match rowOf E_ r_rest with
    | some (r_rest_n, r_rest_s, r_rest_f) => some (.e (isRow eU8 r_rest_n r_rest_s r_rest_f ∧ r_err = 0 ∧ r_ty = 116 ∧ 0 < ((decL eU8 r_rest_n r_rest_f)).length ∧ ((decL eU8 r_rest_n r_rest_f)).getD 0 eU8.dflt ≤ 1) (.o (.c (.v (.bool (decide (((decL eU8 r_rest_n r_rest_f)).getD 0 eU8.dflt = 1)))))) [((nn_ + 0), .ro (((decL eU8 r_rest_n r_rest_f)).drop 1).length 1 (rowF eU8 (((decL eU8 r_rest_n r_rest_f)).drop 1))), (r, .box [.n (nn_ + 0), .v (.int .i64 0)] 116), (r_rest, .ro ((decL eU8 r_rest_n r_rest_f)).length 1 (rowF eU8 ((decL eU8 r_rest_n r_rest_f))))] (nn_ + 1))
    | none => none)
    | _ => none)
  | _ => none
theorem c58 : COk Tryz.prog 58 g58 := by
  refine cok_d Tryz.func58 x58_ok (by kernel_rfl) (cok_tab cok_nil) ?_
  intro args_ E_ nn_ cr_ hg_
  unfold g58 at hg_
  split at hg_
  · rename_i r
    split at hg_
    · rename_i r_rest r_err r_ty h_r
      split at hg_
      · rename_i r_rest_n r_rest_s r_rest_f h_r_rest
        cases hg_
        refine ⟨_, _, _, _, rfl, 2, [r, r_rest], [.c (.p 0 0)], [(0, .box [.n 1, .v (.int .i64 r_err)] r_ty), (1, .ro (decL eU8 r_rest_n r_rest_f).length eU8.sz (rowF eU8 (decL eU8 r_rest_n r_rest_f)))], .o (.c (.v (.bool (decide (((decL eU8 r_rest_n r_rest_f)).getD 0 eU8.dflt = 1))))), [(2, .ro (((decL eU8 r_rest_n r_rest_f)).drop 1).length 1 (rowF eU8 (((decL eU8 r_rest_n r_rest_f)).drop 1))), (0, .box [.n 2, .v (.int .i64 0)] 116), (1, .ro ((decL eU8 r_rest_n r_rest_f)).length 1 (rowF eU8 ((decL eU8 r_rest_n r_rest_f))))], 3, rfl, rfl, by simp only [renE, Ent.ren, rowF_renf] <;> rfl, rfl, by decide, and4 (by simp only [push_cast, Nat.reduceLT, Nat.reduceAdd]) ⟨rfl, ⟨⟨_, h_r⟩, inE0_row h_r_rest, trivial⟩, by simp only [keysNodup, outN, keys] <;> decide, rfl, .inr ⟨.inl rfl, .inl rfl, trivial⟩, ?_⟩⟩
        intro hpre hlen
        obtain ⟨i_r_rest, hpre⟩ := hpre
        have hap : apartE (sg 2 nn_ [r, r_rest]) [(0, .box [.n 1, .v (.int .i64 r_err)] r_ty), (1, .ro (decL eU8 r_rest_n r_rest_f).length eU8.sz (rowF eU8 (decL eU8 r_rest_n r_rest_f)))] [(0, .box [.n 1, .v (.int .i64 r_err)] r_ty), (1, .ro (decL eU8 r_rest_n r_rest_f).length eU8.sz (rowF eU8 (decL eU8 r_rest_n r_rest_f)))] := by
          refine ⟨fun _ k2 e2 hm hne => ?_, ?_⟩
          · simp only [List.mem_cons, List.not_mem_nil, or_false, Prod.mk.injEq] at hm
            rcases hm with ⟨rfl, _⟩ | ⟨rfl, _⟩
            · exact absurd rfl hne
            · exact fun hh => by
                have hh2 : r_rest = r := hh
                have hh3 := h_r_rest
                rw [hh2] at hh3; unfold rowOf at hh3; rw [h_r] at hh3; cases hh3
          refine ⟨fun h => by (cases h), ?_⟩
          trivial
        refine ⟨⟨⟨_, h_r, by simp only [leE, mapEq, SC.ren, and_true, true_and, and_self] <;> first | rfl | exact ⟨rfl, rfl⟩⟩, inE_row h_r_rest i_r_rest, trivial⟩, hap, ?_⟩
        have z_r_rest := lens_row (E := eU8) hlen h_r_rest
        clear i_r_rest
        generalize decL eU8 r_rest_n r_rest_f = r_restL at *
        clear h_r_rest
        obtain ⟨rfl, rfl, p1, p2⟩ := hpre
        simp (maxSteps := 9999999) only [x58, push_cast, simprocAttr]
        refine ⟨fun h => by omega, fun _ => ⟨by omega, p1, fun h => by omega, fun _ => ⟨by omega, p1, by omega, rfl, ?_⟩⟩⟩
        exact rowIs8_eq (rowIs8_from (k := 1) (by omega)) rfl
      · cases hg_
    · cases hg_
  · cases hg_
def g59 : Con := fun args_ E_ nn_ => match args_ with
  | [.c (.p r 0), .c (.v (.int .u64 most)), .c (.v (.int .i64 over))] => (match E_ r with
    | some (.box [.n r_rest, .v (.int .i64 r_err)] r_ty) => (match rowOf E_ r_rest with
    | some (r_rest_n, r_rest_s, r_rest_f) => some (.e (isRow eU8 r_rest_n r_rest_s r_rest_f ∧ r_err = 0 ∧ r_ty = 116 ∧ u8s (decL eU8 r_rest_n r_rest_f) ∧ ((decL eU8 r_rest_n r_rest_f)).length ≤ 100000 ∧ (rdU (decL eU8 r_rest_n r_rest_f)).2.2 = 0 ∧ ((rdU (decL eU8 r_rest_n r_rest_f)).1 : Int) ≤ most ∧ most ≤ 4294967296) (.o (.c (.v (.int .i64 (((rdU (decL eU8 r_rest_n r_rest_f)).1 : Nat)))))) [((nn_ + 0), .ro ((rdU (decL eU8 r_rest_n r_rest_f)).2.1).length 1 (rowF eU8 ((rdU (decL eU8 r_rest_n r_rest_f)).2.1))), (r, .box [.n (nn_ + 0), .v (.int .i64 0)] 116), (r_rest, .ro ((decL eU8 r_rest_n r_rest_f)).length 1 (rowF eU8 ((decL eU8 r_rest_n r_rest_f))))] (nn_ + 1))
    | none => none)
    | _ => none)
  | _ => none
theorem c59 : COk Tryz.prog 59 g59 := by
  refine cok_d Tryz.func59 x59_ok (by kernel_rfl) (cok_tab (cok_cons c55 cok_nil)) ?_
  intro args_ E_ nn_ cr_ hg_
  unfold g59 at hg_
  split at hg_
  · rename_i r most over
    split at hg_
    · rename_i r_rest r_err r_ty h_r
      split at hg_
      · rename_i r_rest_n r_rest_s r_rest_f h_r_rest
        cases hg_
        refine ⟨_, _, _, _, rfl, 2, [r, r_rest], [.c (.p 0 0), .c (.v (.int .u64 most)), .c (.v (.int .i64 over))], [(0, .box [.n 1, .v (.int .i64 r_err)] r_ty), (1, .ro (decL eU8 r_rest_n r_rest_f).length eU8.sz (rowF eU8 (decL eU8 r_rest_n r_rest_f)))], .o (.c (.v (.int .i64 (((rdU (decL eU8 r_rest_n r_rest_f)).1 : Nat))))), [(2, .ro ((rdU (decL eU8 r_rest_n r_rest_f)).2.1).length 1 (rowF eU8 ((rdU (decL eU8 r_rest_n r_rest_f)).2.1))), (0, .box [.n 2, .v (.int .i64 0)] 116), (1, .ro ((decL eU8 r_rest_n r_rest_f)).length 1 (rowF eU8 ((decL eU8 r_rest_n r_rest_f))))], 3, rfl, rfl, by simp only [renE, Ent.ren, rowF_renf] <;> rfl, rfl, by decide, and4 (by simp only [push_cast, Nat.reduceLT, Nat.reduceAdd]) ⟨rfl, ⟨⟨_, h_r⟩, inE0_row h_r_rest, trivial⟩, by simp only [keysNodup, outN, keys] <;> decide, rfl, .inr ⟨.inl rfl, .inl rfl, trivial⟩, ?_⟩⟩
        intro hpre hlen
        obtain ⟨i_r_rest, hpre⟩ := hpre
        have hap : apartE (sg 2 nn_ [r, r_rest]) [(0, .box [.n 1, .v (.int .i64 r_err)] r_ty), (1, .ro (decL eU8 r_rest_n r_rest_f).length eU8.sz (rowF eU8 (decL eU8 r_rest_n r_rest_f)))] [(0, .box [.n 1, .v (.int .i64 r_err)] r_ty), (1, .ro (decL eU8 r_rest_n r_rest_f).length eU8.sz (rowF eU8 (decL eU8 r_rest_n r_rest_f)))] := by
          refine ⟨fun _ k2 e2 hm hne => ?_, ?_⟩
          · simp only [List.mem_cons, List.not_mem_nil, or_false, Prod.mk.injEq] at hm
            rcases hm with ⟨rfl, _⟩ | ⟨rfl, _⟩
            · exact absurd rfl hne
            · exact fun hh => by
                have hh2 : r_rest = r := hh
                have hh3 := h_r_rest
                rw [hh2] at hh3; unfold rowOf at hh3; rw [h_r] at hh3; cases hh3
          refine ⟨fun h => by (cases h), ?_⟩
          trivial
        refine ⟨⟨⟨_, h_r, by simp only [leE, mapEq, SC.ren, and_true, true_and, and_self] <;> first | rfl | exact ⟨rfl, rfl⟩⟩, inE_row h_r_rest i_r_rest, trivial⟩, hap, ?_⟩
        have z_r_rest := lens_row (E := eU8) hlen h_r_rest
        clear i_r_rest
        generalize decL eU8 r_rest_n r_rest_f = r_restL at *
        clear h_r_rest
        obtain ⟨rfl, rfl, p1, p2, p3, p4, p5⟩ := hpre
        simp (maxSteps := 9999999) only [x59, push_cast, simprocAttr, g55]
        exact ⟨⟨p1, p2⟩, fun _ h => by omega, fun _ => ⟨fun h => absurd p3 h, fun _ => ⟨wrapI (by omega) (by omega), p3⟩⟩⟩
      · cases hg_
    · cases hg_
  · cases hg_
end Go.Proofs.YtkpdofgmmpbknaaGreat
namespace Go.Proofs.YtkpdofgmmpbknaaGreat
open Go.Sx Go.Way
theorem uint_inj {a b : Nat} {r s : List Int} (ha : a < 18446744073709551616) (hb : b < 18446744073709551616) (h : uintL a ++ r = uintL b ++ s) : a = b ∧ r = s := by
  have h1 := rdU_uint r ha
  rw [h, rdU_uint s hb] at h1
  simp only [Prod.mk.injEq] at h1
  exact ⟨h1.1.symm, h1.2.1.symm⟩
theorem zig_lt {n : Int} (h : -4611686018427387904 ≤ n ∧ n ≤ 4611686018427387903) : zig n < 9223372036854775808 := by unfold zig; split <;> omega
theorem encBs_inj : ∀ {l k : List CC}, (∀ b ∈ l, (0 ≤ b.X ∧ b.X ≤ 255) ∧ (-1 ≤ b.Y ∧ b.Y ≤ 1024)) → (∀ b ∈ k, (0 ≤ b.X ∧ b.X ≤ 255) ∧ (-1 ≤ b.Y ∧ b.Y ≤ 1024)) → l.length = k.length → encBs l = encBs k → l = k
  | [], [], _, _, _, _ => rfl
  | [], _ :: _, _, _, h, _ => by simp at h
  | _ :: _, [], _, _, h, _ => by simp at h
  | b :: l, c :: k, h1, h2, h3, h4 => by
    have hb := h1 b List.mem_cons_self
    have hc := h2 c List.mem_cons_self
    simp only [encBs, List.append_assoc] at h4
    obtain ⟨e1, h4⟩ := uint_inj (by omega) (by omega) h4
    obtain ⟨e2, h4⟩ := uint_inj (by omega) (by omega) h4
    have := encBs_inj (fun x hx => h1 x (List.mem_cons_of_mem _ hx)) (fun x hx => h2 x (List.mem_cons_of_mem _ hx)) (by simpa using h3) h4
    subst this
    obtain ⟨bx, by_⟩ := b
    obtain ⟨cx, cy⟩ := c
    simp only at hb hc e1 e2
    have e3 : bx = cx := by omega
    have e4 : by_ = cy := by omega
    rw [e3, e4]
theorem encE_eq (v : EvtL) : encE v = uintL (zig v.tick) ++ (uintL (zig v.turn) ++ (uintL (zig v.fwd) ++ ((if v.bump then 1 else 0) :: (uintL v.scan.length ++ encBs v.scan)))) := by
  simp [encE]
theorem encE_inj {v w : EvtL} (hv : okEv v) (hw : okEv w) (h : encE v = encE w) : v = w := by
  obtain ⟨v1, v2, v3, v4⟩ := hv
  obtain ⟨w1, w2, w3, w4⟩ := hw
  rw [scanJ_iff] at v4 w4
  rw [encE_eq, encE_eq] at h
  have lt : ∀ {n : Int}, -1099511627776 ≤ n ∧ n ≤ 1099511627776 → zig n < 18446744073709551616 := fun {n} hn => by have := zig_lt (n := n) ⟨by omega, by omega⟩; omega
  obtain ⟨e1, h⟩ := uint_inj (lt (by omega)) (lt (by omega)) h
  obtain ⟨e2, h⟩ := uint_inj (lt (by omega)) (lt (by omega)) h
  obtain ⟨e3, h⟩ := uint_inj (lt (by omega)) (lt (by omega)) h
  simp only [List.cons.injEq] at h
  obtain ⟨e4, h⟩ := h
  obtain ⟨e5, h⟩ := uint_inj (by omega) (by omega) h
  have e6 := encBs_inj v4.2 w4.2 e5 h
  have f1 := congrArg unz e1
  have f2 := congrArg unz e2
  have f3 := congrArg unz e3
  rw [unz_zig, unz_zig] at f1 f2 f3
  obtain ⟨a, b, c, d, e⟩ := v
  obtain ⟨a', b', c', d', e'⟩ := w
  simp only at f1 f2 f3 e4 e6
  subst f1 f2 f3 e6
  cases d <;> cases d' <;> first | rfl | (simp at e4)
def isEv (d : List Int) : Prop := ∃ v, okEv v ∧ d = encE v
open Classical in
noncomputable def evOf (d : List Int) : EvtL := if h : isEv d then h.choose else ⟨0, 0, 0, false, []⟩
theorem evOf_enc {v : EvtL} (h : okEv v) : evOf (encE v) = v := by
  have h2 : isEv (encE v) := ⟨v, h, rfl⟩
  unfold evOf
  rw [dif_pos h2]
  exact (encE_inj h h2.choose_spec.1 h2.choose_spec.2).symm
theorem enc_parts {v : EvtL} (h : okEv v) : ∃ (R1 R2 R3 R4 : List Int) (b : Int), rdU (encE v) = (zig v.tick, R1, 0) ∧ rdU R1 = (zig v.turn, R2, 0) ∧ rdU R2 = (zig v.fwd, R3, 0) ∧ 0 < R3.length ∧ R3.getD 0 eU8.dflt = b ∧ b ≤ 1 ∧ decide (b = 1) = v.bump ∧ R3.drop 1 = R4 ∧ rdU R4 = (v.scan.length, encBs v.scan, 0) ∧
    (u8s (encE v) ∧ (encE v).length ≤ 100000) ∧ (u8s R1 ∧ R1.length ≤ 100000) ∧ (u8s R2 ∧ R2.length ≤ 100000) ∧ (u8s R4 ∧ R4.length ≤ 100000) := by
  have hl := encE_len h
  have hu := encE_u8 v
  obtain ⟨h1, h2, h3, h4⟩ := h
  rw [scanJ_iff] at h4
  have lt : ∀ {n : Int}, -1099511627776 ≤ n ∧ n ≤ 1099511627776 → zig n < 18446744073709551616 := fun {n} hn => by have := zig_lt (n := n) ⟨by omega, by omega⟩; omega
  have e := encE_eq v
  refine ⟨_, _, _, _, _, by rw [e]; exact rdU_uint _ (lt (by omega)), rdU_uint _ (lt (by omega)), rdU_uint _ (lt (by omega)), by simp, rfl, ?_, ?_, rfl, rdU_uint (n := v.scan.length) _ (by omega), ⟨hu, by omega⟩, ?_, ?_, ?_⟩
  · simp only [List.getD_cons_zero]; split <;> omega
  · simp only [List.getD_cons_zero]; cases v.bump <;> rfl
  all_goals rw [e] at hl hu
  all_goals simp only [List.length_append, List.length_cons] at hl
  · exact ⟨fun x hx => hu x (List.mem_append_right _ hx), by simp only [List.length_append, List.length_cons]; omega⟩
  · exact ⟨fun x hx => hu x (List.mem_append_right _ (List.mem_append_right _ hx)), by simp only [List.length_append, List.length_cons]; omega⟩
  · exact ⟨fun x hx => hu x (List.mem_append_right _ (List.mem_append_right _ (List.mem_append_right _ (List.mem_cons_of_mem _ hx)))), by simp only [List.length_append, List.drop_succ_cons, List.drop_zero]; omega⟩
theorem take_snoc {α : Type} (d : α) {L : List α} {k : Nat} (h : k < L.length) : L.take (k + 1) = L.take k ++ [L.getD k d] := by
  rw [List.take_succ_eq_append_getElem h, List.getD_eq_getElem?_getD, List.getElem?_eq_getElem h, Option.getD_some]
def x30L0 : XC := (.seq (.seq (.reg false [O1 44 .mv 6, K2 45 (.bin .gtr) 44 (iV 0), O1 46 .mv 45, G1 47 .mv 4 46 true, G1 48 .nilc 47 46 true, G1 49 (.fld 1) 48 46 true, G1 50 .load1 49 46 true, GK 51 (.bin .eql) 50 (iV 0) 46 true, ⟨(some 52), .pick, [(.t 46), (.t 51), (.k (.bool false))], none⟩]) (.cond (.t 52) .skip (.exit 0))) (.seq (.block 1 (.seq (.reg false [O1 55 .mv 4, ⟨(some 56), (.call 59), [(.t 55), (.k (.int .u64 4294967296)), (.k (iV 2))], none⟩, O1 7 .mv 56]) (.seq (.reg false [O1 57 .mv 4, ⟨(some 58), (.call 59), [(.t 57), (.k (.int .u64 4294967296)), (.k (iV 2))], none⟩, K2 59 (.bin .sub) 58 (iV 1), O1 8 .mv 59]) (.reg false [O1 60 (.fld 4) 5, O1 61 .load1 60, O1 62 .mv 7, O1 63 .mv 8, ⟨(some 64), (.build [(iV 0), (iV 0)] [(0, 1), (1, 1)]), [(.t 62), (.t 63)], none⟩, ⟨(some 65), (.slit 106 1 2 [(iV 0), (iV 0)] [(0, 2)]), [(.t 64)], none⟩, O2 66 (.app 106 2 16) 61 65, O1 67 (.fld 4) 5, ⟨none, (.store 1), [(.t 67), (.t 66)], none⟩])))) (.reg false [O1 53 .mv 6, K2 54 (.bin .sub) 53 (iV 1), O1 6 .mv 54])))
def x30 : XFn := ⟨100, (.seq (.reg false [⟨(some 2), (.alloc 48 [(iV 0), (iV 0), (iV 0), (.bool false), (.slice none 0 0)]), [], none⟩, K1 3 .mv (iV 0)]) (.seq (.reg false [O1 9 .mv 0, ⟨(some 10), (.build [(.slice none 0 0), (iV 0)] [(0, 1)]), [(.t 9)], none⟩, O1 11 (.box 116) 10, O1 4 .mv 11]) (.seq (.reg false [⟨(some 5), (.alloc 48 [(iV 0), (iV 0), (iV 0), (.bool false), (.slice none 0 0)]), [], none⟩]) (.seq (.reg false [O1 12 .mv 4, O1 13 (.call 57) 12, O1 14 (.fld 0) 5, ⟨none, (.store 1), [(.t 14), (.t 13)], none⟩]) (.seq (.seq (.reg false [O1 15 .mv 4, O1 16 .nilc 15, O1 17 (.fld 1) 16, O1 18 .load1 17, K2 19 (.bin .eql) 18 (iV 0), O1 20 .mv 19, G1 21 (.fld 0) 5 20 true, G1 22 .load1 21 20 true, GK 23 (.bin .lss) 22 (iV 0) 20 true, G1 24 .mv 23 20 true, G1 25 (.fld 0) 5 24 false, G1 26 .load1 25 24 false, GK 27 (.bin .gtr) 26 (iV 1099511627776) 24 false, ⟨(some 28), .pick, [(.t 24), (.k (.bool true)), (.t 27)], (some (20, true))⟩, ⟨(some 29), .pick, [(.t 20), (.t 28), (.k (.bool false))], none⟩]) (.cond (.t 29) (.seq (.reg false [⟨(some 30), (.build [(iV 0), (iV 0), (iV 0), (.bool false), (.slice none 0 0)] []), [], none⟩, ⟨none, (.store 5), [(.t 2), (.t 30)], none⟩, K1 3 .mv (iV 2)]) .ret) .skip)) (.seq (.reg false [O1 31 .mv 4, O1 32 (.call 57) 31, O1 33 (.fld 1) 5, O1 34 (.fld 0) 33, ⟨none, (.store 1), [(.t 34), (.t 32)], none⟩]) (.seq (.reg false [O1 35 .mv 4, O1 36 (.call 57) 35, O1 37 (.fld 1) 5, O1 38 (.fld 1) 37, ⟨none, (.store 1), [(.t 38), (.t 36)], none⟩]) (.seq (.reg false [O1 39 .mv 4, O1 40 (.call 58) 39, O1 41 (.fld 3) 5, ⟨none, (.store 1), [(.t 41), (.t 40)], none⟩]) (.seq (.seq (.reg false [O1 42 .mv 4, ⟨(some 43), (.call 59), [(.t 42), (.k (.int .u64 32)), (.k (iV 6))], none⟩, O1 6 .mv 43]) (.block 0 (.loop x30L0))) (.seq (.block 2 (.seq (.reg false [O1 69 .mv 4, O1 70 .nilc 69, O1 71 (.fld 1) 70, O1 72 .load1 71, K2 73 (.bin .neq) 72 (iV 0), O1 68 .mv 73]) (.cond (.t 68) (.seq (.regD [⟨(some 74), (.build [(iV 0), (iV 0), (iV 0), (.bool false), (.slice none 0 0)] []), [], none⟩, O1 75 .mv 4, O1 76 .nilc 75, O1 77 (.fld 1) 76, O1 78 .load1 77, ⟨none, (.store 5), [(.t 2), (.t 74)], none⟩, O1 3 .mv 78] [[], [], [1], [2, 1], [3, 2, 1], [0], [4, 3, 2, 1, 5, 0]]) .ret) (.seq (.reg false [O1 80 .mv 4, O1 81 .nilc 80, O1 82 (.fld 0) 81, O1 83 .load1 82, O1 84 .lenS 83, K2 85 (.bin .gtr) 84 (iV 0), O1 79 .mv 85]) (.cond (.t 79) (.seq (.reg false [⟨(some 86), (.build [(iV 0), (iV 0), (iV 0), (.bool false), (.slice none 0 0)] []), [], none⟩, ⟨none, (.store 5), [(.t 2), (.t 86)], none⟩, K1 3 .mv (iV 3)]) .ret) (.seq (.reg false [O1 88 (.fld 1) 5, O1 89 (.loadN 2) 88, O1 90 (.call 24) 89, O1 91 (.un .not) 90, O1 92 .mv 91, G1 93 (.fld 4) 5 92 false, G1 94 .load1 93 92 false, G1 95 (.call 25) 94 92 false, G1 96 (.un .not) 95 92 false, ⟨(some 97), .pick, [(.t 92), (.k (.bool true)), (.t 96)], none⟩, O1 87 .mv 97]) (.cond (.t 87) (.seq (.reg false [⟨(some 98), (.build [(iV 0), (iV 0), (iV 0), (.bool false), (.slice none 0 0)] []), [], none⟩, ⟨none, (.store 5), [(.t 2), (.t 98)], none⟩, K1 3 .mv (iV 1)]) .ret) .skip))))))) (.seq (.reg false [O1 99 (.loadN 5) 5, ⟨none, (.store 5), [(.t 2), (.t 99)], none⟩, K1 3 .mv (iV 0)]) .ret))))))))))), [(.bn 2 5), (.s 3)]⟩
theorem x30_ok : xfn Tryz.prog Tryz.f30 = some x30.er := by kernel_rfl
noncomputable def g30 : Con := fun args_ E_ nn_ => match args_ with
  | [.c (.n data)] => (match rowOf E_ data with
    | some (data_n, data_s, data_f) => some (.e (isRow eU8 data_n data_s data_f ∧ isEv (decL eU8 data_n data_f)) (.t [.a [.v (.int .i64 (evOf (decL eU8 data_n data_f)).tick), .v (.int .i64 (evOf (decL eU8 data_n data_f)).turn), .v (.int .i64 (evOf (decL eU8 data_n data_f)).fwd), .v (.bool (evOf (decL eU8 data_n data_f)).bump), .n (nn_ + 0)], .c (.v (.int .i64 (0)))]) [((nn_ + 0), .ro ((evOf (decL eU8 data_n data_f)).scan).length 2 (rowF eC ((evOf (decL eU8 data_n data_f)).scan))), (data, .ro ((decL eU8 data_n data_f)).length 1 (rowF eU8 ((decL eU8 data_n data_f))))] (nn_ + 1))
    | none => none)
  | _ => none
set_option maxHeartbeats 1000000 in
theorem c30 : COk Tryz.prog 30 g30 := by
  refine cok_d Tryz.func30 x30_ok (by kernel_rfl) (cok_tab (cok_cons c57 (cok_cons c58 (cok_cons c59 (cok_cons c24 (cok_cons c25 cok_nil)))))) ?_
  intro args_ E_ nn_ cr_ hg_
  unfold g30 at hg_
  split at hg_
  · rename_i data
    split at hg_
    · rename_i data_n data_s data_f h_data
      cases hg_
      refine ⟨_, _, _, _, rfl, 1, [data], [.c (.n 0)], [(0, .ro (decL eU8 data_n data_f).length eU8.sz (rowF eU8 (decL eU8 data_n data_f)))], .t [.a [.v (.int .i64 (evOf (decL eU8 data_n data_f)).tick), .v (.int .i64 (evOf (decL eU8 data_n data_f)).turn), .v (.int .i64 (evOf (decL eU8 data_n data_f)).fwd), .v (.bool (evOf (decL eU8 data_n data_f)).bump), .n 1], .c (.v (.int .i64 (0)))], [(1, .ro ((evOf (decL eU8 data_n data_f)).scan).length 2 (rowF eC ((evOf (decL eU8 data_n data_f)).scan))), (0, .ro ((decL eU8 data_n data_f)).length 1 (rowF eU8 ((decL eU8 data_n data_f))))], 2, rfl, rfl, by simp only [renE, Ent.ren, rowF_renf] <;> rfl, rfl, by decide, and4 (by simp only [push_cast, Nat.reduceLT, Nat.reduceAdd]) ⟨rfl, ⟨inE0_row h_data, trivial⟩, by simp only [keysNodup, outN, keys] <;> decide, rfl, .inr ⟨.inl rfl, trivial⟩, ?_⟩⟩
      intro hpre hlen
      obtain ⟨i_data, hpre⟩ := hpre
      refine ⟨⟨inE_row h_data i_data, trivial⟩, by simp only [apartE] <;> (first | trivial | (simp [Ent.mut]; done)), ?_⟩
      have z_data := lens_row (E := eU8) hlen h_data
      clear i_data
      generalize decL eU8 data_n data_f = dataL at *
      clear h_data
      obtain ⟨v, hv, rfl⟩ := hpre
      rw [evOf_enc hv]
      obtain ⟨R1, R2, R3, R4, b, a1, a2, a3, a4, a5, a6, a7, a8, a9, u0, u1, u2, u4⟩ := enc_parts hv
      have hl := encE_len hv
      obtain ⟨h1, h2, h3, h4⟩ := hv
      have f1 : (v.tick < 0) = False := eq_false (by omega)
      have f2 : ((1099511627776 : Int) < v.tick) = False := eq_false (by omega)
      simp (maxSteps := 9999999) only [x30, push_cast, simprocAttr, g57, g58, g59, g24, g25, a1, a2, a3, a5, a7, a8, a9, unz_zig, f1, f2]
      have z1 := zig_lt (n := v.tick) ⟨by omega, by omega⟩
      have z2 := zig_lt (n := v.turn) ⟨by omega, by omega⟩
      have z3 := zig_lt (n := v.fwd) ⟨by omega, by omega⟩
      rw [scanJ_iff] at h4
      refine ⟨⟨u0.1, u0.2, z1⟩, ⟨u1.1, u1.2, z2⟩, ⟨u2.1, u2.2, z3⟩, ⟨a4, a6⟩, ⟨u4.1, u4.2, by omega⟩, ?_⟩
      refine vcLoop_upd (α := {k : Nat // k ≤ v.scan.length}) [2, 4, 5] 2 (fun s => [(6, .o (.c (.v (.int .i64 (((v.scan.length - s.1 : Nat) : Int))))))]) (fun s => [(2, .box [.n 9, .v (.int .i64 0)] 116), (9, .ro (encBs (v.scan.drop s.1)).length 1 (rowF eU8 (encBs (v.scan.drop s.1)))), (3, .box [.v (.int .i64 v.tick), .v (.int .i64 v.turn), .v (.int .i64 v.fwd), .v (.bool v.bump), .n 10] 48), (10, .own (v.scan.take s.1).length 2 (rowF eC (v.scan.take s.1)) 106), (0, .ro (encE v).length 1 (rowF eU8 (encE v)))]) (fun s => v.scan.length - s.1) ⟨0, by omega⟩ ?_ ?_
      · simp only [push_cast, simprocAttr, g57, g58, g59, g24, g25]
        exact ⟨same_eq rfl, rfl⟩
      have hLd : ∀ j, (encBs (v.scan.drop j)).length ≤ 128 := fun j => by
        have := encBs_len (l := v.scan.drop j) fun b hb => h4.2 b (List.mem_of_mem_drop hb)
        rw [List.length_drop] at this; omega
      rintro ⟨k, hk⟩
      simp only
      rcases Nat.lt_or_ge k v.scan.length with hlt | hge
      · have hb := h4.2 _ (getD_inJ eC.dflt hlt)
        have hd := drop_cons eC.dflt hlt
        have ht : v.scan.take (k + 1) = v.scan.take k ++ [v.scan.getD k eC.dflt] := take_snoc eC.dflt hlt
        generalize v.scan.getD k eC.dflt = c at hb hd ht
        obtain ⟨cx, cy⟩ := c
        simp only at hb
        have b1 : rdU (encBs (v.scan.drop k)) = (cx.toNat, uintL (cy + 1).toNat ++ encBs (v.scan.drop (k + 1)), 0) := by
          rw [hd]; simp only [encBs, List.append_assoc]; exact rdU_uint _ (by omega)
        have b2 : rdU (uintL (cy + 1).toNat ++ encBs (v.scan.drop (k + 1))) = ((cy + 1).toNat, encBs (v.scan.drop (k + 1)), 0) := rdU_uint _ (by omega)
        have g1 : ((0 : Int) < ((v.scan.length - k : Nat) : Int)) = True := eq_true (by omega)
        have x1 : ((cx.toNat : Nat) : Int) = cx := by omega
        have x2 : IntKind.i64.wrap (((cy + 1).toNat : Int) - 1) = cy := by rw [wrapI (by omega) (by omega)]; omega
        simp (maxSteps := 9999999) only [x30L0, push_cast, simprocAttr, g57, g58, g59, g24, g25, b1, b2, g1, x1, x2]
        have l1 := hLd k
        have l2 := hLd (k + 1)
        have l3 := uintL_len 1 (cy + 1).toNat (by omega)
        refine ⟨⟨encBs_u8 _, by omega, by omega⟩, ⟨u8s_app (uintL_u8 _) (encBs_u8 _), by rw [List.length_append]; omega, by omega⟩, by rw [List.length_take]; omega, ⟨k + 1, by omega⟩, ⟨by rw [wrapI (by omega) (by omega)]; simp only; omega, same_eq rfl, push_eq (E := eC) (x := ⟨cx, cy⟩) ht⟩, by simp only; omega⟩
      obtain rfl : k = v.scan.length := by omega
      simp (maxSteps := 9999999) only [x30L0, push_cast, simprocAttr, g57, g58, g59, g24, g25, Nat.sub_self, List.drop_length, List.take_length, encBs]
      rintro (q | q)
      · exact q ⟨h2, h3⟩
      · rw [scanJ_iff.2 h4] at q; cases q
    · cases hg_
  · cases hg_
end Go.Proofs.YtkpdofgmmpbknaaGreat
