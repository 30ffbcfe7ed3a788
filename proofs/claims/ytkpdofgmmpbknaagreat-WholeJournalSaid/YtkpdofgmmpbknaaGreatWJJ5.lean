/- A part of the proof of a statement about this seat: how a function is stepped through, and plain laws. No conditions. -/
import Derived.Test.YtkpdofgmmpbknaaGreatRows
import Derived.Test.YtkpdofgmmpbknaaGreatWJSz4
import Derived.Test.YtkpdofgmmpbknaaGreatWJJ4
import Derived.KernelRfl
set_option linter.unusedVariables false
set_option linter.unusedSimpArgs false
set_option maxRecDepth 20000
namespace Go.Proofs.YtkpdofgmmpbknaaGreat
open Go.Sx Go.Way
def cmpT (a t : Int) : Int := if a < t then -1 else if t < a then 1 else 0
theorem cmpT_lt {a t : Int} : cmpT a t < 0 ↔ a < t := by
  unfold cmpT
  split
  · rename_i h; exact ⟨fun _ => h, fun _ => by decide⟩
  · split <;> exact ⟨fun q => absurd q (by decide), fun q => by omega⟩
def x61 : XFn := ⟨15, (.seq (.reg false [O1 2 (.box 48) 0, K1 4 .mv (iV 0)]) (.seq (.block 0 (.seq (.reg false [O1 6 (.fld 0) 2, O1 7 .load1 6, O1 8 .mv 1, O2 9 (.bin .lss) 7 8, O1 5 .mv 9]) (.cond (.t 5) (.seq (.reg false [K1 4 .mv (iV (-1))]) .ret) (.seq (.reg false [O1 11 (.fld 0) 2, O1 12 .load1 11, O1 13 .mv 1, O2 14 (.bin .gtr) 12 13, O1 10 .mv 14]) (.cond (.t 10) (.seq (.reg false [K1 4 .mv (iV 1)]) .ret) .skip))))) (.seq (.reg false [K1 4 .mv (iV 0)]) .ret))), [(.s 4)]⟩
theorem x61_ok : xfn Tryz.prog Tryz.f61 = some x61.er := by kernel_rfl
def x60L0 : XC := (.seq (.seq (.reg false [O1 15 .mv 9, O1 16 .mv 10, O2 17 (.bin .lss) 15 16]) (.cond (.t 17) .skip (.exit 0))) (.block 1 (.seq (.reg false [O1 18 .mv 9, O1 19 .mv 10, O2 20 (.bin .add) 18 19, O1 21 (.conv .u64) 20, K2 22 (.bin .shr) 21 (.int .u64 1), O1 23 (.conv .i64) 22, O1 11 .mv 23]) (.opn 0 11 4 (.seq (.reg false [O1 24 .mv 2, O1 25 .mv 0, O1 26 .mv 11, O2 27 (.ixS 5) 25 26, O1 28 (.loadN 5) 27, O1 29 .mv 1, ⟨(some 30), .callv, [(.t 24), (.t 28), (.t 29)], none⟩, K2 31 (.bin .lss) 30 (iV 0)]) (.cond (.t 31) (.reg false [O1 32 .mv 11, K2 33 (.bin .add) 32 (iV 1), O1 9 .mv 33]) (.reg false [O1 34 .mv 11, O1 10 .mv 34])))))))
def x60 : XFn := ⟨49, (.seq (.reg false [K1 6 .mv (iV 0), K1 7 .mv (.bool false)]) (.seq (.reg false [O1 12 .mv 0, O1 13 .lenS 12, O1 8 .mv 13]) (.seq (.reg false [O1 14 .mv 8, K1 9 .mv (iV 0), O1 10 .mv 14]) (.seq (.block 0 (.loop x60L0)) (.opn 0 9 4 (.seq (.reg false [O1 35 .mv 9, O1 36 .mv 9, O1 37 .mv 8, O2 38 (.bin .lss) 36 37, O1 39 .mv 38, G1 40 .mv 2 39 true, G1 41 .mv 0 39 true, G1 42 .mv 9 39 true, G2 43 (.ixS 5) 41 42 39 true, G1 44 (.loadN 5) 43 39 true, G1 45 .mv 1 39 true, ⟨(some 46), .callv, [(.t 40), (.t 44), (.t 45)], (some (39, true))⟩, GK 47 (.bin .eql) 46 (iV 0) 39 true, ⟨(some 48), .pick, [(.t 39), (.t 47), (.k (.bool false))], none⟩, O1 6 .mv 35, O1 7 .mv 48]) .ret)))))), [(.s 6), (.s 7)]⟩
theorem x60_ok : xfn Tryz.prog Tryz.f60 = some x60.er := by kernel_rfl
def x31 : XFn := ⟨17, (.seq (.reg false [K1 4 .mv (iV 0)]) (.seq (.reg false [O1 8 .mv 0, O1 9 .nilc 8, O1 10 (.fld 1) 9, O1 11 .load1 10, O1 12 .mv 1, ⟨(some 13), (.call 60), [(.t 11), (.t 12), (.k (.func (.func 61) #[] #[]))], none⟩, O1 7 .mv 13, O1 14 (.ext 0) 7, O1 15 (.ext 1) 7, O1 5 .mv 14, O1 6 .mv 15]) (.seq (.reg false [O1 16 .mv 5, O1 4 .mv 16]) .ret))), [(.s 4)]⟩
theorem x31_ok : xfn Tryz.prog Tryz.f31 = some x31.er := by kernel_rfl
def g61 : Con := fun args_ E_ nn_ => match args_ with
  | [.a [.v (.int .i64 e_Tick), .v (.int .i64 e_Command_Turn), .v (.int .i64 e_Command_Forward), .v (.bool e_Bump), .n e_Scan], .c (.v (.int .i64 t))] => (match rowOf E_ e_Scan with
    | some (e_Scan_n, e_Scan_s, e_Scan_f) => some (.q (isRow eC e_Scan_n e_Scan_s e_Scan_f ∧ True) (.o (.c (.v (.int .i64 (cmpT e_Tick t))))))
    | none => none)
  | _ => none
theorem c61 : COk Tryz.prog 61 g61 := by
  refine cok_q Tryz.func61 x61_ok (by kernel_rfl) (cok_tab cok_nil) ?_
  intro args_ E_ nn_ cr_ hg_
  unfold g61 at hg_
  split at hg_
  · rename_i e_Tick e_Command_Turn e_Command_Forward e_Bump e_Scan t
    split at hg_
    · rename_i e_Scan_n e_Scan_s e_Scan_f h_e_Scan
      cases hg_
      refine ⟨_, _, rfl, 1, [e_Scan], [.a [.v (.int .i64 e_Tick), .v (.int .i64 e_Command_Turn), .v (.int .i64 e_Command_Forward), .v (.bool e_Bump), .n 0], .c (.v (.int .i64 t))], [(0, .ro (decL eC e_Scan_n e_Scan_f).length eC.sz (rowF eC (decL eC e_Scan_n e_Scan_f)))], .o (.c (.v (.int .i64 (cmpT e_Tick t)))), rfl, rfl, and3 (by simp only [push_cast, Nat.reduceLT, Nat.reduceAdd]) ⟨rfl, ⟨inE0_row h_e_Scan, trivial⟩, rfl, ?_⟩⟩
      intro hpre hlen
      obtain ⟨i_e_Scan, hpre⟩ := hpre
      refine ⟨⟨inE_row h_e_Scan i_e_Scan, trivial⟩, ?_⟩
      have z_e_Scan := lens_row (E := eC) hlen h_e_Scan
      clear i_e_Scan
      generalize decL eC e_Scan_n e_Scan_f = e_ScanL at *
      clear h_e_Scan
      simp (maxSteps := 9999999) only [x61, push_cast, simprocAttr]
      refine ⟨fun h => ?_, fun h => ⟨fun h2 => ?_, fun h2 => ?_⟩⟩
      · unfold cmpT; rw [if_pos h]
      · unfold cmpT; rw [if_neg h, if_pos h2]
      · unfold cmpT; rw [if_neg h, if_neg h2]
    · cases hg_
  · cases hg_
def g60 : Con := fun args_ E_ nn_ => match args_ with
  | [.c (.n x), .c (.v (.int .i64 target)), .c (.v (.func (.func 61) f_a f_b))] => (match rowD eEvt.sz E_ x with
    | some (x_n, x_s, x_f, x_c) => some (.q (isDeep eEvt x_n x_s x_f x_c ∧ f_a = #[] ∧ f_b = #[] ∧ (∀ i, i < ((decD eEvt x_n x_f x_c)).length → (((decD eEvt x_n x_f x_c)).getD i eEvt.dflt).tick = (i : Int) + 1) ∧ 1 ≤ target ∧ target ≤ ((decD eEvt x_n x_f x_c)).length ∧ ((decD eEvt x_n x_f x_c)).length ≤ 100000) (.t [.c (.v (.int .i64 (target - 1))), .c (.v (.bool (true)))]))
    | none => none)
  | _ => none
theorem c60 : COk Tryz.prog 60 g60 := by
  refine cok_q Tryz.func60 x60_ok (by kernel_rfl) (cok_tab (cok_cons c61 cok_nil)) ?_
  intro args_ E_ nn_ cr_ hg_
  unfold g60 at hg_
  split at hg_
  · rename_i x target f_a f_b
    split at hg_
    · rename_i x_n x_s x_f x_c h_x
      cases hg_
      refine ⟨_, _, rfl, 1, [x], [.c (.n 0), .c (.v (.int .i64 target)), .c (.v (.func (.func 61) f_a f_b))], [(0, .deep none (decD eEvt x_n x_f x_c).length eEvt.sz (deepF eEvt (decD eEvt x_n x_f x_c) x_f) (deepC eEvt (decD eEvt x_n x_f x_c)) [])], .t [.c (.v (.int .i64 (target - 1))), .c (.v (.bool (true)))], rfl, rfl, and3 (by simp only [push_cast, Nat.reduceLT, Nat.reduceAdd]) ⟨rfl, ⟨inE0_deep h_x, trivial⟩, rfl, ?_⟩⟩
      intro hpre hlen
      obtain ⟨i_x, hpre⟩ := hpre
      refine ⟨⟨inE_deep h_x i_x, trivial⟩, ?_⟩
      have z_x := lens_deep (D := eEvt) hlen h_x
      clear i_x
      generalize decD eEvt x_n x_f x_c = xL at *
      clear h_x
      obtain ⟨rfl, rfl, h1, h2, h3, h4⟩ := hpre
      simp (maxSteps := 9999999) only [x60, push_cast, simprocAttr, g61]
      refine vcLoop_upd (α := {s : Nat × Nat // s.1 < target ∧ target ≤ (s.2 : Int) + 1 ∧ s.2 ≤ xL.length ∧ s.1 ≤ s.2}) [0, 1, 2, 8] 0 (fun s => [(9, .o (.c (.v (.int .i64 (s.1.1 : Nat))))), (10, .o (.c (.v (.int .i64 (s.1.2 : Nat)))))]) (fun s => []) (fun s => s.1.2 - s.1.1) ⟨(0, xL.length), by simp only; omega, by simp only; omega, by simp only; omega, by simp only; omega⟩ ?_ ?_
      · simp only [push_cast, simprocAttr, g61]
      rintro ⟨⟨i, k⟩, g1, g2, g3, g4⟩
      simp only at g1 g2 g3 g4
      simp only [x60L0, push_cast, simprocAttr, g61]
      have hm : IntKind.i64.wrap ((IntKind.u64.wrap (IntKind.i64.wrap ((i : Int) + (k : Int)))).fdiv (2 ^ min 1 IntKind.u64.bits)) = (((i + k) / 2 : Nat) : Int) := by
        have p1 : (2 : Int) ^ min 1 IntKind.u64.bits = 2 := by decide
        rw [p1, wrapI (n := (i : Int) + (k : Int)) (by omega) (by omega), show (i : Int) + (k : Int) = ((i + k : Nat) : Int) by omega, wrap64 (by omega), Int.fdiv_eq_ediv_of_nonneg _ (by omega), wrapI (by omega) (by omega)]
        omega
      rw [hm]
      simp only [Int.toNat_natCast]
      refine ⟨fun hlt => ?_, fun hge => ?_⟩
      · have ht := h1 ((i + k) / 2) (by omega)
        rw [ht]
        refine ⟨⟨by omega, by omega⟩, ⟨by omega, by omega⟩, by omega, fun hc => ?_, fun hc => ?_⟩
        · have hc2 := cmpT_lt.1 hc
          exact ⟨⟨((i + k) / 2 + 1, k), by simp only; omega, by simp only; omega, by simp only; omega, by simp only; omega⟩, ⟨by rw [wrapI (by omega) (by omega)]; simp only; omega, rfl⟩, by simp only; omega⟩
        · have hc2 : ¬ ((((i + k) / 2 : Nat) : Int) + 1 < target) := fun q => hc (cmpT_lt.2 q)
          exact ⟨⟨(i, (i + k) / 2), by simp only; omega, by simp only; omega, by simp only; omega, by simp only; omega⟩, ⟨rfl, rfl⟩, by simp only; omega⟩
      · have e : (i : Int) = target - 1 := by omega
        have ht := h1 i (by omega)
        exact ⟨by omega, e, by omega, by rw [ht, show target = (i : Int) + 1 by omega]; unfold cmpT; rw [if_neg (by omega), if_neg (by omega)]⟩
    · cases hg_
  · cases hg_
def g31 : Con := fun args_ E_ nn_ => match args_ with
  | [.c (.p j 0), .c (.v (.int .i64 tick))] => (match E_ j with
    | some (.box [.n j_bytes, .n j_events] j_ty) => (match rowOf E_ j_bytes with
    | some (j_bytes_n, j_bytes_s, j_bytes_f) => (match rowD eEvt.sz E_ j_events with
    | some (j_events_n, j_events_s, j_events_f, j_events_c) => some (.q (isRow eU8 j_bytes_n j_bytes_s j_bytes_f ∧ isDeep eEvt j_events_n j_events_s j_events_f j_events_c ∧ (∀ i, i < ((decD eEvt j_events_n j_events_f j_events_c)).length → (((decD eEvt j_events_n j_events_f j_events_c)).getD i eEvt.dflt).tick = (i : Int) + 1) ∧ 1 ≤ tick ∧ tick ≤ ((decD eEvt j_events_n j_events_f j_events_c)).length ∧ ((decD eEvt j_events_n j_events_f j_events_c)).length ≤ 100000) (.o (.c (.v (.int .i64 (tick - 1))))))
    | none => none)
    | none => none)
    | _ => none)
  | _ => none
theorem c31 : COk Tryz.prog 31 g31 := by
  refine cok_r Tryz.func31 x31_ok (by kernel_rfl) (cok_tab (cok_cons c60 cok_nil)) ?_
  intro args_ E_ nn_ cr_ hg_
  unfold g31 at hg_
  split at hg_
  · rename_i j tick
    split at hg_
    · rename_i j_bytes j_events j_ty h_j
      split at hg_
      · rename_i j_bytes_n j_bytes_s j_bytes_f h_j_bytes
        split at hg_
        · rename_i j_events_n j_events_s j_events_f j_events_c h_j_events
          cases hg_
          refine ⟨_, _, rfl, 3, [j, j_bytes, j_events], [.c (.p 0 0), .c (.v (.int .i64 tick))], [(0, .box [.n 1, .n 2] j_ty), (1, .ro (decL eU8 j_bytes_n j_bytes_f).length eU8.sz (rowF eU8 (decL eU8 j_bytes_n j_bytes_f))), (2, .deep none (decD eEvt j_events_n j_events_f j_events_c).length eEvt.sz (deepF eEvt (decD eEvt j_events_n j_events_f j_events_c) j_events_f) (deepC eEvt (decD eEvt j_events_n j_events_f j_events_c)) [])], .o (.c (.v (.int .i64 (tick - 1)))), rfl, rfl, and3 (by simp only [push_cast, Nat.reduceLT, Nat.reduceAdd]) ⟨rfl, ⟨⟨_, h_j⟩, inE0_row h_j_bytes, inE0_deep h_j_events, trivial⟩, rfl, ?_⟩⟩
          intro hpre hlen
          obtain ⟨i_j_bytes, hpre⟩ := hpre
          obtain ⟨i_j_events, hpre⟩ := hpre
          have hap : apartE (sg 3 nn_ [j, j_bytes, j_events]) [(0, .box [.n 1, .n 2] j_ty), (1, .ro (decL eU8 j_bytes_n j_bytes_f).length eU8.sz (rowF eU8 (decL eU8 j_bytes_n j_bytes_f))), (2, .deep none (decD eEvt j_events_n j_events_f j_events_c).length eEvt.sz (deepF eEvt (decD eEvt j_events_n j_events_f j_events_c) j_events_f) (deepC eEvt (decD eEvt j_events_n j_events_f j_events_c)) [])] [(0, .box [.n 1, .n 2] j_ty), (1, .ro (decL eU8 j_bytes_n j_bytes_f).length eU8.sz (rowF eU8 (decL eU8 j_bytes_n j_bytes_f))), (2, .deep none (decD eEvt j_events_n j_events_f j_events_c).length eEvt.sz (deepF eEvt (decD eEvt j_events_n j_events_f j_events_c) j_events_f) (deepC eEvt (decD eEvt j_events_n j_events_f j_events_c)) [])] := by
            refine ⟨fun _ k2 e2 hm hne => ?_, ?_⟩
            · simp only [List.mem_cons, List.not_mem_nil, or_false, Prod.mk.injEq] at hm
              rcases hm with ⟨rfl, _⟩ | ⟨rfl, _⟩ | ⟨rfl, _⟩
              · exact absurd rfl hne
              · exact fun hh => by
                  have hh2 : j_bytes = j := hh
                  have hh3 := h_j_bytes
                  rw [hh2] at hh3; unfold rowOf at hh3; rw [h_j] at hh3; cases hh3
              · exact fun hh => by
                  have hh2 : j_events = j := hh
                  have hh3 := h_j_events
                  rw [hh2] at hh3; unfold rowD at hh3; rw [h_j] at hh3; cases hh3
            refine ⟨fun h => by (cases h), ?_⟩
            refine ⟨fun h => by (cases h), ?_⟩
            trivial
          refine ⟨⟨⟨_, h_j, by simp only [leE, mapEq, SC.ren, and_true, true_and, and_self] <;> first | rfl | exact ⟨rfl, rfl⟩⟩, inE_row h_j_bytes i_j_bytes, inE_deep h_j_events i_j_events, trivial⟩, hap, ?_⟩
          have z_j_bytes := lens_row (E := eU8) hlen h_j_bytes
          have z_j_events := lens_deep (D := eEvt) hlen h_j_events
          clear i_j_bytes
          generalize decL eU8 j_bytes_n j_bytes_f = j_bytesL at *
          clear i_j_events
          generalize decD eEvt j_events_n j_events_f j_events_c = j_eventsL at *
          clear h_j_bytes
          clear h_j_events
          simp (maxSteps := 9999999) only [x31, push_cast, simprocAttr, g60]
          exact hpre
        · cases hg_
      · cases hg_
    · cases hg_
  · cases hg_
def x15 : XFn := ⟨41, (.seq (.reg false [⟨(some 4), (.alloc 48 [(iV 0), (iV 0), (iV 0), (.bool false), (.slice none 0 0)]), [], none⟩, K1 5 .mv (.bool false)]) (.seq (.seq (.reg false [O1 7 .mv 0, ⟨(some 8), (.x (.eqP false)), [(.t 7), (.k (.pointer none))], none⟩]) (.cond (.t 8) (.seq (.reg false [⟨(some 9), (.build [(iV 0), (iV 0), (iV 0), (.bool false), (.slice none 0 0)] []), [], none⟩, ⟨none, (.store 5), [(.t 4), (.t 9)], none⟩, K1 5 .mv (.bool false)]) .ret) .skip)) (.seq (.reg false [O1 10 .mv 0, O1 11 .mv 1, O2 12 (.call 31) 10 11, O1 6 .mv 12]) (.seq (.seq (.reg false [O1 13 .mv 6, O1 14 .mv 0, O1 15 .nilc 14, O1 16 (.fld 1) 15, O1 17 .load1 16, O1 18 .lenS 17, O2 19 (.bin .eql) 13 18, O1 20 .mv 19, G1 21 .mv 0 20 false, G1 22 .nilc 21 20 false, G1 23 (.fld 1) 22 20 false, G1 24 .load1 23 20 false, G1 25 .mv 6 20 false, G2 26 (.ixS 5) 24 25 20 false, G1 27 (.fld 0) 26 20 false, G1 28 .load1 27 20 false, G1 29 .mv 1 20 false, G2 30 (.bin .neq) 28 29 20 false, ⟨(some 31), .pick, [(.t 20), (.k (.bool true)), (.t 30)], none⟩]) (.cond (.t 31) (.seq (.reg false [⟨(some 32), (.build [(iV 0), (iV 0), (iV 0), (.bool false), (.slice none 0 0)] []), [], none⟩, ⟨none, (.store 5), [(.t 4), (.t 32)], none⟩, K1 5 .mv (.bool false)]) .ret) .skip)) (.opn 0 6 4 (.seq (.reg false [O1 33 .mv 0, O1 34 .nilc 33, O1 35 (.fld 1) 34, O1 36 .load1 35, O1 37 .mv 6, O2 38 (.ixS 5) 36 37, O1 39 (.loadN 5) 38, O1 40 (.call 28) 39, ⟨none, (.store 5), [(.t 4), (.t 40)], none⟩, K1 5 .mv (.bool true)]) .ret)))))), [(.bn 4 5), (.s 5)]⟩
theorem x15_ok : xfn Tryz.prog Tryz.f15 = some x15.er := by kernel_rfl
def g15 : Con := fun args_ E_ nn_ => match args_ with
  | [.c (.p j 0), .c (.v (.int .i64 tick))] => (match E_ j with
    | some (.box [.n j_bytes, .n j_events] j_ty) => (match rowOf E_ j_bytes with
    | some (j_bytes_n, j_bytes_s, j_bytes_f) => (match rowD eEvt.sz E_ j_events with
    | some (j_events_n, j_events_s, j_events_f, j_events_c) => some (.e (isRow eU8 j_bytes_n j_bytes_s j_bytes_f ∧ isDeep eEvt j_events_n j_events_s j_events_f j_events_c ∧ j_ty = 72 ∧ (∀ i, i < ((decD eEvt j_events_n j_events_f j_events_c)).length → (((decD eEvt j_events_n j_events_f j_events_c)).getD i eEvt.dflt).tick = (i : Int) + 1) ∧ 1 ≤ tick ∧ tick ≤ ((decD eEvt j_events_n j_events_f j_events_c)).length ∧ ((decD eEvt j_events_n j_events_f j_events_c)).length ≤ 100000 ∧ (((decD eEvt j_events_n j_events_f j_events_c)).getD (tick - 1).toNat eEvt.dflt).scan.length ≤ 100000) (.t [.a [.v (.int .i64 (((decD eEvt j_events_n j_events_f j_events_c)).getD (tick - 1).toNat eEvt.dflt).tick), .v (.int .i64 (((decD eEvt j_events_n j_events_f j_events_c)).getD (tick - 1).toNat eEvt.dflt).turn), .v (.int .i64 (((decD eEvt j_events_n j_events_f j_events_c)).getD (tick - 1).toNat eEvt.dflt).fwd), .v (.bool (((decD eEvt j_events_n j_events_f j_events_c)).getD (tick - 1).toNat eEvt.dflt).bump), .n (nn_ + 0)], .c (.v (.bool (true)))]) [((nn_ + 0), .own ((((decD eEvt j_events_n j_events_f j_events_c)).getD (tick - 1).toNat eEvt.dflt).scan).length 2 (rowF eC ((((decD eEvt j_events_n j_events_f j_events_c)).getD (tick - 1).toNat eEvt.dflt).scan)) 106), (j, .box [.n j_bytes, .n j_events] 72)] (nn_ + 1))
    | none => none)
    | none => none)
    | _ => none)
  | _ => none
theorem c15 : COk Tryz.prog 15 g15 := by
  refine cok_d Tryz.func15 x15_ok (by kernel_rfl) (cok_tab (cok_cons c31 (cok_cons c28w cok_nil))) ?_
  intro args_ E_ nn_ cr_ hg_
  unfold g15 at hg_
  split at hg_
  · rename_i j tick
    split at hg_
    · rename_i j_bytes j_events j_ty h_j
      split at hg_
      · rename_i j_bytes_n j_bytes_s j_bytes_f h_j_bytes
        split at hg_
        · rename_i j_events_n j_events_s j_events_f j_events_c h_j_events
          cases hg_
          refine ⟨_, _, _, _, rfl, 3, [j, j_bytes, j_events], [.c (.p 0 0), .c (.v (.int .i64 tick))], [(0, .box [.n 1, .n 2] j_ty), (1, .ro (decL eU8 j_bytes_n j_bytes_f).length eU8.sz (rowF eU8 (decL eU8 j_bytes_n j_bytes_f))), (2, .deep none (decD eEvt j_events_n j_events_f j_events_c).length eEvt.sz (deepF eEvt (decD eEvt j_events_n j_events_f j_events_c) j_events_f) (deepC eEvt (decD eEvt j_events_n j_events_f j_events_c)) [])], .t [.a [.v (.int .i64 (((decD eEvt j_events_n j_events_f j_events_c)).getD (tick - 1).toNat eEvt.dflt).tick), .v (.int .i64 (((decD eEvt j_events_n j_events_f j_events_c)).getD (tick - 1).toNat eEvt.dflt).turn), .v (.int .i64 (((decD eEvt j_events_n j_events_f j_events_c)).getD (tick - 1).toNat eEvt.dflt).fwd), .v (.bool (((decD eEvt j_events_n j_events_f j_events_c)).getD (tick - 1).toNat eEvt.dflt).bump), .n 3], .c (.v (.bool (true)))], [(3, .own ((((decD eEvt j_events_n j_events_f j_events_c)).getD (tick - 1).toNat eEvt.dflt).scan).length 2 (rowF eC ((((decD eEvt j_events_n j_events_f j_events_c)).getD (tick - 1).toNat eEvt.dflt).scan)) 106), (0, .box [.n 1, .n 2] 72)], 4, rfl, rfl, by simp only [renE, Ent.ren, rowF_renf] <;> rfl, rfl, by decide, and4 (by simp only [push_cast, Nat.reduceLT, Nat.reduceAdd]) ⟨rfl, ⟨⟨_, h_j⟩, inE0_row h_j_bytes, inE0_deep h_j_events, trivial⟩, by simp only [keysNodup, outN, keys] <;> decide, rfl, .inl rfl, ?_⟩⟩
          intro hpre hlen
          obtain ⟨i_j_bytes, hpre⟩ := hpre
          obtain ⟨i_j_events, hpre⟩ := hpre
          have hap : apartE (sg 3 nn_ [j, j_bytes, j_events]) [(0, .box [.n 1, .n 2] j_ty), (1, .ro (decL eU8 j_bytes_n j_bytes_f).length eU8.sz (rowF eU8 (decL eU8 j_bytes_n j_bytes_f))), (2, .deep none (decD eEvt j_events_n j_events_f j_events_c).length eEvt.sz (deepF eEvt (decD eEvt j_events_n j_events_f j_events_c) j_events_f) (deepC eEvt (decD eEvt j_events_n j_events_f j_events_c)) [])] [(0, .box [.n 1, .n 2] j_ty), (1, .ro (decL eU8 j_bytes_n j_bytes_f).length eU8.sz (rowF eU8 (decL eU8 j_bytes_n j_bytes_f))), (2, .deep none (decD eEvt j_events_n j_events_f j_events_c).length eEvt.sz (deepF eEvt (decD eEvt j_events_n j_events_f j_events_c) j_events_f) (deepC eEvt (decD eEvt j_events_n j_events_f j_events_c)) [])] := by
            refine ⟨fun _ k2 e2 hm hne => ?_, ?_⟩
            · simp only [List.mem_cons, List.not_mem_nil, or_false, Prod.mk.injEq] at hm
              rcases hm with ⟨rfl, _⟩ | ⟨rfl, _⟩ | ⟨rfl, _⟩
              · exact absurd rfl hne
              · exact fun hh => by
                  have hh2 : j_bytes = j := hh
                  have hh3 := h_j_bytes
                  rw [hh2] at hh3; unfold rowOf at hh3; rw [h_j] at hh3; cases hh3
              · exact fun hh => by
                  have hh2 : j_events = j := hh
                  have hh3 := h_j_events
                  rw [hh2] at hh3; unfold rowD at hh3; rw [h_j] at hh3; cases hh3
            refine ⟨fun h => by (cases h), ?_⟩
            refine ⟨fun h => by (cases h), ?_⟩
            trivial
          refine ⟨⟨⟨_, h_j, by simp only [leE, mapEq, SC.ren, and_true, true_and, and_self] <;> first | rfl | exact ⟨rfl, rfl⟩⟩, inE_row h_j_bytes i_j_bytes, inE_deep h_j_events i_j_events, trivial⟩, hap, ?_⟩
          have z_j_bytes := lens_row (E := eU8) hlen h_j_bytes
          have z_j_events := lens_deep (D := eEvt) hlen h_j_events
          clear i_j_bytes
          generalize decL eU8 j_bytes_n j_bytes_f = j_bytesL at *
          clear i_j_events
          generalize decD eEvt j_events_n j_events_f j_events_c = j_eventsL at *
          clear h_j_bytes
          clear h_j_events
          obtain ⟨rfl, hpre⟩ := hpre
          simp (maxSteps := 9999999) only [x15, push_cast, simprocAttr, g31, g28w]
          obtain ⟨a1, a2, a3, a4, a5⟩ := hpre
          have ht := a1 (tick - 1).toNat (by omega)
          refine ⟨⟨a1, a2, a3, a4⟩, fun h => ⟨h, by omega, by omega⟩, fun h => ⟨h, by omega⟩, ?_, fun _ _ => ⟨⟨by omega, by omega⟩, ⟨by omega, by omega⟩, by omega, a5⟩⟩
          rintro (q | q)
          · omega
          · exact q (by rw [ht]; omega)
        · cases hg_
      · cases hg_
    · cases hg_
  · cases hg_
def x14L0 : XC := (.seq (.reg false [O2 14 (.bin .lss) 13 12]) (.seq (.cond (.t 14) .skip (.exit 0)) (.seq (.opn 11 13 4 (.block 1 (.seq (.reg false [O2 15 (.ixS 5) 11 13, O1 16 (.loadN 5) 15, ⟨(some 5), (.alloc 48 [(iV 0), (iV 0), (iV 0), (.bool false), (.slice none 0 0)]), [], none⟩, ⟨none, (.store 5), [(.t 5), (.t 16)], none⟩]) (.spl 3 (.reg false [O1 17 .mv 3, O1 18 (.loadN 5) 5, O1 19 (.call 28) 18, ⟨(some 20), (.slit 48 1 5 [(iV 0), (iV 0), (iV 0), (.bool false), (.slice none 0 0)] [(0, 5)]), [(.t 19)], none⟩, O2 21 (.app 48 5 56) 17 20, O1 3 .mv 21]))))) (.mrg 3 (.reg false [K2 22 (.bin .add) 13 (iV 1), O1 13 .mv 22])))))
def x14 : XFn := ⟨24, (.seq (.reg false [K1 2 .mv (.slice none 0 0)]) (.seq (.reg false [K1 3 .mv (.slice none 0 0)]) (.seq (.seq (.reg false [O1 6 .mv 0, ⟨(some 7), (.x (.eqP true)), [(.t 6), (.k (.pointer none))], none⟩]) (.cond (.t 7) (.seq (.reg false [O1 8 .mv 0, O1 9 .nilc 8, O1 10 (.fld 1) 9, O1 11 .load1 10, O1 12 .lenS 11, K1 13 .mv (iV 0)]) (.block 0 (.loop x14L0))) .skip)) (.seq (.reg false [O1 23 .mv 3, O1 2 .mv 23]) .ret)))), [(.s 2)]⟩
theorem x14_ok : xfn Tryz.prog Tryz.f14 = some x14.er := by kernel_rfl
noncomputable def g14 : Con := fun args_ E_ nn_ => match args_ with
  | [.c (.p j 0)] => (match E_ j with
    | some (.box [.n b, .n v] j_ty) => (match E_ b with
      | some (.own b_n b_s b_f b_ty) => (match E_ v with
        | some (.deep (some v_ty) v_n v_s v_f v_c v_al) => some (.d (j_ty = 72 ∧ isRow eU8 b_n b_s b_f ∧ b_s = 1 ∧ b_ty = 5 ∧ isDeep eEvt v_n v_s v_f v_c ∧ v_ty = 48 ∧ (((decD eEvt v_n v_f v_c)).length ≤ 100000 ∧ ∀ x ∈ (decD eEvt v_n v_f v_c), x.scan.length ≤ 100000)) (.o (.c (.n (nn_ + 0)))) (fun G_ => [(j, .box [.n b, .n v] 72), (b, .own ((decL eU8 b_n b_f)).length 1 (rowF eU8 ((decL eU8 b_n b_f))) 5), (v, .deep (some 48) ((decD eEvt v_n v_f v_c)).length 5 (deepF eEvt ((decD eEvt v_n v_f v_c)) v_f) (deepC eEvt ((decD eEvt v_n v_f v_c))) []), ((nn_ + 0), .deep (some 48) ((decD eEvt v_n v_f v_c)).length 5 (deepF eEvt ((decD eEvt v_n v_f v_c)) G_) (deepC eEvt ((decD eEvt v_n v_f v_c))) [])]) (nn_ + 1))
        | _ => none)
      | _ => none)
    | _ => none)
  | _ => none
set_option maxHeartbeats 1000000 in
theorem c14 : COk Tryz.prog 14 g14 := by
  refine cok_g Tryz.func14 x14_ok (by kernel_rfl) (cok_tab (cok_cons c28 cok_nil)) ?_
  intro args_ E_ nn_ cr_ hg_
  unfold g14 at hg_
  split at hg_
  · rename_i j 
    split at hg_
    · rename_i b v j_ty h_j
      split at hg_
      · rename_i b_n b_s b_f b_ty h_b
        split at hg_
        · rename_i v_ty v_n v_s v_f v_c v_al h_v
          cases hg_
          refine ⟨_, _, _, _, rfl, 3, [j, b, v], [.c (.p 0 0)], [(0, .box [.n 1, .n 2] j_ty), (1, .own (decL eU8 b_n b_f).length eU8.sz (rowF eU8 (decL eU8 b_n b_f)) b_ty), (2, .deep (some v_ty) (decD eEvt v_n v_f v_c).length eEvt.sz (deepF eEvt (decD eEvt v_n v_f v_c) v_f) (deepC eEvt (decD eEvt v_n v_f v_c)) [])], .o (.c (.n 3)), (fun G_ => [(0, .box [.n 1, .n 2] 72), (1, .own ((decL eU8 b_n b_f)).length 1 (rowF eU8 ((decL eU8 b_n b_f))) 5), (2, .deep (some 48) ((decD eEvt v_n v_f v_c)).length 5 (deepF eEvt ((decD eEvt v_n v_f v_c)) v_f) (deepC eEvt ((decD eEvt v_n v_f v_c))) []), (3, .deep (some 48) ((decD eEvt v_n v_f v_c)).length 5 (deepF eEvt ((decD eEvt v_n v_f v_c)) G_) (deepC eEvt ((decD eEvt v_n v_f v_c))) [])]), 4, rfl, rfl, (fun _ => by simp only [renE, Ent.ren, renAl, rowF_renf] <;> rfl), rfl, by decide, by simp only [push_cast, simprocAttr], by simp only [push_cast, simprocAttr], by simp only [push_cast, simprocAttr], (fun _ => by simp only [push_cast, simprocAttr]), rfl, ⟨⟨_, h_j⟩, ⟨_, h_b⟩, ⟨_, h_v⟩, trivial⟩, (fun _ => by simp only [keysNodup, outN, keys] <;> decide), (fun _ => rfl), (fun _ => .inr ⟨.inl rfl, .inl rfl, .inl rfl, trivial⟩), ?_⟩
          intro hpre hlen
          obtain ⟨rfl, hb1, rfl, rfl, hv1, rfl, hpre⟩ := hpre
          have njb : j ≠ b := fun h => by subst h; rw [h_j] at h_b; cases h_b
          have njv : j ≠ v := fun h => by subst h; rw [h_j] at h_v; cases h_v
          have nbv : b ≠ v := fun h => by subst h; rw [h_b] at h_v; cases h_v
          refine ⟨⟨⟨_, h_j, by simp only [leE, mapEq, SC.ren, and_true, true_and, and_self] <;> first | rfl | exact ⟨rfl, rfl⟩⟩, inE_own h_b hb1 rfl, inE_deepO h_v hv1, trivial⟩, ?_, ?_⟩
          · refine ⟨fun _ k2 e2 hm hne => ?_, ?_⟩
            · simp only [List.mem_cons, List.not_mem_nil, or_false, Prod.mk.injEq] at hm
              rcases hm with ⟨rfl, _⟩ | ⟨rfl, _⟩ | ⟨rfl, _⟩
              · exact absurd rfl hne
              · exact fun (hh : b = j) => njb hh.symm
              · exact fun (hh : v = j) => njv hh.symm
            refine ⟨fun _ k2 e2 hm hne => ?_, ?_⟩
            · simp only [List.mem_cons, List.not_mem_nil, or_false, Prod.mk.injEq] at hm
              rcases hm with ⟨rfl, _⟩ | ⟨rfl, _⟩ | ⟨rfl, _⟩
              · exact fun (hh : j = b) => njb hh
              · exact absurd rfl hne
              · exact fun (hh : v = b) => nbv hh.symm
            refine ⟨fun _ k2 e2 hm hne => ?_, ?_⟩
            · simp only [List.mem_cons, List.not_mem_nil, or_false, Prod.mk.injEq] at hm
              rcases hm with ⟨rfl, _⟩ | ⟨rfl, _⟩ | ⟨rfl, _⟩
              · exact fun (hh : j = v) => njv hh
              · exact fun (hh : b = v) => nbv hh
              · exact absurd rfl hne
            trivial
          have z_b : (decL eU8 b_n b_f).length ≤ 9223372036854775807 := by rw [decL_len]; exact hlen _ _ h_b
          have z_v : (decD eEvt v_n v_f v_c).length ≤ 9223372036854775807 := by rw [decD_len]; exact hlen _ _ h_v
          clear hb1 hv1 
          generalize (decL eU8 b_n b_f) = BL at *
          generalize (decD eEvt v_n v_f v_c) = LL at *
          obtain ⟨hL, hS⟩ := hpre
          simp (maxSteps := 9999999) only [x14, push_cast, simprocAttr, g28]
          refine vcLoop_upd (α := {s : Nat × (Nat → Nat → Value) // s.1 ≤ LL.length}) [11, 12] 1 (fun s => [(3, .o (.c (.n 3))), (13, .o (.c (.v (.int .i64 (s.1.1 : Nat)))))]) (fun s => [(3, .deep (some 48) (LL.take s.1.1).length 5 (deepF eEvt (LL.take s.1.1) s.1.2) (deepC eEvt (LL.take s.1.1)) []), (0, .box [.n 1, .n 2] 72), (1, .own (BL).length 1 (rowF eU8 (BL)) 5), (2, .deep (some 48) (LL).length 5 (deepF eEvt (LL) v_f) (deepC eEvt (LL)) [])]) (fun s => LL.length - s.1.1) ⟨(0, fun _ _ => .bool false), by simp only; omega⟩ ?_ ?_
          · simp only [push_cast, simprocAttr, g28]
            rfl
          rintro ⟨⟨k, V⟩, hk⟩
          simp only at hk
          simp (maxSteps := 9999999) only [x14L0, push_cast, simprocAttr, g28]
          have hkl : (LL.take k).length = k := by rw [List.length_take]; omega
          refine ⟨fun hlt => ⟨hlt, hlt, hlt, hS _ (getD_inJ eEvt.dflt hlt), by omega, ⟨by omega, mrgOk_push' rfl fun e j _ _ => okM_lit ?_ e j⟩, fun F' hF => ⟨⟨(k + 1, F'), by simp only; omega⟩, ⟨wrapI (by omega) (by omega), by simp only [List.length_take]; omega, deep_push' (D := eEvt) (X := [LL.getD k eEvt.dflt]) rfl rfl (take_snoc eEvt.dflt hlt) hF (push_evt (mrg1_ro (E := eC) rfl rfl rfl))⟩, by simp only; omega⟩⟩, fun hge => ?_⟩
          · intro c hc
            simp only [List.mem_cons, List.not_mem_nil, or_false] at hc
            rcases hc with rfl | rfl | rfl | rfl | rfl
            · trivial
            · trivial
            · trivial
            · trivial
            · exact okM_ro (E := eC) rfl
          · obtain rfl : k = LL.length := by omega
            rw [List.take_length]
            exact ⟨V, rfl, fun _ _ _ _ => ⟨rfl, cEq_refl _⟩⟩
        · cases hg_
      · cases hg_
    · cases hg_
  · cases hg_
end Go.Proofs.YtkpdofgmmpbknaaGreat
namespace Go.Proofs.YtkpdofgmmpbknaaGreat
open Go.Sx Go.Way
def framesL : List EvtL → List Int
  | [] => []
  | v :: l => frL 1 (encE v) ++ framesL l
theorem framesL_app (l k : List EvtL) : framesL (l ++ k) = framesL l ++ framesL k := by
  induction l with
  | nil => rfl
  | cons v l ih => simp [framesL, ih]
def okEvs (L : List EvtL) : Prop := L.length ≤ 300 ∧ ∀ i, i < L.length → okEv (L.getD i eEvt.dflt) ∧ (L.getD i eEvt.dflt).tick = (i : Int) + 1
def partF (p : List Int) : Prop := p = [] ∨ ∃ v q, okEv v ∧ q ≠ [] ∧ p ++ q = frL 1 (encE v)
theorem frL_1 {v : EvtL} (h : okEv v) : (frL 1 (encE v)).length ≤ 177 := by
  have := encE_len h
  rw [frL_len]
  have := uintL_len 1 (encE v).length (by omega)
  omega
theorem framesL_len : ∀ {l : List EvtL}, (∀ v ∈ l, okEv v) → (framesL l).length ≤ 177 * l.length
  | [], _ => by simp [framesL]
  | v :: l, h => by
    have := frL_1 (h v List.mem_cons_self)
    have := framesL_len fun x hx => h x (List.mem_cons_of_mem _ hx)
    simp only [framesL, List.length_append, List.length_cons]; omega
theorem okEvs_mem {L : List EvtL} (h : okEvs L) : ∀ v ∈ L, okEv v := by
  intro v hv
  obtain ⟨i, hi, rfl⟩ := List.getElem_of_mem hv
  have := (h.2 i hi).1
  rwa [List.getD_eq_getElem?_getD, List.getElem?_eq_getElem hi, Option.getD_some] at this
theorem framesL_u8 : ∀ l : List EvtL, u8s (framesL l)
  | [] => fun x hx => by simp [framesL] at hx
  | v :: l => u8s_app (chkL_u8 (by
      intro x hx
      rcases List.mem_cons.1 hx with rfl | hx
      · omega
      · exact u8s_app (uintL_u8 _) (encE_u8 v) x hx)) (framesL_u8 l)
theorem unf_of {v : EvtL} (h : okEv v) (r : List Int) : unf (frL 1 (encE v) ++ r) = (1, encE v, r, 0) := unf_fr (by have := encE_len h; omega)
theorem unf_pt {p : List Int} (h : partF p) : (unf p).2.2.2 = 4 := by
  rcases h with rfl | ⟨v, q, hv, hq, he⟩
  · rfl
  · exact unf_part he hq (by have := encE_len hv; omega)
theorem frames_uniq : ∀ {l k : List EvtL} {p q : List Int}, (∀ v ∈ l, okEv v) → (∀ v ∈ k, okEv v) → partF p → partF q → framesL l ++ p = framesL k ++ q → l = k ∧ p = q
  | [], [], p, q, _, _, _, _, h => ⟨rfl, h⟩
  | [], w :: k, p, q, _, h2, h3, _, h => by
    have e1 := unf_pt h3
    simp only [framesL, List.nil_append, List.append_assoc] at h
    rw [h, unf_of (h2 w List.mem_cons_self)] at e1
    simp at e1
  | v :: l, [], p, q, h1, _, _, h4, h => by
    have e1 := unf_pt h4
    simp only [framesL, List.nil_append, List.append_assoc] at h
    rw [← h, unf_of (h1 v List.mem_cons_self)] at e1
    simp at e1
  | v :: l, w :: k, p, q, h1, h2, h3, h4, h => by
    simp only [framesL, List.append_assoc] at h
    have hv := h1 v List.mem_cons_self
    have hw := h2 w List.mem_cons_self
    have e1 := unf_of hv (framesL l ++ p)
    rw [h, unf_of hw] at e1
    simp only [Prod.mk.injEq, true_and, and_true] at e1
    have := encE_inj hv hw e1.1.symm
    subst this
    obtain ⟨rfl, rfl⟩ := frames_uniq (fun x hx => h1 x (List.mem_cons_of_mem _ hx)) (fun x hx => h2 x (List.mem_cons_of_mem _ hx)) h3 h4 e1.2.symm
    exact ⟨rfl, rfl⟩
def cutJ (b : List Int) (vs : List EvtL) (p : List Int) : Prop := b = magicL ++ (framesL vs ++ p) ∧ okEvs vs ∧ partF p
def isCut (b : List Int) : Prop := ∃ vs p, cutJ b vs p
open Classical in
noncomputable def cutV (b : List Int) : List EvtL := if h : isCut b then h.choose else []
open Classical in
noncomputable def cutP (b : List Int) : List Int := if h : isCut b then h.choose_spec.choose else []
theorem cut_eq {b : List Int} {vs : List EvtL} {p : List Int} (h : cutJ b vs p) : cutV b = vs ∧ cutP b = p := by
  have h2 : isCut b := ⟨vs, p, h⟩
  have h3 := h2.choose_spec.choose_spec
  unfold cutV cutP
  rw [dif_pos h2, dif_pos h2]
  have e := h3.1.symm.trans h.1
  exact frames_uniq (okEvs_mem h3.2.1) (okEvs_mem h.2.1) h3.2.2 h.2.2 (List.append_cancel_left e)
theorem okEvs_last {L : List EvtL} (h : okEvs L) {k : Nat} (hk : k ≤ L.length) : lastT (L.take k) = (k : Int) := by
  unfold lastT
  rw [List.length_take, Nat.min_eq_left hk]
  split
  · omega
  · have := (h.2 (k - 1) (by omega)).2
    rw [List.getD_eq_getElem?_getD, List.getElem?_take] at *
    rw [if_pos (by omega)]
    rw [this]; omega
theorem okEvs_take {L : List EvtL} (h : okEvs L) (k : Nat) : okEvs (L.take k) := by
  refine ⟨by rw [List.length_take]; have := h.1; omega, fun i hi => ?_⟩
  rw [List.length_take] at hi
  have := h.2 i (by omega)
  rw [List.getD_eq_getElem?_getD, List.getElem?_take, if_pos (by omega)]
  rwa [List.getD_eq_getElem?_getD] at this
theorem framesL_snoc {L : List EvtL} {k : Nat} (h : k < L.length) : framesL (L.take (k + 1)) = framesL (L.take k) ++ frL 1 (encE (L.getD k eEvt.dflt)) := by
  rw [take_snoc eEvt.dflt h, framesL_app]; simp [framesL]
def x11L0 : XC := (.block 1 (.seq (.reg false [O1 23 .mv 6, O1 24 (.call 29) 23, O1 22 .mv 24, O1 25 (.ext 0) 22, O1 26 (.ext 1) 22, O1 27 (.ext 2) 22, O1 28 (.ext 3) 22, O1 7 .mv 25, O1 8 .mv 26, O1 9 .mv 27, O1 10 .mv 28]) (.seq (.seq (.reg false [O1 29 .mv 10, K2 30 (.bin .neq) 29 (iV 0), O1 31 .mv 30, G1 32 .mv 7 31 false, GK 33 (.bin .neq) 32 (.int .u8 1) 31 false, ⟨(some 34), .pick, [(.t 31), (.k (.bool true)), (.t 33)], none⟩]) (.cond (.t 34) (.exit 0) .skip)) (.seq (.reg false [O1 36 .mv 8, O1 37 (.call 30) 36, O1 35 .mv 37, O1 38 (.ext 0) 35, O1 39 (.ext 1) 35, ⟨(some 11), (.alloc 48 [(iV 0), (iV 0), (iV 0), (.bool false), (.slice none 0 0)]), [], none⟩, ⟨none, (.store 5), [(.t 11), (.t 38)], none⟩, O1 10 .mv 39]) (.seq (.seq (.reg false [O1 40 .mv 10, K2 41 (.bin .neq) 40 (iV 0), O1 42 .mv 41, G1 43 .mv 5 42 false, G1 44 (.loadN 5) 11 42 false, G2 45 (.call 9) 43 44 42 false, GK 46 (.bin .neq) 45 (iV 0) 42 false, ⟨(some 47), .pick, [(.t 42), (.k (.bool true)), (.t 46)], none⟩]) (.cond (.t 47) (.exit 0) .skip)) (.reg false [O1 48 .mv 9, O1 6 .mv 48]))))))
def x11b : XC := (.seq (.regD [⟨(some 19), (.call 7), [], none⟩, O1 20 .mv 0, K2 21 (.slc 1 true false false) 20 (iV 4), O1 5 .mv 19, O1 6 .mv 21] [[], [], [1], [0], [2, 1, 3, 0]]) (.seq (.block 0 (.loop x11L0)) (.seq (.reg false [O1 49 .mv 5, O1 50 .mv 6, O1 51 .lenS 50, O1 2 .mv 49, O1 3 .mv 51, K1 4 .mv (iV 0)]) .ret)))
def x11 : XFn := ⟨52, (.seq (.reg false [K1 2 .mv (.pointer none), K1 3 .mv (iV 0), K1 4 .mv (iV 0)]) (.seq (.seq (.reg false [O1 12 .mv 0, O1 13 .lenS 12, K2 14 (.bin .lss) 13 (iV 4)]) (.cond (.t 14) (.seq (.reg false [K1 2 .mv (.pointer none), K1 3 .mv (iV 0), K1 4 .mv (iV 4)]) .ret) .skip)) (.seq (.seq (.reg false [O1 15 .mv 0, K2 16 (.slc 1 false true false) 15 (iV 4), O1 17 (.x .str) 16, ⟨(some 18), (.x (.sbin .neq)), [(.t 17), (.k (.string ⟨#[87, 70, 74, 49]⟩))], none⟩]) (.cond (.t 18) (.seq (.reg false [K1 2 .mv (.pointer none), K1 3 .mv (iV 0), K1 4 .mv (iV 3)]) .ret) .skip)) x11b))), [(.s 2), (.s 3), (.s 4)]⟩
theorem x11_ok : xfn Tryz.prog Tryz.f11 = some x11.er := by kernel_rfl
noncomputable def g11 : Con := fun args_ E_ nn_ => match args_ with
  | [.c (.n b)] => (match rowOf E_ b with
    | some (b_n, b_s, b_f) => some (.d (isRow eU8 b_n b_s b_f ∧ isCut (decL eU8 b_n b_f) ∧ u8s (decL eU8 b_n b_f) ∧ ((decL eU8 b_n b_f)).length ≤ 65000) (.t [.c (.p (nn_ + 0) 0), .c (.v (.int .i64 (((cutP (decL eU8 b_n b_f)).length : Nat)))), .c (.v (.int .i64 (0)))]) (fun G_ => [((nn_ + 0), .box [.n (nn_ + 1), .n (nn_ + 2)] 72), ((nn_ + 1), .own (magicL ++ framesL (cutV (decL eU8 b_n b_f))).length 1 (rowF eU8 (magicL ++ framesL (cutV (decL eU8 b_n b_f)))) 5), ((nn_ + 2), .deep (some 48) (cutV (decL eU8 b_n b_f)).length 5 (deepF eEvt (cutV (decL eU8 b_n b_f)) G_) (deepC eEvt (cutV (decL eU8 b_n b_f))) []), (b, .ro ((decL eU8 b_n b_f)).length 1 (rowF eU8 ((decL eU8 b_n b_f))))]) (nn_ + 3))
    | none => none)
  | _ => none
set_option maxHeartbeats 1000000 in
theorem c11 : COk Tryz.prog 11 g11 := by
  refine cok_g Tryz.func11 x11_ok (by kernel_rfl) (cok_tab (cok_cons c7 (cok_cons c29 (cok_cons c30 (cok_cons c9 cok_nil))))) ?_
  intro args_ E_ nn_ cr_ hg_
  unfold g11 at hg_
  split at hg_
  · rename_i b
    split at hg_
    · rename_i b_n b_s b_f h_b
      cases hg_
      refine ⟨_, _, _, _, rfl, 1, [b], [.c (.n 0)], [(0, .ro (decL eU8 b_n b_f).length eU8.sz (rowF eU8 (decL eU8 b_n b_f)))], .t [.c (.p 1 0), .c (.v (.int .i64 (((cutP (decL eU8 b_n b_f)).length : Nat)))), .c (.v (.int .i64 (0)))], (fun G_ => [(1, .box [.n 2, .n 3] 72), (2, .own (magicL ++ framesL (cutV (decL eU8 b_n b_f))).length 1 (rowF eU8 (magicL ++ framesL (cutV (decL eU8 b_n b_f)))) 5), (3, .deep (some 48) (cutV (decL eU8 b_n b_f)).length 5 (deepF eEvt (cutV (decL eU8 b_n b_f)) G_) (deepC eEvt (cutV (decL eU8 b_n b_f))) []), (0, .ro ((decL eU8 b_n b_f)).length 1 (rowF eU8 ((decL eU8 b_n b_f))))]), 4, rfl, rfl, (fun _ => by simp only [renE, Ent.ren, renAl, rowF_renf] <;> rfl), rfl, by decide, by simp only [push_cast, Nat.reduceLT, Nat.reduceAdd], by simp only [push_cast, Nat.reduceLT, Nat.reduceAdd], by simp only [push_cast, Nat.reduceLT, Nat.reduceAdd], (fun _ => by simp only [push_cast, Nat.reduceLT, Nat.reduceAdd]), rfl, ⟨inE0_row h_b, trivial⟩, (fun _ => by simp only [keysNodup, outN, keys] <;> decide), (fun _ => rfl), (fun _ => .inr ⟨.inl rfl, trivial⟩), ?_⟩
      intro hpre hlen
      obtain ⟨i_b, hpre⟩ := hpre
      refine ⟨⟨inE_row h_b i_b, trivial⟩, by simp only [apartE] <;> (first | trivial | (simp [Ent.mut]; done)), ?_⟩
      have z_b := lens_row (E := eU8) hlen h_b
      clear i_b
      generalize decL eU8 b_n b_f = bL at *
      clear h_b
      obtain ⟨⟨vs, p, hc⟩, hu, hl⟩ := hpre
      obtain ⟨e1, e2⟩ := cut_eq hc
      rw [e1, e2]
      obtain ⟨hb, hv, hp⟩ := hc
      have hl4 : bL.length = 4 + ((framesL vs).length + p.length) := by rw [hb]; simp [magicL]; omega
      have f1 : ((bL.length : Int) < 4) = False := eq_false (by omega)
      simp (maxSteps := 9999999) only [x11, push_cast, simprocAttr, g7, g29, g30, g9, f1]
      have hs : strB (rowI 4 (shF 0 (rowF eU8 bL))) = { data := #[87, 70, 74, 49] } := by rw [hb]; rfl
      refine ⟨by omega, (rowBytes_rowF 4 bL).2 trivial, fun h => absurd hs h, fun _ => ?_⟩
      simp (maxSteps := 9999999) only [x11b, push_cast, simprocAttr, g7, g29, g30, g9]
      refine ⟨by omega, by rfl, ?_⟩
      refine vcLoop_upd (α := {s : Nat × (Nat → Nat → Value) // s.1 ≤ vs.length}) [5] 3 (fun s => [(6, .o (.c (.n 12)))]) (fun s => [(12, .ro (framesL (vs.drop s.1.1) ++ p).length 1 (rowF eU8 (framesL (vs.drop s.1.1) ++ p))), (2, .box [.n 13, .n 14] 72), (13, .own (magicL ++ framesL (vs.take s.1.1)).length 1 (rowF eU8 (magicL ++ framesL (vs.take s.1.1))) 5), (14, .deep (some 48) (vs.take s.1.1).length 5 (deepF eEvt (vs.take s.1.1) s.1.2) (deepC eEvt (vs.take s.1.1)) []), (0, .ro (bL).length 1 (rowF eU8 (bL)))]) (fun s => vs.length - s.1.1) ⟨(0, fun _ _ => .bool false), by simp only; omega⟩ ?_ ?_
      · simp only [push_cast, simprocAttr, g7, g29, g30, g9]
        exact ⟨rowIs8_eq (rowIs8_from (L := bL) (k := 4) (by omega)) (by rw [hb]; rfl), same_eq (by simp [framesL]), by simp, fun e j he => absurd he (by omega)⟩
      have hpu : u8s p := fun x hx => hu x (by rw [hb]; exact List.mem_append_right _ (List.mem_append_right _ hx))
      have hsp : ∀ k, (framesL vs).length = (framesL (vs.take k)).length + (framesL (vs.drop k)).length := fun k => by
        rw [← List.length_append, ← framesL_app, List.take_append_drop]
      have hmg : magicL.length = 4 := rfl
      rintro ⟨⟨k, V⟩, hk⟩
      simp only at hk
      simp only
      rcases Nat.lt_or_ge k vs.length with hlt | hge
      · have hvk := hv.2 k hlt
        have hlast := okEvs_last hv (k := k) (by omega)
        have hd := drop_cons eEvt.dflt hlt
        have hfr := framesL_snoc hlt
        have htk := take_snoc eEvt.dflt hlt
        generalize vs.getD k eEvt.dflt = v at hvk hd hfr htk
        have hU : unf (framesL (vs.drop k) ++ p) = (1, encE v, framesL (vs.drop (k + 1)) ++ p, 0) := by
          rw [hd]; simp only [framesL, List.append_assoc]; exact unf_of hvk.1 _
        have hE := evOf_enc hvk.1
        simp (maxSteps := 9999999) only [x11L0, push_cast, simprocAttr, g7, g29, g30, g9, g29a, hU, hE]
        have hk2 := hsp k
        refine ⟨⟨u8s_app (framesL_u8 _) hpu, by rw [List.length_append]; omega, encE_pos v⟩, ⟨v, hvk.1, rfl⟩, ⟨hvk.1, by rw [hlast, hvk.2]; omega, by rw [List.length_append]; omega, by rw [List.length_take]; have := hv.1; omega⟩, fun G => ⟨⟨(k + 1, G), by simp only; omega⟩, ⟨same_eq rfl, same_eq (by simp only; rw [hfr, List.append_assoc]), ?_⟩, by simp only; omega⟩⟩
        simp only
        rw [htk]
        exact ⟨rfl, fun _ _ _ _ => ⟨rfl, cEq_refl _⟩⟩
      obtain rfl : k = vs.length := by omega
      have hq := unf_pt hp
      simp (maxSteps := 9999999) only [x11L0, push_cast, simprocAttr, g7, g29, g30, g9, g29b, hq, List.drop_length, List.take_length, framesL]
      exact ⟨⟨hpu, by omega⟩, V, fun _ _ _ _ => ⟨rfl, cEq_refl _⟩⟩
    · cases hg_
  · cases hg_
end Go.Proofs.YtkpdofgmmpbknaaGreat
