/- A part of the proof of a statement about this seat: how a function is stepped through, and plain laws. No conditions. -/
import Derived.Test.YtkpdofgmmpbknaaGreatRows
import Derived.Test.YtkpdofgmmpbknaaGreatWJSz4
import Derived.Test.YtkpdofgmmpbknaaGreatWJJ3
import Derived.KernelRfl
set_option linter.unusedVariables false
set_option linter.unusedSimpArgs false
set_option maxRecDepth 20000
namespace Go.Proofs.YtkpdofgmmpbknaaGreat
open Go.Sx Go.Way
theorem inE_deepO {D : DEnc EvtL} {Et : Nat → Option Go.Sx.Ent} {l n s : Nat} {ty : TypeId} {f : Nat → Nat → Value} {c : Nat → Nat → Option (Nat × Nat × (Nat → Nat → Value))} {al : List (Nat × Nat × Nat)} {σ : Nat → Nat} (hl : Et l = some (.deep (some ty) n s f c al)) (h : isDeep D n s f c) :
    ∃ e0, Et l = some e0 ∧ leE (SC.ren σ) e0 (.deep (some ty) (decD D n f c).length D.sz (deepF D (decD D n f c) f) (deepC D (decD D n f c)) []) := by
  obtain ⟨rfl, h2⟩ := h
  exact ⟨_, hl, .inl rfl, (decD_len _ _ _).symm, rfl, isD_deepEq h2, trivial, trivial⟩
def magicL : List Int := [87, 70, 74, 49]
def lastT (L : List EvtL) : Int := if L.length = 0 then 0 else (L.getD (L.length - 1) eEvt.dflt).tick
def x7 : XFn := ⟨5, (.seq (.reg false [K1 0 .mv (.pointer none)]) (.seq (.reg false [⟨(some 1), (.slit 5 4 1 [(.int .u8 0), (.int .u8 0), (.int .u8 0), (.int .u8 0)] [(0, 1), (1, 1), (2, 1), (3, 1)]), [(.k (.int .u8 87)), (.k (.int .u8 70)), (.k (.int .u8 74)), (.k (.int .u8 49))], none⟩, O1 2 .mkb 1, ⟨(some 3), (.build [(.slice none 0 0), (.slice none 0 0)] [(0, 1)]), [(.t 2)], none⟩, O1 4 (.box 72) 3, O1 0 .mv 4]) .ret)), [(.s 0)]⟩
theorem x7_ok : xfn Tryz.prog Tryz.f7 = some x7.er := by kernel_rfl
def x12 : XFn := ⟨10, (.seq (.reg false [K1 2 .mv (iV 0)]) (.seq (.seq (.reg false [O1 3 .mv 0, ⟨(some 4), (.x (.eqP false)), [(.t 3), (.k (.pointer none))], none⟩]) (.cond (.t 4) (.seq (.reg false [K1 2 .mv (iV 0)]) .ret) .skip)) (.seq (.reg false [O1 5 .mv 0, O1 6 .nilc 5, O1 7 (.fld 1) 6, O1 8 .load1 7, O1 9 .lenS 8, O1 2 .mv 9]) .ret))), [(.s 2)]⟩
theorem x12_ok : xfn Tryz.prog Tryz.f12 = some x12.er := by kernel_rfl
def x19 : XFn := ⟨26, (.seq (.reg false [K1 2 .mv (iV 0)]) (.seq (.seq (.reg false [O1 3 .mv 0, ⟨(some 4), (.x (.eqP false)), [(.t 3), (.k (.pointer none))], none⟩, O1 5 .mv 4, G1 6 .mv 0 5 false, G1 7 .nilc 6 5 false, G1 8 (.fld 1) 7 5 false, G1 9 .load1 8 5 false, G1 10 .lenS 9 5 false, GK 11 (.bin .eql) 10 (iV 0) 5 false, ⟨(some 12), .pick, [(.t 5), (.k (.bool true)), (.t 11)], none⟩]) (.cond (.t 12) (.seq (.reg false [K1 2 .mv (iV 0)]) .ret) .skip)) (.seq (.reg true [O1 13 .mv 0, O1 14 .nilc 13, O1 15 (.fld 1) 14, O1 16 .load1 15, O1 17 .mv 0, O1 18 .nilc 17, O1 19 (.fld 1) 18, O1 20 .load1 19, O1 21 .lenS 20, K2 22 (.bin .sub) 21 (iV 1), O2 23 (.ixS 5) 16 22, O1 24 (.fld 0) 23, O1 25 .load1 24, O1 2 .mv 25]) .ret))), [(.s 2)]⟩
theorem x19_ok : xfn Tryz.prog Tryz.f19 = some x19.er := by kernel_rfl
def x8 : XFn := ⟨10, (.seq (.reg false [K1 2 .mv (.slice none 0 0)]) (.seq (.seq (.reg false [O1 3 .mv 0, ⟨(some 4), (.x (.eqP false)), [(.t 3), (.k (.pointer none))], none⟩]) (.cond (.t 4) (.seq (.reg false [K1 2 .mv (.slice none 0 0)]) .ret) .skip)) (.seq (.reg false [O1 5 .mv 0, O1 6 .nilc 5, O1 7 (.fld 0) 6, O1 8 .load1 7, O1 9 (.call 23) 8, O1 2 .mv 9]) .ret))), [(.s 2)]⟩
theorem x8_ok : xfn Tryz.prog Tryz.f8 = some x8.er := by kernel_rfl
def g7 : Con := fun args_ E_ nn_ => match args_ with
  | [] => some (.e (True) (.o (.c (.p (nn_ + 0) 0))) [((nn_ + 0), .box [.n (nn_ + 1), .n (nn_ + 2)] 72), ((nn_ + 1), .own (magicL).length 1 (rowF eU8 (magicL)) 5), ((nn_ + 2), .deep (some 48) (([] : List EvtL)).length 5 (deepF eEvt (([] : List EvtL)) (fun _ _ => .bool false)) (deepC eEvt (([] : List EvtL))) [])] (nn_ + 3))
  | _ => none
theorem c7 : COk Tryz.prog 7 g7 := by
  refine cok_d Tryz.func7 x7_ok (by kernel_rfl) (cok_tab cok_nil) ?_
  intro args_ E_ nn_ cr_ hg_
  unfold g7 at hg_
  split at hg_
  · skip
    cases hg_
    refine ⟨_, _, _, _, rfl, 0, [], [], [], .o (.c (.p 0 0)), [(0, .box [.n 1, .n 2] 72), (1, .own (magicL).length 1 (rowF eU8 (magicL)) 5), (2, .deep (some 48) (([] : List EvtL)).length 5 (deepF eEvt (([] : List EvtL)) (fun _ _ => .bool false)) (deepC eEvt (([] : List EvtL))) [])], 3, rfl, rfl, by simp only [renE, Ent.ren, rowF_renf] <;> rfl, rfl, by decide, and4 (by simp only [push_cast, Nat.reduceLT, Nat.reduceAdd]) ⟨rfl, trivial, by simp only [keysNodup, outN, keys] <;> decide, rfl, .inr trivial, ?_⟩⟩
    intro hpre hlen
    refine ⟨trivial, by simp only [apartE] <;> (first | trivial | (simp [Ent.mut]; done)), ?_⟩
    simp (maxSteps := 9999999) only [x7, push_cast, simprocAttr]
    refine ⟨rfl, fun e j he hj => ?_⟩
    rw [rowF_sub]
    obtain rfl : j = 0 := by omega
    rcases (by omega : e = 0 ∨ e = 1 ∨ e = 2 ∨ e = 3) with rfl | rfl | rfl | rfl <;> rfl
  · cases hg_
def g12 : Con := fun args_ E_ nn_ => match args_ with
  | [.c (.p j 0)] => (match E_ j with
    | some (.box [.n j_bytes, .n j_events] j_ty) => (match rowOf E_ j_bytes with
    | some (j_bytes_n, j_bytes_s, j_bytes_f) => (match rowD eEvt.sz E_ j_events with
    | some (j_events_n, j_events_s, j_events_f, j_events_c) => some (.q (isRow eU8 j_bytes_n j_bytes_s j_bytes_f ∧ isDeep eEvt j_events_n j_events_s j_events_f j_events_c ∧ True) (.o (.c (.v (.int .i64 (((decD eEvt j_events_n j_events_f j_events_c)).length : Nat))))))
    | none => none)
    | none => none)
    | _ => none)
  | _ => none
theorem c12 : COk Tryz.prog 12 g12 := by
  refine cok_r Tryz.func12 x12_ok (by kernel_rfl) (cok_tab cok_nil) ?_
  intro args_ E_ nn_ cr_ hg_
  unfold g12 at hg_
  split at hg_
  · rename_i j
    split at hg_
    · rename_i j_bytes j_events j_ty h_j
      split at hg_
      · rename_i j_bytes_n j_bytes_s j_bytes_f h_j_bytes
        split at hg_
        · rename_i j_events_n j_events_s j_events_f j_events_c h_j_events
          cases hg_
          refine ⟨_, _, rfl, 3, [j, j_bytes, j_events], [.c (.p 0 0)], [(0, .box [.n 1, .n 2] j_ty), (1, .ro (decL eU8 j_bytes_n j_bytes_f).length eU8.sz (rowF eU8 (decL eU8 j_bytes_n j_bytes_f))), (2, .deep none (decD eEvt j_events_n j_events_f j_events_c).length eEvt.sz (deepF eEvt (decD eEvt j_events_n j_events_f j_events_c) j_events_f) (deepC eEvt (decD eEvt j_events_n j_events_f j_events_c)) [])], .o (.c (.v (.int .i64 (((decD eEvt j_events_n j_events_f j_events_c)).length : Nat)))), rfl, rfl, and3 (by simp only [push_cast, Nat.reduceLT, Nat.reduceAdd]) ⟨rfl, ⟨⟨_, h_j⟩, inE0_row h_j_bytes, inE0_deep h_j_events, trivial⟩, rfl, ?_⟩⟩
          intro hpre hlen
          obtain ⟨i_j_bytes, hpre⟩ := hpre
          obtain ⟨i_j_events, hpre⟩ := hpre
          have hap : apartE (sg 3 nn_ [j, j_bytes, j_events]) [(0, .box [.n 1, .n 2] j_ty), (1, .ro (decL eU8 j_bytes_n j_bytes_f).length eU8.sz (rowF eU8 (decL eU8 j_bytes_n j_bytes_f))), (2, .deep none (decD eEvt j_events_n j_events_f j_events_c).length eEvt.sz (deepF eEvt (decD eEvt j_events_n j_events_f j_events_c) j_events_f) (deepC eEvt (decD eEvt j_events_n j_events_f j_events_c)) [])] [(0, .box [.n 1, .n 2] j_ty), (1, .ro (decL eU8 j_bytes_n j_bytes_f).length eU8.sz (rowF eU8 (decL eU8 j_bytes_n j_bytes_f))), (2, .deep none (decD eEvt j_events_n j_events_f j_events_c).length eEvt.sz (deepF eEvt (decD eEvt j_events_n j_events_f j_events_c) j_events_f) (deepC eEvt (decD eEvt j_events_n j_events_f j_events_c)) [])] := by
            refine ⟨fun _ k2 e2 hm hne => ?_, ?_⟩
            · simp only [List.mem_cons, List.not_mem_nil, or_false, Prod.mk.injEq] at hm
              rcases hm with ⟨rfl, _⟩ | ⟨rfl, _⟩ | ⟨rfl, _⟩
              · exact absurd rfl hne
              · exact fun hh => by
                  have hh2 : j_bytes = j := hh
                  have hh3 := h_j_bytes
                  rw [hh2] at hh3; unfold rowOf at hh3; rw [h_j] at hh3; cases hh3
              · exact fun hh => by
                  have hh2 : j_events = j := hh
                  have hh3 := h_j_events
                  rw [hh2] at hh3; unfold rowD at hh3; rw [h_j] at hh3; cases hh3
            refine ⟨fun h => by (cases h), ?_⟩
            refine ⟨fun h => by (cases h), ?_⟩
            trivial
          refine ⟨⟨⟨_, h_j, by simp only [leE, mapEq, SC.ren, and_true, true_and, and_self] <;> first | rfl | exact ⟨rfl, rfl⟩⟩, inE_row h_j_bytes i_j_bytes, inE_deep h_j_events i_j_events, trivial⟩, hap, ?_⟩
          have z_j_bytes := lens_row (E := eU8) hlen h_j_bytes
          have z_j_events := lens_deep (D := eEvt) hlen h_j_events
          clear i_j_bytes
          generalize decL eU8 j_bytes_n j_bytes_f = j_bytesL at *
          clear i_j_events
          generalize decD eEvt j_events_n j_events_f j_events_c = j_eventsL at *
          clear h_j_bytes
          clear h_j_events
          simp (maxSteps := 9999999) only [x12, push_cast, simprocAttr]
        · cases hg_
      · cases hg_
    · cases hg_
  · cases hg_
def g19 : Con := fun args_ E_ nn_ => match args_ with
  | [.c (.p j 0)] => (match E_ j with
    | some (.box [.n j_bytes, .n j_events] j_ty) => (match rowOf E_ j_bytes with
    | some (j_bytes_n, j_bytes_s, j_bytes_f) => (match rowD eEvt.sz E_ j_events with
    | some (j_events_n, j_events_s, j_events_f, j_events_c) => some (.q (isRow eU8 j_bytes_n j_bytes_s j_bytes_f ∧ isDeep eEvt j_events_n j_events_s j_events_f j_events_c ∧ True) (.o (.c (.v (.int .i64 (lastT (decD eEvt j_events_n j_events_f j_events_c)))))))
    | none => none)
    | none => none)
    | _ => none)
  | _ => none
theorem c19 : COk Tryz.prog 19 g19 := by
  refine cok_r Tryz.func19 x19_ok (by kernel_rfl) (cok_tab cok_nil) ?_
  intro args_ E_ nn_ cr_ hg_
  unfold g19 at hg_
  split at hg_
  · rename_i j
    split at hg_
    · rename_i j_bytes j_events j_ty h_j
      split at hg_
      · rename_i j_bytes_n j_bytes_s j_bytes_f h_j_bytes
        split at hg_
        · rename_i j_events_n j_events_s j_events_f j_events_c h_j_events
          cases hg_
          refine ⟨_, _, rfl, 3, [j, j_bytes, j_events], [.c (.p 0 0)], [(0, .box [.n 1, .n 2] j_ty), (1, .ro (decL eU8 j_bytes_n j_bytes_f).length eU8.sz (rowF eU8 (decL eU8 j_bytes_n j_bytes_f))), (2, .deep none (decD eEvt j_events_n j_events_f j_events_c).length eEvt.sz (deepF eEvt (decD eEvt j_events_n j_events_f j_events_c) j_events_f) (deepC eEvt (decD eEvt j_events_n j_events_f j_events_c)) [])], .o (.c (.v (.int .i64 (lastT (decD eEvt j_events_n j_events_f j_events_c))))), rfl, rfl, and3 (by simp only [push_cast, Nat.reduceLT, Nat.reduceAdd]) ⟨rfl, ⟨⟨_, h_j⟩, inE0_row h_j_bytes, inE0_deep h_j_events, trivial⟩, rfl, ?_⟩⟩
          intro hpre hlen
          obtain ⟨i_j_bytes, hpre⟩ := hpre
          obtain ⟨i_j_events, hpre⟩ := hpre
          have hap : apartE (sg 3 nn_ [j, j_bytes, j_events]) [(0, .box [.n 1, .n 2] j_ty), (1, .ro (decL eU8 j_bytes_n j_bytes_f).length eU8.sz (rowF eU8 (decL eU8 j_bytes_n j_bytes_f))), (2, .deep none (decD eEvt j_events_n j_events_f j_events_c).length eEvt.sz (deepF eEvt (decD eEvt j_events_n j_events_f j_events_c) j_events_f) (deepC eEvt (decD eEvt j_events_n j_events_f j_events_c)) [])] [(0, .box [.n 1, .n 2] j_ty), (1, .ro (decL eU8 j_bytes_n j_bytes_f).length eU8.sz (rowF eU8 (decL eU8 j_bytes_n j_bytes_f))), (2, .deep none (decD eEvt j_events_n j_events_f j_events_c).length eEvt.sz (deepF eEvt (decD eEvt j_events_n j_events_f j_events_c) j_events_f) (deepC eEvt (decD eEvt j_events_n j_events_f j_events_c)) [])] := by
            refine ⟨fun _ k2 e2 hm hne => ?_, ?_⟩
            · simp only [List.mem_cons, List.not_mem_nil, or_false, Prod.mk.injEq] at hm
              rcases hm with ⟨rfl, _⟩ | ⟨rfl, _⟩ | ⟨rfl, _⟩
              · exact absurd rfl hne
              · exact fun hh => by
                  have hh2 : j_bytes = j := hh
                  have hh3 := h_j_bytes
                  rw [hh2] at hh3; unfold rowOf at hh3; rw [h_j] at hh3; cases hh3
              · exact fun hh => by
                  have hh2 : j_events = j := hh
                  have hh3 := h_j_events
                  rw [hh2] at hh3; unfold rowD at hh3; rw [h_j] at hh3; cases hh3
            refine ⟨fun h => by (cases h), ?_⟩
            refine ⟨fun h => by (cases h), ?_⟩
            trivial
          refine ⟨⟨⟨_, h_j, by simp only [leE, mapEq, SC.ren, and_true, true_and, and_self] <;> first | rfl | exact ⟨rfl, rfl⟩⟩, inE_row h_j_bytes i_j_bytes, inE_deep h_j_events i_j_events, trivial⟩, hap, ?_⟩
          have z_j_bytes := lens_row (E := eU8) hlen h_j_bytes
          have z_j_events := lens_deep (D := eEvt) hlen h_j_events
          clear i_j_bytes
          generalize decL eU8 j_bytes_n j_bytes_f = j_bytesL at *
          clear i_j_events
          generalize decD eEvt j_events_n j_events_f j_events_c = j_eventsL at *
          clear h_j_bytes
          clear h_j_events
          simp (maxSteps := 9999999) only [x19, push_cast, simprocAttr]
          refine ⟨fun h => ?_, fun h => ?_⟩
          · unfold lastT; rw [if_pos (by omega)]
          · rw [wrapI (by omega) (by omega), show ((j_eventsL.length : Int) - 1).toNat = j_eventsL.length - 1 by omega]
            exact ⟨⟨by omega, by omega⟩, by omega, by unfold lastT; rw [if_neg (by omega)]⟩
        · cases hg_
      · cases hg_
    · cases hg_
  · cases hg_
def g8 : Con := fun args_ E_ nn_ => match args_ with
  | [.c (.p j 0)] => (match E_ j with
    | some (.box [.n j_bytes, .n j_events] j_ty) => (match rowOf E_ j_bytes with
    | some (j_bytes_n, j_bytes_s, j_bytes_f) => (match rowD eEvt.sz E_ j_events with
    | some (j_events_n, j_events_s, j_events_f, j_events_c) => some (.e (isRow eU8 j_bytes_n j_bytes_s j_bytes_f ∧ isDeep eEvt j_events_n j_events_s j_events_f j_events_c ∧ ((decL eU8 j_bytes_n j_bytes_f)).length ≤ 100000 ∧ j_ty = 72) (.o (.c (.n (nn_ + 0)))) [((nn_ + 0), .own ((decL eU8 j_bytes_n j_bytes_f)).length 1 (rowF eU8 ((decL eU8 j_bytes_n j_bytes_f))) 5), (j, .box [.n j_bytes, .n j_events] 72)] (nn_ + 1))
    | none => none)
    | none => none)
    | _ => none)
  | _ => none
theorem c8 : COk Tryz.prog 8 g8 := by
  refine cok_d Tryz.func8 x8_ok (by kernel_rfl) (cok_tab (cok_cons c23 cok_nil)) ?_
  intro args_ E_ nn_ cr_ hg_
  unfold g8 at hg_
  split at hg_
  · rename_i j
    split at hg_
    · rename_i j_bytes j_events j_ty h_j
      split at hg_
      · rename_i j_bytes_n j_bytes_s j_bytes_f h_j_bytes
        split at hg_
        · rename_i j_events_n j_events_s j_events_f j_events_c h_j_events
          cases hg_
          refine ⟨_, _, _, _, rfl, 3, [j, j_bytes, j_events], [.c (.p 0 0)], [(0, .box [.n 1, .n 2] j_ty), (1, .ro (decL eU8 j_bytes_n j_bytes_f).length eU8.sz (rowF eU8 (decL eU8 j_bytes_n j_bytes_f))), (2, .deep none (decD eEvt j_events_n j_events_f j_events_c).length eEvt.sz (deepF eEvt (decD eEvt j_events_n j_events_f j_events_c) j_events_f) (deepC eEvt (decD eEvt j_events_n j_events_f j_events_c)) [])], .o (.c (.n 3)), [(3, .own ((decL eU8 j_bytes_n j_bytes_f)).length 1 (rowF eU8 ((decL eU8 j_bytes_n j_bytes_f))) 5), (0, .box [.n 1, .n 2] 72)], 4, rfl, rfl, by simp only [renE, Ent.ren, rowF_renf] <;> rfl, rfl, by decide, and4 (by simp only [push_cast, Nat.reduceLT, Nat.reduceAdd]) ⟨rfl, ⟨⟨_, h_j⟩, inE0_row h_j_bytes, inE0_deep h_j_events, trivial⟩, by simp only [keysNodup, outN, keys] <;> decide, rfl, .inl rfl, ?_⟩⟩
          intro hpre hlen
          obtain ⟨i_j_bytes, hpre⟩ := hpre
          obtain ⟨i_j_events, hpre⟩ := hpre
          have hap : apartE (sg 3 nn_ [j, j_bytes, j_events]) [(0, .box [.n 1, .n 2] j_ty), (1, .ro (decL eU8 j_bytes_n j_bytes_f).length eU8.sz (rowF eU8 (decL eU8 j_bytes_n j_bytes_f))), (2, .deep none (decD eEvt j_events_n j_events_f j_events_c).length eEvt.sz (deepF eEvt (decD eEvt j_events_n j_events_f j_events_c) j_events_f) (deepC eEvt (decD eEvt j_events_n j_events_f j_events_c)) [])] [(0, .box [.n 1, .n 2] j_ty), (1, .ro (decL eU8 j_bytes_n j_bytes_f).length eU8.sz (rowF eU8 (decL eU8 j_bytes_n j_bytes_f))), (2, .deep none (decD eEvt j_events_n j_events_f j_events_c).length eEvt.sz (deepF eEvt (decD eEvt j_events_n j_events_f j_events_c) j_events_f) (deepC eEvt (decD eEvt j_events_n j_events_f j_events_c)) [])] := by
            refine ⟨fun _ k2 e2 hm hne => ?_, ?_⟩
            · simp only [List.mem_cons, List.not_mem_nil, or_false, Prod.mk.injEq] at hm
              rcases hm with ⟨rfl, _⟩ | ⟨rfl, _⟩ | ⟨rfl, _⟩
              · exact absurd rfl hne
              · exact fun hh => by
                  have hh2 : j_bytes = j := hh
                  have hh3 := h_j_bytes
                  rw [hh2] at hh3; unfold rowOf at hh3; rw [h_j] at hh3; cases hh3
              · exact fun hh => by
                  have hh2 : j_events = j := hh
                  have hh3 := h_j_events
                  rw [hh2] at hh3; unfold rowD at hh3; rw [h_j] at hh3; cases hh3
            refine ⟨fun h => by (cases h), ?_⟩
            refine ⟨fun h => by (cases h), ?_⟩
            trivial
          refine ⟨⟨⟨_, h_j, by simp only [leE, mapEq, SC.ren, and_true, true_and, and_self] <;> first | rfl | exact ⟨rfl, rfl⟩⟩, inE_row h_j_bytes i_j_bytes, inE_deep h_j_events i_j_events, trivial⟩, hap, ?_⟩
          have z_j_bytes := lens_row (E := eU8) hlen h_j_bytes
          have z_j_events := lens_deep (D := eEvt) hlen h_j_events
          clear i_j_bytes
          generalize decL eU8 j_bytes_n j_bytes_f = j_bytesL at *
          clear i_j_events
          generalize decD eEvt j_events_n j_events_f j_events_c = j_eventsL at *
          clear h_j_bytes
          clear h_j_events
          simp (maxSteps := 9999999) only [x8, push_cast, simprocAttr, g23]
          exact hpre
        · cases hg_
      · cases hg_
    · cases hg_
  · cases hg_
end Go.Proofs.YtkpdofgmmpbknaaGreat
namespace Go.Proofs.YtkpdofgmmpbknaaGreat
open Go.Sx Go.Way
def x9 : XFn := ⟨70, (.seq (.reg false [O1 3 (.box 48) 1, K1 4 .mv (iV 0)]) (.seq (.seq (.reg false [O1 7 .mv 0, ⟨(some 8), (.x (.eqP false)), [(.t 7), (.k (.pointer none))], none⟩, O1 9 .mv 8, G1 10 (.fld 1) 3 9 false, G1 11 (.loadN 2) 10 9 false, G1 12 (.call 24) 11 9 false, G1 13 (.un .not) 12 9 false, ⟨(some 14), .pick, [(.t 9), (.k (.bool true)), (.t 13)], none⟩, O1 15 .mv 14, G1 16 (.fld 4) 3 15 false, G1 17 .load1 16 15 false, G1 18 (.call 25) 17 15 false, G1 19 (.un .not) 18 15 false, ⟨(some 20), .pick, [(.t 15), (.k (.bool true)), (.t 19)], none⟩]) (.cond (.t 20) (.seq (.reg false [K1 4 .mv (iV 1)]) .ret) .skip)) (.seq (.seq (.regD [O1 21 (.fld 0) 3, O1 22 .load1 21, O1 23 .mv 0, O1 24 (.call 19) 23, O2 25 (.bin .leq) 22 24, O1 26 .mv 25, G1 27 (.fld 0) 3 26 false, G1 28 .load1 27 26 false, GK 29 (.bin .gtr) 28 (iV 1099511627776) 26 false, ⟨(some 30), .pick, [(.t 26), (.k (.bool true)), (.t 29)], none⟩] [[], [0], [], [2], [1, 0, 3, 2], [4, 1, 0, 3, 2], [5, 4, 1, 0, 3, 2], [6, 5, 4, 1, 0, 3, 2], [7, 6, 5, 4, 1, 0, 3, 2], [5, 4, 1, 0, 3, 2, 8, 7, 6]]) (.cond (.t 30) (.seq (.reg false [K1 4 .mv (iV 2)]) .ret) .skip)) (.seq (.reg false [O1 32 (.loadN 5) 3, O1 33 (.call 27) 32, ⟨(some 34), (.call 26), [(.k (.int .u8 1)), (.t 33)], none⟩, O1 31 .mv 34, O1 35 (.ext 0) 31, O1 36 (.ext 1) 31, O1 5 .mv 35, O1 6 .mv 36]) (.seq (.seq (.reg false [O1 37 .mv 6, K2 38 (.bin .neq) 37 (iV 0), O1 39 .mv 38, G1 40 .mv 0 39 false, G1 41 .nilc 40 39 false, G1 42 (.fld 0) 41 39 false, G1 43 .load1 42 39 false, G1 44 .lenS 43 39 false, G1 45 .mv 5 39 false, G1 46 .lenS 45 39 false, G2 47 (.bin .add) 44 46 39 false, GK 48 (.bin .gtr) 47 (iV 65536) 39 false, ⟨(some 49), .pick, [(.t 39), (.k (.bool true)), (.t 48)], none⟩]) (.cond (.t 49) (.seq (.reg false [K1 4 .mv (iV 6)]) .ret) .skip)) (.seq (.reg false [O1 50 .mv 0, O1 51 .mv 0, O1 52 .nilc 51, O1 53 (.fld 0) 52, O1 54 .load1 53, O1 55 .mv 5, O2 56 (.app 5 1 1) 54 55, O1 57 .nilc 50, O1 58 (.fld 0) 57, ⟨none, (.store 1), [(.t 58), (.t 56)], none⟩]) (.spl 0 (.seq (.regD [O1 59 .mv 0, O1 60 .mv 0, O1 61 .nilc 60, O1 62 (.fld 1) 61, O1 63 .load1 62, O1 64 (.loadN 5) 3, O1 65 (.call 28) 64, ⟨(some 66), (.slit 48 1 5 [(iV 0), (iV 0), (iV 0), (.bool false), (.slice none 0 0)] [(0, 5)]), [(.t 65)], none⟩, O2 67 (.app 48 5 56) 63 66, O1 68 .nilc 59, O1 69 (.fld 1) 68, ⟨none, (.store 1), [(.t 69), (.t 67)], none⟩] [[], [], [1], [2, 1], [3, 2, 1], [], [5], [6, 5], [4, 3, 2, 1, 7, 6, 5], [0, 1, 2, 3, 4, 5, 6, 7, 8], [9, 0, 1, 2, 3, 4, 5, 6, 7, 8], [10, 9, 0, 1, 2, 3, 4, 5, 6, 7, 8]]) (.mrg 0 (.seq (.reg false [K1 4 .mv (iV 0)]) .ret)))))))))), [(.s 4)]⟩
theorem x9_ok : xfn Tryz.prog Tryz.f9 = some x9.er := by kernel_rfl
noncomputable def g9 : Con := fun args_ E_ nn_ => match args_ with
  | [.c (.p j 0), .a [.v (.int .i64 e_Tick), .v (.int .i64 e_Command_Turn), .v (.int .i64 e_Command_Forward), .v (.bool e_Bump), .n s]] => (match E_ j with
    | some (.box [.n b, .n v] j_ty) => (match E_ b with
      | some (.own b_n b_s b_f b_ty) => (match E_ v with
        | some (.deep (some v_ty) v_n v_s v_f v_c v_al) => (match rowOf E_ s with
        | some (s_n, s_s, s_f) => some (.d (j_ty = 72 ∧ isRow eU8 b_n b_s b_f ∧ b_s = 1 ∧ b_ty = 5 ∧ isDeep eEvt v_n v_s v_f v_c ∧ v_ty = 48 ∧ isRow eC s_n s_s s_f ∧ s ≠ b ∧ s ≠ v ∧ (okEv (⟨e_Tick, e_Command_Turn, e_Command_Forward, e_Bump, (decL eC s_n s_f)⟩ : EvtL) ∧ lastT (decD eEvt v_n v_f v_c) < e_Tick ∧ ((decL eU8 b_n b_f)).length ≤ 65000 ∧ ((decD eEvt v_n v_f v_c)).length ≤ 100000)) (.o (.c (.v (.int .i64 (0))))) (fun G_ => [(j, .box [.n (nn_ + 0), .n (nn_ + 1)] 72), ((nn_ + 0), .own (((decL eU8 b_n b_f) ++ frL 1 (encE (⟨e_Tick, e_Command_Turn, e_Command_Forward, e_Bump, (decL eC s_n s_f)⟩ : EvtL)))).length 1 (rowF eU8 (((decL eU8 b_n b_f) ++ frL 1 (encE (⟨e_Tick, e_Command_Turn, e_Command_Forward, e_Bump, (decL eC s_n s_f)⟩ : EvtL))))) 5), ((nn_ + 1), .deep (some 48) (((decD eEvt v_n v_f v_c) ++ [(⟨e_Tick, e_Command_Turn, e_Command_Forward, e_Bump, (decL eC s_n s_f)⟩ : EvtL)])).length 5 (deepF eEvt (((decD eEvt v_n v_f v_c) ++ [(⟨e_Tick, e_Command_Turn, e_Command_Forward, e_Bump, (decL eC s_n s_f)⟩ : EvtL)])) G_) (deepC eEvt (((decD eEvt v_n v_f v_c) ++ [(⟨e_Tick, e_Command_Turn, e_Command_Forward, e_Bump, (decL eC s_n s_f)⟩ : EvtL)]))) []), (b, .dead), (v, .dead), (s, .ro ((decL eC s_n s_f)).length 2 (rowF eC ((decL eC s_n s_f))))]) (nn_ + 2))
        | none => none)
        | _ => none)
      | _ => none)
    | _ => none)
  | _ => none
set_option maxHeartbeats 4000000 in
theorem c9 : COk Tryz.prog 9 g9 := by
  refine cok_g Tryz.func9 x9_ok (by kernel_rfl) (cok_tab (cok_cons c24 (cok_cons c25 (cok_cons c19 (cok_cons c27 (cok_cons c26 (cok_cons c28 cok_nil))))))) ?_
  intro args_ E_ nn_ cr_ hg_
  unfold g9 at hg_
  split at hg_
  · rename_i j e_Tick e_Command_Turn e_Command_Forward e_Bump s
    split at hg_
    · rename_i b v j_ty h_j
      split at hg_
      · rename_i b_n b_s b_f b_ty h_b
        split at hg_
        · rename_i v_ty v_n v_s v_f v_c v_al h_v
          split at hg_
          · rename_i s_n s_s s_f h_s
            cases hg_
            refine ⟨_, _, _, _, rfl, 4, [j, b, v, s], [.c (.p 0 0), .a [.v (.int .i64 e_Tick), .v (.int .i64 e_Command_Turn), .v (.int .i64 e_Command_Forward), .v (.bool e_Bump), .n 3]], [(0, .box [.n 1, .n 2] j_ty), (1, .own (decL eU8 b_n b_f).length eU8.sz (rowF eU8 (decL eU8 b_n b_f)) b_ty), (2, .deep (some v_ty) (decD eEvt v_n v_f v_c).length eEvt.sz (deepF eEvt (decD eEvt v_n v_f v_c) v_f) (deepC eEvt (decD eEvt v_n v_f v_c)) []), (3, .ro (decL eC s_n s_f).length eC.sz (rowF eC (decL eC s_n s_f)))], .o (.c (.v (.int .i64 (0)))), (fun G_ => [(0, .box [.n 4, .n 5] 72), (4, .own (((decL eU8 b_n b_f) ++ frL 1 (encE (⟨e_Tick, e_Command_Turn, e_Command_Forward, e_Bump, (decL eC s_n s_f)⟩ : EvtL)))).length 1 (rowF eU8 (((decL eU8 b_n b_f) ++ frL 1 (encE (⟨e_Tick, e_Command_Turn, e_Command_Forward, e_Bump, (decL eC s_n s_f)⟩ : EvtL))))) 5), (5, .deep (some 48) (((decD eEvt v_n v_f v_c) ++ [(⟨e_Tick, e_Command_Turn, e_Command_Forward, e_Bump, (decL eC s_n s_f)⟩ : EvtL)])).length 5 (deepF eEvt (((decD eEvt v_n v_f v_c) ++ [(⟨e_Tick, e_Command_Turn, e_Command_Forward, e_Bump, (decL eC s_n s_f)⟩ : EvtL)])) G_) (deepC eEvt (((decD eEvt v_n v_f v_c) ++ [(⟨e_Tick, e_Command_Turn, e_Command_Forward, e_Bump, (decL eC s_n s_f)⟩ : EvtL)]))) []), (1, .dead), (2, .dead), (3, .ro ((decL eC s_n s_f)).length 2 (rowF eC ((decL eC s_n s_f))))]), 6, rfl, rfl, (fun _ => by simp only [renE, Ent.ren, renAl, rowF_renf] <;> rfl), rfl, by decide, by simp only [push_cast, simprocAttr], by simp only [push_cast, simprocAttr], by simp only [push_cast, simprocAttr], (fun _ => by simp only [push_cast, simprocAttr]), rfl, ⟨⟨_, h_j⟩, ⟨_, h_b⟩, ⟨_, h_v⟩, inE0_row h_s, trivial⟩, (fun _ => by simp only [keysNodup, outN, keys] <;> decide), (fun _ => rfl), (fun _ => .inr ⟨.inl rfl, .inl rfl, .inl rfl, .inl rfl, trivial⟩), ?_⟩
            intro hpre hlen
            obtain ⟨rfl, hb1, rfl, rfl, hv1, rfl, hs1, hsb, hsv, hpre⟩ := hpre
            have njb : j ≠ b := fun h => by subst h; rw [h_j] at h_b; cases h_b
            have njv : j ≠ v := fun h => by subst h; rw [h_j] at h_v; cases h_v
            have nbv : b ≠ v := fun h => by subst h; rw [h_b] at h_v; cases h_v
            have njs : j ≠ s := fun h => by subst h; unfold rowOf at h_s; rw [h_j] at h_s; cases h_s
            refine ⟨⟨⟨_, h_j, by simp only [leE, mapEq, SC.ren, and_true, true_and, and_self] <;> first | rfl | exact ⟨rfl, rfl⟩⟩, inE_own h_b hb1 rfl, inE_deepO h_v hv1, inE_row h_s hs1, trivial⟩, ?_, ?_⟩
            · refine ⟨fun _ k2 e2 hm hne => ?_, ?_⟩
              · simp only [List.mem_cons, List.not_mem_nil, or_false, Prod.mk.injEq] at hm
                rcases hm with ⟨rfl, _⟩ | ⟨rfl, _⟩ | ⟨rfl, _⟩ | ⟨rfl, _⟩
                · exact absurd rfl hne
                · exact fun (hh : b = j) => njb hh.symm
                · exact fun (hh : v = j) => njv hh.symm
                · exact fun (hh : s = j) => njs hh.symm
              refine ⟨fun _ k2 e2 hm hne => ?_, ?_⟩
              · simp only [List.mem_cons, List.not_mem_nil, or_false, Prod.mk.injEq] at hm
                rcases hm with ⟨rfl, _⟩ | ⟨rfl, _⟩ | ⟨rfl, _⟩ | ⟨rfl, _⟩
                · exact fun (hh : j = b) => njb hh
                · exact absurd rfl hne
                · exact fun (hh : v = b) => nbv hh.symm
                · exact fun (hh : s = b) => hsb hh
              refine ⟨fun _ k2 e2 hm hne => ?_, ?_⟩
              · simp only [List.mem_cons, List.not_mem_nil, or_false, Prod.mk.injEq] at hm
                rcases hm with ⟨rfl, _⟩ | ⟨rfl, _⟩ | ⟨rfl, _⟩ | ⟨rfl, _⟩
                · exact fun (hh : j = v) => njv hh
                · exact fun (hh : b = v) => nbv hh
                · exact absurd rfl hne
                · exact fun (hh : s = v) => hsv hh
              refine ⟨fun h => by (cases h), ?_⟩
              trivial
            have z_b : (decL eU8 b_n b_f).length ≤ 9223372036854775807 := by rw [decL_len]; exact hlen _ _ h_b
            have z_v : (decD eEvt v_n v_f v_c).length ≤ 9223372036854775807 := by rw [decD_len]; exact hlen _ _ h_v
            clear hb1 hv1 hs1
            generalize (decL eU8 b_n b_f) = BL at *
            generalize (decD eEvt v_n v_f v_c) = LL at *
            generalize (decL eC s_n s_f) = SL at *
            obtain ⟨hv, ht, hB, hL⟩ := hpre
            simp (maxSteps := 9999999) only [x9, push_cast, simprocAttr, g24, g25, g19, g27, g26, g28]
            have he := encE_len hv
            have hfl := frL_len 1 (encE ⟨e_Tick, e_Command_Turn, e_Command_Forward, e_Bump, SL⟩)
            have hu := uintL_len 1 (encE ⟨e_Tick, e_Command_Turn, e_Command_Forward, e_Bump, SL⟩).length (by omega)
            obtain ⟨h1, h2, h3, h4⟩ := id hv
            simp only at h1 h2 h3 h4
            have h5 := (scanJ_iff.1 h4).1
            refine ⟨?_, fun _ _ _ _ _ => ⟨by rfl, fun q => by omega, fun _ _ => ⟨hv, by omega, fun q => ?_, fun _ => ⟨by omega, by omega, by omega, by rfl, ⟨by omega, mrgOk_push' rfl fun e j _ _ => okM_lit ?_ e j⟩, fun F' hF => ⟨F', rowIs8_eq (rowIs8_cat (rowIs8_self _) (rowIs8_self _)) rfl, by simp, deep_push' (D := eEvt) (X := [(⟨e_Tick, e_Command_Turn, e_Command_Forward, e_Bump, SL⟩ : EvtL)]) rfl rfl rfl hF (push_evt (mrg1_ro (E := eC) rfl rfl rfl))⟩⟩⟩⟩⟩
            · rintro (q | q)
              · exact absurd ⟨h2, h3⟩ q
              · rw [h4] at q; cases q
            · rw [wrapI (by omega) (by omega)] at q; omega
            · intro c hc
              simp only [List.mem_cons, List.not_mem_nil, or_false] at hc
              rcases hc with rfl | rfl | rfl | rfl | rfl
              · trivial
              · trivial
              · trivial
              · trivial
              · exact okM_ro (E := eC) rfl
          · cases hg_
        · cases hg_
      · cases hg_
    · cases hg_
  · cases hg_
end Go.Proofs.YtkpdofgmmpbknaaGreat
