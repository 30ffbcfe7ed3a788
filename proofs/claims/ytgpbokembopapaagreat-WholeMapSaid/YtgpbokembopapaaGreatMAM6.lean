/- A part of the proof of a statement about this seat: how a function is stepped through, and plain laws. No conditions. -/
import Derived.Test.YtgpbokembopapaaGreatRows
import Derived.Test.YtgpbokembopapaaGreatMASz4
import Derived.Test.YtgpbokembopapaaGreatMAM5
import Derived.KernelRfl
set_option linter.unusedVariables false
set_option linter.unusedSimpArgs false
set_option maxRecDepth 20000
namespace Go.Proofs.YtgpbokembopapaaGreat
open Go.Sx Go.Way
def redE (n : Int) (e : EE) : EE := ⟨e.X / 2 ^ n.toNat, e.Y / 2 ^ n.toNat, e.H, e.P⟩
def redT (n : Int) (L : List EE) : List EE := addL [] (L.map (redE n))
theorem shrI {x n : Int} (h : 0 ≤ n ∧ n ≤ 10) : x.fdiv (2 ^ min n.toNat IntKind.i64.bits) = x / 2 ^ n.toNat := by
  have e : IntKind.i64.bits = 64 := rfl
  rw [e, show min n.toNat 64 = n.toNat by omega]
  refine Int.fdiv_eq_ediv_of_nonneg _ ?_
  exact Int.le_of_lt (Int.pow_pos (by omega))
theorem red_get {n : Int} {L : List EE} {k : Nat} (h : k < L.length) : (L.map (redE n)).getD k eE.dflt = redE n (L.getD k eE.dflt) := by
  rw [List.getD_eq_getElem?_getD, List.getD_eq_getElem?_getD, List.getElem?_map, List.getElem?_eq_getElem h]; rfl
theorem red_take {n : Int} {L : List EE} {k : Nat} (h : k < L.length) : addL [] ((L.map (redE n)).take (k + 1)) = addT (addL [] ((L.map (redE n)).take k)) ((L.getD k eE.dflt).X / 2 ^ n.toNat) ((L.getD k eE.dflt).Y / 2 ^ n.toNat) (L.getD k eE.dflt).H (L.getD k eE.dflt).P := by
  rw [addL_take [] (by rw [List.length_map]; exact h), red_get h]; rfl
theorem red_ok {n : Int} {L : List EE} (hv : valE L = true) (hp : posL L) : ∀ e ∈ L.map (redE n), cntB e = true ∧ posE e := by
  intro e he
  obtain ⟨a, ha, rfl⟩ := List.mem_map.1 he
  exact valE_all hv hp a ha
theorem last_app (l : List Nat) (a : Nat) : (l ++ [a]).getLast? = some a := List.getLast?_concat
section
open Go.Sx
variable {P : Program} {α : Type}
theorem getDM_M {M : MEnc α} {l : List DM} {k : Bool} (h : isM M k l) {j : Nat} (hj : j < l.length) (d : α) : getDM l j = M.enc ((decM M l).getD j d) := by
  have hl : (decM M l).length = l.length := by unfold decM; rw [List.length_map]
  refine getDM_at ?_
  rw [h.2]
  unfold mapF
  rw [List.getElem?_map]
  rw [List.getD_eq_getElem?_getD, ← mapF, ← h.2, List.getElem?_eq_getElem (show j < (decM M l).length by omega)]
  rfl
def nxtConE (M : MEnc α) (d : α) : Con := fun args E n => match args with
  | [.c (.p it 0)] => match E it with
    | some (.itr i m sn) => match E i with
      | some (.dm k l) => if sn.length < m then some (.d (m = l.length ∧ someOf m sn ∧ isM M k l) (fun G => ∃ j : Nat, j < m ∧ j ∉ sn ∧ G = fun _ _ => .int .i64 j)
          (fun G => .t [.c (.v (.bool true)), constS (dmK k (M.enc ((decM M l).getD (idxG G) d)).x (M.enc ((decM M l).getD (idxG G) d)).y), constS (M.enc ((decM M l).getD (idxG G) d)).val]) (fun G => [(it, .itr i m (sn ++ [idxG G]))]) n)
        else some (.e (m = l.length ∧ someOf m sn) (.t [.c (.v (.bool false))]) [] n)
      | _ => none
    | _ => none
  | _ => none
theorem cok_nxtE {M : MEnc α} {d : α} : COk P (vN 0 7) (nxtConE M d) := by
  intro args E n hargs hE
  unfold nxtConE
  split
  · rename_i it
    have hc := cok_nxt (P := P) [.c (.p it 0)] E n hargs hE
    simp only [nxtCon] at hc
    split
    · rename_i i m sn hEt
      simp only [hEt] at hc
      split
      · rename_i k l hEi
        simp only [hEi] at hc
        split
        · rename_i hlt
          simp only [if_pos hlt] at hc
          rintro ⟨hm, hs, hM⟩
          obtain ⟨a1, a2, a3, a4⟩ := hc ⟨hm, hs⟩
          refine ⟨a1, fun G q b1 b2 b3 => ⟨?_, (a2 G q b1 b2 b3).2⟩, a3, fun base Mm r w hh => (a4 base Mm r w hh).mono ?_⟩
          · intro x hx
            simp only [List.mem_cons, List.not_mem_nil, or_false] at hx
            rcases hx with rfl | rfl | rfl
            · trivial
            · exact constS_sc _ _
            · exact constS_sc _ _
          · rintro e w' ⟨G, r', p1, p2, p3, p4⟩
            refine ⟨G, r', p1, p2, ?_, p4⟩
            rw [p3]
            obtain ⟨j, hj, _, rfl⟩ := p1
            simp only [idxG_int, getDM_M hM (show j < l.length by omega) d]
        · rename_i hlt
          simp only [if_neg hlt] at hc
          exact hc
      · trivial
    · trivial
  · trivial
def etyConE (M : MEnc α) (d : α) : Con := fun args E n => match args with
  | [.c (.p it 0)] => match E it with
    | some (.itr i m sn) => match E i with
      | some (.dm k l) => match sn.getLast? with
        | some j => some (.e (m = l.length ∧ j < m ∧ isM M k l) (.t [constS (dmK k (M.enc ((decM M l).getD j d)).x (M.enc ((decM M l).getD j d)).y), constS (M.enc ((decM M l).getD j d)).val]) [] n)
        | none => none
      | _ => none
    | _ => none
  | _ => none
theorem cok_etyE {M : MEnc α} {d : α} : COk P (vN 0 8) (etyConE M d) := by
  intro args E n hargs hE
  unfold etyConE
  split
  · rename_i it
    have hc := cok_ety (P := P) [.c (.p it 0)] E n hargs hE
    simp only [etyCon] at hc
    split
    · rename_i i m sn hEt
      simp only [hEt] at hc
      split
      · rename_i k l hEi
        simp only [hEi] at hc
        split
        · rename_i j hj
          simp only [hj] at hc
          rintro ⟨hm, hjm, hM⟩
          rw [getDM_M hM (show j < l.length by omega) d] at hc
          exact hc ⟨hm, hjm⟩
        · trivial
      · trivial
    · trivial
  · trivial
attribute [push_cast] nxtConE etyConE
end
def x20L0 : XC := (.seq (.reg false [O2 29 (.bin .lss) 28 27]) (.seq (.cond (.t 29) .skip (.exit 1)) (.seq (.block 2 (.seq (.reg false [O2 30 (.ixS 4) 26 28, O1 31 (.loadN 4) 30, ⟨(some 8), (.alloc 119 [(iV 0), (iV 0), (iV 0), (iV 0)]), [], none⟩, ⟨none, (.store 4), [(.t 8), (.t 31)], none⟩]) (.seq (.regD [O1 32 (.fld 0) 8, O1 33 (.fld 0) 32, O1 34 .load1 33, O1 35 .mv 1, O2 36 (.bin .shr) 34 35, O1 37 (.fld 0) 8, O1 38 (.fld 1) 37, O1 39 .load1 38, O1 40 .mv 1, O2 41 (.bin .shr) 39 40, ⟨(some 42), (.build [(iV 0), (iV 0)] [(0, 1), (1, 1)]), [(.t 36), (.t 41)], none⟩, ⟨(some 9), (.alloc 109 [(iV 0), (iV 0)]), [], none⟩, ⟨none, (.store 2), [(.t 9), (.t 42)], none⟩] [[], [0], [1, 0], [], [2, 1, 0, 3], [], [5], [6, 5], [], [7, 6, 5, 8], [4, 2, 1, 0, 3, 9, 7, 6, 5, 8], [], [11, 10, 4, 2, 1, 0, 3, 9, 7, 6, 5, 8]]) (.seq (.reg false [O1 43 .mv 6, O1 44 (.loadN 2) 9, O2 45 (.call 1050161) 43 44, ⟨(some 10), (.alloc 119 [(iV 0), (iV 0), (iV 0), (iV 0)]), [], none⟩, ⟨none, (.store 4), [(.t 10), (.t 45)], none⟩]) (.reg false [O1 46 .mv 6, O1 47 (.loadN 2) 9, O1 48 (.loadN 2) 9, O1 49 (.fld 2) 10, O1 50 .load1 49, O1 51 (.fld 2) 8, O1 52 .load1 51, O2 53 (.bin .add) 50 52, O1 54 (.fld 3) 10, O1 55 .load1 54, O1 56 (.fld 3) 8, O1 57 .load1 56, O2 58 (.bin .add) 55 57, ⟨(some 59), (.build [(iV 0), (iV 0), (iV 0), (iV 0)] [(0, 2), (2, 1), (3, 1)]), [(.t 48), (.t 53), (.t 58)], none⟩, ⟨none, (.call 1050162), [(.t 46), (.t 47), (.t 59)], none⟩]))))) (.reg false [K2 60 (.bin .add) 28 (iV 1), O1 28 .mv 60]))))
def x20L1 : XC := (.seq (.reg false [O1 63 (.call 1048583) 62, O1 64 (.ext 0) 63]) (.seq (.cond (.t 64) .skip (.exit 3)) (.block 4 (.seq (.reg false [O1 65 (.call 1048584) 62, O1 66 (.ext 1) 65, ⟨(some 13), (.alloc 119 [(iV 0), (iV 0), (iV 0), (iV 0)]), [], none⟩, ⟨none, (.store 4), [(.t 13), (.t 66)], none⟩]) (.seq (.seq (.reg false [O1 67 (.fld 2) 13, O1 68 .load1 67, K2 69 (.call 56) 68 (iV 1099511627776), O1 70 (.un .not) 69, O1 71 .mv 70, G1 72 (.fld 3) 13 71 false, G1 73 .load1 72 71 false, GK 74 (.call 56) 73 (iV 1099511627776) 71 false, G1 75 (.un .not) 74 71 false, ⟨(some 76), .pick, [(.t 71), (.k (.bool true)), (.t 75)], none⟩]) (.cond (.t 76) (.seq (.reg false [K1 4 .mv (.slice none 0 0), K1 5 .mv (iV 2)]) .ret) .skip)) (.seq (.reg false [O1 77 (.fld 2) 13, O1 78 .load1 77, K2 79 (.bin .neq) 78 (iV 0), O1 80 .mv 79, G1 81 (.fld 3) 13 80 false, G1 82 .load1 81 80 false, GK 83 (.bin .neq) 82 (iV 0) 80 false, ⟨(some 84), .pick, [(.t 80), (.k (.bool true)), (.t 83)], none⟩]) (.cond (.t 84) (.reg false [O1 85 .mv 11, O1 86 (.loadN 4) 13, ⟨(some 87), (.slit 119 1 4 [(iV 0), (iV 0), (iV 0), (iV 0)] [(0, 4)]), [(.t 86)], none⟩, O2 88 (.app 119 4 32) 85 87, O1 11 .mv 88]) .skip)))))))
def x20 : XFn := ⟨92, (.seq (.reg false [K1 4 .mv (.slice none 0 0), K1 5 .mv (iV 0)]) (.seq (.block 0 (.seq (.reg false [O1 15 .mv 0, O1 16 (.call 52) 15, O1 17 (.un .not) 16, O1 14 .mv 17]) (.cond (.t 14) (.seq (.reg false [K1 4 .mv (.slice none 0 0), K1 5 .mv (iV 1)]) .ret) (.seq (.reg false [O1 19 .mv 1, K2 20 (.bin .lss) 19 (iV 0), O1 21 .mv 20, G1 22 .mv 1 21 false, GK 23 (.bin .gtr) 22 (iV 10) 21 false, ⟨(some 24), .pick, [(.t 21), (.k (.bool true)), (.t 23)], none⟩, O1 18 .mv 24]) (.cond (.t 18) (.seq (.reg false [K1 4 .mv (.slice none 0 0), K1 5 .mv (iV 2)]) .ret) .skip))))) (.seq (.reg false [⟨(some 25), (.call 1050163), [], none⟩, O1 6 .mv 25]) (.seq (.cut (.seq (.reg false [O1 26 .mv 0, O1 27 .lenS 26, K1 28 .mv (iV 0)]) (.block 1 (.loop x20L0)))) (.seq (.reg false [K1 11 .mv (.slice none 0 0)]) (.seq (.seq (.reg false [O1 61 .mv 6, O1 62 (.call 1050166) 61]) (.block 3 (.loop x20L1))) (.seq (.reg false [O1 89 .mv 11, ⟨(some 90), (.call 58), [(.t 89), (.k (.func (.func 60) #[] #[]))], none⟩]) (.seq (.reg false [O1 91 .mv 11, O1 4 .mv 91, K1 5 .mv (iV 0)]) .ret)))))))), [(.s 4), (.s 5)]⟩
theorem x20_ok : xfn Tryz.prog Tryz.f20 = some x20.er := by kernel_rfl
theorem mt99 : mapT Tryz.prog 99 = some (true, (.agg #[.int .i64 0, .int .i64 0, .int .i64 0, .int .i64 0])) := by kernel_rfl
def g1050161 : Con := lookCon false true (.agg #[.int .i64 0, .int .i64 0, .int .i64 0, .int .i64 0])
theorem c1050161 : COk Tryz.prog 1050161 g1050161 := cok_look (t := 99) mt99
def g1050162 : Con := updCon true
theorem c1050162 : COk Tryz.prog 1050162 g1050162 := cok_upd (t := 99) mt99
def g1050163 : Con := mkmCon true
theorem c1050163 : COk Tryz.prog 1050163 g1050163 := cok_mkm (t := 99) mt99
def g1050166 : Con := rngCon
theorem c1050166 : COk Tryz.prog 1050166 g1050166 := cok_rng (t := 99) mt99
noncomputable def g1048583 : Con := nxtConE eTal eE.dflt
theorem c1048583 : COk Tryz.prog 1048583 g1048583 := cok_nxtE
noncomputable def g1048584 : Con := etyConE eTal eE.dflt
theorem c1048584 : COk Tryz.prog 1048584 g1048584 := cok_etyE
def g20 : Con := fun args_ E_ nn_ => match args_ with
  | [.c (.n l), .c (.v (.int .i64 level))] => (match rowOf E_ l with
    | some (l_n, l_s, l_f) => some (.e (isRow eE l_n l_s l_f ∧ (valE (decL eE l_n l_f) = true ∧ posL (decL eE l_n l_f)) ∧ (0 ≤ level ∧ level ≤ 10) ∧ (redT level (decL eE l_n l_f)).all cntB = true) (.t [.c (.n (nn_ + 0)), .c (.v (.int .i64 (0)))]) [((nn_ + 0), .own (srtL cmpE (redT level (decL eE l_n l_f))).length 4 (rowF eE (srtL cmpE (redT level (decL eE l_n l_f)))) 119)] (nn_ + 1))
    | none => none)
  | _ => none
theorem c20 : COk Tryz.prog 20 g20 := by
  refine cok_d Tryz.func20 x20_ok (by kernel_rfl) (cok_tab (cok_cons c52 (cok_cons c1050161 (cok_cons c1050162 (cok_cons c1050163 (cok_cons c1050166 (cok_cons c1048583 (cok_cons c1048584 (cok_cons c56 (cok_cons c58r cok_nil)))))))))) ?_
  intro args_ E_ nn_ cr_ hg_
  unfold g20 at hg_
  split at hg_
  · rename_i l level
    split at hg_
    · rename_i l_n l_s l_f h_l
      cases hg_
      refine ⟨_, _, _, _, rfl, 1, [l], [.c (.n 0), .c (.v (.int .i64 level))], [(0, .ro (decL eE l_n l_f).length eE.sz (rowF eE (decL eE l_n l_f)))], .t [.c (.n 1), .c (.v (.int .i64 (0)))], [(1, .own (srtL cmpE (redT level (decL eE l_n l_f))).length 4 (rowF eE (srtL cmpE (redT level (decL eE l_n l_f)))) 119)], 2, rfl, rfl, by simp only [renE, Ent.ren, rowF_renf] <;> rfl, rfl, by decide, and4 (by simp only [push_cast, Nat.reduceLT, Nat.reduceAdd]) ⟨rfl, ⟨inE0_row h_l, trivial⟩, by simp only [keysNodup, outN, keys] <;> decide, rfl, .inl rfl, ?_⟩⟩
      intro hpre hlen
      obtain ⟨i_l, hpre⟩ := hpre
      refine ⟨⟨inE_row h_l i_l, trivial⟩, by simp only [apartE] <;> (first | trivial | (simp [Ent.mut]; done)), ?_⟩
      have z_l := lens_row (E := eE) hlen h_l
      clear i_l
      generalize decL eE l_n l_f = lL at *
      clear h_l
      obtain ⟨⟨hv, hp⟩, ⟨n1, n2⟩, hcn⟩ := hpre
      obtain ⟨hlb, hall⟩ := valE_get hv
      have hro := red_ok (n := level) hv hp
      have w1 : (level < 0) = False := by simp; omega
      have w2 : (10 < level) = False := by simp; omega
      simp (maxSteps := 9999999) only [x20, push_cast, simprocAttr, g52, g1050161, g1050162, g1050163, g1050166, g1048583, g1048584, g56, g58r, hv, w1, w2]
      refine vcCut_upd (α := Unit) [6] 0 (fun _ => []) (fun _ => [(1, .dm true (mapF eTal (redT level lL)))]) ?_ ?_
      rotate_left
      · simp only [push_cast, simprocAttr, g52, g1050161, g1050162, g1050163, g1050166, g1048583, g1048584, g56, g58r, hv, w1, w2]
        refine vcLoop_upd (α := {k : Nat // k ≤ lL.length}) [1, 6, 26, 27] 0 (fun s => [(28, .o (.c (.v (.int .i64 (s.1 : Nat)))))]) (fun s => [(1, .dm true (mapF eTal (addL [] ((lL.map (redE level)).take s.1))))]) (fun s => lL.length - s.1) ⟨0, by omega⟩ ?_ ?_
        · simp only [push_cast, simprocAttr, g52, g1050161, g1050162, g1050163, g1050166, g1048583, g1048584, g56, g58r, hv, w1, w2]
          exact .inl rfl
        rintro ⟨k, hk⟩
        have hd := findDM_T ((lL.getD k eE.dflt).X / 2 ^ level.toNat) ((lL.getD k eE.dflt).Y / 2 ^ level.toNat) (addL [] ((lL.map (redE level)).take k))
        have B1 := talOk_nil.part hro (k := k) (by rw [List.length_map]; exact hk)
        have hw := B1.wide (by omega)
        have hsx := shrI (x := (lL.getD k eE.dflt).X) ⟨n1, n2⟩
        have hsy := shrI (x := (lL.getD k eE.dflt).Y) ⟨n1, n2⟩
        cases hf : findT (addL [] ((lL.map (redE level)).take k)) ((lL.getD k eE.dflt).X / 2 ^ level.toNat) ((lL.getD k eE.dflt).Y / 2 ^ level.toNat) with
        | none =>
          rw [hf] at hd
          simp only [Option.map_none] at hd
          simp only [x20L0, push_cast, simprocAttr, g52, g1050161, g1050162, g1050163, g1050166, g1048583, g1048584, g56, g58r, hv, w1, w2, hsx, hsy, hd]
          refine ⟨fun hlt => ?_, fun hn => ⟨(), .inl (by rw [List.take_of_length_le (by rw [List.length_map]; omega)]; rfl)⟩⟩
          have c1 := cntE_bd (valE_all hv hp _ (getE_mem hlt)).1 (hp _ (getE_mem hlt))
          refine ⟨hlt, hlt, n1, n1, by rfl, ⟨k + 1, by omega⟩, ⟨wrapI (by omega) (by omega), .inl ?_⟩, by simp only; omega⟩
          rw [wrapI (by omega) (by omega), wrapI (by omega) (by omega), Int.zero_add, Int.zero_add, red_take hlt, ← updDM_T, hf]
        | some e =>
          rw [hf] at hd
          simp only [Option.map_some] at hd
          simp only [x20L0, push_cast, simprocAttr, g52, g1050161, g1050162, g1050163, g1050166, g1048583, g1048584, g56, g58r, hv, w1, w2, hsx, hsy, hd]
          refine ⟨fun hlt => ?_, fun hn => ⟨(), .inl (by rw [List.take_of_length_le (by rw [List.length_map]; omega)]; rfl)⟩⟩
          have c1 := cntE_bd (valE_all hv hp _ (getE_mem hlt)).1 (hp _ (getE_mem hlt))
          have c2 := hw e (findT_mem hf).1
          refine ⟨hlt, hlt, n1, n1, by rfl, ⟨k + 1, by omega⟩, ⟨wrapI (by omega) (by omega), .inl ?_⟩, by simp only; omega⟩
          rw [wrapI (by omega) (by omega), wrapI (by omega) (by omega), red_take hlt, ← updDM_T, hf]
      rintro ⟨⟩
      simp only [push_cast, simprocAttr, g52, g1050161, g1050162, g1050163, g1050166, g1048583, g1048584, g56, g58r, hv, w1, w2]
      have hT : TalOk (redT level lL) (0 + (lL.map (redE level)).length) := talOk_nil.addL hro
      rw [List.length_map] at hT
      have hTl := hT.len
      rw [List.all_eq_true] at hcn
      generalize redT level lL = T at *
      refine vcLoop_upd (α := {sn : List Nat // someOf T.length sn}) [62] 1 (fun s => [(11, .o (.c (.n 3)))]) (fun s => [(2, .itr 1 T.length s.1), (3, .own (s.1.map (fun j => T.getD j eE.dflt)).length 4 (rowF eE (s.1.map (fun j => T.getD j eE.dflt))) 119)]) (fun s => T.length - s.1.length) ⟨[], ⟨List.nodup_nil, fun a h => by cases h⟩⟩ ?_ ?_
      · simp only [push_cast, simprocAttr, g52, g1050161, g1050162, g1050163, g1050166, g1048583, g1048584, g56, g58r, hv, w1, w2]
      rintro ⟨sn, hsn⟩
      by_cases hlt : sn.length < T.length
      · simp only [x20L1, push_cast, simprocAttr, g52, g1050161, g1050162, g1050163, g1050166, g1048583, g1048584, g56, g58r, hv, w1, w2, hlt, last_app]
        refine ⟨hsn, ?_⟩
        rintro G ⟨j, hj, hjn, rfl⟩
        rw [idxG_int]
        have hm := getE_mem hj
        have hcj := hcn _ hm
        have hpj := hT.pos _ hm
        have hsl := someOf_le hsn
        refine ⟨hj, fun h => ?_, fun _ _ => ⟨fun _ => ⟨by rw [List.length_map]; omega, ⟨sn ++ [j], someOf_push hsn hj hjn⟩, ⟨rfl, push_eq (E := eE) (x := T.getD j eE.dflt) (by rw [List.map_append]; rfl)⟩, by simp only [List.length_append, List.length_cons, List.length_nil]; omega⟩, fun h1 h2 => ?_⟩⟩
        · unfold cntB at hcj
          rw [Bool.and_eq_true] at hcj
          rcases h with h | h
          · rw [hcj.1] at h; cases h
          · rw [hcj.2] at h; cases h
        · obtain ⟨_, _, h3⟩ := hpj
          omega
      have hpm := (someOf_perm hsn (by omega)).map (fun j => T.getD j eE.dflt)
      rw [map_getD_range] at hpm
      have hpl := hpm.length_eq
      have hdT := (diffL_nodup _).2 hT.nd
      have hdp := diffL_perm ord_E hdT hpm
      have hsc := srtL_congr ord_E hdT hpm
      have hrw := (rowEq_rowF (E := eE) (srtL cmpE T).length 4 (srtL cmpE T) [(1, SC.n 3)]).2 trivial
      cases hg : sn.getLast? with
      | none =>
        simp only [x20L1, push_cast, simprocAttr, g52, g1050161, g1050162, g1050163, g1050166, g1048583, g1048584, g56, g58r, hv, w1, w2, hlt, hg]
        refine ⟨hsn, ⟨by omega, hdp⟩, by rw [hpl, srtL_len], ?_⟩
        rw [hsc]
        exact (rowEq_rowF _ _ _ _).2 trivial
      | some q =>
        simp only [x20L1, push_cast, simprocAttr, g52, g1050161, g1050162, g1050163, g1050166, g1048583, g1048584, g56, g58r, hv, w1, w2, hlt, hg]
        refine ⟨hsn, ⟨by omega, hdp⟩, by rw [hpl, srtL_len], ?_⟩
        rw [hsc]
        exact (rowEq_rowF _ _ _ _).2 trivial
    · cases hg_
  · cases hg_
end Go.Proofs.YtgpbokembopapaaGreat
namespace Go.Proofs.YtgpbokembopapaaGreat
open Go.Sx Go.Way
structure PL where
  v : Int
  g : Bool
  x : Int
  y : Int
  h : Int
def idB (n : Int) : Bool := decide (0 ≤ n ∧ n < 64)
def plB (p : PL) : Bool := decide (1 ≤ p.v ∧ p.v ≤ 1073741824) && (if p.g = true then decide (p.x = 0 ∧ p.y = 0 ∧ p.h = 0) else decide ((-262144 ≤ p.x ∧ p.x ≤ 262144) ∧ (-262144 ≤ p.y ∧ p.y ≤ 262144) ∧ 0 ≤ p.h ∧ p.h < 256))
def numB (b : Bool) : Int := if b = true then 1 else 0
def cmpB (a b : CC) : Int := firstNZ [cmpI a.X b.X, cmpI a.Y b.Y]
def lexB : List CC → List CC → Int
  | [], [] => 0
  | [], _ :: _ => -1
  | _ :: _, [] => 1
  | x :: a, y :: b => if cmpB x y ≠ 0 then cmpB x y else lexB a b
def cmpS (a b : List CC) : Int := if cmpI a.length b.length ≠ 0 then cmpI a.length b.length else lexB a b
def cmpP (p q : PL) : Int := firstNZ [cmpI p.v q.v, cmpI (numB p.g) (numB q.g), cmpI p.x q.x, cmpI p.y q.y, cmpI p.h q.h]
theorem lexB_step {a b : List CC} {k : Nat} (ha : k < a.length) (hb : k < b.length) : lexB (a.drop k) (b.drop k) = if cmpB (a.getD k eC.dflt) (b.getD k eC.dflt) ≠ 0 then cmpB (a.getD k eC.dflt) (b.getD k eC.dflt) else lexB (a.drop (k + 1)) (b.drop (k + 1)) := by
  rw [drop_cons eC.dflt ha, drop_cons eC.dflt hb]; rfl
theorem lexB_more {a b : List CC} {k : Nat} (ha : k < a.length) (hb : b.length ≤ k) : lexB (a.drop k) (b.drop k) = 1 := by
  rw [drop_cons eC.dflt ha, List.drop_eq_nil_of_le hb]; rfl
theorem lexB_end {a b : List CC} {k : Nat} (ha : a.length ≤ k) : lexB (a.drop k) (b.drop k) = if k < b.length then -1 else 0 := by
  rw [List.drop_eq_nil_of_le ha]
  split
  · rename_i h; rw [drop_cons eC.dflt h]; rfl
  · rename_i h; rw [List.drop_eq_nil_of_le (by omega)]; rfl
def x75 : XFn := ⟨9, (.seq (.reg false [K1 2 .mv (.bool false)]) (.seq (.reg false [O1 3 .mv 0, K2 4 (.bin .geq) 3 (iV 0), O1 5 .mv 4, G1 6 .mv 0 5 true, GK 7 (.bin .lss) 6 (iV 64) 5 true, ⟨(some 8), .pick, [(.t 5), (.t 7), (.k (.bool false))], none⟩, O1 2 .mv 8]) .ret)), [(.s 2)]⟩
theorem x75_ok : xfn Tryz.prog Tryz.f75 = some x75.er := by kernel_rfl
def x76 : XFn := ⟨17, (.seq (.reg false [K1 4 .mv (iV 0)]) (.seq (.seq (.reg false [O1 6 .mv 0, O1 7 .lenS 6, O1 8 .mv 1, O1 9 .lenS 8, O2 10 (.call 73) 7 9, O1 5 .mv 10]) (.seq (.reg false [O1 11 .mv 5, K2 12 (.bin .neq) 11 (iV 0)]) (.cond (.t 12) (.seq (.reg false [O1 13 .mv 5, O1 4 .mv 13]) .ret) .skip))) (.seq (.reg false [O1 14 .mv 0, O1 15 .mv 1, ⟨(some 16), (.call 114), [(.t 14), (.t 15), (.k (.func (.func 115) #[] #[]))], none⟩, O1 4 .mv 16]) .ret))), [(.s 4)]⟩
theorem x76_ok : xfn Tryz.prog Tryz.f76 = some x76.er := by kernel_rfl
def x77 : XFn := ⟨39, (.seq (.reg false [O1 1 (.box 32) 0, K1 2 .mv (.bool false)]) (.seq (.seq (.reg false [O1 3 (.fld 0) 1, O1 4 .load1 3, K2 5 (.bin .lss) 4 (iV 1), O1 6 .mv 5, G1 7 (.fld 0) 1 6 false, G1 8 .load1 7 6 false, GK 9 (.bin .gtr) 8 (iV 1073741824) 6 false, ⟨(some 10), .pick, [(.t 6), (.k (.bool true)), (.t 9)], none⟩]) (.cond (.t 10) (.seq (.reg false [K1 2 .mv (.bool false)]) .ret) .skip)) (.seq (.seq (.reg false [O1 11 (.fld 1) 1, O1 12 .load1 11]) (.cond (.t 12) (.seq (.reg false [O1 13 (.fld 2) 1, O1 14 (.loadN 3) 13, ⟨(some 15), (.build [(iV 0), (iV 0), (iV 0)] []), [], none⟩, ⟨(some 16), (.eqA false [(.i .i64), (.i .i64), (.i .i64)]), [(.t 14), (.t 15)], none⟩, O1 2 .mv 16]) .ret) .skip)) (.seq (.reg false [O1 17 (.fld 2) 1, O1 18 (.fld 0) 17, O1 19 .load1 18, O1 20 (.call 116) 19, O1 21 .mv 20, G1 22 (.fld 2) 1 21 true, G1 23 (.fld 1) 22 21 true, G1 24 .load1 23 21 true, G1 25 (.call 116) 24 21 true, ⟨(some 26), .pick, [(.t 21), (.t 25), (.k (.bool false))], none⟩, O1 27 .mv 26, G1 28 (.fld 2) 1 27 true, G1 29 (.fld 2) 28 27 true, G1 30 .load1 29 27 true, GK 31 (.bin .geq) 30 (iV 0) 27 true, ⟨(some 32), .pick, [(.t 27), (.t 31), (.k (.bool false))], none⟩, O1 33 .mv 32, G1 34 (.fld 2) 1 33 true, G1 35 (.fld 2) 34 33 true, G1 36 .load1 35 33 true, GK 37 (.bin .lss) 36 (iV 256) 33 true, ⟨(some 38), .pick, [(.t 33), (.t 37), (.k (.bool false))], none⟩, O1 2 .mv 38]) .ret)))), [(.s 2)]⟩
theorem x77_ok : xfn Tryz.prog Tryz.f77 = some x77.er := by kernel_rfl
def x78 : XFn := ⟨40, (.seq (.reg false [O1 2 (.box 32) 0, O1 3 (.box 32) 1, K1 4 .mv (iV 0)]) (.seq (.regD [O1 5 (.fld 0) 2, O1 6 .load1 5, O1 7 (.fld 0) 3, O1 8 .load1 7, O2 9 (.call 73) 6 8, O1 10 (.fld 1) 2, O1 11 .load1 10, O1 12 (.call 117) 11, O1 13 (.fld 1) 3, O1 14 .load1 13, O1 15 (.call 117) 14, O2 16 (.call 73) 12 15, O1 17 (.fld 2) 2, O1 18 (.fld 0) 17, O1 19 .load1 18, O1 20 (.fld 2) 3, O1 21 (.fld 0) 20, O1 22 .load1 21, O2 23 (.call 73) 19 22, O1 24 (.fld 2) 2, O1 25 (.fld 1) 24, O1 26 .load1 25, O1 27 (.fld 2) 3, O1 28 (.fld 1) 27, O1 29 .load1 28, O2 30 (.call 73) 26 29, O1 31 (.fld 2) 2, O1 32 (.fld 2) 31, O1 33 .load1 32, O1 34 (.fld 2) 3, O1 35 (.fld 2) 34, O1 36 .load1 35, O2 37 (.call 73) 33 36, ⟨(some 38), (.slit 3 5 1 [(iV 0), (iV 0), (iV 0), (iV 0), (iV 0)] [(0, 1), (1, 1), (2, 1), (3, 1), (4, 1)]), [(.t 9), (.t 16), (.t 23), (.t 30), (.t 37)], none⟩, O1 39 (.call 72) 38, O1 4 .mv 39] [[], [0], [], [2], [1, 0, 3, 2], [], [5], [6, 5, 4, 1, 0, 3, 2], [], [8], [9, 8, 7, 6, 5, 4, 1, 0, 3, 2], [7, 6, 5, 4, 1, 0, 3, 2, 10, 9, 8], [], [12], [13, 12], [], [15], [16, 15], [14, 13, 12, 17, 16, 15, 11, 7, 6, 5, 4, 1, 0, 3, 2, 10, 9, 8], [], [19], [20, 19], [], [22], [23, 22], [21, 20, 19, 24, 23, 22, 18, 14, 13, 12, 17, 16, 15, 11, 7, 6, 5, 4, 1, 0, 3, 2, 10, 9, 8], [], [26], [27, 26], [], [29], [30, 29], [28, 27, 26, 31, 30, 29, 25, 21, 20, 19, 24, 23, 22, 18, 14, 13, 12, 17, 16, 15, 11, 7, 6, 5, 4, 1, 0, 3, 2, 10, 9, 8], [4, 1, 0, 3, 2, 11, 7, 6, 5, 10, 9, 8, 18, 14, 13, 12, 17, 16, 15, 25, 21, 20, 19, 24, 23, 22, 32, 28, 27, 26, 31, 30, 29], [33, 4, 1, 0, 3, 2, 11, 7, 6, 5, 10, 9, 8, 18, 14, 13, 12, 17, 16, 15, 25, 21, 20, 19, 24, 23, 22, 32, 28, 27, 26, 31, 30, 29], [34, 33, 4, 1, 0, 3, 2, 11, 7, 6, 5, 10, 9, 8, 18, 14, 13, 12, 17, 16, 15, 25, 21, 20, 19, 24, 23, 22, 32, 28, 27, 26, 31, 30, 29]]) .ret)), [(.s 4)]⟩
theorem x78_ok : xfn Tryz.prog Tryz.f78 = some x78.er := by kernel_rfl
def x114L0 : XC := (.seq (.reg false [O2 14 (.bin .lss) 13 12]) (.seq (.cond (.t 14) .skip (.exit 0)) (.seq (.block 1 (.seq (.reg false [O1 15 .mv 13, O2 16 (.ixS 2) 11 13, O1 17 (.loadN 2) 16, ⟨(some 8), (.alloc 89 [(iV 0), (iV 0)]), [], none⟩, O1 7 .mv 15, ⟨none, (.store 2), [(.t 8), (.t 17)], none⟩]) (.seq (.seq (.reg false [O1 18 .mv 7, O1 19 .mv 1, O1 20 .lenS 19, O2 21 (.bin .geq) 18 20]) (.cond (.t 21) (.seq (.reg false [K1 6 .mv (iV 1)]) .ret) .skip)) (.seq (.reg false [O1 22 .mv 1, O1 23 .mv 7, O2 24 (.ixS 2) 22 23, O1 25 (.loadN 2) 24, ⟨(some 9), (.alloc 89 [(iV 0), (iV 0)]), [], none⟩, ⟨none, (.store 2), [(.t 9), (.t 25)], none⟩]) (.seq (.reg false [O1 26 .mv 2, O1 27 (.loadN 2) 8, O1 28 (.loadN 2) 9, ⟨(some 29), .callv, [(.t 26), (.t 27), (.t 28)], none⟩, O1 10 .mv 29]) (.seq (.reg false [O1 30 .mv 10, K2 31 (.bin .neq) 30 (iV 0)]) (.cond (.t 31) (.seq (.reg false [O1 32 .mv 10, O1 6 .mv 32]) .ret) .skip))))))) (.reg false [K2 33 (.bin .add) 13 (iV 1), O1 13 .mv 33]))))
def x114 : XFn := ⟨39, (.seq (.reg false [K1 6 .mv (iV 0)]) (.seq (.seq (.reg false [O1 11 .mv 0, O1 12 .lenS 11, K1 13 .mv (iV 0)]) (.block 0 (.loop x114L0))) (.seq (.seq (.reg false [O1 34 .mv 0, O1 35 .lenS 34, O1 36 .mv 1, O1 37 .lenS 36, O2 38 (.bin .lss) 35 37]) (.cond (.t 38) (.seq (.reg false [K1 6 .mv (iV (-1))]) .ret) .skip)) (.seq (.reg false [K1 6 .mv (iV 0)]) .ret)))), [(.s 6)]⟩
theorem x114_ok : xfn Tryz.prog Tryz.f114 = some x114.er := by kernel_rfl
def x115 : XFn := ⟨17, (.seq (.reg false [O1 2 (.box 89) 0, O1 3 (.box 89) 1, K1 4 .mv (iV 0)]) (.seq (.regD [O1 5 (.fld 0) 2, O1 6 .load1 5, O1 7 (.fld 0) 3, O1 8 .load1 7, O2 9 (.call 73) 6 8, O1 10 (.fld 1) 2, O1 11 .load1 10, O1 12 (.fld 1) 3, O1 13 .load1 12, O2 14 (.call 73) 11 13, ⟨(some 15), (.slit 3 2 1 [(iV 0), (iV 0)] [(0, 1), (1, 1)]), [(.t 9), (.t 14)], none⟩, O1 16 (.call 72) 15, O1 4 .mv 16] [[], [0], [], [2], [1, 0, 3, 2], [], [5], [], [7], [6, 5, 8, 7, 4, 1, 0, 3, 2], [4, 1, 0, 3, 2, 9, 6, 5, 8, 7], [10, 4, 1, 0, 3, 2, 9, 6, 5, 8, 7], [11, 10, 4, 1, 0, 3, 2, 9, 6, 5, 8, 7]]) .ret)), [(.s 4)]⟩
theorem x115_ok : xfn Tryz.prog Tryz.f115 = some x115.er := by kernel_rfl
def x116 : XFn := ⟨9, (.seq (.reg false [K1 2 .mv (.bool false)]) (.seq (.reg false [O1 3 .mv 0, K2 4 (.bin .geq) 3 (iV (-262144)), O1 5 .mv 4, G1 6 .mv 0 5 true, GK 7 (.bin .leq) 6 (iV 262144) 5 true, ⟨(some 8), .pick, [(.t 5), (.t 7), (.k (.bool false))], none⟩, O1 2 .mv 8]) .ret)), [(.s 2)]⟩
theorem x116_ok : xfn Tryz.prog Tryz.f116 = some x116.er := by kernel_rfl
def x117 : XFn := ⟨4, (.seq (.reg false [K1 2 .mv (iV 0)]) (.seq (.seq (.reg false [O1 3 .mv 0]) (.cond (.t 3) (.seq (.reg false [K1 2 .mv (iV 1)]) .ret) .skip)) (.seq (.reg false [K1 2 .mv (iV 0)]) .ret))), [(.s 2)]⟩
theorem x117_ok : xfn Tryz.prog Tryz.f117 = some x117.er := by kernel_rfl
def x41L0 : XC := (.seq (.reg false [O2 14 (.bin .lss) 13 12]) (.seq (.cond (.t 14) .skip (.exit 0)) (.seq (.block 1 (.seq (.reg false [O1 15 .mv 13, O1 5 .mv 15]) (.seq (.reg true [O1 16 .mv 0, O1 17 .mv 5, O2 18 (.ixS 1) 16 17, O1 19 .load1 18, O1 20 .mv 1, O1 21 .mv 5, O2 22 (.ixS 1) 20 21, O1 23 .load1 22, O2 24 (.bin .neq) 19 23]) (.cond (.t 24) (.seq (.reg false [K1 4 .mv (.bool false)]) .ret) .skip)))) (.reg false [K2 25 (.bin .add) 13 (iV 1), O1 13 .mv 25]))))
def x41 : XFn := ⟨26, (.seq (.reg false [K1 4 .mv (.bool false)]) (.seq (.seq (.reg false [O1 6 .mv 0, O1 7 .lenS 6, O1 8 .mv 1, O1 9 .lenS 8, O2 10 (.bin .neq) 7 9]) (.cond (.t 10) (.seq (.reg false [K1 4 .mv (.bool false)]) .ret) .skip)) (.seq (.seq (.reg false [O1 11 .mv 0, O1 12 .lenS 11, K1 13 .mv (iV 0)]) (.block 0 (.loop x41L0))) (.seq (.reg false [K1 4 .mv (.bool true)]) .ret)))), [(.s 4)]⟩
theorem x41_ok : xfn Tryz.prog Tryz.f41 = some x41.er := by kernel_rfl
def x42L0 : XC := (.seq (.reg false [O2 14 (.bin .lss) 13 12]) (.seq (.cond (.t 14) .skip (.exit 0)) (.seq (.block 1 (.seq (.reg false [O1 15 .mv 13, O1 5 .mv 15]) (.seq (.reg true [O1 16 .mv 0, O1 17 .mv 5, O2 18 (.ixS 2) 16 17, O1 19 (.loadN 2) 18, O1 20 .mv 1, O1 21 .mv 5, O2 22 (.ixS 2) 20 21, O1 23 (.loadN 2) 22, ⟨(some 24), (.eqA true [(.i .i64), (.i .i64)]), [(.t 19), (.t 23)], none⟩]) (.cond (.t 24) (.seq (.reg false [K1 4 .mv (.bool false)]) .ret) .skip)))) (.reg false [K2 25 (.bin .add) 13 (iV 1), O1 13 .mv 25]))))
def x42 : XFn := ⟨26, (.seq (.reg false [K1 4 .mv (.bool false)]) (.seq (.seq (.reg false [O1 6 .mv 0, O1 7 .lenS 6, O1 8 .mv 1, O1 9 .lenS 8, O2 10 (.bin .neq) 7 9]) (.cond (.t 10) (.seq (.reg false [K1 4 .mv (.bool false)]) .ret) .skip)) (.seq (.seq (.reg false [O1 11 .mv 0, O1 12 .lenS 11, K1 13 .mv (iV 0)]) (.block 0 (.loop x42L0))) (.seq (.reg false [K1 4 .mv (.bool true)]) .ret)))), [(.s 4)]⟩
theorem x42_ok : xfn Tryz.prog Tryz.f42 = some x42.er := by kernel_rfl
def x43 : XFn := ⟨8, (.seq (.reg false [K1 2 .mv (.slice none 0 0)]) (.seq (.seq (.reg false [O1 3 .mv 0, O1 4 (.isnil false) 3]) (.cond (.t 4) (.seq (.reg false [K1 2 .mv (.slice none 0 0)]) .ret) .skip)) (.seq (.reg false [⟨(some 5), (.slit 89 0 2 [] []), [], none⟩, O1 6 .mv 0, O2 7 (.app 89 2 16) 5 6, O1 2 .mv 7]) .ret))), [(.s 2)]⟩
theorem x43_ok : xfn Tryz.prog Tryz.f43 = some x43.er := by kernel_rfl
def g75 : Con := fun args_ E_ nn_ => match args_ with
  | [.c (.v (.int .i64 id))] => some (.q (True) (.o (.c (.v (.bool (idB id))))))
  | _ => none
theorem c75 : COk Tryz.prog 75 g75 := by
  refine cok_q Tryz.func75 x75_ok (by kernel_rfl) (cok_tab cok_nil) ?_
  intro args_ E_ nn_ cr_ hg_
  unfold g75 at hg_
  split at hg_
  · rename_i id
    cases hg_
    refine ⟨_, _, rfl, 0, [], [.c (.v (.int .i64 id))], [], .o (.c (.v (.bool (idB id)))), rfl, rfl, and3 (by simp only [push_cast, Nat.reduceLT, Nat.reduceAdd]) ⟨rfl, trivial, rfl, ?_⟩⟩
    intro hpre hlen
    refine ⟨trivial, ?_⟩
    simp (maxSteps := 9999999) only [x75, push_cast, simprocAttr]
    unfold idB
    rw [Bool.eq_iff_iff]
    simp
  · cases hg_
def g116 : Con := fun args_ E_ nn_ => match args_ with
  | [.c (.v (.int .i64 n))] => some (.q (True) (.o (.c (.v (.bool (decide (-262144 ≤ n ∧ n ≤ 262144)))))))
  | _ => none
theorem c116 : COk Tryz.prog 116 g116 := by
  refine cok_q Tryz.func116 x116_ok (by kernel_rfl) (cok_tab cok_nil) ?_
  intro args_ E_ nn_ cr_ hg_
  unfold g116 at hg_
  split at hg_
  · rename_i n
    cases hg_
    refine ⟨_, _, rfl, 0, [], [.c (.v (.int .i64 n))], [], .o (.c (.v (.bool (decide (-262144 ≤ n ∧ n ≤ 262144))))), rfl, rfl, and3 (by simp only [push_cast, Nat.reduceLT, Nat.reduceAdd]) ⟨rfl, trivial, rfl, ?_⟩⟩
    intro hpre hlen
    refine ⟨trivial, ?_⟩
    simp (maxSteps := 9999999) only [x116, push_cast, simprocAttr]
    rw [Bool.eq_iff_iff]
    simp
  · cases hg_
def g117 : Con := fun args_ E_ nn_ => match args_ with
  | [.c (.v (.bool b))] => some (.q (True) (.o (.c (.v (.int .i64 (numB b))))))
  | _ => none
theorem c117 : COk Tryz.prog 117 g117 := by
  refine cok_q Tryz.func117 x117_ok (by kernel_rfl) (cok_tab cok_nil) ?_
  intro args_ E_ nn_ cr_ hg_
  unfold g117 at hg_
  split at hg_
  · rename_i b
    cases hg_
    refine ⟨_, _, rfl, 0, [], [.c (.v (.bool b))], [], .o (.c (.v (.int .i64 (numB b)))), rfl, rfl, and3 (by simp only [push_cast, Nat.reduceLT, Nat.reduceAdd]) ⟨rfl, trivial, rfl, ?_⟩⟩
    intro hpre hlen
    refine ⟨trivial, ?_⟩
    simp (maxSteps := 9999999) only [x117, push_cast, simprocAttr]
    unfold numB
    exact ⟨fun h => by rw [if_pos h], fun h => by rw [h]; rfl⟩
  · cases hg_
def g77 : Con := fun args_ E_ nn_ => match args_ with
  | [.a [.v (.int .i64 p_Version), .v (.bool p_Gone), .v (.int .i64 p_Pose_X), .v (.int .i64 p_Pose_Y), .v (.int .i64 p_Pose_H)]] => some (.q (True) (.o (.c (.v (.bool (plB (⟨p_Version, p_Gone, p_Pose_X, p_Pose_Y, p_Pose_H⟩ : PL)))))))
  | _ => none
theorem c77 : COk Tryz.prog 77 g77 := by
  refine cok_q Tryz.func77 x77_ok (by kernel_rfl) (cok_tab (cok_cons c116 cok_nil)) ?_
  intro args_ E_ nn_ cr_ hg_
  unfold g77 at hg_
  split at hg_
  · rename_i p_Version p_Gone p_Pose_X p_Pose_Y p_Pose_H
    cases hg_
    refine ⟨_, _, rfl, 0, [], [.a [.v (.int .i64 p_Version), .v (.bool p_Gone), .v (.int .i64 p_Pose_X), .v (.int .i64 p_Pose_Y), .v (.int .i64 p_Pose_H)]], [], .o (.c (.v (.bool (plB (⟨p_Version, p_Gone, p_Pose_X, p_Pose_Y, p_Pose_H⟩ : PL))))), rfl, rfl, and3 (by simp only [push_cast, Nat.reduceLT, Nat.reduceAdd]) ⟨rfl, trivial, rfl, ?_⟩⟩
    intro hpre hlen
    refine ⟨trivial, ?_⟩
    simp (maxSteps := 9999999) only [x77, push_cast, simprocAttr, g116]
    unfold plB
    refine ⟨fun h => by rw [decide_eq_false (show ¬(1 ≤ p_Version ∧ p_Version ≤ 1073741824) by omega)]; rfl, fun h1 h2 => ⟨fun hg => ?_, fun hg => ?_⟩⟩
    · rw [decide_eq_true (show 1 ≤ p_Version ∧ p_Version ≤ 1073741824 by omega), Bool.true_and, if_pos hg, Bool.eq_iff_iff]
      simp
    · rw [decide_eq_true (show 1 ≤ p_Version ∧ p_Version ≤ 1073741824 by omega), Bool.true_and, if_neg (by rw [hg]; simp), Bool.eq_iff_iff]
      simp [and_assoc]
  · cases hg_
def g115 : Con := fun args_ E_ nn_ => match args_ with
  | [.a [.v (.int .i64 x_Mark), .v (.int .i64 x_Reading)], .a [.v (.int .i64 y_Mark), .v (.int .i64 y_Reading)]] => some (.q (True) (.o (.c (.v (.int .i64 (cmpB ⟨x_Mark, x_Reading⟩ ⟨y_Mark, y_Reading⟩))))))
  | _ => none
theorem c115 : COk Tryz.prog 115 g115 := by
  refine cok_q Tryz.func115 x115_ok (by kernel_rfl) (cok_tab (cok_cons c73 (cok_cons c72 cok_nil))) ?_
  intro args_ E_ nn_ cr_ hg_
  unfold g115 at hg_
  split at hg_
  · rename_i x_Mark x_Reading y_Mark y_Reading
    cases hg_
    refine ⟨_, _, rfl, 0, [], [.a [.v (.int .i64 x_Mark), .v (.int .i64 x_Reading)], .a [.v (.int .i64 y_Mark), .v (.int .i64 y_Reading)]], [], .o (.c (.v (.int .i64 (cmpB ⟨x_Mark, x_Reading⟩ ⟨y_Mark, y_Reading⟩)))), rfl, rfl, and3 (by simp only [push_cast, Nat.reduceLT, Nat.reduceAdd]) ⟨rfl, trivial, rfl, ?_⟩⟩
    intro hpre hlen
    refine ⟨trivial, ?_⟩
    have hl1 : isRow eI 2 1 (litF [SC.v (Value.int IntKind.i64 (cmpI x_Mark y_Mark)), SC.v (Value.int IntKind.i64 (cmpI x_Reading y_Reading))] 1) ↔ True := iff_true_intro (lits_row eI [(cmpI x_Mark y_Mark), (cmpI x_Reading y_Reading)]).1
    have hl2 : decL eI 2 (litF [SC.v (Value.int IntKind.i64 (cmpI x_Mark y_Mark)), SC.v (Value.int IntKind.i64 (cmpI x_Reading y_Reading))] 1) = [(cmpI x_Mark y_Mark), (cmpI x_Reading y_Reading)] := (lits_row eI [(cmpI x_Mark y_Mark), (cmpI x_Reading y_Reading)]).2
    simp (maxSteps := 9999999) only [x115, push_cast, simprocAttr, g73, g72, hl1, hl2]
    exact ⟨by rfl, rfl⟩
  · cases hg_
def g78 : Con := fun args_ E_ nn_ => match args_ with
  | [.a [.v (.int .i64 a_Version), .v (.bool a_Gone), .v (.int .i64 a_Pose_X), .v (.int .i64 a_Pose_Y), .v (.int .i64 a_Pose_H)], .a [.v (.int .i64 b_Version), .v (.bool b_Gone), .v (.int .i64 b_Pose_X), .v (.int .i64 b_Pose_Y), .v (.int .i64 b_Pose_H)]] => some (.q (True) (.o (.c (.v (.int .i64 (cmpP (⟨a_Version, a_Gone, a_Pose_X, a_Pose_Y, a_Pose_H⟩ : PL) (⟨b_Version, b_Gone, b_Pose_X, b_Pose_Y, b_Pose_H⟩ : PL)))))))
  | _ => none
theorem c78 : COk Tryz.prog 78 g78 := by
  refine cok_q Tryz.func78 x78_ok (by kernel_rfl) (cok_tab (cok_cons c73 (cok_cons c72 (cok_cons c117 cok_nil)))) ?_
  intro args_ E_ nn_ cr_ hg_
  unfold g78 at hg_
  split at hg_
  · rename_i a_Version a_Gone a_Pose_X a_Pose_Y a_Pose_H b_Version b_Gone b_Pose_X b_Pose_Y b_Pose_H
    cases hg_
    refine ⟨_, _, rfl, 0, [], [.a [.v (.int .i64 a_Version), .v (.bool a_Gone), .v (.int .i64 a_Pose_X), .v (.int .i64 a_Pose_Y), .v (.int .i64 a_Pose_H)], .a [.v (.int .i64 b_Version), .v (.bool b_Gone), .v (.int .i64 b_Pose_X), .v (.int .i64 b_Pose_Y), .v (.int .i64 b_Pose_H)]], [], .o (.c (.v (.int .i64 (cmpP (⟨a_Version, a_Gone, a_Pose_X, a_Pose_Y, a_Pose_H⟩ : PL) (⟨b_Version, b_Gone, b_Pose_X, b_Pose_Y, b_Pose_H⟩ : PL))))), rfl, rfl, and3 (by simp only [push_cast, Nat.reduceLT, Nat.reduceAdd]) ⟨rfl, trivial, rfl, ?_⟩⟩
    intro hpre hlen
    refine ⟨trivial, ?_⟩
    have hl1 : isRow eI 5 1 (litF [SC.v (Value.int IntKind.i64 (cmpI a_Version b_Version)), SC.v (Value.int IntKind.i64 (cmpI (numB a_Gone) (numB b_Gone))), SC.v (Value.int IntKind.i64 (cmpI a_Pose_X b_Pose_X)), SC.v (Value.int IntKind.i64 (cmpI a_Pose_Y b_Pose_Y)), SC.v (Value.int IntKind.i64 (cmpI a_Pose_H b_Pose_H))] 1) ↔ True := iff_true_intro (lits_row eI [(cmpI a_Version b_Version), (cmpI (numB a_Gone) (numB b_Gone)), (cmpI a_Pose_X b_Pose_X), (cmpI a_Pose_Y b_Pose_Y), (cmpI a_Pose_H b_Pose_H)]).1
    have hl2 : decL eI 5 (litF [SC.v (Value.int IntKind.i64 (cmpI a_Version b_Version)), SC.v (Value.int IntKind.i64 (cmpI (numB a_Gone) (numB b_Gone))), SC.v (Value.int IntKind.i64 (cmpI a_Pose_X b_Pose_X)), SC.v (Value.int IntKind.i64 (cmpI a_Pose_Y b_Pose_Y)), SC.v (Value.int IntKind.i64 (cmpI a_Pose_H b_Pose_H))] 1) = [(cmpI a_Version b_Version), (cmpI (numB a_Gone) (numB b_Gone)), (cmpI a_Pose_X b_Pose_X), (cmpI a_Pose_Y b_Pose_Y), (cmpI a_Pose_H b_Pose_H)] := (lits_row eI [(cmpI a_Version b_Version), (cmpI (numB a_Gone) (numB b_Gone)), (cmpI a_Pose_X b_Pose_X), (cmpI a_Pose_Y b_Pose_Y), (cmpI a_Pose_H b_Pose_H)]).2
    simp (maxSteps := 9999999) only [x78, push_cast, simprocAttr, g73, g72, g117, hl1, hl2]
    exact ⟨by rfl, rfl⟩
  · cases hg_
def g114 : Con := fun args_ E_ nn_ => match args_ with
  | [.c (.n s1), .c (.n s2), .c (.v (.func (.func 115) f_a f_b))] => (match rowOf E_ s1 with
    | some (s1_n, s1_s, s1_f) => (match rowOf E_ s2 with
    | some (s2_n, s2_s, s2_f) => some (.q (isRow eC s1_n s1_s s1_f ∧ isRow eC s2_n s2_s s2_f ∧ f_a = #[] ∧ f_b = #[]) (.o (.c (.v (.int .i64 (lexB (decL eC s1_n s1_f) (decL eC s2_n s2_f)))))))
    | none => none)
    | none => none)
  | _ => none
theorem c114 : COk Tryz.prog 114 g114 := by
  refine cok_q Tryz.func114 x114_ok (by kernel_rfl) (cok_tab (cok_cons c115 cok_nil)) ?_
  intro args_ E_ nn_ cr_ hg_
  unfold g114 at hg_
  split at hg_
  · rename_i s1 s2 f_a f_b
    split at hg_
    · rename_i s1_n s1_s s1_f h_s1
      split at hg_
      · rename_i s2_n s2_s s2_f h_s2
        cases hg_
        refine ⟨_, _, rfl, 2, [s1, s2], [.c (.n 0), .c (.n 1), .c (.v (.func (.func 115) f_a f_b))], [(0, .ro (decL eC s1_n s1_f).length eC.sz (rowF eC (decL eC s1_n s1_f))), (1, .ro (decL eC s2_n s2_f).length eC.sz (rowF eC (decL eC s2_n s2_f)))], .o (.c (.v (.int .i64 (lexB (decL eC s1_n s1_f) (decL eC s2_n s2_f))))), rfl, rfl, and3 (by simp only [push_cast, Nat.reduceLT, Nat.reduceAdd]) ⟨rfl, ⟨inE0_row h_s1, inE0_row h_s2, trivial⟩, rfl, ?_⟩⟩
        intro hpre hlen
        obtain ⟨i_s1, hpre⟩ := hpre
        obtain ⟨i_s2, hpre⟩ := hpre
        refine ⟨⟨inE_row h_s1 i_s1, inE_row h_s2 i_s2, trivial⟩, ?_⟩
        have z_s1 := lens_row (E := eC) hlen h_s1
        have z_s2 := lens_row (E := eC) hlen h_s2
        clear i_s1
        generalize decL eC s1_n s1_f = s1L at *
        clear i_s2
        generalize decL eC s2_n s2_f = s2L at *
        clear h_s1
        clear h_s2
        obtain ⟨rfl, rfl⟩ := hpre
        simp (maxSteps := 9999999) only [x114, push_cast, simprocAttr, g115]
        refine vcLoop_upd (α := {k : Nat // k ≤ s1L.length ∧ k ≤ s2L.length ∧ lexB (s1L.drop k) (s2L.drop k) = lexB s1L s2L}) [0, 1, 2, 11, 12] 0 (fun s => [(13, .o (.c (.v (.int .i64 (s.1 : Nat)))))]) (fun s => []) (fun s => s1L.length - s.1) ⟨0, by omega, by omega, rfl⟩ ?_ ?_
        · simp only [push_cast, simprocAttr, g115]
        rintro ⟨k, hk, hk2, hx⟩
        simp only [x114L0, push_cast, simprocAttr, g115]
        refine ⟨fun hlt => ⟨hlt, hlt, fun h => ?_, fun h => ⟨by omega, by omega, fun h3 => ?_, fun h3 => ?_⟩⟩, fun hn => ⟨fun h => ?_, fun h => ?_⟩⟩
        · rw [← hx, lexB_more hlt h]
        · rw [← hx, lexB_step hlt (by omega), if_pos h3]
        · exact ⟨⟨k + 1, by omega, by omega, by rw [← hx, lexB_step hlt (by omega), if_neg (fun q => q h3)]⟩, wrapI (by omega) (by omega), by simp only; omega⟩
        · rw [← hx, lexB_end (by omega), if_pos (by omega)]
        · rw [← hx, lexB_end (by omega), if_neg (by omega)]
      · cases hg_
    · cases hg_
  · cases hg_
def g76 : Con := fun args_ E_ nn_ => match args_ with
  | [.c (.n a), .c (.n b)] => (match rowOf E_ a with
    | some (a_n, a_s, a_f) => (match rowOf E_ b with
    | some (b_n, b_s, b_f) => some (.q (isRow eC a_n a_s a_f ∧ isRow eC b_n b_s b_f ∧ True) (.o (.c (.v (.int .i64 (cmpS (decL eC a_n a_f) (decL eC b_n b_f)))))))
    | none => none)
    | none => none)
  | _ => none
theorem c76 : COk Tryz.prog 76 g76 := by
  refine cok_q Tryz.func76 x76_ok (by kernel_rfl) (cok_tab (cok_cons c73 (cok_cons c114 cok_nil))) ?_
  intro args_ E_ nn_ cr_ hg_
  unfold g76 at hg_
  split at hg_
  · rename_i a b
    split at hg_
    · rename_i a_n a_s a_f h_a
      split at hg_
      · rename_i b_n b_s b_f h_b
        cases hg_
        refine ⟨_, _, rfl, 2, [a, b], [.c (.n 0), .c (.n 1)], [(0, .ro (decL eC a_n a_f).length eC.sz (rowF eC (decL eC a_n a_f))), (1, .ro (decL eC b_n b_f).length eC.sz (rowF eC (decL eC b_n b_f)))], .o (.c (.v (.int .i64 (cmpS (decL eC a_n a_f) (decL eC b_n b_f))))), rfl, rfl, and3 (by simp only [push_cast, Nat.reduceLT, Nat.reduceAdd]) ⟨rfl, ⟨inE0_row h_a, inE0_row h_b, trivial⟩, rfl, ?_⟩⟩
        intro hpre hlen
        obtain ⟨i_a, hpre⟩ := hpre
        obtain ⟨i_b, hpre⟩ := hpre
        refine ⟨⟨inE_row h_a i_a, inE_row h_b i_b, trivial⟩, ?_⟩
        have z_a := lens_row (E := eC) hlen h_a
        have z_b := lens_row (E := eC) hlen h_b
        clear i_a
        generalize decL eC a_n a_f = aL at *
        clear i_b
        generalize decL eC b_n b_f = bL at *
        clear h_a
        clear h_b
        simp (maxSteps := 9999999) only [x76, push_cast, simprocAttr, g73, g114]
        unfold cmpS
        exact ⟨fun h => by rw [if_pos h], fun h => by rw [if_neg (by simp [h])]⟩
      · cases hg_
    · cases hg_
  · cases hg_
def g41 : Con := fun args_ E_ nn_ => match args_ with
  | [.c (.n s1), .c (.n s2)] => (match rowOf E_ s1 with
    | some (s1_n, s1_s, s1_f) => (match rowOf E_ s2 with
    | some (s2_n, s2_s, s2_f) => some (.q (isRow eI s1_n s1_s s1_f ∧ isRow eI s2_n s2_s s2_f ∧ True) (.o (.c (.v (.bool (decide ((decL eI s1_n s1_f) = (decL eI s2_n s2_f))))))))
    | none => none)
    | none => none)
  | _ => none
theorem c41 : COk Tryz.prog 41 g41 := by
  refine cok_q Tryz.func41 x41_ok (by kernel_rfl) (cok_tab cok_nil) ?_
  intro args_ E_ nn_ cr_ hg_
  unfold g41 at hg_
  split at hg_
  · rename_i s1 s2
    split at hg_
    · rename_i s1_n s1_s s1_f h_s1
      split at hg_
      · rename_i s2_n s2_s s2_f h_s2
        cases hg_
        refine ⟨_, _, rfl, 2, [s1, s2], [.c (.n 0), .c (.n 1)], [(0, .ro (decL eI s1_n s1_f).length eI.sz (rowF eI (decL eI s1_n s1_f))), (1, .ro (decL eI s2_n s2_f).length eI.sz (rowF eI (decL eI s2_n s2_f)))], .o (.c (.v (.bool (decide ((decL eI s1_n s1_f) = (decL eI s2_n s2_f)))))), rfl, rfl, and3 (by simp only [push_cast, Nat.reduceLT, Nat.reduceAdd]) ⟨rfl, ⟨inE0_row h_s1, inE0_row h_s2, trivial⟩, rfl, ?_⟩⟩
        intro hpre hlen
        obtain ⟨i_s1, hpre⟩ := hpre
        obtain ⟨i_s2, hpre⟩ := hpre
        refine ⟨⟨inE_row h_s1 i_s1, inE_row h_s2 i_s2, trivial⟩, ?_⟩
        have z_s1 := lens_row (E := eI) hlen h_s1
        have z_s2 := lens_row (E := eI) hlen h_s2
        clear i_s1
        generalize decL eI s1_n s1_f = s1L at *
        clear i_s2
        generalize decL eI s2_n s2_f = s2L at *
        clear h_s1
        clear h_s2
        simp (maxSteps := 9999999) only [x41, push_cast, simprocAttr]
        refine ⟨fun h => (decide_eq_false fun e => h (by rw [e])).symm, fun hl => ?_⟩
        refine vcLoop_upd (α := {k : Nat // k ≤ s1L.length ∧ ∀ i, i < k → s1L.getD i eI.dflt = s2L.getD i eI.dflt}) [0, 1, 12] 0 (fun s => [(13, .o (.c (.v (.int .i64 (s.1 : Nat)))))]) (fun s => []) (fun s => s1L.length - s.1) ⟨0, by omega, fun i hi => by omega⟩ ?_ ?_
        · simp only [push_cast, simprocAttr]
        rintro ⟨k, hk, hall⟩
        simp only [x41L0, push_cast, simprocAttr]
        refine ⟨fun hlt => ⟨hlt, hlt, by omega, by omega, fun h => (decide_eq_false fun e => h (by rw [e])).symm, fun h => ⟨⟨k + 1, by omega, fun i hi => ?_⟩, wrapI (by omega) (by omega), by simp only; omega⟩⟩, fun hn => (decide_eq_true (getD_ext (by omega) fun i hi => hall i (by omega))).symm⟩
        by_cases e : i = k
        · subst e; exact h
        · exact hall i (by omega)
      · cases hg_
    · cases hg_
  · cases hg_
def g42 : Con := fun args_ E_ nn_ => match args_ with
  | [.c (.n s1), .c (.n s2)] => (match rowOf E_ s1 with
    | some (s1_n, s1_s, s1_f) => (match rowOf E_ s2 with
    | some (s2_n, s2_s, s2_f) => some (.q (isRow eC s1_n s1_s s1_f ∧ isRow eC s2_n s2_s s2_f ∧ True) (.o (.c (.v (.bool (decide ((decL eC s1_n s1_f) = (decL eC s2_n s2_f))))))))
    | none => none)
    | none => none)
  | _ => none
theorem c42 : COk Tryz.prog 42 g42 := by
  refine cok_q Tryz.func42 x42_ok (by kernel_rfl) (cok_tab cok_nil) ?_
  intro args_ E_ nn_ cr_ hg_
  unfold g42 at hg_
  split at hg_
  · rename_i s1 s2
    split at hg_
    · rename_i s1_n s1_s s1_f h_s1
      split at hg_
      · rename_i s2_n s2_s s2_f h_s2
        cases hg_
        refine ⟨_, _, rfl, 2, [s1, s2], [.c (.n 0), .c (.n 1)], [(0, .ro (decL eC s1_n s1_f).length eC.sz (rowF eC (decL eC s1_n s1_f))), (1, .ro (decL eC s2_n s2_f).length eC.sz (rowF eC (decL eC s2_n s2_f)))], .o (.c (.v (.bool (decide ((decL eC s1_n s1_f) = (decL eC s2_n s2_f)))))), rfl, rfl, and3 (by simp only [push_cast, Nat.reduceLT, Nat.reduceAdd]) ⟨rfl, ⟨inE0_row h_s1, inE0_row h_s2, trivial⟩, rfl, ?_⟩⟩
        intro hpre hlen
        obtain ⟨i_s1, hpre⟩ := hpre
        obtain ⟨i_s2, hpre⟩ := hpre
        refine ⟨⟨inE_row h_s1 i_s1, inE_row h_s2 i_s2, trivial⟩, ?_⟩
        have z_s1 := lens_row (E := eC) hlen h_s1
        have z_s2 := lens_row (E := eC) hlen h_s2
        clear i_s1
        generalize decL eC s1_n s1_f = s1L at *
        clear i_s2
        generalize decL eC s2_n s2_f = s2L at *
        clear h_s1
        clear h_s2
        simp (maxSteps := 9999999) only [x42, push_cast, simprocAttr]
        refine ⟨fun h => (decide_eq_false fun e => h (by rw [e])).symm, fun hl => ?_⟩
        refine vcLoop_upd (α := {k : Nat // k ≤ s1L.length ∧ ∀ i, i < k → s1L.getD i eC.dflt = s2L.getD i eC.dflt}) [0, 1, 12] 0 (fun s => [(13, .o (.c (.v (.int .i64 (s.1 : Nat)))))]) (fun s => []) (fun s => s1L.length - s.1) ⟨0, by omega, fun i hi => by omega⟩ ?_ ?_
        · simp only [push_cast, simprocAttr]
        rintro ⟨k, hk, hall⟩
        simp only [x42L0, push_cast, simprocAttr]
        refine ⟨fun hlt => ⟨hlt, hlt, by omega, by omega, fun hb => (decide_eq_false fun e => ?_).symm, fun h1 h2 => ⟨⟨k + 1, by omega, fun i hi => ?_⟩, wrapI (by omega) (by omega), by simp only; omega⟩⟩, fun hn => (decide_eq_true (getD_ext (by omega) fun i hi => hall i (by omega))).symm⟩
        · rw [e] at hb; simp at hb
        · by_cases e : i = k
          · subst e
            have : ∀ a b : CC, a.X = b.X → a.Y = b.Y → a = b := fun a b q1 q2 => by cases a; cases b; simp only at q1 q2; rw [q1, q2]
            exact this _ _ h1 h2
          · exact hall i (by omega)
      · cases hg_
    · cases hg_
  · cases hg_
def g43 : Con := fun args_ E_ nn_ => match args_ with
  | [.c (.n s)] => (match rowOf E_ s with
    | some (s_n, s_s, s_f) => some (.e (isRow eC s_n s_s s_f ∧ ((decL eC s_n s_f)).length ≤ 100000) (.o (.c (.n (nn_ + 0)))) [((nn_ + 0), .own ((decL eC s_n s_f)).length 2 (rowF eC ((decL eC s_n s_f))) 89)] (nn_ + 1))
    | none => none)
  | _ => none
theorem c43 : COk Tryz.prog 43 g43 := by
  refine cok_e Tryz.func43 x43_ok (by kernel_rfl) (cok_tab cok_nil) ?_
  intro args_ E_ nn_ cr_ hg_
  unfold g43 at hg_
  split at hg_
  · rename_i s
    split at hg_
    · rename_i s_n s_s s_f h_s
      cases hg_
      refine ⟨_, _, _, _, rfl, 1, [s], [.c (.n 0)], [(0, .ro (decL eC s_n s_f).length eC.sz (rowF eC (decL eC s_n s_f)))], .o (.c (.n 1)), [(1, .own ((decL eC s_n s_f)).length 2 (rowF eC ((decL eC s_n s_f))) 89)], 2, rfl, rfl, by simp only [renE, Ent.ren, rowF_renf] <;> rfl, rfl, by decide, and4 (by simp only [push_cast, Nat.reduceLT, Nat.reduceAdd]) ⟨rfl, ⟨inE0_row h_s, trivial⟩, by simp only [keysNodup, outN, keys] <;> decide, rfl, rfl, ?_⟩⟩
      intro hpre hlen
      obtain ⟨i_s, hpre⟩ := hpre
      refine ⟨⟨inE_row h_s i_s, trivial⟩, by simp only [apartE] <;> (first | trivial | (simp [Ent.mut]; done)), ?_⟩
      have z_s := lens_row (E := eC) hlen h_s
      clear i_s
      generalize decL eC s_n s_f = sL at *
      clear h_s
      simp (maxSteps := 9999999) only [x43, push_cast, simprocAttr]
      intro b
      exact fun h => ⟨h, fun _ => ⟨by omega, fun e j he hj => by rw [rowF_sub]; simp [catF]⟩⟩
    · cases hg_
  · cases hg_
end Go.Proofs.YtgpbokembopapaaGreat
