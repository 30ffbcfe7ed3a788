/- A part of the proof of a statement about this seat: how a function is stepped through, and plain laws. No conditions. -/
import Derived.Test.YtgdglgcfmebonaaSx9
set_option linter.unusedVariables false
set_option linter.unusedSimpArgs false
namespace Go.Sx
open Go.RowKit

section
variable {P : Program} {base : World} {M : Scp} {r : Rho} {E : Nat → Option Ent} {w : World}

theorem bind_pure_val {s : Sem Value} {v : Value} (h : s.run P w = .ok v w) (c : Call) (ρ : Operand → Value) (ty : TypeId) (b : Builtin) (hc : c.callee = .builtin b)
    (hb : ∀ cs, builtin b c.argTypes ty cs (c.args.map ρ) = (do pure (.value (← s)))) :
    (do let d ← resolve ρ c ty; invoke d.target d.args : Sem Next).run P w = .ok (.value v) w := by
  simp only [resolve, hc, Sem.run_bind, Sem.run_pure, Result.andThen_ok, invoke, hb]
  simp [h]

theorem sound_min {o : Oper} {a : Act} {c : Call} {ys : List S1} {p : Prop} {z : S1} (ho : o.op = .call c) (hc : c.callee = .builtin .min)
    (hv : (c.args.toList.map xo).map (XO.val a) = ys.map (S1.den r)) (hq : opQ E .minI ys = some (p, z)) (hp : p) : Yields P o a w (z.den r) := by
  simp only [opQ] at hq
  unfold qMin at hq
  split at hq
  · rename_i k x k' y
    cases hq
    unfold Yields
    simp only [execOp, ho]
    have harg : (c.args.map a.eval).toList = [.int k x, .int k' y] := by
      rw [Array.toList_map]
      rw [List.map_map] at hv
      have : (XO.val a ∘ xo) = a.eval := funext fun x => xo_val a x
      rw [this] at hv
      rw [hv]; rfl
    refine bind_pure_val (s := Builtin.min_ c.argTypes o.type (c.args.map a.eval)) ?_ c a.eval o.type .min hc fun cs => rfl
    unfold Builtin.min_
    rw [harg]
    simp only [List.foldlM_cons, List.foldlM_nil, Builtin.min2, S1.den, SC.den, bind_pure, Sem.run_pure, Result.ok.injEq, Value.int.injEq, true_and, and_true]
    omega
  · cases hq

theorem sound_max {o : Oper} {a : Act} {c : Call} {ys : List S1} {p : Prop} {z : S1} (ho : o.op = .call c) (hc : c.callee = .builtin .max)
    (hv : (c.args.toList.map xo).map (XO.val a) = ys.map (S1.den r)) (hq : opQ E .maxI ys = some (p, z)) (hp : p) : Yields P o a w (z.den r) := by
  simp only [opQ] at hq
  unfold qMax at hq
  split at hq
  · rename_i k x k' y
    cases hq
    unfold Yields
    simp only [execOp, ho]
    have harg : (c.args.map a.eval).toList = [.int k x, .int k' y] := by
      rw [Array.toList_map]
      rw [List.map_map] at hv
      have : (XO.val a ∘ xo) = a.eval := funext fun x => xo_val a x
      rw [this] at hv
      rw [hv]; rfl
    refine bind_pure_val (s := Builtin.max_ c.argTypes o.type (c.args.map a.eval)) ?_ c a.eval o.type .max hc fun cs => rfl
    unfold Builtin.max_
    rw [harg]
    simp only [List.foldlM_cons, List.foldlM_nil, Builtin.max2, S1.den, SC.den, bind_pure, Sem.run_pure, Result.ok.injEq, Value.int.injEq, true_and, and_true]
    omega
  · cases hq

theorem sound_len {o : Oper} {a : Act} {c : Call} {t e : TypeId} {x : Operand} {ys : List S1} {p : Prop} {z : S1} (hE : HeapRel base M r E w) (ho : o.op = .call c) (hc : c.callee = .builtin .len)
    (ht : c.argTypes.toList = [t]) (hx : c.args.toList = [x]) (hu : P.underlying t = some (.slice e))
    (hv : [xo x].map (XO.val a) = ys.map (S1.den r)) (hq : opQ E .lenS ys = some (p, z)) (hp : p) : Yields P o a w (z.den r) := by
  obtain ⟨z1, rfl, hz⟩ := map1 hv
  rw [xo_val] at hz
  simp only [opQ, qLenS] at hq
  split at hq
  · rename_i n sz f hb
    cases hq
    obtain ⟨ad, cap, hrv, _⟩ := rowV_val hE hb
    unfold Yields
    simp only [execOp, ho]
    refine bind_pure_val (s := Builtin.len_ c.argTypes o.type (c.args.map a.eval)) ?_ c a.eval o.type .len hc fun cs => rfl
    have h1 : c.argTypes[0]? = some t := by rw [← Array.getElem?_toList, ht]; rfl
    have h2 : (c.args.map a.eval)[0]? = some (a.eval x) := by rw [← Array.getElem?_toList, Array.toList_map, hx]; rfl
    simp only [Builtin.len_, h1, h2, hz, hrv, Sem.run_bind, run_underlying hu, Result.andThen_ok]
    rfl
  · cases hq

theorem eqCells_cons {k : LK} {ks : List LK} {xs ys : List SC} {b : Bool} (h : eqCells (k :: ks) xs ys = some b) :
    ∃ x xs' y ys' b1 b2, xs = x :: xs' ∧ ys = y :: ys' ∧ eqC k x y = some b1 ∧ eqCells ks xs' ys' = some b2 ∧ b = (b1 && b2) := by
  match xs, ys, h with
  | x :: xs', y :: ys', h =>
    simp only [eqCells] at h
    split at h
    · rename_i b1 h1
      split at h
      · rename_i b2 h2
        cases h
        exact ⟨x, xs', y, ys', b1, b2, rfl, rfl, h1, h2, rfl⟩
      · cases h
    · cases h
  | [], _, h => simp [eqCells] at h
  | _ :: _, [], h => simp [eqCells] at h

theorem eqCells_nil {xs ys : List SC} {b : Bool} (h : eqCells [] xs ys = some b) : xs = [] ∧ ys = [] ∧ b = true := by
  cases xs <;> cases ys <;> simp [eqCells] at h
  exact ⟨rfl, rfl, h⟩

theorem eqCells_length : ∀ (ks : List LK) (xs ys : List SC) (b : Bool), eqCells ks xs ys = some b → xs.length = ks.length ∧ ys.length = ks.length
  | [], xs, ys, b, h => by
    obtain ⟨rfl, rfl, _⟩ := eqCells_nil h
    exact ⟨rfl, rfl⟩
  | k :: ks, xs, ys, b, h => by
    obtain ⟨x, xs', y, ys', b1, b2, rfl, rfl, h1, h2, rfl⟩ := eqCells_cons h
    have := eqCells_length ks xs' ys' b2 h2
    simp [this]

theorem eqCells_append : ∀ (l ls : List LK) (xs ys : List SC) (b : Bool), eqCells (l ++ ls) xs ys = some b →
    ∃ b1 b2, eqCells l (xs.take l.length) (ys.take l.length) = some b1 ∧ eqCells ls (xs.drop l.length) (ys.drop l.length) = some b2 ∧ b = (b1 && b2)
  | [], ls, xs, ys, b, h => ⟨true, b, by simp [eqCells], by simpa using h, by simp⟩
  | k :: l, ls, xs, ys, b, h => by
    obtain ⟨x, xs', y, ys', b1, b2, rfl, rfl, h1, h2, rfl⟩ := eqCells_cons (ks := l ++ ls) h
    obtain ⟨b3, b4, h3, h4, rfl⟩ := eqCells_append l ls xs' ys' b2 h2
    exact ⟨b1 && b3, b4, by simp [eqCells, h1, h3], by simpa using h4, by simp [Bool.and_assoc]⟩

/-- A value of a type out of its cells. -/
def ofCells (P : Program) (t : TypeId) (cs : List Value) : Value :=
  match P.underlying t with
  | some (.struct _) => .agg cs.toArray
  | _ => cs.headD undef

theorem run_part_of {t : TypeId} {d : Nat} {ks : List LK} {i : TypeInfo} {off : Nat} {xs : List Value} (h : leaves P d t = some ks) (hi : P.info? t = some i) (hs : i.size = ks.length)
    (hl : off + ks.length ≤ xs.length) : (part t xs.toArray off).run P w = .ok (ofCells P t ((xs.drop off).take ks.length)) w := by
  cases d with
  | zero => simp [leaves] at h
  | succ d =>
    unfold leaves at h
    split at h
    · rename_i k hu
      cases h
      rw [run_part1 hu rfl (by simp; exact List.getElem?_eq_getElem (by simp at hl; omega))]
      simp only [ofCells, hu]
      congr 1
      simp at hl
      rw [List.drop_eq_getElem_cons (by omega)]
      rfl
    · rename_i hu
      cases h
      rw [run_part1 hu rfl (by simp; exact List.getElem?_eq_getElem (by simp at hl; omega))]
      simp only [ofCells, hu]
      congr 1
      simp at hl
      rw [List.drop_eq_getElem_cons (by omega)]
      rfl
    · rename_i fs hu
      rw [run_partN hu rfl hi]
      simp only [ofCells, hu, hs]
      simp [List.extract_toArray, List.extract_eq_take_drop]
    · cases h

theorem eq_fields (D : Nat) (rc : TypeId → Option (List LK)) (hrc : ∀ t ks xs ys b, rc t = some ks → eqCells ks xs ys = some b →
      (Op.equalIn D t (ofCells P t (xs.map (SC.den r))) (ofCells P t (ys.map (SC.den r)))).run P w = .ok b w)
    (hrl : ∀ t ks, rc t = some ks → ∃ d, leaves P d t = some ks) : ∀ (fs : List Field) (off : Nat) (ks : List LK) (xs ys : List SC) (b : Bool), leavesFs P rc fs off = some ks →
      eqCells ks (xs.drop off) (ys.drop off) = some b →
      (Op.eqFields D (xs.map (SC.den r)).toArray (ys.map (SC.den r)).toArray fs).run P w = .ok b w
  | [], off, ks, xs, ys, b, h, hb => by
    simp only [leavesFs, Option.some.injEq] at h
    subst h
    obtain ⟨_, _, rfl⟩ := eqCells_nil hb
    rfl
  | f :: fs, off, ks, xs, ys, b, h, hb => by
    simp only [leavesFs] at h
    split at h
    · cases h
    · rename_i hn
      split at h
      · rename_i l i hl hi
        split at h
        · rename_i hs0
          obtain ⟨hs, hpos⟩ := hs0
          split at h
          · rename_i ls hls
            cases h
            simp only [not_or, ne_eq, Decidable.not_not] at hn
            obtain ⟨hn1, rfl⟩ := hn
            obtain ⟨b1, b2, h1, h2, rfl⟩ := eqCells_append l ls _ _ b hb
            rw [List.drop_drop, List.drop_drop] at h2
            have ih := eq_fields D rc hrc hrl fs (f.offset + l.length) ls xs ys b2 hls h2
            have hlen := eqCells_length _ _ _ _ hb
            simp at hlen
            obtain ⟨d, hd⟩ := hrl _ _ hl
            have px := run_part_of (w := w) (off := f.offset) (xs := xs.map (SC.den r)) hd hi hs (by simp; omega)
            have py := run_part_of (w := w) (off := f.offset) (xs := ys.map (SC.den r)) hd hi hs (by simp; omega)
            have he := hrc _ _ _ _ _ hl h1
            simp only [List.map_drop, List.map_take] at he
            simp only [Op.eqFields, hn1, ne_eq, not_false_eq_true, if_true, Sem.run_bind, px, py, Result.andThen_ok, he]
            cases b1 with
            | false => simp
            | true => simp [ih]
          · cases h
        · cases h
      · cases h

theorem leaves_eq : ∀ (d D : Nat) (t : TypeId) (ks : List LK) (xs ys : List SC) (b : Bool), leaves P d t = some ks → d ≤ D → eqCells ks xs ys = some b →
    (Op.equalIn D t (ofCells P t (xs.map (SC.den r))) (ofCells P t (ys.map (SC.den r)))).run P w = .ok b w
  | 0, _, _, _, _, _, _, h, _, _ => by simp [leaves] at h
  | d + 1, D, t, ks, xs, ys, b, h, hD, hb => by
    obtain ⟨D, rfl⟩ : ∃ D', D = D' + 1 := ⟨D - 1, by omega⟩
    unfold leaves at h
    split at h
    · rename_i k hu
      cases h
      obtain ⟨x, xs', y, ys', b1, b2, rfl, rfl, h1, h2, rfl⟩ := eqCells_cons hb
      obtain ⟨rfl, rfl, rfl⟩ := eqCells_nil h2
      unfold eqC at h1
      split at h1
      · rename_i heq; cases heq
        split at h1
        · rename_i hk
          obtain ⟨rfl, rfl⟩ := hk
          cases h1
          simp only [ofCells, hu, List.map_cons, List.map_nil, List.headD_cons, SC.den]
          rw [run_equalIn_int w D t _ _ _ _ hu]
          simp
        · cases h1
      · rename_i heq; cases heq
      · cases h1
    · rename_i hu
      cases h
      obtain ⟨x, xs', y, ys', b1, b2, rfl, rfl, h1, h2, rfl⟩ := eqCells_cons hb
      obtain ⟨rfl, rfl, rfl⟩ := eqCells_nil h2
      unfold eqC at h1
      split at h1
      · rename_i heq; cases heq
      · cases h1
        simp only [ofCells, hu, List.map_cons, List.map_nil, List.headD_cons, SC.den]
        rw [run_equalIn_bool' w D t _ _ hu]
        simp
      · cases h1
    · rename_i fs hu
      split at h
      · cases h
      · rename_i hst
        have hfo : P.fieldsOf t = fs := by simp [Program.fieldsOf, hu]
        simp only [ofCells, hu]
        rw [run_equalIn_struct w D t _ _ (by rw [hfo]; exact hu) (by simpa using hst), hfo]
        refine eq_fields D (leaves P d) (fun t' ks' xs' ys' b' h1 h2 => leaves_eq d D t' ks' xs' ys' b' h1 (by omega) h2) (fun t' ks' h1 => ⟨d, h1⟩) fs.toList 0 ks xs ys b h (by simpa using hb)
    · cases h

theorem sound_eqA {o : Oper} {a : Act} {neg : Bool} {op : BinOp} {ks : List LK} {t ty : TypeId} {fs : Array Field} {x y : Operand} {ys : List S1} {p : Prop} {z : S1}
    (ho : o.op = .binOp op t x y ty) (hop : (op = .eql ∧ neg = false) ∨ (op = .neq ∧ neg = true)) (hu : P.underlying t = some (.struct fs)) (hl : leaves P 20 t = some ks) (hg : P.eqGuardType P.depth t = false)
    (hv : [xo x, xo y].map (XO.val a) = ys.map (S1.den r)) (hq : opQ E (.eqA neg ks) ys = some (p, z)) (hp : p) : Yields P o a w (z.den r) := by
  obtain ⟨z1, z2, rfl, hz, hz'⟩ := map2 hv
  rw [xo_val] at hz hz'
  unfold Yields
  simp only [execOp, ho, hz, hz']
  refine run_val ?_
  simp only [opQ] at hq
  unfold qEqA at hq
  split at hq
  · rename_i xs ys' heq
    cases heq
    split at hq
    · rename_i b hb
      cases hq
      have h1 := leaves_eq (r := r) (w := w) 20 10000 t ks xs ys' b hl (by omega) hb
      simp only [ofCells, hu] at h1
      simp only [S1.den, SC.den, Sem.run_bind]
      rw [run_eqGuard_agg w op t x y _ _ hg]
      rcases hop with ⟨rfl, rfl⟩ | ⟨rfl, rfl⟩
      · simp only [Result.andThen_ok]
        rw [run_eql_struct, h1]; rfl
      · simp only [Result.andThen_ok]
        rw [run_neq_struct, h1]; rfl
    · cases hq
  · cases hq

end
end Go.Sx
