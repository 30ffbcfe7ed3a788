/- A part of the proof of a statement about this seat: how a function is stepped through, and plain laws. No conditions. -/
import Derived.Test.YtgdglgcfmebonaaSx15d
set_option linter.unusedVariables false
set_option linter.unusedSimpArgs false
namespace Go.Sx
open Go.RowKit

section
variable {P : Program} {base : World} {M : Scp} {N n0 : Nat} {r0 r : Rho} {S : St} {a : Act} {w : World}

/-- An append of nothing. -/
theorem run_app0 {t tx ty e : TypeId} {i : TypeInfo} {sd : Option Addr} {x : Value} {news : List Value} (ht : P.underlying t = some (.slice e)) (hi : P.info? e = some i) (hs : Src P i.size tx x 0 news w) :
    (Builtin.append_ #[t, tx] ty #[.slice sd 0 0, x]).run P w = .ok (.slice sd 0 0) w := by
  have hn : news = [] := List.eq_nil_of_length_eq_zero (by rw [hs.newsLen]; simp)
  have hc := hs.cells
  rw [hn] at hc
  rcases hs.kind with ⟨e', hk⟩ | hk <;> cases sd <;> simp [Builtin.append_, run_underlying ht, run_underlying hk, sizeOf, typeInfo, hi, hs.len, hc, storeCells]

theorem firstCells0 (size : Nat) (sd : Option Addr) (w' : World) : (Builtin.firstCells size 0 (.slice sd 0 0)).run P w' = .ok #[] w' := by
  cases sd <;> simp [Builtin.firstCells, loadCells, loadCellsFrom]

theorem newsOf0 (f : Nat → Nat → SC) (sz : Nat) : newsOf f 0 sz = [] := by simp [newsOf]
theorem catF0 (f g : Nat → Nat → SC) : catF 0 f g = g := by funext e j; simp [catF]

theorem den_news {m sz : Nat} {g : Nat → Nat → SC} {r : Rho} : ((newsOf g m sz).map (SC.den r)).length = m * sz := by simp [newsOf_len]

theorem eff_appOwn {E : Nat → Option Ent} {o : Oper} {c k n m : Nat} {t tx e e' : TypeId} {i : TypeInfo} {z : Value} {s x : Operand} {y : S1} {sz2 : Nat} {f g : Nat → Nat → SC} (h : HeapRel base M r E w) (hfresh : ∀ i e, E i = some e → nw c 1 i ∧ e.sc (nw c 1))
    (ho : ∃ c, o.op = .call c ∧ c.callee = .builtin .append ∧ c.args.toList = [s, x] ∧ c.argTypes.toList = [t, tx]) (ht : P.underlying t = some (.slice e)) (hk : P.underlying tx = some (.slice e')) (hi : P.info? e = some i) (hz : i.zero = some z) (hzs : z.cells.size = i.size) (hb : 0 < i.bytes ∧ i.bytes ≤ 256) (h0 : 0 < i.size)
    (hE : E k = some (.own n i.size f e)) (es : a.eval s = r k) (ex : a.eval x = y.den r) (hx : rowV E y = some (m, sz2, g)) (hss : m = 0 ∨ sz2 = i.size) (hok : okRow m i.size g) (hgsc : ∀ e j, (g e j).sc (nw c 1)) (hle : n + m ≤ 281474976710) :
    EffOk P base M r E o a w c (.o (.c (.n c))) [(c, .own (n + m) i.size (catF n f g) e), (k, .dead)] 1 := by
  have hck : c ≠ k := fun hh => (fresh_one hfresh k _ hE).1 hh.symm
  have hsrc : Src P i.size tx (a.eval x) m ((newsOf g m i.size).map (SC.den r)) w := by rw [ex]; exact src_of h hk hx hss h0 hok
  have hfsc : ∀ e j, (f e j).sc (nw c 1) := (hfresh k _ hE).2
  have finish : (∃ w' r' V, (execOp a.eval o).run P w = .ok (.value V) w' ∧ (∀ i, nw c 1 i → r' i = r i) ∧ r' c = V ∧ HeapRel base M r' (upd [(c, .own (n + m) i.size (catF n f g) e)] E) w') →
      EffOk P base M r E o a w c (.o (.c (.n c))) [(c, .own (n + m) i.size (catF n f g) e), (k, .dead)] 1 := by
    rintro ⟨w', r', V, h1, h2, h3, h4⟩
    refine eff_value h1 h2 ((h4.kill k).congrE fun j => ?_) h3
    rw [upd_two, upd_one, upd_one]
    by_cases hj : c = j
    · subst hj; rw [if_pos rfl, if_neg (Ne.symm hck), if_pos rfl]
    · rw [if_neg hj, if_neg hj]
  obtain ⟨hmx, hrel⟩ := h.ent k _ hE
  rcases hrel with ⟨b, of, cap, cur, h1, h2, h3, h4, h5, h6⟩ | ⟨ad, h1, hn0⟩
  · have hnews := den_news (m := m) (sz := i.size) (g := g) (r := r)
    by_cases hroom : n + m ≤ cap
    · have hrow : n * i.size + m * i.size ≤ cap * i.size := by rw [← Nat.add_mul]; exact Nat.mul_le_mul_right _ hroom
      have hst := run_storeCells_at (P := P) b (of + n * i.size) e ((newsOf g m i.size).map (SC.den r)) 0 cur w h2 (by rw [hnews]; omega) hsrc.one
      rw [Nat.add_zero] at hst
      generalize hcur : cur.toList.take (of + n * i.size) ++ (newsOf g m i.size).map (SC.den r) ++ cur.toList.drop (of + n * i.size + ((newsOf g m i.size).map (SC.den r)).length) = cur' at hst
      have hlen : cur'.length = cur.size := by rw [← hcur]; simp [newsOf_len]; omega
      have hrun : (Builtin.append_ #[t, tx] o.type #[a.eval s, a.eval x]).run P w = .ok (.slice (some ⟨b, of, none⟩) (n + m) cap) (w.setRow b cur'.toArray) := by
        rw [es, h1]
        rcases hsrc.kind with ⟨e', hk⟩ | hk <;> simp [Builtin.append_, run_underlying ht, run_underlying hk, sizeOf, typeInfo, hi, hsrc.len, hroom, hsrc.cells, Addr.add_plain, hst]
      refine eff_value (run_app ho hrun) (r' := more r c (.slice (some ⟨b, of, none⟩) (n + m) cap)) (fun j hj => more_ne j (nw_one.1 hj))
        (h.pass (fresh_one hfresh) rfl hE rfl (w' := w.setRow b cur'.toArray) ?_ (fun b' hb' => ?_) ⟨by omega, .inl ⟨b, of, cap, cur'.toArray, rfl, setRow_heap _ _ _ _ _ _ h2, hroom, h4, by simp [hlen]; exact h5, fun e1 j he hj => ?_⟩⟩) (by simp only [SV.den, S1.den, SC.den, more_new])
      · rw [h1, blkOf_slice h4]; exact Turn.row w b _
      · rw [blkOf_slice h4] at hb'; rw [h1, blkOf_slice h4]; exact hb'
      · have hsc : ∀ y : SC, y.sc (nw c 1) → y.den (more r c (.slice (some ⟨b, of, none⟩) (n + m) cap)) = y.den r :=
          fun y hy => SC.den_ext (m := fun i => i ≠ c) more_ne (SC.sc_mono (fun _ hj => nw_one.1 hj) hy)
        simp only [List.getElem?_toArray]
        rw [← hcur, get_spliced _ _ _ _ (by rw [hnews]; simp; omega), hnews]
        unfold catF
        by_cases hlt : e1 < n
        · have := mul_lt_le (s := i.size) hlt
          rw [if_pos (by omega), if_pos hlt, hsc _ (hfsc e1 j), Array.getElem?_toList]
          exact h6 e1 j hlt hj
        · have hle2 : n * i.size ≤ e1 * i.size := Nat.mul_le_mul_right _ (by omega)
          have hlt2 : e1 - n < m := by omega
          have := mul_lt_le (s := i.size) hlt2
          have e2 : (e1 - n) * i.size = e1 * i.size - n * i.size := Nat.sub_mul _ _ _
          rw [if_neg (by omega), if_pos (by omega), if_neg hlt, hsc _ (hgsc _ j)]
          have e3 : of + (e1 * i.size + j) - (of + n * i.size) = (e1 - n) * i.size + j := by omega
          rw [e3, List.getElem?_map, newsOf_at g hlt2 hj]
          rfl
    · refine finish (grown_row (cap := cap) (sd := some ⟨b, of, none⟩) h hfresh ho ht hi hz hzs hb (by rw [es, h1]) ?_ hsrc (by omega) hle hfsc hgsc)
      refine run_firstCells_some w.drew i.size n _ n cap _ (by simp [newsOf_len]) (fun j u hu => ?_)
      rw [Addr.add_plain]
      have hj : j < n * i.size := by
        have := (List.getElem?_eq_some_iff.1 hu).1
        simpa [newsOf_len] using this
      have hjd := Nat.div_add_mod j i.size
      have hlt1 : j / i.size < n := by rw [Nat.div_lt_iff_lt_mul h0]; exact hj
      have hlt2 : j % i.size < i.size := Nat.mod_lt _ h0
      have hy' := newsOf_at f hlt1 hlt2
      rw [Nat.mul_comm, hjd] at hy'
      rw [List.getElem?_map, hy'] at hu
      simp only [Option.map_some, Option.some.injEq] at hu
      have hc := h6 _ _ hlt1 hlt2
      rw [Nat.mul_comm (j / i.size), hjd] at hc
      rw [cell_of_row w.drew b _ cur e (0, 0) h2, hc, hu]
  · subst hn0
    by_cases hm : m = 0
    · subst hm
      have hrun := run_app0 (ty := o.type) (sd := ad) ht hi hsrc
      rw [← h1, ← es] at hrun
      refine eff_value (run_app ho hrun) (r' := more r c (a.eval s)) (fun j hj => more_ne j (nw_one.1 hj))
        (h.pass (fresh_one hfresh) (by rw [es]; exact h.one k) hE rfl (Turn.same w _) (fun b' hb' => by rw [es] at hb'; exact hb') ⟨by omega, .inr ⟨ad, by rw [es, h1], rfl⟩⟩) (by simp only [SV.den, S1.den, SC.den, more_new])
    · refine finish (grown_row (cap := 0) (sd := ad) h hfresh ho ht hi hz hzs hb (by rw [es, h1]) ?_ hsrc (by omega) hle hfsc hgsc)
      rw [newsOf0]
      exact firstCells0 _ _ _

/-- An append to a slice without a place. -/
theorem eff_appNil {E : Nat → Option Ent} {o : Oper} {c m : Nat} {t tx e e' : TypeId} {i : TypeInfo} {z : Value} {s x : Operand} {y : S1} {sz2 : Nat} {g : Nat → Nat → SC} {ad : Option Addr} (h : HeapRel base M r E w) (hfresh : ∀ i e, E i = some e → nw c 1 i ∧ e.sc (nw c 1))
    (ho : ∃ c, o.op = .call c ∧ c.callee = .builtin .append ∧ c.args.toList = [s, x] ∧ c.argTypes.toList = [t, tx]) (ht : P.underlying t = some (.slice e)) (hk : P.underlying tx = some (.slice e')) (hi : P.info? e = some i) (hz : i.zero = some z) (hzs : z.cells.size = i.size) (hb : 0 < i.bytes ∧ i.bytes ≤ 256) (h0 : 0 < i.size)
    (es : a.eval s = .slice ad 0 0) (ex : a.eval x = y.den r) (hx : rowV E y = some (m, sz2, g)) (hss : m = 0 ∨ sz2 = i.size) (hok : okRow m i.size g) (hgsc : ∀ e j, (g e j).sc (nw c 1)) (hle : m ≤ 281474976710) :
    ∃ w' r' V, (execOp a.eval o).run P w = .ok (.value V) w' ∧ (∀ i, nw c 1 i → r' i = r i) ∧ r' c = V ∧ HeapRel base M r' (upd [(c, .own m i.size g e)] E) w' := by
  have hsrc : Src P i.size tx (a.eval x) m ((newsOf g m i.size).map (SC.den r)) w := by rw [ex]; exact src_of h hk hx hss h0 hok
  by_cases hm : m = 0
  · subst hm
    have hrun := run_app0 (ty := o.type) (sd := ad) ht hi hsrc
    rw [← es] at hrun
    refine ⟨w, more r c (a.eval s), _, run_app ho hrun, fun j hj => more_ne j (nw_one.1 hj), more_new,
      h.view (fresh_one hfresh) (by rw [es]; rfl) (fun b hb => ?_) (fun b hb => ?_) ⟨by omega, .inr ⟨ad, es, rfl⟩⟩⟩
    · rw [es] at hb; cases ad <;> simp [blkOf] at hb
    · rw [es] at hb; cases ad <;> simp [blkOf] at hb
  · have key := grown_row (n := 0) (f := g) (g := g) (cap := 0) (sd := ad) h hfresh ho ht hi hz hzs hb es (by rw [newsOf0]; exact firstCells0 _ _ _) hsrc (by omega) (by omega) hgsc hgsc
    rw [catF0, Nat.zero_add] at key
    exact key

end
end Go.Sx
