/- A part of the proof of a statement about this seat: how a function is stepped through, and plain laws. No conditions. -/
import Derived.Test.YtgdglgcfmebonaaSx15
import Derived.Laws.MakeOwn
import Derived.Great.BuildSlice
import Derived.Laws.Slices
import Derived.Laws.AppendOwn
set_option linter.unusedVariables false
set_option linter.unusedSimpArgs false
namespace Go.Sx
open Go.RowKit

section
variable {P : Program} {base : World} {M : Scp} {N n0 : Nat} {r0 r : Rho} {S : St} {a : Act} {w : World}

theorem eff_storeB {E : Nat → Option Ent} {o : Oper} {c : Nat} {t : TypeId} {x y : Operand} {inf : TypeInfo} {i j : Nat} {z : S1} {cs : List SC} {ty : TypeId} (h : HeapRel base M r E w)
    (ho : o.op = .store t x y) (hi : P.info? t = some inf) (e1 : a.eval x = S1.den r (.c (.p i j))) (e2 : a.eval y = z.den r) (hE : E i = some (.box cs ty))
    (hl1 : z.cells.length = inf.size) (hl2 : j + inf.size ≤ cs.length) (hok : okcs z.cells = true) : EffOk P base M r E o a w c (.t []) [(i, .box (setAt cs j z.cells) ty)] 0 := by
  obtain ⟨b, hb, hheap⟩ := h.ent i _ hE
  have hcell := S1.cells_ok h.one hok
  have hsz : (z.den r).cells.size = inf.size := by rw [← Array.length_toList, hcell, List.length_map, hl1]
  have hst := run_storeCells_at (P := P) b j ty (z.cells.map (SC.den r)) 0 _ w hheap (by simp; omega) (by
    intro v hv
    simp only [List.mem_map] at hv
    obtain ⟨c, hc, rfl⟩ := hv
    exact SC.ok_den h.one (okcs_all hok c hc))
  have hset : ((cs.map (SC.den r)).toArray.toList.take (j + 0) ++ z.cells.map (SC.den r) ++ (cs.map (SC.den r)).toArray.toList.drop (j + 0 + (z.cells.map (SC.den r)).length)) = (setAt cs j z.cells).map (SC.den r) := by
    rw [setAt_eq _ _ _ (by omega)]
    simp
  rw [hset] at hst
  have e1' : a.eval x = .pointer (some ⟨b, j, none⟩) := by rw [e1]; simp only [S1.den, SC.den, hb, addrOf, Nat.zero_add]
  have hrun : (execOp a.eval o).run P w = .ok .skip (w.setRow b ((setAt cs j z.cells).map (SC.den r)).toArray) := by
    simp only [execOp, ho, e1', e2]
    generalize S1.den r z = v at hsz hcell
    rw [← hcell] at hst
    simp only [Instr.storeAt, Instr.sureAddr, Sem.run_bind, Sem.run_pure, Result.andThen_ok, storeVar, run_sizeOf' hi, hsz, ne_eq, not_true_eq_false, if_false, hst]
  refine eff_skip hrun (h.turn hE rfl ?_ ⟨b, hb, setRow_heap _ _ _ _ _ _ hheap⟩)
  rw [hb]
  exact Turn.row w b _

theorem get_spliced (cur vs : List Value) (p q : Nat) (h : p + vs.length ≤ cur.length) : (cur.take p ++ vs ++ cur.drop (p + vs.length))[q]? = if q < p then cur[q]? else if q < p + vs.length then vs[q - p]? else cur[q]? := by
  simp only [List.getElem?_append, List.length_append, List.length_take, List.getElem?_take, List.getElem?_drop]
  have m1 : min p cur.length = p := by omega
  rw [m1]
  by_cases h1 : q < p
  · rw [if_pos (by omega), if_pos h1, if_pos h1, if_pos h1]
  · by_cases h2 : q < p + vs.length
    · rw [if_pos h2, if_neg h1, if_neg h1, if_pos h2]
    · rw [if_neg h2, if_neg h1, if_neg h2]
      congr 1; omega

theorem mul_lt_le {a b s : Nat} (h : a < b) : a * s + s ≤ b * s := by
  have := Nat.mul_le_mul_right s (Nat.succ_le_of_lt h)
  rw [Nat.succ_mul] at this
  exact this

theorem eff_storeR {E : Nat → Option Ent} {o : Oper} {c : Nat} {t : TypeId} {x y : Operand} {inf : TypeInfo} {i sz e j m : Nat} {z : S1} {f : Nat → Nat → SC} {ty : TypeId} (h : HeapRel base M r E w)
    (ho : o.op = .store t x y) (hi : P.info? t = some inf) (e1 : a.eval x = S1.den r (.c (.q i sz e j))) (e2 : a.eval y = z.den r) (hE : E i = some (.own m sz f ty))
    (he : e < m) (hl1 : z.cells.length = inf.size) (hl2 : j + inf.size ≤ sz) (hok : okcs z.cells = true) : EffOk P base M r E o a w c (.t []) [(i, .own m sz (updF f e j z.cells) ty)] 0 := by
  obtain ⟨hmx, hrel⟩ := h.ent i _ hE
  rcases hrel with ⟨b, of, cap, cur, hb, hheap, hmc, hc0, hsize, hcont⟩ | ⟨_, _, h0⟩
  · have hcell := S1.cells_ok h.one hok
    have hsz : (z.den r).cells.size = inf.size := by rw [← Array.length_toList, hcell, List.length_map, hl1]
    have hrow : e * sz + sz ≤ cap * sz := mul_lt_le (by omega)
    have hone : ∀ v ∈ z.cells.map (SC.den r), v.oneCell' = true := by
      intro v hv
      simp only [List.mem_map] at hv
      obtain ⟨c, hc, rfl⟩ := hv
      exact SC.ok_den h.one (okcs_all hok c hc)
    have hst := run_storeCells_at (P := P) b (of + (e * sz + j)) ty (z.cells.map (SC.den r)) 0 _ w hheap (by simp; omega) hone
    have e1' : a.eval x = .pointer (some ⟨b, of + (e * sz + j), none⟩) := by rw [e1]; simp only [S1.den, SC.den, hb, addrOf]
    have hrun : ∃ cur', cur' = cur.toList.take (of + (e * sz + j) + 0) ++ z.cells.map (SC.den r) ++ cur.toList.drop (of + (e * sz + j) + 0 + (z.cells.map (SC.den r)).length) ∧ (execOp a.eval o).run P w = .ok .skip (w.setRow b cur'.toArray) := by
      refine ⟨_, rfl, ?_⟩
      simp only [execOp, ho, e1', e2]
      generalize S1.den r z = v at hsz hcell
      rw [← hcell] at hst ⊢
      simp only [Instr.storeAt, Instr.sureAddr, Sem.run_bind, Sem.run_pure, Result.andThen_ok, storeVar, run_sizeOf' hi, hsz, ne_eq, not_true_eq_false, if_false, hst]
    obtain ⟨cur', hcur', hrun⟩ := hrun
    rw [Nat.add_zero] at hcur'
    have hlen : (z.cells.map (SC.den r)).length = inf.size := by simp [hl1]
    have hcs : cur'.length = cur.size := by rw [hcur']; simp; omega
    refine eff_skip hrun (h.turn hE rfl ?_ ⟨hmx, .inl ⟨b, of, cap, cur'.toArray, hb, setRow_heap _ _ _ _ _ _ hheap, hmc, hc0, by simp [hcs]; exact hsize, fun e' j' he' hj' => ?_⟩⟩)
    · rw [hb, blkOf_slice hc0]
      exact Turn.row w b _
    · simp only [List.getElem?_toArray]
      rw [hcur', get_spliced _ _ _ _ (by rw [hlen]; simp; omega), hlen]
      have hold := hcont e' j' he' hj'
      rw [Array.getElem?_toList]
      unfold updF
      rcases Nat.lt_trichotomy e' e with h1 | h1 | h1
      · have := mul_lt_le (s := sz) h1
        rw [if_pos (by omega), if_neg (by omega)]
        exact hold
      · subst h1
        by_cases h2 : j' < j
        · rw [if_pos (by omega), if_neg (by omega)]; exact hold
        · by_cases h3 : j' < j + inf.size
          · rw [if_neg (by omega), if_pos (by omega), if_pos ⟨rfl, by omega⟩]
            have e4 : of + (e' * sz + j') - (of + (e' * sz + j)) = j' - j := by omega
            rw [e4, nth_eq, List.getElem?_map]
            have : j' - j < z.cells.length := by omega
            rw [List.getElem?_eq_getElem this]
            rfl
          · rw [if_neg (by omega), if_neg (by omega), if_pos ⟨rfl, by omega⟩, nth_eq]
            rw [List.getElem?_eq_none (by omega)]
            exact hold
      · have := mul_lt_le (s := sz) h1
        rw [if_neg (by omega), if_neg (by omega), if_neg (by omega)]
        exact hold
  · omega

theorem setAt_len {α : Type} : ∀ (l : List α) (o : Nat) (xs : List α), (setAt l o xs).length = l.length
  | l, 0, [] => by cases l <;> rfl
  | [], 0, _ :: _ => rfl
  | _ :: cs, 0, x :: xs => by simp [setAt, setAt_len cs 0 xs]
  | [], _ + 1, _ => rfl
  | c :: cs, o + 1, xs => by simp [setAt, setAt_len cs o xs]
theorem fillS_len : ∀ (pl : List (Nat × Nat)) (xs : List S1) (cs cs' : List SC), fillS cs pl xs = some cs' → cs'.length = cs.length
  | [], [], cs, cs', h => by simp only [fillS, Option.some.injEq] at h; rw [h]
  | (o, n) :: pl, x :: xs, cs, cs', h => by
    simp only [fillS] at h
    split at h
    · rw [fillS_len pl xs _ cs' h, setAt_len]
    · cases h
  | [], _ :: _, cs, cs', h => by simp [fillS] at h
  | _ :: _, [], cs, cs', h => by simp [fillS] at h

theorem litF_at {cs : List SC} {sz e j : Nat} {x : SC} (h : cs[e * sz + j]? = some x) : litF cs sz e j = x := by
  unfold litF; rw [nth_eq, h]

/-- A new row of the call's own. -/
theorem eff_row {E : Nat → Option Ent} {o : Oper} {c n sz : Nat} {ty : TypeId} {f : Nat → Nat → SC} {vs : Array Value} (h : HeapRel base M r E w) (hfresh : ∀ i e, E i = some e → nw c 1 i ∧ e.sc (nw c 1))
    (hf : ∀ e j, (f e j).sc (nw c 1)) (hn : n ≤ 9223372036854775807) (hsz : n * sz ≤ vs.size) (hv : ∀ e j, e < n → j < sz → vs[e * sz + j]? = some ((f e j).den r))
    (hrun : (execOp a.eval o).run P w = .ok (.value (.slice (some ⟨w.heap.size, 0, none⟩) n n)) (w.alloc (.cells vs ty))) :
    EffOk P base M r E o a w c (.o (.c (.n c))) [(c, .own n sz f ty)] 1 := by
  refine eff_value hrun (r' := more r c (.slice (some ⟨w.heap.size, 0, none⟩) n n)) (fun i hi => more_ne i (nw_one.1 hi)) (h.mk1 (fresh_one hfresh) rfl (fun b hb => ?_) ?_) ?_
  · simp only [blkOf] at hb
    split at hb
    · cases hb
    · cases hb; rfl
  · refine ⟨hn, ?_⟩
    by_cases h0 : n = 0
    · subst h0; exact .inr ⟨_, rfl, rfl⟩
    · refine .inl ⟨w.heap.size, 0, n, vs, rfl, heap_alloc_new _ _, Nat.le_refl _, by omega, by omega, fun e j he hj => ?_⟩
      rw [Nat.zero_add, hv e j he hj, SC.den_ext (r := r) (m := fun i => i ≠ c) more_ne (SC.sc_mono (fun _ hj => nw_one.1 hj) (hf e j))]
  · simp only [SV.den, S1.den, SC.den, more_new]

theorem run_valW {s : Sem Value} {v : Value} {w' : World} (h : s.run P w = .ok v w') : (do pure (.value (← s)) : Sem Next).run P w = .ok (.value v) w' := by simp [h]

theorem nth_replF {z : List Value} {e j : Nat} (h : j < z.length) : (replF z e j).den r = z[j] := by
  unfold replF; rw [nth_eq, List.getElem?_eq_getElem h]; rfl

theorem eff_mks {E : Nat → Option Ent} {o : Oper} {c : Nat} {t e : TypeId} {i : TypeInfo} {z : Value} {x y : Operand} {l : Int} (h : HeapRel base M r E w) (hfresh : ∀ i e, E i = some e → nw c 1 i ∧ e.sc (nw c 1))
    (ho : o.op = .makeSlice t x y) (ht : P.underlying t = some (.slice e)) (hi : P.info? e = some i) (hz : i.zero = some z) (hzs : z.cells.size = i.size) (h0 : 0 < i.size)
    (ex : a.eval x = .int .i64 l) (ey : a.eval y = .int .i64 l) (hl0 : 0 ≤ l) (hl1 : l * i.bytes ≤ 281474976710656) (hl2 : l ≤ 9223372036854775807) :
    EffOk P base M r E o a w c (.o (.c (.n c))) [(c, .own l.toNat i.size (replF z.cells.toList) e)] 1 := by
  obtain ⟨n, rfl⟩ : ∃ n : Nat, l = n := ⟨l.toNat, by omega⟩
  have hrun : (execOp a.eval o).run P w = .ok (.value (.slice (some ⟨w.heap.size, 0, none⟩) n n)) (w.alloc (.cells (madeCells z.cells (n * i.size)) e)) := by
    simp only [execOp, ho, ex, ey]
    refine run_valW ?_
    have := run_make (P := P) w t e i z ht hi hz .i64 .i64 n n hl0 (Int.le_refl _) (by rw [Int.mul_comm]; exact hl1) hl2
    simpa using this
  rw [Int.toNat_natCast]
  refine eff_row h hfresh (fun e j => ?_) (by omega) ?_ (fun e j he hj => ?_) hrun
  · unfold replF; split <;> trivial
  · rw [size_madeCells]; exact Nat.le_refl _
  · unfold madeCells
    have hlt2 : e * i.size + j < n * i.size := by have := mul_lt_le (s := i.size) he; omega
    rw [nth_replF (by simp; omega)]
    simp only [Array.getElem?_map]
    rw [Array.getElem?_eq_getElem (by simpa using hlt2)]
    simp only [Array.getElem_range, Option.map_some]
    have : (e * i.size + j) % z.cells.size = j := by rw [hzs, Nat.mul_comm, Nat.mul_add_mod, Nat.mod_eq_of_lt hj]
    rw [this, getElem!_pos _ _ (by omega)]
    rfl

theorem zrep_arr (z : Value) (n : Nat) : (Array.range n).map (z.cells[· % z.cells.size]!) = (zrep z.cells.toList n).toArray := by
  apply Array.ext'
  simp [zrep, Array.toList_range]

theorem eff_slit {E : Nat → Option Ent} {o : Oper} {c len : Nat} {t e : TypeId} {i : TypeInfo} {z : Value} {parts : Array (Nat × Operand)} {ys : List S1} {cs : List SC} (h : HeapRel base M r E w) (hfresh : ∀ i e, E i = some e → nw c 1 i ∧ e.sc (nw c 1))
    (ho : o.op = .buildSlice t len parts) (ht : P.underlying t = some (.slice e)) (hi : P.info? e = some i) (hz : i.zero = some z) (hsm : len * i.size ≤ 16777216) (h0 : 0 < i.size)
    (hv : (parts.toList.map fun p => xo p.2).map (XO.val a) = ys.map (S1.den r)) (hf : fillS ((zrep z.cells.toList (len * i.size)).map .v) (parts.toList.map fun p => (p.1 * i.size, i.size)) ys = some cs) (hok : oks ys = true)
    (hcs : ∀ x ∈ cs, SC.sc (nw c 1) x) : EffOk P base M r E o a w c (.o (.c (.n c))) [(c, .own len i.size (litF cs i.size) e)] 1 := by
  have hzz : ((zrep z.cells.toList (len * i.size)).map SC.v).map (SC.den r) = zrep z.cells.toList (len * i.size) := by
    rw [List.map_map]; exact (List.map_congr_left (fun x _ => rfl)).trans (List.map_id _)
  have hlen : cs.length = len * i.size := by rw [fillS_len _ _ _ _ hf]; simp [zrep]
  have hfill := fill_den (r := r) (fun k => some (k * i.size, i.size)) h.one (parts.toList.map (·.1)) (parts.toList.map fun p => (p.1 * i.size, i.size)) ys _ cs (by rw [List.map_map, List.map_map]; rfl) (oks_one ys hok) hf
    (by have := congrArg List.length hv; simp at this; simp [this])
  rw [hzz] at hfill
  have hev : (parts.map fun x => (x.1, a.eval x.2)).toList = (parts.toList.map (·.1)).zip (ys.map (S1.den r)) := by
    rw [Array.toList_map, ← hv, List.map_map, List.zip_map', List.map_congr_left]
    intro x _
    simp [xo_val]
  have hrun : (execOp a.eval o).run P w = .ok (.value (.slice (some ⟨w.heap.size, 0, none⟩) len len)) (w.alloc (.cells (cs.map (SC.den r)).toArray e)) := by
    simp only [execOp, ho]
    refine run_valW ?_
    by_cases hpos : len * i.size = 0
    · have hl0 : len = 0 := by
        rcases Nat.mul_eq_zero.1 hpos with h1 | h1
        · exact h1
        · omega
      have hcn : cs = [] := List.eq_nil_of_length_eq_zero (by rw [hlen, hpos])
      have hz0 : zrep z.cells.toList (len * i.size) = [] := by simp [zrep, hpos]
      rw [hz0, hcn] at hfill
      subst hl0
      simp only [List.map_nil] at hfill
      simp [Instr.buildSlice, run_underlying ht, sizeOf, typeInfo, hi, Array.range_zero', hcn, newRow]
      rw [Array.toList_map] at hev
      rw [hev, hfill]
      simp
    · refine run_buildSlice w t e len _ _ i z ht hi hz (by omega) hpos ?_
      rw [zrep_arr, hev]
      exact hfill
  refine eff_row h hfresh (fun e j => ?_) (by have : len ≤ len * i.size := Nat.le_mul_of_pos_right _ h0; omega) (by simp [hlen]) (fun e j he hj => ?_) hrun
  · unfold litF
    split
    · rename_i x hx; exact hcs x (nth_mem hx)
    · trivial
  · have hlt2 : e * i.size + j < len * i.size := by have := mul_lt_le (s := i.size) he; omega
    rw [litF_at (List.getElem?_eq_getElem (by omega))]
    simp [hlen, hlt2]

end
end Go.Sx
