/- A part of the proof of a statement about this seat: how a function is stepped through, and plain laws. No conditions. -/
import Derived.Test.YtgdglgcfmebonaaSx15c
set_option linter.unusedVariables false
set_option linter.unusedSimpArgs false
namespace Go.Sx
open Go.RowKit

section
variable {P : Program} {base : World} {M : Scp} {N n0 : Nat} {r0 r : Rho} {S : St} {a : Act} {w : World}

theorem growBy_le (newLen : Nat) : ∀ (k c : Nat), Builtin.growBy newLen k c ≤ max c (2 * newLen + 768)
  | 0, c => by unfold Builtin.growBy; omega
  | k + 1, c => by
    unfold Builtin.growBy
    split
    · omega
    · have := growBy_le newLen k (c + (c + 768) / 4)
      omega
theorem nextslicecap_le {need cap : Nat} (h : cap < need) : Builtin.nextslicecap need cap ≤ 2 * need + 768 := by
  unfold Builtin.nextslicecap
  split
  · omega
  · split
    · omega
    · have := growBy_le need 4 cap
      omega

theorem fit_le {k u : Nat} (h : u ≤ (2 * k + 768) * 256) (h2 : k ≤ 281474976710) : u ≤ 281474976710656 :=
  Nat.le_trans h (Nat.le_trans (Nat.mul_le_mul_right 256 (Nat.add_le_add_right (Nat.mul_le_mul_left 2 h2) 768)) (by decide))

/-- The cells of a row, one after the other. -/
def newsOf (g : Nat → Nat → SC) (m sz : Nat) : List SC := (List.range (m * sz)).map fun k => g (k / sz) (k % sz)
theorem newsOf_len (g : Nat → Nat → SC) (m sz : Nat) : (newsOf g m sz).length = m * sz := by simp [newsOf]
theorem newsOf_at (g : Nat → Nat → SC) {m sz e j : Nat} (he : e < m) (hj : j < sz) : (newsOf g m sz)[e * sz + j]? = some (g e j) := by
  have := mul_lt_le (s := sz) he
  unfold newsOf
  rw [List.getElem?_map, List.getElem?_range (by omega)]
  simp only [Option.map_some]
  have h1 : (e * sz + j) / sz = e := by rw [Nat.mul_comm, Nat.mul_add_div (by omega), Nat.div_eq_of_lt hj]; omega
  have h2 : (e * sz + j) % sz = j := by rw [Nat.mul_comm, Nat.mul_add_mod, Nat.mod_eq_of_lt hj]
  rw [h1, h2]
theorem newsOf_ok {g : Nat → Nat → SC} {m sz : Nat} (h : okRow m sz g) : ∀ x ∈ newsOf g m sz, x.ok = true := by
  intro x hx
  unfold newsOf at hx
  simp only [List.mem_map, List.mem_range] at hx
  obtain ⟨k, hk, rfl⟩ := hx
  by_cases h0 : sz = 0
  · subst h0; simp at hk
  · exact h _ _ (by rw [Nat.div_lt_iff_lt_mul (by omega)]; exact hk) (Nat.mod_lt _ (by omega))

/-- What is appended. -/
theorem src_of {E : Nat → Option Ent} (h : HeapRel base M r E w) {x : S1} {m sz sz2 : Nat} {g : Nat → Nat → SC} {tx e' : TypeId} (hk : P.underlying tx = some (.slice e')) (hx : rowV E x = some (m, sz2, g)) (hs : m = 0 ∨ sz2 = sz) (h0 : 0 < sz) (hok : okRow m sz g) :
    Src P sz tx (x.den r) m ((newsOf g m sz).map (SC.den r)) w := by
  obtain ⟨ad, cap, hv, hc, hp⟩ := rowV_val h hx
  have hone : ∀ u ∈ (newsOf g m sz).map (SC.den r), u.oneCell' = true := by
    intro u hu
    simp only [List.mem_map] at hu
    obtain ⟨y, hy, rfl⟩ := hu
    exact SC.ok_den h.one (newsOf_ok hok y hy)
  by_cases hm : m = 0
  · subst hm
    have hn : newsOf g 0 sz = [] := by simp [newsOf]
    rw [hv, hn]
    refine ⟨.inl ⟨e', hk⟩, fun _ => rfl, ?_, ?_, by simp, fun u hu => by cases hu⟩
    · cases ad <;> simp [Builtin.firstCells, loadCells, loadCellsFrom]
    · cases ad <;> simp [Builtin.firstCells, loadCells, loadCellsFrom]
  · rcases hs with hs | rfl
    · exact absurd hs hm
    · obtain ⟨b, o, rfl, hlt⟩ := hp (by omega)
      rw [hv]
      refine Src.ofSlice w hk _ _ _ _ (by simp [newsOf_len]) (fun j u hu => ?_) hone
      rw [Addr.add_plain]
      simp only [List.getElem?_map, Option.map_eq_some_iff] at hu
      obtain ⟨y, hy, rfl⟩ := hu
      have hj : j < m * sz2 := by
        have := (List.getElem?_eq_some_iff.1 hy).1
        rwa [newsOf_len] at this
      have hjd := Nat.div_add_mod j sz2
      have hlt1 : j / sz2 < m := by rw [Nat.div_lt_iff_lt_mul h0]; exact hj
      have hlt2 : j % sz2 < sz2 := Nat.mod_lt _ h0
      have hy' := newsOf_at g hlt1 hlt2
      rw [Nat.mul_comm, hjd] at hy'
      rw [hy'] at hy
      cases hy
      have := rowV_cells h hx hv hlt1 hlt2
      rw [Nat.mul_comm (j / sz2), hjd] at this
      exact this

theorem run_app {o : Oper} {t tx : TypeId} {s x : Operand} {v : Value} {w' : World} (ho : ∃ c, o.op = .call c ∧ c.callee = .builtin .append ∧ c.args.toList = [s, x] ∧ c.argTypes.toList = [t, tx])
    (h : (Builtin.append_ #[t, tx] o.type #[a.eval s, a.eval x]).run P w = .ok v w') : (execOp a.eval o).run P w = .ok (.value v) w' := by
  obtain ⟨c, ho, hc, ha, ht⟩ := ho
  have ha' : c.args = #[s, x] := by rw [← Array.toArray_toList (xs := c.args), ha]
  have ht' : c.argTypes = #[t, tx] := by rw [← Array.toArray_toList (xs := c.argTypes), ht]
  simp only [execOp, ho, resolve, hc, ha', ht', invoke, builtin, Sem.run_bind, Sem.run_pure, Result.andThen_ok, List.map_toArray, List.map_cons, List.map_nil]
  rw [h]
  rfl

/-- The row that an append has made anew. -/
theorem grown_row {E : Nat → Option Ent} {o : Oper} {c n m cap : Nat} {t tx e : TypeId} {i : TypeInfo} {z : Value} {s x : Operand} {sd : Option Addr} {f g : Nat → Nat → SC} (h : HeapRel base M r E w) (hfresh : ∀ i e, E i = some e → nw c 1 i ∧ e.sc (nw c 1))
    (ho : ∃ c, o.op = .call c ∧ c.callee = .builtin .append ∧ c.args.toList = [s, x] ∧ c.argTypes.toList = [t, tx]) (ht : P.underlying t = some (.slice e)) (hi : P.info? e = some i) (hz : i.zero = some z) (hzs : z.cells.size = i.size) (hb : 0 < i.bytes ∧ i.bytes ≤ 256)
    (es : a.eval s = .slice sd n cap) (hold : (Builtin.firstCells i.size n (.slice sd n cap)).run P w.drew = .ok ((newsOf f n i.size).map (SC.den r)).toArray w.drew) (hsrc : Src P i.size tx (a.eval x) m ((newsOf g m i.size).map (SC.den r)) w)
    (hg : cap < n + m) (hle : n + m ≤ 281474976710) (hfsc : ∀ e j, (f e j).sc (nw c 1)) (hgsc : ∀ e j, (g e j).sc (nw c 1)) :
    ∃ w' r' V, (execOp a.eval o).run P w = .ok (.value V) w' ∧ (∀ i, nw c 1 i → r' i = r i) ∧ r' c = V ∧ HeapRel base M r' (upd [(c, .own (n + m) i.size (catF n f g) e)] E) w' := by
  have hfit : Builtin.nextslicecap (n + m) cap * i.bytes ≤ 281474976710656 := by
    have h1 := nextslicecap_le hg
    generalize Builtin.nextslicecap (n + m) cap = q at h1
    have h2 : q * i.bytes ≤ (2 * (n + m) + 768) * 256 := Nat.mul_le_mul h1 hb.2
    exact fit_le h2 hle
  have h63 : ((n + m : Nat) : Int) ≤ 9223372036854775807 := by omega
  have hrun := run_append_grow_src (P := P) w t tx o.type e i z ht hi hz sd n cap _ hold (a.eval x) m _ hsrc hg h63 hfit
  rw [← es] at hrun
  have hcap := grownCap_ge w (n + m) cap e
  refine ⟨_, more r c _, _, run_app ho hrun, fun k hk => more_ne k (nw_one.1 hk), more_new, ?_⟩
  have hd := h.drawn1
  refine hd.mk1 (fresh_one hfresh) rfl (fun b hb => ?_) ⟨by omega, .inl ⟨_, 0, _, _, rfl, heap_alloc_new _ _, hcap, by omega, ?_, fun e1 j he hj => ?_⟩⟩
  · simp only [blkOf] at hb
    split at hb
    · cases hb
    · cases hb; rfl
  · have hmul : (n + m) * i.size + (grownCap w (n + m) cap e - (n + m)) * i.size = grownCap w (n + m) cap e * i.size := by rw [← Nat.add_mul]; congr 1; omega
    simp [newsOf_len, Builtin.zeroCells, hzs]
    rw [← Nat.add_mul]
    omega
  · rw [Nat.zero_add]
    have hrow := mul_lt_le (s := i.size) he
    rw [Array.getElem?_append_left (by simp [newsOf_len]; rw [← Nat.add_mul]; omega)]
    simp only [List.getElem?_toArray, ← List.map_append, List.getElem?_map]
    have hsc : ∀ y : SC, y.sc (nw c 1) → y.den (more r c (.slice (some ⟨w.heap.size, 0, none⟩) (n + m) (grownCap w (n + m) cap e))) = y.den r :=
      fun y hy => SC.den_ext (m := fun i => i ≠ c) more_ne (SC.sc_mono (fun _ hj => nw_one.1 hj) hy)
    unfold catF
    by_cases h1 : e1 < n
    · have := mul_lt_le (s := i.size) h1
      rw [if_pos h1, List.getElem?_append_left (by rw [newsOf_len]; omega), newsOf_at f h1 hj]
      simp only [Option.map_some]
      rw [hsc _ (hfsc e1 j)]
    · have hle2 : n * i.size ≤ e1 * i.size := Nat.mul_le_mul_right _ (by omega)
      rw [if_neg h1, List.getElem?_append_right (by rw [newsOf_len]; omega), newsOf_len]
      have e2 : e1 * i.size + j - n * i.size = (e1 - n) * i.size + j := by rw [Nat.sub_mul]; omega
      rw [e2, newsOf_at g (by omega) hj]
      simp only [Option.map_some]
      rw [hsc _ (hgsc _ j)]

end
end Go.Sx
