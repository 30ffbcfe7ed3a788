/- A part of the proof of a statement about this seat: how a function is stepped through, and plain laws. No conditions. -/
import Derived.Test.YtgdglgcfmebonaaSx25
import Derived.Test.YtgdglgcfmebonaaSx27
import Derived.Deep.Slices
set_option linter.unusedVariables false
set_option linter.unusedSimpArgs false
namespace Go.Sx
open Go.ChangeShapes Go.WideShapes Go.ChangeAt Go.RowKit

/-- The types of the cells of a type. -/
def lvTF (P : Program) (rc : TypeId → Option (List TypeId)) : List Field → Nat → Option (List TypeId)
  | [], _ => some []
  | f :: fs, off => if f.offset ≠ off then none else match rc f.type with
    | some l => if P.cellsOf f.type = l.length then (match lvTF P rc fs (off + l.length) with
      | some ls => some (l ++ ls)
      | none => none) else none
    | none => none
def repL {α : Type} : Nat → List α → List α
  | 0, _ => []
  | n + 1, l => l ++ repL n l
def lvT (P : Program) : Nat → TypeId → Option (List TypeId)
  | 0, _ => none
  | d + 1, t => match P.underlying t with
    | some (.struct fs) => match lvTF P (lvT P d) fs.toList 0 with
      | some ts => if P.cellsOf t = ts.length then some ts else none
      | none => none
    | some (.array n e) => match lvT P d e with
      | some l => if P.cellsOf e = l.length ∧ P.cellsOf t = n * l.length then some (repL n l) else none
      | none => none
    | some (.int _) => some [t]
    | some .bool => some [t]
    | some .string => some [t]
    | some (.slice _) => some [t]
    | _ => none
/-- The kinds of the cells of a flat type. -/
def kOf (P : Program) (t : TypeId) : Option LK :=
  match P.underlying t with
  | some (.int k) => some (.i k)
  | some .bool => some .b
  | _ => none
def kOfs (P : Program) : List TypeId → Option (List LK)
  | [] => some []
  | t :: l => match kOf P t with
    | some k => match kOfs P l with
      | some ks => some (k :: ks)
      | none => none
    | none => none
def kinds (P : Program) (t : TypeId) : Option (List LK) :=
  match lvT P 20 t with
  | some ts => kOfs P ts
  | none => none

section
variable {H : Type} {enc : TypeId × Value → H} {P : Program} {w : World} {base : Nat} {sp : Nat → Bool} {held : Bool}

variable (enc P w base sp held) in
/-- Each cell is well read. -/
def leafOk : List TypeId → List Value → Prop
  | [], [] => True
  | t :: ts, c :: cs => (∃ fuel x, DataW.trod enc P w base sp held fuel t [c] = some x) ∧ leafOk ts cs
  | _, _ => False

theorem leafOk_append : ∀ {ts us : List TypeId} {cs ds : List Value}, leafOk enc P w base sp held ts cs → leafOk enc P w base sp held us ds → leafOk enc P w base sp held (ts ++ us) (cs ++ ds)
  | [], us, [], ds, _, h => h
  | t :: ts, us, c :: cs, ds, h1, h2 => ⟨h1.1, leafOk_append h1.2 h2⟩
  | [], _, _ :: _, _, h, _ => h.elim
  | _ :: _, _, [], _, h, _ => h.elim
theorem leafOk_len : ∀ {ts : List TypeId} {cs : List Value}, leafOk enc P w base sp held ts cs → cs.length = ts.length
  | [], [], _ => rfl
  | t :: ts, c :: cs, h => by simp [leafOk_len h.2]
  | [], _ :: _, h => h.elim
  | _ :: _, [], h => h.elim

theorem lvTF_ok {rc : TypeId → Option (List TypeId)} (hrc : ∀ t ts, rc t = some ts → ∀ fuel cs x, cs.length = P.cellsOf t → DataW.trod enc P w base sp held fuel t cs = some x → leafOk enc P w base sp held ts cs) :
    ∀ (fs : List Field) (off : Nat) (ts : List TypeId) (cs : List Value) (fuel : Nat) , lvTF P rc fs off = some ts → cs.length = off + ts.length →
      (∀ f ∈ fs, ∃ x, DataW.trod enc P w base sp held fuel f.type ((cs.drop f.offset).take (P.cellsOf f.type)) = some x) → leafOk enc P w base sp held ts (cs.drop off)
  | [], off, ts, cs, fuel, h, hl, _ => by
    simp only [lvTF, Option.some.injEq] at h
    subst h
    have : cs.drop off = [] := List.drop_eq_nil_of_le (by simp at hl; omega)
    rw [this]; exact trivial
  | f :: fs, off, ts, cs, fuel, h, hl, hf => by
    simp only [lvTF] at h
    split at h
    · cases h
    · rename_i hoff
      simp only [ne_eq, Decidable.not_not] at hoff
      split at h
      · rename_i l hl1
        split at h
        · rename_i hc
          split at h
          · rename_i ls hls
            cases h
            simp only [List.length_append] at hl
            obtain ⟨x, hx⟩ := hf f (by simp)
            rw [hoff, hc] at hx
            have h1 := hrc _ _ hl1 fuel _ x (by rw [hc]; simp; omega) hx
            have h2 := lvTF_ok hrc fs (off + l.length) ls cs fuel hls (by omega) (fun g hg => hf g (by simp [hg]))
            have e : cs.drop off = (cs.drop off).take l.length ++ cs.drop (off + l.length) := by
              rw [← List.drop_drop]; exact (List.take_append_drop _ _).symm
            rw [e]
            exact leafOk_append h1 h2
          · cases h
        · cases h
      · cases h

theorem repL_len {α : Type} (l : List α) : ∀ n, (repL n l).length = n * l.length
  | 0 => by simp [repL]
  | n + 1 => by simp [repL, repL_len l n, Nat.succ_mul]; omega
theorem rep_ok {ts : List TypeId} : ∀ (n : Nat) (cs : List Value), cs.length = n * ts.length → (∀ i, i < n → leafOk enc P w base sp held ts ((cs.drop (i * ts.length)).take ts.length)) → leafOk enc P w base sp held (repL n ts) cs
  | 0, cs, hl, _ => by
    have : cs = [] := List.eq_nil_of_length_eq_zero (by simpa using hl)
    subst this; exact trivial
  | n + 1, cs, hl, h => by
    rw [Nat.succ_mul] at hl
    have h0 := h 0 (by omega)
    simp only [Nat.zero_mul, List.drop_zero] at h0
    have ih := rep_ok (ts := ts) n (cs.drop ts.length) (by simp; omega) (fun i hi => by
      have := h (i + 1) (by omega)
      rw [List.drop_drop]
      have e : ts.length + i * ts.length = (i + 1) * ts.length := by rw [Nat.succ_mul]; omega
      rw [e]; exact this)
    have e : cs = cs.take ts.length ++ cs.drop ts.length := (List.take_append_drop _ _).symm
    rw [e]
    exact leafOk_append h0 ih

theorem lvT_ok : ∀ (d : Nat) (t : TypeId) (ts : List TypeId), lvT P d t = some ts → ∀ fuel cs x, cs.length = P.cellsOf t → DataW.trod enc P w base sp held fuel t cs = some x → leafOk enc P w base sp held ts cs
  | 0, t, ts, h, _, _, _, _, _ => by simp [lvT] at h
  | d + 1, t, ts, h, fuel, cs, x, hn, hx => by
    unfold lvT at h
    split at h
    · rename_i fs hu
      split at h
      · rename_i ts' hts
        split at h
        · rename_i hc
          cases h
          obtain ⟨xs, n, rfl, _, hlen, hxl, hxs⟩ := DataW.trod_struct hu hx
          have := lvTF_ok (lvT_ok d) fs.toList 0 ts cs n hts (by omega) (fun f hf => by
            obtain ⟨i, hi⟩ := List.getElem?_of_mem hf
            rw [Array.getElem?_toList] at hi
            have := hxs i f hi
            rw [this]
            have hlt : i < xs.length := by rw [hxl]; exact (Array.getElem?_eq_some_iff.1 hi).1
            exact ⟨_, List.getElem?_eq_getElem hlt⟩)
          simpa using this
        · cases h
      · cases h
    · rename_i n e hu
      split at h
      · rename_i l hl
        split at h
        · rename_i hc
          cases h
          obtain ⟨xs, m, rfl, _, hlen, hxl, hxs⟩ := DataW.trod_array hu hx
          refine rep_ok n cs (by omega) (fun i hi => ?_)
          have := hxs i hi
          rw [hc.1] at this
          rw [List.getElem?_eq_getElem (by omega)] at this
          have hi2 : i * l.length + l.length ≤ n * l.length := mul_lt_le hi
          exact lvT_ok d e l hl m _ _ (by rw [hc.1]; simp; omega) this
        · cases h
      · cases h
    all_goals (first | (cases h; done) | skip)
    all_goals
      rename_i hu
      cases h
      have h1 : ∃ c, cs = [c] := by
        cases fuel with
        | zero => simp [DataW.trod] at hx
        | succ n =>
          unfold DataW.trod at hx
          rw [hu] at hx
          split at hx <;> first | exact ⟨_, rfl⟩ | simp_all
      obtain ⟨c, rfl⟩ := h1
      exact ⟨⟨fuel, x, hx⟩, trivial⟩

theorem leaf_int {t : TypeId} {k : IntKind} {c : Value} (hu : P.underlying t = some (.int k)) (h : ∃ fuel x, DataW.trod enc P w base sp held fuel t [c] = some x) : ∃ n, c = .int k n ∧ k.min ≤ n ∧ n ≤ k.max := by
  obtain ⟨fuel, x, hx⟩ := h
  cases fuel with
  | zero => simp [DataW.trod] at hx
  | succ f =>
    unfold DataW.trod at hx
    rw [hu] at hx
    split at hx <;> simp_all
    rename_i k' n
    obtain ⟨⟨rfl, h2⟩, _⟩ := hx
    simp only [Lit.wf, Bool.and_eq_true, decide_eq_true_eq] at h2
    exact h2
theorem leaf_bool {t : TypeId} {c : Value} (hu : P.underlying t = some .bool) (h : ∃ fuel x, DataW.trod enc P w base sp held fuel t [c] = some x) : ∃ b, c = .bool b := by
  obtain ⟨fuel, x, hx⟩ := h
  cases fuel with
  | zero => simp [DataW.trod] at hx
  | succ f =>
    unfold DataW.trod at hx
    rw [hu] at hx
    split at hx <;> simp_all
theorem leaf_string {t : TypeId} {c : Value} (hu : P.underlying t = some .string) (h : ∃ fuel x, DataW.trod enc P w base sp held fuel t [c] = some x) : ∃ s : ByteArray, c = .string s ∧ s.size ≤ maxLen := by
  obtain ⟨fuel, x, hx⟩ := h
  cases fuel with
  | zero => simp [DataW.trod] at hx
  | succ f =>
    unfold DataW.trod at hx
    rw [hu] at hx
    split at hx <;> simp_all

theorem kinds_ok : ∀ {ts : List TypeId} {ks : List LK} {cs : List Value}, kOfs P ts = some ks → leafOk enc P w base sp held ts cs → kindOk ks cs
  | [], ks, [], h, _ => by cases h; exact trivial
  | t :: ts, ks, c :: cs, h, hl => by
    simp only [kOfs] at h
    split at h
    · rename_i k hk
      split at h
      · rename_i ks' hks
        cases h
        have ih := kinds_ok hks hl.2
        unfold kOf at hk
        split at hk
        · rename_i k' hu
          cases hk
          obtain ⟨n, rfl, h1, h2⟩ := leaf_int hu hl.1
          exact ⟨rfl, h1, h2, ih⟩
        · rename_i hu
          cases hk
          obtain ⟨b, rfl⟩ := leaf_bool hu hl.1
          exact ih
        · cases hk
      · cases h
    · cases h
  | [], _, _ :: _, _, h => h.elim
  | _ :: _, _, [], _, h => h.elim

/-- A slice of flat elements, opened. -/
theorem leaf_row {α : Type} {E : Enc α} {t e : TypeId} {c : Value} (hu : P.underlying t = some (.slice e)) (hk : kinds P e = some E.ks) (hc : P.cellsOf e = E.sz) (hpos : 0 < E.sz)
    (hsp : ∀ b, sp b = true) (h : ∃ fuel x, DataW.trod enc P w base sp held fuel t [c] = some x) :
    ∃ L : List α, (∀ x ∈ L, E.wf x) ∧ c.oneCell' = true ∧ (∀ r, (Ent.ro L.length E.sz (rowF E L)).rel r w c) ∧ ∀ b, blkOf c = some b → b < w.heap.size := by
  obtain ⟨fuel, x, hx⟩ := h
  rcases Deep.open_slice hu hx with ⟨h1, _⟩ | ⟨a, len, cap, m, n, D, Pl, h1, hb, hl, hm, hmm, _, hel⟩
  · cases h1
    exact ⟨[], (fun x hx => by cases hx), rfl, fun r => ⟨none, 0, rfl, Nat.le_refl _, by simp, fun h => by simp at h⟩, fun b hb => by simp [blkOf] at hb⟩
  · cases h1
    have hcell : ∀ i, i < m → ∃ y, E.wf y ∧ ∃ cs', w.cells? base (a.add (i * P.cellsOf e)) (P.cellsOf e) = some cs' ∧ E.enc y = cs'.map SC.v := by
      intro i hi
      obtain ⟨cs', h2, h3⟩ := hel i hi
      have hlen := (World.cells?_some h2).2.1
      unfold kinds at hk
      split at hk
      · rename_i ts hts
        have h4 := lvT_ok 20 e ts hts n cs' _ hlen h3
        obtain ⟨y, hy1, hy2⟩ := E.onto cs' (kinds_ok hk h4)
        exact ⟨y, hy2, cs', h2, hy1⟩
      · cases hk
    have hlem : len ≤ m := by rw [hmm]; split <;> omega
    -- one element after the other
    have hlist : ∀ k, k ≤ len → ∃ L : List α, L.length = k ∧ (∀ x ∈ L, E.wf x) ∧ ∀ i (hi : i < L.length), ∃ cs', w.cells? base (a.add (i * P.cellsOf e)) (P.cellsOf e) = some cs' ∧ E.enc L[i] = cs'.map SC.v := by
      intro k
      induction k with
      | zero => intro _; exact ⟨[], rfl, (fun x hx => by cases hx), fun i hi => by simp at hi⟩
      | succ k ih =>
        intro hk
        obtain ⟨L, h1, h2, h3⟩ := ih (by omega)
        obtain ⟨y, g1, cs', g2, g3⟩ := hcell k (by omega)
        refine ⟨L ++ [y], by simp [h1], fun x hx => ?_, fun i hi => ?_⟩
        · rw [List.mem_append] at hx
          rcases hx with hx | hx
          · exact h2 x hx
          · simp only [List.mem_singleton] at hx; subst hx; exact g1
        · by_cases hik : i < L.length
          · rw [List.getElem_append_left hik]; exact h3 i hik
          · simp only [List.length_append, List.length_singleton] at hi
            have : i = k := by omega
            subst this
            rw [List.getElem_append_right (by omega)]
            simp only [h1, Nat.sub_self, List.getElem_cons_zero]
            exact ⟨cs', g2, g3⟩
    obtain ⟨L, hL1, hL2, hL3⟩ := hlist len (Nat.le_refl _)
    have hcells : ∀ i, i < L.length → ∀ j, j < E.sz → w.cell? (a.add (i * E.sz + j)) = some ((rowF E L i j).den fun _ => undef) := by
      intro i hi j hj
      obtain ⟨cs', g1, g2⟩ := hL3 i hi
      rw [hc] at g1
      obtain ⟨g3, g4, g5⟩ := World.cells?_some g1
      have := g5 j (by omega)
      rw [Deep.add_add] at this
      rw [this, rowF_get hi]
      unfold cellAt
      rw [g2, nth_eq, List.getElem?_map, List.getElem?_eq_getElem (by omega)]
      rfl
    have hplain : 0 < len → ∃ b o, a = ⟨b, o, none⟩ ∧ b < w.heap.size := by
      intro h0
      have := hcells 0 (by omega) 0 hpos
      simp only [Nat.zero_mul, Nat.zero_add, Addr.add, if_true] at this
      unfold World.cell? at this
      split at this
      · rename_i c e' fr hb'
        split at this
        · cases this
        · rename_i hs
          obtain ⟨b, o, s⟩ := a
          simp only [Bool.not_eq_true, Option.isSome_eq_false_iff, Option.isNone_iff_eq_none] at hs
          simp only at hs hb'
          subst hs
          exact ⟨b, o, rfl, (Array.getElem?_eq_some_iff.1 hb').1⟩
      · cases this
    refine ⟨L, hL2, rfl, fun r => ⟨some a, cap, by rw [hL1], by omega, by simp [maxLen] at hm; omega, fun h0 => ?_⟩, fun b hb' => ?_⟩
    · obtain ⟨b, o, rfl, hlt⟩ := hplain (by omega)
      refine ⟨b, o, rfl, hlt, fun i j hi hj => ?_⟩
      have := hcells i hi j hj
      rw [Addr.add_plain] at this
      rw [this]
      obtain ⟨v, hv, _⟩ := rowF_flat (E := E) L i j
      rw [hv]; rfl
    · simp only [blkOf] at hb'
      split at hb'
      · cases hb'
      · cases hb'
        obtain ⟨y, g1, cs', g2, g3⟩ := hcell 0 (by rw [hmm, hsp]; simp; omega)
        rw [hc] at g2
        obtain ⟨_, g4, g5⟩ := World.cells?_some g2
        have := g5 0 (by omega)
        rw [List.getElem?_eq_getElem (by omega)] at this
        unfold World.cell? at this
        split at this
        · rename_i c e' fr hb'
          have h2 := (Array.getElem?_eq_some_iff.1 hb').1
          simp only [Nat.zero_mul, Addr.add, if_true] at h2
          exact h2
        · cases this

end
end Go.Sx
