/- A part of the proof of a statement about this seat: how a function is stepped through, and plain laws. No conditions. -/
import Derived.Test.YtgdglgcfmebonaaSx12
set_option linter.unusedVariables false
set_option linter.unusedSimpArgs false
namespace Go.Sx
open Go.RowKit

section
variable {P : Program} {base : World} {M : Scp} {N n0 : Nat} {r0 r : Rho} {S : St} {a : Act} {w : World}

theorem getD_bool {t : Array Value} {s : Nat} {b : Bool} (h : t.getD s undef = .bool b) : t[s]? = some (.bool b) := by
  rw [Array.getD_eq_getD_getElem?] at h
  cases hs : t[s]? with
  | none => rw [hs] at h; simp [undef] at h
  | some v => rw [hs] at h; simp at h; rw [h]

theorem getD_undef {t : Array Value} {s : Nat} (h : t.getD s undef = undef) : t[s]? = none ∨ t[s]? = some undef := by
  rw [Array.getD_eq_getD_getElem?] at h
  cases hs : t[s]? with
  | none => exact .inl rfl
  | some v => rw [hs] at h; simp at h; rw [h]; exact .inr rfl

theorem guard_sound {ops : Array Oper} {o : Oper} {xo : XOper} {gd : Option Bool} (hx : xop P ops o = some xo) (hr : Rel base M N n0 r0 r S a w) (hg : guardOf S.env xo.guard = some gd) :
    Region.wanted o (yielded ops a.tmps) = gdB gd := by
  unfold xop at hx
  split at hx
  · cases hx
  · split at hx
    · rename_i hgd
      cases hx
      simp only [guardOf, Option.some.injEq] at hg
      subst hg
      simp [Region.wanted, hgd, gdB]
    · rename_i j want hgd
      split at hx
      · rename_i d hd
        cases hx
        simp only [guardOf] at hg
        simp only [Region.wanted, hgd, yielded, hd, Option.bind_some]
        split at hg
        · rename_i b hl
          cases hg
          have := getD_bool (hr.slot _ _ hl)
          rw [this]
          cases b <;> cases want <;> rfl
        · rename_i g b hl
          cases hg
          have h1 := hr.slot _ _ hl
          cases g with
          | true =>
            have := getD_bool (b := b) h1
            rw [this]
            cases b <;> cases want <;> rfl
          | false =>
            rcases getD_undef (s := d) (t := a.tmps) h1 with h2 | h2
            · rw [h2]; cases want <;> rfl
            · rw [h2]; cases want <;> rfl
        · cases hg
      · cases hx

theorem xop_parts {ops : Array Oper} {o : Oper} {xo : XOper} (hx : xop P ops o = some xo) : xop1 P o.op = some (xo.op, xo.args) ∧ xo.dst = o.dst := by
  unfold xop at hx
  split at hx
  · cases hx
  · rename_i op args h1
    split at hx
    · cases hx; exact ⟨h1, rfl⟩
    · split at hx
      · cases hx; exact ⟨h1, rfl⟩
      · cases hx

theorem rd_sound (hr : Rel base M N n0 r0 r S a w) {x : XO} {p : Prop} {y : S1} (h : rd S.env x = some (p, y)) (hp : p) : x.val a = y.den r := by
  cases x with
  | t i =>
    simp only [rd] at h
    split at h
    · rename_i x' hl; cases h; exact hr.slot _ _ hl
    · rename_i b x' hl; cases h
      have := hr.slot _ _ hl
      simp only [SV.den] at this
      rw [if_pos hp] at this
      exact this
    · cases h
  | k v =>
    simp only [rd, Option.some.injEq, Prod.mk.injEq] at h
    obtain ⟨_, rfl⟩ := h
    exact (constS_den r v).symm

theorem rd_sc (hr : Rel base M N n0 r0 r S a w) {x : XO} {p : Prop} {y : S1} (h : rd S.env x = some (p, y)) : y.sc (upto S.next) := by
  cases x with
  | t i =>
    simp only [rd] at h
    split at h
    · rename_i x' hl; cases h; exact hr.scE _ _ hl
    · rename_i b x' hl; cases h; exact hr.scE _ _ hl
    · cases h
  | k v =>
    simp only [rd, Option.some.injEq, Prod.mk.injEq] at h
    obtain ⟨_, rfl⟩ := h
    exact constS_sc _ v

theorem rds_sound (hr : Rel base M N n0 r0 r S a w) : ∀ {xs : List XO} {p : Prop} {ys : List S1}, rds S.env xs = some (p, ys) → p → xs.map (XO.val a) = ys.map (S1.den r)
  | [], p, ys, h, _ => by simp only [rds, Option.some.injEq, Prod.mk.injEq] at h; obtain ⟨_, rfl⟩ := h; rfl
  | x :: xs, p, ys, h, hp => by
    simp only [rds] at h
    split at h
    · rename_i p1 y h1
      split at h
      · rename_i q ys' h2
        cases h
        simp only [List.map_cons, List.cons.injEq]
        exact ⟨rd_sound hr h1 hp.1, rds_sound hr h2 hp.2⟩
      · cases h
    · cases h

theorem rds_sc (hr : Rel base M N n0 r0 r S a w) : ∀ {xs : List XO} {p : Prop} {ys : List S1}, rds S.env xs = some (p, ys) → ∀ y ∈ ys, S1.sc (upto S.next) y
  | [], p, ys, h => by simp only [rds, Option.some.injEq, Prod.mk.injEq] at h; obtain ⟨_, rfl⟩ := h; intro y hy; cases hy
  | x :: xs, p, ys, h => by
    simp only [rds] at h
    split at h
    · rename_i p1 y h1
      split at h
      · rename_i q ys' h2
        cases h
        intro z hz
        cases hz with
        | head => exact rd_sc hr h1
        | tail _ hm => exact rds_sc hr h2 z hm
      · cases h
    · cases h

theorem nth_mem {α : Type} : ∀ {l : List α} {j : Nat} {x : α}, nth l j = some x → x ∈ l
  | c :: cs, 0, x, h => by simp only [nth, Option.some.injEq] at h; subst h; exact List.mem_cons_self
  | c :: cs, j + 1, x, h => List.mem_cons_of_mem _ (nth_mem (l := cs) (j := j) h)
  | [], j, x, h => by simp [nth] at h

theorem takeAt_mem {α : Type} {l : List α} {j m : Nat} {x : α} (h : x ∈ takeAt l j m) : x ∈ l := by
  rw [takeAt_eq] at h
  exact List.mem_of_mem_drop (List.mem_of_mem_take h)

theorem setAt_mem {α : Type} : ∀ {l : List α} {o : Nat} {xs : List α} {x : α}, x ∈ setAt l o xs → x ∈ l ∨ x ∈ xs
  | l, 0, [], x, h => by cases l <;> simp [setAt] at h ⊢ <;> exact h
  | [], 0, _ :: _, x, h => by simp [setAt] at h
  | c :: cs, 0, y :: ys, x, h => by
    simp only [setAt, List.mem_cons] at h
    rcases h with h | h
    · exact .inr (by simp [h])
    · rcases setAt_mem h with h | h
      · exact .inl (List.mem_cons_of_mem _ h)
      · exact .inr (List.mem_cons_of_mem _ h)
  | [], _ + 1, _, x, h => by simp [setAt] at h
  | c :: cs, o + 1, xs, x, h => by
    simp only [setAt, List.mem_cons] at h
    rcases h with h | h
    · exact .inl (by simp [h])
    · rcases setAt_mem h with h | h
      · exact .inl (List.mem_cons_of_mem _ h)
      · exact .inr h

theorem fillS_sc {m : Nat → Prop} : ∀ {pl : List (Nat × Nat)} {xs : List S1} {cs cs' : List SC}, fillS cs pl xs = some cs' → (∀ x ∈ xs, S1.sc m x) → (∀ x ∈ cs, SC.sc m x) → ∀ x ∈ cs', SC.sc m x
  | [], [], cs, cs', h, _, hc => by simp only [fillS, Option.some.injEq] at h; subst h; exact hc
  | (o, n) :: pl, x :: xs, cs, cs', h, hx, hc => by
    simp only [fillS] at h
    split at h
    · refine fillS_sc h (fun y hy => hx y (List.mem_cons_of_mem _ hy)) fun y hy => ?_
      rcases setAt_mem hy with hy | hy
      · exact hc y hy
      · have := hx x List.mem_cons_self
        cases x with
        | c z => simp only [S1.cells, List.mem_singleton] at hy; subst hy; exact this
        | a zs => exact this y hy
    · cases h
  | [], _ :: _, cs, cs', h, _, _ => by simp [fillS] at h
  | _ :: _, [], cs, cs', h, _, _ => by simp [fillS] at h

theorem ups_sc {m : Nat → Prop} {f : Nat → Nat → SC} (h : ∀ e j, (f e j).sc m) (e : Nat) : ∀ (k j : Nat), ∀ x ∈ ups f e j k, SC.sc m x
  | 0, _, x, hx => by cases hx
  | k + 1, j, x, hx => by
    simp only [ups, List.mem_cons] at hx
    rcases hx with rfl | hx
    · exact h e j
    · exact ups_sc h e k (j + 1) x hx

theorem boxOf_sc {E : Nat → Option Ent} {m : Nat → Prop} {i : Nat} {cs : List SC} (hE : ∀ i e, E i = some e → m i ∧ e.sc m) (h : boxOf E i = some cs) : ∀ x ∈ cs, SC.sc m x := by
  obtain ⟨ty, he⟩ := boxOf_eq h
  exact (hE i _ he).2
theorem rowOf_sc {E : Nat → Option Ent} {m : Nat → Prop} {i n sz : Nat} {f : Nat → Nat → SC} (hE : ∀ i e, E i = some e → m i ∧ e.sc m) (h : rowOf E i = some (n, sz, f)) : ∀ e j, (f e j).sc m := by
  unfold rowOf at h
  split at h
  · rename_i he; cases h; exact (hE i _ he).2
  · rename_i he; cases h; exact (hE i _ he).2
  · cases h; exact fun _ _ => trivial
  · cases h

theorem binI_sc {op : BinOp} {k : IntKind} {x y : Int} {p : Prop} {v : Value} (m : Nat → Prop) : S1.sc m (.c (.v v)) := trivial

theorem opQ_sc {E : Nat → Option Ent} {m : Nat → Prop} {op : XOp} {ys : List S1} {p : Prop} {z : S1} (hE : ∀ i e, E i = some e → m i ∧ e.sc m) (hy : ∀ y ∈ ys, S1.sc m y)
    (h : opQ E op ys = some (p, z)) : z.sc m := by
  cases op <;> simp only [opQ] at h
  case mv => unfold qMv at h; split at h <;> cases h; exact hy _ List.mem_cons_self
  case build z' pl =>
    unfold qBuild at h
    split at h
    · rename_i cs hf
      cases h
      exact fillS_sc hf hy (fun x hx => by simp only [List.mem_map] at hx; obtain ⟨v, _, rfl⟩ := hx; trivial)
    · cases h
  case load1 =>
    unfold qLoad1 at h
    split at h
    · split at h
      · rename_i cs hb
        split at h
        · rename_i x hx; cases h; exact boxOf_sc hE hb _ (nth_mem hx)
        · cases h
      · cases h
    · split at h
      · rename_i hb; cases h; exact rowOf_sc hE hb _ _
      · cases h
    · cases h
  case loadN k =>
    unfold qLoadN at h
    split at h
    · split at h
      · rename_i cs hb
        cases h
        exact fun x hx => boxOf_sc hE hb _ (takeAt_mem hx)
      · cases h
    · split at h
      · rename_i hb; cases h; exact ups_sc (rowOf_sc hE hb) _ _ _
      · cases h
    · cases h
  case fld off =>
    unfold qFld at h
    split at h
    · rename_i i j; cases h; exact (show m i from hy (.c (.p i j)) List.mem_cons_self)
    · rename_i i sz e j; cases h; exact (show m i from hy (.c (.q i sz e j)) List.mem_cons_self)
    · cases h
  case part1 off =>
    unfold qPart1 at h
    split at h
    · split at h
      · rename_i x hx; cases h; exact hy _ List.mem_cons_self _ (nth_mem hx)
      · cases h
    · cases h
  case partN off k =>
    unfold qPartN at h
    split at h
    · cases h; exact fun x hx => hy _ List.mem_cons_self _ (takeAt_mem hx)
    · cases h
  case ix1 len sz =>
    unfold qIx1 at h
    split at h
    · split at h
      · rename_i x hx; cases h; exact hy _ List.mem_cons_self _ (nth_mem hx)
      · cases h
    · cases h
  case ixN len sz =>
    unfold qIxN at h
    split at h
    · cases h; exact fun x hx => hy _ List.mem_cons_self _ (takeAt_mem hx)
    · cases h
  case ixA len sz =>
    unfold qIxA at h
    split at h
    · rename_i i j _ _; cases h; exact (show m i from hy (.c (.p i j)) List.mem_cons_self)
    · cases h
  case ixS sz =>
    unfold qIxS at h
    split at h
    · rename_i i _ _
      split at h
      · cases h; exact (show m i from hy (.c (.n i)) List.mem_cons_self)
      · cases h
    · cases h
  case bin op =>
    unfold qBin at h
    split at h
    · split at h
      · split at h
        · cases h; trivial
        · cases h
      · cases h
    · cases h
  case binb op =>
    unfold qBinb at h
    split at h
    · split at h <;> cases h <;> trivial
    · cases h
  case eqA neg ks =>
    unfold qEqA at h
    split at h
    · split at h <;> cases h; trivial
    · cases h
  case un op =>
    unfold qUn at h
    split at h
    · split at h <;> cases h; trivial
    · split at h <;> cases h; trivial
    · cases h
  case conv k => unfold qConv at h; split at h <;> cases h; trivial
  case minI => unfold qMin at h; split at h <;> cases h; trivial
  case maxI => unfold qMax at h; split at h <;> cases h; trivial
  case lenS =>
    unfold qLenS at h
    split at h
    · split at h <;> cases h; trivial
    · cases h
  case nilc =>
    unfold qNil at h
    split at h
    · cases h; exact hy _ List.mem_cons_self
    · cases h; exact hy _ List.mem_cons_self
    · cases h; trivial
    · cases h
  all_goals cases h

end
end Go.Sx
