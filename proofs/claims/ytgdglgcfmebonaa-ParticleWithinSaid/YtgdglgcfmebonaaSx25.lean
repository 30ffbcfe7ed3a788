/- A part of the proof of a statement about this seat: how a function is stepped through, and plain laws. No conditions. -/
import Derived.Test.YtgdglgcfmebonaaSx18
import Derived.ProofKit
import Derived.OpenShut
set_option linter.unusedVariables false
set_option linter.unusedSimpArgs false
namespace Go.Sx
open Go.ChangeShapes Go.WideShapes Go.ChangeAt Go.RowKit

/-- What a cell holds. -/
inductive Lf where
  | i (k : IntKind)
  | b
def lfOf (P : Program) (t : TypeId) : Option Lf :=
  match P.underlying t with
  | some (.int k) => some (.i k)
  | some .bool => some .b
  | _ => none
def lfsOf (P : Program) : List TypeId → Option (List Lf)
  | [] => some []
  | t :: l => match lfOf P t with
    | some x => match lfsOf P l with
      | some xs => some (x :: xs)
      | none => none
    | none => none
def lfs (P : Program) (t : TypeId) : Option (List Lf) :=
  match P.cellTypes P.depth t with
  | some ts => lfsOf P ts
  | none => none
def Lf.ok : Lf → Value → Prop
  | .i k, v => ∃ n, v = .int k n ∧ k.min ≤ n ∧ n ≤ k.max
  | .b, v => ∃ x, v = .bool x
def lfOks : List Lf → List Value → Prop
  | [], vs => vs = []
  | l :: ls, vs => ∃ v vs', vs = v :: vs' ∧ l.ok v ∧ lfOks ls vs'

theorem lf_ok {P : Program} {w : World} {r : Reach} {base : Nat} {t : TypeId} {v : Value} {x : Lf} (hx : lfOf P t = some x) (h : Cell.okWide P w r base t v) : x.ok v := by
  unfold lfOf at hx
  unfold Cell.okWide Cell.ok at h
  split at hx
  · rename_i k hk
    cases hx
    rw [hk] at h
    cases v <;> simp only at h
    rename_i k' n
    obtain ⟨rfl, h⟩ := h
    exact ⟨n, rfl, h⟩
  · rename_i hk
    cases hx
    rw [hk] at h
    cases v <;> simp only at h
    exact ⟨_, rfl⟩
  · cases hx

theorem lfOks_of {P : Program} {w : World} {r : Reach} {base : Nat} : ∀ (ts : List TypeId) (L : List Lf) (cs : List Value), lfsOf P ts = some L → cs.length = ts.length →
    (∀ (i : Nat) (v : Value), cs[i]? = some v → ∃ u, ts[i]? = some u ∧ Cell.okWide P w r base u v) → lfOks L cs
  | [], L, cs, hl, hn, h => by
    cases hl
    cases cs with
    | nil => rfl
    | cons c cs => simp at hn
  | t :: ts, L, cs, hl, hn, h => by
    simp only [lfsOf] at hl
    split at hl
    · rename_i x hx
      split at hl
      · rename_i xs hxs
        cases hl
        cases cs with
        | nil => simp at hn
        | cons c cs =>
          refine ⟨c, cs, rfl, ?_, lfOks_of (w := w) (r := r) (base := base) ts xs cs hxs (by simpa using hn) (fun i v hv => ?_)⟩
          · obtain ⟨u, hu, hc⟩ := h 0 c rfl
            cases hu
            exact lf_ok hx hc
          · simpa using h (i + 1) v (by simpa using hv)
      · cases hl
    · cases hl

theorem lfsOf_len {P : Program} : ∀ (ts : List TypeId) (L : List Lf), lfsOf P ts = some L → ts.length = L.length
  | [], L, h => by cases h; rfl
  | t :: ts, L, h => by
    simp only [lfsOf] at h
    split at h
    · split at h
      · rename_i xs hxs
        cases h
        simp [lfsOf_len ts xs hxs]
      · cases h
    · cases h

theorem open_row {P : Program} {w : World} {r : Reach} {base : Nat} {t : TypeId} {cs : Array Value} {L : List Lf} (hl : lfs P t = some L) (hc : cs.size = L.length) (h : Row.okWide P w r base t cs) : lfOks L cs.toList := by
  obtain ⟨ts, hts, _, hcell⟩ := h
  unfold lfs at hl
  rw [hts] at hl
  have hn := lfsOf_len _ _ hl
  refine lfOks_of (w := w) (r := r) (base := base) ts L cs.toList hl (by simp [hc, hn]) (fun i v hv => ?_)
  have hi : i < ts.length := by
    have := (List.getElem?_eq_some_iff.1 hv).1
    simp at this
    omega
  obtain ⟨u, hu, hk⟩ := hcell i v (by simpa using hv)
  rw [Nat.mod_eq_of_lt hi] at hu
  exact ⟨u, hu, hk⟩

/-- A struct of numbers and bools, opened. -/
theorem open_flat {P : Program} {w : World} {r : Reach} {base : Nat} {t : TypeId} {fs : Array Field} {v : Value} {L : List Lf} (ht : P.underlying t = some (.struct fs)) (hl : lfs P t = some L) (hc : P.cellsOf t = L.length)
    (hv : Value.okWide P w r base t v) : ∃ cs : List Value, v = .agg cs.toArray ∧ lfOks L cs := by
  unfold Value.okWide at hv
  rw [ht] at hv
  obtain ⟨cs, rfl, hsz, hrow⟩ := hv
  exact ⟨cs.toList, by simp, open_row hl (hsz.trans hc) hrow⟩

theorem open_flatA {P : Program} {w : World} {r : Reach} {base : Nat} {t e : TypeId} {n : Nat} {v : Value} {L : List Lf} (ht : P.underlying t = some (.array n e)) (hl : lfs P t = some L) (hc : P.cellsOf t = L.length)
    (hv : Value.okWide P w r base t v) : ∃ cs : List Value, v = .agg cs.toArray ∧ lfOks L cs := by
  unfold Value.okWide at hv
  rw [ht] at hv
  obtain ⟨cs, rfl, hsz, hrow⟩ := hv
  exact ⟨cs.toList, by simp, open_row hl (hsz.trans hc) hrow⟩

theorem open_lf {P : Program} {w : World} {r : Reach} {base : Nat} {t : TypeId} {v : Value} {x : Lf} (hx : lfOf P t = some x) (hv : Value.okWide P w r base t v) : x.ok v := by
  refine lf_ok hx (w := w) (r := r) (base := base) ?_
  unfold lfOf at hx
  unfold Value.okWide at hv
  split at hx
  · rename_i k hk; rw [hk] at hv; exact hv
  · rename_i hk; rw [hk] at hv; exact hv
  · cases hx

/-- The arguments read as they did. -/
theorem trodAll_keep {H : Type} {enc : TypeId × Value → H} {P : Program} (hl : laidOutB P = true) {W W' : World} (hb : Below W.heap.size W W') {sp : Nat → Bool} : ∀ (ts : List TypeId) (vs : List Value) (ds : List (DataW H)) (ps : List MemPlace),
    ts.all (fun t => P.readableRec t && decide (t < P.types.size)) = true → DataW.TrodAll enc P W 0 (fun _ => true) true ts vs ds ps → (∀ x ∈ ps, x.block < W.heap.size) → (∀ x ∈ ps, sp x.block = true) → DataW.TrodAll enc P W' 0 sp true ts vs ds ps
  | [], vs, ds, ps, _, h, _, _ => by
    obtain ⟨rfl, rfl, rfl⟩ := trodAll_nil h
    exact trodAll_mk0
  | t :: ts, vs, ds, ps, ha, h, hlt, hsp => by
    obtain ⟨v, vs, d, ds, p, q, rfl, rfl, rfl, h0, h1⟩ := trodAll_cons h
    simp only [List.all_cons, Bool.and_eq_true, decide_eq_true_eq] at ha
    refine trodAll_cons_mk (WideElems.Trod_stays hl ha.1.1 ha.1.2 h0 (fun x hx => hb.same (hlt x (List.mem_append_left _ hx))) (fun x hx => hsp x (List.mem_append_left _ hx))) ?_
    exact trodAll_keep hl hb ts vs ds q ha.2 h1 (fun x hx => hlt x (List.mem_append_right _ hx)) (fun x hx => hsp x (List.mem_append_right _ hx))

/-- It returned true, and nothing that was there has turned. -/
theorem post_true {H : Type} {enc : TypeId × Value → H} {P : Program} {f : Func} {s : ChangeSpec} {apart fresh handsOn : Bool} {W W' : World} {args : Array Value} {ds gs : List (DataW H)} {before : List MemPlace} {t : TypeId}
    (hl : laidOutB P = true) (hr : f.resultTypes = #[t]) (ht : P.underlying t = some .bool) (hps : f.params.toList.all (fun t => P.readableRec t && decide (t < P.types.size)) = true) (hvars : s.vars = [])
    (hW : DataW.Whole enc P f.params.toList s.vars apart W args.toList ds gs before) (hs : s.fn H (ds ++ gs) = { results := [.lit (.bool true)], args := ds }) (hb : Below W.heap.size W W') : s.post enc P f apart fresh handsOn false W args (.bool true) W' := by
  have hW' := hW
  obtain ⟨p, q, hA, hV, rfl, hfz, hnd⟩ := hW
  rw [hvars] at hV
  obtain ⟨rfl, rfl⟩ := trodVars_none hV
  have hlt := hW'.lt
  refine ⟨ds, [], p ++ [], [], p, [], hW', ?_, ?_, ?_, hb.frame _, fun h => by cases h⟩
  · rw [hs, hr]; exact trodAll_mk1 (shut_bool ht _)
  · rw [hs]; exact trodAll_keep hl hb _ _ _ _ hps hA (fun x hx => hlt x (by simpa using hx)) (fun x hx => by simpa using hlt x (by simpa using hx))
  · rw [hs, hvars]; rfl

/-- What a contract on plain values says of a call. -/
theorem plain_calls {P : Program} {f : Nat} {sp : List S1 → Option (Prop × SV)} {args : List S1} {pre : Prop} {res : SV} (h : COk P f (plain sp)) (hs : sp args = some (pre, res)) (ha : sc1L (upto 0) args) (hp : pre) (w : World) :
    Calls P f (args.map (S1.den fun _ => .bool true)).toArray w (fun e w' => e = .returned (res.den fun _ => .bool true) ∧ Below w.heap.size w w') := by
  have := h args (lk []) 0 (sc1L_sound ha) (fun i e h => by cases h)
  unfold plain at this
  rw [hs] at this
  exact (this.2 hp).2 w ⟨fun _ => False, fun _ => False⟩ _ w (HeapRel.init w _ (fun _ => rfl))
end Go.Sx
