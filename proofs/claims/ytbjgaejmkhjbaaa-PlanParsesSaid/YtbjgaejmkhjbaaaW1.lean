/- A part of the proof of a statement about this seat: how a function is stepped through, and plain laws. No conditions. -/
import Derived.Test.YtbjgaejmkhjbaaaRows
import Derived.Tactics
import Derived.Tactics2
import Derived.Laws.IdiomCopy
import Derived.Lib.SlBuf
import Derived.WalkKit
import Derived.Deep.LoopGhost
import Derived.Deep.Draws
import Derived.Deep.RegionLaw
import Derived.Laws.Externs
import Derived.Lib.Walk
import Derived.BigCall
import Derived.BigGuard
import Derived.Lib.MakeNoZero
import Derived.Shelf.RegionOpenPlain
import Derived.Lib.SlBytesRow
import Derived.Laws.CopyRow
import Derived.Deep.DeepFit
import Derived.Deep.DeepCutAuto
import Derived.Deep.CutBlock
import Derived.Test.YtbjgaejmkhjbaaaSz3
namespace Go.Proofs.Ytbjgaejmkhjbaaa
open Go.RowKit Go.Lib
set_option maxHeartbeats 8000000 in
set_option maxRecDepth 1000000 in
theorem mul_walk (n : Nat) (w : World) (hn : n ≤ 1099511627776) :
    Calls Try.prog 90 #[.int .u64 1, .int .u64 n] w fun e w' => e = .returned (.tuple #[.int .u64 0, .int .u64 n]) ∧ w' = w := by
  go_enter Try.func90, Try.ntmps90
  go_wp2
  go_ret2
  refine ⟨?_, rfl⟩
  have b1 : bits BinOp.and IntKind.u64 1 4294967295 = 1 := by decide
  have b0 : bits BinOp.and IntKind.u64 0 4294967295 = 0 := by decide
  obtain ⟨y, hy, hy0, hy1⟩ : ∃ y, bits BinOp.and IntKind.u64 n 4294967295 = y ∧ 0 ≤ y ∧ y ≤ 4294967295 := by
    refine ⟨_, rfl, ?_⟩
    unfold bits
    simp only
    rw [IntKind.wrap_u64]
    have h1 : ((BitVec.ofInt IntKind.u64.bits (n : Int)) &&& (BitVec.ofInt IntKind.u64.bits 4294967295)).toNat ≤ 4294967295 := by
      rw [BitVec.toNat_and]
      exact Nat.le_trans Nat.and_le_right (by decide)
    omega
  have e1 : IntKind.u64.wrap (1 * y) / 4294967296 = 0 := by rw [IntKind.wrap_u64]; omega
  have e2 : IntKind.u64.wrap 0 = 0 := by decide
  have e5 : (0 : Int) / 4294967296 = 0 := by decide
  have e3 : IntKind.u64.wrap (1 * ((n : Int) / 4294967296)) = (n : Int) / 4294967296 := by rw [IntKind.wrap_u64]; omega
  have e4 : IntKind.u64.wrap (0 + (n : Int) / 4294967296) / 4294967296 = 0 := by rw [IntKind.wrap_u64]; omega
  have e6 : (0 : Int) + 0 = 0 := rfl
  simp only [b1, hy, e1, e2, b0, e5, e3, e4, e6]
  rfl
end Go.Proofs.Ytbjgaejmkhjbaaa
namespace Go.Proofs.Ytbjgaejmkhjbaaa
open Go.RowKit Go.Lib
/-- The new row is filled up to k. -/
def RB (w wr : World) (n k : Nat) (v : Int) : Prop :=
  ∃ cur, wr.heap[w.heap.size]? = some (.cells cur 5 (0, 0)) ∧ n ≤ cur.size ∧ (∀ j, j < k → cur[j]? = some (.int .u8 v)) ∧ Below w.heap.size w wr ∧ k ≤ n
theorem copy_rb {w wr : World} {n k m sl sc : Nat} {v : Int} {a : Addr} {ty : TypeId} (h : RB w wr n k v) (hm : k + m ≤ n) (h0 : 1 ≤ m) (hsl : m = min sl (n - k)) (hs : ∀ j, j < m → wr.cell? (a.add j) = some (.int .u8 v)) :
    ∃ wr', (Builtin.copy_ #[44, 44] ty #[tailV w.heap.size n k, .slice (some a) sl sc]).run Try.prog wr = .ok (.int .i64 m) wr' ∧ RB w wr' n (k + m) v := by
  obtain ⟨cur, g1, g2, g3, g4, g5⟩ := h
  have hr := run_copy_row Try.prog wr 44 44 ty 5 w.heap.size k (n - k) (n - k) a sl sc cur 5 (List.replicate m (.int .u8 v)) Try.underlying44 (by kernel_rfl) g1 (by rw [List.length_replicate]; exact hsl)
    (fun j x hj => by
      rw [List.getElem?_replicate] at hj
      split at hj
      · cases hj; exact hs j (by assumption)
      · cases hj) (by simp; omega) (fun x hx => by rw [List.eq_of_mem_replicate hx]; rfl)
  rw [List.length_replicate] at hr
  refine ⟨_, by unfold tailV; rw [if_neg (by omega)]; exact hr, _, setRow_heap wr _ cur _ 5 _ g1, ?_, ?_, ?_, hm⟩
  · simp; omega
  · intro j hj
    simp only [List.getElem?_toArray, List.getElem?_append, List.getElem?_take, List.length_take, List.length_append, List.length_replicate, List.getElem?_replicate, Array.length_toList, Array.getElem?_toList]
    have : min k cur.size = k := by omega
    rw [this]
    by_cases hj2 : j < k
    · rw [if_pos (by omega), if_pos hj2, if_pos hj2]; exact g3 j hj2
    · rw [if_pos (by omega), if_neg hj2, if_pos (by omega)]
  · exact ⟨g4.os, g4.tape, g4.output, by rw [setRow_size]; exact g4.size, fun b hb => by rw [setRow_other _ _ _ _ (by omega)]; exact g4.block b hb⟩
theorem rb_cell {w wr : World} {n k : Nat} {v : Int} (h : RB w wr n k v) {j : Nat} (hj : j < k) : wr.cell? ((⟨w.heap.size, 0, none⟩ : Addr).add j) = some (.int .u8 v) := by
  obtain ⟨cur, g1, g2, g3, g4, g5⟩ := h
  have : (⟨w.heap.size, 0, none⟩ : Addr).add j = ⟨w.heap.size, j, none⟩ := by unfold Addr.add; split <;> simp_all
  rw [this]
  simp only [World.cell?, g1]
  simpa using g3 j hj
theorem rb_start (w : World) (cs : Array Value) (n : Nat) (v : Int) (hle : n ≤ cs.size) : RB w ((w.alloc (.cells cs 5)).drewN 2) n 0 v := by
  have hh : ((w.alloc (.cells cs 5)).drewN 2).heap = w.heap.push (.cells cs 5) := rfl
  refine ⟨cs, ?_, hle, fun j hj => by omega, ⟨rfl, rfl, rfl, ?_, fun k hk => ?_⟩, Nat.zero_le _⟩
  · rw [hh]; simp
  · rw [hh]; simp
  · rw [hh, Array.getElem?_push, if_neg (by omega)]
theorem rb_drew {w wr : World} {n k : Nat} {v : Int} (h : RB w wr n k v) : RB w wr.drew n k v := by
  obtain ⟨cur, g1, g2, g3, g4, g5⟩ := h
  exact ⟨cur, g1, g2, g3, ⟨g4.os, g4.tape, g4.output, g4.size, g4.block⟩, g5⟩
theorem wrapN {k m : Nat} (h : k + m ≤ 9223372036854775807) : IntKind.i64.wrap ((k : Int) + (m : Int)) = ((k + m : Nat) : Int) := by
  rw [IntKind.wrap_i64]; omega
theorem step_copy {P : Program} {ops : Array Oper} {o : Oper} {a : Act} {w : World} {K : Act → World → Prop} {Q : Exit → Act → World → Prop} {E : Prop}
    (hg : o.guard = none) (d x : Operand) (dT sT : TypeId) (hop : o.op = Op.call { callee := Callee.builtin Builtin.copy, args := #[d, x], argTypes := #[dT, sT] })
    (v u : Value) (hd : a.eval d = v) (hx : a.eval x = u) {v' : Value} {w' : World} (hr : (Builtin.copy_ #[dT, sT] o.type #[v, u]).run P w = .ok v' w') (hK : K (a.put o.dst v') w') :
    if Region.wanted o (yielded ops a.tmps) = true then Oper.wp P o a w K Q else E := by
  have hw : Region.wanted o (yielded ops a.tmps) = true := by simp [Region.wanted, hg]
  rw [if_pos hw]
  unfold Oper.wp
  simp [execOp, hop, resolve, invoke, builtin, hd, hx, hr, Result.andThen]
  exact hK
set_option maxHeartbeats 8000000 in
set_option maxRecDepth 1000000 in
theorem rep_walk (b o c n : Nat) (v : Int) (w : World) (h1 : 1 ≤ n) (hn : n ≤ 1099511627776) (hb : w.cell? ⟨b, o, none⟩ = some (.int .u8 v)) :
    Calls Try.prog 77 #[.slice (some ⟨b, o, none⟩) 1 c, .int .i64 n] w fun e w' => e = .returned (.slice (some ⟨w.heap.size, 0, none⟩) n n) ∧ RB w w' n n v := by
  have hMul := mul_walk n w hn
  have f0 : ((n : Int) == 0) = false := beq_eq_false_iff_ne.2 (by omega)
  obtain ⟨cs, hrunM, hle, _⟩ := Lib.run_makeNoZero (P := Try.prog) w #[3] 44 5 Try.underlying44 n (by omega)
  have hcall : (callFunc 91 #[.int .i64 (n : Int)]).run Try.prog w = .ok (.value (.slice (some ⟨w.heap.size, 0, none⟩) n cs.size)) ((w.alloc (.cells cs 5)).drewN 2) := by
    rw [run_callFunc_extern Try.func91 (by kernel_rfl) (by kernel_rfl) (by kernel_rfl) (e := Extern.BytealgMakeNoZero.makeNoZero #[3] #[44]) (by kernel_rfl), hrunM]
    rfl
  clear hrunM
  have i1 : (n : Int) ≤ (cs.size : Int) := by omega
  have hlt : b < w.heap.size := World.block_lt_of_cell? _ _ hb
  have B0 : RB w ((w.alloc (.cells cs 5)).drewN 2) n 0 v := rb_start w cs n v hle
  obtain ⟨w1, hr1, B1⟩ := copy_rb (a := ⟨b, o, none⟩) (sc := c) (ty := 3) B0 (m := 1) (sl := 1) (by omega) (Nat.le_refl _) (by omega) (fun j hj => by
    obtain rfl : j = 0 := by omega
    obtain ⟨_, _, _, _, hbl, _⟩ := B0
    show World.cell? _ ⟨b, o, none⟩ = _
    rw [World.cell?_of_block (w := w) (a := ⟨b, o, none⟩) (hbl.block b hlt)]
    exact hb)
  have ht0 : tailV w.heap.size n 0 = .slice (some ⟨w.heap.size, 0, none⟩) n n := by unfold tailV; split <;> simp
  rw [ht0] at hr1
  rw [Nat.zero_add] at B1
  have hz5 : ∀ w, (Go.sizeOf 5).run Try.prog w = .ok 1 w := fun w => by kernel_rfl
  by_cases h8 : (8192 : Int) < n
  · go_enter Try.func77, Try.ntmps77
    go_wp2_with (first
      | (refine hMul.mono ?_; rintro e w' ⟨rfl, hw⟩; rw [hw])
      | (at_builtin; refine Lib.wpList_copy_run _ rfl _ _ 44 44 rfl _ _ rfl rfl hr1 ?_))
    go_loopg [10] (n - 1) (fun g s10 wr => ∃ k : Nat, 1 ≤ k ∧ k ≤ n ∧ g = n - k ∧ s10 = .int .i64 k ∧ RB w wr n k v)
    case atStart => exact ⟨1, by omega, by omega, rfl, rfl, B1⟩
    case round =>
      obtain ⟨k, hk1, hk2, rfl, rfl, HB⟩ := hrel
      by_cases hkn : k < n
      · have hsl : ∀ W, (Instr.slice 44 (.slice (some ⟨w.heap.size, 0, none⟩) n n) (some (.int .i64 (k : Int))) none none).run Try.prog W = .ok (tailV w.heap.size n k) W := fun W => Lib.run_slice_tailV W 44 5 Try.underlying44 hz5 _ n k (by omega)
        obtain ⟨wr', hr2, HB2⟩ := copy_rb (a := ⟨w.heap.size, 0, none⟩) (sl := min k 8192) (sc := n) (ty := 3) (rb_drew HB) (m := min (min k 8192) (n - k)) (by omega) (by omega) rfl (fun j hj => rb_cell (rb_drew HB) (by omega))
        go_wp2_with fail
        have hmin : min (k : Int) 8192 = ((min k 8192 : Nat) : Int) := by omega
        have q0 : (0 : Int) ≤ ((min k 8192 : Nat) : Int) := by omega
        have q1 : ((min k 8192 : Nat) : Int) ≤ (n : Int) := by omega
        rw [hmin]
        go_region_law (refine step_copy rfl (.tmp 70) (.tmp 73) 44 44 rfl (tailV w.heap.size n k) (.slice (some ⟨w.heap.size, 0, none⟩) (min k 8192) n) (by simp [Act.eval, Act.put]) (by simp [Act.eval, Act.put]) hr2 ?_)
        go_wp2_with fail
        go_roundg (n - (k + min (min k 8192) (n - k)))
        case measure => omega
        case rel => exact ⟨k + min (min k 8192) (n - k), by omega, by omega, rfl, by rw [wrapN (by omega), Nat.min_assoc], HB2⟩
      · obtain rfl : k = n := by omega
        go_wp2
        go_ret
        exact ⟨rfl, HB⟩
  · go_enter Try.func77, Try.ntmps77
    go_wp2_with (first
      | (refine hMul.mono ?_; rintro e w' ⟨rfl, hw⟩; rw [hw])
      | (at_builtin; refine Lib.wpList_copy_run _ rfl _ _ 44 44 rfl _ _ rfl rfl hr1 ?_))
    go_loopg [10] (n - 1) (fun g s10 wr => ∃ k : Nat, 1 ≤ k ∧ k ≤ n ∧ g = n - k ∧ s10 = .int .i64 k ∧ RB w wr n k v)
    case atStart => exact ⟨1, by omega, by omega, rfl, rfl, B1⟩
    case round =>
      obtain ⟨k, hk1, hk2, rfl, rfl, HB⟩ := hrel
      by_cases hkn : k < n
      · have hsl : ∀ W, (Instr.slice 44 (.slice (some ⟨w.heap.size, 0, none⟩) n n) (some (.int .i64 (k : Int))) none none).run Try.prog W = .ok (tailV w.heap.size n k) W := fun W => Lib.run_slice_tailV W 44 5 Try.underlying44 hz5 _ n k (by omega)
        obtain ⟨wr', hr2, HB2⟩ := copy_rb (a := ⟨w.heap.size, 0, none⟩) (sl := k) (sc := n) (ty := 3) (rb_drew HB) (m := min k (n - k)) (by omega) (by omega) rfl (fun j hj => rb_cell (rb_drew HB) (by omega))
        go_wp2_with fail
        have hmin : min (k : Int) (n : Int) = (k : Int) := by omega
        have q0 : (0 : Int) ≤ (k : Int) := by omega
        have q1 : (k : Int) ≤ (n : Int) := by omega
        rw [hmin]
        go_region_law (refine step_copy rfl (.tmp 70) (.tmp 73) 44 44 rfl (tailV w.heap.size n k) (.slice (some ⟨w.heap.size, 0, none⟩) k n) (by simp [Act.eval, Act.put]) (by simp [Act.eval, Act.put]) hr2 ?_)
        go_wp2_with fail
        go_roundg (n - (k + min k (n - k)))
        case measure => omega
        case rel => exact ⟨k + min k (n - k), by omega, by omega, rfl, by rw [wrapN (by omega)], HB2⟩
      · obtain rfl : k = n := by omega
        go_wp2
        go_ret
        exact ⟨rfl, HB⟩
end Go.Proofs.Ytbjgaejmkhjbaaa
set_option linter.unusedVariables false
namespace Go.Proofs.Ytbjgaejmkhjbaaa
open Go.Sx Go.RowKit
/-- bytes.Repeat of one byte. -/
def g77 : Con := fun args_ E_ nn_ => match args_ with
  | [.c (.n b), .c (.v (.int .i64 count))] => (match rowOf E_ b with
    | some (b_n, b_s, b_f) => some (.e (isRow eU8 b_n b_s b_f ∧ b_n = 1 ∧ 1 ≤ count ∧ count ≤ 1099511627776) (.o (.c (.n nn_))) [(nn_, .own (List.replicate count.toNat ((decL eU8 b_n b_f).getD 0 eU8.dflt)).length 1 (rowF eU8 (List.replicate count.toNat ((decL eU8 b_n b_f).getD 0 eU8.dflt))) 5)] (nn_ + 1))
    | none => none)
  | _ => none
theorem c77 : COk Try.prog 77 g77 := by
  intro args E n hargs hE
  unfold g77
  split
  · rename_i b count
    split
    · rename_i b_n b_s b_f hb
      rintro ⟨hr, h1, h2, h3⟩
      subst h1
      have hfresh : ∀ i x, E i = some x → i ≠ n ∧ x.sc (fun i => i ≠ n) := fun i x hi => ⟨Nat.ne_of_lt (hE i x hi).1, Ent.sc_mono (fun j hj => Nat.ne_of_lt hj) (hE i x hi).2⟩
      refine ⟨by omega, fun m hm1 hm2 hm3 => ⟨hm3 n (Nat.le_refl _) (by omega), fun i e hi => ?_⟩, fun i e hi => ?_, fun base M r w hh => .inl ⟨by kernel_rfl, ?_⟩⟩
      · obtain ⟨rfl, rfl⟩ := lk_one hi
        exact ⟨hm3 _ (Nat.le_refl _) (by omega), rowF_sc _ _⟩
      · obtain ⟨rfl, rfl⟩ := lk_one hi
        exact .inr ⟨Nat.le_refl _, by omega⟩
      · obtain ⟨k, rfl⟩ : ∃ k : Nat, count = k := ⟨count.toNat, by omega⟩
        obtain ⟨ad, cap, hv, hle, hcap⟩ := row_val hh hb
        obtain ⟨bb, o, rfl, _⟩ := hcap (by omega)
        have hs1 : b_s = 1 := by rcases hr.1 with h | h; omega; exact h
        subst hs1
        have hcell := row_cell hh hb (e := 0) (j := 0) (by omega) (by omega)
        rw [hr.2 0 0 (by omega) (by decide), eU8_0, hv] at hcell
        have hargs2 : (List.map (S1.den r) [S1.c (.n b), .c (.v (.int .i64 (k : Int)))]).toArray = #[.slice (some ⟨bb, o, none⟩) 1 cap, .int .i64 (k : Int)] := by
          simp only [List.map_cons, List.map_nil, S1.den, SC.den, hv]
        rw [hargs2]
        generalize (decL eU8 1 b_f).getD 0 eU8.dflt = v at *
        refine (rep_walk bb o cap k v w (by omega) (by omega) ?_).mono ?_
        · simpa [SC.den, addrOf] using hcell
        · rintro e w' ⟨rfl, cur, g1, g2, g3, g4, g5⟩
          have hk : 0 < k := by omega
          refine ⟨more r n (.slice (some ⟨w.heap.size, 0, none⟩) k k), fun i hi => more_ne i (Nat.ne_of_lt hi), by simp only [SV.den, S1.den, SC.den, more_new], ?_⟩
          refine hh.mkB hfresh rfl g4 (fun b' hb' => ?_) ?_
          · rw [blkOf_slice hk] at hb'; cases hb'
            exact ⟨Nat.le_refl _, (Array.getElem?_eq_some_iff.1 g1).1⟩
          · simp only [Int.toNat_natCast, List.length_replicate]
            refine ⟨by omega, .inl ⟨w.heap.size, 0, k, cur, rfl, g1, Nat.le_refl _, hk, by omega, fun e j he hj => ?_⟩⟩
            obtain rfl : j = 0 := by omega
            rw [eU8_0]
            have : (List.replicate k v).getD e eU8.dflt = v := by rw [List.getD_eq_getElem?_getD, List.getElem?_replicate, if_pos he]; rfl
            rw [this]
            simpa [SC.den] using g3 e he
    · trivial
  · trivial
end Go.Proofs.Ytbjgaejmkhjbaaa
