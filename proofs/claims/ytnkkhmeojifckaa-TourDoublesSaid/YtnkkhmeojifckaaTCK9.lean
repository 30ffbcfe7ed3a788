/- A part of the proof of a statement about this seat: how a function is stepped through, and plain laws. No conditions. -/
import Derived.Test.YtnkkhmeojifckaaRows
import Derived.Test.YtnkkhmeojifckaaTCSz4
import Derived.Test.YtnkkhmeojifckaaTCK4
import Derived.Test.YtnkkhmeojifckaaTCK5
import Derived.Test.YtnkkhmeojifckaaTCK8
import Derived.KernelRfl
set_option linter.unusedVariables false
set_option linter.unusedSimpArgs false
set_option maxRecDepth 20000
namespace Go.Proofs.Ytnkkhmeojifckaa
open Go.Sx
def dblL (W H : Int) (L : List Int) : List Int := (List.range (4 * (W * H)).toNat).map fun (i : Nat) => L.getD (((i : Int) / (2 * W)) / 2 * W + ((i : Int) % (2 * W)) / 2).toNat eU8.dflt
def hC (u : CC) : CC := ⟨u.X / 2, u.Y / 2⟩
def conn (W H : Int) (L : List Int) (a u : CC) : Prop := ∀ S : CC → Prop, S a → clS W H L S → S u
section
variable {W H : Int} {L : List Int}
theorem dbl_len (W H : Int) (L : List Int) : (dblL W H L).length = (4 * (W * H)).toNat := by simp [dblL]
theorem dbl_get {i : Nat} (h : i < (4 * (W * H)).toNat) : (dblL W H L).getD i eU8.dflt = L.getD (((i : Int) / (2 * W)) / 2 * W + ((i : Int) % (2 * W)) / 2).toNat eU8.dflt := by
  unfold dblL
  rw [List.getD_eq_getElem?_getD, List.getElem?_map, List.getElem?_range h]; rfl
theorem dbl_plan (hp : planB W H L = true) (hW : W ≤ 16) (hH : H ≤ 16) : planB (2 * W) (2 * H) (dblL W H L) = true := by
  have pp := planB_at hp
  have hm := mulWH pp.1 pp.2.1
  simp only [planB, Bool.and_eq_true, decide_eq_true_eq]
  refine ⟨⟨by omega, by omega, ?_⟩, fun x hx => ?_⟩
  · rw [dbl_len, Int.toNat_of_nonneg (by omega)]
    rw [Int.mul_assoc 2 W (2 * H), ← Int.mul_assoc W 2 H, Int.mul_comm W 2, Int.mul_assoc 2 W H]; omega
  · unfold dblL at hx
    rw [List.mem_map] at hx
    obtain ⟨i, _, rfl⟩ := hx
    generalize (((i : Int) / (2 * W)) / 2 * W + ((i : Int) % (2 * W)) / 2).toNat = j
    by_cases g : j < L.length
    · exact pp.2.2.2.2 j g
    · rw [List.getD_eq_getElem?_getD, List.getElem?_eq_none (by omega)]; decide
theorem dbl_fr (hp : planB W H L = true) (hW : W ≤ 16) (hH : H ≤ 16) (x y : Int) : frB (2 * W) (2 * H) (dblL W H L) x y = frB W H L (x / 2) (y / 2) := by
  have pp := planB_at hp
  have hp2 := dbl_plan hp hW hH
  by_cases h : (0 ≤ x ∧ x < 2 * W) ∧ 0 ≤ y ∧ y < 2 * H
  · have h2 : (0 ≤ x / 2 ∧ x / 2 < W) ∧ 0 ≤ y / 2 ∧ y / 2 < H := by omega
    rw [fr_at hp2 h, fr_at hp h2]
    have b := ix_bd (W := 2 * W) (H := 2 * H) (c := ⟨x, y⟩) h
    simp only at b
    have e4 : 2 * W * (2 * H) = 4 * (W * H) := by
      rw [Int.mul_assoc 2 W (2 * H), ← Int.mul_assoc W 2 H, Int.mul_comm W 2, Int.mul_assoc 2 W H]; omega
    rw [e4] at b
    rw [dbl_get (by omega), Int.toNat_of_nonneg b.1]
    have e1 : (y * (2 * W) + x) / (2 * W) = y := by
      rw [Int.add_comm, Int.add_mul_ediv_right _ _ (by omega), Int.ediv_eq_zero_of_lt h.1.1 h.1.2]; omega
    have e2 : (y * (2 * W) + x) % (2 * W) = x := by
      rw [Int.add_comm, Int.add_mul_emod_self_right, Int.emod_eq_of_lt h.1.1 h.1.2]
    rw [e1, e2]
  · rw [frB_out h, frB_out (by omega)]
theorem dbl_blk (hp : planB W H L = true) (hW : W ≤ 16) (hH : H ≤ 16) : blkB (2 * W) (2 * H) (dblL W H L) = true := by
  refine decide_eq_true ⟨⟨by omega, by omega⟩, fun y _ x _ => ?_⟩
  rw [dbl_fr hp hW hH, dbl_fr hp hW hH]
  congr 1 <;> omega
def quad (c : CC) : List CC := [⟨2 * c.X, 2 * c.Y⟩, ⟨2 * c.X + 1, 2 * c.Y⟩, ⟨2 * c.X, 2 * c.Y + 1⟩, ⟨2 * c.X + 1, 2 * c.Y + 1⟩]
theorem quad_mem {c u : CC} : u ∈ quad c ↔ hC u = c := by
  simp only [quad, List.mem_cons, List.not_mem_nil, or_false, cceq, hC]
  omega
theorem quad_nd (c : CC) : (quad c).Nodup := by
  simp only [quad, List.nodup_cons, List.mem_cons, List.not_mem_nil, or_false, cceq, not_or, List.nodup_nil, and_true, not_false_eq_true]
  omega
theorem flat_mem (l : List CC) (u : CC) : u ∈ l.flatMap quad ↔ hC u ∈ l := by
  rw [List.mem_flatMap]
  constructor
  · rintro ⟨c, hc, hu⟩; rw [quad_mem] at hu; rwa [hu]
  · exact fun h => ⟨_, h, quad_mem.2 rfl⟩
theorem flat_nd : ∀ {l : List CC}, l.Nodup → (l.flatMap quad).Nodup ∧ (l.flatMap quad).length = 4 * l.length
  | [], _ => ⟨by simp, rfl⟩
  | c :: l, h => by
    rw [List.nodup_cons] at h
    obtain ⟨h1, h2⟩ := flat_nd h.2
    rw [List.flatMap_cons]
    refine ⟨?_, by rw [List.length_append, h2]; simp [quad]; omega⟩
    rw [List.nodup_append]
    refine ⟨quad_nd c, h1, fun u hu v hv e => ?_⟩
    subst e
    rw [quad_mem] at hu
    rw [flat_mem, hu] at hv
    exact h.1 hv
theorem dbl_cnt (hp : planB W H L = true) (hW : W ≤ 16) (hH : H ≤ 16) : cnt8 (dblL W H L) 1 = 4 * cnt8 L 1 := by
  have hp2 := dbl_plan hp hW hH
  rw [cnt_frL hp, cnt_frL hp2]
  obtain ⟨h1, h2⟩ := flat_nd (frL_nd hp)
  have := nd_len (frL_nd hp2) h1 fun u => by rw [frL_mem hp2, flat_mem, frL_mem hp, dbl_fr hp hW hH]; rfl
  rw [this, h2]; omega
theorem conn_K {a u : CC} (hp : planB W H L = true) (hf : frB W H L a.X a.Y = true) : u ∈ (tEnd W H L a).K ↔ conn W H L a u := by
  obtain ⟨t, ht⟩ := tEnd_inv hp hf
  have hT : ∀ x, x ∉ (tEnd W H L a).T := fun x hx => by
    have := List.length_pos_of_mem hx
    omega
  constructor
  · exact fun h S h0 hS => t.mn S h0 hS u h
  · exact fun h => h (fun u => u ∈ (tEnd W H L a).K) t.st fun x hx d hd hfd => t.cl x hx (hT x) d hd hfd
theorem conn_symm {a u : CC} (hf : frB W H L a.X a.Y = true) (h : conn W H L a u) : conn W H L u a := by
  have := h (fun x => conn W H L x a ∧ frB W H L x.X x.Y = true) ⟨fun S h0 _ => h0, hf⟩ fun x hx d hd hfd => ⟨fun S h0 hS => hx.1 S (hS d h0 x (nbr_adj.2 (by rw [adj_symm]; exact nbr_adj.1 hd)) hx.2) hS, hfd⟩
  exact this.1
theorem conn_trans {a b c : CC} (h : conn W H L a b) (g : conn W H L b c) : conn W H L a c := fun S h0 hS => g S (h S h0 hS) hS
theorem nbr_h {c d : CC} (h : d ∈ nbr c) : hC d = hC c ∨ hC d ∈ nbr (hC c) := by
  rw [nbr_adj] at h ⊢
  unfold adjB at h ⊢
  rw [decide_eq_true_eq] at h ⊢
  rw [cceq]
  simp only [hC]
  omega
theorem conn_down (hp : planB W H L = true) (hW : W ≤ 16) (hH : H ≤ 16) {a u : CC} (h : conn (2 * W) (2 * H) (dblL W H L) a u) : conn W H L (hC a) (hC u) := by
  intro S h0 hS
  refine h (fun x => S (hC x)) h0 fun c hc d hd hf => ?_
  rcases nbr_h hd with e | e
  · simp only [e]; exact hc
  · refine hS _ hc _ e ?_
    rw [dbl_fr hp hW hH] at hf; exact hf
theorem quad_all {S : CC → Prop} {v w : CC} (hS : clS (2 * W) (2 * H) (dblL W H L) S) (hf : ∀ u, hC u = v → frB (2 * W) (2 * H) (dblL W H L) u.X u.Y = true) (hw : hC w = v) (h : S w) : ∀ u, hC u = v → S u := by
  have step : ∀ x y : CC, hC y = v → adjB x y = true → S x → S y := fun x y hy ha hx => hS x hx y (nbr_adj.2 ha) (hf y hy)
  have m : ∀ u, hC u = v → u = ⟨2 * v.X, 2 * v.Y⟩ ∨ u = ⟨2 * v.X + 1, 2 * v.Y⟩ ∨ u = ⟨2 * v.X, 2 * v.Y + 1⟩ ∨ u = ⟨2 * v.X + 1, 2 * v.Y + 1⟩ := fun u hu => by
    have := quad_mem.2 hu
    simpa [quad] using this
  have i0 : hC ⟨2 * v.X, 2 * v.Y⟩ = v := quad_mem.1 (by simp [quad])
  have i1 : hC ⟨2 * v.X + 1, 2 * v.Y⟩ = v := quad_mem.1 (by simp [quad])
  have i2 : hC ⟨2 * v.X, 2 * v.Y + 1⟩ = v := quad_mem.1 (by simp [quad])
  have i3 : hC ⟨2 * v.X + 1, 2 * v.Y + 1⟩ = v := quad_mem.1 (by simp [quad])
  have t1 := step ⟨2 * v.X, 2 * v.Y⟩ ⟨2 * v.X + 1, 2 * v.Y⟩ i1 (adj_mk (by simp only; omega))
  have t2 := step ⟨2 * v.X + 1, 2 * v.Y⟩ ⟨2 * v.X + 1, 2 * v.Y + 1⟩ i3 (adj_mk (by simp only; omega))
  have t3 := step ⟨2 * v.X + 1, 2 * v.Y + 1⟩ ⟨2 * v.X, 2 * v.Y + 1⟩ i2 (adj_mk (by simp only; omega))
  have t4 := step ⟨2 * v.X, 2 * v.Y + 1⟩ ⟨2 * v.X, 2 * v.Y⟩ i0 (adj_mk (by simp only; omega))
  have s0 : S ⟨2 * v.X, 2 * v.Y⟩ := by
    rcases m w hw with rfl | rfl | rfl | rfl
    · exact h
    · exact t4 (t3 (t2 h))
    · exact t4 h
    · exact t4 (t3 h)
  intro u hu
  rcases m u hu with rfl | rfl | rfl | rfl
  · exact s0
  · exact t1 s0
  · exact t3 (t2 (t1 s0))
  · exact t2 (t1 s0)
theorem conn_up (hp : planB W H L = true) (hW : W ≤ 16) (hH : H ≤ 16) {b v : CC} (hf : frB W H L (hC b).X (hC b).Y = true) (h : conn W H L (hC b) v) : ∀ u, hC u = v → conn (2 * W) (2 * H) (dblL W H L) b u := by
  intro u hu S h0 hS
  have fq : ∀ v, frB W H L v.X v.Y = true → ∀ u, hC u = v → frB (2 * W) (2 * H) (dblL W H L) u.X u.Y = true := fun v hv u hu => by
    rw [dbl_fr hp hW hH]; subst hu; exact hv
  refine (h (fun v => frB W H L v.X v.Y = true ∧ ∀ u, hC u = v → S u) ⟨hf, quad_all hS (fq _ hf) rfl h0⟩ fun c hc d hd hfd => ⟨hfd, ?_⟩).2 u hu
  simp only [nbr, List.mem_cons, List.not_mem_nil, or_false] at hd
  have go : ∀ x y : CC, hC x = c → hC y = d → adjB x y = true → ∀ u, hC u = d → S u := fun x y hx hy ha => quad_all hS (fq d hfd) hy (hS x (hc.2 x hx) y (nbr_adj.2 ha) (fq d hfd y hy))
  rcases hd with e | e | e | e
  · exact go ⟨2 * c.X + 1, 2 * c.Y⟩ ⟨2 * c.X + 2, 2 * c.Y⟩ (quad_mem.1 (by simp [quad])) (by rw [e]; exact cc_ext (by simp only [hC]; omega) (by simp only [hC]; omega)) (adj_mk (by simp only; omega))
  · exact go ⟨2 * c.X, 2 * c.Y + 1⟩ ⟨2 * c.X, 2 * c.Y + 2⟩ (quad_mem.1 (by simp [quad])) (by rw [e]; exact cc_ext (by simp only [hC]; omega) (by simp only [hC]; omega)) (adj_mk (by simp only; omega))
  · exact go ⟨2 * c.X, 2 * c.Y⟩ ⟨2 * c.X - 1, 2 * c.Y⟩ (quad_mem.1 (by simp [quad])) (by rw [e]; exact cc_ext (by simp only [hC]; omega) (by simp only [hC]; omega)) (adj_mk (by simp only; omega))
  · exact go ⟨2 * c.X, 2 * c.Y⟩ ⟨2 * c.X, 2 * c.Y - 1⟩ (quad_mem.1 (by simp [quad])) (by rw [e]; exact cc_ext (by simp only [hC]; omega) (by simp only [hC]; omega)) (adj_mk (by simp only; omega))
theorem dbl_all (hp : planB W H L = true) (hW : W ≤ 16) (hH : H ≤ 16) {a b : CC} (ha : frB W H L a.X a.Y = true) (hb : frB (2 * W) (2 * H) (dblL W H L) b.X b.Y = true) :
    ((regL (2 * W) (2 * H) (dblL W H L) b.X b.Y).length : Int) = cnt8 (dblL W H L) 1 ↔ ((regL W H L a.X a.Y).length : Int) = cnt8 L 1 := by
  have hp2 := dbl_plan hp hW hH
  rw [all_iff hp ha, all_iff hp2 hb]
  have hb' : frB W H L (hC b).X (hC b).Y = true := by rw [dbl_fr hp hW hH] at hb; exact hb
  constructor
  · intro h u hu
    rw [conn_K hp ha]
    have i0 : ∀ v : CC, hC ⟨2 * v.X, 2 * v.Y⟩ = v := fun v => quad_mem.1 (by simp [quad])
    have f0 : ∀ v : CC, frB W H L v.X v.Y = true → frB (2 * W) (2 * H) (dblL W H L) (2 * v.X) (2 * v.Y) = true := fun v hv => by
      rw [dbl_fr hp hW hH]
      have e := i0 v
      simp only [hC] at e
      rw [show 2 * v.X / 2 = v.X by omega, show 2 * v.Y / 2 = v.Y by omega]; exact hv
    have c1 := (conn_K hp2 hb).1 (h ⟨2 * a.X, 2 * a.Y⟩ (f0 a ha))
    have c2 := (conn_K hp2 hb).1 (h ⟨2 * u.X, 2 * u.Y⟩ (f0 u hu))
    have := conn_down hp hW hH (conn_trans (conn_symm hb c1) c2)
    rwa [i0, i0] at this
  · intro h u hu
    rw [conn_K hp2 hb]
    have hu' : frB W H L (hC u).X (hC u).Y = true := by rw [dbl_fr hp hW hH] at hu; exact hu
    have c1 := (conn_K hp ha).1 (h _ hb')
    have c2 := (conn_K hp ha).1 (h _ hu')
    exact conn_up hp hW hH hb' (conn_trans (conn_symm ha c1) c2) u rfl
theorem dbl_E (hp : planB W H L = true) (hW : W ≤ 16) (hH : H ≤ 16) {a : CC} (ha : frB W H L a.X a.Y = true) :
    lopE (2 * W) (2 * H) (dblL W H L) = if ((regL W H L a.X a.Y).length : Int) = cnt8 L 1 then 0 else 9 := by
  have hp2 := dbl_plan hp hW hH
  have hb2 := dbl_blk hp hW hH
  have hpos : 0 < (frL W L).length := List.length_pos_of_mem ((frL_mem hp a).2 ha)
  have hc0 : cnt8 (dblL W H L) 1 ≠ 0 := by rw [dbl_cnt hp hW hH, cnt_frL hp]; omega
  have hda := dbl_all hp hW hH ha (fst_free hp2 hc0)
  by_cases g : ((regL W H L a.X a.Y).length : Int) = cnt8 L 1
  · rw [if_pos g, lop0 hp2 hb2 hc0 (hda.2 g)]
  · rw [if_neg g, lop9' hp2 hb2 hc0 (fun h => g (hda.1 h))]
end
theorem dbl_len2 {W H : Int} {L : List Int} (hW : 0 ≤ W) (hH : 0 ≤ H) : (dblL W H L).length = (2 * H).toNat * (2 * W).toNat := by
  rw [dbl_len]
  apply Int.ofNat.inj
  show ((4 * (W * H)).toNat : Int) = (((2 * H).toNat * (2 * W).toNat : Nat) : Int)
  rw [Int.toNat_of_nonneg (by have := Int.mul_nonneg hW hH; omega), Int.natCast_mul, Int.toNat_of_nonneg (by omega), Int.toNat_of_nonneg (by omega)]
  rw [Int.mul_assoc 2 H (2 * W), ← Int.mul_assoc H 2 W, Int.mul_comm H 2, Int.mul_assoc 2 H W, Int.mul_comm H W]; omega
theorem dbl_push {W H : Int} {L : List Int} {j x : Nat} {b : Bnd} (hW : 1 ≤ W) (hH : 1 ≤ H) (hj : (j : Int) < 2 * H) (hx : (x : Int) < 2 * W) :
    (List.take (j * (2 * W).toNat + x) (dblL W H L)).length + 1 = (List.take (j * (2 * W).toNat + (x + 1)) (dblL W H L)).length ∧
    rowEq ((List.take (j * (2 * W).toNat + x) (dblL W H L)).length + 1) 1 (catF (List.take (j * (2 * W).toNat + x) (dblL W H L)).length (rowF eU8 (List.take (j * (2 * W).toNat + x) (dblL W H L))) (litF [SC.v (Value.int IntKind.u8 (L.getD ((j : Int) / 2 * W + (x : Int) / 2).toNat eU8.dflt))] 1)) (rowF eU8 (List.take (j * (2 * W).toNat + (x + 1)) (dblL W H L))) (SC.sub b) := by
  have hk : ((j * (2 * W).toNat + x : Nat) : Int) = j * (2 * W) + x := by
    rw [Int.natCast_add, Int.natCast_mul, Int.toNat_of_nonneg (by omega)]
  have hb := ix_bd (W := 2 * W) (H := 2 * H) (c := ⟨x, j⟩) ⟨⟨by simp only; omega, hx⟩, by simp only; omega, hj⟩
  simp only at hb
  have e4 : 2 * W * (2 * H) = 4 * (W * H) := by
    rw [Int.mul_assoc 2 W (2 * H), ← Int.mul_assoc W 2 H, Int.mul_comm W 2, Int.mul_assoc 2 W H]; omega
  rw [e4] at hb
  have hlt : j * (2 * W).toNat + x < (4 * (W * H)).toNat := by omega
  have e1 : ((j : Int) * (2 * W) + x) / (2 * W) = j := by
    rw [Int.add_comm, Int.add_mul_ediv_right _ _ (by omega), Int.ediv_eq_zero_of_lt (by omega) hx]; omega
  have e2 : ((j : Int) * (2 * W) + x) % (2 * W) = x := by
    rw [Int.add_comm, Int.add_mul_emod_self_right, Int.emod_eq_of_lt (by omega) hx]
  have et : List.take (j * (2 * W).toNat + (x + 1)) (dblL W H L) = List.take (j * (2 * W).toNat + x) (dblL W H L) ++ [L.getD ((j : Int) / 2 * W + (x : Int) / 2).toNat eU8.dflt] := by
    have hl : j * (2 * W).toNat + x < (dblL W H L).length := by rw [dbl_len]; exact hlt
    rw [← Nat.add_assoc, List.take_succ_eq_append_getElem hl]
    congr 2
    have g := dbl_get (L := L) hlt
    rw [hk, e1, e2, List.getD_eq_getElem?_getD, List.getElem?_eq_getElem hl] at g
    exact g
  rw [et]
  exact push_eq (E := eU8) (x := L.getD ((j : Int) / 2 * W + (x : Int) / 2).toNat eU8.dflt) rfl
def x26L0 : XC := (.seq (.seq (.reg false [O1 19 .mv 5, O1 20 (.fld 0) 3, O1 21 .load1 20, O2 22 (.bin .lss) 19 21]) (.cond (.t 22) .skip (.exit 2))) (.seq (.block 3 (.regD [O1 25 (.fld 2) 3, O1 26 .load1 25, O1 27 (.fld 2) 1, O1 28 .load1 27, O1 29 .mv 4, K2 30 (.bin .quo) 29 (iV 2), O1 31 (.fld 0) 1, O1 32 .load1 31, O2 33 (.bin .mul) 30 32, O1 34 .mv 5, K2 35 (.bin .quo) 34 (iV 2), O2 36 (.bin .add) 33 35, O2 37 (.ixS 1) 28 36, O1 38 .load1 37, ⟨(some 39), (.slit 5 1 1 [(.int .u8 0)] [(0, 1)]), [(.t 38)], none⟩, O2 40 (.app 5 1 1) 26 39, O1 41 (.fld 2) 3, ⟨none, (.store 1), [(.t 41), (.t 40)], none⟩] [[], [0], [], [2], [], [4], [], [6], [5, 4, 7, 6], [], [9], [8, 5, 4, 7, 6, 10, 9], [3, 2, 11, 8, 5, 4, 7, 6, 10, 9], [12, 3, 2, 11, 8, 5, 4, 7, 6, 10, 9], [13, 12, 3, 2, 11, 8, 5, 4, 7, 6, 10, 9], [1, 0, 14, 13, 12, 3, 2, 11, 8, 5, 4, 7, 6, 10, 9], [0, 1, 2, 3, 4, 5, 6, 7, 8, 9, 10, 11, 12, 13, 14, 15], [16, 0, 1, 2, 3, 4, 5, 6, 7, 8, 9, 10, 11, 12, 13, 14, 15]])) (.reg false [O1 23 .mv 5, K2 24 (.bin .add) 23 (iV 1), O1 5 .mv 24])))
def x26L1 : XC := (.seq (.seq (.reg false [O1 13 .mv 4, O1 14 (.fld 1) 3, O1 15 .load1 14, O2 16 (.bin .lss) 13 15]) (.cond (.t 16) .skip (.exit 0))) (.seq (.block 1 (.seq (.reg false [K1 5 .mv (iV 0)]) (.block 2 (.loop x26L0)))) (.reg false [O1 17 .mv 4, K2 18 (.bin .add) 17 (iV 1), O1 4 .mv 18])))
def x26 : XFn := ⟨43, (.seq (.reg false [O1 1 (.box 24) 0, ⟨(some 2), (.alloc 24 [(iV 0), (iV 0), (.slice none 0 0)]), [], none⟩]) (.seq (.reg false [O1 6 (.fld 0) 1, O1 7 .load1 6, ⟨(some 8), (.bin .mul), [(.k (iV 2)), (.t 7)], none⟩, O1 9 (.fld 1) 1, O1 10 .load1 9, ⟨(some 11), (.bin .mul), [(.k (iV 2)), (.t 10)], none⟩, ⟨(some 12), (.build [(iV 0), (iV 0), (.slice none 0 0)] [(0, 1), (1, 1)]), [(.t 8), (.t 11)], none⟩, ⟨(some 3), (.alloc 24 [(iV 0), (iV 0), (.slice none 0 0)]), [], none⟩, ⟨none, (.store 3), [(.t 3), (.t 12)], none⟩]) (.seq (.seq (.reg false [K1 4 .mv (iV 0)]) (.block 0 (.loop x26L1))) (.seq (.reg false [O1 42 (.loadN 3) 3, ⟨none, (.store 3), [(.t 2), (.t 42)], none⟩]) .ret)))), [(.bn 2 3)]⟩
theorem x26_ok : xfn Try.prog Try.f26 = some x26.er := by kernel_rfl
def x6 : XFn := ⟨114, (.seq (.reg false [O1 2 (.box 24) 0, O1 3 (.box 26) 1, K1 4 .mv (.bool false)]) (.seq (.seq (.reg false [⟨(some 12), (.call 11), [], none⟩, O1 13 (.un .not) 12, O1 14 .mv 13, G1 15 (.loadN 3) 2 14 false, G1 16 (.call 12) 15 14 false, G1 17 (.un .not) 16 14 false, ⟨(some 18), .pick, [(.t 14), (.k (.bool true)), (.t 17)], none⟩]) (.cond (.t 18) (.seq (.reg false [⟨(some 19), (.call 11), [], none⟩, O1 4 .mv 19]) .ret) .skip)) (.seq (.seq (.reg false [O1 20 (.loadN 3) 2, O1 21 (.call 14) 20, O1 22 (.un .not) 21, O1 23 .mv 22, G1 24 (.fld 0) 2 23 false, G1 25 .load1 24 23 false, GK 26 (.bin .gtr) 25 (iV 16) 23 false, ⟨(some 27), .pick, [(.t 23), (.k (.bool true)), (.t 26)], none⟩, O1 28 .mv 27, G1 29 (.fld 1) 2 28 false, G1 30 .load1 29 28 false, GK 31 (.bin .gtr) 30 (iV 16) 28 false, ⟨(some 32), .pick, [(.t 28), (.k (.bool true)), (.t 31)], none⟩, O1 33 .mv 32, G1 34 (.loadN 3) 2 33 false, G1 35 (.loadN 2) 3 33 false, G2 36 (.call 15) 34 35 33 false, GK 37 (.bin .neq) 36 (.int .u8 1) 33 false, ⟨(some 38), .pick, [(.t 33), (.k (.bool true)), (.t 37)], none⟩]) (.cond (.t 38) (.seq (.reg false [O1 40 (.loadN 3) 2, O1 41 (.loadN 2) 3, O2 42 (.call 13) 40 41, O1 39 .mv 42, O1 43 (.ext 0) 39, O1 44 (.ext 1) 39, O1 5 .mv 43, O1 6 .mv 44]) (.seq (.reg false [O1 45 .mv 6, K2 46 (.bin .neq) 45 (iV 0), O1 47 .mv 46, G1 48 (.fld 0) 2 47 false, G1 49 .load1 48 47 false, GK 50 (.bin .gtr) 49 (iV 16) 47 false, ⟨(some 51), .pick, [(.t 47), (.k (.bool true)), (.t 50)], none⟩, O1 52 .mv 51, G1 53 (.fld 1) 2 52 false, G1 54 .load1 53 52 false, GK 55 (.bin .gtr) 54 (iV 16) 52 false, ⟨(some 56), .pick, [(.t 52), (.k (.bool true)), (.t 55)], none⟩, O1 4 .mv 56]) .ret)) .skip)) (.seq (.reg false [O1 58 (.loadN 3) 2, O1 59 (.call 26) 58, O1 60 (.call 20) 59, O1 57 .mv 60, O1 61 (.ext 0) 57, O1 62 (.ext 1) 57, O1 7 .mv 61, O1 8 .mv 62]) (.seq (.reg false [O1 64 (.loadN 3) 2, O1 65 (.call 26) 64, O1 66 .mv 7, O2 67 (.call 27) 65 66, O1 63 .mv 67, O1 68 (.ext 0) 63, O1 69 (.ext 1) 63, O1 9 .mv 68, O1 10 .mv 69]) (.seq (.regD [O1 70 (.loadN 3) 2, O1 71 (.loadN 2) 3, O2 72 (.call 16) 70 71, O1 73 (.call 17) 72, O1 74 (.loadN 3) 2, O1 75 (.call 24) 74, O2 76 (.bin .eql) 73 75, O1 11 .mv 76] [[], [], [0, 1], [2, 0, 1], [], [4, 3, 2, 0, 1], [3, 2, 0, 1, 5, 4], [6, 3, 2, 0, 1, 5, 4]]) (.seq (.reg false [O1 77 .mv 8, K2 78 (.bin .eql) 77 (iV 0), O1 79 .mv 11, O2 80 (.binb .eql) 78 79, O1 81 .mv 80, G1 82 .mv 11 81 true, G1 83 (.un .not) 82 81 true, G1 84 .mv 83 81 true, G1 85 .mv 10 84 false, GK 86 (.bin .eql) 85 (iV 0) 84 false, G1 87 .mv 86 84 false, G1 88 .mv 9 87 true, G1 89 (.loadN 3) 2 87 true, G1 90 (.call 24) 89 87 true, ⟨(some 91), (.bin .mul), [(.k (iV 4)), (.t 90)], (some (87, true))⟩, G2 92 (.bin .eql) 88 91 87 true, ⟨(some 93), .pick, [(.t 87), (.t 92), (.k (.bool false))], (some (84, false))⟩, G1 94 .mv 93 84 false, G1 95 .mv 7 94 true, G1 96 .lenS 95 94 true, G1 97 .mv 9 94 true, G2 98 (.bin .eql) 96 97 94 true, ⟨(some 99), .pick, [(.t 94), (.t 98), (.k (.bool false))], (some (84, false))⟩, ⟨(some 100), .pick, [(.t 84), (.k (.bool true)), (.t 99)], (some (81, true))⟩, ⟨(some 101), .pick, [(.t 81), (.t 100), (.k (.bool false))], none⟩, O1 102 .mv 101, G1 103 .mv 11 102 true, G1 104 .mv 103 102 true, G1 105 .mv 8 104 false, GK 106 (.bin .eql) 105 (iV 9) 104 false, G1 107 .mv 106 104 false, G1 108 .mv 7 107 true, G1 109 .lenS 108 107 true, GK 110 (.bin .eql) 109 (iV 0) 107 true, ⟨(some 111), .pick, [(.t 107), (.t 110), (.k (.bool false))], (some (104, false))⟩, ⟨(some 112), .pick, [(.t 104), (.k (.bool true)), (.t 111)], (some (102, true))⟩, ⟨(some 113), .pick, [(.t 102), (.t 112), (.k (.bool false))], none⟩, O1 4 .mv 113]) .ret))))))), [(.s 4)]⟩
theorem x6_ok : xfn Try.prog Try.f6 = some x6.er := by kernel_rfl
def g26 : Con := fun args_ E_ nn_ => match args_ with
  | [.a [.v (.int .i64 p_W), .v (.int .i64 p_H), .n p_Cells]] => (match rowOf E_ p_Cells with
    | some (p_Cells_n, p_Cells_s, p_Cells_f) => some (.e (isRow eU8 p_Cells_n p_Cells_s p_Cells_f ∧ planB p_W p_H (decL eU8 p_Cells_n p_Cells_f) = true ∧ p_W ≤ 16 ∧ p_H ≤ 16) (.o (.a [.v (.int .i64 (2 * p_W)), .v (.int .i64 (2 * p_H)), .n (nn_ + 0)])) [((nn_ + 0), .own (dblL p_W p_H (decL eU8 p_Cells_n p_Cells_f)).length 1 (rowF eU8 (dblL p_W p_H (decL eU8 p_Cells_n p_Cells_f))) 5)] (nn_ + 1))
    | none => none)
  | _ => none
set_option maxHeartbeats 4000000 in
theorem c26 : COk Try.prog 26 g26 := by
  refine cok_e Try.func26 x26_ok (by kernel_rfl) (cok_tab cok_nil) ?_
  intro args_ E_ nn_ cr_ hg_
  unfold g26 at hg_
  split at hg_
  · rename_i p_W p_H p_Cells
    split at hg_
    · rename_i p_Cells_n p_Cells_s p_Cells_f h_p_Cells
      cases hg_
      refine ⟨_, _, _, _, rfl, 1, [p_Cells], [.a [.v (.int .i64 p_W), .v (.int .i64 p_H), .n 0]], [(0, .ro (decL eU8 p_Cells_n p_Cells_f).length eU8.sz (rowF eU8 (decL eU8 p_Cells_n p_Cells_f)))], .o (.a [.v (.int .i64 (2 * p_W)), .v (.int .i64 (2 * p_H)), .n 1]), [(1, .own (dblL p_W p_H (decL eU8 p_Cells_n p_Cells_f)).length 1 (rowF eU8 (dblL p_W p_H (decL eU8 p_Cells_n p_Cells_f))) 5)], 2, rfl, rfl, by simp only [renE, Ent.ren, rowF_renf] <;> rfl, rfl, by decide, by simp only [push_cast, Nat.reduceLT, Nat.reduceAdd], by simp only [push_cast, Nat.reduceLT, Nat.reduceAdd], by simp only [push_cast, Nat.reduceLT, Nat.reduceAdd], by simp only [push_cast, Nat.reduceLT, Nat.reduceAdd], rfl, ⟨inE0_row h_p_Cells, trivial⟩, by simp only [keysNodup, outN, keys] <;> decide, rfl, rfl, ?_⟩
      intro hpre hlen
      obtain ⟨i_p_Cells, hpre⟩ := hpre
      refine ⟨⟨inE_row h_p_Cells i_p_Cells, trivial⟩, by simp only [apartE] <;> (first | trivial | (simp [Ent.mut]; done)), ?_⟩
      have z_p_Cells := lens_row (E := eU8) hlen h_p_Cells
      clear i_p_Cells
      generalize decL eU8 p_Cells_n p_Cells_f = p_CellsL at *
      clear h_p_Cells
      obtain ⟨hp, hW, hH⟩ := hpre
      have pp := planB_at hp
      have w1 : IntKind.i64.wrap (2 * p_W) = 2 * p_W := wrapI (by omega) (by omega)
      have w2 : IntKind.i64.wrap (2 * p_H) = 2 * p_H := wrapI (by omega) (by omega)
      simp (config := {maxSteps := 10000000}) only [x26, push_cast, Nat.reduceAdd, Nat.reduceSub, Nat.reduceLeDiff, Nat.reduceEqDiff, Nat.reduceBEq, Nat.reduceMul, Nat.reduceLT, ↓reduceIte, reduceCtorEq, Int.reduceLE, Int.reduceLT, Int.reduceEq, Int.reduceMul, Int.reduceAdd, Int.reduceSub, Int.reduceNeg, Int.reduceToNat, Int.reduceNe, w1, w2]
      refine vcLoop_upd (α := {j : Nat // (j : Int) ≤ 2 * p_H}) [1, 2, 3] 1 (fun s => [(4, .o (.c (.v (.int .i64 (s.1 : Nat)))))]) (fun s => [(3, .box [.v (.int .i64 (2 * p_W)), .v (.int .i64 (2 * p_H)), .n 4] 24), (4, .own ((dblL p_W p_H p_CellsL).take (s.1 * (2 * p_W).toNat)).length 1 (rowF eU8 ((dblL p_W p_H p_CellsL).take (s.1 * (2 * p_W).toNat))) 5)]) (fun s => (2 * p_H).toNat - s.1) ⟨0, by omega⟩ ?_ ?_
      · simp only [push_cast, Nat.reduceAdd, Nat.reduceSub, Nat.reduceLeDiff, Nat.reduceEqDiff, Nat.reduceBEq, Nat.reduceMul, Nat.reduceLT, ↓reduceIte, reduceCtorEq, Int.reduceLE, Int.reduceLT, Int.reduceEq, Int.reduceMul, Int.reduceAdd, Int.reduceSub, Int.reduceNeg, Int.reduceToNat, Int.reduceNe, w1, w2]
        simp
      rintro ⟨j, hj⟩
      simp only [x26L1, push_cast, Nat.reduceAdd, Nat.reduceSub, Nat.reduceLeDiff, Nat.reduceEqDiff, Nat.reduceBEq, Nat.reduceMul, Nat.reduceLT, ↓reduceIte, reduceCtorEq, Int.reduceLE, Int.reduceLT, Int.reduceEq, Int.reduceMul, Int.reduceAdd, Int.reduceSub, Int.reduceNeg, Int.reduceToNat, Int.reduceNe, w1, w2]
      refine ⟨fun hlt => ?_, fun hge => ?_⟩
      · refine vcLoop_upd (α := {x : Nat // (x : Int) ≤ 2 * p_W}) [1, 2, 3, 4] 0 (fun s => [(5, .o (.c (.v (.int .i64 (s.1 : Nat)))))]) (fun s => [(3, .box [.v (.int .i64 (2 * p_W)), .v (.int .i64 (2 * p_H)), .n 4] 24), (4, .own ((dblL p_W p_H p_CellsL).take (j * (2 * p_W).toNat + s.1)).length 1 (rowF eU8 ((dblL p_W p_H p_CellsL).take (j * (2 * p_W).toNat + s.1))) 5)]) (fun s => (2 * p_W).toNat - s.1) ⟨0, by omega⟩ ?_ ?_
        · simp only [push_cast, Nat.reduceAdd, Nat.reduceSub, Nat.reduceLeDiff, Nat.reduceEqDiff, Nat.reduceBEq, Nat.reduceMul, Nat.reduceLT, ↓reduceIte, reduceCtorEq, Int.reduceLE, Int.reduceLT, Int.reduceEq, Int.reduceMul, Int.reduceAdd, Int.reduceSub, Int.reduceNeg, Int.reduceToNat, Int.reduceNe, w1, w2]
        rintro ⟨x, hx⟩
        rcases (by omega : (x : Int) < 2 * p_W ∨ (x : Int) = 2 * p_W) with hlx | hex
        · have hb := ix_bd (W := p_W) (H := p_H) (c := ⟨(x : Int) / 2, (j : Int) / 2⟩) ⟨⟨by simp only; omega, by simp only; omega⟩, by simp only; omega, by simp only; omega⟩
          simp only at hb
          have hm := mulWH pp.1 pp.2.1
          have h0 : 0 ≤ (j : Int) / 2 * p_W := Int.mul_nonneg (by omega) (by omega)
          have t1 : IntKind.i64.wrap (Int.tdiv (j : Int) 2) = (j : Int) / 2 := by rw [Int.tdiv_eq_ediv_of_nonneg (by omega)]; exact wrapI (by omega) (by omega)
          have t2 : IntKind.i64.wrap (Int.tdiv (x : Int) 2) = (x : Int) / 2 := by rw [Int.tdiv_eq_ediv_of_nonneg (by omega)]; exact wrapI (by omega) (by omega)
          have t3 : IntKind.i64.wrap ((j : Int) / 2 * p_W) = (j : Int) / 2 * p_W := wrapI (by omega) (by omega)
          have t4 : IntKind.i64.wrap ((j : Int) / 2 * p_W + (x : Int) / 2) = (j : Int) / 2 * p_W + (x : Int) / 2 := wrapI (by omega) (by omega)
          have hlen : (List.take (j * (2 * p_W).toNat + x) (dblL p_W p_H p_CellsL)).length ≤ 281474976709 := by
            have h1 := List.length_take_le' (j * (2 * p_W).toNat + x) (dblL p_W p_H p_CellsL)
            rw [dbl_len] at h1
            omega
          simp (config := {maxSteps := 10000000}) only [x26L0, push_cast, Nat.reduceAdd, Nat.reduceSub, Nat.reduceLeDiff, Nat.reduceEqDiff, Nat.reduceBEq, Nat.reduceMul, Nat.reduceLT, ↓reduceIte, reduceCtorEq, Int.reduceLE, Int.reduceLT, Int.reduceEq, Int.reduceMul, Int.reduceAdd, Int.reduceSub, Int.reduceNeg, Int.reduceToNat, Int.reduceNe, w1, w2, t1, t2, t3, t4]
          exact ⟨fun _ => ⟨⟨by omega, by omega⟩, by omega, hlen, by rfl, ⟨⟨x + 1, by omega⟩, ⟨wrapI (by omega) (by omega), dbl_push pp.1.1 pp.2.1.1 hlt hlx⟩, by simp only; omega⟩⟩, fun h => absurd hlx h⟩
        · have ex : j * (2 * p_W).toNat + x = (j + 1) * (2 * p_W).toNat := by rw [Nat.add_mul, Nat.one_mul]; omega
          simp (config := {maxSteps := 10000000}) only [x26L0, push_cast, Nat.reduceAdd, Nat.reduceSub, Nat.reduceLeDiff, Nat.reduceEqDiff, Nat.reduceBEq, Nat.reduceMul, Nat.reduceLT, ↓reduceIte, reduceCtorEq, Int.reduceLE, Int.reduceLT, Int.reduceEq, Int.reduceMul, Int.reduceAdd, Int.reduceSub, Int.reduceNeg, Int.reduceToNat, Int.reduceNe, w1, w2, ex]
          exact ⟨fun h => by omega, fun _ => ⟨⟨j + 1, by omega⟩, ⟨wrapI (by omega) (by omega), rfl, (rowEq_rowF _ _ _ _).2 trivial⟩, by simp only; omega⟩⟩
      · have ej : List.take (j * (2 * p_W).toNat) (dblL p_W p_H p_CellsL) = dblL p_W p_H p_CellsL := List.take_of_length_le (by rw [dbl_len2 (by omega) (by omega)]; exact Nat.mul_le_mul_right _ (by omega))
        rw [ej]
        exact ⟨rfl, (rowEq_rowF _ _ _ _).2 trivial⟩
    · cases hg_
  · cases hg_
def g6 : Con := fun args_ E_ nn_ => match args_ with
  | [.a [.v (.int .i64 p_W), .v (.int .i64 p_H), .n p_Cells], .a [.v (.int .i64 start_X), .v (.int .i64 start_Y)]] => (match rowOf E_ p_Cells with
    | some (p_Cells_n, p_Cells_s, p_Cells_f) => some (.q (isRow eU8 p_Cells_n p_Cells_s p_Cells_f ∧ True) (.o (.c (.v (.bool (true))))))
    | none => none)
  | _ => none
set_option maxHeartbeats 8000000 in
theorem c6 : COk Try.prog 6 g6 := by
  refine cok_q Try.func6 x6_ok (by kernel_rfl) (cok_tab (cok_cons c11 (cok_cons c12 (cok_cons c13 (cok_cons c14 (cok_cons c15 (cok_cons c26 (cok_cons c20m (cok_cons c27 (cok_cons c16 (cok_cons c17 (cok_cons c24 cok_nil)))))))))))) ?_
  intro args_ E_ nn_ cr_ hg_
  unfold g6 at hg_
  split at hg_
  · rename_i p_W p_H p_Cells start_X start_Y
    split at hg_
    · rename_i p_Cells_n p_Cells_s p_Cells_f h_p_Cells
      cases hg_
      refine ⟨_, _, rfl, 1, [p_Cells], [.a [.v (.int .i64 p_W), .v (.int .i64 p_H), .n 0], .a [.v (.int .i64 start_X), .v (.int .i64 start_Y)]], [(0, .ro (decL eU8 p_Cells_n p_Cells_f).length eU8.sz (rowF eU8 (decL eU8 p_Cells_n p_Cells_f)))], .o (.c (.v (.bool (true)))), rfl, rfl, by simp only [push_cast, Nat.reduceLT, Nat.reduceAdd], by simp only [push_cast, Nat.reduceLT, Nat.reduceAdd], by simp only [push_cast, Nat.reduceLT, Nat.reduceAdd], rfl, ⟨inE0_row h_p_Cells, trivial⟩, rfl, ?_⟩
      intro hpre hlen
      obtain ⟨i_p_Cells, hpre⟩ := hpre
      refine ⟨⟨inE_row h_p_Cells i_p_Cells, trivial⟩, ?_⟩
      have z_p_Cells := lens_row (E := eU8) hlen h_p_Cells
      clear i_p_Cells
      generalize decL eU8 p_Cells_n p_Cells_f = p_CellsL at *
      clear h_p_Cells
      simp (config := {maxSteps := 10000000}) only [x6, push_cast, Nat.reduceAdd, Nat.reduceSub, Nat.reduceLeDiff, Nat.reduceEqDiff, Nat.reduceBEq, Nat.reduceMul, Nat.reduceLT, ↓reduceIte, reduceCtorEq, Int.reduceLE, Int.reduceLT, Int.reduceEq, Int.reduceMul, Int.reduceAdd, Int.reduceSub, Int.reduceNeg, Int.reduceToNat, Int.reduceNe, g11, g12, g13, g14, g15, g26, g20m, g27, g16, g17, g24]
      intro hl
      refine ⟨fun a b c => ⟨⟨⟨a, b⟩, c⟩, a⟩, fun h => ?_, fun hp hW hH ha => ?_⟩
      · rcases h with ((h | h) | h) | h
        · exact .inl (.inl (by unfold touE; rw [if_pos h]; decide))
        · exact .inl (.inr h)
        · exact .inr h
        · refine .inl (.inl ?_)
          unfold touE
          split
          · decide
          · rw [if_pos (by rw [Bool.eq_false_iff]; exact fun g => h (fr_iff.1 g))]; decide
      have hW : p_W ≤ 16 := by omega
      have hH : p_H ≤ 16 := by omega
      have hf : frB p_W p_H p_CellsL start_X start_Y = true := fr_iff.2 ha
      have hp2 := dbl_plan hp hW hH
      have hE := dbl_E hp hW hH (a := ⟨start_X, start_Y⟩) hf
      have hrs := reg_size hp hf
      have hcnt := dbl_cnt hp hW hH
      have hnn : 0 ≤ cnt8 p_CellsL 1 ∧ cnt8 p_CellsL 1 ≤ 4096 := by
        have pp := planB_at hp
        have := List.countP_le_length (p := fun x => decide (x = 1)) (l := p_CellsL)
        rw [cnt8_one (planB_le hp)]
        omega
      have hwr : IntKind.i64.wrap (4 * cnt8 p_CellsL 1) = 4 * cnt8 p_CellsL 1 := wrapI (by omega) (by omega)
      simp only at hE
      refine ⟨⟨hp, hW, hH⟩, ⟨hp, hW, hH⟩, ⟨hp, hf⟩, hp, by rfl, ?_⟩
      rw [hrs, hwr]
      by_cases g : ((regL p_W p_H p_CellsL start_X start_Y).length : Int) = cnt8 p_CellsL 1
      · rw [if_pos g] at hE
        obtain ⟨l0, l1, l2, l3, l4⟩ := loop_law hp2 hE
        rw [hE, l1, l2, l3, hcnt, g]
        simp [hp]
      · rw [if_neg g] at hE
        have hL := lopL0 hE.symm (by decide)
        have gb : (((regL p_W p_H p_CellsL start_X start_Y).length : Int) == cnt8 p_CellsL 1) = false := by simpa using g
        rw [hE, hL, gb]
        simp [g, hp]
    · cases hg_
  · cases hg_
end Go.Proofs.Ytnkkhmeojifckaa
