/- A part of the proof of a statement about this seat: how a function is stepped through, and plain laws. No conditions. -/
import Derived.Test.YtpnpbbagonknjaaRows
import Derived.Test.YtpnpbbagonknjaaSz3
import Derived.Test.YtpnpbbagonknjaaU4
import Derived.KernelRfl
set_option linter.unusedVariables false
set_option linter.unusedSimpArgs false
set_option maxRecDepth 20000
namespace Go.Proofs.Ytpnpbbagonknjaa
open Go.Sx Go.Way
theorem catF_zero (g f : Nat → Nat → SC) : catF 0 g f = f := by funext i j; simp [catF]
/-! ### Other walls, and a quarter turn -/
section
variable {W H : Int} {L M : List Int} {px py vx vy vd most : Int}
theorem wall_eq {c : CC} (hp : planB W H L = true) (hq : planB W H M = true) (h : ∀ k, k < L.length → (M.getD k eU8.dflt = 2 ↔ L.getD k eU8.dflt = 2)) : wallB W H M c = wallB W H L c := by
  unfold wallB
  cases hi : insB W H c.X c.Y
  · rw [at_out hp hi, at_out hq hi]
  · have b := idx_bd hp hi
    rw [at_in hp hi, at_in hq hi, decide_eq_decide]
    exact h _ (by omega)
theorem wall_le {c : CC} (hp : planB W H L = true) (hq : planB W H M = true) (h : ∀ k, k < L.length → L.getD k eU8.dflt = 2 → M.getD k eU8.dflt = 2) (hw : wallB W H L c = true) : wallB W H M c = true := by
  unfold wallB at hw ⊢
  rw [decide_eq_true_eq] at hw ⊢
  cases hi : insB W H c.X c.Y
  · exact at_out hq hi
  · have b := idx_bd hp hi
    rw [at_in hp hi] at hw
    rw [at_in hq hi]
    exact h _ (by omega) hw
theorem okF_plan (hp : planB W H L = true) (hq : planB W H M = true) : okF W H M px py vx vy vd most = okF W H L px py vx vy vd most := by
  unfold okF inB; rw [hp, hq]
/-- Unknown cells are as good as free ones. -/
theorem first_congr (hp : planB W H L = true) (hq : planB W H M = true) (h : ∀ k, k < L.length → (M.getD k eU8.dflt = 2 ↔ L.getD k eU8.dflt = 2)) : firstO W H M px py vx vy vd most = firstO W H L px py vx vy vd most := by
  have e : refP W H M px py vx vy vd most = refP W H L px py vx vy vd most := by
    funext x y; unfold refP; rw [wall_eq hp hq h]
  unfold firstO refL
  rw [okF_plan hp hq, e]
/-- Another wall does not make the distance greater. -/
theorem first_more {c : CC} (hp : planB W H L = true) (hq : planB W H M = true) (h : ∀ k, k < L.length → L.getD k eU8.dflt = 2 → M.getD k eU8.dflt = 2) (hc : firstO W H L px py vx vy vd most = some c) :
    ∃ d, firstO W H M px py vx vy vd most = some d ∧ flE (entC px py vx vy vd d) (entC px py vx vy vd c) := by
  have hb := first_best hc
  have m := refL_mem.1 hb.2.1
  have hm : c ∈ refL W H M px py vx vy vd most := refL_mem.2 ⟨⟨wall_le hp hq h m.1.1, m.1.2⟩, m.2⟩
  obtain ⟨d, hd⟩ := first_is (by rw [okF_plan hp hq]; exact hb.1) hm
  exact ⟨d, hd, first_min hd hm⟩
end
def srcI (w h j : Nat) : Nat := (h - 1 - j % h) * w + j / h
theorem pair_eq {w a b y x : Nat} (hb : b < w) (hx : x < w) (h : a * w + b = y * w + x) : a = y ∧ b = x := by
  have e1 : (a * w + b) / w = a := by rw [Nat.add_comm, Nat.add_mul_div_right _ _ (by omega), Nat.div_eq_of_lt hb]; omega
  have e2 : (y * w + x) / w = y := by rw [Nat.add_comm, Nat.add_mul_div_right _ _ (by omega), Nat.div_eq_of_lt hx]; omega
  rw [h, e2] at e1
  subst e1
  exact ⟨rfl, by omega⟩
theorem pair_lt {w h x y : Nat} (hx : x < w) (hy : y < h) : y * w + x < w * h := by
  have := Nat.mul_le_mul_right w (show y + 1 ≤ h by omega)
  rw [Nat.add_mul, Nat.mul_comm h w] at this
  omega
theorem src_lt {w h j : Nat} (hj : j < w * h) : j / h < w ∧ j % h < h ∧ 0 < h ∧ srcI w h j < w * h := by
  have h0 : 0 < h := Nat.pos_of_ne_zero fun e => by subst e; simp at hj
  have h1 : j / h < w := Nat.div_lt_of_lt_mul (by rw [Nat.mul_comm]; exact hj)
  have h2 : j % h < h := Nat.mod_lt _ h0
  exact ⟨h1, h2, h0, pair_lt h1 (by omega)⟩
theorem src_iff {w h j x y : Nat} (hx : x < w) (hy : y < h) (hj : j < w * h) : srcI w h j = y * w + x ↔ j = x * h + (h - 1 - y) := by
  obtain ⟨h1, h2, h0, _⟩ := src_lt hj
  have e := Nat.div_add_mod j h
  unfold srcI
  constructor
  · intro k
    obtain ⟨k1, k2⟩ := pair_eq h1 hx k
    rw [k2, Nat.mul_comm] at e
    omega
  · intro k
    have k' : j / h * h + j % h = x * h + (h - 1 - y) := by rw [Nat.mul_comm, e]; exact k
    obtain ⟨k1, k2⟩ := pair_eq h2 (by omega) k'
    rw [k1, k2, show h - 1 - (h - 1 - y) = y by omega]
/-- A plan's cells after a quarter turn, as far as they are written. -/
def turnS (w h : Nat) (L : List Int) (n : Nat) : List Int := (List.range L.length).map fun j => if srcI w h j < n then L.getD (srcI w h j) eU8.dflt else 0
def turnL (w h : Nat) (L : List Int) : List Int := (List.range L.length).map fun j => L.getD (srcI w h j) eU8.dflt
theorem turnS_len (w h : Nat) (L : List Int) (n : Nat) : (turnS w h L n).length = L.length := by simp [turnS]
theorem turnL_len (w h : Nat) (L : List Int) : (turnL w h L).length = L.length := by simp [turnL]
theorem turnL_at {w h : Nat} {L : List Int} {j : Nat} (hj : j < L.length) : (turnL w h L).getD j eU8.dflt = L.getD (srcI w h j) eU8.dflt := by
  unfold turnL; simp [List.getD_eq_getElem?_getD, hj]
theorem turnS_at {w h : Nat} {L : List Int} {j n : Nat} (hj : j < L.length) : (turnS w h L n).getD j eU8.dflt = if srcI w h j < n then L.getD (srcI w h j) eU8.dflt else 0 := by
  unfold turnS; simp [List.getD_eq_getElem?_getD, hj]
theorem turnS_all {w h : Nat} {L : List Int} (hl : L.length = w * h) : turnS w h L (w * h) = turnL w h L := by
  refine getD_ext eU8.dflt (by rw [turnS_len, turnL_len]) fun j hj => ?_
  rw [turnS_len] at hj
  rw [turnS_at hj, turnL_at hj, if_pos (src_lt (by omega)).2.2.2]
theorem turnS_zero {w h : Nat} {L : List Int} : turnS w h L 0 = List.replicate L.length 0 := by
  refine getD_ext eU8.dflt (by rw [turnS_len, List.length_replicate]) fun j hj => ?_
  rw [turnS_len] at hj
  rw [turnS_at hj, if_neg (by omega)]
  simp [List.getD_eq_getElem?_getD, hj]
theorem turnS_set {w h : Nat} {L : List Int} {x y : Nat} (hl : L.length = w * h) (hx : x < w) (hy : y < h) : turnS w h L (y * w + x + 1) = (turnS w h L (y * w + x)).set (x * h + (h - 1 - y)) (L.getD (y * w + x) eU8.dflt) := by
  have hi : x * h + (h - 1 - y) < L.length := by rw [hl, Nat.mul_comm w h]; exact pair_lt (by omega) hx
  refine getD_ext eU8.dflt (by rw [List.length_set, turnS_len, turnS_len]) fun j hj => ?_
  rw [turnS_len] at hj
  rw [turnS_at hj, getD_set (by rw [turnS_len]; exact hi), turnS_at hj]
  have k := src_iff (j := j) hx hy (by omega)
  split
  · split
    · rename_i h2; rw [k.2 h2]
    · rename_i h1 h2; rw [if_pos]; have := fun e => h2 (k.1 e); omega
  · split
    · rename_i h1 h2; exact absurd (k.2 h2) (by omega)
    · rename_i h1 h2; rw [if_neg (by omega)]
section
variable {W H : Int} {L : List Int} {px py vx vy vd most : Int}
def tC (H : Int) (c : CC) : CC := ⟨H - 1 - c.Y, c.X⟩
theorem planB_turn (hp : planB W H L = true) : planB H W (turnL W.toNat H.toNat L) = true := by
  have a := planB_at hp
  have hl : L.length = W.toNat * H.toNat := by
    have : ((W.toNat * H.toNat : Nat) : Int) = W * H := by rw [Int.natCast_mul, Int.toNat_of_nonneg (by omega), Int.toNat_of_nonneg (by omega)]
    omega
  refine planB_yes a.2.1 a.1 (by rw [turnL_len, a.2.2.1, Int.mul_comm]) fun j hj => ?_
  rw [turnL_len] at hj
  rw [turnL_at hj]
  exact a.2.2.2.2 _ (by have := (src_lt (w := W.toNat) (h := H.toNat) (j := j) (by omega)).2.2.2; omega)
theorem wall_turn (hp : planB W H L = true) (c : CC) : wallB H W (turnL W.toNat H.toNat L) (tC H c) = wallB W H L c := by
  have a := planB_at hp
  have hl : L.length = W.toNat * H.toNat := by
    have : ((W.toNat * H.toNat : Nat) : Int) = W * H := by rw [Int.natCast_mul, Int.toNat_of_nonneg (by omega), Int.toNat_of_nonneg (by omega)]
    omega
  have hi : insB H W (tC H c).X (tC H c).Y = insB W H c.X c.Y := by unfold insB tC; simp only; rw [decide_eq_decide]; omega
  unfold wallB
  cases hin : insB W H c.X c.Y
  · rw [at_out hp hin, at_out (planB_turn hp) (hi.trans hin)]
  · rw [at_in hp hin, at_in (planB_turn hp) (hi.trans hin)]
    unfold insB at hin
    rw [decide_eq_true_eq] at hin
    have e1 : ((tC H c).Y * H + (tC H c).X).toNat = c.X.toNat * H.toNat + (H.toNat - 1 - c.Y.toNat) := by
      have : ((c.X.toNat * H.toNat : Nat) : Int) = c.X * H := by rw [Int.natCast_mul, Int.toNat_of_nonneg (by omega), Int.toNat_of_nonneg (by omega)]
      unfold tC; simp only; omega
    have e2 : (c.Y * W + c.X).toNat = c.Y.toNat * W.toNat + c.X.toNat := by
      have : ((c.Y.toNat * W.toNat : Nat) : Int) = c.Y * W := by rw [Int.natCast_mul, Int.toNat_of_nonneg (by omega), Int.toNat_of_nonneg (by omega)]
      omega
    have hx : c.X.toNat < W.toNat := by omega
    have hy : c.Y.toNat < H.toNat := by omega
    have hj : c.X.toNat * H.toNat + (H.toNat - 1 - c.Y.toNat) < W.toNat * H.toNat := by rw [Nat.mul_comm W.toNat]; exact pair_lt (by omega) hx
    rw [e1, e2, turnL_at (by omega), (src_iff hx hy hj).2 rfl]
theorem inC_turn {n m p d K : Int} : inC n m (64 * H - p) (-d) ((H - 1 - K) * 64) ((H - 1 - K) * 64 + 64) ↔ inC n m p d (K * 64) (K * 64 + 64) := by
  unfold inC
  have e1 : (H - 1 - K) * 64 * m = 64 * (H * m) - 64 * m - 64 * (K * m) := by grind
  have e2 : ((H - 1 - K) * 64 + 64) * m = 64 * (H * m) - 64 * (K * m) := by grind
  have e3 : (64 * H - p) * m = 64 * (H * m) - p * m := by grind
  have e4 : n * -d = -(n * d) := by grind
  have e5 : K * 64 * m = 64 * (K * m) := by grind
  have e6 : (K * 64 + 64) * m = 64 * (K * m) + 64 * m := by grind
  rw [e1, e2, e3, e4, e5, e6]
  omega
theorem inC2_turn {c : CC} {t : Int × Int} : InC (64 * H - py) px (-vy) vx (tC H c) t ↔ InC px py vx vy c t := by
  unfold InC InS tC
  simp only
  rw [inC_turn]
  constructor
  · rintro ⟨a, b, c, d⟩; exact ⟨a, b, d, c⟩
  · rintro ⟨a, b, c, d⟩; exact ⟨a, b, d, c⟩
theorem vec_turn (h : vecB vx vy vd = true) : vecB (-vy) vx vd = true := by
  have a := vec_bd h
  unfold vecB
  rw [decide_eq_true_eq, Int.neg_mul_neg]
  omega
theorem ent_turn {c : CC} (h : thrB px py vx vy vd (c.X * 64) (c.Y * 64) (c.X * 64 + 64) (c.Y * 64 + 64) = true) (h2 : thrB (64 * H - py) px (-vy) vx vd ((tC H c).X * 64) ((tC H c).Y * 64) ((tC H c).X * 64 + 64) ((tC H c).Y * 64 + 64) = true) :
    entC (64 * H - py) px (-vy) vx vd (tC H c) = entC px py vx vy vd c := by
  have a := (thr_ent h).1
  have b := (thr_ent h2).1
  have n1 := thr_nn h
  have n2 := thr_nn h2
  have b' : Ent px py vx vy (c.X * 64) (c.Y * 64) (c.X * 64 + 64) (c.Y * 64 + 64) (thrL (64 * H - py) px (-vy) vx ((tC H c).X * 64) ((tC H c).Y * 64) ((tC H c).X * 64 + 64) ((tC H c).Y * 64 + 64)) :=
    ⟨inC2_turn.1 b.1, fun s hs => b.2 s (inC2_turn.2 hs)⟩
  have e := ent_eq a b'
  unfold entC entF
  generalize thrL (64 * H - py) px (-vy) vx ((tC H c).X * 64) ((tC H c).Y * 64) ((tC H c).X * 64 + 64) ((tC H c).Y * 64 + 64) = B at *
  generalize thrL px py vx vy (c.X * 64) (c.Y * 64) (c.X * 64 + 64) (c.Y * 64 + 64) = A at *
  refine low_eq (Int.mul_nonneg n2.1.1 (by omega)) (by omega) (Int.mul_nonneg n1.1.1 (by omega)) (by omega) ?_
  have r1 : B.1 * vd * A.2 = B.1 * A.2 * vd := by ac_rfl
  have r2 : A.1 * vd * B.2 = A.1 * B.2 * vd := by ac_rfl
  rw [r1, r2, e]
theorem hit_turn {c : CC} (hp : (0 ≤ px ∧ px ≤ 64 * W) ∧ 0 ≤ py ∧ py ≤ 64 * H) (hW : 1 ≤ W ∧ W ≤ 64) (hH : 1 ≤ H ∧ H ≤ 64) (hv : vecB vx vy vd = true) (hc : (-1 ≤ c.X ∧ c.X ≤ W) ∧ -1 ≤ c.Y ∧ c.Y ≤ H) :
    hitB (64 * H - py) px (-vy) vx vd most (tC H c) = hitB px py vx vy vd most c := by
  have h1 : sPtB px py = true := by simp only [sPtB, nearB, Bool.and_eq_true, decide_eq_true_eq]; omega
  have h2 : sPtB (64 * H - py) px = true := by simp only [sPtB, nearB, Bool.and_eq_true, decide_eq_true_eq]; omega
  have h3 : sqR c = true := by simp only [sqR, sRectB, nearB, Bool.and_eq_true, decide_eq_true_eq]; omega
  have h4 : sqR (tC H c) = true := by unfold sqR; rw [show (tC H c).X = H - 1 - c.Y from rfl, show (tC H c).Y = c.X from rfl]; simp only [sRectB, nearB, Bool.and_eq_true, decide_eq_true_eq]; omega
  rw [Bool.eq_iff_iff, hit_iff h2 (vec_turn hv) h4, hit_iff h1 hv h3]
  constructor
  · rintro ⟨t, ht, k⟩; exact ⟨t, inC2_turn.1 ht, k⟩
  · rintro ⟨t, ht, k⟩; exact ⟨t, inC2_turn.2 ht, k⟩
theorem fl_eq {c d : CC} (h1 : thrB px py vx vy vd (c.X * 64) (c.Y * 64) (c.X * 64 + 64) (c.Y * 64 + 64) = true) (h2 : thrB px py vx vy vd (d.X * 64) (d.Y * 64) (d.X * 64 + 64) (d.Y * 64 + 64) = true)
    (h : flE (entC px py vx vy vd c) (entC px py vx vy vd d)) (k : flE (entC px py vx vy vd d) (entC px py vx vy vd c)) : entC px py vx vy vd c = entC px py vx vy vd d := by
  have n1 := thr_nn h1
  have n2 := thr_nn h2
  unfold flE entC entF at *
  have p1 := thrL_pos px py vx vy (c.X * 64) (c.Y * 64) (c.X * 64 + 64) (c.Y * 64 + 64)
  have p2 := thrL_pos px py vx vy (d.X * 64) (d.Y * 64) (d.X * 64 + 64) (d.Y * 64 + 64)
  generalize thrL px py vx vy (c.X * 64) (c.Y * 64) (c.X * 64 + 64) (c.Y * 64 + 64) = A at *
  generalize thrL px py vx vy (d.X * 64) (d.Y * 64) (d.X * 64 + 64) (d.Y * 64 + 64) = B at *
  have l1 := low_lt (n := A.1 * vd) (n' := B.1 * vd) p1 p2
  have l2 := low_lt (n := B.1 * vd) (n' := A.1 * vd) p2 p1
  refine low_eq (Int.mul_nonneg n1.1.1 (by omega)) (by omega) (Int.mul_nonneg n2.1.1 (by omega)) (by omega) ?_
  omega
/-- After a quarter turn of all, the distance is the same. -/
theorem first_turn (hv : vecB vx vy vd = true) (hp : planB W H L = true) (hx : (0 ≤ px ∧ px ≤ 64 * W) ∧ 0 ≤ py ∧ py ≤ 64 * H) (hm : 0 ≤ most ∧ most ≤ 2048) :
    bestF (entC px py vx vy vd) (firstO W H L px py vx vy vd most) = bestF (entC (64 * H - py) px (-vy) vx vd) (firstO H W (turnL W.toNat H.toNat L) (64 * H - py) px (-vy) vx vd most) ∧
    (firstO W H L px py vx vy vd most).isSome = (firstO H W (turnL W.toNat H.toNat L) (64 * H - py) px (-vy) vx vd most).isSome := by
  have a := planB_at hp
  have ok1 : okF W H L px py vx vy vd most = true := okF_true (by unfold inB; rw [hp]; simp; omega) hv hm.1 hm.2
  have ok2 : okF H W (turnL W.toNat H.toNat L) (64 * H - py) px (-vy) vx vd most = true := okF_true (by unfold inB; rw [planB_turn hp]; simp; omega) (vec_turn hv) hm.1 hm.2
  have to : ∀ c : CC, c ∈ refL W H L px py vx vy vd most → tC H c ∈ refL H W (turnL W.toNat H.toNat L) (64 * H - py) px (-vy) vx vd most := by
    intro c hc
    have m := refL_mem.1 hc
    refine refL_mem.2 ⟨⟨by rw [wall_turn hp]; exact m.1.1, by rw [hit_turn hx a.1 a.2.1 hv m.2]; exact m.1.2⟩, ?_⟩
    unfold tC; simp only; omega
  have back : ∀ d : CC, d ∈ refL H W (turnL W.toNat H.toNat L) (64 * H - py) px (-vy) vx vd most → ∃ c, c ∈ refL W H L px py vx vy vd most ∧ d = tC H c := by
    intro d hd
    have m := refL_mem.1 hd
    have e : d = tC H ⟨d.Y, H - 1 - d.X⟩ := by
      cases d with | mk x y => show CC.mk x y = CC.mk (H - 1 - (H - 1 - x)) y; rw [show H - 1 - (H - 1 - x) = x by omega]
    have rng : (-1 ≤ (⟨d.Y, H - 1 - d.X⟩ : CC).X ∧ (⟨d.Y, H - 1 - d.X⟩ : CC).X ≤ W) ∧ -1 ≤ (⟨d.Y, H - 1 - d.X⟩ : CC).Y ∧ (⟨d.Y, H - 1 - d.X⟩ : CC).Y ≤ H := by simp only; omega
    refine ⟨⟨d.Y, H - 1 - d.X⟩, refL_mem.2 ⟨⟨?_, ?_⟩, rng⟩, e⟩
    · rw [← wall_turn hp, ← e]; exact m.1.1
    · rw [← hit_turn hx a.1 a.2.1 hv rng, ← e]; exact m.1.2
  have thr1 : ∀ c : CC, c ∈ refL W H L px py vx vy vd most → thrB px py vx vy vd (c.X * 64) (c.Y * 64) (c.X * 64 + 64) (c.Y * 64 + 64) = true := by
    intro c hc
    have k := (refL_mem.1 hc).1.2
    unfold hitB at k
    rw [Bool.and_eq_true] at k
    exact k.1
  have thr2 : ∀ c : CC, c ∈ refL H W (turnL W.toNat H.toNat L) (64 * H - py) px (-vy) vx vd most → thrB (64 * H - py) px (-vy) vx vd (c.X * 64) (c.Y * 64) (c.X * 64 + 64) (c.Y * 64 + 64) = true := by
    intro c hc
    have k := (refL_mem.1 hc).1.2
    unfold hitB at k
    rw [Bool.and_eq_true] at k
    exact k.1
  cases h1 : firstO W H L px py vx vy vd most with
  | none =>
    cases h2 : firstO H W (turnL W.toNat H.toNat L) (64 * H - py) px (-vy) vx vd most with
    | none => exact ⟨rfl, rfl⟩
    | some d =>
      obtain ⟨c, hc, _⟩ := back d (first_in h2)
      exact (first_none h1 ok1 hc).elim
  | some c =>
    obtain ⟨d, hd⟩ := first_is ok2 (to c (first_in h1))
    rw [hd]
    refine ⟨?_, rfl⟩
    obtain ⟨e, he, hde⟩ := back d (first_in hd)
    have f1 := first_min h1 he
    have f2 := first_min hd (to c (first_in h1))
    have k1 := ent_turn (thr1 c (first_in h1)) (thr2 _ (to c (first_in h1)))
    have k2 := ent_turn (thr1 e he) (thr2 _ (to e he))
    rw [k1, hde, k2] at f2
    show entC px py vx vy vd c = entC (64 * H - py) px (-vy) vx vd d
    rw [hde, k2]
    exact fl_eq (thr1 c (first_in h1)) (thr1 e he) f1 f2
end
def wlM (L : List Int) (i : Nat) : List Int := if L.getD i eU8.dflt = 2 then L else L.set i (1 - L.getD i eU8.dflt)
theorem wlM_len (L : List Int) (i : Nat) : (wlM L i).length = L.length := by unfold wlM; split <;> simp
theorem wlM_wall {W H : Int} {L : List Int} (hp : planB W H L = true) (hu : u8s L) {i : Nat} (hi : i < L.length) : ∀ k, k < L.length → ((wlM L i).getD k eU8.dflt = 2 ↔ L.getD k eU8.dflt = 2) := by
  intro k hk
  have hgd : L.getD i eU8.dflt = L[i] := by rw [List.getD_eq_getElem?_getD, List.getElem?_eq_getElem hi, Option.getD_some]
  have h0 := hu _ (List.getElem_mem hi)
  unfold wlM
  split
  · exact Iff.rfl
  · rename_i hn
    rw [getD_set hi]
    split
    · rename_i e; subst e; omega
    · exact Iff.rfl
theorem planB_wlM {W H : Int} {L : List Int} (hp : planB W H L = true) (hu : u8s L) {i : Nat} (hi : i < L.length) : planB W H (wlM L i) = true := by
  have hgd : L.getD i eU8.dflt = L[i] := by rw [List.getD_eq_getElem?_getD, List.getElem?_eq_getElem hi, Option.getD_some]
  have h0 := hu _ (List.getElem_mem hi)
  unfold wlM
  split
  · exact hp
  · exact planB_set hp (by omega)
/-- With more walls: what is met, and its sizes. -/
theorem more_law {W H : Int} {L M : List Int} {px py vx vy vd most : Int} (hp : planB W H L = true) (hq : planB W H M = true) (h : ∀ k, k < L.length → L.getD k eU8.dflt = 2 → M.getD k eU8.dflt = 2) :
    (firstO W H L px py vx vy vd most).isSome = true → (firstO W H M px py vx vy vd most).isSome = true ∧
      ((0 ≤ (bestF (entC px py vx vy vd) (firstO W H L px py vx vy vd most)).1 ∧ 0 < (bestF (entC px py vx vy vd) (firstO W H L px py vx vy vd most)).2 ∧ (bestF (entC px py vx vy vd) (firstO W H L px py vx vy vd most)).2 ≤ 2147483648) ∧
       0 ≤ (bestF (entC px py vx vy vd) (firstO W H M px py vx vy vd most)).1 ∧ 0 < (bestF (entC px py vx vy vd) (firstO W H M px py vx vy vd most)).2 ∧ (bestF (entC px py vx vy vd) (firstO W H M px py vx vy vd most)).2 ≤ 2147483648 ∧
       (bestF (entC px py vx vy vd) (firstO W H L px py vx vy vd most)).1 ≤ 9223372036854775807 ∧ (bestF (entC px py vx vy vd) (firstO W H M px py vx vy vd most)).1 ≤ 9223372036854775807) ∧
      ¬ (bestF (entC px py vx vy vd) (firstO W H L px py vx vy vd most)).1 * (bestF (entC px py vx vy vd) (firstO W H M px py vx vy vd most)).2 < (bestF (entC px py vx vy vd) (firstO W H M px py vx vy vd most)).1 * (bestF (entC px py vx vy vd) (firstO W H L px py vx vy vd most)).2 := by
  intro hs
  cases ho : firstO W H L px py vx vy vd most with
  | none => rw [ho] at hs; cases hs
  | some c =>
    obtain ⟨d, hd, hle⟩ := first_more hp hq h ho
    rw [hd]
    have a := hit_bd (first_hit ho).1 (first_hit ho).2.1
    have b := hit_bd (first_hit hd).1 (first_hit hd).2.1
    refine ⟨rfl, ?_, ?_⟩
    · change (0 ≤ (entC px py vx vy vd c).1 ∧ 0 < (entC px py vx vy vd c).2 ∧ (entC px py vx vy vd c).2 ≤ 2147483648) ∧ 0 ≤ (entC px py vx vy vd d).1 ∧ 0 < (entC px py vx vy vd d).2 ∧ (entC px py vx vy vd d).2 ≤ 2147483648 ∧ (entC px py vx vy vd c).1 ≤ 9223372036854775807 ∧ (entC px py vx vy vd d).1 ≤ 9223372036854775807
      omega
    · change ¬ (entC px py vx vy vd c).1 * (entC px py vx vy vd d).2 < (entC px py vx vy vd d).1 * (entC px py vx vy vd c).2
      unfold flE at hle
      omega
theorem same_set {L L' : List Int} {i : Nat} {v : Int} {b : Bnd} (hi : i < L.length) (h : L' = L.set i v) : L.length = L'.length ∧ rowEq L.length 1 (updF (rowF eU8 L) i 0 [.v (.int .u8 v)]) (rowF eU8 L') (SC.sub b) := by
  subst h
  rw [upd8 hi]
  exact ⟨by rw [List.length_set], (rowEq_rowF _ _ _ _).2 trivial⟩
theorem repl8 {L : List Int} {n : Nat} {b : Bnd} (h : ∀ e, e < n → L.getD e eU8.dflt = 0) : rowEq n 1 (replF [.int .u8 0]) (rowF eU8 L) (SC.sub b) := by
  intro e j he hj
  obtain rfl : j = 0 := by omega
  rw [eU8_0, h e he]; rfl
def x11 : XFn := ⟨139, (.seq (.reg false [O1 3 (.box 24) 0, O1 4 (.box 26) 1, K1 6 .mv (.bool false)]) (.seq (.seq (.reg false [⟨(some 19), (.call 13), [], none⟩, O1 20 (.un .not) 19, O1 21 .mv 20, G1 22 (.loadN 3) 3 21 false, G1 23 (.call 14) 22 21 false, G1 24 (.un .not) 23 21 false, ⟨(some 25), .pick, [(.t 21), (.k (.bool true)), (.t 24)], none⟩, O1 26 .mv 25, G1 27 (.loadN 3) 3 26 false, G1 28 (.loadN 3) 4 26 false, G2 29 (.call 27) 27 28 26 false, G1 30 (.un .not) 29 26 false, ⟨(some 31), .pick, [(.t 26), (.k (.bool true)), (.t 30)], none⟩]) (.cond (.t 31) (.seq (.reg false [⟨(some 32), (.call 13), [], none⟩, O1 6 .mv 32]) .ret) .skip)) (.seq (.reg false [O1 33 .mv 2, O1 34 (.conv .i64) 33, O1 35 (.fld 2) 3, O1 36 .load1 35, O1 37 .lenS 36, O2 38 (.bin .rem) 34 37, O1 7 .mv 38]) (.seq (.reg false [O1 39 (.fld 2) 4, O1 40 .load1 39, O1 41 .mv 2, O1 42 (.conv .i64) 41, K2 43 (.bin .rem) 42 (iV 256), O2 44 (.call 15) 40 43, ⟨(some 8), (.alloc 32 [(iV 0), (iV 0), (iV 0)]), [], none⟩, ⟨none, (.store 3), [(.t 8), (.t 44)], none⟩]) (.seq (.regD [O1 45 (.fld 0) 3, O1 46 .load1 45, O1 47 (.fld 1) 3, O1 48 .load1 47, ⟨(some 49), (.slit 5 0 1 [] []), [], none⟩, O1 50 (.fld 2) 3, O1 51 .load1 50, O2 52 (.app 5 1 1) 49 51, ⟨(some 53), (.build [(iV 0), (iV 0), (.slice none 0 0)] [(0, 1), (1, 1), (2, 1)]), [(.t 46), (.t 48), (.t 52)], none⟩, ⟨(some 9), (.alloc 24 [(iV 0), (iV 0), (.slice none 0 0)]), [], none⟩, ⟨none, (.store 3), [(.t 9), (.t 53)], none⟩] [[], [0], [], [2], [], [], [5], [4, 6, 5], [1, 0, 3, 2, 7, 4, 6, 5], [], [9, 8, 1, 0, 3, 2, 7, 4, 6, 5]]) (.seq (.cut (.seq (.reg false [O1 54 (.fld 2) 9, O1 55 .load1 54, O1 56 .mv 7, O2 57 (.ixS 1) 55 56, O1 58 .load1 57, K2 59 (.bin .neq) 58 (.int .u8 2)]) (.cond (.t 59) (.regD [O1 60 (.fld 2) 9, O1 61 .load1 60, O1 62 .mv 7, O1 63 (.fld 2) 9, O1 64 .load1 63, O1 65 .mv 7, O2 66 (.ixS 1) 64 65, O1 67 .load1 66, ⟨(some 68), (.bin .sub), [(.k (.int .u8 1)), (.t 67)], none⟩, O2 69 (.ixS 1) 61 62, ⟨none, (.store 1), [(.t 69), (.t 68)], none⟩] [[], [0], [], [], [3], [], [4, 3, 5], [6, 4, 3, 5], [7, 6, 4, 3, 5], [1, 0, 2, 3, 4, 5, 6, 7, 8], [9, 1, 0, 2, 3, 4, 5, 6, 7, 8]]) .skip))) (.seq (.regD [O1 71 (.loadN 3) 3, O1 72 (.loadN 3) 4, O1 73 (.call 17) 72, O1 74 (.loadN 3) 8, ⟨(some 75), (.call 16), [(.t 71), (.t 73), (.t 74), (.k (iV 1024))], none⟩, O1 70 .mv 75, O1 76 (.ext 0) 70, O1 77 (.ext 1) 70, O1 78 (.ext 2) 70, ⟨(some 10), (.alloc 35 [(iV 0), (iV 0)]), [], none⟩, ⟨(some 11), (.alloc 37 [(iV 0), (iV 0)]), [], none⟩, ⟨none, (.store 2), [(.t 10), (.t 76)], none⟩, ⟨none, (.store 2), [(.t 11), (.t 77)], none⟩, O1 12 .mv 78] [[], [], [1], [], [0, 2, 1, 3], [4, 0, 2, 1, 3], [5, 4, 0, 2, 1, 3], [5, 4, 0, 2, 1, 3], [5, 4, 0, 2, 1, 3], [], [], [9, 6, 5, 4, 0, 2, 1, 3, 10], [10, 7, 5, 4, 0, 2, 1, 3, 11, 9, 6], [8, 5, 4, 0, 2, 1, 3, 12, 10, 7, 11, 9, 6]]) (.seq (.regD [O1 80 (.loadN 3) 9, O1 81 (.loadN 3) 4, O1 82 (.call 17) 81, O1 83 (.loadN 3) 8, ⟨(some 84), (.call 16), [(.t 80), (.t 82), (.t 83), (.k (iV 1024))], none⟩, O1 79 .mv 84, O1 85 (.ext 0) 79, O1 86 (.ext 1) 79, O1 87 (.ext 2) 79, ⟨(some 13), (.alloc 35 [(iV 0), (iV 0)]), [], none⟩, ⟨(some 14), (.alloc 37 [(iV 0), (iV 0)]), [], none⟩, ⟨none, (.store 2), [(.t 13), (.t 85)], none⟩, ⟨none, (.store 2), [(.t 14), (.t 86)], none⟩, O1 15 .mv 87] [[], [], [1], [], [0, 2, 1, 3], [4, 0, 2, 1, 3], [5, 4, 0, 2, 1, 3], [5, 4, 0, 2, 1, 3], [5, 4, 0, 2, 1, 3], [], [], [9, 6, 5, 4, 0, 2, 1, 3, 10], [10, 7, 5, 4, 0, 2, 1, 3, 11, 9, 6], [8, 5, 4, 0, 2, 1, 3, 12, 10, 7, 11, 9, 6]]) (.seq (.reg false [O1 88 (.fld 2) 9, O1 89 .load1 88, O1 90 .mv 7, O2 91 (.ixS 1) 89 90, ⟨none, (.store 1), [(.t 91), (.k (.int .u8 2))], none⟩]) (.seq (.regD [O1 93 (.loadN 3) 9, O1 94 (.loadN 3) 4, O1 95 (.call 17) 94, O1 96 (.loadN 3) 8, ⟨(some 97), (.call 16), [(.t 93), (.t 95), (.t 96), (.k (iV 1024))], none⟩, O1 92 .mv 97, O1 98 (.ext 0) 92, O1 99 (.ext 1) 92, O1 100 (.ext 2) 92, ⟨(some 16), (.alloc 35 [(iV 0), (iV 0)]), [], none⟩, ⟨(some 17), (.alloc 37 [(iV 0), (iV 0)]), [], none⟩, ⟨none, (.store 2), [(.t 16), (.t 98)], none⟩, ⟨none, (.store 2), [(.t 17), (.t 99)], none⟩, O1 18 .mv 100] [[], [], [1], [], [0, 2, 1, 3], [4, 0, 2, 1, 3], [5, 4, 0, 2, 1, 3], [5, 4, 0, 2, 1, 3], [5, 4, 0, 2, 1, 3], [], [], [9, 6, 5, 4, 0, 2, 1, 3, 10], [10, 7, 5, 4, 0, 2, 1, 3, 11, 9, 6], [8, 5, 4, 0, 2, 1, 3, 12, 10, 7, 11, 9, 6]]) (.seq (.seq (.reg false [O1 101 (.loadN 2) 10, O1 102 (.loadN 2) 13, ⟨(some 103), (.eqA true [(.i .i64), (.i .i64)]), [(.t 101), (.t 102)], none⟩, O1 104 .mv 103, G1 105 (.loadN 2) 11 104 false, G1 106 (.loadN 2) 14 104 false, ⟨(some 107), (.eqA true [(.i .i64), (.i .i64)]), [(.t 105), (.t 106)], (some (104, false))⟩, ⟨(some 108), .pick, [(.t 104), (.k (.bool true)), (.t 107)], none⟩, O1 109 .mv 108, G1 110 .mv 12 109 false, G1 111 .mv 15 109 false, G2 112 (.binb .neq) 110 111 109 false, ⟨(some 113), .pick, [(.t 109), (.k (.bool true)), (.t 112)], none⟩, O1 114 .mv 113, G1 115 .mv 12 114 false, G1 116 .mv 115 114 false, G1 117 .mv 18 116 true, G1 118 (.un .not) 117 116 true, ⟨(some 119), .pick, [(.t 116), (.t 118), (.k (.bool false))], (some (114, false))⟩, ⟨(some 120), .pick, [(.t 114), (.k (.bool true)), (.t 119)], none⟩]) (.cond (.t 120) (.seq (.reg false [K1 6 .mv (.bool false)]) .ret) .skip)) (.seq (.reg false [O1 121 .mv 12, O1 122 (.un .not) 121, O1 123 .mv 122, G1 124 (.fld 1) 10 123 false, G1 125 .load1 124 123 false, GK 126 (.bin .gtr) 125 (iV 0) 123 false, G1 127 .mv 126 123 false, G1 128 (.fld 1) 16 127 true, G1 129 .load1 128 127 true, GK 130 (.bin .gtr) 129 (iV 0) 127 true, ⟨(some 131), .pick, [(.t 127), (.t 130), (.k (.bool false))], (some (123, false))⟩, G1 132 .mv 131 123 false, G1 133 (.loadN 2) 10 132 true, G1 134 (.loadN 2) 16 132 true, G2 135 (.call 35) 133 134 132 true, G1 136 (.un .not) 135 132 true, ⟨(some 137), .pick, [(.t 132), (.t 136), (.k (.bool false))], (some (123, false))⟩, ⟨(some 138), .pick, [(.t 123), (.k (.bool true)), (.t 137)], none⟩, O1 6 .mv 138]) .ret)))))))))))), [(.s 6)]⟩
theorem x11_ok : xfn Try.prog Try.f11 = some x11.er := by kernel_rfl
/-- wayfinder/wayfinderlaw10.RayWalls -/
def g11 : Con := fun args_ E_ nn_ => match args_ with
  | [.a [.v (.int .i64 p_W), .v (.int .i64 p_H), .n p_Cells], .a [.v (.int .i64 at_X), .v (.int .i64 at_Y), .v (.int .i64 at_H)], .c (.v (.int .u16 cell))] => (match rowOf E_ p_Cells with
    | some (p_Cells_n, p_Cells_s, p_Cells_f) => some (.q (isRow eU8 p_Cells_n p_Cells_s p_Cells_f ∧ (-9223372036854775808 ≤ at_H ∧ at_H ≤ 9223372036854775807) ∧ (0 ≤ cell ∧ cell ≤ 65535) ∧ u8s (decL eU8 p_Cells_n p_Cells_f)) (.o (.c (.v (.bool (true))))))
    | none => none)
  | _ => none
set_option maxHeartbeats 1600000 in
theorem c11 : COk Try.prog 11 g11 := by
  refine cok_q Try.func11 x11_ok (by kernel_rfl) (cok_tab (cok_cons c13 (cok_cons c14 (cok_cons c17 (cok_cons c27 (cok_cons c15 (cok_cons c16 (cok_cons c35 cok_nil)))))))) ?_
  intro args_ E_ nn_ cr_ hg_
  unfold g11 at hg_
  split at hg_
  · rename_i p_W p_H p_Cells at_X at_Y at_H cell
    split at hg_
    · rename_i p_Cells_n p_Cells_s p_Cells_f h_p_Cells
      cases hg_
      refine ⟨_, _, rfl, 1, [p_Cells], [.a [.v (.int .i64 p_W), .v (.int .i64 p_H), .n 0], .a [.v (.int .i64 at_X), .v (.int .i64 at_Y), .v (.int .i64 at_H)], .c (.v (.int .u16 cell))], [(0, .ro (decL eU8 p_Cells_n p_Cells_f).length eU8.sz (rowF eU8 (decL eU8 p_Cells_n p_Cells_f)))], .o (.c (.v (.bool (true)))), rfl, rfl, by simp only [push_cast, Nat.reduceLT, Nat.reduceAdd], by simp only [push_cast, Nat.reduceLT, Nat.reduceAdd], by simp only [push_cast, Nat.reduceLT, Nat.reduceAdd], rfl, ⟨inE0_row h_p_Cells, trivial⟩, rfl, ?_⟩
      intro hpre hlen
      obtain ⟨i_p_Cells, hpre⟩ := hpre
      refine ⟨⟨inE_row h_p_Cells i_p_Cells, trivial⟩, ?_⟩
      have z_p_Cells := lens_row (E := eU8) hlen h_p_Cells
      clear i_p_Cells
      generalize decL eU8 p_Cells_n p_Cells_f = p_CellsL at *
      clear h_p_Cells
      simp (config := {maxSteps := 10000000}) only [x11, push_cast, Nat.reduceAdd, Nat.reduceSub, Nat.reduceLeDiff, Nat.reduceEqDiff, Nat.reduceBEq, Nat.reduceMul, Nat.reduceLT, reduceIte, reduceCtorEq, Int.reduceLE, Int.reduceLT, Int.reduceEq, Int.reduceMul, Int.reduceAdd, Int.reduceSub, Int.reduceNeg, Int.reduceToNat, Int.reduceNe, g13, g14, g17, g27, g15, g16, g35, catF_zero]
      intro hl h1 h2 h3
      obtain ⟨_, hc, hu⟩ := hpre
      have hp : planB p_W p_H p_CellsL = true := by unfold inB at h1; rw [Bool.and_eq_true] at h1; exact h1.1
      have a := planB_at hp
      have hg : goodB p_W p_H p_CellsL at_X at_Y at_H = true := by unfold goodB; rw [h1, decide_eq_true ⟨h2, h3⟩]; rfl
      rw [show IntKind.i64.wrap cell = cell from wrapI (by omega) (by omega), tmod_pos hc.1, tmod_pos hc.1]
      have hi := emod_range (a := cell) (b := (p_CellsL.length : Int)) (by omega)
      generalize cell % (p_CellsL.length : Int) = i at *
      refine ⟨by omega, by omega, by omega, by rfl, ?_⟩
      generalize cell % 256 = m at *
      refine vcCut_upd (α := Unit) [3, 4, 7, 8, 9] 0 (fun _ => []) (fun _ => [(5, .own (wlM p_CellsL i.toNat).length 1 (rowF eU8 (wlM p_CellsL i.toNat)) 5)]) ?_ ?_
      rotate_left
      · simp only [push_cast, Nat.reduceAdd, Nat.reduceSub, Nat.reduceLeDiff, Nat.reduceEqDiff, Nat.reduceBEq, Nat.reduceMul, Nat.reduceLT, reduceIte, reduceCtorEq, Int.reduceLE, Int.reduceLT, Int.reduceEq, Int.reduceMul, Int.reduceAdd, Int.reduceSub, Int.reduceNeg, Int.reduceToNat, Int.reduceNe, g13, g14, g17, g27, g15, g16, g35, catF_zero]
        refine ⟨by omega, by omega, fun hne => ⟨by omega, by omega, by omega, by omega, by rfl, (), ?_⟩, fun he => ⟨(), ?_⟩⟩
        · have hv : p_CellsL.getD i.toNat eU8.dflt ≤ 2 := a.2.2.2.2 _ (by omega)
          have hv0 := hu _ (List.getElem_mem (show i.toNat < p_CellsL.length by omega))
          have hgd : p_CellsL.getD i.toNat eU8.dflt = p_CellsL[i.toNat]'(by omega) := by rw [List.getD_eq_getElem?_getD, List.getElem?_eq_getElem (by omega), Option.getD_some]
          rw [wrapU8 (by omega) (by omega)]
          exact same_set (by omega) (if_neg hne)
        · exact same_eq (if_pos he)
      intro _
      simp only [push_cast, Nat.reduceAdd, Nat.reduceSub, Nat.reduceLeDiff, Nat.reduceEqDiff, Nat.reduceBEq, Nat.reduceMul, Nat.reduceLT, reduceIte, reduceCtorEq, Int.reduceLE, Int.reduceLT, Int.reduceEq, Int.reduceMul, Int.reduceAdd, Int.reduceSub, Int.reduceNeg, Int.reduceToNat, Int.reduceNe, g13, g14, g17, g27, g15, g16, g35, catF_zero]
      have hMl := wlM_len p_CellsL i.toNat
      have hM := wlM_wall hp hu (i := i.toNat) (by omega)
      have hq := planB_wlM hp hu (i := i.toNat) (by omega)
      generalize wlM p_CellsL i.toNat = M at *
      rw [upd8 (v := 2) (by omega)]
      have hNl : (M.set i.toNat 2).length = M.length := List.length_set ..
      have hN : ∀ k, k < M.length → M.getD k eU8.dflt = 2 → (M.set i.toNat 2).getD k eU8.dflt = 2 := fun k hk h => by rw [getD_set (by omega)]; split; rfl; exact h
      have hr : planB p_W p_H (M.set i.toNat 2) = true := planB_set hq (by omega)
      generalize M.set i.toNat 2 = N at *
      rw [← hNl]
      simp only [decL_rowF]
      refine ⟨by rfl, by rfl, by omega, by omega, (isRow_rowF _).2 trivial, by rfl, ?_⟩
      rw [first_congr hp hq hM]
      have hX := more_law (px := at_X) (py := at_Y) (vx := (beamV at_H m).1) (vy := (beamV at_H m).2.1) (vd := (beamV at_H m).2.2) (most := 1024) hp hr (fun k hk h => hN k (by omega) ((hM k hk).2 h))
      clear hp hq hr hN hM h1 hg
      generalize bestC (firstO p_W p_H p_CellsL at_X at_Y (beamV at_H m).1 (beamV at_H m).2.1 (beamV at_H m).2.2 1024) = C1 at *
      generalize bestC (firstO p_W p_H N at_X at_Y (beamV at_H m).1 (beamV at_H m).2.1 (beamV at_H m).2.2 1024) = C2 at *
      generalize bestF (entC at_X at_Y (beamV at_H m).1 (beamV at_H m).2.1 (beamV at_H m).2.2) (firstO p_W p_H p_CellsL at_X at_Y (beamV at_H m).1 (beamV at_H m).2.1 (beamV at_H m).2.2 1024) = D1 at *
      generalize bestF (entC at_X at_Y (beamV at_H m).1 (beamV at_H m).2.1 (beamV at_H m).2.2) (firstO p_W p_H N at_X at_Y (beamV at_H m).1 (beamV at_H m).2.1 (beamV at_H m).2.2 1024) = D2 at *
      generalize (firstO p_W p_H p_CellsL at_X at_Y (beamV at_H m).1 (beamV at_H m).2.1 (beamV at_H m).2.2 1024).isSome = B1 at *
      generalize (firstO p_W p_H N at_X at_Y (beamV at_H m).1 (beamV at_H m).2.1 (beamV at_H m).2.2 1024).isSome = B2 at *
      have hcase : (B1 = false ∨ B1 = true ∧ B2 = true) := by cases B1; exact .inl rfl; exact .inr ⟨rfl, (hX rfl).1⟩
      rcases hcase with rfl | ⟨rfl, rfl⟩
      · simp (config := {maxSteps := 10000000}) only [decide_true, decide_false, push_cast, Nat.reduceAdd, Nat.reduceSub, Nat.reduceLeDiff, Nat.reduceEqDiff, Nat.reduceBEq, Nat.reduceMul, Nat.reduceLT, reduceIte, reduceCtorEq, Int.reduceLE, Int.reduceLT, Int.reduceEq, Int.reduceMul, Int.reduceAdd, Int.reduceSub, Int.reduceNeg, Int.reduceToNat, Int.reduceNe, g13, g14, g17, g27, g15, g16, g35, catF_zero]
      · simp (config := {maxSteps := 10000000}) only [decide_true, decide_false, push_cast, Nat.reduceAdd, Nat.reduceSub, Nat.reduceLeDiff, Nat.reduceEqDiff, Nat.reduceBEq, Nat.reduceMul, Nat.reduceLT, reduceIte, reduceCtorEq, Int.reduceLE, Int.reduceLT, Int.reduceEq, Int.reduceMul, Int.reduceAdd, Int.reduceSub, Int.reduceNeg, Int.reduceToNat, Int.reduceNe, g13, g14, g17, g27, g15, g16, g35, catF_zero]
        have z := (hX rfl).2
        have p1 := z.1.1.2.1
        have p2 := z.1.2.2.1
        exact ⟨fun _ _ => ⟨⟨p1, p2⟩, z.1⟩, fun _ _ => ⟨p1, p2⟩, ⟨p1, p2⟩, z.2⟩
    · cases hg_
  · cases hg_
end Go.Proofs.Ytpnpbbagonknjaa
set_option linter.unusedVariables false
set_option linter.unusedSimpArgs false
set_option maxRecDepth 20000
namespace Go.Proofs.Ytpnpbbagonknjaa
open Go.Sx Go.Way
def x12L0 : XC := (.seq (.seq (.reg false [O1 46 .mv 9, O1 47 (.fld 0) 3, O1 48 .load1 47, O2 49 (.bin .lss) 46 48]) (.cond (.t 49) .skip (.exit 2))) (.seq (.block 3 (.regD [O1 52 (.fld 2) 7, O1 53 .load1 52, O1 54 .mv 9, O1 55 (.fld 0) 7, O1 56 .load1 55, O2 57 (.bin .mul) 54 56, O1 58 (.fld 1) 3, O1 59 .load1 58, O2 60 (.bin .add) 57 59, K2 61 (.bin .sub) 60 (iV 1), O1 62 .mv 8, O2 63 (.bin .sub) 61 62, O1 64 (.fld 2) 3, O1 65 .load1 64, O1 66 .mv 8, O1 67 (.fld 0) 3, O1 68 .load1 67, O2 69 (.bin .mul) 66 68, O1 70 .mv 9, O2 71 (.bin .add) 69 70, O2 72 (.ixS 1) 65 71, O1 73 .load1 72, O2 74 (.ixS 1) 53 63, ⟨none, (.store 1), [(.t 74), (.t 73)], none⟩] [[], [0], [], [], [3], [2, 4, 3], [], [6], [5, 2, 4, 3, 7, 6], [8, 5, 2, 4, 3, 7, 6], [], [9, 8, 5, 2, 4, 3, 7, 6, 10], [], [12], [], [], [15], [14, 16, 15], [], [17, 14, 16, 15, 18], [13, 12, 19, 17, 14, 16, 15, 18], [20, 13, 12, 19, 17, 14, 16, 15, 18], [1, 0, 11, 9, 8, 5, 2, 4, 3, 7, 6, 10, 12, 13, 14, 15, 16, 17, 18, 19, 20, 21], [22, 1, 0, 11, 9, 8, 5, 2, 4, 3, 7, 6, 10, 12, 13, 14, 15, 16, 17, 18, 19, 20, 21]])) (.reg false [O1 50 .mv 9, K2 51 (.bin .add) 50 (iV 1), O1 9 .mv 51])))
def x12L1 : XC := (.seq (.seq (.reg false [O1 40 .mv 8, O1 41 (.fld 1) 3, O1 42 .load1 41, O2 43 (.bin .lss) 40 42]) (.cond (.t 43) .skip (.exit 0))) (.seq (.block 1 (.seq (.reg false [K1 9 .mv (iV 0)]) (.block 2 (.loop x12L0)))) (.reg false [O1 44 .mv 8, K2 45 (.bin .add) 44 (iV 1), O1 8 .mv 45])))
def x12 : XFn := ⟨120, (.seq (.reg false [O1 3 (.box 24) 0, O1 4 (.box 26) 1, K1 6 .mv (.bool false)]) (.seq (.seq (.reg false [⟨(some 17), (.call 13), [], none⟩, O1 18 (.un .not) 17, O1 19 .mv 18, G1 20 (.loadN 3) 3 19 false, G1 21 (.call 14) 20 19 false, G1 22 (.un .not) 21 19 false, ⟨(some 23), .pick, [(.t 19), (.k (.bool true)), (.t 22)], none⟩, O1 24 .mv 23, G1 25 (.loadN 3) 3 24 false, G1 26 (.loadN 3) 4 24 false, G2 27 (.call 27) 25 26 24 false, G1 28 (.un .not) 27 24 false, ⟨(some 29), .pick, [(.t 24), (.k (.bool true)), (.t 28)], none⟩]) (.cond (.t 29) (.seq (.reg false [⟨(some 30), (.call 13), [], none⟩, O1 6 .mv 30]) .ret) .skip)) (.seq (.regD [O1 31 (.fld 1) 3, O1 32 .load1 31, O1 33 (.fld 0) 3, O1 34 .load1 33, O1 35 (.fld 2) 3, O1 36 .load1 35, O1 37 .lenS 36, ⟨(some 38), (.mks 5 1 1 [(.int .u8 0)]), [(.t 37), (.t 37)], none⟩, ⟨(some 39), (.build [(iV 0), (iV 0), (.slice none 0 0)] [(0, 1), (1, 1), (2, 1)]), [(.t 32), (.t 34), (.t 38)], none⟩, ⟨(some 7), (.alloc 24 [(iV 0), (iV 0), (.slice none 0 0)]), [], none⟩, ⟨none, (.store 3), [(.t 7), (.t 39)], none⟩] [[], [0], [], [2], [], [4], [5, 4], [6, 5, 4], [1, 0, 3, 2, 7, 6, 5, 4], [], [9, 8, 1, 0, 3, 2, 7, 6, 5, 4]]) (.seq (.seq (.reg false [K1 8 .mv (iV 0)]) (.block 0 (.loop x12L1))) (.seq (.reg false [O1 75 (.fld 2) 4, O1 76 .load1 75, O1 77 .mv 2, O1 78 (.conv .i64) 77, O2 79 (.call 15) 76 78, ⟨(some 10), (.alloc 32 [(iV 0), (iV 0), (iV 0)]), [], none⟩, ⟨none, (.store 3), [(.t 10), (.t 79)], none⟩]) (.seq (.regD [O1 81 (.loadN 3) 3, O1 82 (.loadN 3) 4, O1 83 (.call 17) 82, O1 84 (.loadN 3) 10, ⟨(some 85), (.call 16), [(.t 81), (.t 83), (.t 84), (.k (iV 2048))], none⟩, O1 80 .mv 85, O1 86 (.ext 0) 80, O1 87 (.ext 1) 80, O1 88 (.ext 2) 80, ⟨(some 11), (.alloc 35 [(iV 0), (iV 0)]), [], none⟩, ⟨(some 12), (.alloc 37 [(iV 0), (iV 0)]), [], none⟩, ⟨none, (.store 2), [(.t 11), (.t 86)], none⟩, ⟨none, (.store 2), [(.t 12), (.t 87)], none⟩, O1 13 .mv 88] [[], [], [1], [], [0, 2, 1, 3], [4, 0, 2, 1, 3], [5, 4, 0, 2, 1, 3], [5, 4, 0, 2, 1, 3], [5, 4, 0, 2, 1, 3], [], [], [9, 6, 5, 4, 0, 2, 1, 3, 10], [10, 7, 5, 4, 0, 2, 1, 3, 11, 9, 6], [8, 5, 4, 0, 2, 1, 3, 12, 10, 7, 11, 9, 6]]) (.seq (.reg false [O1 90 (.loadN 3) 7, O1 91 (.fld 1) 3, O1 92 .load1 91, ⟨(some 93), (.bin .mul), [(.k (iV 64)), (.t 92)], none⟩, O1 94 (.fld 1) 4, O1 95 .load1 94, O2 96 (.bin .sub) 93 95, O1 97 (.fld 0) 4, O1 98 .load1 97, ⟨(some 99), (.build [(iV 0), (iV 0)] [(0, 1), (1, 1)]), [(.t 96), (.t 98)], none⟩, O1 100 (.fld 1) 10, O1 101 .load1 100, O1 102 (.un .neg) 101, O1 103 (.fld 0) 10, O1 104 .load1 103, O1 105 (.fld 2) 10, O1 106 .load1 105, ⟨(some 107), (.build [(iV 0), (iV 0), (iV 0)] [(0, 1), (1, 1), (2, 1)]), [(.t 102), (.t 104), (.t 106)], none⟩, ⟨(some 108), (.call 16), [(.t 90), (.t 99), (.t 107), (.k (iV 2048))], none⟩, O1 89 .mv 108, O1 109 (.ext 0) 89, O1 110 (.ext 1) 89, O1 111 (.ext 2) 89, ⟨(some 14), (.alloc 35 [(iV 0), (iV 0)]), [], none⟩, ⟨(some 15), (.alloc 37 [(iV 0), (iV 0)]), [], none⟩, ⟨none, (.store 2), [(.t 14), (.t 109)], none⟩, ⟨none, (.store 2), [(.t 15), (.t 110)], none⟩, O1 16 .mv 111]) (.seq (.reg false [O1 112 (.loadN 2) 11, O1 113 (.loadN 2) 14, ⟨(some 114), (.eqA false [(.i .i64), (.i .i64)]), [(.t 112), (.t 113)], none⟩, O1 115 .mv 114, G1 116 .mv 13 115 true, G1 117 .mv 16 115 true, G2 118 (.binb .eql) 116 117 115 true, ⟨(some 119), .pick, [(.t 115), (.t 118), (.k (.bool false))], none⟩, O1 6 .mv 119]) .ret)))))))), [(.s 6)]⟩
theorem x12_ok : xfn Try.prog Try.f12 = some x12.er := by kernel_rfl
/-- wayfinder/wayfinderlaw10.RayTurns -/
def g12 : Con := fun args_ E_ nn_ => match args_ with
  | [.a [.v (.int .i64 p_W), .v (.int .i64 p_H), .n p_Cells], .a [.v (.int .i64 at_X), .v (.int .i64 at_Y), .v (.int .i64 at_H)], .c (.v (.int .u8 mark))] => (match rowOf E_ p_Cells with
    | some (p_Cells_n, p_Cells_s, p_Cells_f) => some (.q (isRow eU8 p_Cells_n p_Cells_s p_Cells_f ∧ (-9223372036854775808 ≤ at_H ∧ at_H ≤ 9223372036854775807) ∧ (0 ≤ mark ∧ mark ≤ 255)) (.o (.c (.v (.bool (true))))))
    | none => none)
  | _ => none
theorem c12 : COk Try.prog 12 g12 := by
  refine cok_q Try.func12 x12_ok (by kernel_rfl) (cok_tab (cok_cons c13 (cok_cons c14 (cok_cons c17 (cok_cons c27 (cok_cons c15 (cok_cons c16 cok_nil))))))) ?_
  intro args_ E_ nn_ cr_ hg_
  unfold g12 at hg_
  split at hg_
  · rename_i p_W p_H p_Cells at_X at_Y at_H mark
    split at hg_
    · rename_i p_Cells_n p_Cells_s p_Cells_f h_p_Cells
      cases hg_
      refine ⟨_, _, rfl, 1, [p_Cells], [.a [.v (.int .i64 p_W), .v (.int .i64 p_H), .n 0], .a [.v (.int .i64 at_X), .v (.int .i64 at_Y), .v (.int .i64 at_H)], .c (.v (.int .u8 mark))], [(0, .ro (decL eU8 p_Cells_n p_Cells_f).length eU8.sz (rowF eU8 (decL eU8 p_Cells_n p_Cells_f)))], .o (.c (.v (.bool (true)))), rfl, rfl, by simp only [push_cast, Nat.reduceLT, Nat.reduceAdd], by simp only [push_cast, Nat.reduceLT, Nat.reduceAdd], by simp only [push_cast, Nat.reduceLT, Nat.reduceAdd], rfl, ⟨inE0_row h_p_Cells, trivial⟩, rfl, ?_⟩
      intro hpre hlen
      obtain ⟨i_p_Cells, hpre⟩ := hpre
      refine ⟨⟨inE_row h_p_Cells i_p_Cells, trivial⟩, ?_⟩
      have z_p_Cells := lens_row (E := eU8) hlen h_p_Cells
      clear i_p_Cells
      generalize decL eU8 p_Cells_n p_Cells_f = p_CellsL at *
      clear h_p_Cells
      simp (config := {maxSteps := 10000000}) only [x12, push_cast, Nat.reduceAdd, Nat.reduceSub, Nat.reduceLeDiff, Nat.reduceEqDiff, Nat.reduceBEq, Nat.reduceMul, Nat.reduceLT, reduceIte, reduceCtorEq, Int.reduceLE, Int.reduceLT, Int.reduceEq, Int.reduceMul, Int.reduceAdd, Int.reduceSub, Int.reduceNeg, Int.reduceToNat, Int.reduceNe, g13, g14, g17, g27, g15, g16, turnS_len]
      intro hl h1 h2 h3
      obtain ⟨_, hc⟩ := hpre
      have hp : planB p_W p_H p_CellsL = true := by unfold inB at h1; rw [Bool.and_eq_true] at h1; exact h1.1
      have a := planB_at hp
      have hlen : p_CellsL.length = p_W.toNat * p_H.toNat := by
        have : ((p_W.toNat * p_H.toNat : Nat) : Int) = p_W * p_H := by rw [Int.natCast_mul, Int.toNat_of_nonneg (by omega), Int.toNat_of_nonneg (by omega)]
        omega
      refine ⟨⟨by omega, by omega⟩, by rfl, ?_⟩
      refine vcLoop_upd (α := {k : Nat // (k : Int) ≤ p_H}) [2, 3, 4, 7] 0 (fun s => [(8, .o (.c (.v (.int .i64 (s.1 : Nat)))))]) (fun s => [(3, .own (turnS p_W.toNat p_H.toNat p_CellsL (s.1 * p_W.toNat)).length 1 (rowF eU8 (turnS p_W.toNat p_H.toNat p_CellsL (s.1 * p_W.toNat))) 5)]) (fun s => p_H.toNat - s.1) ⟨0, by omega⟩ ?_ ?_
      · simp only [push_cast, Nat.reduceAdd, Nat.reduceSub, Nat.reduceLeDiff, Nat.reduceEqDiff, Nat.reduceBEq, Nat.reduceMul, Nat.reduceLT, reduceIte, reduceCtorEq, Int.reduceLE, Int.reduceLT, Int.reduceEq, Int.reduceMul, Int.reduceAdd, Int.reduceSub, Int.reduceNeg, Int.reduceToNat, Int.reduceNe, g13, g14, g17, g27, g15, g16, turnS_len]
        refine repl8 fun e he => ?_
        rw [turnS_at he, if_neg (by omega)]
      rintro ⟨k, hk⟩
      simp only [x12L1, push_cast, Nat.reduceAdd, Nat.reduceSub, Nat.reduceLeDiff, Nat.reduceEqDiff, Nat.reduceBEq, Nat.reduceMul, Nat.reduceLT, reduceIte, reduceCtorEq, Int.reduceLE, Int.reduceLT, Int.reduceEq, Int.reduceMul, Int.reduceAdd, Int.reduceSub, Int.reduceNeg, Int.reduceToNat, Int.reduceNe, g13, g14, g17, g27, g15, g16, turnS_len]
      refine ⟨fun hlt => ?_, fun hge => ?_⟩
      · refine vcLoop_upd (α := {i : Nat // (i : Int) ≤ p_W}) [2, 3, 4, 7, 8] 0 (fun s => [(9, .o (.c (.v (.int .i64 (s.1 : Nat)))))]) (fun s => [(3, .own (turnS p_W.toNat p_H.toNat p_CellsL (k * p_W.toNat + s.1)).length 1 (rowF eU8 (turnS p_W.toNat p_H.toNat p_CellsL (k * p_W.toNat + s.1))) 5)]) (fun s => p_W.toNat - s.1) ⟨0, by omega⟩ ?_ ?_
        · simp only [push_cast, Nat.reduceAdd, Nat.reduceSub, Nat.reduceLeDiff, Nat.reduceEqDiff, Nat.reduceBEq, Nat.reduceMul, Nat.reduceLT, reduceIte, reduceCtorEq, Int.reduceLE, Int.reduceLT, Int.reduceEq, Int.reduceMul, Int.reduceAdd, Int.reduceSub, Int.reduceNeg, Int.reduceToNat, Int.reduceNe, g13, g14, g17, g27, g15, g16, turnS_len]
        rintro ⟨i, hi⟩
        simp only [x12L0, push_cast, Nat.reduceAdd, Nat.reduceSub, Nat.reduceLeDiff, Nat.reduceEqDiff, Nat.reduceBEq, Nat.reduceMul, Nat.reduceLT, reduceIte, reduceCtorEq, Int.reduceLE, Int.reduceLT, Int.reduceEq, Int.reduceMul, Int.reduceAdd, Int.reduceSub, Int.reduceNeg, Int.reduceToNat, Int.reduceNe, g13, g14, g17, g27, g15, g16, turnS_len]
        have e1 : ((k * p_W.toNat : Nat) : Int) = k * p_W := by rw [Int.natCast_mul, Int.toNat_of_nonneg (by omega)]
        have e2 : ((i * p_H.toNat : Nat) : Int) = i * p_H := by rw [Int.natCast_mul, Int.toNat_of_nonneg (by omega)]
        refine ⟨fun hlt2 => ?_, fun hge2 => ?_⟩
        · have l1 := pair_lt (w := p_W.toNat) (h := p_H.toNat) (x := i) (y := k) (by omega) (by omega)
          have l2 := pair_lt (w := p_H.toNat) (h := p_W.toNat) (x := p_H.toNat - 1 - k) (y := i) (by omega) (by omega)
          rw [Nat.mul_comm p_H.toNat] at l2
          rw [wrapI (n := (k : Int) * p_W) (by omega) (by omega), wrapI (n := (k : Int) * p_W + i) (by omega) (by omega), wrapI (n := (i : Int) * p_H) (by omega) (by omega), wrapI (n := (i : Int) * p_H + p_H) (by omega) (by omega), wrapI (n := (i : Int) * p_H + p_H - 1) (by omega) (by omega), wrapI (n := (i : Int) * p_H + p_H - 1 - k) (by omega) (by omega)]
          have t1 : ((k : Int) * p_W + i).toNat = k * p_W.toNat + i := by omega
          have t2 : ((i : Int) * p_H + p_H - 1 - k).toNat = i * p_H.toNat + (p_H.toNat - 1 - k) := by omega
          rw [t1, t2]
          refine ⟨by omega, by omega, by omega, by omega, by rfl, ⟨i + 1, by omega⟩, ⟨wrapI (by omega) (by omega), ?_⟩, by simp only; omega⟩
          have z := (same_set (L := turnS p_W.toNat p_H.toNat p_CellsL (k * p_W.toNat + i)) (i := i * p_H.toNat + (p_H.toNat - 1 - k)) (v := p_CellsL.getD (k * p_W.toNat + i) eU8.dflt) (b := [(1, SC.n 1), (2, SC.n 2), (4, SC.n 4), (3, SC.n 3), (0, SC.n 0)]) (by rw [turnS_len]; omega) rfl).2
          rw [turnS_len, ← turnS_set hlen (by omega) (by omega)] at z
          exact z
        · have hiw : i = p_W.toNat := by omega
          refine ⟨⟨k + 1, by omega⟩, ⟨wrapI (by omega) (by omega), ?_⟩, by simp only; omega⟩
          rw [show k * p_W.toNat + i = (k + 1) * p_W.toNat by rw [hiw, Nat.add_mul]; omega]
          exact (rowEq_rowF _ _ _ _).2 trivial
      have hk' : k = p_H.toNat := by omega
      have hx : (0 ≤ at_X ∧ at_X ≤ 64 * p_W) ∧ 0 ≤ at_Y ∧ at_Y ≤ 64 * p_H := by unfold inB at h1; rw [Bool.and_eq_true, decide_eq_true_eq] at h1; exact h1.2
      rw [show k * p_W.toNat = p_W.toNat * p_H.toNat by rw [hk', Nat.mul_comm], turnS_all hlen]
      have hT := turnL_len p_W.toNat p_H.toNat p_CellsL
      have hv := beam_vec at_H mark
      have bv := vec_bd hv
      have z := first_turn hv hp hx (most := 2048) (by omega)
      rw [← hT]
      simp only [decL_rowF]
      rw [show IntKind.i64.wrap mark = mark from wrapI (by omega) (by omega), wrapI (n := 64 * p_H) (by omega) (by omega), wrapI (n := 64 * p_H - at_Y) (by omega) (by omega), wrapI (n := -(beamV at_H mark).2.1) (by omega) (by omega)]
      exact ⟨by omega, by rfl, (isRow_rowF _).2 trivial, ⟨by rw [z.1], by rw [z.1]⟩, z.2⟩
    · cases hg_
  · cases hg_
end Go.Proofs.Ytpnpbbagonknjaa
