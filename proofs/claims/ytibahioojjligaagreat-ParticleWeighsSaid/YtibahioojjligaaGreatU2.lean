/- A part of the proof of a statement about this seat: how a function is stepped through, and plain laws. No conditions. -/
import Derived.Test.YtibahioojjligaaGreatRows
import Derived.Test.YtibahioojjligaaGreatSz3
import Derived.Test.YtibahioojjligaaGreatU1
import Derived.KernelRfl
set_option linter.unusedVariables false
set_option linter.unusedSimpArgs false
set_option maxRecDepth 20000
namespace Go.Proofs.YtibahioojjligaaGreat
open Go.Sx Go.Way
/-! ### The first wall of a ray: both searches -/
def wallB (W H : Int) (L : List Int) (c : CC) : Bool := decide (atB W H L c.X c.Y = 2)
def hitB (px py vx vy vd most : Int) (c : CC) : Bool := thrB px py vx vy vd (c.X * 64) (c.Y * 64) (c.X * 64 + 64) (c.Y * 64 + 64) && decide ((entC px py vx vy vd c).1 ≤ most * (entC px py vx vy vd c).2)
def rayL (W H : Int) (L : List Int) (px py vx vy vd most : Int) : List CC := (trL px py vx vy vd 0 most).filter (wallB W H L)
def refP (W H : Int) (L : List Int) (px py vx vy vd most : Int) (x y : Int) : Bool := wallB W H L ⟨x, y⟩ && hitB px py vx vy vd most ⟨x, y⟩
def refL (W H : Int) (L : List Int) (px py vx vy vd most : Int) : List CC := gridL (refP W H L px py vx vy vd most) (-1) W (-1) H
def okF (W H : Int) (L : List Int) (px py vx vy vd most : Int) : Bool := inB W H L px py && vecB vx vy vd && okR 0 most
def firstO (W H : Int) (L : List Int) (px py vx vy vd most : Int) : Option CC := if okF W H L px py vx vy vd most = true then pickL (ltK px py vx vy vd) (refL W H L px py vx vy vd most) else none
def sqR (c : CC) : Bool := sRectB (c.X * 64) (c.Y * 64) (c.X * 64 + 64) (c.Y * 64 + 64)
def InC (px py vx vy : Int) (c : CC) (t : Int × Int) : Prop := InS px py vx vy (c.X * 64) (c.Y * 64) (c.X * 64 + 64) (c.Y * 64 + 64) t
theorem hit_iff {px py vx vy vd most : Int} {c : CC} (h1 : sPtB px py = true) (h2 : vecB vx vy vd = true) (h3 : sqR c = true) : hitB px py vx vy vd most c = true ↔ ∃ t, InC px py vx vy c t ∧ t.1 * vd ≤ most * t.2 := by
  have a := vec_bd h2
  unfold hitB
  rw [Bool.and_eq_true, decide_eq_true_eq]
  constructor
  · rintro ⟨h, k⟩
    unfold entC entF at k
    exact ⟨_, (thr_ent h).1.1, (low_le (thrL_pos _ _ _ _ _ _ _ _)).1.1 k⟩
  · rintro ⟨t, ht, k⟩
    have h := thr_of h1 h2 h3 ht
    refine ⟨h, ?_⟩
    unfold entC entF
    rw [(low_le (thrL_pos _ _ _ _ _ _ _ _)).1]
    have e := (thr_ent h).1.2 t ht
    have hp := thrL_pos px py vx vy (c.X * 64) (c.Y * 64) (c.X * 64 + 64) (c.Y * 64 + 64)
    generalize thrL px py vx vy (c.X * 64) (c.Y * 64) (c.X * 64 + 64) (c.Y * 64 + 64) = z at *
    unfold flE at e
    refine Int.le_of_mul_le_mul_right (a := t.2) ?_ ht.1
    have f1 := Int.mul_le_mul_of_nonneg_right e (show 0 ≤ vd by omega)
    have f2 := Int.mul_le_mul_of_nonneg_right k (Int.le_of_lt hp)
    have r1 : z.1 * t.2 * vd = z.1 * vd * t.2 := by ac_rfl
    have r2 : t.1 * z.2 * vd = t.1 * vd * z.2 := by ac_rfl
    have r3 : most * t.2 * z.2 = most * z.2 * t.2 := by ac_rfl
    omega
theorem inC_shift {n m p d a b : Int} : inC n m 0 d (a - p) (b - p) ↔ inC n m p d a b := by
  unfold inC
  rw [Int.sub_mul, Int.sub_mul]
  omega
theorem sw_hit {px py vx vy vd most : Int} {c : CC} (h1 : sPtB px py = true) (h : swP px py px py vx vy vd 0 most c.X c.Y = true) : sqR c = true ∧ hitB px py vx vy vd most c = true := by
  unfold swP at h
  rw [Bool.and_eq_true] at h
  obtain ⟨h2, h3⟩ := h
  rw [meets_iff] at h3
  unfold MeP at h3
  obtain ⟨_, _, hv, _, n, m, hm, hn, hx, hy, _, hh⟩ := h3
  simp only [minusB, Bool.and_eq_true] at h2
  refine ⟨h2.1.1, (hit_iff h1 hv h2.1.1).2 ⟨(n, m), ⟨hm, hn, inC_shift.1 hx, inC_shift.1 hy⟩, hh⟩⟩
theorem hit_sw {px py vx vy vd most : Int} {c : CC} (hp : (0 ≤ px ∧ px ≤ 4096) ∧ 0 ≤ py ∧ py ≤ 4096) (hv : vecB vx vy vd = true) (hm : 0 ≤ most ∧ most ≤ 2048) (hc : (-1 ≤ c.X ∧ c.X ≤ 64) ∧ -1 ≤ c.Y ∧ c.Y ≤ 64) (h : hitB px py vx vy vd most c = true) :
    swP px py px py vx vy vd 0 most c.X c.Y = true := by
  have h1 : sPtB px py = true := by simp only [sPtB, nearB, Bool.and_eq_true, decide_eq_true_eq]; omega
  have h3 : sqR c = true := by simp only [sqR, sRectB, nearB, Bool.and_eq_true, decide_eq_true_eq]; omega
  obtain ⟨t, ⟨g1, g2, g3, g4⟩, g5⟩ := (hit_iff h1 hv h3).1 h
  unfold swP
  rw [Bool.and_eq_true, meets_iff]
  constructor
  · simp only [minusB, sRectB, nearB, Bool.and_eq_true, decide_eq_true_eq]; omega
  · have a := vec_bd hv
    refine ⟨by omega, by rfl, hv, by simp only [sRectB, nearB, Bool.and_eq_true, decide_eq_true_eq]; omega, t.1, t.2, g1, g2, inC_shift.2 g3, inC_shift.2 g4, ?_, g5⟩
    rw [Int.zero_mul]
    exact Int.mul_nonneg g2 (by omega)
theorem okF_at {W H : Int} {L : List Int} {px py vx vy vd most : Int} (h : okF W H L px py vx vy vd most = true) :
    planB W H L = true ∧ ((0 ≤ px ∧ px ≤ 64 * W) ∧ 0 ≤ py ∧ py ≤ 64 * H) ∧ vecB vx vy vd = true ∧ (0 ≤ most ∧ most ≤ 2048) ∧ ((1 ≤ W ∧ W ≤ 64) ∧ 1 ≤ H ∧ H ≤ 64) ∧ sPtB px py = true ∧ trE px py vx vy vd 0 most = 0 ∧ trL px py vx vy vd 0 most = swL px py px py vx vy vd 0 most := by
  simp only [okF, inB, okR, Bool.and_eq_true, decide_eq_true_eq] at h
  obtain ⟨⟨⟨h1, h2⟩, h3⟩, h4⟩ := h
  have a := planB_at h1
  have hp : pPtB px py = true := by unfold pPtB; rw [decide_eq_true_eq]; omega
  have e : trE px py vx vy vd 0 most = 0 := by
    unfold trE
    rw [if_neg (by simp [hp, h3]), if_neg]
    unfold okR
    simp only [decide_eq_false_iff_not]
    omega
  refine ⟨h1, h2, h3, by omega, ⟨a.1, a.2.1⟩, ?_, e, ?_⟩
  · simp only [sPtB, nearB, Bool.and_eq_true, decide_eq_true_eq]; omega
  · unfold trL; rw [if_pos e]
theorem wall_out {W H : Int} {L : List Int} {c : CC} (h : planB W H L = true) (hc : insB W H c.X c.Y = false) : wallB W H L c = true := by
  unfold wallB; rw [at_out h hc]; rfl
theorem refL_mem {W H : Int} {L : List Int} {px py vx vy vd most : Int} {c : CC} : c ∈ refL W H L px py vx vy vd most ↔ (wallB W H L c = true ∧ hitB px py vx vy vd most c = true) ∧ (-1 ≤ c.X ∧ c.X ≤ W) ∧ -1 ≤ c.Y ∧ c.Y ≤ H := by
  unfold refL
  rw [gridL_mem]
  unfold refP
  rw [Bool.and_eq_true]
theorem rayL_mem {W H : Int} {L : List Int} {px py vx vy vd most : Int} {c : CC} (h : okF W H L px py vx vy vd most = true) : c ∈ rayL W H L px py vx vy vd most ↔ swP px py px py vx vy vd 0 most c.X c.Y = true ∧ wallB W H L c = true := by
  obtain ⟨_, _, _, _, _, _, _, e⟩ := okF_at h
  unfold rayL
  rw [List.mem_filter, e, swL_mem]
/-- Both searches pick the same wall. -/
theorem first_eq {W H : Int} {L : List Int} {px py vx vy vd most : Int} (h : okF W H L px py vx vy vd most = true) : pickL (ltK px py vx vy vd) (rayL W H L px py vx vy vd most) = firstO W H L px py vx vy vd most := by
  obtain ⟨h1, h2, h3, h4, h5, h6, h7, h8⟩ := okF_at h
  have a := vec_bd h3
  unfold firstO
  rw [if_pos h]
  refine pick_eq (ltK_tr _ _ _ _ _) (ltK_neg _ _ _ _ _) (ltK_irr _ _ _ _ _) ?_ (gridL_sorted _ _ _ _ _) ?_ ?_
  · unfold rayL; rw [h8]; exact (swL_sorted _ _ _ _ _ _ _ _ _).filter _
  · intro c hc
    rw [refL_mem] at hc
    rw [rayL_mem h]
    exact ⟨hit_sw (by omega) h3 h4 (by omega) hc.1.2, hc.1.1⟩
  · intro c hc hn
    rw [rayL_mem h] at hc
    obtain ⟨k1, k2⟩ := sw_hit h6 hc.1
    have hout : ¬ ((-1 ≤ c.X ∧ c.X ≤ W) ∧ -1 ≤ c.Y ∧ c.Y ≤ H) := fun hr => hn (refL_mem.2 ⟨⟨hc.2, k2⟩, hr⟩)
    have k3 := k2
    unfold hitB at k3
    rw [Bool.and_eq_true, decide_eq_true_eq] at k3
    have hce := (thr_ent k3.1).1
    obtain ⟨bx, b2, s, hb1, hb2, hb3, hb4⟩ := ring h3 h5.1 h5.2 h2.1 h2.2 hce.1 hout
    have hsq : sqR ⟨bx, b2⟩ = true := by simp only [sqR, sRectB, nearB, Bool.and_eq_true, decide_eq_true_eq]; omega
    have hbt : thrB px py vx vy vd (bx * 64) (b2 * 64) (bx * 64 + 64) (b2 * 64 + 64) = true := thr_of h6 h3 hsq hb3
    have hbe := (thr_ent hbt).1
    have hlt : (thrL px py vx vy (bx * 64) (b2 * 64) (bx * 64 + 64) (b2 * 64 + 64)).1 * (thrL px py vx vy (c.X * 64) (c.Y * 64) (c.X * 64 + 64) (c.Y * 64 + 64)).2 < (thrL px py vx vy (c.X * 64) (c.Y * 64) (c.X * 64 + 64) (c.Y * 64 + 64)).1 * (thrL px py vx vy (bx * 64) (b2 * 64) (bx * 64 + 64) (b2 * 64 + 64)).2 := by
      have e1 := hbe.2 s hb3
      have p1 := hbe.1.1
      have p2 := hce.1.1
      have p3 := hb3.1
      unfold flE at e1
      clear hbe hce hbt hsq
      generalize thrL px py vx vy (bx * 64) (b2 * 64) (bx * 64 + 64) (b2 * 64 + 64) = B at *
      generalize thrL px py vx vy (c.X * 64) (c.Y * 64) (c.X * 64 + 64) (c.Y * 64 + 64) = C at *
      refine Int.lt_of_mul_lt_mul_right (a := s.2) ?_ (Int.le_of_lt p3)
      have f1 := Int.mul_le_mul_of_nonneg_right e1 (Int.le_of_lt p2)
      have f2 := Int.mul_lt_mul_of_pos_right hb4 p1
      have r1 : B.1 * s.2 * C.2 = B.1 * C.2 * s.2 := by ac_rfl
      have r2 : s.1 * B.2 * C.2 = s.1 * C.2 * B.2 := by ac_rfl
      have r3 : C.1 * s.2 * B.2 = C.1 * B.2 * s.2 := by ac_rfl
      omega
    have hlk : ltK px py vx vy vd ⟨bx, b2⟩ c = true := by
      unfold ltK entC entF
      rw [decide_eq_true_eq, low_lt (thrL_pos _ _ _ _ _ _ _ _) (thrL_pos _ _ _ _ _ _ _ _)]
      have := Int.mul_lt_mul_of_pos_right hlt (show 0 < vd by omega)
      generalize thrL px py vx vy (c.X * 64) (c.Y * 64) (c.X * 64 + 64) (c.Y * 64 + 64) = C at *
      simp only
      generalize thrL px py vx vy (bx * 64) (b2 * 64) (bx * 64 + 64) (b2 * 64 + 64) = B at *
      have r1 : B.1 * C.2 * vd = B.1 * vd * C.2 := by ac_rfl
      have r2 : C.1 * B.2 * vd = C.1 * vd * B.2 := by ac_rfl
      omega
    refine ⟨⟨bx, b2⟩, refL_mem.2 ⟨⟨wall_out h1 ?_, ?_⟩, hb1⟩, hlk⟩
    · unfold insB; rw [decide_eq_false_iff_not]; simp only; omega
    · unfold hitB
      rw [Bool.and_eq_true, decide_eq_true_eq]
      refine ⟨hbt, ?_⟩
      unfold ltK at hlk
      rw [decide_eq_true_eq] at hlk
      have p1 := entC_pos px py vx vy vd ⟨bx, b2⟩
      have p2 := entC_pos px py vx vy vd c
      have k4 := k3.2
      generalize entC px py vx vy vd ⟨bx, b2⟩ = B at *
      generalize entC px py vx vy vd c = C at *
      refine Int.le_of_mul_le_mul_right (a := C.2) ?_ p2
      have f1 := Int.mul_le_mul_of_nonneg_right k4 (Int.le_of_lt p1)
      have r1 : most * C.2 * B.2 = most * B.2 * C.2 := by ac_rfl
      omega
def bestF (K : CC → Int × Int) : Option CC → Int × Int
  | none => (0, 0)
  | some c => K c
def bestC : Option CC → CC
  | none => ⟨0, 0⟩
  | some c => c
theorem pick_mem {lt : CC → CC → Bool} {l : List CC} {c : CC} (h : pickL lt l = some c) : c ∈ l := by
  have key : ∀ (l : List CC) (o : Option CC), l.foldl (pickS lt) o = some c → c ∈ l ∨ o = some c := by
    intro l
    induction l with
    | nil => intro o h; exact .inr h
    | cons x l ih =>
      intro o h
      rw [List.foldl_cons] at h
      rcases ih _ h with h1 | h1
      · exact .inl (List.mem_cons_of_mem _ h1)
      · unfold pickS at h1
        split at h1
        · cases h1; exact .inl List.mem_cons_self
        · split at h1
          · cases h1; exact .inl List.mem_cons_self
          · exact .inr h1
  rcases key l none h with h1 | h1
  · exact h1
  · cases h1
/-- The sizes of a distance that is met. -/
theorem hit_bd {px py vx vy vd most : Int} {c : CC} (hm : 0 ≤ most ∧ most ≤ 2048) (h : hitB px py vx vy vd most c = true) :
    (0 ≤ (entC px py vx vy vd c).1 ∧ 1 ≤ (entC px py vx vy vd c).2 ∧ (entC px py vx vy vd c).2 ≤ 67108864) ∧ (entC px py vx vy vd c).1 ≤ 2048 * (entC px py vx vy vd c).2 ∧ ((entC px py vx vy vd c).2 = 1 ∨ (entC px py vx vy vd c).1 < 2048 * (entC px py vx vy vd c).2) := by
  unfold hitB at h
  rw [Bool.and_eq_true, decide_eq_true_eq] at h
  have b := thr_nn h.1
  have p := entC_pos px py vx vy vd c
  have e1 : 0 ≤ (entC px py vx vy vd c).1 := low_nn (Int.mul_nonneg b.1.1 (by omega))
  have e2 : (entC px py vx vy vd c).2 ≤ 67108864 := (low_bd (by omega) b.2.1.2).2
  have e3 : (entC px py vx vy vd c).1 ≤ 2048 * (entC px py vx vy vd c).2 := by
    have := Int.mul_le_mul_of_nonneg_right hm.2 (Int.le_of_lt p)
    omega
  have e4 : (entC px py vx vy vd c).1 = 2048 * (entC px py vx vy vd c).2 → (entC px py vx vy vd c).2 = 1 := fun e => low_one (show 0 < (thrL px py vx vy (c.X * 64) (c.Y * 64) (c.X * 64 + 64) (c.Y * 64 + 64)).2 by omega) e
  refine ⟨⟨e1, by omega, e2⟩, e3, ?_⟩
  rcases Classical.em ((entC px py vx vy vd c).2 = 1) with h1 | h1
  · exact .inl h1
  · exact .inr (by have := fun e => h1 (e4 e); omega)
theorem prod_bd {n d e : Int} (h0 : 0 ≤ n) (h1 : 1 ≤ d ∧ d ≤ 67108864) (h2 : n ≤ 2048 * d) (h3 : d = 1 ∨ n < 2048 * d) (he : 1 ≤ e ∧ e ≤ 67108864) : 0 ≤ n * e ∧ n * e ≤ 9223372036854775807 := by
  have a := Int.mul_nonneg h0 (show 0 ≤ e by omega)
  have b : n ≤ 137438953471 := by rcases h3 with h | h <;> omega
  have c := Int.mul_le_mul b he.2 (by omega) (by omega)
  omega
def takeW (W H : Int) (L : List Int) (T : List CC) (k : Nat) : List CC := (T.take k).filter (wallB W H L)
theorem takeW_yes {W H : Int} {L : List Int} {T : List CC} {k : Nat} (hk : k < T.length) (h : wallB W H L (T.getD k eC.dflt) = true) : takeW W H L T (k + 1) = takeW W H L T k ++ [T.getD k eC.dflt] := by
  have e : T.getD k eC.dflt = T[k] := by rw [List.getD_eq_getElem?_getD, List.getElem?_eq_getElem hk, Option.getD_some]
  unfold takeW
  rw [List.take_add_one, List.getElem?_eq_getElem hk, Option.toList_some, List.filter_append, e]
  rw [e] at h
  simp [h]
theorem takeW_no {W H : Int} {L : List Int} {T : List CC} {k : Nat} (hk : k < T.length) (h : wallB W H L (T.getD k eC.dflt) = false) : takeW W H L T (k + 1) = takeW W H L T k := by
  have e : T.getD k eC.dflt = T[k] := by rw [List.getD_eq_getElem?_getD, List.getElem?_eq_getElem hk, Option.getD_some]
  unfold takeW
  rw [List.take_add_one, List.getElem?_eq_getElem hk, Option.toList_some, List.filter_append]
  rw [e] at h
  simp [h]
theorem takeW_all {W H : Int} {L : List Int} {T : List CC} {k : Nat} (hk : T.length ≤ k) : takeW W H L T k = T.filter (wallB W H L) := by
  unfold takeW; rw [List.take_of_length_le hk]
theorem takeW_mem {W H : Int} {L : List Int} {T : List CC} {k : Nat} {c : CC} (h : c ∈ takeW W H L T k) : c ∈ T := List.mem_of_mem_take (List.mem_filter.1 h).1
theorem tr_at {px py vx vy vd most : Int} {c : CC} (hp : (0 ≤ px ∧ px ≤ 4096) ∧ 0 ≤ py ∧ py ≤ 4096) (hv : vecB vx vy vd = true) (hm : 0 ≤ most ∧ most ≤ 2048) (h : swP px py px py vx vy vd 0 most c.X c.Y = true) :
    sqB c.X c.Y = true ∧ hitB px py vx vy vd most c = true := by
  have h1 : sPtB px py = true := by simp only [sPtB, nearB, Bool.and_eq_true, decide_eq_true_eq]; omega
  have a := vec_bd hv
  have r := sw_rng h
  have fx := frac_bd (lo := 0) (hi := most) (n := vx) (d := vd) (by omega) (by omega) (by omega) (by omega) (by omega)
  have fy := frac_bd (lo := 0) (hi := most) (n := vy) (d := vd) (by omega) (by omega) (by omega) (by omega) (by omega)
  refine ⟨?_, (sw_hit h1 h).2⟩
  unfold sqB
  rw [decide_eq_true_eq]
  omega
theorem okF_no {W H : Int} {L : List Int} {px py vx vy vd most : Int} (h : okF W H L px py vx vy vd most = false) : firstO W H L px py vx vy vd most = none := by unfold firstO; rw [h]; rfl
theorem okF_of {W H : Int} {L : List Int} {px py vx vy vd most : Int} (h : inB W H L px py = true) : okF W H L px py vx vy vd most = true ↔ trE px py vx vy vd 0 most = 0 := by
  constructor
  · exact fun h => (okF_at h).2.2.2.2.2.2.1
  · intro h2
    unfold trE at h2
    split at h2
    · cases h2
    · rename_i h3
      split at h2
      · cases h2
      · rename_i h4
        simp only [not_or, Bool.not_eq_false] at h3 h4
        unfold okF
        rw [h, h3.2, h4]
        rfl
theorem tr_len {px py vx vy vd most : Int} (hp : (0 ≤ px ∧ px ≤ 4096) ∧ 0 ≤ py ∧ py ≤ 4096) (hv : vecB vx vy vd = true) (hm : 0 ≤ most ∧ most ≤ 2048) : (swL px py px py vx vy vd 0 most).length ≤ 1000000 := by
  have a := vec_bd hv
  have fx := frac_bd (lo := 0) (hi := most) (n := vx) (d := vd) (by omega) (by omega) (by omega) (by omega) (by omega)
  have fy := frac_bd (lo := 0) (hi := most) (n := vy) (d := vd) (by omega) (by omega) (by omega) (by omega) (by omega)
  unfold swL gridL
  refine Nat.le_trans (gridUp_len _ _ _ _ _) ?_
  have e1 : (rHi py vy vd 0 most - rLo py vy vd 0 most + 1).toNat ≤ 1000 := by unfold rHi rLo; omega
  have e2 : (rHi px vx vd 0 most - rLo px vx vd 0 most + 1).toNat ≤ 1000 := by unfold rHi rLo; omega
  exact Nat.mul_le_mul e1 e2
def x53L0 : XC := (.seq (.reg false [O2 42 (.bin .lss) 41 40]) (.seq (.cond (.t 42) .skip (.exit 0)) (.seq (.block 1 (.seq (.reg false [O2 43 (.ixS 2) 39 41, O1 44 (.loadN 2) 43, ⟨(some 17), (.alloc 74 [(iV 0), (iV 0)]), [], none⟩, ⟨none, (.store 2), [(.t 17), (.t 44)], none⟩]) (.seq (.seq (.reg false [O1 45 (.loadN 3) 4, O1 46 (.loadN 2) 17, O2 47 (.call 36) 45 46, K2 48 (.bin .neq) 47 (.int .u8 2)]) (.cond (.t 48) (.exit 1) .skip)) (.seq (.reg false [O1 50 (.loadN 2) 17, O1 51 (.call 64) 50, O1 49 .mv 51, O1 52 (.ext 0) 49, O1 53 (.ext 1) 49, ⟨(some 18), (.alloc 83 [(iV 0), (iV 0), (iV 0), (iV 0)]), [], none⟩, ⟨none, (.store 4), [(.t 18), (.t 52)], none⟩, O1 19 .mv 53]) (.seq (.reg false [O1 55 (.loadN 2) 5, O1 56 (.loadN 3) 6, O1 57 (.loadN 4) 18, ⟨(some 58), (.call 65), [(.t 55), (.t 56), (.t 57)], none⟩, O1 54 .mv 58, O1 59 (.ext 0) 54, O1 60 (.ext 1) 54, ⟨(some 20), (.alloc 42 [(iV 0), (iV 0)]), [], none⟩, ⟨none, (.store 2), [(.t 20), (.t 59)], none⟩, O1 21 .mv 60]) (.seq (.reg false [O1 61 .mv 15, O1 62 (.un .not) 61, O1 63 .mv 62, G1 64 (.fld 0) 20 63 false, G1 65 .load1 64 63 false, G1 66 (.fld 1) 13 63 false, G1 67 .load1 66 63 false, G2 68 (.bin .mul) 65 67 63 false, G1 69 (.fld 0) 13 63 false, G1 70 .load1 69 63 false, G1 71 (.fld 1) 20 63 false, G1 72 .load1 71 63 false, G2 73 (.bin .mul) 70 72 63 false, G2 74 (.bin .lss) 68 73 63 false, ⟨(some 75), .pick, [(.t 63), (.k (.bool true)), (.t 74)], none⟩]) (.cond (.t 75) (.regD [O1 76 (.loadN 2) 20, O1 77 (.loadN 2) 17, ⟨none, (.store 2), [(.t 13), (.t 76)], none⟩, ⟨none, (.store 2), [(.t 14), (.t 77)], none⟩, K1 15 .mv (.bool true)] [[], [], [0], [1, 2, 0], [3, 1, 2, 0]]) .skip))))))) (.reg false [K2 78 (.bin .add) 41 (iV 1), O1 41 .mv 78]))))
def x53 : XFn := ⟨82, (.seq (.reg false [O1 4 (.box 25) 0, O1 5 (.box 55) 1, O1 6 (.box 94) 2, ⟨(some 8), (.alloc 42 [(iV 0), (iV 0)]), [], none⟩, ⟨(some 9), (.alloc 74 [(iV 0), (iV 0)]), [], none⟩, K1 10 .mv (.bool false)]) (.seq (.seq (.reg false [O1 22 (.loadN 3) 4, O1 23 (.loadN 2) 5, O2 24 (.call 52) 22 23, O1 25 (.un .not) 24]) (.cond (.t 25) (.seq (.reg false [⟨(some 26), (.build [(iV 0), (iV 0)] []), [], none⟩, ⟨(some 27), (.build [(iV 0), (iV 0)] []), [], none⟩, ⟨none, (.store 2), [(.t 8), (.t 26)], none⟩, ⟨none, (.store 2), [(.t 9), (.t 27)], none⟩, K1 10 .mv (.bool false)]) .ret) .skip)) (.seq (.reg false [O1 29 (.loadN 2) 5, O1 30 (.loadN 3) 6, O1 31 .mv 3, ⟨(some 32), (.call 63), [(.t 29), (.t 30), (.k (iV 0)), (.t 31)], none⟩, O1 28 .mv 32, O1 33 (.ext 0) 28, O1 34 (.ext 1) 28, O1 11 .mv 33, O1 12 .mv 34]) (.seq (.seq (.reg false [O1 35 .mv 12, K2 36 (.bin .neq) 35 (iV 0)]) (.cond (.t 36) (.seq (.reg false [⟨(some 37), (.build [(iV 0), (iV 0)] []), [], none⟩, ⟨(some 38), (.build [(iV 0), (iV 0)] []), [], none⟩, ⟨none, (.store 2), [(.t 8), (.t 37)], none⟩, ⟨none, (.store 2), [(.t 9), (.t 38)], none⟩, K1 10 .mv (.bool false)]) .ret) .skip)) (.seq (.reg false [⟨(some 13), (.alloc 42 [(iV 0), (iV 0)]), [], none⟩]) (.seq (.reg false [⟨(some 14), (.alloc 74 [(iV 0), (iV 0)]), [], none⟩]) (.seq (.reg false [K1 15 .mv (.bool false)]) (.seq (.seq (.reg false [O1 39 .mv 11, O1 40 .lenS 39, K1 41 .mv (iV 0)]) (.block 0 (.loop x53L0))) (.seq (.regD [O1 79 (.loadN 2) 13, O1 80 (.loadN 2) 14, O1 81 .mv 15, ⟨none, (.store 2), [(.t 8), (.t 79)], none⟩, ⟨none, (.store 2), [(.t 9), (.t 80)], none⟩, O1 10 .mv 81] [[], [], [], [0], [1, 3, 0], [2, 4, 1, 3, 0]]) .ret))))))))), [(.bn 8 2), (.bn 9 2), (.s 10)]⟩
theorem x53_ok : xfn Tryz.prog Tryz.f53 = some x53.er := by kernel_rfl
/-- wayfinder/ray.First -/
def g53 : Con := fun args_ E_ nn_ => match args_ with
  | [.a [.v (.int .i64 p_W), .v (.int .i64 p_H), .n p_Cells], .a [.v (.int .i64 at_X), .v (.int .i64 at_Y)], .a [.v (.int .i64 v_X), .v (.int .i64 v_Y), .v (.int .i64 v_D)], .c (.v (.int .i64 most))] => (match rowOf E_ p_Cells with
    | some (p_Cells_n, p_Cells_s, p_Cells_f) => some (.q (isRow eU8 p_Cells_n p_Cells_s p_Cells_f ∧ True) (.t [.a [.v (.int .i64 (bestF (entC at_X at_Y v_X v_Y v_D) (firstO p_W p_H (decL eU8 p_Cells_n p_Cells_f) at_X at_Y v_X v_Y v_D most)).1), .v (.int .i64 (bestF (entC at_X at_Y v_X v_Y v_D) (firstO p_W p_H (decL eU8 p_Cells_n p_Cells_f) at_X at_Y v_X v_Y v_D most)).2)], .a [.v (.int .i64 (bestC (firstO p_W p_H (decL eU8 p_Cells_n p_Cells_f) at_X at_Y v_X v_Y v_D most)).X), .v (.int .i64 (bestC (firstO p_W p_H (decL eU8 p_Cells_n p_Cells_f) at_X at_Y v_X v_Y v_D most)).Y)], .c (.v (.bool (((firstO p_W p_H (decL eU8 p_Cells_n p_Cells_f) at_X at_Y v_X v_Y v_D most)).isSome)))]))
    | none => none)
  | _ => none
set_option maxHeartbeats 1600000 in
theorem c53 : COk Tryz.prog 53 g53 := by
  refine cok_q Tryz.func53 x53_ok (by kernel_rfl) (cok_tab (cok_cons c52 (cok_cons c63 (cok_cons c36 (cok_cons c64 (cok_cons c65 cok_nil)))))) ?_
  intro args_ E_ nn_ cr_ hg_
  unfold g53 at hg_
  split at hg_
  · rename_i p_W p_H p_Cells at_X at_Y v_X v_Y v_D most
    split at hg_
    · rename_i p_Cells_n p_Cells_s p_Cells_f h_p_Cells
      cases hg_
      refine ⟨_, _, rfl, 1, [p_Cells], [.a [.v (.int .i64 p_W), .v (.int .i64 p_H), .n 0], .a [.v (.int .i64 at_X), .v (.int .i64 at_Y)], .a [.v (.int .i64 v_X), .v (.int .i64 v_Y), .v (.int .i64 v_D)], .c (.v (.int .i64 most))], [(0, .ro (decL eU8 p_Cells_n p_Cells_f).length eU8.sz (rowF eU8 (decL eU8 p_Cells_n p_Cells_f)))], .t [.a [.v (.int .i64 (bestF (entC at_X at_Y v_X v_Y v_D) (firstO p_W p_H (decL eU8 p_Cells_n p_Cells_f) at_X at_Y v_X v_Y v_D most)).1), .v (.int .i64 (bestF (entC at_X at_Y v_X v_Y v_D) (firstO p_W p_H (decL eU8 p_Cells_n p_Cells_f) at_X at_Y v_X v_Y v_D most)).2)], .a [.v (.int .i64 (bestC (firstO p_W p_H (decL eU8 p_Cells_n p_Cells_f) at_X at_Y v_X v_Y v_D most)).X), .v (.int .i64 (bestC (firstO p_W p_H (decL eU8 p_Cells_n p_Cells_f) at_X at_Y v_X v_Y v_D most)).Y)], .c (.v (.bool (((firstO p_W p_H (decL eU8 p_Cells_n p_Cells_f) at_X at_Y v_X v_Y v_D most)).isSome)))], rfl, rfl, by simp only [push_cast, Nat.reduceLT, Nat.reduceAdd], by simp only [push_cast, Nat.reduceLT, Nat.reduceAdd], by simp only [push_cast, Nat.reduceLT, Nat.reduceAdd], rfl, ⟨inE0_row h_p_Cells, trivial⟩, rfl, ?_⟩
      intro hpre hlen
      obtain ⟨i_p_Cells, hpre⟩ := hpre
      refine ⟨⟨inE_row h_p_Cells i_p_Cells, trivial⟩, ?_⟩
      have z_p_Cells := lens_row (E := eU8) hlen h_p_Cells
      clear i_p_Cells
      generalize decL eU8 p_Cells_n p_Cells_f = p_CellsL at *
      clear h_p_Cells
      simp (config := {maxSteps := 10000000}) only [x53, push_cast, Nat.reduceAdd, Nat.reduceSub, Nat.reduceLeDiff, Nat.reduceEqDiff, Nat.reduceBEq, Nat.reduceMul, Nat.reduceLT, reduceIte, reduceCtorEq, Int.reduceLE, Int.reduceLT, Int.reduceEq, Int.reduceMul, Int.reduceAdd, Int.reduceSub, Int.reduceNeg, Int.reduceToNat, Int.reduceNe, g52, g63, g36, g64, g65]
      refine ⟨fun h => ?_, fun h => ⟨fun h2 => ?_, fun h2 => ?_⟩⟩
      · rw [okF_no (by unfold okF; rw [h]; rfl)]; exact ⟨⟨rfl, rfl⟩, ⟨rfl, rfl⟩, rfl⟩
      · rw [okF_no (by rw [Bool.eq_false_iff]; exact fun h3 => h2 ((okF_of h).1 h3))]; exact ⟨⟨rfl, rfl⟩, ⟨rfl, rfl⟩, rfl⟩
      have hok := (okF_of (L := p_CellsL) h).2 h2
      have hf := first_eq hok
      obtain ⟨g1, g2, g3, g4, g5, g6, g7, g8'⟩ := okF_at hok
      have hT : ∀ c ∈ trL at_X at_Y v_X v_Y v_D 0 most, sqB c.X c.Y = true ∧ hitB at_X at_Y v_X v_Y v_D most c = true := by
        intro c hc
        rw [g8', swL_mem] at hc
        exact tr_at (by omega) g3 g4 hc
      have hTl : (trL at_X at_Y v_X v_Y v_D 0 most).length ≤ 1000000 := by rw [g8']; exact tr_len (by omega) g3 g4
      unfold rayL at hf
      rw [← hf]
      clear hf g7 g8'
      generalize trL at_X at_Y v_X v_Y v_D 0 most = T at *
      refine vcLoop_upd (α := {k : Nat // k ≤ T.length}) [4, 5, 6, 8, 9, 13, 14, 39, 40] 0 (fun s => [(15, .o (.c (.v (.bool ((pickL (ltK at_X at_Y v_X v_Y v_D) (takeW p_W p_H p_CellsL T s.1)).isSome))))), (41, .o (.c (.v (.int .i64 (s.1 : Nat)))))]) (fun s => [(7, .box [.v (.int .i64 (bestF (entC at_X at_Y v_X v_Y v_D) (pickL (ltK at_X at_Y v_X v_Y v_D) (takeW p_W p_H p_CellsL T s.1))).1), .v (.int .i64 (bestF (entC at_X at_Y v_X v_Y v_D) (pickL (ltK at_X at_Y v_X v_Y v_D) (takeW p_W p_H p_CellsL T s.1))).2)] 42), (8, .box [.v (.int .i64 (bestC (pickL (ltK at_X at_Y v_X v_Y v_D) (takeW p_W p_H p_CellsL T s.1))).X), .v (.int .i64 (bestC (pickL (ltK at_X at_Y v_X v_Y v_D) (takeW p_W p_H p_CellsL T s.1))).Y)] 74)]) (fun s => T.length - s.1) ⟨0, by omega⟩ ?_ ?_
      · simp only [push_cast, Nat.reduceAdd, Nat.reduceSub, Nat.reduceLeDiff, Nat.reduceEqDiff, Nat.reduceBEq, Nat.reduceMul, Nat.reduceLT, reduceIte, reduceCtorEq, Int.reduceLE, Int.reduceLT, Int.reduceEq, Int.reduceMul, Int.reduceAdd, Int.reduceSub, Int.reduceNeg, Int.reduceToNat, Int.reduceNe, g52, g63, g36, g64, g65]
        exact ⟨rfl, ⟨rfl, rfl⟩, rfl, rfl⟩
      rintro ⟨k, hk⟩
      by_cases hlt : k < T.length
      · obtain ⟨hq, hh⟩ := hT _ (getD_in hlt)
        have hb := hit_bd g4 hh
        have ht : thrB at_X at_Y v_X v_Y v_D ((T.getD k eC.dflt).X * 64) ((T.getD k eC.dflt).Y * 64) ((T.getD k eC.dflt).X * 64 + 64) ((T.getD k eC.dflt).Y * 64 + 64) = true := by unfold hitB at hh; rw [Bool.and_eq_true] at hh; exact hh.1
        have hK : entF at_X at_Y v_X v_Y v_D ((T.getD k eC.dflt).X * 64) ((T.getD k eC.dflt).Y * 64) ((T.getD k eC.dflt).X * 64 + 64) ((T.getD k eC.dflt).Y * 64 + 64) = entC at_X at_Y v_X v_Y v_D (T.getD k eC.dflt) := rfl
        cases hw : wallB p_W p_H p_CellsL (T.getD k eC.dflt)
        · have hw' : ¬ atB p_W p_H p_CellsL (T.getD k eC.dflt).X (T.getD k eC.dflt).Y = 2 := by unfold wallB at hw; rw [decide_eq_false_iff_not] at hw; exact hw
          simp only [x53L0, hlt, hw', push_cast, Nat.reduceAdd, Nat.reduceSub, Nat.reduceLeDiff, Nat.reduceEqDiff, Nat.reduceBEq, Nat.reduceMul, Nat.reduceLT, reduceIte, reduceCtorEq, Int.reduceLE, Int.reduceLT, Int.reduceEq, Int.reduceMul, Int.reduceAdd, Int.reduceSub, Int.reduceNeg, Int.reduceToNat, Int.reduceNe, g52, g63, g36, g64, g65]
          refine ⟨⟨k + 1, by omega⟩, ?_, by simp only; omega⟩
          simp only
          rw [takeW_no hlt hw]
          exact ⟨⟨rfl, wrapI (by omega) (by omega)⟩, ⟨rfl, rfl⟩, rfl, rfl⟩
        · have hw' : atB p_W p_H p_CellsL (T.getD k eC.dflt).X (T.getD k eC.dflt).Y = 2 := by unfold wallB at hw; rw [decide_eq_true_eq] at hw; exact hw
          cases ho : pickL (ltK at_X at_Y v_X v_Y v_D) (takeW p_W p_H p_CellsL T k) with
          | none =>
            simp only [x53L0, hlt, hw', hq, ht, hK, ho, mI_t, bestF, bestC, Option.isSome_none, Option.isSome_some, push_cast, Nat.reduceAdd, Nat.reduceSub, Nat.reduceLeDiff, Nat.reduceEqDiff, Nat.reduceBEq, Nat.reduceMul, Nat.reduceLT, reduceIte, reduceCtorEq, Int.reduceLE, Int.reduceLT, Int.reduceEq, Int.reduceMul, Int.reduceAdd, Int.reduceSub, Int.reduceNeg, Int.reduceToNat, Int.reduceNe, g52, g63, g36, g64, g65]
            have e : pickL (ltK at_X at_Y v_X v_Y v_D) (takeW p_W p_H p_CellsL T (k + 1)) = some (T.getD k eC.dflt) := by rw [takeW_yes hlt hw, pickL_snoc, ho]; rfl
            refine ⟨by rfl, ⟨k + 1, by omega⟩, ?_, by simp only; omega⟩
            simp only [e]
            exact ⟨⟨rfl, wrapI (by omega) (by omega)⟩, ⟨trivial, trivial⟩, trivial, trivial⟩
          | some b =>
            have hbb := hit_bd g4 (hT _ (takeW_mem (pick_mem ho))).2
            simp only [x53L0, hlt, hw', hq, ht, hK, ho, mI_t, bestF, bestC, Option.isSome_none, Option.isSome_some, push_cast, Nat.reduceAdd, Nat.reduceSub, Nat.reduceLeDiff, Nat.reduceEqDiff, Nat.reduceBEq, Nat.reduceMul, Nat.reduceLT, reduceIte, reduceCtorEq, Int.reduceLE, Int.reduceLT, Int.reduceEq, Int.reduceMul, Int.reduceAdd, Int.reduceSub, Int.reduceNeg, Int.reduceToNat, Int.reduceNe, g52, g63, g36, g64, g65]
            have m1 := prod_bd (e := (entC at_X at_Y v_X v_Y v_D b).2) hb.1.1 hb.1.2 hb.2.1 hb.2.2 hbb.1.2
            have m2 := prod_bd (e := (entC at_X at_Y v_X v_Y v_D (T.getD k eC.dflt)).2) hbb.1.1 hbb.1.2 hbb.2.1 hbb.2.2 hb.1.2
            rw [wrapI (by omega) m1.2, wrapI (by omega) m2.2]
            refine ⟨fun hl => ?_, fun hl => ?_⟩
            · have e : pickL (ltK at_X at_Y v_X v_Y v_D) (takeW p_W p_H p_CellsL T (k + 1)) = some (T.getD k eC.dflt) := by rw [takeW_yes hlt hw, pickL_snoc, ho]; exact if_pos (decide_eq_true hl)
              refine ⟨by rfl, ⟨k + 1, by omega⟩, ?_, by simp only; omega⟩
              simp only [e]
              exact ⟨⟨rfl, wrapI (by omega) (by omega)⟩, ⟨trivial, trivial⟩, trivial, trivial⟩
            · have e : pickL (ltK at_X at_Y v_X v_Y v_D) (takeW p_W p_H p_CellsL T (k + 1)) = some b := by rw [takeW_yes hlt hw, pickL_snoc, ho]; exact if_neg (by unfold ltK; rw [decide_eq_true_eq]; exact hl)
              refine ⟨⟨k + 1, by omega⟩, ?_, by simp only; omega⟩
              simp only [e]
              exact ⟨⟨rfl, wrapI (by omega) (by omega)⟩, ⟨trivial, trivial⟩, trivial, trivial⟩
      · simp only [x53L0, hlt, push_cast, Nat.reduceAdd, Nat.reduceSub, Nat.reduceLeDiff, Nat.reduceEqDiff, Nat.reduceBEq, Nat.reduceMul, Nat.reduceLT, reduceIte, reduceCtorEq, Int.reduceLE, Int.reduceLT, Int.reduceEq, Int.reduceMul, Int.reduceAdd, Int.reduceSub, Int.reduceNeg, Int.reduceToNat, Int.reduceNe, g52, g63, g36, g64, g65]
        rw [takeW_all (by omega)]
        exact ⟨by rfl, ⟨rfl, rfl⟩, ⟨rfl, rfl⟩, rfl⟩
    · cases hg_
  · cases hg_
end Go.Proofs.YtibahioojjligaaGreat
set_option linter.unusedVariables false
set_option linter.unusedSimpArgs false
set_option maxRecDepth 20000
namespace Go.Proofs.YtibahioojjligaaGreat
open Go.Sx Go.Way
theorem ent_bd {px py vx vy vd : Int} {c : CC} (h : thrB px py vx vy vd (c.X * 64) (c.Y * 64) (c.X * 64 + 64) (c.Y * 64 + 64) = true) : (0 ≤ (entC px py vx vy vd c).1 ∧ (entC px py vx vy vd c).1 ≤ 562949953421312) ∧ 1 ≤ (entC px py vx vy vd c).2 ∧ (entC px py vx vy vd c).2 ≤ 67108864 := by
  have b := thr_nn h
  have p := entC_pos px py vx vy vd c
  have m := mulB (a := (thrL px py vx vy (c.X * 64) (c.Y * 64) (c.X * 64 + 64) (c.Y * 64 + 64)).1) (b := vd) (A := 8388608) (B := 67108864) (by omega) (by omega) (by omega) (by omega)
  have e1 : 0 ≤ (entC px py vx vy vd c).1 := low_nn (Int.mul_nonneg b.1.1 (by omega))
  have e2 : (entC px py vx vy vd c).2 ≤ 67108864 := (low_bd (by omega) b.2.1.2).2
  have hg : ∀ n d : Int, 0 < d → (1 : Int) ≤ (Int.gcd n d : Int) := fun n d hd => by
    have : Int.gcd n d ≠ 0 := fun h => by rw [Int.gcd_eq_zero_iff] at h; omega
    omega
  have e3 : (entC px py vx vy vd c).1 ≤ 562949953421312 := (divB (hg _ _ (show 0 < (thrL px py vx vy (c.X * 64) (c.Y * 64) (c.X * 64 + 64) (c.Y * 64 + 64)).2 by omega)) (show -562949953421312 ≤ _ by omega) (show _ ≤ (562949953421312 : Int) by omega)).2
  exact ⟨⟨e1, e3⟩, by omega, e2⟩
def upR (W H : Int) (L : List Int) (px py vx vy vd most : Int) (j : Nat) : List CC := gridUp (refP W H L px py vx vy vd most) (-1) (W + 2).toNat (-1) j
def rowR (W H : Int) (L : List Int) (px py vx vy vd most : Int) (j i : Nat) : List CC := upR W H L px py vx vy vd most j ++ gridRow (refP W H L px py vx vy vd most) (-1) (-1 + (j : Int)) i
theorem rowR_yes {W H : Int} {L : List Int} {px py vx vy vd most : Int} {j i : Nat} (h : refP W H L px py vx vy vd most (-1 + (i : Int)) (-1 + (j : Int)) = true) : rowR W H L px py vx vy vd most j (i + 1) = rowR W H L px py vx vy vd most j i ++ [⟨-1 + (i : Int), -1 + (j : Int)⟩] := by
  unfold rowR; rw [gridRow_yes h, List.append_assoc]
theorem rowR_no {W H : Int} {L : List Int} {px py vx vy vd most : Int} {j i : Nat} (h : refP W H L px py vx vy vd most (-1 + (i : Int)) (-1 + (j : Int)) = false) : rowR W H L px py vx vy vd most j (i + 1) = rowR W H L px py vx vy vd most j i := by
  unfold rowR; rw [gridRow_no h]
theorem rowR_zero {W H : Int} {L : List Int} {px py vx vy vd most : Int} {j : Nat} : rowR W H L px py vx vy vd most j 0 = upR W H L px py vx vy vd most j := by
  unfold rowR; rw [gridRow_zero, List.append_nil]
theorem rowR_all {W H : Int} {L : List Int} {px py vx vy vd most : Int} {j i : Nat} (h : (i : Int) = W + 2) : rowR W H L px py vx vy vd most j i = upR W H L px py vx vy vd most (j + 1) := by
  have : (W + 2).toNat = i := by omega
  unfold rowR upR; rw [gridUp_succ, this]
theorem upR_all {W H : Int} {L : List Int} {px py vx vy vd most : Int} {j : Nat} (h : (j : Int) = H + 2) : upR W H L px py vx vy vd most j = refL W H L px py vx vy vd most := by
  have e1 : (W - -1 + 1).toNat = (W + 2).toNat := by omega
  have e2 : (H - -1 + 1).toNat = j := by omega
  unfold upR refL gridL
  rw [e1, e2]
theorem rowR_mem {W H : Int} {L : List Int} {px py vx vy vd most : Int} {j i : Nat} {c : CC} (h : c ∈ rowR W H L px py vx vy vd most j i) : hitB px py vx vy vd most c = true := by
  unfold rowR upR at h
  rcases List.mem_append.1 h with h | h
  · have := (gridUp_mem.1 h).1
    unfold refP at this
    rw [Bool.and_eq_true] at this
    exact this.2
  · have := (gridRow_mem.1 h).1
    unfold refP at this
    rw [Bool.and_eq_true] at this
    exact this.2
def x59L0 : XC := (.seq (.seq (.reg false [O1 46 .mv 15, O1 47 (.fld 0) 4, O1 48 .load1 47, O2 49 (.bin .leq) 46 48]) (.cond (.t 49) .skip (.exit 2))) (.seq (.block 3 (.seq (.reg false [O1 52 .mv 15, O1 53 .mv 14, ⟨(some 54), (.build [(iV 0), (iV 0)] [(0, 1), (1, 1)]), [(.t 52), (.t 53)], none⟩, ⟨(some 16), (.alloc 74 [(iV 0), (iV 0)]), [], none⟩, ⟨none, (.store 2), [(.t 16), (.t 54)], none⟩]) (.seq (.seq (.reg false [O1 55 (.loadN 3) 4, O1 56 (.loadN 2) 16, O2 57 (.call 44) 55 56, K2 58 (.bin .neq) 57 (.int .u8 2)]) (.cond (.t 58) (.exit 3) .skip)) (.seq (.regD [O1 60 (.loadN 2) 5, O1 61 (.loadN 3) 6, O1 62 (.loadN 2) 16, O1 63 (.call 43) 62, ⟨(some 64), (.call 72), [(.t 60), (.t 61), (.t 63)], none⟩, O1 59 .mv 64, O1 65 (.ext 0) 59, O1 66 (.ext 1) 59, ⟨(some 17), (.alloc 42 [(iV 0), (iV 0)]), [], none⟩, ⟨none, (.store 2), [(.t 17), (.t 65)], none⟩, O1 18 .mv 66] [[], [], [], [2], [0, 1, 3, 2], [4, 0, 1, 3, 2], [5, 4, 0, 1, 3, 2], [5, 4, 0, 1, 3, 2], [], [8, 6, 5, 4, 0, 1, 3, 2], [7, 5, 4, 0, 1, 3, 2, 9, 8, 6]]) (.seq (.reg false [O1 67 .mv 18, O1 68 .mv 67, G1 69 .mv 3 68 true, ⟨(some 70), (.build [(iV 0), (iV 0)] [(0, 1), (1, 1)]), [(.t 69), (.k (iV 1))], (some (68, true))⟩, G1 71 (.loadN 2) 17 68 true, G2 72 (.call 60) 70 71 68 true, G1 73 (.un .not) 72 68 true, ⟨(some 74), .pick, [(.t 68), (.t 73), (.k (.bool false))], none⟩, O1 75 .mv 74, G1 76 .mv 13 75 true, G1 77 (.un .not) 76 75 true, G1 78 .mv 77 75 true, G1 79 (.loadN 2) 17 78 false, G1 80 (.loadN 2) 11 78 false, G2 81 (.call 60) 79 80 78 false, ⟨(some 82), .pick, [(.t 78), (.k (.bool true)), (.t 81)], (some (75, true))⟩, ⟨(some 83), .pick, [(.t 75), (.t 82), (.k (.bool false))], none⟩]) (.cond (.t 83) (.seq (.reg false [O1 84 (.loadN 2) 17, ⟨none, (.store 2), [(.t 11), (.t 84)], none⟩]) (.seq (.reg false [O1 85 (.loadN 2) 16, ⟨none, (.store 2), [(.t 12), (.t 85)], none⟩]) (.reg false [K1 13 .mv (.bool true)]))) .skip)))))) (.reg false [O1 50 .mv 15, K2 51 (.bin .add) 50 (iV 1), O1 15 .mv 51])))
def x59L1 : XC := (.seq (.seq (.reg false [O1 40 .mv 14, O1 41 (.fld 1) 4, O1 42 .load1 41, O2 43 (.bin .leq) 40 42]) (.cond (.t 43) .skip (.exit 0))) (.seq (.block 1 (.seq (.reg false [K1 15 .mv (iV (-1))]) (.block 2 (.loop x59L0)))) (.reg false [O1 44 .mv 14, K2 45 (.bin .add) 44 (iV 1), O1 14 .mv 45])))
def x59 : XFn := ⟨89, (.seq (.reg false [O1 4 (.box 25) 0, O1 5 (.box 55) 1, O1 6 (.box 94) 2, ⟨(some 8), (.alloc 42 [(iV 0), (iV 0)]), [], none⟩, ⟨(some 9), (.alloc 74 [(iV 0), (iV 0)]), [], none⟩, K1 10 .mv (.bool false)]) (.seq (.reg false [⟨(some 19), (.build [(iV 0), (iV 0)] []), [], none⟩, ⟨(some 11), (.alloc 42 [(iV 0), (iV 0)]), [], none⟩, ⟨none, (.store 2), [(.t 11), (.t 19)], none⟩]) (.seq (.reg false [⟨(some 20), (.build [(iV 0), (iV 0)] []), [], none⟩, ⟨(some 12), (.alloc 74 [(iV 0), (iV 0)]), [], none⟩, ⟨none, (.store 2), [(.t 12), (.t 20)], none⟩]) (.seq (.reg false [K1 13 .mv (.bool false)]) (.seq (.seq (.reg false [O1 21 (.loadN 3) 4, O1 22 (.loadN 2) 5, O2 23 (.call 68) 21 22, O1 24 (.un .not) 23, O1 25 .mv 24, G1 26 (.loadN 3) 6 25 false, G1 27 (.call 71) 26 25 false, G1 28 (.un .not) 27 25 false, ⟨(some 29), .pick, [(.t 25), (.k (.bool true)), (.t 28)], none⟩, O1 30 .mv 29, G1 31 .mv 3 30 false, GK 32 (.bin .lss) 31 (iV 0) 30 false, ⟨(some 33), .pick, [(.t 30), (.k (.bool true)), (.t 32)], none⟩, O1 34 .mv 33, G1 35 .mv 3 34 false, GK 36 (.bin .gtr) 35 (iV 2048) 34 false, ⟨(some 37), .pick, [(.t 34), (.k (.bool true)), (.t 36)], none⟩]) (.cond (.t 37) (.seq (.regD [O1 38 (.loadN 2) 11, O1 39 (.loadN 2) 12, ⟨none, (.store 2), [(.t 8), (.t 38)], none⟩, ⟨none, (.store 2), [(.t 9), (.t 39)], none⟩, K1 10 .mv (.bool false)] [[], [], [0], [1, 2, 0], [3, 1, 2, 0]]) .ret) .skip)) (.seq (.seq (.reg false [K1 14 .mv (iV (-1))]) (.block 0 (.loop x59L1))) (.seq (.regD [O1 86 (.loadN 2) 11, O1 87 (.loadN 2) 12, O1 88 .mv 13, ⟨none, (.store 2), [(.t 8), (.t 86)], none⟩, ⟨none, (.store 2), [(.t 9), (.t 87)], none⟩, O1 10 .mv 88] [[], [], [], [0], [1, 3, 0], [2, 4, 1, 3, 0]]) .ret))))))), [(.bn 8 2), (.bn 9 2), (.s 10)]⟩
theorem x59_ok : xfn Tryz.prog Tryz.f59 = some x59.er := by kernel_rfl
/-- wayfinder/wayfinderref10.First -/
def g59 : Con := fun args_ E_ nn_ => match args_ with
  | [.a [.v (.int .i64 p_W), .v (.int .i64 p_H), .n p_Cells], .a [.v (.int .i64 at_X), .v (.int .i64 at_Y)], .a [.v (.int .i64 v_X), .v (.int .i64 v_Y), .v (.int .i64 v_D)], .c (.v (.int .i64 most))] => (match rowOf E_ p_Cells with
    | some (p_Cells_n, p_Cells_s, p_Cells_f) => some (.q (isRow eU8 p_Cells_n p_Cells_s p_Cells_f ∧ True) (.t [.a [.v (.int .i64 (bestF (entC at_X at_Y v_X v_Y v_D) (firstO p_W p_H (decL eU8 p_Cells_n p_Cells_f) at_X at_Y v_X v_Y v_D most)).1), .v (.int .i64 (bestF (entC at_X at_Y v_X v_Y v_D) (firstO p_W p_H (decL eU8 p_Cells_n p_Cells_f) at_X at_Y v_X v_Y v_D most)).2)], .a [.v (.int .i64 (bestC (firstO p_W p_H (decL eU8 p_Cells_n p_Cells_f) at_X at_Y v_X v_Y v_D most)).X), .v (.int .i64 (bestC (firstO p_W p_H (decL eU8 p_Cells_n p_Cells_f) at_X at_Y v_X v_Y v_D most)).Y)], .c (.v (.bool (((firstO p_W p_H (decL eU8 p_Cells_n p_Cells_f) at_X at_Y v_X v_Y v_D most)).isSome)))]))
    | none => none)
  | _ => none
set_option maxHeartbeats 1600000 in
theorem c59 : COk Tryz.prog 59 g59 := by
  refine cok_q Tryz.func59 x59_ok (by kernel_rfl) (cok_tab (cok_cons c68 (cok_cons c71 (cok_cons c44 (cok_cons c43 (cok_cons c72 (cok_cons c60 cok_nil))))))) ?_
  intro args_ E_ nn_ cr_ hg_
  unfold g59 at hg_
  split at hg_
  · rename_i p_W p_H p_Cells at_X at_Y v_X v_Y v_D most
    split at hg_
    · rename_i p_Cells_n p_Cells_s p_Cells_f h_p_Cells
      cases hg_
      refine ⟨_, _, rfl, 1, [p_Cells], [.a [.v (.int .i64 p_W), .v (.int .i64 p_H), .n 0], .a [.v (.int .i64 at_X), .v (.int .i64 at_Y)], .a [.v (.int .i64 v_X), .v (.int .i64 v_Y), .v (.int .i64 v_D)], .c (.v (.int .i64 most))], [(0, .ro (decL eU8 p_Cells_n p_Cells_f).length eU8.sz (rowF eU8 (decL eU8 p_Cells_n p_Cells_f)))], .t [.a [.v (.int .i64 (bestF (entC at_X at_Y v_X v_Y v_D) (firstO p_W p_H (decL eU8 p_Cells_n p_Cells_f) at_X at_Y v_X v_Y v_D most)).1), .v (.int .i64 (bestF (entC at_X at_Y v_X v_Y v_D) (firstO p_W p_H (decL eU8 p_Cells_n p_Cells_f) at_X at_Y v_X v_Y v_D most)).2)], .a [.v (.int .i64 (bestC (firstO p_W p_H (decL eU8 p_Cells_n p_Cells_f) at_X at_Y v_X v_Y v_D most)).X), .v (.int .i64 (bestC (firstO p_W p_H (decL eU8 p_Cells_n p_Cells_f) at_X at_Y v_X v_Y v_D most)).Y)], .c (.v (.bool (((firstO p_W p_H (decL eU8 p_Cells_n p_Cells_f) at_X at_Y v_X v_Y v_D most)).isSome)))], rfl, rfl, by simp only [push_cast, Nat.reduceLT, Nat.reduceAdd], by simp only [push_cast, Nat.reduceLT, Nat.reduceAdd], by simp only [push_cast, Nat.reduceLT, Nat.reduceAdd], rfl, ⟨inE0_row h_p_Cells, trivial⟩, rfl, ?_⟩
      intro hpre hlen
      obtain ⟨i_p_Cells, hpre⟩ := hpre
      refine ⟨⟨inE_row h_p_Cells i_p_Cells, trivial⟩, ?_⟩
      have z_p_Cells := lens_row (E := eU8) hlen h_p_Cells
      clear i_p_Cells
      generalize decL eU8 p_Cells_n p_Cells_f = p_CellsL at *
      clear h_p_Cells
      simp (config := {maxSteps := 10000000}) only [x59, push_cast, Nat.reduceAdd, Nat.reduceSub, Nat.reduceLeDiff, Nat.reduceEqDiff, Nat.reduceBEq, Nat.reduceMul, Nat.reduceLT, reduceIte, reduceCtorEq, Int.reduceLE, Int.reduceLT, Int.reduceEq, Int.reduceMul, Int.reduceAdd, Int.reduceSub, Int.reduceNeg, Int.reduceToNat, Int.reduceNe, g68, g71, g44, g43, g72, g60]
      refine ⟨fun h => ?_, fun h1 h2 h3 h4 => ?_⟩
      · rw [okF_no]
        · exact ⟨by rfl, ⟨rfl, rfl⟩, ⟨rfl, rfl⟩, rfl⟩
        · rw [Bool.eq_false_iff]
          intro k
          simp only [okF, okR, Bool.and_eq_true, decide_eq_true_eq] at k
          rcases h with ((h | h) | h) | h
          · rw [k.1.1] at h; cases h
          · rw [k.1.2] at h; cases h
          · omega
          · omega
      have hok : okF p_W p_H p_CellsL at_X at_Y v_X v_Y v_D most = true := by unfold okF okR; rw [h1, h2]; simp; omega
      obtain ⟨g1, g2, g3, g4, g5, g6, _, _⟩ := okF_at hok
      unfold firstO
      rw [if_pos hok]
      refine vcLoop_upd (α := {j : Nat // (j : Int) ≤ p_H + 2}) [3, 4, 5, 6, 8, 9, 11, 12] 0 (fun s => [(13, .o (.c (.v (.bool ((pickL (ltK at_X at_Y v_X v_Y v_D) (upR p_W p_H p_CellsL at_X at_Y v_X v_Y v_D most s.1)).isSome))))), (14, .o (.c (.v (.int .i64 (-1 + (s.1 : Nat))))))]) (fun s => [(6, .box [.v (.int .i64 (bestF (entC at_X at_Y v_X v_Y v_D) (pickL (ltK at_X at_Y v_X v_Y v_D) (upR p_W p_H p_CellsL at_X at_Y v_X v_Y v_D most s.1))).1), .v (.int .i64 (bestF (entC at_X at_Y v_X v_Y v_D) (pickL (ltK at_X at_Y v_X v_Y v_D) (upR p_W p_H p_CellsL at_X at_Y v_X v_Y v_D most s.1))).2)] 42), (7, .box [.v (.int .i64 (bestC (pickL (ltK at_X at_Y v_X v_Y v_D) (upR p_W p_H p_CellsL at_X at_Y v_X v_Y v_D most s.1))).X), .v (.int .i64 (bestC (pickL (ltK at_X at_Y v_X v_Y v_D) (upR p_W p_H p_CellsL at_X at_Y v_X v_Y v_D most s.1))).Y)] 74)]) (fun s => (p_H + 2).toNat - s.1) ⟨0, by omega⟩ ?_ ?_
      · simp only [push_cast, Nat.reduceAdd, Nat.reduceSub, Nat.reduceLeDiff, Nat.reduceEqDiff, Nat.reduceBEq, Nat.reduceMul, Nat.reduceLT, reduceIte, reduceCtorEq, Int.reduceLE, Int.reduceLT, Int.reduceEq, Int.reduceMul, Int.reduceAdd, Int.reduceSub, Int.reduceNeg, Int.reduceToNat, Int.reduceNe, g68, g71, g44, g43, g72, g60]
        exact ⟨rfl, ⟨rfl, rfl⟩, rfl, rfl⟩
      rintro ⟨j, hj⟩
      simp only [x59L1, push_cast, Nat.reduceAdd, Nat.reduceSub, Nat.reduceLeDiff, Nat.reduceEqDiff, Nat.reduceBEq, Nat.reduceMul, Nat.reduceLT, reduceIte, reduceCtorEq, Int.reduceLE, Int.reduceLT, Int.reduceEq, Int.reduceMul, Int.reduceAdd, Int.reduceSub, Int.reduceNeg, Int.reduceToNat, Int.reduceNe, g68, g71, g44, g43, g72, g60]
      refine ⟨fun hlt => ?_, fun hge => ?_⟩
      · refine vcLoop_upd (α := {i : Nat // (i : Int) ≤ p_W + 2}) [3, 4, 5, 6, 8, 9, 11, 12, 14] 0 (fun s => [(13, .o (.c (.v (.bool ((pickL (ltK at_X at_Y v_X v_Y v_D) (rowR p_W p_H p_CellsL at_X at_Y v_X v_Y v_D most j s.1)).isSome))))), (15, .o (.c (.v (.int .i64 (-1 + (s.1 : Nat))))))]) (fun s => [(6, .box [.v (.int .i64 (bestF (entC at_X at_Y v_X v_Y v_D) (pickL (ltK at_X at_Y v_X v_Y v_D) (rowR p_W p_H p_CellsL at_X at_Y v_X v_Y v_D most j s.1))).1), .v (.int .i64 (bestF (entC at_X at_Y v_X v_Y v_D) (pickL (ltK at_X at_Y v_X v_Y v_D) (rowR p_W p_H p_CellsL at_X at_Y v_X v_Y v_D most j s.1))).2)] 42), (7, .box [.v (.int .i64 (bestC (pickL (ltK at_X at_Y v_X v_Y v_D) (rowR p_W p_H p_CellsL at_X at_Y v_X v_Y v_D most j s.1))).X), .v (.int .i64 (bestC (pickL (ltK at_X at_Y v_X v_Y v_D) (rowR p_W p_H p_CellsL at_X at_Y v_X v_Y v_D most j s.1))).Y)] 74)]) (fun s => (p_W + 2).toNat - s.1) ⟨0, by omega⟩ ?_ ?_
        · simp only [push_cast, Nat.reduceAdd, Nat.reduceSub, Nat.reduceLeDiff, Nat.reduceEqDiff, Nat.reduceBEq, Nat.reduceMul, Nat.reduceLT, reduceIte, reduceCtorEq, Int.reduceLE, Int.reduceLT, Int.reduceEq, Int.reduceMul, Int.reduceAdd, Int.reduceSub, Int.reduceNeg, Int.reduceToNat, Int.reduceNe, g68, g71, g44, g43, g72, g60, rowR_zero]
        rintro ⟨i, hi⟩
        by_cases hlt2 : -1 + (i : Int) ≤ p_W
        · cases hw : wallB p_W p_H p_CellsL ⟨-1 + (i : Int), -1 + (j : Int)⟩
          · have hw' : ¬ atB p_W p_H p_CellsL (-1 + (i : Int)) (-1 + (j : Int)) = 2 := by unfold wallB at hw; rw [decide_eq_false_iff_not] at hw; exact hw
            simp only [x59L0, hlt2, hw', g1, push_cast, Nat.reduceAdd, Nat.reduceSub, Nat.reduceLeDiff, Nat.reduceEqDiff, Nat.reduceBEq, Nat.reduceMul, Nat.reduceLT, reduceIte, reduceCtorEq, Int.reduceLE, Int.reduceLT, Int.reduceEq, Int.reduceMul, Int.reduceAdd, Int.reduceSub, Int.reduceNeg, Int.reduceToNat, Int.reduceNe, g68, g71, g44, g43, g72, g60]
            have hr : refP p_W p_H p_CellsL at_X at_Y v_X v_Y v_D most (-1 + (i : Int)) (-1 + (j : Int)) = false := by unfold refP; rw [hw]; rfl
            refine ⟨⟨i + 1, by omega⟩, ?_, by simp only; omega⟩
            simp only
            rw [rowR_no hr]
            exact ⟨⟨rfl, by rw [wrapI (by omega) (by omega)]; omega⟩, ⟨rfl, rfl⟩, rfl, rfl⟩
          · have hw' : atB p_W p_H p_CellsL (-1 + (i : Int)) (-1 + (j : Int)) = 2 := by unfold wallB at hw; rw [decide_eq_true_eq] at hw; exact hw
            cases ht : thrB at_X at_Y v_X v_Y v_D ((-1 + (i : Int)) * 64) ((-1 + (j : Int)) * 64) ((-1 + (i : Int)) * 64 + 64) ((-1 + (j : Int)) * 64 + 64)
            · have eo : okT at_X at_Y v_X v_Y v_D ((-1 + (i : Int)) * 64) ((-1 + (j : Int)) * 64) ((-1 + (i : Int)) * 64 + 64) ((-1 + (j : Int)) * 64 + 64) = false := (ok_thr ..).trans ht
              have hr : refP p_W p_H p_CellsL at_X at_Y v_X v_Y v_D most (-1 + (i : Int)) (-1 + (j : Int)) = false := by unfold refP hitB; simp only; rw [hw, ht]; rfl
              simp only [x59L0, hlt2, hw', g1, eo, mI_f, push_cast, Nat.reduceAdd, Nat.reduceSub, Nat.reduceLeDiff, Nat.reduceEqDiff, Nat.reduceBEq, Nat.reduceMul, Nat.reduceLT, reduceIte, reduceCtorEq, Int.reduceLE, Int.reduceLT, Int.reduceEq, Int.reduceMul, Int.reduceAdd, Int.reduceSub, Int.reduceNeg, Int.reduceToNat, Int.reduceNe, g68, g71, g44, g43, g72, g60]
              refine ⟨by omega, by rfl, ⟨i + 1, by omega⟩, ?_, by simp only; omega⟩
              simp only
              rw [rowR_no hr]
              exact ⟨⟨rfl, by rw [wrapI (by omega) (by omega)]; omega⟩, ⟨rfl, rfl⟩, rfl, rfl⟩
            · have eo : okT at_X at_Y v_X v_Y v_D ((-1 + (i : Int)) * 64) ((-1 + (j : Int)) * 64) ((-1 + (i : Int)) * 64 + 64) ((-1 + (j : Int)) * 64 + 64) = true := (ok_thr ..).trans ht
              have el : lowF ((timR at_X at_Y v_X v_Y ((-1 + (i : Int)) * 64) ((-1 + (j : Int)) * 64) ((-1 + (i : Int)) * 64 + 64) ((-1 + (j : Int)) * 64 + 64)).a * v_D) (timR at_X at_Y v_X v_Y ((-1 + (i : Int)) * 64) ((-1 + (j : Int)) * 64) ((-1 + (i : Int)) * 64 + 64) ((-1 + (j : Int)) * 64 + 64)).b = entC at_X at_Y v_X v_Y v_D ⟨-1 + (i : Int), -1 + (j : Int)⟩ := ent_low ht
              have hb := ent_bd (c := ⟨-1 + (i : Int), -1 + (j : Int)⟩) ht
              have hr : refP p_W p_H p_CellsL at_X at_Y v_X v_Y v_D most (-1 + (i : Int)) (-1 + (j : Int)) = decide ((entC at_X at_Y v_X v_Y v_D ⟨-1 + (i : Int), -1 + (j : Int)⟩).1 ≤ most * (entC at_X at_Y v_X v_Y v_D ⟨-1 + (i : Int), -1 + (j : Int)⟩).2) := by unfold refP hitB; simp only; rw [hw, ht]; rfl
              cases ho : pickL (ltK at_X at_Y v_X v_Y v_D) (rowR p_W p_H p_CellsL at_X at_Y v_X v_Y v_D most j i) with
              | none =>
                simp only [x59L0, hlt2, hw', g1, eo, el, ho, mI_t, bestF, bestC, Option.isSome_none, Option.isSome_some, push_cast, Nat.reduceAdd, Nat.reduceSub, Nat.reduceLeDiff, Nat.reduceEqDiff, Nat.reduceBEq, Nat.reduceMul, Nat.reduceLT, reduceIte, reduceCtorEq, Int.reduceLE, Int.reduceLT, Int.reduceEq, Int.reduceMul, Int.reduceAdd, Int.reduceSub, Int.reduceNeg, Int.reduceToNat, Int.reduceNe, g68, g71, g44, g43, g72, g60]
                refine ⟨by omega, by rfl, by omega, fun hm => ?_, fun hm => ?_⟩
                · have e : pickL (ltK at_X at_Y v_X v_Y v_D) (rowR p_W p_H p_CellsL at_X at_Y v_X v_Y v_D most j (i + 1)) = some (⟨-1 + (i : Int), -1 + (j : Int)⟩ : CC) := by rw [rowR_yes (hr.trans (decide_eq_true (by omega))), pickL_snoc, ho]; rfl
                  refine ⟨⟨i + 1, by omega⟩, ?_, by simp only; omega⟩
                  simp only [e]
                  exact ⟨⟨rfl, by rw [wrapI (by omega) (by omega)]; omega⟩, ⟨trivial, trivial⟩, trivial, trivial⟩
                · have e : pickL (ltK at_X at_Y v_X v_Y v_D) (rowR p_W p_H p_CellsL at_X at_Y v_X v_Y v_D most j (i + 1)) = none := by rw [rowR_no (hr.trans (decide_eq_false (by omega))), ho]
                  refine ⟨⟨i + 1, by omega⟩, ?_, by simp only; omega⟩
                  simp only [e]
                  exact ⟨⟨rfl, by rw [wrapI (by omega) (by omega)]; omega⟩, ⟨trivial, trivial⟩, trivial, trivial⟩
              | some b =>
                have hbb := hit_bd g4 (rowR_mem (pick_mem ho))
                simp only [x59L0, hlt2, hw', g1, eo, el, ho, mI_t, bestF, bestC, Option.isSome_none, Option.isSome_some, push_cast, Nat.reduceAdd, Nat.reduceSub, Nat.reduceLeDiff, Nat.reduceEqDiff, Nat.reduceBEq, Nat.reduceMul, Nat.reduceLT, reduceIte, reduceCtorEq, Int.reduceLE, Int.reduceLT, Int.reduceEq, Int.reduceMul, Int.reduceAdd, Int.reduceSub, Int.reduceNeg, Int.reduceToNat, Int.reduceNe, g68, g71, g44, g43, g72, g60]
                refine ⟨by omega, by rfl, by omega, fun hm => ⟨hm, by omega, by omega⟩, fun hm hl => ?_, fun hm => ?_⟩
                · have e : pickL (ltK at_X at_Y v_X v_Y v_D) (rowR p_W p_H p_CellsL at_X at_Y v_X v_Y v_D most j (i + 1)) = some (⟨-1 + (i : Int), -1 + (j : Int)⟩ : CC) := by rw [rowR_yes (hr.trans (decide_eq_true (by omega))), pickL_snoc, ho]; exact if_pos (decide_eq_true hl)
                  refine ⟨⟨i + 1, by omega⟩, ?_, by simp only; omega⟩
                  simp only [e]
                  exact ⟨⟨rfl, by rw [wrapI (by omega) (by omega)]; omega⟩, ⟨trivial, trivial⟩, trivial, trivial⟩
                · have e : pickL (ltK at_X at_Y v_X v_Y v_D) (rowR p_W p_H p_CellsL at_X at_Y v_X v_Y v_D most j (i + 1)) = some b := by
                    rcases Bool.and_eq_false_iff.1 hm with h5 | h5
                    · rw [Bool.not_eq_false', decide_eq_true_eq] at h5
                      rw [rowR_no (hr.trans (decide_eq_false (by omega))), ho]
                    · rw [decide_eq_false_iff_not] at h5
                      cases hq : refP p_W p_H p_CellsL at_X at_Y v_X v_Y v_D most (-1 + (i : Int)) (-1 + (j : Int))
                      · rw [rowR_no hq, ho]
                      · rw [rowR_yes hq, pickL_snoc, ho]; exact if_neg (by unfold ltK; rw [decide_eq_true_eq]; exact h5)
                  refine ⟨⟨i + 1, by omega⟩, ?_, by simp only; omega⟩
                  simp only [e]
                  exact ⟨⟨rfl, by rw [wrapI (by omega) (by omega)]; omega⟩, ⟨trivial, trivial⟩, trivial, trivial⟩
        · simp only [x59L0, hlt2, push_cast, Nat.reduceAdd, Nat.reduceSub, Nat.reduceLeDiff, Nat.reduceEqDiff, Nat.reduceBEq, Nat.reduceMul, Nat.reduceLT, reduceIte, reduceCtorEq, Int.reduceLE, Int.reduceLT, Int.reduceEq, Int.reduceMul, Int.reduceAdd, Int.reduceSub, Int.reduceNeg, Int.reduceToNat, Int.reduceNe, g68, g71, g44, g43, g72, g60]
          refine ⟨⟨j + 1, by omega⟩, ?_, by simp only; omega⟩
          simp only
          rw [rowR_all (by omega)]
          exact ⟨⟨rfl, by rw [wrapI (by omega) (by omega)]; omega⟩, ⟨rfl, rfl⟩, rfl, rfl⟩
      · rw [upR_all (by omega)]
        exact ⟨by rfl, ⟨rfl, rfl⟩, ⟨rfl, rfl⟩, rfl⟩
    · cases hg_
  · cases hg_
end Go.Proofs.YtibahioojjligaaGreat
set_option linter.unusedVariables false
set_option linter.unusedSimpArgs false
set_option maxRecDepth 20000
namespace Go.Proofs.YtibahioojjligaaGreat
open Go.Sx Go.Way
/-- No wall is nearer. -/
def farB (K : CC → Int × Int) (s : Int) : Option CC → Bool
  | none => true
  | some c => decide (s * (K c).2 ≤ (K c).1)
def clearB (W H : Int) (L : List Int) (px py vx vy vd s : Int) : Bool := okF W H L px py vx vy vd s && farB (entC px py vx vy vd) s (firstO W H L px py vx vy vd s)
theorem first_hit {W H : Int} {L : List Int} {px py vx vy vd most : Int} {c : CC} (h : firstO W H L px py vx vy vd most = some c) : (0 ≤ most ∧ most ≤ 2048) ∧ hitB px py vx vy vd most c = true ∧ wallB W H L c = true := by
  unfold firstO at h
  split at h
  · rename_i hk
    have m := refL_mem.1 (pick_mem h)
    exact ⟨(okF_at hk).2.2.2.1, m.1.2, m.1.1⟩
  · cases h
theorem okF_false {W H : Int} {L : List Int} {px py vx vy vd s : Int} (h : ((inB W H L px py = false ∨ vecB vx vy vd = false) ∨ s < 0) ∨ 2048 < s) : okF W H L px py vx vy vd s = false := by
  rw [Bool.eq_false_iff]
  intro k
  simp only [okF, okR, Bool.and_eq_true, decide_eq_true_eq] at k
  rcases h with ((h | h) | h) | h
  · rw [k.1.1] at h; cases h
  · rw [k.1.2] at h; cases h
  · omega
  · omega
theorem okF_true {W H : Int} {L : List Int} {px py vx vy vd s : Int} (h1 : inB W H L px py = true) (h2 : vecB vx vy vd = true) (h3 : 0 ≤ s) (h4 : s ≤ 2048) : okF W H L px py vx vy vd s = true := by
  unfold okF okR; rw [h1, h2]; simp; omega
def x40 : XFn := ⟨31, (.seq (.reg false [O1 4 (.box 25) 0, O1 5 (.box 37) 1, ⟨(some 8), (.alloc 42 [(iV 0), (iV 0)]), [], none⟩, K1 9 .mv (.bool false)]) (.seq (.regD [O1 14 (.loadN 3) 4, O1 15 (.fld 0) 5, O1 16 .load1 15, O1 17 (.fld 1) 5, O1 18 .load1 17, ⟨(some 19), (.build [(iV 0), (iV 0)] [(0, 1), (1, 1)]), [(.t 16), (.t 18)], none⟩, O1 20 (.fld 2) 5, O1 21 .load1 20, O1 22 .mv 2, O2 23 (.call 54) 21 22, O1 24 .mv 3, ⟨(some 25), (.call 53), [(.t 14), (.t 19), (.t 23), (.t 24)], none⟩, O1 13 .mv 25, O1 26 (.ext 0) 13, O1 27 (.ext 1) 13, O1 28 (.ext 2) 13, ⟨(some 10), (.alloc 42 [(iV 0), (iV 0)]), [], none⟩, ⟨(some 11), (.alloc 74 [(iV 0), (iV 0)]), [], none⟩, ⟨none, (.store 2), [(.t 10), (.t 26)], none⟩, ⟨none, (.store 2), [(.t 11), (.t 27)], none⟩, O1 12 .mv 28] [[], [], [1], [], [3], [2, 1, 4, 3], [], [6], [], [7, 6, 8], [], [0, 5, 2, 1, 4, 3, 9, 7, 6, 8, 10], [11, 0, 5, 2, 1, 4, 3, 9, 7, 6, 8, 10], [12, 11, 0, 5, 2, 1, 4, 3, 9, 7, 6, 8, 10], [12, 11, 0, 5, 2, 1, 4, 3, 9, 7, 6, 8, 10], [12, 11, 0, 5, 2, 1, 4, 3, 9, 7, 6, 8, 10], [], [], [16, 13, 12, 11, 0, 5, 2, 1, 4, 3, 9, 7, 6, 8, 10, 17], [17, 14, 12, 11, 0, 5, 2, 1, 4, 3, 9, 7, 6, 8, 10, 18, 16, 13], [15, 12, 11, 0, 5, 2, 1, 4, 3, 9, 7, 6, 8, 10, 19, 17, 14, 18, 16, 13]]) (.seq (.reg false [O1 29 (.loadN 2) 10, O1 30 .mv 12, ⟨none, (.store 2), [(.t 8), (.t 29)], none⟩, O1 9 .mv 30]) .ret))), [(.bn 8 2), (.s 9)]⟩
theorem x40_ok : xfn Tryz.prog Tryz.f40 = some x40.er := by kernel_rfl
/-- wayfinder/ray.look -/
def g40 : Con := fun args_ E_ nn_ => match args_ with
  | [.a [.v (.int .i64 p_W), .v (.int .i64 p_H), .n p_Cells], .a [.v (.int .i64 at_X), .v (.int .i64 at_Y), .v (.int .i64 at_H)], .c (.v (.int .i64 mark)), .c (.v (.int .i64 most))] => (match rowOf E_ p_Cells with
    | some (p_Cells_n, p_Cells_s, p_Cells_f) => some (.q (isRow eU8 p_Cells_n p_Cells_s p_Cells_f ∧ True) (.t [.a [.v (.int .i64 (bestF (entC at_X at_Y (beamV at_H mark).1 (beamV at_H mark).2.1 (beamV at_H mark).2.2) (firstO p_W p_H (decL eU8 p_Cells_n p_Cells_f) at_X at_Y (beamV at_H mark).1 (beamV at_H mark).2.1 (beamV at_H mark).2.2 most)).1), .v (.int .i64 (bestF (entC at_X at_Y (beamV at_H mark).1 (beamV at_H mark).2.1 (beamV at_H mark).2.2) (firstO p_W p_H (decL eU8 p_Cells_n p_Cells_f) at_X at_Y (beamV at_H mark).1 (beamV at_H mark).2.1 (beamV at_H mark).2.2 most)).2)], .c (.v (.bool ((firstO p_W p_H (decL eU8 p_Cells_n p_Cells_f) at_X at_Y (beamV at_H mark).1 (beamV at_H mark).2.1 (beamV at_H mark).2.2 most).isSome)))]))
    | none => none)
  | _ => none
theorem c40 : COk Tryz.prog 40 g40 := by
  refine cok_q Tryz.func40 x40_ok (by kernel_rfl) (cok_tab (cok_cons c53 (cok_cons c54 cok_nil))) ?_
  intro args_ E_ nn_ cr_ hg_
  unfold g40 at hg_
  split at hg_
  · rename_i p_W p_H p_Cells at_X at_Y at_H mark most
    split at hg_
    · rename_i p_Cells_n p_Cells_s p_Cells_f h_p_Cells
      cases hg_
      refine ⟨_, _, rfl, 1, [p_Cells], [.a [.v (.int .i64 p_W), .v (.int .i64 p_H), .n 0], .a [.v (.int .i64 at_X), .v (.int .i64 at_Y), .v (.int .i64 at_H)], .c (.v (.int .i64 mark)), .c (.v (.int .i64 most))], [(0, .ro (decL eU8 p_Cells_n p_Cells_f).length eU8.sz (rowF eU8 (decL eU8 p_Cells_n p_Cells_f)))], .t [.a [.v (.int .i64 (bestF (entC at_X at_Y (beamV at_H mark).1 (beamV at_H mark).2.1 (beamV at_H mark).2.2) (firstO p_W p_H (decL eU8 p_Cells_n p_Cells_f) at_X at_Y (beamV at_H mark).1 (beamV at_H mark).2.1 (beamV at_H mark).2.2 most)).1), .v (.int .i64 (bestF (entC at_X at_Y (beamV at_H mark).1 (beamV at_H mark).2.1 (beamV at_H mark).2.2) (firstO p_W p_H (decL eU8 p_Cells_n p_Cells_f) at_X at_Y (beamV at_H mark).1 (beamV at_H mark).2.1 (beamV at_H mark).2.2 most)).2)], .c (.v (.bool ((firstO p_W p_H (decL eU8 p_Cells_n p_Cells_f) at_X at_Y (beamV at_H mark).1 (beamV at_H mark).2.1 (beamV at_H mark).2.2 most).isSome)))], rfl, rfl, by simp only [push_cast, Nat.reduceLT, Nat.reduceAdd], by simp only [push_cast, Nat.reduceLT, Nat.reduceAdd], by simp only [push_cast, Nat.reduceLT, Nat.reduceAdd], rfl, ⟨inE0_row h_p_Cells, trivial⟩, rfl, ?_⟩
      intro hpre hlen
      obtain ⟨i_p_Cells, hpre⟩ := hpre
      refine ⟨⟨inE_row h_p_Cells i_p_Cells, trivial⟩, ?_⟩
      have z_p_Cells := lens_row (E := eU8) hlen h_p_Cells
      clear i_p_Cells
      generalize decL eU8 p_Cells_n p_Cells_f = p_CellsL at *
      clear h_p_Cells
      simp (config := {maxSteps := 10000000}) only [x40, push_cast, Nat.reduceAdd, Nat.reduceSub, Nat.reduceLeDiff, Nat.reduceEqDiff, Nat.reduceBEq, Nat.reduceMul, Nat.reduceLT, reduceIte, reduceCtorEq, Int.reduceLE, Int.reduceLT, Int.reduceEq, Int.reduceMul, Int.reduceAdd, Int.reduceSub, Int.reduceNeg, Int.reduceToNat, Int.reduceNe, g53, g54]
      rfl
    · cases hg_
  · cases hg_
end Go.Proofs.YtibahioojjligaaGreat
set_option linter.unusedVariables false
set_option linter.unusedSimpArgs false
set_option maxRecDepth 20000
namespace Go.Proofs.YtibahioojjligaaGreat
open Go.Sx Go.Way
def goodB (W H : Int) (L : List Int) (x y h : Int) : Bool := inB W H L x y && decide (0 ≤ h ∧ h ≤ 255)
def beamB (m r : Int) : Bool := decide ((0 ≤ m ∧ m ≤ 255) ∧ -1 ≤ r ∧ r ≤ 1024)
def lookO (W H : Int) (L : List Int) (x y h m most : Int) : Option CC := firstO W H L x y (beamV h m).1 (beamV h m).2.1 (beamV h m).2.2 most
def lookK (x y h m : Int) : CC → Int × Int := entC x y (beamV h m).1 (beamV h m).2.1 (beamV h m).2.2
def echoB (K : CC → Int × Int) (s : Int) : Option CC → Bool
  | none => false
  | some c => decide (s * (K c).2 ≤ (K c).1)
def plausB (W H : Int) (L : List Int) (x y h m r rng : Int) : Bool :=
  goodB W H L x y h && beamB m r && decide (1 ≤ rng ∧ rng ≤ 32) && (if r = -1 then !(lookO W H L x y h m (1024 - rng)).isSome else echoB (lookK x y h m) (r - rng) (lookO W H L x y h m (r + rng)))
def measE (W H : Int) (L : List Int) (x y h m rng : Int) : Int := if goodB W H L x y h = false then 1 else if (1 ≤ rng ∧ rng ≤ 32) ∧ 0 ≤ m ∧ m ≤ 255 then 0 else 2
def measZ (K : CC → Int × Int) (e : Int) : Option CC → Int
  | none => -1
  | some c => if 1024 < max ((K c).1 / (K c).2 + e) 0 then -1 else max ((K c).1 / (K c).2 + e) 0
def measV (W H : Int) (L : List Int) (x y h m rng er : Int) : Int := if measE W H L x y h m rng = 0 then measZ (lookK x y h m) (min (max er (1 - rng)) rng) (lookO W H L x y h m 1024) else 0
theorem plaus_f {W H : Int} {L : List Int} {x y h m r rng : Int} (k : ((inB W H L x y && decide (0 ≤ h ∧ h ≤ 255)) = false ∨ ¬ ((0 ≤ m ∧ m ≤ 255) ∧ -1 ≤ r ∧ r ≤ 1024)) ∨ ¬ (1 ≤ rng ∧ rng ≤ 32)) : plausB W H L x y h m r rng = false := by
  unfold plausB goodB beamB
  rcases k with (k | k) | k
  · rw [k]; rfl
  · rw [decide_eq_false k, Bool.and_false]; rfl
  · rw [decide_eq_false k, Bool.and_false]; rfl
theorem plaus_t {W H : Int} {L : List Int} {x y h m r rng : Int} (h1 : inB W H L x y = true) (h2 : 0 ≤ h ∧ h ≤ 255) (h3 : (0 ≤ m ∧ m ≤ 255) ∧ -1 ≤ r ∧ r ≤ 1024) (h4 : 1 ≤ rng ∧ rng ≤ 32) :
    plausB W H L x y h m r rng = if r = -1 then !(lookO W H L x y h m (1024 - rng)).isSome else echoB (lookK x y h m) (r - rng) (lookO W H L x y h m (r + rng)) := by
  unfold plausB goodB beamB
  rw [h1, decide_eq_true h2, decide_eq_true h3, decide_eq_true h4]
  rfl
theorem meas1 {W H : Int} {L : List Int} {x y h m rng er : Int} (k : (inB W H L x y && decide (0 ≤ h ∧ h ≤ 255)) = false) : measE W H L x y h m rng = 1 ∧ measV W H L x y h m rng er = 0 := by
  have e : measE W H L x y h m rng = 1 := by unfold measE goodB; rw [k]; rfl
  exact ⟨e, by unfold measV; rw [e]; rfl⟩
theorem meas2 {W H : Int} {L : List Int} {x y h m rng er : Int} (h1 : inB W H L x y = true) (h2 : 0 ≤ h ∧ h ≤ 255) (k : ¬ (1 ≤ rng ∧ rng ≤ 32) ∨ ¬ (0 ≤ m ∧ m ≤ 255)) : measE W H L x y h m rng = 2 ∧ measV W H L x y h m rng er = 0 := by
  have e : measE W H L x y h m rng = 2 := by
    unfold measE goodB
    rw [h1, decide_eq_true h2, if_neg (by decide), if_neg (by omega)]
  exact ⟨e, by unfold measV; rw [e]; rfl⟩
theorem meas0 {W H : Int} {L : List Int} {x y h m rng er : Int} (h1 : inB W H L x y = true) (h2 : 0 ≤ h ∧ h ≤ 255) (k : (1 ≤ rng ∧ rng ≤ 32) ∧ 0 ≤ m ∧ m ≤ 255) : measE W H L x y h m rng = 0 ∧ measV W H L x y h m rng er = measZ (lookK x y h m) (min (max er (1 - rng)) rng) (lookO W H L x y h m 1024) := by
  have e : measE W H L x y h m rng = 0 := by
    unfold measE goodB
    rw [h1, decide_eq_true h2, if_neg (by decide), if_pos k]
  exact ⟨e, by unfold measV; rw [if_pos e]⟩
theorem measQ {n d : Int} (h0 : 0 ≤ n) (h1 : 1 ≤ d) (h2 : n ≤ 2048 * d) : n.tdiv d = n / d ∧ 0 ≤ n / d ∧ n / d ≤ 2048 := by
  refine ⟨Int.tdiv_eq_ediv_of_nonneg h0, Int.ediv_nonneg h0 (by omega), Int.ediv_le_of_le_mul (by omega) h2⟩
def x18 : XFn := ⟨67, (.seq (.reg false [O1 4 (.box 25) 0, O1 5 (.box 37) 1, O1 6 (.box 57) 2, K1 8 .mv (.bool false)]) (.seq (.seq (.reg false [O1 13 (.loadN 3) 4, O1 14 (.loadN 3) 5, O2 15 (.call 37) 13 14, O1 16 (.un .not) 15, O1 17 .mv 16, G1 18 (.loadN 2) 6 17 false, G1 19 (.call 38) 18 17 false, G1 20 (.un .not) 19 17 false, ⟨(some 21), .pick, [(.t 17), (.k (.bool true)), (.t 20)], none⟩, O1 22 .mv 21, G1 23 .mv 3 22 false, ⟨(some 24), (.call 39), [(.t 23), (.k (iV 1)), (.k (iV 32))], (some (22, false))⟩, G1 25 (.un .not) 24 22 false, ⟨(some 26), .pick, [(.t 22), (.k (.bool true)), (.t 25)], none⟩]) (.cond (.t 26) (.seq (.reg false [K1 8 .mv (.bool false)]) .ret) .skip)) (.seq (.seq (.reg false [O1 27 (.fld 1) 6, O1 28 .load1 27, K2 29 (.bin .eql) 28 (iV (-1))]) (.cond (.t 29) (.seq (.reg false [O1 31 (.loadN 3) 4, O1 32 (.loadN 3) 5, O1 33 (.fld 0) 6, O1 34 .load1 33, O1 35 .mv 3, ⟨(some 36), (.bin .sub), [(.k (iV 1024)), (.t 35)], none⟩, ⟨(some 37), (.call 40), [(.t 31), (.t 32), (.t 34), (.t 36)], none⟩, O1 30 .mv 37, O1 38 (.ext 0) 30, O1 39 (.ext 1) 30, ⟨(some 9), (.alloc 42 [(iV 0), (iV 0)]), [], none⟩, ⟨none, (.store 2), [(.t 9), (.t 38)], none⟩, O1 10 .mv 39]) (.seq (.reg false [O1 40 .mv 10, O1 41 (.un .not) 40, O1 8 .mv 41]) .ret)) .skip)) (.seq (.reg false [O1 43 (.loadN 3) 4, O1 44 (.loadN 3) 5, O1 45 (.fld 0) 6, O1 46 .load1 45, O1 47 (.fld 1) 6, O1 48 .load1 47, O1 49 .mv 3, O2 50 (.bin .add) 48 49, ⟨(some 51), (.call 40), [(.t 43), (.t 44), (.t 46), (.t 50)], none⟩, O1 42 .mv 51, O1 52 (.ext 0) 42, O1 53 (.ext 1) 42, ⟨(some 11), (.alloc 42 [(iV 0), (iV 0)]), [], none⟩, ⟨none, (.store 2), [(.t 11), (.t 52)], none⟩, O1 12 .mv 53]) (.seq (.reg false [O1 54 .mv 12, O1 55 .mv 54, G1 56 (.fld 0) 11 55 true, G1 57 .load1 56 55 true, G1 58 (.fld 1) 6 55 true, G1 59 .load1 58 55 true, G1 60 .mv 3 55 true, G2 61 (.bin .sub) 59 60 55 true, G1 62 (.fld 1) 11 55 true, G1 63 .load1 62 55 true, G2 64 (.bin .mul) 61 63 55 true, G2 65 (.bin .geq) 57 64 55 true, ⟨(some 66), .pick, [(.t 55), (.t 65), (.k (.bool false))], none⟩, O1 8 .mv 66]) .ret))))), [(.s 8)]⟩
theorem x18_ok : xfn Tryz.prog Tryz.f18 = some x18.er := by kernel_rfl
def x45 : XFn := ⟨85, (.seq (.reg false [O1 4 (.box 25) 0, O1 5 (.box 37) 1, O1 6 (.box 57) 2, K1 8 .mv (.bool false)]) (.seq (.seq (.reg false [O1 16 (.loadN 3) 4, O1 17 (.loadN 3) 5, O2 18 (.call 57) 16 17, O1 19 (.un .not) 18, O1 20 .mv 19, G1 21 (.loadN 2) 6 20 false, G1 22 (.call 42) 21 20 false, G1 23 (.un .not) 22 20 false, ⟨(some 24), .pick, [(.t 20), (.k (.bool true)), (.t 23)], none⟩, O1 25 .mv 24, G1 26 .mv 3 25 false, GK 27 (.bin .lss) 26 (iV 1) 25 false, ⟨(some 28), .pick, [(.t 25), (.k (.bool true)), (.t 27)], none⟩, O1 29 .mv 28, G1 30 .mv 3 29 false, GK 31 (.bin .gtr) 30 (iV 32) 29 false, ⟨(some 32), .pick, [(.t 29), (.k (.bool true)), (.t 31)], none⟩]) (.cond (.t 32) (.seq (.reg false [K1 8 .mv (.bool false)]) .ret) .skip)) (.seq (.reg false [O1 33 (.fld 2) 5, O1 34 .load1 33, O1 35 (.fld 0) 6, O1 36 .load1 35, O2 37 (.call 58) 34 36, ⟨(some 9), (.alloc 94 [(iV 0), (iV 0), (iV 0)]), [], none⟩, ⟨none, (.store 3), [(.t 9), (.t 37)], none⟩]) (.seq (.seq (.reg false [O1 38 (.fld 1) 6, O1 39 .load1 38, K2 40 (.bin .lss) 39 (iV 0)]) (.cond (.t 40) (.seq (.reg false [O1 42 (.loadN 3) 4, O1 43 (.fld 0) 5, O1 44 .load1 43, O1 45 (.fld 1) 5, O1 46 .load1 45, ⟨(some 47), (.build [(iV 0), (iV 0)] [(0, 1), (1, 1)]), [(.t 44), (.t 46)], none⟩, O1 48 (.loadN 3) 9, O1 49 .mv 3, ⟨(some 50), (.bin .sub), [(.k (iV 1024)), (.t 49)], none⟩, ⟨(some 51), (.call 59), [(.t 42), (.t 47), (.t 48), (.t 50)], none⟩, O1 41 .mv 51, O1 52 (.ext 0) 41, O1 53 (.ext 1) 41, O1 54 (.ext 2) 41, ⟨(some 10), (.alloc 42 [(iV 0), (iV 0)]), [], none⟩, ⟨(some 11), (.alloc 74 [(iV 0), (iV 0)]), [], none⟩, ⟨none, (.store 2), [(.t 10), (.t 52)], none⟩, ⟨none, (.store 2), [(.t 11), (.t 53)], none⟩, O1 12 .mv 54]) (.seq (.reg false [O1 55 .mv 12, O1 56 (.un .not) 55, O1 8 .mv 56]) .ret)) .skip)) (.seq (.reg false [O1 58 (.loadN 3) 4, O1 59 (.fld 0) 5, O1 60 .load1 59, O1 61 (.fld 1) 5, O1 62 .load1 61, ⟨(some 63), (.build [(iV 0), (iV 0)] [(0, 1), (1, 1)]), [(.t 60), (.t 62)], none⟩, O1 64 (.loadN 3) 9, O1 65 (.fld 1) 6, O1 66 .load1 65, O1 67 .mv 3, O2 68 (.bin .add) 66 67, ⟨(some 69), (.call 59), [(.t 58), (.t 63), (.t 64), (.t 68)], none⟩, O1 57 .mv 69, O1 70 (.ext 0) 57, O1 71 (.ext 1) 57, O1 72 (.ext 2) 57, ⟨(some 13), (.alloc 42 [(iV 0), (iV 0)]), [], none⟩, ⟨(some 14), (.alloc 74 [(iV 0), (iV 0)]), [], none⟩, ⟨none, (.store 2), [(.t 13), (.t 70)], none⟩, ⟨none, (.store 2), [(.t 14), (.t 71)], none⟩, O1 15 .mv 72]) (.seq (.reg false [O1 73 .mv 15, O1 74 .mv 73, G1 75 (.loadN 2) 13 74 true, G1 76 (.fld 1) 6 74 true, G1 77 .load1 76 74 true, G1 78 .mv 3 74 true, G2 79 (.bin .sub) 77 78 74 true, ⟨(some 80), .maxI, [(.k (iV 0)), (.t 79)], (some (74, true))⟩, ⟨(some 81), (.build [(iV 0), (iV 0)] [(0, 1), (1, 1)]), [(.t 80), (.k (iV 1))], (some (74, true))⟩, G2 82 (.call 60) 75 81 74 true, G1 83 (.un .not) 82 74 true, ⟨(some 84), .pick, [(.t 74), (.t 83), (.k (.bool false))], none⟩, O1 8 .mv 84]) .ret)))))), [(.s 8)]⟩
theorem x45_ok : xfn Tryz.prog Tryz.f45 = some x45.er := by kernel_rfl
/-- wayfinder/ray.Plausible -/
def g18 : Con := fun args_ E_ nn_ => match args_ with
  | [.a [.v (.int .i64 p_W), .v (.int .i64 p_H), .n p_Cells], .a [.v (.int .i64 at_X), .v (.int .i64 at_Y), .v (.int .i64 at_H)], .a [.v (.int .i64 b_Mark), .v (.int .i64 b_Reading)], .c (.v (.int .i64 rng))] => (match rowOf E_ p_Cells with
    | some (p_Cells_n, p_Cells_s, p_Cells_f) => some (.q (isRow eU8 p_Cells_n p_Cells_s p_Cells_f ∧ True) (.o (.c (.v (.bool (plausB p_W p_H (decL eU8 p_Cells_n p_Cells_f) at_X at_Y at_H b_Mark b_Reading rng))))))
    | none => none)
  | _ => none
theorem c18 : COk Tryz.prog 18 g18 := by
  refine cok_q Tryz.func18 x18_ok (by kernel_rfl) (cok_tab (cok_cons c37 (cok_cons c38 (cok_cons c39 (cok_cons c40 cok_nil))))) ?_
  intro args_ E_ nn_ cr_ hg_
  unfold g18 at hg_
  split at hg_
  · rename_i p_W p_H p_Cells at_X at_Y at_H b_Mark b_Reading rng
    split at hg_
    · rename_i p_Cells_n p_Cells_s p_Cells_f h_p_Cells
      cases hg_
      refine ⟨_, _, rfl, 1, [p_Cells], [.a [.v (.int .i64 p_W), .v (.int .i64 p_H), .n 0], .a [.v (.int .i64 at_X), .v (.int .i64 at_Y), .v (.int .i64 at_H)], .a [.v (.int .i64 b_Mark), .v (.int .i64 b_Reading)], .c (.v (.int .i64 rng))], [(0, .ro (decL eU8 p_Cells_n p_Cells_f).length eU8.sz (rowF eU8 (decL eU8 p_Cells_n p_Cells_f)))], .o (.c (.v (.bool (plausB p_W p_H (decL eU8 p_Cells_n p_Cells_f) at_X at_Y at_H b_Mark b_Reading rng)))), rfl, rfl, by simp only [push_cast, Nat.reduceLT, Nat.reduceAdd], by simp only [push_cast, Nat.reduceLT, Nat.reduceAdd], by simp only [push_cast, Nat.reduceLT, Nat.reduceAdd], rfl, ⟨inE0_row h_p_Cells, trivial⟩, rfl, ?_⟩
      intro hpre hlen
      obtain ⟨i_p_Cells, hpre⟩ := hpre
      refine ⟨⟨inE_row h_p_Cells i_p_Cells, trivial⟩, ?_⟩
      have z_p_Cells := lens_row (E := eU8) hlen h_p_Cells
      clear i_p_Cells
      generalize decL eU8 p_Cells_n p_Cells_f = p_CellsL at *
      clear h_p_Cells
      simp (config := {maxSteps := 10000000}) only [x18, push_cast, Nat.reduceAdd, Nat.reduceSub, Nat.reduceLeDiff, Nat.reduceEqDiff, Nat.reduceBEq, Nat.reduceMul, Nat.reduceLT, reduceIte, reduceCtorEq, Int.reduceLE, Int.reduceLT, Int.reduceEq, Int.reduceMul, Int.reduceAdd, Int.reduceSub, Int.reduceNeg, Int.reduceToNat, Int.reduceNe, g37, g38, g39, g40]
      refine ⟨fun h => (plaus_f h).symm, fun h1 h2 h3 h4 h5 h6 h7 h8 h9 => ?_⟩
      rw [plaus_t h1 ⟨h2, h3⟩ ⟨⟨h4, h5⟩, h6, h7⟩ ⟨h8, h9⟩, wrapI (n := 1024 - rng) (by omega) (by omega), wrapI (n := b_Reading + rng) (by omega) (by omega), wrapI (n := b_Reading - rng) (by omega) (by omega)]
      refine ⟨fun h => by rw [if_pos h]; rfl, fun h => ?_⟩
      rw [if_neg h]
      unfold lookO lookK
      cases ho : firstO p_W p_H p_CellsL at_X at_Y (beamV at_H b_Mark).1 (beamV at_H b_Mark).2.1 (beamV at_H b_Mark).2.2 (b_Reading + rng) with
      | none => rfl
      | some c =>
        have hb := hit_bd (first_hit ho).1 (first_hit ho).2.1
        have m := mulB (a := b_Reading - rng) (b := (entC at_X at_Y (beamV at_H b_Mark).1 (beamV at_H b_Mark).2.1 (beamV at_H b_Mark).2.2 c).2) (A := 2048) (B := 67108864) (by omega) (by omega) (by omega) (by omega)
        change decide (IntKind.i64.wrap ((b_Reading - rng) * (entC at_X at_Y (beamV at_H b_Mark).1 (beamV at_H b_Mark).2.1 (beamV at_H b_Mark).2.2 c).2) ≤ (entC at_X at_Y (beamV at_H b_Mark).1 (beamV at_H b_Mark).2.1 (beamV at_H b_Mark).2.2 c).1) = decide ((b_Reading - rng) * (entC at_X at_Y (beamV at_H b_Mark).1 (beamV at_H b_Mark).2.1 (beamV at_H b_Mark).2.2 c).2 ≤ (entC at_X at_Y (beamV at_H b_Mark).1 (beamV at_H b_Mark).2.1 (beamV at_H b_Mark).2.2 c).1)
        rw [wrapI (by omega) (by omega)]
    · cases hg_
  · cases hg_
/-- wayfinder/wayfinderref10.Plausible -/
def g45 : Con := fun args_ E_ nn_ => match args_ with
  | [.a [.v (.int .i64 p_W), .v (.int .i64 p_H), .n p_Cells], .a [.v (.int .i64 at_X), .v (.int .i64 at_Y), .v (.int .i64 at_H)], .a [.v (.int .i64 b_Mark), .v (.int .i64 b_Reading)], .c (.v (.int .i64 rng))] => (match rowOf E_ p_Cells with
    | some (p_Cells_n, p_Cells_s, p_Cells_f) => some (.q (isRow eU8 p_Cells_n p_Cells_s p_Cells_f ∧ True) (.o (.c (.v (.bool (plausB p_W p_H (decL eU8 p_Cells_n p_Cells_f) at_X at_Y at_H b_Mark b_Reading rng))))))
    | none => none)
  | _ => none
theorem c45 : COk Tryz.prog 45 g45 := by
  refine cok_q Tryz.func45 x45_ok (by kernel_rfl) (cok_tab (cok_cons c57 (cok_cons c42 (cok_cons c58 (cok_cons c59 (cok_cons c60 cok_nil)))))) ?_
  intro args_ E_ nn_ cr_ hg_
  unfold g45 at hg_
  split at hg_
  · rename_i p_W p_H p_Cells at_X at_Y at_H b_Mark b_Reading rng
    split at hg_
    · rename_i p_Cells_n p_Cells_s p_Cells_f h_p_Cells
      cases hg_
      refine ⟨_, _, rfl, 1, [p_Cells], [.a [.v (.int .i64 p_W), .v (.int .i64 p_H), .n 0], .a [.v (.int .i64 at_X), .v (.int .i64 at_Y), .v (.int .i64 at_H)], .a [.v (.int .i64 b_Mark), .v (.int .i64 b_Reading)], .c (.v (.int .i64 rng))], [(0, .ro (decL eU8 p_Cells_n p_Cells_f).length eU8.sz (rowF eU8 (decL eU8 p_Cells_n p_Cells_f)))], .o (.c (.v (.bool (plausB p_W p_H (decL eU8 p_Cells_n p_Cells_f) at_X at_Y at_H b_Mark b_Reading rng)))), rfl, rfl, by simp only [push_cast, Nat.reduceLT, Nat.reduceAdd], by simp only [push_cast, Nat.reduceLT, Nat.reduceAdd], by simp only [push_cast, Nat.reduceLT, Nat.reduceAdd], rfl, ⟨inE0_row h_p_Cells, trivial⟩, rfl, ?_⟩
      intro hpre hlen
      obtain ⟨i_p_Cells, hpre⟩ := hpre
      refine ⟨⟨inE_row h_p_Cells i_p_Cells, trivial⟩, ?_⟩
      have z_p_Cells := lens_row (E := eU8) hlen h_p_Cells
      clear i_p_Cells
      generalize decL eU8 p_Cells_n p_Cells_f = p_CellsL at *
      clear h_p_Cells
      simp (config := {maxSteps := 10000000}) only [x45, push_cast, Nat.reduceAdd, Nat.reduceSub, Nat.reduceLeDiff, Nat.reduceEqDiff, Nat.reduceBEq, Nat.reduceMul, Nat.reduceLT, reduceIte, reduceCtorEq, Int.reduceLE, Int.reduceLT, Int.reduceEq, Int.reduceMul, Int.reduceAdd, Int.reduceSub, Int.reduceNeg, Int.reduceToNat, Int.reduceNe, g57, g42, g58, g59, g60]
      refine ⟨fun h => (plaus_f (by rcases h with ((h | h) | h) | h; exact .inl (.inl h); exact .inl (.inr h); omega; omega)).symm, fun h1 h2 h3 h4 h5 h6 h7 h8 h9 => ⟨by omega, ?_⟩⟩
      rw [plaus_t h1 ⟨h2, h3⟩ ⟨⟨h4, h5⟩, h6, h7⟩ ⟨by omega, by omega⟩, wrapI (n := 1024 - rng) (by omega) (by omega), wrapI (n := b_Reading + rng) (by omega) (by omega), wrapI (n := b_Reading - rng) (by omega) (by omega)]
      refine ⟨fun h => by rw [if_pos (by omega)]; rfl, fun h => ?_⟩
      rw [if_neg (by omega)]
      unfold lookO lookK
      cases ho : firstO p_W p_H p_CellsL at_X at_Y (beamV at_H b_Mark).1 (beamV at_H b_Mark).2.1 (beamV at_H b_Mark).2.2 (b_Reading + rng) with
      | none => exact ⟨fun h => by simp at h, rfl⟩
      | some c =>
        have hb := hit_bd (first_hit ho).1 (first_hit ho).2.1
        generalize hK : entC at_X at_Y (beamV at_H b_Mark).1 (beamV at_H b_Mark).2.1 (beamV at_H b_Mark).2.2 = K at *
        refine ⟨fun _ => ⟨rfl, ?_⟩, ?_⟩
        · change (0 ≤ (K c).1 ∧ 0 < (K c).2 ∧ (K c).2 ≤ 2147483648) ∧ 0 ≤ max 0 (b_Reading - rng) ∧ (K c).1 ≤ 9223372036854775807 ∧ max 0 (b_Reading - rng) ≤ 9223372036854775807
          omega
        · change (!decide ((K c).1 * 1 < max 0 (b_Reading - rng) * (K c).2)) = decide ((b_Reading - rng) * (K c).2 ≤ (K c).1)
          rw [← decide_not, decide_eq_decide]
          rcases Int.le_total 0 (b_Reading - rng) with hz | hz
          · rw [Int.max_eq_right hz]; omega
          · rw [Int.max_eq_left hz]
            have := Int.mul_nonneg_of_nonpos_of_nonpos hz (show -(K c).2 ≤ 0 by omega)
            rw [Int.mul_neg] at this
            omega
    · cases hg_
  · cases hg_
end Go.Proofs.YtibahioojjligaaGreat
set_option linter.unusedVariables false
set_option linter.unusedSimpArgs false
set_option maxRecDepth 20000
namespace Go.Proofs.YtibahioojjligaaGreat
open Go.Sx Go.Way
/-! ### Sweeps -/
def swE1 (W H : Int) (L : List Int) (x y h rng : Int) (M : List Int) : Nat → Int
  | 0 => 0
  | k + 1 => if swE1 W H L x y h rng M k = 0 then measE W H L x y h (M.getD k eI.dflt) rng else swE1 W H L x y h rng M k
def swV (W H : Int) (L : List Int) (x y h rng : Int) (M R : List Int) (k : Nat) : List CC := (List.range k).map fun i => ⟨M.getD i eI.dflt, measV W H L x y h (M.getD i eI.dflt) rng (if i < R.length then R.getD i eI.dflt else 0)⟩
def swpE (W H : Int) (L : List Int) (x y h rng : Int) (M : List Int) : Int := if 32 < M.length then 6 else swE1 W H L x y h rng M M.length
def swpL (W H : Int) (L : List Int) (x y h rng : Int) (M R : List Int) : List CC := if swpE W H L x y h rng M = 0 then swV W H L x y h rng M R M.length else []
theorem swV_succ (W H : Int) (L : List Int) (x y h rng : Int) (M R : List Int) (k : Nat) : swV W H L x y h rng M R (k + 1) = swV W H L x y h rng M R k ++ [⟨M.getD k eI.dflt, measV W H L x y h (M.getD k eI.dflt) rng (if k < R.length then R.getD k eI.dflt else 0)⟩] := by simp [swV, List.range_succ]
theorem swV_len (W H : Int) (L : List Int) (x y h rng : Int) (M R : List Int) (k : Nat) : (swV W H L x y h rng M R k).length = k := by simp [swV]
theorem swE1_stop {W H : Int} {L : List Int} {x y h rng : Int} {M : List Int} {k : Nat} (h0 : swE1 W H L x y h rng M k ≠ 0) : ∀ n, k ≤ n → swE1 W H L x y h rng M n = swE1 W H L x y h rng M k
  | 0, hn => by obtain rfl : k = 0 := by omega
                rfl
  | n + 1, hn => by
    rcases Nat.lt_or_ge n k with g | g
    · obtain rfl : k = n + 1 := by omega
      rfl
    · have e := swE1_stop h0 n g
      show (if swE1 W H L x y h rng M n = 0 then _ else _) = _
      rw [e, if_neg h0]
theorem swp_full {W H : Int} {L : List Int} {x y h rng : Int} {M : List Int} (R : List Int) (k : 32 < M.length) : swpE W H L x y h rng M = 6 ∧ swpL W H L x y h rng M R = [] := by
  have e : swpE W H L x y h rng M = 6 := if_pos k
  exact ⟨e, by unfold swpL; rw [e]; rfl⟩
theorem swp_bad {W H : Int} {L : List Int} {x y h rng : Int} {M : List Int} (R : List Int) {k : Nat} (hm : ¬ 32 < M.length) (hk : k < M.length) (h0 : swE1 W H L x y h rng M k = 0) (h1 : measE W H L x y h (M.getD k eI.dflt) rng ≠ 0) :
    swpE W H L x y h rng M = measE W H L x y h (M.getD k eI.dflt) rng ∧ swpL W H L x y h rng M R = [] := by
  have e0 : swE1 W H L x y h rng M (k + 1) = measE W H L x y h (M.getD k eI.dflt) rng := if_pos h0
  have e : swpE W H L x y h rng M = measE W H L x y h (M.getD k eI.dflt) rng := by
    unfold swpE
    rw [if_neg hm, swE1_stop (k := k + 1) (by rw [e0]; exact h1) _ (by omega), e0]
  exact ⟨e, by unfold swpL; rw [e, if_neg h1]⟩
theorem swp_good {W H : Int} {L : List Int} {x y h rng : Int} {M : List Int} (R : List Int) (hm : ¬ 32 < M.length) (h0 : swE1 W H L x y h rng M M.length = 0) : swpE W H L x y h rng M = 0 ∧ swpL W H L x y h rng M R = swV W H L x y h rng M R M.length := by
  have e : swpE W H L x y h rng M = 0 := by unfold swpE; rw [if_neg hm, h0]
  exact ⟨e, by unfold swpL; rw [if_pos e]⟩
def scanB (S : List CC) : Bool := decide (S.length ≤ 32) && S.all fun c => beamB c.X c.Y
def allB (W H : Int) (L : List Int) (x y h rng : Int) (S : List CC) : Bool := (S.all fun c => plausB W H L x y h c.X c.Y rng) && decide (S.length ≤ 32)
theorem all_no {S : List CC} {f : CC → Bool} {k : Nat} (hk : k < S.length) (h : f (S.getD k eC.dflt) = false) : S.all f = false := by
  rw [Bool.eq_false_iff]
  intro g
  rw [List.all_eq_true] at g
  rw [g _ (getD_in hk)] at h
  cases h
theorem all_yes {S : List CC} {f : CC → Bool} (h : ∀ i, i < S.length → f (S.getD i eC.dflt) = true) : S.all f = true := by
  rw [List.all_eq_true]
  intro c hc
  obtain ⟨j, hj, rfl⟩ := getD_mem hc
  exact h j hj
theorem plaus_beam {W H : Int} {L : List Int} {x y h m r rng : Int} (k : plausB W H L x y h m r rng = true) : beamB m r = true := by
  unfold plausB at k
  simp only [Bool.and_eq_true] at k
  exact k.1.1.2
def x21L0 : XC := (.seq (.seq (.reg false [O1 7 .mv 3, O1 8 .mv 0, O1 9 .lenS 8, O2 10 (.bin .lss) 7 9]) (.cond (.t 10) .skip (.exit 0))) (.seq (.block 1 (.seq (.reg false [O1 13 .mv 0, O1 14 .mv 3, O2 15 (.ixS 2) 13 14, O1 16 (.loadN 2) 15, O1 17 (.call 42) 16, O1 18 (.un .not) 17]) (.cond (.t 18) (.seq (.reg false [K1 2 .mv (.bool false)]) .ret) .skip))) (.reg false [O1 11 .mv 3, K2 12 (.bin .add) 11 (iV 1), O1 3 .mv 12])))
def x21 : XFn := ⟨19, (.seq (.reg false [K1 2 .mv (.bool false)]) (.seq (.seq (.reg false [O1 4 .mv 0, O1 5 .lenS 4, K2 6 (.bin .gtr) 5 (iV 32)]) (.cond (.t 6) (.seq (.reg false [K1 2 .mv (.bool false)]) .ret) .skip)) (.seq (.seq (.reg false [K1 3 .mv (iV 0)]) (.block 0 (.loop x21L0))) (.seq (.reg false [K1 2 .mv (.bool true)]) .ret)))), [(.s 2)]⟩
theorem x21_ok : xfn Tryz.prog Tryz.f21 = some x21.er := by kernel_rfl
/-- wayfinder/wayfinderbase.Scan -/
def g21 : Con := fun args_ E_ nn_ => match args_ with
  | [.c (.n l)] => (match rowOf E_ l with
    | some (l_n, l_s, l_f) => some (.q (isRow eC l_n l_s l_f ∧ True) (.o (.c (.v (.bool (scanB (decL eC l_n l_f)))))))
    | none => none)
  | _ => none
theorem c21 : COk Tryz.prog 21 g21 := by
  refine cok_q Tryz.func21 x21_ok (by kernel_rfl) (cok_tab (cok_cons c42 cok_nil)) ?_
  intro args_ E_ nn_ cr_ hg_
  unfold g21 at hg_
  split at hg_
  · rename_i l
    split at hg_
    · rename_i l_n l_s l_f h_l
      cases hg_
      refine ⟨_, _, rfl, 1, [l], [.c (.n 0)], [(0, .ro (decL eC l_n l_f).length eC.sz (rowF eC (decL eC l_n l_f)))], .o (.c (.v (.bool (scanB (decL eC l_n l_f))))), rfl, rfl, by simp only [push_cast, Nat.reduceLT, Nat.reduceAdd], by simp only [push_cast, Nat.reduceLT, Nat.reduceAdd], by simp only [push_cast, Nat.reduceLT, Nat.reduceAdd], rfl, ⟨inE0_row h_l, trivial⟩, rfl, ?_⟩
      intro hpre hlen
      obtain ⟨i_l, hpre⟩ := hpre
      refine ⟨⟨inE_row h_l i_l, trivial⟩, ?_⟩
      have z_l := lens_row (E := eC) hlen h_l
      clear i_l
      generalize decL eC l_n l_f = lL at *
      clear h_l
      simp (config := {maxSteps := 10000000}) only [x21, push_cast, Nat.reduceAdd, Nat.reduceSub, Nat.reduceLeDiff, Nat.reduceEqDiff, Nat.reduceBEq, Nat.reduceMul, Nat.reduceLT, reduceIte, reduceCtorEq, Int.reduceLE, Int.reduceLT, Int.reduceEq, Int.reduceMul, Int.reduceAdd, Int.reduceSub, Int.reduceNeg, Int.reduceToNat, Int.reduceNe, g42]
      refine ⟨fun h => ?_, fun h => ?_⟩
      · unfold scanB; rw [decide_eq_false (by omega)]; rfl
      refine vcLoop_upd (α := {k : Nat // k ≤ lL.length ∧ ∀ i, i < k → beamB (lL.getD i eC.dflt).X (lL.getD i eC.dflt).Y = true}) [0] 0 (fun s => [(3, .o (.c (.v (.int .i64 (s.1 : Nat)))))]) (fun s => []) (fun s => lL.length - s.1) ⟨0, by omega, fun i hi => by omega⟩ ?_ ?_
      · simp only [push_cast, Nat.reduceAdd, Nat.reduceSub, Nat.reduceLeDiff, Nat.reduceEqDiff, Nat.reduceBEq, Nat.reduceMul, Nat.reduceLT, reduceIte, reduceCtorEq, Int.reduceLE, Int.reduceLT, Int.reduceEq, Int.reduceMul, Int.reduceAdd, Int.reduceSub, Int.reduceNeg, Int.reduceToNat, Int.reduceNe, g42]
      · rintro ⟨k, hk, hall⟩
        simp only [x21L0, push_cast, Nat.reduceAdd, Nat.reduceSub, Nat.reduceLeDiff, Nat.reduceEqDiff, Nat.reduceBEq, Nat.reduceMul, Nat.reduceLT, reduceIte, reduceCtorEq, Int.reduceLE, Int.reduceLT, Int.reduceEq, Int.reduceMul, Int.reduceAdd, Int.reduceSub, Int.reduceNeg, Int.reduceToNat, Int.reduceNe, g42]
        refine ⟨fun hlt => ⟨hlt, hlt, fun g => ?_, fun a1 a2 a3 a4 => ⟨⟨k + 1, by omega, fun i hi => by by_cases e : i = k; subst e; exact decide_eq_true ⟨⟨a1, a2⟩, a3, a4⟩; exact hall i (by omega)⟩, wrapI (by omega) (by omega), by simp only; omega⟩⟩, fun hge => ?_⟩
        · unfold scanB; rw [all_no (f := fun c => beamB c.X c.Y) hlt (decide_eq_false g), Bool.and_false]
        · unfold scanB; rw [all_yes (f := fun c => beamB c.X c.Y) (fun i hi => hall i (by omega)), decide_eq_true (by omega)]; rfl
    · cases hg_
  · cases hg_
end Go.Proofs.YtibahioojjligaaGreat
set_option linter.unusedVariables false
set_option linter.unusedSimpArgs false
set_option maxRecDepth 20000
namespace Go.Proofs.YtibahioojjligaaGreat
open Go.Sx Go.Way
end Go.Proofs.YtibahioojjligaaGreat
set_option linter.unusedVariables false
set_option linter.unusedSimpArgs false
set_option maxRecDepth 20000
namespace Go.Proofs.YtibahioojjligaaGreat
open Go.Sx Go.Way
/-! ### Laws of the first wall -/
theorem lt_ge (a b : Int) : a < b ∨ b ≤ a := by omega
theorem sq_le {a c : Int} (hc : 0 ≤ c) (h : a * a ≤ c * c) : -c ≤ a ∧ a ≤ c := by
  have key : ∀ b : Int, b * b ≤ c * c → b ≤ c := fun b hb => by
    rcases lt_ge c b with h1 | h1
    · have := Int.mul_le_mul (show c + 1 ≤ b by omega) (show c + 1 ≤ b by omega) (by omega) (by omega)
      have e : (c + 1) * (c + 1) = c * c + 2 * c + 1 := by grind
      omega
    · exact h1
  have := key (-a) (by rw [Int.neg_mul_neg]; exact h)
  exact ⟨by omega, key a h⟩
theorem low_vec {x y d : Int} (h1 : 1 ≤ d) (h2 : d ≤ 67108864) (h : x * x + y * y = d * d) : vecB (low x y d).1 (low x y d).2.1 (low x y d).2.2 = true := by
  have hg := gcd3_pos (x := x) (y := y) (d := d) (by omega)
  obtain ⟨k1, k2, k3⟩ := dvd_gcd3 x y d
  have e1 := Int.ediv_mul_cancel k1
  have e2 := Int.ediv_mul_cancel k2
  have e3 := Int.ediv_mul_cancel k3
  have p1 := Int.ediv_pos_of_pos_of_dvd (show 0 < d by omega) (Int.le_of_lt hg) k3
  have p2 : d / gcd3 x y d ≤ d := Int.ediv_le_self _ (by omega)
  unfold low vecB
  simp only
  clear k1 k2 k3
  generalize x / gcd3 x y d = a at *
  generalize y / gcd3 x y d = b at *
  generalize d / gcd3 x y d = c at *
  generalize gcd3 x y d = g at *
  have e : (a * a + b * b) * (g * g) = c * c * (g * g) := by rw [← e1, ← e2, ← e3] at h; grind
  have f := Int.eq_of_mul_eq_mul_right (by have := Int.mul_pos hg hg; omega) e
  have n1 : 0 ≤ a * a := by rcases Int.le_total 0 a with q | q; exact Int.mul_nonneg q q; exact Int.mul_nonneg_of_nonpos_of_nonpos q q
  have n2 : 0 ≤ b * b := by rcases Int.le_total 0 b with q | q; exact Int.mul_nonneg q q; exact Int.mul_nonneg_of_nonpos_of_nonpos q q
  have s1 := sq_le (a := a) (c := c) (by omega) (by omega)
  have s2 := sq_le (a := b) (c := c) (by omega) (by omega)
  rw [decide_eq_true_eq]
  omega
theorem dirV_ok : ∀ k : Fin 256, vecB (dirV k.val).1 (dirV k.val).2.1 (dirV k.val).2.2 = true ∧ (dirV k.val).2.2 ≤ 8191 := by decide +kernel
theorem dirV_vec (h : Int) : vecB (dirV h).1 (dirV h).2.1 (dirV h).2.2 = true ∧ (dirV h).2.2 ≤ 8191 := by
  rw [← dirV_mod]
  have h0 : 0 ≤ h % 256 := Int.emod_nonneg _ (by omega)
  have h1 : h % 256 < 256 := Int.emod_lt_of_pos _ (by omega)
  have := dirV_ok ⟨(h % 256).toNat, by omega⟩
  rw [show (((⟨(h % 256).toNat, by omega⟩ : Fin 256).val : Nat) : Int) = h % 256 from Int.toNat_of_nonneg h0] at this
  exact this
/-- A beam's direction is always a valid vector. -/
theorem beam_vec (h m : Int) : vecB (beamV h m).1 (beamV h m).2.1 (beamV h m).2.2 = true := by
  obtain ⟨a1, a2⟩ := dirV_vec h
  obtain ⟨b1, b2⟩ := dirV_vec m
  have v1 := vec_bd a1
  have v2 := vec_bd b1
  unfold beamV
  generalize dirV h = p at *
  generalize dirV m = q at *
  have hx : vecB (bmX p.1 p.2.1 p.2.2 q.1 q.2.1 q.2.2).1 (bmX p.1 p.2.1 p.2.2 q.1 q.2.1 q.2.2).2.1 (bmX p.1 p.2.1 p.2.2 q.1 q.2.1 q.2.2).2.2 = true := by
    unfold bmX
    have m1 := Int.mul_pos (show 0 < p.2.2 by omega) (show 0 < q.2.2 by omega)
    have m2 := Int.mul_le_mul a2 b2 (by omega) (by omega)
    refine low_vec (by omega) (by omega) ?_
    have z1 := v1.2.2.2.2.2.2.2.2
    have z2 := v2.2.2.2.2.2.2.2.2
    generalize p.1 = a at *; generalize p.2.1 = b at *; generalize p.2.2 = c at *
    generalize q.1 = d at *; generalize q.2.1 = e at *; generalize q.2.2 = f at *
    have r1 : (a * d - b * e) * (a * d - b * e) + (a * e + b * d) * (a * e + b * d) = (a * a + b * b) * (d * d + e * e) := by grind
    rw [r1, z1, z2]; grind
  have he : bmE p.1 p.2.1 p.2.2 q.1 q.2.1 q.2.2 = 0 := by
    have := (vec_bd hx).2.1
    unfold bmE
    rw [if_neg (by rw [a1, b1]; decide), if_neg (by omega)]
  unfold bmT
  rw [if_pos he]
  exact hx
section
variable {W H : Int} {L : List Int} {px py vx vy vd most s : Int} {b c : CC}
theorem first_best (h : firstO W H L px py vx vy vd most = some c) : okF W H L px py vx vy vd most = true ∧ Best (ltK px py vx vy vd) (refL W H L px py vx vy vd most) c := by
  unfold firstO at h
  split at h
  · rename_i hk
    rcases pick_best (ltK_tr px py vx vy vd) (ltK_neg px py vx vy vd) (ltK_irr px py vx vy vd) (refL W H L px py vx vy vd most) (gridL_sorted _ _ _ _ _) with ⟨a1, a2⟩ | ⟨d, a1, a2⟩
    · rw [a1] at h; cases h
    · rw [a1] at h; cases h; exact ⟨hk, a2⟩
  · cases h
theorem first_min (h : firstO W H L px py vx vy vd most = some c) (hb : b ∈ refL W H L px py vx vy vd most) : flE (entC px py vx vy vd c) (entC px py vx vy vd b) := by
  have := (first_best h).2.2.1 b hb
  unfold ltK at this
  rw [decide_eq_false_iff_not] at this
  unfold flE
  omega
theorem first_is (hk : okF W H L px py vx vy vd most = true) (hb : b ∈ refL W H L px py vx vy vd most) : ∃ c, firstO W H L px py vx vy vd most = some c := by
  unfold firstO
  rw [if_pos hk]
  rcases pick_best (ltK_tr px py vx vy vd) (ltK_neg px py vx vy vd) (ltK_irr px py vx vy vd) (refL W H L px py vx vy vd most) (gridL_sorted _ _ _ _ _) with ⟨a1, a2⟩ | ⟨d, a1, a2⟩
  · rw [a2] at hb; cases hb
  · exact ⟨d, a1⟩
theorem first_in (h : firstO W H L px py vx vy vd most = some c) : c ∈ refL W H L px py vx vy vd most := (first_best h).2.1
theorem ref_at (h : c ∈ refL W H L px py vx vy vd most) : 0 ≤ (entC px py vx vy vd c).1 ∧ 1 ≤ (entC px py vx vy vd c).2 ∧ (entC px py vx vy vd c).1 ≤ most * (entC px py vx vy vd c).2 := by
  have m := refL_mem.1 h
  have k := m.1.2
  unfold hitB at k
  rw [Bool.and_eq_true, decide_eq_true_eq] at k
  have b := ent_bd (c := c) k.1
  exact ⟨b.1.1, b.2.1, k.2⟩
/-- What is met up to a distance is met up to each that is not less than its own. -/
theorem ref_to (h : c ∈ refL W H L px py vx vy vd most) (hs : (entC px py vx vy vd c).1 ≤ s * (entC px py vx vy vd c).2) : c ∈ refL W H L px py vx vy vd s := by
  have m := refL_mem.1 h
  have k := m.1.2
  unfold hitB at k
  rw [Bool.and_eq_true, decide_eq_true_eq] at k
  refine refL_mem.2 ⟨⟨m.1.1, ?_⟩, m.2⟩
  unfold hitB
  rw [k.1, decide_eq_true hs]; rfl
theorem ref_up (h : c ∈ refL W H L px py vx vy vd most) (hs : most ≤ s) : c ∈ refL W H L px py vx vy vd s := by
  have a := ref_at h
  have := Int.mul_le_mul_of_nonneg_right hs (show 0 ≤ (entC px py vx vy vd c).2 by omega)
  exact ref_to h (by omega)
theorem fl_le {A B : Int × Int} (ha : 1 ≤ A.2) (hb : 1 ≤ B.2) (h : flE A B) : (B.1 ≤ s * B.2 → A.1 ≤ s * A.2) ∧ (s * A.2 ≤ A.1 → s * B.2 ≤ B.1) := by
  unfold flE at h
  constructor
  · intro k
    refine Int.le_of_mul_le_mul_right (a := B.2) ?_ (by omega)
    have e := Int.mul_le_mul_of_nonneg_right k (show 0 ≤ A.2 by omega)
    have r : s * B.2 * A.2 = s * A.2 * B.2 := by ac_rfl
    omega
  · intro k
    refine Int.le_of_mul_le_mul_right (a := A.2) ?_ (by omega)
    have e := Int.mul_le_mul_of_nonneg_right k (show 0 ≤ B.2 by omega)
    have r : s * B.2 * A.2 = s * A.2 * B.2 := by ac_rfl
    omega
/-- With the same setting, up to another distance. -/
theorem okF_to (h : okF W H L px py vx vy vd most = true) (h0 : 0 ≤ s) (h1 : s ≤ 2048) : okF W H L px py vx vy vd s = true := by
  unfold okF at h ⊢
  simp only [Bool.and_eq_true] at h
  rw [h.1.1, h.1.2]
  unfold okR
  simp; omega
theorem hits_clear (h : firstO W H L px py vx vy vd most = some c) (h0 : 0 ≤ s) (h1 : s * (entC px py vx vy vd c).2 ≤ (entC px py vx vy vd c).1) : clearB W H L px py vx vy vd s = true := by
  have hb := first_best h
  have g := okF_at hb.1
  have a := ref_at (first_in h)
  have hsm : s ≤ most := by
    refine Int.le_of_mul_le_mul_right (a := (entC px py vx vy vd c).2) ?_ (by omega)
    omega
  unfold clearB
  rw [okF_to hb.1 h0 (by omega), Bool.true_and]
  cases ho : firstO W H L px py vx vy vd s with
  | none => rfl
  | some d =>
    have f := first_min h (ref_up (first_in ho) hsm)
    have a2 := ref_at (first_in ho)
    exact decide_eq_true ((fl_le a.2.1 a2.2.1 f).2 h1)
theorem hits_not (h : firstO W H L px py vx vy vd most = some c) (h0 : 0 ≤ s) (h2 : s ≤ 2048) (h1 : (entC px py vx vy vd c).1 < s * (entC px py vx vy vd c).2) : clearB W H L px py vx vy vd s = false := by
  have hb := first_best h
  have a := ref_at (first_in h)
  have hm : c ∈ refL W H L px py vx vy vd s := ref_to (first_in h) (by omega)
  have hk := okF_to hb.1 h0 h2
  obtain ⟨d, hd⟩ := first_is hk hm
  unfold clearB
  rw [hk, hd, Bool.true_and]
  have a2 := ref_at (first_in hd)
  have f := first_min hd hm
  refine decide_eq_false ?_
  intro k
  have := (fl_le a2.2.1 a.2.1 f).2 k
  omega
theorem first_none (h : firstO W H L px py vx vy vd most = none) (hk : okF W H L px py vx vy vd most = true) (hb : b ∈ refL W H L px py vx vy vd most) : False := by
  obtain ⟨c, e⟩ := first_is hk hb
  rw [h] at e; cases e
end
theorem hits_law {W H : Int} {L : List Int} {px py h m : Int} {c : CC} {K : Int × Int} (hc : firstO W H L px py (beamV h m).1 (beamV h m).2.1 (beamV h m).2.2 1500 = some c)
    (hK : K = entC px py (beamV h m).1 (beamV h m).2.1 (beamV h m).2.2 c) :
    (0 ≤ K.1 ∧ 1 ≤ K.2 ∧ K.2 ≤ 67108864 ∧ K.1 ≤ 137438953472) ∧ (0 ≤ K.1 / K.2 ∧ K.1 / K.2 ≤ 1500) ∧ clearB W H L px py (beamV h m).1 (beamV h m).2.1 (beamV h m).2.2 (K.1 / K.2) = true ∧ clearB W H L px py (beamV h m).1 (beamV h m).2.1 (beamV h m).2.2 (K.1 / K.2 + 1) = false ∧ atB W H L c.X c.Y = 2 := by
  have a : 0 ≤ K.1 ∧ 1 ≤ K.2 ∧ K.1 ≤ 1500 * K.2 := by rw [hK]; exact ref_at (first_in hc)
  have hb : (0 ≤ K.1 ∧ 1 ≤ K.2 ∧ K.2 ≤ 67108864) ∧ K.1 ≤ 2048 * K.2 ∧ (K.2 = 1 ∨ K.1 < 2048 * K.2) := by rw [hK]; exact hit_bd (first_hit hc).1 (first_hit hc).2.1
  have q0 : 0 ≤ K.1 / K.2 := Int.ediv_nonneg a.1 (by omega)
  have q1 : K.1 / K.2 ≤ 1500 := Int.ediv_le_of_le_mul (by omega) a.2.2
  have q2 : K.1 / K.2 * K.2 ≤ K.1 := Int.ediv_mul_le _ (by omega)
  have q3 : K.1 < (K.1 / K.2 + 1) * K.2 := Int.lt_ediv_add_one_mul_self _ (by omega)
  refine ⟨⟨a.1, a.2.1, hb.1.2.2, by omega⟩, ⟨q0, q1⟩, hits_clear hc q0 (by rw [← hK]; exact q2), hits_not hc (by omega) (by omega) (by rw [← hK]; exact q3), ?_⟩
  have := (first_hit hc).2.2
  unfold wallB at this
  exact of_decide_eq_true this
theorem nohit_law {W H : Int} {L : List Int} {px py h m : Int} (hc : firstO W H L px py (beamV h m).1 (beamV h m).2.1 (beamV h m).2.2 1500 = none) : (!inB W H L px py || clearB W H L px py (beamV h m).1 (beamV h m).2.1 (beamV h m).2.2 1500) = true := by
  cases hi : inB W H L px py
  · rfl
  · unfold clearB
    rw [okF_true hi (beam_vec h m) (by omega) (by omega), hc]; rfl
section
variable {W H : Int} {L : List Int} {x y h m r rng er : Int}
theorem good_ok (k : goodB W H L x y h = true) : inB W H L x y = true ∧ 0 ≤ h ∧ h ≤ 255 := by
  unfold goodB at k
  rw [Bool.and_eq_true, decide_eq_true_eq] at k
  exact ⟨k.1, k.2⟩
theorem look_ok (k : goodB W H L x y h = true) {s : Int} (h0 : 0 ≤ s) (h1 : s ≤ 2048) : okF W H L x y (beamV h m).1 (beamV h m).2.1 (beamV h m).2.2 s = true := okF_true (good_ok k).1 (beam_vec h m) h0 h1
/-- What is measured is plausible. -/
theorem meas_plaus (k : measE W H L x y h m rng = 0) : plausB W H L x y h m (measV W H L x y h m rng er) rng = true := by
  have hg : goodB W H L x y h = true := by
    unfold measE at k; split at k
    · cases k
    · rename_i q; simpa using q
  have hq : (1 ≤ rng ∧ rng ≤ 32) ∧ 0 ≤ m ∧ m ≤ 255 := by
    unfold measE at k; rw [if_neg (by rw [hg]; decide)] at k
    split at k
    · assumption
    · cases k
  unfold measV
  rw [if_pos k]
  obtain ⟨g1, g2⟩ := good_ok hg
  have far : ∀ {d : CC}, lookO W H L x y h m (1024 - rng) = some d → ∃ c, lookO W H L x y h m 1024 = some c ∧ (lookK x y h m c).1 ≤ (1024 - rng) * (lookK x y h m c).2 ∧ 1 ≤ (lookK x y h m c).2 := by
    intro d hd
    have hm := ref_up (s := 1024) (first_in hd) (by omega)
    obtain ⟨c, hc⟩ := first_is (look_ok hg (by omega) (by omega)) hm
    have a := ref_at (first_in hd)
    have b := ref_at (first_in hc)
    exact ⟨c, hc, (fl_le b.2.1 a.2.1 (first_min hc hm)).1 a.2.2, b.2.1⟩
  cases ho : lookO W H L x y h m 1024 with
  | none =>
    rw [show measZ (lookK x y h m) (min (max er (1 - rng)) rng) none = -1 from rfl, plaus_t g1 g2 (by omega) hq.1, if_pos rfl]
    cases hd : lookO W H L x y h m (1024 - rng) with
    | none => rfl
    | some d => obtain ⟨c, hc, _⟩ := far hd; rw [ho] at hc; cases hc
  | some c =>
    have a := ref_at (first_in ho)
    have e1 : 1 - rng ≤ min (max er (1 - rng)) rng ∧ min (max er (1 - rng)) rng ≤ rng := by omega
    generalize min (max er (1 - rng)) rng = e at *
    change plausB W H L x y h m (if 1024 < max ((lookK x y h m c).1 / (lookK x y h m c).2 + e) 0 then -1 else max ((lookK x y h m c).1 / (lookK x y h m c).2 + e) 0) rng = true
    have q0 : 0 ≤ (lookK x y h m c).1 / (lookK x y h m c).2 := Int.ediv_nonneg a.1 (by have := a.2.1; unfold lookK; omega)
    have q2 : (lookK x y h m c).1 / (lookK x y h m c).2 * (lookK x y h m c).2 ≤ (lookK x y h m c).1 := Int.ediv_mul_le _ (by have := a.2.1; unfold lookK; omega)
    have q3 : (lookK x y h m c).1 < ((lookK x y h m c).1 / (lookK x y h m c).2 + 1) * (lookK x y h m c).2 := Int.lt_ediv_add_one_mul_self _ (by have := a.2.1; unfold lookK; omega)
    have a' : 0 ≤ (lookK x y h m c).1 ∧ 1 ≤ (lookK x y h m c).2 ∧ (lookK x y h m c).1 ≤ 1024 * (lookK x y h m c).2 := a
    generalize hK : (lookK x y h m c).1 / (lookK x y h m c).2 = q at *
    split
    · rename_i hv
      rw [plaus_t g1 g2 (by omega) hq.1, if_pos rfl]
      cases hd : lookO W H L x y h m (1024 - rng) with
      | none => rfl
      | some d =>
        obtain ⟨c2, hc2, k1, k2⟩ := far hd
        rw [ho] at hc2; cases hc2
        exfalso
        have : q ≤ 1024 - rng := by
          refine Int.le_of_mul_le_mul_right (a := (lookK x y h m c).2) ?_ (by omega)
          omega
        omega
    · rename_i hv
      rw [plaus_t g1 g2 (by omega) hq.1, if_neg (by omega)]
      have hr : q + 1 ≤ max (q + e) 0 + rng := by omega
      have hl : max (q + e) 0 - rng ≤ q := by omega
      have hv0 : 0 ≤ max (q + e) 0 ∧ max (q + e) 0 ≤ 1024 := by omega
      generalize max (q + e) 0 = v at *
      have hm : c ∈ refL W H L x y (beamV h m).1 (beamV h m).2.1 (beamV h m).2.2 (v + rng) := ref_to (first_in ho) (by
        have := Int.mul_le_mul_of_nonneg_right hr (show 0 ≤ (lookK x y h m c).2 by omega)
        change (lookK x y h m c).1 ≤ (v + rng) * (lookK x y h m c).2
        omega)
      obtain ⟨d, hd⟩ := first_is (look_ok hg (by omega) (by omega)) hm
      have b := ref_at (first_in hd)
      have f := first_min hd hm
      have hd2 := ref_to (s := 1024) (first_in hd) ((fl_le b.2.1 a.2.1 f).1 a.2.2)
      have f2 := first_min ho hd2
      rw [show lookO W H L x y h m (v + rng) = some d from hd]
      refine decide_eq_true ((fl_le (A := lookK x y h m c) a'.2.1 b.2.1 f2).2 ?_)
      have := Int.mul_le_mul_of_nonneg_right hl (show 0 ≤ (lookK x y h m c).2 by omega)
      omega
/-- An echo lies between. -/
theorem between_law (hg : goodB W H L x y h = true) (hb : (0 ≤ m ∧ m ≤ 255) ∧ 0 ≤ r ∧ r ≤ 1024) (hr : 1 ≤ rng ∧ rng ≤ 32) :
    plausB W H L x y h m r rng = (clearB W H L x y (beamV h m).1 (beamV h m).2.1 (beamV h m).2.2 (max 0 (r - rng)) && (firstO W H L x y (beamV h m).1 (beamV h m).2.1 (beamV h m).2.2 (r + rng)).isSome) := by
  obtain ⟨g1, g2⟩ := good_ok hg
  rw [plaus_t g1 g2 (by omega) hr, if_neg (by omega)]
  unfold lookO lookK
  cases ho : firstO W H L x y (beamV h m).1 (beamV h m).2.1 (beamV h m).2.2 (r + rng) with
  | none => rw [Option.isSome_none, Bool.and_false]; rfl
  | some c =>
    rw [Option.isSome_some, Bool.and_true]
    have a := ref_at (first_in ho)
    rcases lt_ge (r - rng) 0 with hz | hz
    · rw [Int.max_eq_left (by omega), hits_clear ho (by omega) (by omega)]
      refine decide_eq_true ?_
      have := Int.mul_le_mul_of_nonneg_right (show r - rng ≤ 0 by omega) (show 0 ≤ (entC x y (beamV h m).1 (beamV h m).2.1 (beamV h m).2.2 c).2 by omega)
      omega
    · rw [Int.max_eq_right hz]
      show decide ((r - rng) * (entC x y (beamV h m).1 (beamV h m).2.1 (beamV h m).2.2 c).2 ≤ (entC x y (beamV h m).1 (beamV h m).2.1 (beamV h m).2.2 c).1) = _
      rcases lt_ge (entC x y (beamV h m).1 (beamV h m).2.1 (beamV h m).2.2 c).1 ((r - rng) * (entC x y (beamV h m).1 (beamV h m).2.1 (beamV h m).2.2 c).2) with hl | hl
      · rw [hits_not ho hz (by omega) hl]; exact decide_eq_false (by omega)
      · rw [hits_clear ho hz hl]; exact decide_eq_true hl
theorem sweep_plaus {M R : List Int} (k : swpE W H L x y h rng M = 0) : allB W H L x y h rng (swpL W H L x y h rng M R) = true := by
  have hm : ¬ 32 < M.length := by intro q; unfold swpE at k; rw [if_pos q] at k; cases k
  have h0 : swE1 W H L x y h rng M M.length = 0 := by unfold swpE at k; rwa [if_neg hm] at k
  have hall : ∀ n, n < M.length → measE W H L x y h (M.getD n eI.dflt) rng = 0 := by
    intro n hn
    have e1 : swE1 W H L x y h rng M (n + 1) = 0 := by
      rcases Classical.em (swE1 W H L x y h rng M (n + 1) = 0) with g | g
      · exact g
      · have := swE1_stop g M.length (by omega); omega
    have e0 : swE1 W H L x y h rng M n = 0 := by
      rcases Classical.em (swE1 W H L x y h rng M n = 0) with g | g
      · exact g
      · have := swE1_stop g M.length (by omega); omega
    rw [← e1]; exact (if_pos e0).symm
  rw [(swp_good R hm h0).2]
  unfold allB
  rw [swV_len, decide_eq_true (show M.length ≤ 32 by omega), Bool.and_true, List.all_eq_true]
  intro c hc
  unfold swV at hc
  rw [List.mem_map] at hc
  obtain ⟨i, hi, rfl⟩ := hc
  rw [List.mem_range] at hi
  exact meas_plaus (hall i hi)
theorem all_law {S : List CC} : (scanB S && S.all fun c => plausB W H L x y h c.X c.Y 5) = allB W H L x y h 5 S := by
  unfold scanB allB
  cases hp : (S.all fun c => plausB W H L x y h c.X c.Y 5)
  · rw [Bool.and_false, Bool.false_and]
  · have : (S.all fun c => beamB c.X c.Y) = true := by
      rw [List.all_eq_true] at hp ⊢
      exact fun c hc => plaus_beam (hp c hc)
    rw [this, Bool.and_true, Bool.and_true, Bool.true_and]
end
theorem take_succ_all {S : List CC} {f : CC → Bool} {k : Nat} (hk : k < S.length) : (S.take (k + 1)).all f = ((S.take k).all f && f (S.getD k eC.dflt)) := by
  have e : S.getD k eC.dflt = S[k] := by rw [List.getD_eq_getElem?_getD, List.getElem?_eq_getElem hk, Option.getD_some]
  rw [List.take_add_one, List.getElem?_eq_getElem hk, Option.toList_some, List.all_append, e]
  simp
end Go.Proofs.YtibahioojjligaaGreat
