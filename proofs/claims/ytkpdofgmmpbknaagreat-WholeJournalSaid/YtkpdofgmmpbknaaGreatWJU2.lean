/- A part of the proof of a statement about this seat: how a function is stepped through, and plain laws. No conditions. -/
import Derived.Test.YtkpdofgmmpbknaaGreatRows
import Derived.Test.YtkpdofgmmpbknaaGreatWJSz4
import Derived.Test.YtkpdofgmmpbknaaGreatWJU1
import Derived.KernelRfl
set_option linter.unusedVariables false
set_option linter.unusedSimpArgs false
set_option maxRecDepth 20000
namespace Go.Proofs.YtkpdofgmmpbknaaGreat
open Go.Sx Go.Way
def wallB (W H : Int) (L : List Int) (c : CC) : Bool := decide (atB W H L c.X c.Y = 2)
def hitB (px py vx vy vd most : Int) (c : CC) : Bool := thrB px py vx vy vd (c.X * 64) (c.Y * 64) (c.X * 64 + 64) (c.Y * 64 + 64) && decide ((entC px py vx vy vd c).1 ≤ most * (entC px py vx vy vd c).2)
def rayL (W H : Int) (L : List Int) (px py vx vy vd most : Int) : List CC := (trL px py vx vy vd 0 most).filter (wallB W H L)
def refP (W H : Int) (L : List Int) (px py vx vy vd most : Int) (x y : Int) : Bool := wallB W H L ⟨x, y⟩ && hitB px py vx vy vd most ⟨x, y⟩
def refL (W H : Int) (L : List Int) (px py vx vy vd most : Int) : List CC := gridL (refP W H L px py vx vy vd most) (-1) W (-1) H
def okF (W H : Int) (L : List Int) (px py vx vy vd most : Int) : Bool := inB W H L px py && vecB vx vy vd && okR 0 most
def firstO (W H : Int) (L : List Int) (px py vx vy vd most : Int) : Option CC := if okF W H L px py vx vy vd most = true then pickL (ltK px py vx vy vd) (refL W H L px py vx vy vd most) else none
def sqR (c : CC) : Bool := sRectB (c.X * 64) (c.Y * 64) (c.X * 64 + 64) (c.Y * 64 + 64)
def InC (px py vx vy : Int) (c : CC) (t : Int × Int) : Prop := InS px py vx vy (c.X * 64) (c.Y * 64) (c.X * 64 + 64) (c.Y * 64 + 64) t
theorem hit_iff {px py vx vy vd most : Int} {c : CC} (h1 : sPtB px py = true) (h2 : vecB vx vy vd = true) (h3 : sqR c = true) : hitB px py vx vy vd most c = true ↔ ∃ t, InC px py vx vy c t ∧ t.1 * vd ≤ most * t.2 := by
  have a := vec_bd h2
  unfold hitB
  rw [Bool.and_eq_true, decide_eq_true_eq]
  constructor
  · rintro ⟨h, k⟩
    unfold entC entF at k
    exact ⟨_, (thr_ent h).1.1, (low_le (thrL_pos _ _ _ _ _ _ _ _)).1.1 k⟩
  · rintro ⟨t, ht, k⟩
    have h := thr_of h1 h2 h3 ht
    refine ⟨h, ?_⟩
    unfold entC entF
    rw [(low_le (thrL_pos _ _ _ _ _ _ _ _)).1]
    have e := (thr_ent h).1.2 t ht
    have hp := thrL_pos px py vx vy (c.X * 64) (c.Y * 64) (c.X * 64 + 64) (c.Y * 64 + 64)
    generalize thrL px py vx vy (c.X * 64) (c.Y * 64) (c.X * 64 + 64) (c.Y * 64 + 64) = z at *
    unfold flE at e
    refine Int.le_of_mul_le_mul_right (a := t.2) ?_ ht.1
    have f1 := Int.mul_le_mul_of_nonneg_right e (show 0 ≤ vd by omega)
    have f2 := Int.mul_le_mul_of_nonneg_right k (Int.le_of_lt hp)
    have r1 : z.1 * t.2 * vd = z.1 * vd * t.2 := by ac_rfl
    have r2 : t.1 * z.2 * vd = t.1 * vd * z.2 := by ac_rfl
    have r3 : most * t.2 * z.2 = most * z.2 * t.2 := by ac_rfl
    omega
theorem inC_shift {n m p d a b : Int} : inC n m 0 d (a - p) (b - p) ↔ inC n m p d a b := by
  unfold inC
  rw [Int.sub_mul, Int.sub_mul]
  omega
theorem sw_hit {px py vx vy vd most : Int} {c : CC} (h1 : sPtB px py = true) (h : swP px py px py vx vy vd 0 most c.X c.Y = true) : sqR c = true ∧ hitB px py vx vy vd most c = true := by
  unfold swP at h
  rw [Bool.and_eq_true] at h
  obtain ⟨h2, h3⟩ := h
  rw [meets_iff] at h3
  unfold MeP at h3
  obtain ⟨_, _, hv, _, n, m, hm, hn, hx, hy, _, hh⟩ := h3
  simp only [minusB, Bool.and_eq_true] at h2
  refine ⟨h2.1.1, (hit_iff h1 hv h2.1.1).2 ⟨(n, m), ⟨hm, hn, inC_shift.1 hx, inC_shift.1 hy⟩, hh⟩⟩
theorem hit_sw {px py vx vy vd most : Int} {c : CC} (hp : (0 ≤ px ∧ px ≤ 4096) ∧ 0 ≤ py ∧ py ≤ 4096) (hv : vecB vx vy vd = true) (hm : 0 ≤ most ∧ most ≤ 2048) (hc : (-1 ≤ c.X ∧ c.X ≤ 64) ∧ -1 ≤ c.Y ∧ c.Y ≤ 64) (h : hitB px py vx vy vd most c = true) :
    swP px py px py vx vy vd 0 most c.X c.Y = true := by
  have h1 : sPtB px py = true := by simp only [sPtB, nearB, Bool.and_eq_true, decide_eq_true_eq]; omega
  have h3 : sqR c = true := by simp only [sqR, sRectB, nearB, Bool.and_eq_true, decide_eq_true_eq]; omega
  obtain ⟨t, ⟨g1, g2, g3, g4⟩, g5⟩ := (hit_iff h1 hv h3).1 h
  unfold swP
  rw [Bool.and_eq_true, meets_iff]
  constructor
  · simp only [minusB, sRectB, nearB, Bool.and_eq_true, decide_eq_true_eq]; omega
  · have a := vec_bd hv
    refine ⟨by omega, by rfl, hv, by simp only [sRectB, nearB, Bool.and_eq_true, decide_eq_true_eq]; omega, t.1, t.2, g1, g2, inC_shift.2 g3, inC_shift.2 g4, ?_, g5⟩
    rw [Int.zero_mul]
    exact Int.mul_nonneg g2 (by omega)
theorem okF_at {W H : Int} {L : List Int} {px py vx vy vd most : Int} (h : okF W H L px py vx vy vd most = true) :
    planB W H L = true ∧ ((0 ≤ px ∧ px ≤ 64 * W) ∧ 0 ≤ py ∧ py ≤ 64 * H) ∧ vecB vx vy vd = true ∧ (0 ≤ most ∧ most ≤ 2048) ∧ ((1 ≤ W ∧ W ≤ 64) ∧ 1 ≤ H ∧ H ≤ 64) ∧ sPtB px py = true ∧ trE px py vx vy vd 0 most = 0 ∧ trL px py vx vy vd 0 most = swL px py px py vx vy vd 0 most := by
  simp only [okF, inB, okR, Bool.and_eq_true, decide_eq_true_eq] at h
  obtain ⟨⟨⟨h1, h2⟩, h3⟩, h4⟩ := h
  have a := planB_at h1
  have hp : pPtB px py = true := by unfold pPtB; rw [decide_eq_true_eq]; omega
  have e : trE px py vx vy vd 0 most = 0 := by
    unfold trE
    rw [if_neg (by simp [hp, h3]), if_neg]
    unfold okR
    simp only [decide_eq_false_iff_not]
    omega
  refine ⟨h1, h2, h3, by omega, ⟨a.1, a.2.1⟩, ?_, e, ?_⟩
  · simp only [sPtB, nearB, Bool.and_eq_true, decide_eq_true_eq]; omega
  · unfold trL; rw [if_pos e]
theorem wall_out {W H : Int} {L : List Int} {c : CC} (h : planB W H L = true) (hc : insB W H c.X c.Y = false) : wallB W H L c = true := by
  unfold wallB; rw [at_out h hc]; rfl
theorem refL_mem {W H : Int} {L : List Int} {px py vx vy vd most : Int} {c : CC} : c ∈ refL W H L px py vx vy vd most ↔ (wallB W H L c = true ∧ hitB px py vx vy vd most c = true) ∧ (-1 ≤ c.X ∧ c.X ≤ W) ∧ -1 ≤ c.Y ∧ c.Y ≤ H := by
  unfold refL
  rw [gridL_mem]
  unfold refP
  rw [Bool.and_eq_true]
theorem rayL_mem {W H : Int} {L : List Int} {px py vx vy vd most : Int} {c : CC} (h : okF W H L px py vx vy vd most = true) : c ∈ rayL W H L px py vx vy vd most ↔ swP px py px py vx vy vd 0 most c.X c.Y = true ∧ wallB W H L c = true := by
  obtain ⟨_, _, _, _, _, _, _, e⟩ := okF_at h
  unfold rayL
  rw [List.mem_filter, e, swL_mem]
theorem first_eq {W H : Int} {L : List Int} {px py vx vy vd most : Int} (h : okF W H L px py vx vy vd most = true) : pickL (ltK px py vx vy vd) (rayL W H L px py vx vy vd most) = firstO W H L px py vx vy vd most := by
  obtain ⟨h1, h2, h3, h4, h5, h6, h7, h8⟩ := okF_at h
  have a := vec_bd h3
  unfold firstO
  rw [if_pos h]
  refine pick_eq (ltK_tr _ _ _ _ _) (ltK_neg _ _ _ _ _) (ltK_irr _ _ _ _ _) ?_ (gridL_sorted _ _ _ _ _) ?_ ?_
  · unfold rayL; rw [h8]; exact (swL_sorted _ _ _ _ _ _ _ _ _).filter _
  · intro c hc
    rw [refL_mem] at hc
    rw [rayL_mem h]
    exact ⟨hit_sw (by omega) h3 h4 (by omega) hc.1.2, hc.1.1⟩
  · intro c hc hn
    rw [rayL_mem h] at hc
    obtain ⟨k1, k2⟩ := sw_hit h6 hc.1
    have hout : ¬ ((-1 ≤ c.X ∧ c.X ≤ W) ∧ -1 ≤ c.Y ∧ c.Y ≤ H) := fun hr => hn (refL_mem.2 ⟨⟨hc.2, k2⟩, hr⟩)
    have k3 := k2
    unfold hitB at k3
    rw [Bool.and_eq_true, decide_eq_true_eq] at k3
    have hce := (thr_ent k3.1).1
    obtain ⟨bx, b2, s, hb1, hb2, hb3, hb4⟩ := ring h3 h5.1 h5.2 h2.1 h2.2 hce.1 hout
    have hsq : sqR ⟨bx, b2⟩ = true := by simp only [sqR, sRectB, nearB, Bool.and_eq_true, decide_eq_true_eq]; omega
    have hbt : thrB px py vx vy vd (bx * 64) (b2 * 64) (bx * 64 + 64) (b2 * 64 + 64) = true := thr_of h6 h3 hsq hb3
    have hbe := (thr_ent hbt).1
    have hlt : (thrL px py vx vy (bx * 64) (b2 * 64) (bx * 64 + 64) (b2 * 64 + 64)).1 * (thrL px py vx vy (c.X * 64) (c.Y * 64) (c.X * 64 + 64) (c.Y * 64 + 64)).2 < (thrL px py vx vy (c.X * 64) (c.Y * 64) (c.X * 64 + 64) (c.Y * 64 + 64)).1 * (thrL px py vx vy (bx * 64) (b2 * 64) (bx * 64 + 64) (b2 * 64 + 64)).2 := by
      have e1 := hbe.2 s hb3
      have p1 := hbe.1.1
      have p2 := hce.1.1
      have p3 := hb3.1
      unfold flE at e1
      clear hbe hce hbt hsq
      generalize thrL px py vx vy (bx * 64) (b2 * 64) (bx * 64 + 64) (b2 * 64 + 64) = B at *
      generalize thrL px py vx vy (c.X * 64) (c.Y * 64) (c.X * 64 + 64) (c.Y * 64 + 64) = C at *
      refine Int.lt_of_mul_lt_mul_right (a := s.2) ?_ (Int.le_of_lt p3)
      have f1 := Int.mul_le_mul_of_nonneg_right e1 (Int.le_of_lt p2)
      have f2 := Int.mul_lt_mul_of_pos_right hb4 p1
      have r1 : B.1 * s.2 * C.2 = B.1 * C.2 * s.2 := by ac_rfl
      have r2 : s.1 * B.2 * C.2 = s.1 * C.2 * B.2 := by ac_rfl
      have r3 : C.1 * s.2 * B.2 = C.1 * B.2 * s.2 := by ac_rfl
      omega
    have hlk : ltK px py vx vy vd ⟨bx, b2⟩ c = true := by
      unfold ltK entC entF
      rw [decide_eq_true_eq, low_lt (thrL_pos _ _ _ _ _ _ _ _) (thrL_pos _ _ _ _ _ _ _ _)]
      have := Int.mul_lt_mul_of_pos_right hlt (show 0 < vd by omega)
      generalize thrL px py vx vy (c.X * 64) (c.Y * 64) (c.X * 64 + 64) (c.Y * 64 + 64) = C at *
      simp only
      generalize thrL px py vx vy (bx * 64) (b2 * 64) (bx * 64 + 64) (b2 * 64 + 64) = B at *
      have r1 : B.1 * C.2 * vd = B.1 * vd * C.2 := by ac_rfl
      have r2 : C.1 * B.2 * vd = C.1 * vd * B.2 := by ac_rfl
      omega
    refine ⟨⟨bx, b2⟩, refL_mem.2 ⟨⟨wall_out h1 ?_, ?_⟩, hb1⟩, hlk⟩
    · unfold insB; rw [decide_eq_false_iff_not]; simp only; omega
    · unfold hitB
      rw [Bool.and_eq_true, decide_eq_true_eq]
      refine ⟨hbt, ?_⟩
      unfold ltK at hlk
      rw [decide_eq_true_eq] at hlk
      have p1 := entC_pos px py vx vy vd ⟨bx, b2⟩
      have p2 := entC_pos px py vx vy vd c
      have k4 := k3.2
      generalize entC px py vx vy vd ⟨bx, b2⟩ = B at *
      generalize entC px py vx vy vd c = C at *
      refine Int.le_of_mul_le_mul_right (a := C.2) ?_ p2
      have f1 := Int.mul_le_mul_of_nonneg_right k4 (Int.le_of_lt p1)
      have r1 : most * C.2 * B.2 = most * B.2 * C.2 := by ac_rfl
      omega
def bestF (K : CC → Int × Int) : Option CC → Int × Int
  | none => (0, 0)
  | some c => K c
def bestC : Option CC → CC
  | none => ⟨0, 0⟩
  | some c => c
theorem pick_mem {lt : CC → CC → Bool} {l : List CC} {c : CC} (h : pickL lt l = some c) : c ∈ l := by
  have key : ∀ (l : List CC) (o : Option CC), l.foldl (pickS lt) o = some c → c ∈ l ∨ o = some c := by
    intro l
    induction l with
    | nil => intro o h; exact .inr h
    | cons x l ih =>
      intro o h
      rw [List.foldl_cons] at h
      rcases ih _ h with h1 | h1
      · exact .inl (List.mem_cons_of_mem _ h1)
      · unfold pickS at h1
        split at h1
        · cases h1; exact .inl List.mem_cons_self
        · split at h1
          · cases h1; exact .inl List.mem_cons_self
          · exact .inr h1
  rcases key l none h with h1 | h1
  · exact h1
  · cases h1
theorem hit_bd {px py vx vy vd most : Int} {c : CC} (hm : 0 ≤ most ∧ most ≤ 2048) (h : hitB px py vx vy vd most c = true) :
    (0 ≤ (entC px py vx vy vd c).1 ∧ 1 ≤ (entC px py vx vy vd c).2 ∧ (entC px py vx vy vd c).2 ≤ 67108864) ∧ (entC px py vx vy vd c).1 ≤ 2048 * (entC px py vx vy vd c).2 ∧ ((entC px py vx vy vd c).2 = 1 ∨ (entC px py vx vy vd c).1 < 2048 * (entC px py vx vy vd c).2) := by
  unfold hitB at h
  rw [Bool.and_eq_true, decide_eq_true_eq] at h
  have b := thr_nn h.1
  have p := entC_pos px py vx vy vd c
  have e1 : 0 ≤ (entC px py vx vy vd c).1 := low_nn (Int.mul_nonneg b.1.1 (by omega))
  have e2 : (entC px py vx vy vd c).2 ≤ 67108864 := (low_bd (by omega) b.2.1.2).2
  have e3 : (entC px py vx vy vd c).1 ≤ 2048 * (entC px py vx vy vd c).2 := by
    have := Int.mul_le_mul_of_nonneg_right hm.2 (Int.le_of_lt p)
    omega
  have e4 : (entC px py vx vy vd c).1 = 2048 * (entC px py vx vy vd c).2 → (entC px py vx vy vd c).2 = 1 := fun e => low_one (show 0 < (thrL px py vx vy (c.X * 64) (c.Y * 64) (c.X * 64 + 64) (c.Y * 64 + 64)).2 by omega) e
  refine ⟨⟨e1, by omega, e2⟩, e3, ?_⟩
  rcases Classical.em ((entC px py vx vy vd c).2 = 1) with h1 | h1
  · exact .inl h1
  · exact .inr (by have := fun e => h1 (e4 e); omega)
theorem prod_bd {n d e : Int} (h0 : 0 ≤ n) (h1 : 1 ≤ d ∧ d ≤ 67108864) (h2 : n ≤ 2048 * d) (h3 : d = 1 ∨ n < 2048 * d) (he : 1 ≤ e ∧ e ≤ 67108864) : 0 ≤ n * e ∧ n * e ≤ 9223372036854775807 := by
  have a := Int.mul_nonneg h0 (show 0 ≤ e by omega)
  have b : n ≤ 137438953471 := by rcases h3 with h | h <;> omega
  have c := Int.mul_le_mul b he.2 (by omega) (by omega)
  omega
def takeW (W H : Int) (L : List Int) (T : List CC) (k : Nat) : List CC := (T.take k).filter (wallB W H L)
theorem takeW_yes {W H : Int} {L : List Int} {T : List CC} {k : Nat} (hk : k < T.length) (h : wallB W H L (T.getD k eC.dflt) = true) : takeW W H L T (k + 1) = takeW W H L T k ++ [T.getD k eC.dflt] := by
  have e : T.getD k eC.dflt = T[k] := by rw [List.getD_eq_getElem?_getD, List.getElem?_eq_getElem hk, Option.getD_some]
  unfold takeW
  rw [List.take_add_one, List.getElem?_eq_getElem hk, Option.toList_some, List.filter_append, e]
  rw [e] at h
  simp [h]
theorem takeW_no {W H : Int} {L : List Int} {T : List CC} {k : Nat} (hk : k < T.length) (h : wallB W H L (T.getD k eC.dflt) = false) : takeW W H L T (k + 1) = takeW W H L T k := by
  have e : T.getD k eC.dflt = T[k] := by rw [List.getD_eq_getElem?_getD, List.getElem?_eq_getElem hk, Option.getD_some]
  unfold takeW
  rw [List.take_add_one, List.getElem?_eq_getElem hk, Option.toList_some, List.filter_append]
  rw [e] at h
  simp [h]
theorem takeW_all {W H : Int} {L : List Int} {T : List CC} {k : Nat} (hk : T.length ≤ k) : takeW W H L T k = T.filter (wallB W H L) := by
  unfold takeW; rw [List.take_of_length_le hk]
theorem takeW_mem {W H : Int} {L : List Int} {T : List CC} {k : Nat} {c : CC} (h : c ∈ takeW W H L T k) : c ∈ T := List.mem_of_mem_take (List.mem_filter.1 h).1
theorem tr_at {px py vx vy vd most : Int} {c : CC} (hp : (0 ≤ px ∧ px ≤ 4096) ∧ 0 ≤ py ∧ py ≤ 4096) (hv : vecB vx vy vd = true) (hm : 0 ≤ most ∧ most ≤ 2048) (h : swP px py px py vx vy vd 0 most c.X c.Y = true) :
    sqB c.X c.Y = true ∧ hitB px py vx vy vd most c = true := by
  have h1 : sPtB px py = true := by simp only [sPtB, nearB, Bool.and_eq_true, decide_eq_true_eq]; omega
  have a := vec_bd hv
  have r := sw_rng h
  have fx := frac_bd (lo := 0) (hi := most) (n := vx) (d := vd) (by omega) (by omega) (by omega) (by omega) (by omega)
  have fy := frac_bd (lo := 0) (hi := most) (n := vy) (d := vd) (by omega) (by omega) (by omega) (by omega) (by omega)
  refine ⟨?_, (sw_hit h1 h).2⟩
  unfold sqB
  rw [decide_eq_true_eq]
  omega
theorem okF_no {W H : Int} {L : List Int} {px py vx vy vd most : Int} (h : okF W H L px py vx vy vd most = false) : firstO W H L px py vx vy vd most = none := by unfold firstO; rw [h]; rfl
theorem okF_of {W H : Int} {L : List Int} {px py vx vy vd most : Int} (h : inB W H L px py = true) : okF W H L px py vx vy vd most = true ↔ trE px py vx vy vd 0 most = 0 := by
  constructor
  · exact fun h => (okF_at h).2.2.2.2.2.2.1
  · intro h2
    unfold trE at h2
    split at h2
    · cases h2
    · rename_i h3
      split at h2
      · cases h2
      · rename_i h4
        simp only [not_or, Bool.not_eq_false] at h3 h4
        unfold okF
        rw [h, h3.2, h4]
        rfl
theorem tr_len {px py vx vy vd most : Int} (hp : (0 ≤ px ∧ px ≤ 4096) ∧ 0 ≤ py ∧ py ≤ 4096) (hv : vecB vx vy vd = true) (hm : 0 ≤ most ∧ most ≤ 2048) : (swL px py px py vx vy vd 0 most).length ≤ 1000000 := by
  have a := vec_bd hv
  have fx := frac_bd (lo := 0) (hi := most) (n := vx) (d := vd) (by omega) (by omega) (by omega) (by omega) (by omega)
  have fy := frac_bd (lo := 0) (hi := most) (n := vy) (d := vd) (by omega) (by omega) (by omega) (by omega) (by omega)
  unfold swL gridL
  refine Nat.le_trans (gridUp_len _ _ _ _ _) ?_
  have e1 : (rHi py vy vd 0 most - rLo py vy vd 0 most + 1).toNat ≤ 1000 := by unfold rHi rLo; omega
  have e2 : (rHi px vx vd 0 most - rLo px vx vd 0 most + 1).toNat ≤ 1000 := by unfold rHi rLo; omega
  exact Nat.mul_le_mul e1 e2
def x108L0 : XC := (.seq (.reg false [O2 42 (.bin .lss) 41 40]) (.seq (.cond (.t 42) .skip (.exit 0)) (.seq (.block 1 (.seq (.reg false [O2 43 (.ixS 2) 39 41, O1 44 (.loadN 2) 43, ⟨(some 17), (.alloc 128 [(iV 0), (iV 0)]), [], none⟩, ⟨none, (.store 2), [(.t 17), (.t 44)], none⟩]) (.seq (.seq (.reg false [O1 45 (.loadN 3) 4, O1 46 (.loadN 2) 17, O2 47 (.call 119) 45 46, K2 48 (.bin .neq) 47 (.int .u8 2)]) (.cond (.t 48) (.exit 1) .skip)) (.seq (.reg false [O1 50 (.loadN 2) 17, O1 51 (.call 71) 50, O1 49 .mv 51, O1 52 (.ext 0) 49, O1 53 (.ext 1) 49, ⟨(some 18), (.alloc 132 [(iV 0), (iV 0), (iV 0), (iV 0)]), [], none⟩, ⟨none, (.store 4), [(.t 18), (.t 52)], none⟩, O1 19 .mv 53]) (.seq (.reg false [O1 55 (.loadN 2) 5, O1 56 (.loadN 3) 6, O1 57 (.loadN 4) 18, ⟨(some 58), (.call 120), [(.t 55), (.t 56), (.t 57)], none⟩, O1 54 .mv 58, O1 59 (.ext 0) 54, O1 60 (.ext 1) 54, ⟨(some 20), (.alloc 160 [(iV 0), (iV 0)]), [], none⟩, ⟨none, (.store 2), [(.t 20), (.t 59)], none⟩, O1 21 .mv 60]) (.seq (.reg false [O1 61 .mv 15, O1 62 (.un .not) 61, O1 63 .mv 62, G1 64 (.fld 0) 20 63 false, G1 65 .load1 64 63 false, G1 66 (.fld 1) 13 63 false, G1 67 .load1 66 63 false, G2 68 (.bin .mul) 65 67 63 false, G1 69 (.fld 0) 13 63 false, G1 70 .load1 69 63 false, G1 71 (.fld 1) 20 63 false, G1 72 .load1 71 63 false, G2 73 (.bin .mul) 70 72 63 false, G2 74 (.bin .lss) 68 73 63 false, ⟨(some 75), .pick, [(.t 63), (.k (.bool true)), (.t 74)], none⟩]) (.cond (.t 75) (.regD [O1 76 (.loadN 2) 20, O1 77 (.loadN 2) 17, ⟨none, (.store 2), [(.t 13), (.t 76)], none⟩, ⟨none, (.store 2), [(.t 14), (.t 77)], none⟩, K1 15 .mv (.bool true)] [[], [], [0], [1, 2, 0], [3, 1, 2, 0]]) .skip))))))) (.reg false [K2 78 (.bin .add) 41 (iV 1), O1 41 .mv 78]))))
def x108 : XFn := ⟨82, (.seq (.reg false [O1 4 (.box 24) 0, O1 5 (.box 89) 1, O1 6 (.box 124) 2, ⟨(some 8), (.alloc 160 [(iV 0), (iV 0)]), [], none⟩, ⟨(some 9), (.alloc 128 [(iV 0), (iV 0)]), [], none⟩, K1 10 .mv (.bool false)]) (.seq (.seq (.reg false [O1 22 (.loadN 3) 4, O1 23 (.loadN 2) 5, O2 24 (.call 107) 22 23, O1 25 (.un .not) 24]) (.cond (.t 25) (.seq (.reg false [⟨(some 26), (.build [(iV 0), (iV 0)] []), [], none⟩, ⟨(some 27), (.build [(iV 0), (iV 0)] []), [], none⟩, ⟨none, (.store 2), [(.t 8), (.t 26)], none⟩, ⟨none, (.store 2), [(.t 9), (.t 27)], none⟩, K1 10 .mv (.bool false)]) .ret) .skip)) (.seq (.reg false [O1 29 (.loadN 2) 5, O1 30 (.loadN 3) 6, O1 31 .mv 3, ⟨(some 32), (.call 118), [(.t 29), (.t 30), (.k (iV 0)), (.t 31)], none⟩, O1 28 .mv 32, O1 33 (.ext 0) 28, O1 34 (.ext 1) 28, O1 11 .mv 33, O1 12 .mv 34]) (.seq (.seq (.reg false [O1 35 .mv 12, K2 36 (.bin .neq) 35 (iV 0)]) (.cond (.t 36) (.seq (.reg false [⟨(some 37), (.build [(iV 0), (iV 0)] []), [], none⟩, ⟨(some 38), (.build [(iV 0), (iV 0)] []), [], none⟩, ⟨none, (.store 2), [(.t 8), (.t 37)], none⟩, ⟨none, (.store 2), [(.t 9), (.t 38)], none⟩, K1 10 .mv (.bool false)]) .ret) .skip)) (.seq (.reg false [⟨(some 13), (.alloc 160 [(iV 0), (iV 0)]), [], none⟩]) (.seq (.reg false [⟨(some 14), (.alloc 128 [(iV 0), (iV 0)]), [], none⟩]) (.seq (.reg false [K1 15 .mv (.bool false)]) (.seq (.seq (.reg false [O1 39 .mv 11, O1 40 .lenS 39, K1 41 .mv (iV 0)]) (.block 0 (.loop x108L0))) (.seq (.regD [O1 79 (.loadN 2) 13, O1 80 (.loadN 2) 14, O1 81 .mv 15, ⟨none, (.store 2), [(.t 8), (.t 79)], none⟩, ⟨none, (.store 2), [(.t 9), (.t 80)], none⟩, O1 10 .mv 81] [[], [], [], [0], [1, 3, 0], [2, 4, 1, 3, 0]]) .ret))))))))), [(.bn 8 2), (.bn 9 2), (.s 10)]⟩
theorem x108_ok : xfn Tryz.prog Tryz.f108 = some x108.er := by kernel_rfl
def g108 : Con := fun args_ E_ nn_ => match args_ with
  | [.a [.v (.int .i64 p_W), .v (.int .i64 p_H), .n p_Cells], .a [.v (.int .i64 at_X), .v (.int .i64 at_Y)], .a [.v (.int .i64 v_X), .v (.int .i64 v_Y), .v (.int .i64 v_D)], .c (.v (.int .i64 most))] => (match rowOf E_ p_Cells with
    | some (p_Cells_n, p_Cells_s, p_Cells_f) => some (.q (isRow eU8 p_Cells_n p_Cells_s p_Cells_f ∧ True) (.t [.a [.v (.int .i64 (bestF (entC at_X at_Y v_X v_Y v_D) (firstO p_W p_H (decL eU8 p_Cells_n p_Cells_f) at_X at_Y v_X v_Y v_D most)).1), .v (.int .i64 (bestF (entC at_X at_Y v_X v_Y v_D) (firstO p_W p_H (decL eU8 p_Cells_n p_Cells_f) at_X at_Y v_X v_Y v_D most)).2)], .a [.v (.int .i64 (bestC (firstO p_W p_H (decL eU8 p_Cells_n p_Cells_f) at_X at_Y v_X v_Y v_D most)).X), .v (.int .i64 (bestC (firstO p_W p_H (decL eU8 p_Cells_n p_Cells_f) at_X at_Y v_X v_Y v_D most)).Y)], .c (.v (.bool (((firstO p_W p_H (decL eU8 p_Cells_n p_Cells_f) at_X at_Y v_X v_Y v_D most)).isSome)))]))
    | none => none)
  | _ => none
set_option maxHeartbeats 1600000 in
theorem c108 : COk Tryz.prog 108 g108 := by
  refine cok_q Tryz.func108 x108_ok (by kernel_rfl) (cok_tab (cok_cons c107 (cok_cons c118 (cok_cons c119 (cok_cons c71 (cok_cons c120 cok_nil)))))) ?_
  intro args_ E_ nn_ cr_ hg_
  unfold g108 at hg_
  split at hg_
  · rename_i p_W p_H p_Cells at_X at_Y v_X v_Y v_D most
    split at hg_
    · rename_i p_Cells_n p_Cells_s p_Cells_f h_p_Cells
      cases hg_
      refine ⟨_, _, rfl, 1, [p_Cells], [.a [.v (.int .i64 p_W), .v (.int .i64 p_H), .n 0], .a [.v (.int .i64 at_X), .v (.int .i64 at_Y)], .a [.v (.int .i64 v_X), .v (.int .i64 v_Y), .v (.int .i64 v_D)], .c (.v (.int .i64 most))], [(0, .ro (decL eU8 p_Cells_n p_Cells_f).length eU8.sz (rowF eU8 (decL eU8 p_Cells_n p_Cells_f)))], .t [.a [.v (.int .i64 (bestF (entC at_X at_Y v_X v_Y v_D) (firstO p_W p_H (decL eU8 p_Cells_n p_Cells_f) at_X at_Y v_X v_Y v_D most)).1), .v (.int .i64 (bestF (entC at_X at_Y v_X v_Y v_D) (firstO p_W p_H (decL eU8 p_Cells_n p_Cells_f) at_X at_Y v_X v_Y v_D most)).2)], .a [.v (.int .i64 (bestC (firstO p_W p_H (decL eU8 p_Cells_n p_Cells_f) at_X at_Y v_X v_Y v_D most)).X), .v (.int .i64 (bestC (firstO p_W p_H (decL eU8 p_Cells_n p_Cells_f) at_X at_Y v_X v_Y v_D most)).Y)], .c (.v (.bool (((firstO p_W p_H (decL eU8 p_Cells_n p_Cells_f) at_X at_Y v_X v_Y v_D most)).isSome)))], rfl, rfl, and3 (by simp only [push_cast, Nat.reduceLT, Nat.reduceAdd]) ⟨rfl, ⟨inE0_row h_p_Cells, trivial⟩, rfl, ?_⟩⟩
      intro hpre hlen
      obtain ⟨i_p_Cells, hpre⟩ := hpre
      refine ⟨⟨inE_row h_p_Cells i_p_Cells, trivial⟩, ?_⟩
      have z_p_Cells := lens_row (E := eU8) hlen h_p_Cells
      clear i_p_Cells
      generalize decL eU8 p_Cells_n p_Cells_f = p_CellsL at *
      clear h_p_Cells
      simp (maxSteps := 9999999) only [x108, push_cast, simprocAttr, g107, g118, g119, g71, g120]
      refine ⟨fun h => ?_, fun h => ⟨fun h2 => ?_, fun h2 => ?_⟩⟩
      · rw [okF_no (by unfold okF; rw [h]; rfl)]; exact ⟨⟨rfl, rfl⟩, ⟨rfl, rfl⟩, rfl⟩
      · rw [okF_no (by rw [Bool.eq_false_iff]; exact fun h3 => h2 ((okF_of h).1 h3))]; exact ⟨⟨rfl, rfl⟩, ⟨rfl, rfl⟩, rfl⟩
      have hok := (okF_of (L := p_CellsL) h).2 h2
      have hf := first_eq hok
      obtain ⟨g1, g2, g3, g4, g5, g6, g7, g8'⟩ := okF_at hok
      have hT : ∀ c ∈ trL at_X at_Y v_X v_Y v_D 0 most, sqB c.X c.Y = true ∧ hitB at_X at_Y v_X v_Y v_D most c = true := by
        intro c hc
        rw [g8', swL_mem] at hc
        exact tr_at (by omega) g3 g4 hc
      have hTl : (trL at_X at_Y v_X v_Y v_D 0 most).length ≤ 1000000 := by rw [g8']; exact tr_len (by omega) g3 g4
      unfold rayL at hf
      rw [← hf]
      clear hf g7 g8'
      generalize trL at_X at_Y v_X v_Y v_D 0 most = T at *
      refine vcLoop_upd (α := {k : Nat // k ≤ T.length}) [4, 5, 6, 8, 9, 13, 14, 39, 40] 0 (fun s => [(15, .o (.c (.v (.bool ((pickL (ltK at_X at_Y v_X v_Y v_D) (takeW p_W p_H p_CellsL T s.1)).isSome))))), (41, .o (.c (.v (.int .i64 (s.1 : Nat)))))]) (fun s => [(7, .box [.v (.int .i64 (bestF (entC at_X at_Y v_X v_Y v_D) (pickL (ltK at_X at_Y v_X v_Y v_D) (takeW p_W p_H p_CellsL T s.1))).1), .v (.int .i64 (bestF (entC at_X at_Y v_X v_Y v_D) (pickL (ltK at_X at_Y v_X v_Y v_D) (takeW p_W p_H p_CellsL T s.1))).2)] 160), (8, .box [.v (.int .i64 (bestC (pickL (ltK at_X at_Y v_X v_Y v_D) (takeW p_W p_H p_CellsL T s.1))).X), .v (.int .i64 (bestC (pickL (ltK at_X at_Y v_X v_Y v_D) (takeW p_W p_H p_CellsL T s.1))).Y)] 128)]) (fun s => T.length - s.1) ⟨0, by omega⟩ ?_ ?_
      · simp only [push_cast, simprocAttr, g107, g118, g119, g71, g120]
        exact ⟨rfl, ⟨rfl, rfl⟩, rfl, rfl⟩
      rintro ⟨k, hk⟩
      by_cases hlt : k < T.length
      · obtain ⟨hq, hh⟩ := hT _ (getD_in hlt)
        have hb := hit_bd g4 hh
        have ht : thrB at_X at_Y v_X v_Y v_D ((T.getD k eC.dflt).X * 64) ((T.getD k eC.dflt).Y * 64) ((T.getD k eC.dflt).X * 64 + 64) ((T.getD k eC.dflt).Y * 64 + 64) = true := by unfold hitB at hh; rw [Bool.and_eq_true] at hh; exact hh.1
        have hK : entF at_X at_Y v_X v_Y v_D ((T.getD k eC.dflt).X * 64) ((T.getD k eC.dflt).Y * 64) ((T.getD k eC.dflt).X * 64 + 64) ((T.getD k eC.dflt).Y * 64 + 64) = entC at_X at_Y v_X v_Y v_D (T.getD k eC.dflt) := rfl
        cases hw : wallB p_W p_H p_CellsL (T.getD k eC.dflt)
        · have hw' : ¬ atB p_W p_H p_CellsL (T.getD k eC.dflt).X (T.getD k eC.dflt).Y = 2 := by unfold wallB at hw; rw [decide_eq_false_iff_not] at hw; exact hw
          simp only [x108L0, hlt, hw', push_cast, simprocAttr, g107, g118, g119, g71, g120]
          refine ⟨⟨k + 1, by omega⟩, ?_, by simp only; omega⟩
          simp only
          rw [takeW_no hlt hw]
          exact ⟨⟨rfl, wrapI (by omega) (by omega)⟩, ⟨rfl, rfl⟩, rfl, rfl⟩
        · have hw' : atB p_W p_H p_CellsL (T.getD k eC.dflt).X (T.getD k eC.dflt).Y = 2 := by unfold wallB at hw; rw [decide_eq_true_eq] at hw; exact hw
          cases ho : pickL (ltK at_X at_Y v_X v_Y v_D) (takeW p_W p_H p_CellsL T k) with
          | none =>
            simp only [x108L0, hlt, hw', hq, ht, hK, ho, mI_t, bestF, bestC, Option.isSome_none, Option.isSome_some, push_cast, simprocAttr, g107, g118, g119, g71, g120]
            have e : pickL (ltK at_X at_Y v_X v_Y v_D) (takeW p_W p_H p_CellsL T (k + 1)) = some (T.getD k eC.dflt) := by rw [takeW_yes hlt hw, pickL_snoc, ho]; rfl
            refine ⟨by rfl, ⟨k + 1, by omega⟩, ?_, by simp only; omega⟩
            simp only [e]
            exact ⟨⟨rfl, wrapI (by omega) (by omega)⟩, ⟨trivial, trivial⟩, trivial, trivial⟩
          | some b =>
            have hbb := hit_bd g4 (hT _ (takeW_mem (pick_mem ho))).2
            simp only [x108L0, hlt, hw', hq, ht, hK, ho, mI_t, bestF, bestC, Option.isSome_none, Option.isSome_some, push_cast, simprocAttr, g107, g118, g119, g71, g120]
            have m1 := prod_bd (e := (entC at_X at_Y v_X v_Y v_D b).2) hb.1.1 hb.1.2 hb.2.1 hb.2.2 hbb.1.2
            have m2 := prod_bd (e := (entC at_X at_Y v_X v_Y v_D (T.getD k eC.dflt)).2) hbb.1.1 hbb.1.2 hbb.2.1 hbb.2.2 hb.1.2
            rw [wrapI (by omega) m1.2, wrapI (by omega) m2.2]
            refine ⟨fun hl => ?_, fun hl => ?_⟩
            · have e : pickL (ltK at_X at_Y v_X v_Y v_D) (takeW p_W p_H p_CellsL T (k + 1)) = some (T.getD k eC.dflt) := by rw [takeW_yes hlt hw, pickL_snoc, ho]; exact if_pos (decide_eq_true hl)
              refine ⟨by rfl, ⟨k + 1, by omega⟩, ?_, by simp only; omega⟩
              simp only [e]
              exact ⟨⟨rfl, wrapI (by omega) (by omega)⟩, ⟨trivial, trivial⟩, trivial, trivial⟩
            · have e : pickL (ltK at_X at_Y v_X v_Y v_D) (takeW p_W p_H p_CellsL T (k + 1)) = some b := by rw [takeW_yes hlt hw, pickL_snoc, ho]; exact if_neg (by unfold ltK; rw [decide_eq_true_eq]; exact hl)
              refine ⟨⟨k + 1, by omega⟩, ?_, by simp only; omega⟩
              simp only [e]
              exact ⟨⟨rfl, wrapI (by omega) (by omega)⟩, ⟨trivial, trivial⟩, trivial, trivial⟩
      · simp only [x108L0, hlt, push_cast, simprocAttr, g107, g118, g119, g71, g120]
        rw [takeW_all (by omega)]
        exact ⟨by rfl, ⟨rfl, rfl⟩, ⟨rfl, rfl⟩, rfl⟩
    · cases hg_
  · cases hg_
end Go.Proofs.YtkpdofgmmpbknaaGreat
namespace Go.Proofs.YtkpdofgmmpbknaaGreat
open Go.Sx Go.Way
theorem ent_bd {px py vx vy vd : Int} {c : CC} (h : thrB px py vx vy vd (c.X * 64) (c.Y * 64) (c.X * 64 + 64) (c.Y * 64 + 64) = true) : (0 ≤ (entC px py vx vy vd c).1 ∧ (entC px py vx vy vd c).1 ≤ 562949953421312) ∧ 1 ≤ (entC px py vx vy vd c).2 ∧ (entC px py vx vy vd c).2 ≤ 67108864 := by
  have b := thr_nn h
  have p := entC_pos px py vx vy vd c
  have m := mulB (a := (thrL px py vx vy (c.X * 64) (c.Y * 64) (c.X * 64 + 64) (c.Y * 64 + 64)).1) (b := vd) (A := 8388608) (B := 67108864) (by omega) (by omega) (by omega) (by omega)
  have e1 : 0 ≤ (entC px py vx vy vd c).1 := low_nn (Int.mul_nonneg b.1.1 (by omega))
  have e2 : (entC px py vx vy vd c).2 ≤ 67108864 := (low_bd (by omega) b.2.1.2).2
  have hg : ∀ n d : Int, 0 < d → (1 : Int) ≤ (Int.gcd n d : Int) := fun n d hd => by
    have : Int.gcd n d ≠ 0 := fun h => by rw [Int.gcd_eq_zero_iff] at h; omega
    omega
  have e3 : (entC px py vx vy vd c).1 ≤ 562949953421312 := (divB (hg _ _ (show 0 < (thrL px py vx vy (c.X * 64) (c.Y * 64) (c.X * 64 + 64) (c.Y * 64 + 64)).2 by omega)) (show -562949953421312 ≤ _ by omega) (show _ ≤ (562949953421312 : Int) by omega)).2
  exact ⟨⟨e1, e3⟩, by omega, e2⟩
end Go.Proofs.YtkpdofgmmpbknaaGreat
namespace Go.Proofs.YtkpdofgmmpbknaaGreat
open Go.Sx Go.Way
theorem first_hit {W H : Int} {L : List Int} {px py vx vy vd most : Int} {c : CC} (h : firstO W H L px py vx vy vd most = some c) : (0 ≤ most ∧ most ≤ 2048) ∧ hitB px py vx vy vd most c = true ∧ wallB W H L c = true := by
  unfold firstO at h
  split at h
  · rename_i hk
    have m := refL_mem.1 (pick_mem h)
    exact ⟨(okF_at hk).2.2.2.1, m.1.2, m.1.1⟩
  · cases h
theorem okF_true {W H : Int} {L : List Int} {px py vx vy vd s : Int} (h1 : inB W H L px py = true) (h2 : vecB vx vy vd = true) (h3 : 0 ≤ s) (h4 : s ≤ 2048) : okF W H L px py vx vy vd s = true := by
  unfold okF okR; rw [h1, h2]; simp; omega
def x99 : XFn := ⟨31, (.seq (.reg false [O1 4 (.box 24) 0, O1 5 (.box 28) 1, ⟨(some 8), (.alloc 160 [(iV 0), (iV 0)]), [], none⟩, K1 9 .mv (.bool false)]) (.seq (.regD [O1 14 (.loadN 3) 4, O1 15 (.fld 0) 5, O1 16 .load1 15, O1 17 (.fld 1) 5, O1 18 .load1 17, ⟨(some 19), (.build [(iV 0), (iV 0)] [(0, 1), (1, 1)]), [(.t 16), (.t 18)], none⟩, O1 20 (.fld 2) 5, O1 21 .load1 20, O1 22 .mv 2, O2 23 (.call 109) 21 22, O1 24 .mv 3, ⟨(some 25), (.call 108), [(.t 14), (.t 19), (.t 23), (.t 24)], none⟩, O1 13 .mv 25, O1 26 (.ext 0) 13, O1 27 (.ext 1) 13, O1 28 (.ext 2) 13, ⟨(some 10), (.alloc 160 [(iV 0), (iV 0)]), [], none⟩, ⟨(some 11), (.alloc 128 [(iV 0), (iV 0)]), [], none⟩, ⟨none, (.store 2), [(.t 10), (.t 26)], none⟩, ⟨none, (.store 2), [(.t 11), (.t 27)], none⟩, O1 12 .mv 28] [[], [], [1], [], [3], [2, 1, 4, 3], [], [6], [], [7, 6, 8], [], [0, 5, 2, 1, 4, 3, 9, 7, 6, 8, 10], [11, 0, 5, 2, 1, 4, 3, 9, 7, 6, 8, 10], [12, 11, 0, 5, 2, 1, 4, 3, 9, 7, 6, 8, 10], [12, 11, 0, 5, 2, 1, 4, 3, 9, 7, 6, 8, 10], [12, 11, 0, 5, 2, 1, 4, 3, 9, 7, 6, 8, 10], [], [], [16, 13, 12, 11, 0, 5, 2, 1, 4, 3, 9, 7, 6, 8, 10, 17], [17, 14, 12, 11, 0, 5, 2, 1, 4, 3, 9, 7, 6, 8, 10, 18, 16, 13], [15, 12, 11, 0, 5, 2, 1, 4, 3, 9, 7, 6, 8, 10, 19, 17, 14, 18, 16, 13]]) (.seq (.reg false [O1 29 (.loadN 2) 10, O1 30 .mv 12, ⟨none, (.store 2), [(.t 8), (.t 29)], none⟩, O1 9 .mv 30]) .ret))), [(.bn 8 2), (.s 9)]⟩
theorem x99_ok : xfn Tryz.prog Tryz.f99 = some x99.er := by kernel_rfl
def g99 : Con := fun args_ E_ nn_ => match args_ with
  | [.a [.v (.int .i64 p_W), .v (.int .i64 p_H), .n p_Cells], .a [.v (.int .i64 at_X), .v (.int .i64 at_Y), .v (.int .i64 at_H)], .c (.v (.int .i64 mark)), .c (.v (.int .i64 most))] => (match rowOf E_ p_Cells with
    | some (p_Cells_n, p_Cells_s, p_Cells_f) => some (.q (isRow eU8 p_Cells_n p_Cells_s p_Cells_f ∧ True) (.t [.a [.v (.int .i64 (bestF (entC at_X at_Y (beamV at_H mark).1 (beamV at_H mark).2.1 (beamV at_H mark).2.2) (firstO p_W p_H (decL eU8 p_Cells_n p_Cells_f) at_X at_Y (beamV at_H mark).1 (beamV at_H mark).2.1 (beamV at_H mark).2.2 most)).1), .v (.int .i64 (bestF (entC at_X at_Y (beamV at_H mark).1 (beamV at_H mark).2.1 (beamV at_H mark).2.2) (firstO p_W p_H (decL eU8 p_Cells_n p_Cells_f) at_X at_Y (beamV at_H mark).1 (beamV at_H mark).2.1 (beamV at_H mark).2.2 most)).2)], .c (.v (.bool ((firstO p_W p_H (decL eU8 p_Cells_n p_Cells_f) at_X at_Y (beamV at_H mark).1 (beamV at_H mark).2.1 (beamV at_H mark).2.2 most).isSome)))]))
    | none => none)
  | _ => none
theorem c99 : COk Tryz.prog 99 g99 := by
  refine cok_q Tryz.func99 x99_ok (by kernel_rfl) (cok_tab (cok_cons c108 (cok_cons c109 cok_nil))) ?_
  intro args_ E_ nn_ cr_ hg_
  unfold g99 at hg_
  split at hg_
  · rename_i p_W p_H p_Cells at_X at_Y at_H mark most
    split at hg_
    · rename_i p_Cells_n p_Cells_s p_Cells_f h_p_Cells
      cases hg_
      refine ⟨_, _, rfl, 1, [p_Cells], [.a [.v (.int .i64 p_W), .v (.int .i64 p_H), .n 0], .a [.v (.int .i64 at_X), .v (.int .i64 at_Y), .v (.int .i64 at_H)], .c (.v (.int .i64 mark)), .c (.v (.int .i64 most))], [(0, .ro (decL eU8 p_Cells_n p_Cells_f).length eU8.sz (rowF eU8 (decL eU8 p_Cells_n p_Cells_f)))], .t [.a [.v (.int .i64 (bestF (entC at_X at_Y (beamV at_H mark).1 (beamV at_H mark).2.1 (beamV at_H mark).2.2) (firstO p_W p_H (decL eU8 p_Cells_n p_Cells_f) at_X at_Y (beamV at_H mark).1 (beamV at_H mark).2.1 (beamV at_H mark).2.2 most)).1), .v (.int .i64 (bestF (entC at_X at_Y (beamV at_H mark).1 (beamV at_H mark).2.1 (beamV at_H mark).2.2) (firstO p_W p_H (decL eU8 p_Cells_n p_Cells_f) at_X at_Y (beamV at_H mark).1 (beamV at_H mark).2.1 (beamV at_H mark).2.2 most)).2)], .c (.v (.bool ((firstO p_W p_H (decL eU8 p_Cells_n p_Cells_f) at_X at_Y (beamV at_H mark).1 (beamV at_H mark).2.1 (beamV at_H mark).2.2 most).isSome)))], rfl, rfl, and3 (by simp only [push_cast, Nat.reduceLT, Nat.reduceAdd]) ⟨rfl, ⟨inE0_row h_p_Cells, trivial⟩, rfl, ?_⟩⟩
      intro hpre hlen
      obtain ⟨i_p_Cells, hpre⟩ := hpre
      refine ⟨⟨inE_row h_p_Cells i_p_Cells, trivial⟩, ?_⟩
      have z_p_Cells := lens_row (E := eU8) hlen h_p_Cells
      clear i_p_Cells
      generalize decL eU8 p_Cells_n p_Cells_f = p_CellsL at *
      clear h_p_Cells
      simp (maxSteps := 9999999) only [x99, push_cast, simprocAttr, g108, g109]
      rfl
    · cases hg_
  · cases hg_
end Go.Proofs.YtkpdofgmmpbknaaGreat
namespace Go.Proofs.YtkpdofgmmpbknaaGreat
open Go.Sx Go.Way
def goodB (W H : Int) (L : List Int) (x y h : Int) : Bool := inB W H L x y && decide (0 ≤ h ∧ h ≤ 255)
def beamB (m r : Int) : Bool := decide ((0 ≤ m ∧ m ≤ 255) ∧ -1 ≤ r ∧ r ≤ 1024)
def lookO (W H : Int) (L : List Int) (x y h m most : Int) : Option CC := firstO W H L x y (beamV h m).1 (beamV h m).2.1 (beamV h m).2.2 most
def lookK (x y h m : Int) : CC → Int × Int := entC x y (beamV h m).1 (beamV h m).2.1 (beamV h m).2.2
def echoB (K : CC → Int × Int) (s : Int) : Option CC → Bool
  | none => false
  | some c => decide (s * (K c).2 ≤ (K c).1)
def plausB (W H : Int) (L : List Int) (x y h m r rng : Int) : Bool :=
  goodB W H L x y h && beamB m r && decide (1 ≤ rng ∧ rng ≤ 32) && (if r = -1 then !(lookO W H L x y h m (1024 - rng)).isSome else echoB (lookK x y h m) (r - rng) (lookO W H L x y h m (r + rng)))
def measE (W H : Int) (L : List Int) (x y h m rng : Int) : Int := if goodB W H L x y h = false then 1 else if (1 ≤ rng ∧ rng ≤ 32) ∧ 0 ≤ m ∧ m ≤ 255 then 0 else 2
def measZ (K : CC → Int × Int) (e : Int) : Option CC → Int
  | none => -1
  | some c => if 1024 < max ((K c).1 / (K c).2 + e) 0 then -1 else max ((K c).1 / (K c).2 + e) 0
def measV (W H : Int) (L : List Int) (x y h m rng er : Int) : Int := if measE W H L x y h m rng = 0 then measZ (lookK x y h m) (min (max er (1 - rng)) rng) (lookO W H L x y h m 1024) else 0
theorem plaus_t {W H : Int} {L : List Int} {x y h m r rng : Int} (h1 : inB W H L x y = true) (h2 : 0 ≤ h ∧ h ≤ 255) (h3 : (0 ≤ m ∧ m ≤ 255) ∧ -1 ≤ r ∧ r ≤ 1024) (h4 : 1 ≤ rng ∧ rng ≤ 32) :
    plausB W H L x y h m r rng = if r = -1 then !(lookO W H L x y h m (1024 - rng)).isSome else echoB (lookK x y h m) (r - rng) (lookO W H L x y h m (r + rng)) := by
  unfold plausB goodB beamB
  rw [h1, decide_eq_true h2, decide_eq_true h3, decide_eq_true h4]
  rfl
theorem meas1 {W H : Int} {L : List Int} {x y h m rng er : Int} (k : (inB W H L x y && decide (0 ≤ h ∧ h ≤ 255)) = false) : measE W H L x y h m rng = 1 ∧ measV W H L x y h m rng er = 0 := by
  have e : measE W H L x y h m rng = 1 := by unfold measE goodB; rw [k]; rfl
  exact ⟨e, by unfold measV; rw [e]; rfl⟩
theorem meas2 {W H : Int} {L : List Int} {x y h m rng er : Int} (h1 : inB W H L x y = true) (h2 : 0 ≤ h ∧ h ≤ 255) (k : ¬ (1 ≤ rng ∧ rng ≤ 32) ∨ ¬ (0 ≤ m ∧ m ≤ 255)) : measE W H L x y h m rng = 2 ∧ measV W H L x y h m rng er = 0 := by
  have e : measE W H L x y h m rng = 2 := by
    unfold measE goodB
    rw [h1, decide_eq_true h2, if_neg (by decide), if_neg (by omega)]
  exact ⟨e, by unfold measV; rw [e]; rfl⟩
theorem meas0 {W H : Int} {L : List Int} {x y h m rng er : Int} (h1 : inB W H L x y = true) (h2 : 0 ≤ h ∧ h ≤ 255) (k : (1 ≤ rng ∧ rng ≤ 32) ∧ 0 ≤ m ∧ m ≤ 255) : measE W H L x y h m rng = 0 ∧ measV W H L x y h m rng er = measZ (lookK x y h m) (min (max er (1 - rng)) rng) (lookO W H L x y h m 1024) := by
  have e : measE W H L x y h m rng = 0 := by
    unfold measE goodB
    rw [h1, decide_eq_true h2, if_neg (by decide), if_pos k]
  exact ⟨e, by unfold measV; rw [if_pos e]⟩
theorem measQ {n d : Int} (h0 : 0 ≤ n) (h1 : 1 ≤ d) (h2 : n ≤ 2048 * d) : n.tdiv d = n / d ∧ 0 ≤ n / d ∧ n / d ≤ 2048 := by
  refine ⟨Int.tdiv_eq_ediv_of_nonneg h0, Int.ediv_nonneg h0 (by omega), Int.ediv_le_of_le_mul (by omega) h2⟩
def x80 : XFn := ⟨54, (.seq (.reg false [O1 5 (.box 24) 0, O1 6 (.box 28) 1, K1 10 .mv (iV 0), K1 11 .mv (iV 0)]) (.seq (.block 0 (.seq (.reg false [O1 16 (.loadN 3) 5, O1 17 (.loadN 3) 6, O2 18 (.call 97) 16 17, O1 19 (.un .not) 18, O1 15 .mv 19]) (.cond (.t 15) (.seq (.reg false [K1 10 .mv (iV 0), K1 11 .mv (iV 1)]) .ret) (.seq (.reg false [O1 21 .mv 3, ⟨(some 22), (.call 98), [(.t 21), (.k (iV 1)), (.k (iV 32))], none⟩, O1 23 (.un .not) 22, O1 24 .mv 23, G1 25 .mv 2 24 false, ⟨(some 26), (.call 98), [(.t 25), (.k (iV 0)), (.k (iV 255))], (some (24, false))⟩, G1 27 (.un .not) 26 24 false, ⟨(some 28), .pick, [(.t 24), (.k (.bool true)), (.t 27)], none⟩, O1 20 .mv 28]) (.cond (.t 20) (.seq (.reg false [K1 10 .mv (iV 0), K1 11 .mv (iV 2)]) .ret) .skip))))) (.seq (.reg false [O1 30 (.loadN 3) 5, O1 31 (.loadN 3) 6, O1 32 .mv 2, ⟨(some 33), (.call 99), [(.t 30), (.t 31), (.t 32), (.k (iV 1024))], none⟩, O1 29 .mv 33, O1 34 (.ext 0) 29, O1 35 (.ext 1) 29, ⟨(some 12), (.alloc 160 [(iV 0), (iV 0)]), [], none⟩, ⟨none, (.store 2), [(.t 12), (.t 34)], none⟩, O1 13 .mv 35]) (.seq (.seq (.reg false [O1 36 .mv 13, O1 37 (.un .not) 36]) (.cond (.t 37) (.seq (.reg false [K1 10 .mv (iV (-1)), K1 11 .mv (iV 0)]) .ret) .skip)) (.seq (.reg false [O1 38 (.fld 0) 12, O1 39 .load1 38, O1 40 (.fld 1) 12, O1 41 .load1 40, O2 42 (.bin .quo) 39 41, O1 43 .mv 4, O1 44 .mv 3, ⟨(some 45), (.bin .sub), [(.k (iV 1)), (.t 44)], none⟩, O2 46 .maxI 43 45, O1 47 .mv 3, O2 48 .minI 46 47, O2 49 (.bin .add) 42 48, K2 50 .maxI 49 (iV 0), O1 14 .mv 50]) (.seq (.seq (.reg false [O1 51 .mv 14, K2 52 (.bin .gtr) 51 (iV 1024)]) (.cond (.t 52) (.reg false [K1 14 .mv (iV (-1))]) .skip)) (.seq (.reg false [O1 53 .mv 14, O1 10 .mv 53, K1 11 .mv (iV 0)]) .ret))))))), [(.s 10), (.s 11)]⟩
theorem x80_ok : xfn Tryz.prog Tryz.f80 = some x80.er := by kernel_rfl
def g80 : Con := fun args_ E_ nn_ => match args_ with
  | [.a [.v (.int .i64 p_W), .v (.int .i64 p_H), .n p_Cells], .a [.v (.int .i64 at_X), .v (.int .i64 at_Y), .v (.int .i64 at_H)], .c (.v (.int .i64 mark)), .c (.v (.int .i64 rng)), .c (.v (.int .i64 err))] => (match rowOf E_ p_Cells with
    | some (p_Cells_n, p_Cells_s, p_Cells_f) => some (.q (isRow eU8 p_Cells_n p_Cells_s p_Cells_f ∧ True) (.t [.c (.v (.int .i64 (measV p_W p_H (decL eU8 p_Cells_n p_Cells_f) at_X at_Y at_H mark rng err))), .c (.v (.int .i64 (measE p_W p_H (decL eU8 p_Cells_n p_Cells_f) at_X at_Y at_H mark rng)))]))
    | none => none)
  | _ => none
theorem c80 : COk Tryz.prog 80 g80 := by
  refine cok_q Tryz.func80 x80_ok (by kernel_rfl) (cok_tab (cok_cons c97 (cok_cons c98 (cok_cons c99 cok_nil)))) ?_
  intro args_ E_ nn_ cr_ hg_
  unfold g80 at hg_
  split at hg_
  · rename_i p_W p_H p_Cells at_X at_Y at_H mark rng err
    split at hg_
    · rename_i p_Cells_n p_Cells_s p_Cells_f h_p_Cells
      cases hg_
      refine ⟨_, _, rfl, 1, [p_Cells], [.a [.v (.int .i64 p_W), .v (.int .i64 p_H), .n 0], .a [.v (.int .i64 at_X), .v (.int .i64 at_Y), .v (.int .i64 at_H)], .c (.v (.int .i64 mark)), .c (.v (.int .i64 rng)), .c (.v (.int .i64 err))], [(0, .ro (decL eU8 p_Cells_n p_Cells_f).length eU8.sz (rowF eU8 (decL eU8 p_Cells_n p_Cells_f)))], .t [.c (.v (.int .i64 (measV p_W p_H (decL eU8 p_Cells_n p_Cells_f) at_X at_Y at_H mark rng err))), .c (.v (.int .i64 (measE p_W p_H (decL eU8 p_Cells_n p_Cells_f) at_X at_Y at_H mark rng)))], rfl, rfl, and3 (by simp only [push_cast, Nat.reduceLT, Nat.reduceAdd]) ⟨rfl, ⟨inE0_row h_p_Cells, trivial⟩, rfl, ?_⟩⟩
      intro hpre hlen
      obtain ⟨i_p_Cells, hpre⟩ := hpre
      refine ⟨⟨inE_row h_p_Cells i_p_Cells, trivial⟩, ?_⟩
      have z_p_Cells := lens_row (E := eU8) hlen h_p_Cells
      clear i_p_Cells
      generalize decL eU8 p_Cells_n p_Cells_f = p_CellsL at *
      clear h_p_Cells
      simp (maxSteps := 9999999) only [x80, push_cast, simprocAttr, g97, g98, g99]
      refine ⟨fun h => ?_, fun h1 h2 h3 => ⟨fun h => ?_, fun h4 h5 h6 h7 => ?_⟩⟩
      · have z := meas1 (m := mark) (rng := rng) (er := err) h; rw [z.1, z.2]; exact ⟨rfl, rfl⟩
      · have z := meas2 (er := err) h1 ⟨h2, h3⟩ h; rw [z.1, z.2]; exact ⟨rfl, rfl⟩
      have z := meas0 (er := err) h1 ⟨h2, h3⟩ (show (1 ≤ rng ∧ rng ≤ 32) ∧ 0 ≤ mark ∧ mark ≤ 255 by omega)
      rw [z.1, z.2]
      unfold lookO lookK
      cases ho : firstO p_W p_H p_CellsL at_X at_Y (beamV at_H mark).1 (beamV at_H mark).2.1 (beamV at_H mark).2.2 1024 with
      | none => exact ⟨fun _ => ⟨rfl, rfl⟩, fun h => by simp at h⟩
      | some c =>
        have hb := hit_bd (first_hit ho).1 (first_hit ho).2.1
        generalize hK : entC at_X at_Y (beamV at_H mark).1 (beamV at_H mark).2.1 (beamV at_H mark).2.2 = K at *
        have q := measQ hb.1.1 hb.1.2.1 hb.2.1
        refine ⟨fun h => by simp at h, fun _ => ?_⟩
        change ¬ (K c).2 = 0 ∧ (1024 < max (IntKind.i64.wrap (IntKind.i64.wrap ((K c).1.tdiv (K c).2) + min (max err (IntKind.i64.wrap (1 - rng))) rng)) 0 → -1 = measZ K (min (max err (1 - rng)) rng) (some c) ∧ (0 : Int) = 0) ∧ (¬ 1024 < max (IntKind.i64.wrap (IntKind.i64.wrap ((K c).1.tdiv (K c).2) + min (max err (IntKind.i64.wrap (1 - rng))) rng)) 0 → max (IntKind.i64.wrap (IntKind.i64.wrap ((K c).1.tdiv (K c).2) + min (max err (IntKind.i64.wrap (1 - rng))) rng)) 0 = measZ K (min (max err (1 - rng)) rng) (some c) ∧ (0 : Int) = 0)
        rw [q.1, wrapI (n := (K c).1 / (K c).2) (by omega) (by omega), wrapI (n := 1 - rng) (by omega) (by omega), wrapI (n := (K c).1 / (K c).2 + min (max err (1 - rng)) rng) (by omega) (by omega)]
        exact ⟨by omega, fun g => ⟨(if_pos g).symm, rfl⟩, fun g => ⟨(if_neg g).symm, rfl⟩⟩
    · cases hg_
  · cases hg_
end Go.Proofs.YtkpdofgmmpbknaaGreat
namespace Go.Proofs.YtkpdofgmmpbknaaGreat
open Go.Sx Go.Way
def swE1 (W H : Int) (L : List Int) (x y h rng : Int) (M : List Int) : Nat → Int
  | 0 => 0
  | k + 1 => if swE1 W H L x y h rng M k = 0 then measE W H L x y h (M.getD k eI.dflt) rng else swE1 W H L x y h rng M k
def swV (W H : Int) (L : List Int) (x y h rng : Int) (M R : List Int) (k : Nat) : List CC := (List.range k).map fun i => ⟨M.getD i eI.dflt, measV W H L x y h (M.getD i eI.dflt) rng (if i < R.length then R.getD i eI.dflt else 0)⟩
def swpE (W H : Int) (L : List Int) (x y h rng : Int) (M : List Int) : Int := if 32 < M.length then 6 else swE1 W H L x y h rng M M.length
def swpL (W H : Int) (L : List Int) (x y h rng : Int) (M R : List Int) : List CC := if swpE W H L x y h rng M = 0 then swV W H L x y h rng M R M.length else []
theorem swV_succ (W H : Int) (L : List Int) (x y h rng : Int) (M R : List Int) (k : Nat) : swV W H L x y h rng M R (k + 1) = swV W H L x y h rng M R k ++ [⟨M.getD k eI.dflt, measV W H L x y h (M.getD k eI.dflt) rng (if k < R.length then R.getD k eI.dflt else 0)⟩] := by simp [swV, List.range_succ]
theorem swV_len (W H : Int) (L : List Int) (x y h rng : Int) (M R : List Int) (k : Nat) : (swV W H L x y h rng M R k).length = k := by simp [swV]
theorem swE1_stop {W H : Int} {L : List Int} {x y h rng : Int} {M : List Int} {k : Nat} (h0 : swE1 W H L x y h rng M k ≠ 0) : ∀ n, k ≤ n → swE1 W H L x y h rng M n = swE1 W H L x y h rng M k
  | 0, hn => by obtain rfl : k = 0 := by omega
                rfl
  | n + 1, hn => by
    rcases Nat.lt_or_ge n k with g | g
    · obtain rfl : k = n + 1 := by omega
      rfl
    · have e := swE1_stop h0 n g
      show (if swE1 W H L x y h rng M n = 0 then _ else _) = _
      rw [e, if_neg h0]
theorem swp_full {W H : Int} {L : List Int} {x y h rng : Int} {M : List Int} (R : List Int) (k : 32 < M.length) : swpE W H L x y h rng M = 6 ∧ swpL W H L x y h rng M R = [] := by
  have e : swpE W H L x y h rng M = 6 := if_pos k
  exact ⟨e, by unfold swpL; rw [e]; rfl⟩
theorem swp_bad {W H : Int} {L : List Int} {x y h rng : Int} {M : List Int} (R : List Int) {k : Nat} (hm : ¬ 32 < M.length) (hk : k < M.length) (h0 : swE1 W H L x y h rng M k = 0) (h1 : measE W H L x y h (M.getD k eI.dflt) rng ≠ 0) :
    swpE W H L x y h rng M = measE W H L x y h (M.getD k eI.dflt) rng ∧ swpL W H L x y h rng M R = [] := by
  have e0 : swE1 W H L x y h rng M (k + 1) = measE W H L x y h (M.getD k eI.dflt) rng := if_pos h0
  have e : swpE W H L x y h rng M = measE W H L x y h (M.getD k eI.dflt) rng := by
    unfold swpE
    rw [if_neg hm, swE1_stop (k := k + 1) (by rw [e0]; exact h1) _ (by omega), e0]
  exact ⟨e, by unfold swpL; rw [e, if_neg h1]⟩
theorem swp_good {W H : Int} {L : List Int} {x y h rng : Int} {M : List Int} (R : List Int) (hm : ¬ 32 < M.length) (h0 : swE1 W H L x y h rng M M.length = 0) : swpE W H L x y h rng M = 0 ∧ swpL W H L x y h rng M R = swV W H L x y h rng M R M.length := by
  have e : swpE W H L x y h rng M = 0 := by unfold swpE; rw [if_neg hm, h0]
  exact ⟨e, by unfold swpL; rw [if_pos e]⟩
def allB (W H : Int) (L : List Int) (x y h rng : Int) (S : List CC) : Bool := (S.all fun c => plausB W H L x y h c.X c.Y rng) && decide (S.length ≤ 32)
def x46L0 : XC := (.seq (.reg false [O2 24 (.bin .lss) 23 22]) (.seq (.cond (.t 24) .skip (.exit 0)) (.seq (.block 1 (.seq (.reg false [O1 25 .mv 23, O2 26 (.ixS 1) 21 23, O1 27 .load1 26, O1 13 .mv 25, O1 14 .mv 27]) (.seq (.reg false [K1 15 .mv (iV 0)]) (.seq (.seq (.reg false [O1 28 .mv 13, O1 29 .mv 4, O1 30 .lenS 29, O2 31 (.bin .lss) 28 30]) (.cond (.t 31) (.reg false [O1 32 .mv 4, O1 33 .mv 13, O2 34 (.ixS 1) 32 33, O1 35 .load1 34, O1 15 .mv 35]) .skip)) (.seq (.reg false [O1 37 (.loadN 3) 5, O1 38 (.loadN 3) 6, O1 39 .mv 14, O1 40 .mv 3, O1 41 .mv 15, ⟨(some 42), (.call 80), [(.t 37), (.t 38), (.t 39), (.t 40), (.t 41)], none⟩, O1 36 .mv 42, O1 43 (.ext 0) 36, O1 44 (.ext 1) 36, O1 16 .mv 43, O1 17 .mv 44]) (.seq (.seq (.reg false [O1 45 .mv 17, K2 46 (.bin .neq) 45 (iV 0)]) (.cond (.t 46) (.seq (.reg false [O1 47 .mv 17, K1 10 .mv (.slice none 0 0), O1 11 .mv 47]) .ret) .skip)) (.reg false [O1 48 .mv 12, O1 49 .mv 14, O1 50 .mv 16, ⟨(some 51), (.build [(iV 0), (iV 0)] [(0, 1), (1, 1)]), [(.t 49), (.t 50)], none⟩, ⟨(some 52), (.slit 106 1 2 [(iV 0), (iV 0)] [(0, 2)]), [(.t 51)], none⟩, O2 53 (.app 106 2 16) 48 52, O1 12 .mv 53]))))))) (.reg false [K2 54 (.bin .add) 23 (iV 1), O1 23 .mv 54]))))
def x46 : XFn := ⟨56, (.seq (.reg false [O1 5 (.box 24) 0, O1 6 (.box 28) 1, K1 10 .mv (.slice none 0 0), K1 11 .mv (iV 0)]) (.seq (.seq (.reg false [O1 18 .mv 2, O1 19 .lenS 18, K2 20 (.bin .gtr) 19 (iV 32)]) (.cond (.t 20) (.seq (.reg false [K1 10 .mv (.slice none 0 0), K1 11 .mv (iV 6)]) .ret) .skip)) (.seq (.reg false [K1 12 .mv (.slice none 0 0)]) (.seq (.seq (.reg false [O1 21 .mv 2, O1 22 .lenS 21, K1 23 .mv (iV 0)]) (.block 0 (.loop x46L0))) (.seq (.reg false [O1 55 .mv 12, O1 10 .mv 55, K1 11 .mv (iV 0)]) .ret))))), [(.s 10), (.s 11)]⟩
theorem x46_ok : xfn Tryz.prog Tryz.f46 = some x46.er := by kernel_rfl
def x32L0 : XC := (.seq (.seq (.reg false [O1 11 .mv 5, O1 12 .mv 0, O1 13 .lenS 12, O2 14 (.bin .lss) 11 13]) (.cond (.t 14) .skip (.exit 0))) (.seq (.block 1 (.seq (.reg true [O1 17 .mv 0, O1 18 .mv 5, O2 19 (.ixS 2) 17 18, O1 20 (.loadN 2) 19, O1 21 .mv 1, O1 22 .mv 5, O2 23 (.ixS 2) 21 22, O1 24 (.loadN 2) 23, ⟨(some 25), (.eqA true [(.i .i64), (.i .i64)]), [(.t 20), (.t 24)], none⟩]) (.cond (.t 25) (.seq (.reg false [K1 4 .mv (.bool false)]) .ret) .skip))) (.reg false [O1 15 .mv 5, K2 16 (.bin .add) 15 (iV 1), O1 5 .mv 16])))
def x32 : XFn := ⟨26, (.seq (.reg false [K1 4 .mv (.bool false)]) (.seq (.seq (.reg false [O1 6 .mv 0, O1 7 .lenS 6, O1 8 .mv 1, O1 9 .lenS 8, O2 10 (.bin .neq) 7 9]) (.cond (.t 10) (.seq (.reg false [K1 4 .mv (.bool false)]) .ret) .skip)) (.seq (.seq (.reg false [K1 5 .mv (iV 0)]) (.block 0 (.loop x32L0))) (.seq (.reg false [K1 4 .mv (.bool true)]) .ret)))), [(.s 4)]⟩
theorem x32_ok : xfn Tryz.prog Tryz.f32 = some x32.er := by kernel_rfl
def g46 : Con := fun args_ E_ nn_ => match args_ with
  | [.a [.v (.int .i64 p_W), .v (.int .i64 p_H), .n p_Cells], .a [.v (.int .i64 at_X), .v (.int .i64 at_Y), .v (.int .i64 at_H)], .c (.n marks), .c (.v (.int .i64 rng)), .c (.n errs)] => (match rowOf E_ p_Cells with
    | some (p_Cells_n, p_Cells_s, p_Cells_f) => (match rowOf E_ marks with
    | some (marks_n, marks_s, marks_f) => (match rowOf E_ errs with
    | some (errs_n, errs_s, errs_f) => some (.e (isRow eU8 p_Cells_n p_Cells_s p_Cells_f ∧ isRow eI marks_n marks_s marks_f ∧ isRow eI errs_n errs_s errs_f ∧ True) (.t [.c (.n (nn_ + 0)), .c (.v (.int .i64 (swpE p_W p_H (decL eU8 p_Cells_n p_Cells_f) at_X at_Y at_H rng (decL eI marks_n marks_f))))]) [((nn_ + 0), .own (swpL p_W p_H (decL eU8 p_Cells_n p_Cells_f) at_X at_Y at_H rng (decL eI marks_n marks_f) (decL eI errs_n errs_f)).length 2 (rowF eC (swpL p_W p_H (decL eU8 p_Cells_n p_Cells_f) at_X at_Y at_H rng (decL eI marks_n marks_f) (decL eI errs_n errs_f))) 106)] (nn_ + 1))
    | none => none)
    | none => none)
    | none => none)
  | _ => none
theorem c46 : COk Tryz.prog 46 g46 := by
  refine cok_e Tryz.func46 x46_ok (by kernel_rfl) (cok_tab (cok_cons c80 cok_nil)) ?_
  intro args_ E_ nn_ cr_ hg_
  unfold g46 at hg_
  split at hg_
  · rename_i p_W p_H p_Cells at_X at_Y at_H marks rng errs
    split at hg_
    · rename_i p_Cells_n p_Cells_s p_Cells_f h_p_Cells
      split at hg_
      · rename_i marks_n marks_s marks_f h_marks
        split at hg_
        · rename_i errs_n errs_s errs_f h_errs
          cases hg_
          refine ⟨_, _, _, _, rfl, 3, [p_Cells, marks, errs], [.a [.v (.int .i64 p_W), .v (.int .i64 p_H), .n 0], .a [.v (.int .i64 at_X), .v (.int .i64 at_Y), .v (.int .i64 at_H)], .c (.n 1), .c (.v (.int .i64 rng)), .c (.n 2)], [(0, .ro (decL eU8 p_Cells_n p_Cells_f).length eU8.sz (rowF eU8 (decL eU8 p_Cells_n p_Cells_f))), (1, .ro (decL eI marks_n marks_f).length eI.sz (rowF eI (decL eI marks_n marks_f))), (2, .ro (decL eI errs_n errs_f).length eI.sz (rowF eI (decL eI errs_n errs_f)))], .t [.c (.n 3), .c (.v (.int .i64 (swpE p_W p_H (decL eU8 p_Cells_n p_Cells_f) at_X at_Y at_H rng (decL eI marks_n marks_f))))], [(3, .own (swpL p_W p_H (decL eU8 p_Cells_n p_Cells_f) at_X at_Y at_H rng (decL eI marks_n marks_f) (decL eI errs_n errs_f)).length 2 (rowF eC (swpL p_W p_H (decL eU8 p_Cells_n p_Cells_f) at_X at_Y at_H rng (decL eI marks_n marks_f) (decL eI errs_n errs_f))) 106)], 4, rfl, rfl, by simp only [renE, Ent.ren, rowF_renf] <;> rfl, rfl, by decide, and4 (by simp only [push_cast, Nat.reduceLT, Nat.reduceAdd]) ⟨rfl, ⟨inE0_row h_p_Cells, inE0_row h_marks, inE0_row h_errs, trivial⟩, by simp only [keysNodup, outN, keys] <;> decide, rfl, rfl, ?_⟩⟩
          intro hpre hlen
          obtain ⟨i_p_Cells, hpre⟩ := hpre
          obtain ⟨i_marks, hpre⟩ := hpre
          obtain ⟨i_errs, hpre⟩ := hpre
          refine ⟨⟨inE_row h_p_Cells i_p_Cells, inE_row h_marks i_marks, inE_row h_errs i_errs, trivial⟩, by simp only [apartE] <;> (first | trivial | (simp [Ent.mut]; done)), ?_⟩
          have z_p_Cells := lens_row (E := eU8) hlen h_p_Cells
          have z_marks := lens_row (E := eI) hlen h_marks
          have z_errs := lens_row (E := eI) hlen h_errs
          clear i_p_Cells
          generalize decL eU8 p_Cells_n p_Cells_f = p_CellsL at *
          clear i_marks
          generalize decL eI marks_n marks_f = marksL at *
          clear i_errs
          generalize decL eI errs_n errs_f = errsL at *
          clear h_p_Cells
          clear h_marks
          clear h_errs
          simp (maxSteps := 9999999) only [x46, push_cast, simprocAttr, g80]
          refine ⟨fun h => by have z := swp_full (W := p_W) (H := p_H) (L := p_CellsL) (x := at_X) (y := at_Y) (h := at_H) (rng := rng) (M := marksL) errsL (by omega); rw [z.1, z.2]; exact ⟨rfl, rfl⟩, fun h => ?_⟩
          refine vcLoop_upd (α := {k : Nat // k ≤ marksL.length ∧ swE1 p_W p_H p_CellsL at_X at_Y at_H rng marksL k = 0}) [3, 4, 5, 6, 21, 22] 1 (fun s => [(12, .o (.c (.n 5))), (23, .o (.c (.v (.int .i64 (s.1 : Nat)))))]) (fun s => [(5, .own (swV p_W p_H p_CellsL at_X at_Y at_H rng marksL errsL s.1).length 2 (rowF eC (swV p_W p_H p_CellsL at_X at_Y at_H rng marksL errsL s.1)) 106)]) (fun s => marksL.length - s.1) ⟨0, by omega, rfl⟩ ?_ ?_
          · simp only [push_cast, simprocAttr, g80, swV_len]
          · rintro ⟨k, hk, h0⟩
            simp only [x46L0, push_cast, simprocAttr, g80]
            have hz := swV_len p_W p_H p_CellsL at_X at_Y at_H rng marksL errsL k
            refine ⟨fun hlt => ⟨hlt, hlt, fun hr => ⟨hr, hr, fun he => by have z := swp_bad errsL (by omega) hlt h0 he; rw [z.1, z.2]; exact ⟨rfl, rfl⟩, fun he => ⟨by omega, ⟨k + 1, by omega, (if_pos h0).trans he⟩, ⟨wrapI (by omega) (by omega), push_eq (E := eC) (x := ⟨marksL.getD k eI.dflt, measV p_W p_H p_CellsL at_X at_Y at_H (marksL.getD k eI.dflt) rng (errsL.getD k eI.dflt)⟩) (by simp only; rw [swV_succ, if_pos hr])⟩, by simp only; omega⟩⟩, fun hr => ⟨fun he => by have z := swp_bad errsL (by omega) hlt h0 he; rw [z.1, z.2]; exact ⟨rfl, rfl⟩, fun he => ⟨by omega, ⟨k + 1, by omega, (if_pos h0).trans he⟩, ⟨wrapI (by omega) (by omega), push_eq (E := eC) (x := ⟨marksL.getD k eI.dflt, measV p_W p_H p_CellsL at_X at_Y at_H (marksL.getD k eI.dflt) rng (0)⟩) (by simp only; rw [swV_succ, if_neg hr])⟩, by simp only; omega⟩⟩⟩, fun hge => ?_⟩
            obtain rfl : k = marksL.length := by omega
            have z := swp_good errsL (by omega) h0
            rw [z.1]
            exact ⟨rfl, same_eq z.2⟩
        · cases hg_
      · cases hg_
    · cases hg_
  · cases hg_
end Go.Proofs.YtkpdofgmmpbknaaGreat
