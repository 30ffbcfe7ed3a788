/- A part of the proof of a statement about this seat: how a function is stepped through, and plain laws. No conditions. -/
import Derived.Test.YtpnpbbagonknjaaRows
import Derived.Test.YtpnpbbagonknjaaSz3
import Derived.Test.YtpnpbbagonknjaaU1
import Derived.KernelRfl
set_option linter.unusedVariables false
set_option linter.unusedSimpArgs false
set_option maxRecDepth 20000
namespace Go.Proofs.Ytpnpbbagonknjaa
open Go.Sx Go.Way
/-! ### The first wall of a ray: both searches -/
def wallB (W H : Int) (L : List Int) (c : CC) : Bool := decide (atB W H L c.X c.Y = 2)
def hitB (px py vx vy vd most : Int) (c : CC) : Bool := thrB px py vx vy vd (c.X * 64) (c.Y * 64) (c.X * 64 + 64) (c.Y * 64 + 64) && decide ((entC px py vx vy vd c).1 ≤ most * (entC px py vx vy vd c).2)
def rayL (W H : Int) (L : List Int) (px py vx vy vd most : Int) : List CC := (trL px py vx vy vd 0 most).filter (wallB W H L)
def refP (W H : Int) (L : List Int) (px py vx vy vd most : Int) (x y : Int) : Bool := wallB W H L ⟨x, y⟩ && hitB px py vx vy vd most ⟨x, y⟩
def refL (W H : Int) (L : List Int) (px py vx vy vd most : Int) : List CC := gridL (refP W H L px py vx vy vd most) (-1) W (-1) H
def okF (W H : Int) (L : List Int) (px py vx vy vd most : Int) : Bool := inB W H L px py && vecB vx vy vd && okR 0 most
def firstO (W H : Int) (L : List Int) (px py vx vy vd most : Int) : Option CC := if okF W H L px py vx vy vd most = true then pickL (ltK px py vx vy vd) (refL W H L px py vx vy vd most) else none
def sqR (c : CC) : Bool := sRectB (c.X * 64) (c.Y * 64) (c.X * 64 + 64) (c.Y * 64 + 64)
def InC (px py vx vy : Int) (c : CC) (t : Int × Int) : Prop := InS px py vx vy (c.X * 64) (c.Y * 64) (c.X * 64 + 64) (c.Y * 64 + 64) t
theorem hit_iff {px py vx vy vd most : Int} {c : CC} (h1 : sPtB px py = true) (h2 : vecB vx vy vd = true) (h3 : sqR c = true) : hitB px py vx vy vd most c = true ↔ ∃ t, InC px py vx vy c t ∧ t.1 * vd ≤ most * t.2 := by
  have a := vec_bd h2
  unfold hitB
  rw [Bool.and_eq_true, decide_eq_true_eq]
  constructor
  · rintro ⟨h, k⟩
    unfold entC entF at k
    exact ⟨_, (thr_ent h).1.1, (low_le (thrL_pos _ _ _ _ _ _ _ _)).1.1 k⟩
  · rintro ⟨t, ht, k⟩
    have h := thr_of h1 h2 h3 ht
    refine ⟨h, ?_⟩
    unfold entC entF
    rw [(low_le (thrL_pos _ _ _ _ _ _ _ _)).1]
    have e := (thr_ent h).1.2 t ht
    have hp := thrL_pos px py vx vy (c.X * 64) (c.Y * 64) (c.X * 64 + 64) (c.Y * 64 + 64)
    generalize thrL px py vx vy (c.X * 64) (c.Y * 64) (c.X * 64 + 64) (c.Y * 64 + 64) = z at *
    unfold flE at e
    refine Int.le_of_mul_le_mul_right (a := t.2) ?_ ht.1
    have f1 := Int.mul_le_mul_of_nonneg_right e (show 0 ≤ vd by omega)
    have f2 := Int.mul_le_mul_of_nonneg_right k (Int.le_of_lt hp)
    have r1 : z.1 * t.2 * vd = z.1 * vd * t.2 := by ac_rfl
    have r2 : t.1 * z.2 * vd = t.1 * vd * z.2 := by ac_rfl
    have r3 : most * t.2 * z.2 = most * z.2 * t.2 := by ac_rfl
    omega
theorem inC_shift {n m p d a b : Int} : inC n m 0 d (a - p) (b - p) ↔ inC n m p d a b := by
  unfold inC
  rw [Int.sub_mul, Int.sub_mul]
  omega
theorem sw_hit {px py vx vy vd most : Int} {c : CC} (h1 : sPtB px py = true) (h : swP px py px py vx vy vd 0 most c.X c.Y = true) : sqR c = true ∧ hitB px py vx vy vd most c = true := by
  unfold swP at h
  rw [Bool.and_eq_true] at h
  obtain ⟨h2, h3⟩ := h
  rw [meets_iff] at h3
  unfold MeP at h3
  obtain ⟨_, _, hv, _, n, m, hm, hn, hx, hy, _, hh⟩ := h3
  simp only [minusB, Bool.and_eq_true] at h2
  refine ⟨h2.1.1, (hit_iff h1 hv h2.1.1).2 ⟨(n, m), ⟨hm, hn, inC_shift.1 hx, inC_shift.1 hy⟩, hh⟩⟩
theorem hit_sw {px py vx vy vd most : Int} {c : CC} (hp : (0 ≤ px ∧ px ≤ 4096) ∧ 0 ≤ py ∧ py ≤ 4096) (hv : vecB vx vy vd = true) (hm : 0 ≤ most ∧ most ≤ 2048) (hc : (-1 ≤ c.X ∧ c.X ≤ 64) ∧ -1 ≤ c.Y ∧ c.Y ≤ 64) (h : hitB px py vx vy vd most c = true) :
    swP px py px py vx vy vd 0 most c.X c.Y = true := by
  have h1 : sPtB px py = true := by simp only [sPtB, nearB, Bool.and_eq_true, decide_eq_true_eq]; omega
  have h3 : sqR c = true := by simp only [sqR, sRectB, nearB, Bool.and_eq_true, decide_eq_true_eq]; omega
  obtain ⟨t, ⟨g1, g2, g3, g4⟩, g5⟩ := (hit_iff h1 hv h3).1 h
  unfold swP
  rw [Bool.and_eq_true, meets_iff]
  constructor
  · simp only [minusB, sRectB, nearB, Bool.and_eq_true, decide_eq_true_eq]; omega
  · have a := vec_bd hv
    refine ⟨by omega, by rfl, hv, by simp only [sRectB, nearB, Bool.and_eq_true, decide_eq_true_eq]; omega, t.1, t.2, g1, g2, inC_shift.2 g3, inC_shift.2 g4, ?_, g5⟩
    rw [Int.zero_mul]
    exact Int.mul_nonneg g2 (by omega)
theorem okF_at {W H : Int} {L : List Int} {px py vx vy vd most : Int} (h : okF W H L px py vx vy vd most = true) :
    planB W H L = true ∧ ((0 ≤ px ∧ px ≤ 64 * W) ∧ 0 ≤ py ∧ py ≤ 64 * H) ∧ vecB vx vy vd = true ∧ (0 ≤ most ∧ most ≤ 2048) ∧ ((1 ≤ W ∧ W ≤ 64) ∧ 1 ≤ H ∧ H ≤ 64) ∧ sPtB px py = true ∧ trE px py vx vy vd 0 most = 0 ∧ trL px py vx vy vd 0 most = swL px py px py vx vy vd 0 most := by
  simp only [okF, inB, okR, Bool.and_eq_true, decide_eq_true_eq] at h
  obtain ⟨⟨⟨h1, h2⟩, h3⟩, h4⟩ := h
  have a := planB_at h1
  have hp : pPtB px py = true := by unfold pPtB; rw [decide_eq_true_eq]; omega
  have e : trE px py vx vy vd 0 most = 0 := by
    unfold trE
    rw [if_neg (by simp [hp, h3]), if_neg]
    unfold okR
    simp only [decide_eq_false_iff_not]
    omega
  refine ⟨h1, h2, h3, by omega, ⟨a.1, a.2.1⟩, ?_, e, ?_⟩
  · simp only [sPtB, nearB, Bool.and_eq_true, decide_eq_true_eq]; omega
  · unfold trL; rw [if_pos e]
theorem wall_out {W H : Int} {L : List Int} {c : CC} (h : planB W H L = true) (hc : insB W H c.X c.Y = false) : wallB W H L c = true := by
  unfold wallB; rw [at_out h hc]; rfl
theorem refL_mem {W H : Int} {L : List Int} {px py vx vy vd most : Int} {c : CC} : c ∈ refL W H L px py vx vy vd most ↔ (wallB W H L c = true ∧ hitB px py vx vy vd most c = true) ∧ (-1 ≤ c.X ∧ c.X ≤ W) ∧ -1 ≤ c.Y ∧ c.Y ≤ H := by
  unfold refL
  rw [gridL_mem]
  unfold refP
  rw [Bool.and_eq_true]
theorem rayL_mem {W H : Int} {L : List Int} {px py vx vy vd most : Int} {c : CC} (h : okF W H L px py vx vy vd most = true) : c ∈ rayL W H L px py vx vy vd most ↔ swP px py px py vx vy vd 0 most c.X c.Y = true ∧ wallB W H L c = true := by
  obtain ⟨_, _, _, _, _, _, _, e⟩ := okF_at h
  unfold rayL
  rw [List.mem_filter, e, swL_mem]
/-- Both searches pick the same wall. -/
theorem first_eq {W H : Int} {L : List Int} {px py vx vy vd most : Int} (h : okF W H L px py vx vy vd most = true) : pickL (ltK px py vx vy vd) (rayL W H L px py vx vy vd most) = firstO W H L px py vx vy vd most := by
  obtain ⟨h1, h2, h3, h4, h5, h6, h7, h8⟩ := okF_at h
  have a := vec_bd h3
  unfold firstO
  rw [if_pos h]
  refine pick_eq (ltK_tr _ _ _ _ _) (ltK_neg _ _ _ _ _) (ltK_irr _ _ _ _ _) ?_ (gridL_sorted _ _ _ _ _) ?_ ?_
  · unfold rayL; rw [h8]; exact (swL_sorted _ _ _ _ _ _ _ _ _).filter _
  · intro c hc
    rw [refL_mem] at hc
    rw [rayL_mem h]
    exact ⟨hit_sw (by omega) h3 h4 (by omega) hc.1.2, hc.1.1⟩
  · intro c hc hn
    rw [rayL_mem h] at hc
    obtain ⟨k1, k2⟩ := sw_hit h6 hc.1
    have hout : ¬ ((-1 ≤ c.X ∧ c.X ≤ W) ∧ -1 ≤ c.Y ∧ c.Y ≤ H) := fun hr => hn (refL_mem.2 ⟨⟨hc.2, k2⟩, hr⟩)
    have k3 := k2
    unfold hitB at k3
    rw [Bool.and_eq_true, decide_eq_true_eq] at k3
    have hce := (thr_ent k3.1).1
    obtain ⟨bx, b2, s, hb1, hb2, hb3, hb4⟩ := ring h3 h5.1 h5.2 h2.1 h2.2 hce.1 hout
    have hsq : sqR ⟨bx, b2⟩ = true := by simp only [sqR, sRectB, nearB, Bool.and_eq_true, decide_eq_true_eq]; omega
    have hbt : thrB px py vx vy vd (bx * 64) (b2 * 64) (bx * 64 + 64) (b2 * 64 + 64) = true := thr_of h6 h3 hsq hb3
    have hbe := (thr_ent hbt).1
    have hlt : (thrL px py vx vy (bx * 64) (b2 * 64) (bx * 64 + 64) (b2 * 64 + 64)).1 * (thrL px py vx vy (c.X * 64) (c.Y * 64) (c.X * 64 + 64) (c.Y * 64 + 64)).2 < (thrL px py vx vy (c.X * 64) (c.Y * 64) (c.X * 64 + 64) (c.Y * 64 + 64)).1 * (thrL px py vx vy (bx * 64) (b2 * 64) (bx * 64 + 64) (b2 * 64 + 64)).2 := by
      have e1 := hbe.2 s hb3
      have p1 := hbe.1.1
      have p2 := hce.1.1
      have p3 := hb3.1
      unfold flE at e1
      clear hbe hce hbt hsq
      generalize thrL px py vx vy (bx * 64) (b2 * 64) (bx * 64 + 64) (b2 * 64 + 64) = B at *
      generalize thrL px py vx vy (c.X * 64) (c.Y * 64) (c.X * 64 + 64) (c.Y * 64 + 64) = C at *
      refine Int.lt_of_mul_lt_mul_right (a := s.2) ?_ (Int.le_of_lt p3)
      have f1 := Int.mul_le_mul_of_nonneg_right e1 (Int.le_of_lt p2)
      have f2 := Int.mul_lt_mul_of_pos_right hb4 p1
      have r1 : B.1 * s.2 * C.2 = B.1 * C.2 * s.2 := by ac_rfl
      have r2 : s.1 * B.2 * C.2 = s.1 * C.2 * B.2 := by ac_rfl
      have r3 : C.1 * s.2 * B.2 = C.1 * B.2 * s.2 := by ac_rfl
      omega
    have hlk : ltK px py vx vy vd ⟨bx, b2⟩ c = true := by
      unfold ltK entC entF
      rw [decide_eq_true_eq, low_lt (thrL_pos _ _ _ _ _ _ _ _) (thrL_pos _ _ _ _ _ _ _ _)]
      have := Int.mul_lt_mul_of_pos_right hlt (show 0 < vd by omega)
      generalize thrL px py vx vy (c.X * 64) (c.Y * 64) (c.X * 64 + 64) (c.Y * 64 + 64) = C at *
      simp only
      generalize thrL px py vx vy (bx * 64) (b2 * 64) (bx * 64 + 64) (b2 * 64 + 64) = B at *
      have r1 : B.1 * C.2 * vd = B.1 * vd * C.2 := by ac_rfl
      have r2 : C.1 * B.2 * vd = C.1 * vd * B.2 := by ac_rfl
      omega
    refine ⟨⟨bx, b2⟩, refL_mem.2 ⟨⟨wall_out h1 ?_, ?_⟩, hb1⟩, hlk⟩
    · unfold insB; rw [decide_eq_false_iff_not]; simp only; omega
    · unfold hitB
      rw [Bool.and_eq_true, decide_eq_true_eq]
      refine ⟨hbt, ?_⟩
      unfold ltK at hlk
      rw [decide_eq_true_eq] at hlk
      have p1 := entC_pos px py vx vy vd ⟨bx, b2⟩
      have p2 := entC_pos px py vx vy vd c
      have k4 := k3.2
      generalize entC px py vx vy vd ⟨bx, b2⟩ = B at *
      generalize entC px py vx vy vd c = C at *
      refine Int.le_of_mul_le_mul_right (a := C.2) ?_ p2
      have f1 := Int.mul_le_mul_of_nonneg_right k4 (Int.le_of_lt p1)
      have r1 : most * C.2 * B.2 = most * B.2 * C.2 := by ac_rfl
      omega
def bestF (K : CC → Int × Int) : Option CC → Int × Int
  | none => (0, 0)
  | some c => K c
def bestC : Option CC → CC
  | none => ⟨0, 0⟩
  | some c => c
theorem pick_mem {lt : CC → CC → Bool} {l : List CC} {c : CC} (h : pickL lt l = some c) : c ∈ l := by
  have key : ∀ (l : List CC) (o : Option CC), l.foldl (pickS lt) o = some c → c ∈ l ∨ o = some c := by
    intro l
    induction l with
    | nil => intro o h; exact .inr h
    | cons x l ih =>
      intro o h
      rw [List.foldl_cons] at h
      rcases ih _ h with h1 | h1
      · exact .inl (List.mem_cons_of_mem _ h1)
      · unfold pickS at h1
        split at h1
        · cases h1; exact .inl List.mem_cons_self
        · split at h1
          · cases h1; exact .inl List.mem_cons_self
          · exact .inr h1
  rcases key l none h with h1 | h1
  · exact h1
  · cases h1
/-- The sizes of a distance that is met. -/
theorem hit_bd {px py vx vy vd most : Int} {c : CC} (hm : 0 ≤ most ∧ most ≤ 2048) (h : hitB px py vx vy vd most c = true) :
    (0 ≤ (entC px py vx vy vd c).1 ∧ 1 ≤ (entC px py vx vy vd c).2 ∧ (entC px py vx vy vd c).2 ≤ 67108864) ∧ (entC px py vx vy vd c).1 ≤ 2048 * (entC px py vx vy vd c).2 ∧ ((entC px py vx vy vd c).2 = 1 ∨ (entC px py vx vy vd c).1 < 2048 * (entC px py vx vy vd c).2) := by
  unfold hitB at h
  rw [Bool.and_eq_true, decide_eq_true_eq] at h
  have b := thr_nn h.1
  have p := entC_pos px py vx vy vd c
  have e1 : 0 ≤ (entC px py vx vy vd c).1 := low_nn (Int.mul_nonneg b.1.1 (by omega))
  have e2 : (entC px py vx vy vd c).2 ≤ 67108864 := (low_bd (by omega) b.2.1.2).2
  have e3 : (entC px py vx vy vd c).1 ≤ 2048 * (entC px py vx vy vd c).2 := by
    have := Int.mul_le_mul_of_nonneg_right hm.2 (Int.le_of_lt p)
    omega
  have e4 : (entC px py vx vy vd c).1 = 2048 * (entC px py vx vy vd c).2 → (entC px py vx vy vd c).2 = 1 := fun e => low_one (show 0 < (thrL px py vx vy (c.X * 64) (c.Y * 64) (c.X * 64 + 64) (c.Y * 64 + 64)).2 by omega) e
  refine ⟨⟨e1, by omega, e2⟩, e3, ?_⟩
  rcases Classical.em ((entC px py vx vy vd c).2 = 1) with h1 | h1
  · exact .inl h1
  · exact .inr (by have := fun e => h1 (e4 e); omega)
theorem prod_bd {n d e : Int} (h0 : 0 ≤ n) (h1 : 1 ≤ d ∧ d ≤ 67108864) (h2 : n ≤ 2048 * d) (h3 : d = 1 ∨ n < 2048 * d) (he : 1 ≤ e ∧ e ≤ 67108864) : 0 ≤ n * e ∧ n * e ≤ 9223372036854775807 := by
  have a := Int.mul_nonneg h0 (show 0 ≤ e by omega)
  have b : n ≤ 137438953471 := by rcases h3 with h | h <;> omega
  have c := Int.mul_le_mul b he.2 (by omega) (by omega)
  omega
def takeW (W H : Int) (L : List Int) (T : List CC) (k : Nat) : List CC := (T.take k).filter (wallB W H L)
theorem takeW_yes {W H : Int} {L : List Int} {T : List CC} {k : Nat} (hk : k < T.length) (h : wallB W H L (T.getD k eC.dflt) = true) : takeW W H L T (k + 1) = takeW W H L T k ++ [T.getD k eC.dflt] := by
  have e : T.getD k eC.dflt = T[k] := by rw [List.getD_eq_getElem?_getD, List.getElem?_eq_getElem hk, Option.getD_some]
  unfold takeW
  rw [List.take_add_one, List.getElem?_eq_getElem hk, Option.toList_some, List.filter_append, e]
  rw [e] at h
  simp [h]
theorem takeW_no {W H : Int} {L : List Int} {T : List CC} {k : Nat} (hk : k < T.length) (h : wallB W H L (T.getD k eC.dflt) = false) : takeW W H L T (k + 1) = takeW W H L T k := by
  have e : T.getD k eC.dflt = T[k] := by rw [List.getD_eq_getElem?_getD, List.getElem?_eq_getElem hk, Option.getD_some]
  unfold takeW
  rw [List.take_add_one, List.getElem?_eq_getElem hk, Option.toList_some, List.filter_append]
  rw [e] at h
  simp [h]
theorem takeW_all {W H : Int} {L : List Int} {T : List CC} {k : Nat} (hk : T.length ≤ k) : takeW W H L T k = T.filter (wallB W H L) := by
  unfold takeW; rw [List.take_of_length_le hk]
theorem takeW_mem {W H : Int} {L : List Int} {T : List CC} {k : Nat} {c : CC} (h : c ∈ takeW W H L T k) : c ∈ T := List.mem_of_mem_take (List.mem_filter.1 h).1
theorem tr_at {px py vx vy vd most : Int} {c : CC} (hp : (0 ≤ px ∧ px ≤ 4096) ∧ 0 ≤ py ∧ py ≤ 4096) (hv : vecB vx vy vd = true) (hm : 0 ≤ most ∧ most ≤ 2048) (h : swP px py px py vx vy vd 0 most c.X c.Y = true) :
    sqB c.X c.Y = true ∧ hitB px py vx vy vd most c = true := by
  have h1 : sPtB px py = true := by simp only [sPtB, nearB, Bool.and_eq_true, decide_eq_true_eq]; omega
  have a := vec_bd hv
  have r := sw_rng h
  have fx := frac_bd (lo := 0) (hi := most) (n := vx) (d := vd) (by omega) (by omega) (by omega) (by omega) (by omega)
  have fy := frac_bd (lo := 0) (hi := most) (n := vy) (d := vd) (by omega) (by omega) (by omega) (by omega) (by omega)
  refine ⟨?_, (sw_hit h1 h).2⟩
  unfold sqB
  rw [decide_eq_true_eq]
  omega
theorem okF_no {W H : Int} {L : List Int} {px py vx vy vd most : Int} (h : okF W H L px py vx vy vd most = false) : firstO W H L px py vx vy vd most = none := by unfold firstO; rw [h]; rfl
theorem okF_of {W H : Int} {L : List Int} {px py vx vy vd most : Int} (h : inB W H L px py = true) : okF W H L px py vx vy vd most = true ↔ trE px py vx vy vd 0 most = 0 := by
  constructor
  · exact fun h => (okF_at h).2.2.2.2.2.2.1
  · intro h2
    unfold trE at h2
    split at h2
    · cases h2
    · rename_i h3
      split at h2
      · cases h2
      · rename_i h4
        simp only [not_or, Bool.not_eq_false] at h3 h4
        unfold okF
        rw [h, h3.2, h4]
        rfl
theorem tr_len {px py vx vy vd most : Int} (hp : (0 ≤ px ∧ px ≤ 4096) ∧ 0 ≤ py ∧ py ≤ 4096) (hv : vecB vx vy vd = true) (hm : 0 ≤ most ∧ most ≤ 2048) : (swL px py px py vx vy vd 0 most).length ≤ 1000000 := by
  have a := vec_bd hv
  have fx := frac_bd (lo := 0) (hi := most) (n := vx) (d := vd) (by omega) (by omega) (by omega) (by omega) (by omega)
  have fy := frac_bd (lo := 0) (hi := most) (n := vy) (d := vd) (by omega) (by omega) (by omega) (by omega) (by omega)
  unfold swL gridL
  refine Nat.le_trans (gridUp_len _ _ _ _ _) ?_
  have e1 : (rHi py vy vd 0 most - rLo py vy vd 0 most + 1).toNat ≤ 1000 := by unfold rHi rLo; omega
  have e2 : (rHi px vx vd 0 most - rLo px vx vd 0 most + 1).toNat ≤ 1000 := by unfold rHi rLo; omega
  exact Nat.mul_le_mul e1 e2
def x16L0 : XC := (.seq (.reg false [O2 42 (.bin .lss) 41 40]) (.seq (.cond (.t 42) .skip (.exit 0)) (.seq (.block 1 (.seq (.reg false [O2 43 (.ixS 2) 39 41, O1 44 (.loadN 2) 43, ⟨(some 17), (.alloc 37 [(iV 0), (iV 0)]), [], none⟩, ⟨none, (.store 2), [(.t 17), (.t 44)], none⟩]) (.seq (.seq (.reg false [O1 45 (.loadN 3) 4, O1 46 (.loadN 2) 17, O2 47 (.call 40) 45 46, K2 48 (.bin .neq) 47 (.int .u8 2)]) (.cond (.t 48) (.exit 1) .skip)) (.seq (.reg false [O1 50 (.loadN 2) 17, O1 51 (.call 41) 50, O1 49 .mv 51, O1 52 (.ext 0) 49, O1 53 (.ext 1) 49, ⟨(some 18), (.alloc 80 [(iV 0), (iV 0), (iV 0), (iV 0)]), [], none⟩, ⟨none, (.store 4), [(.t 18), (.t 52)], none⟩, O1 19 .mv 53]) (.seq (.reg false [O1 55 (.loadN 2) 5, O1 56 (.loadN 3) 6, O1 57 (.loadN 4) 18, ⟨(some 58), (.call 42), [(.t 55), (.t 56), (.t 57)], none⟩, O1 54 .mv 58, O1 59 (.ext 0) 54, O1 60 (.ext 1) 54, ⟨(some 20), (.alloc 35 [(iV 0), (iV 0)]), [], none⟩, ⟨none, (.store 2), [(.t 20), (.t 59)], none⟩, O1 21 .mv 60]) (.seq (.reg false [O1 61 .mv 15, O1 62 (.un .not) 61, O1 63 .mv 62, G1 64 (.fld 0) 20 63 false, G1 65 .load1 64 63 false, G1 66 (.fld 1) 13 63 false, G1 67 .load1 66 63 false, G2 68 (.bin .mul) 65 67 63 false, G1 69 (.fld 0) 13 63 false, G1 70 .load1 69 63 false, G1 71 (.fld 1) 20 63 false, G1 72 .load1 71 63 false, G2 73 (.bin .mul) 70 72 63 false, G2 74 (.bin .lss) 68 73 63 false, ⟨(some 75), .pick, [(.t 63), (.k (.bool true)), (.t 74)], none⟩]) (.cond (.t 75) (.regD [O1 76 (.loadN 2) 20, O1 77 (.loadN 2) 17, ⟨none, (.store 2), [(.t 13), (.t 76)], none⟩, ⟨none, (.store 2), [(.t 14), (.t 77)], none⟩, K1 15 .mv (.bool true)] [[], [], [0], [1, 2, 0], [3, 1, 2, 0]]) .skip))))))) (.reg false [K2 78 (.bin .add) 41 (iV 1), O1 41 .mv 78]))))
def x16 : XFn := ⟨82, (.seq (.reg false [O1 4 (.box 24) 0, O1 5 (.box 40) 1, O1 6 (.box 32) 2, ⟨(some 8), (.alloc 35 [(iV 0), (iV 0)]), [], none⟩, ⟨(some 9), (.alloc 37 [(iV 0), (iV 0)]), [], none⟩, K1 10 .mv (.bool false)]) (.seq (.seq (.reg false [O1 22 (.loadN 3) 4, O1 23 (.loadN 2) 5, O2 24 (.call 38) 22 23, O1 25 (.un .not) 24]) (.cond (.t 25) (.seq (.reg false [⟨(some 26), (.build [(iV 0), (iV 0)] []), [], none⟩, ⟨(some 27), (.build [(iV 0), (iV 0)] []), [], none⟩, ⟨none, (.store 2), [(.t 8), (.t 26)], none⟩, ⟨none, (.store 2), [(.t 9), (.t 27)], none⟩, K1 10 .mv (.bool false)]) .ret) .skip)) (.seq (.reg false [O1 29 (.loadN 2) 5, O1 30 (.loadN 3) 6, O1 31 .mv 3, ⟨(some 32), (.call 39), [(.t 29), (.t 30), (.k (iV 0)), (.t 31)], none⟩, O1 28 .mv 32, O1 33 (.ext 0) 28, O1 34 (.ext 1) 28, O1 11 .mv 33, O1 12 .mv 34]) (.seq (.seq (.reg false [O1 35 .mv 12, K2 36 (.bin .neq) 35 (iV 0)]) (.cond (.t 36) (.seq (.reg false [⟨(some 37), (.build [(iV 0), (iV 0)] []), [], none⟩, ⟨(some 38), (.build [(iV 0), (iV 0)] []), [], none⟩, ⟨none, (.store 2), [(.t 8), (.t 37)], none⟩, ⟨none, (.store 2), [(.t 9), (.t 38)], none⟩, K1 10 .mv (.bool false)]) .ret) .skip)) (.seq (.reg false [⟨(some 13), (.alloc 35 [(iV 0), (iV 0)]), [], none⟩]) (.seq (.reg false [⟨(some 14), (.alloc 37 [(iV 0), (iV 0)]), [], none⟩]) (.seq (.reg false [K1 15 .mv (.bool false)]) (.seq (.seq (.reg false [O1 39 .mv 11, O1 40 .lenS 39, K1 41 .mv (iV 0)]) (.block 0 (.loop x16L0))) (.seq (.regD [O1 79 (.loadN 2) 13, O1 80 (.loadN 2) 14, O1 81 .mv 15, ⟨none, (.store 2), [(.t 8), (.t 79)], none⟩, ⟨none, (.store 2), [(.t 9), (.t 80)], none⟩, O1 10 .mv 81] [[], [], [], [0], [1, 3, 0], [2, 4, 1, 3, 0]]) .ret))))))))), [(.bn 8 2), (.bn 9 2), (.s 10)]⟩
theorem x16_ok : xfn Try.prog Try.f16 = some x16.er := by kernel_rfl
/-- wayfinder/ray.First -/
def g16 : Con := fun args_ E_ nn_ => match args_ with
  | [.a [.v (.int .i64 p_W), .v (.int .i64 p_H), .n p_Cells], .a [.v (.int .i64 at_X), .v (.int .i64 at_Y)], .a [.v (.int .i64 v_X), .v (.int .i64 v_Y), .v (.int .i64 v_D)], .c (.v (.int .i64 most))] => (match rowOf E_ p_Cells with
    | some (p_Cells_n, p_Cells_s, p_Cells_f) => some (.q (isRow eU8 p_Cells_n p_Cells_s p_Cells_f ∧ True) (.t [.a [.v (.int .i64 (bestF (entC at_X at_Y v_X v_Y v_D) (firstO p_W p_H (decL eU8 p_Cells_n p_Cells_f) at_X at_Y v_X v_Y v_D most)).1), .v (.int .i64 (bestF (entC at_X at_Y v_X v_Y v_D) (firstO p_W p_H (decL eU8 p_Cells_n p_Cells_f) at_X at_Y v_X v_Y v_D most)).2)], .a [.v (.int .i64 (bestC (firstO p_W p_H (decL eU8 p_Cells_n p_Cells_f) at_X at_Y v_X v_Y v_D most)).X), .v (.int .i64 (bestC (firstO p_W p_H (decL eU8 p_Cells_n p_Cells_f) at_X at_Y v_X v_Y v_D most)).Y)], .c (.v (.bool (((firstO p_W p_H (decL eU8 p_Cells_n p_Cells_f) at_X at_Y v_X v_Y v_D most)).isSome)))]))
    | none => none)
  | _ => none
set_option maxHeartbeats 1600000 in
theorem c16 : COk Try.prog 16 g16 := by
  refine cok_q Try.func16 x16_ok (by kernel_rfl) (cok_tab (cok_cons c38 (cok_cons c39 (cok_cons c40 (cok_cons c41 (cok_cons c42 cok_nil)))))) ?_
  intro args_ E_ nn_ cr_ hg_
  unfold g16 at hg_
  split at hg_
  · rename_i p_W p_H p_Cells at_X at_Y v_X v_Y v_D most
    split at hg_
    · rename_i p_Cells_n p_Cells_s p_Cells_f h_p_Cells
      cases hg_
      refine ⟨_, _, rfl, 1, [p_Cells], [.a [.v (.int .i64 p_W), .v (.int .i64 p_H), .n 0], .a [.v (.int .i64 at_X), .v (.int .i64 at_Y)], .a [.v (.int .i64 v_X), .v (.int .i64 v_Y), .v (.int .i64 v_D)], .c (.v (.int .i64 most))], [(0, .ro (decL eU8 p_Cells_n p_Cells_f).length eU8.sz (rowF eU8 (decL eU8 p_Cells_n p_Cells_f)))], .t [.a [.v (.int .i64 (bestF (entC at_X at_Y v_X v_Y v_D) (firstO p_W p_H (decL eU8 p_Cells_n p_Cells_f) at_X at_Y v_X v_Y v_D most)).1), .v (.int .i64 (bestF (entC at_X at_Y v_X v_Y v_D) (firstO p_W p_H (decL eU8 p_Cells_n p_Cells_f) at_X at_Y v_X v_Y v_D most)).2)], .a [.v (.int .i64 (bestC (firstO p_W p_H (decL eU8 p_Cells_n p_Cells_f) at_X at_Y v_X v_Y v_D most)).X), .v (.int .i64 (bestC (firstO p_W p_H (decL eU8 p_Cells_n p_Cells_f) at_X at_Y v_X v_Y v_D most)).Y)], .c (.v (.bool (((firstO p_W p_H (decL eU8 p_Cells_n p_Cells_f) at_X at_Y v_X v_Y v_D most)).isSome)))], rfl, rfl, by simp only [push_cast, Nat.reduceLT, Nat.reduceAdd], by simp only [push_cast, Nat.reduceLT, Nat.reduceAdd], by simp only [push_cast, Nat.reduceLT, Nat.reduceAdd], rfl, ⟨inE0_row h_p_Cells, trivial⟩, rfl, ?_⟩
      intro hpre hlen
      obtain ⟨i_p_Cells, hpre⟩ := hpre
      refine ⟨⟨inE_row h_p_Cells i_p_Cells, trivial⟩, ?_⟩
      have z_p_Cells := lens_row (E := eU8) hlen h_p_Cells
      clear i_p_Cells
      generalize decL eU8 p_Cells_n p_Cells_f = p_CellsL at *
      clear h_p_Cells
      simp (config := {maxSteps := 10000000}) only [x16, push_cast, Nat.reduceAdd, Nat.reduceSub, Nat.reduceLeDiff, Nat.reduceEqDiff, Nat.reduceBEq, Nat.reduceMul, Nat.reduceLT, reduceIte, reduceCtorEq, Int.reduceLE, Int.reduceLT, Int.reduceEq, Int.reduceMul, Int.reduceAdd, Int.reduceSub, Int.reduceNeg, Int.reduceToNat, Int.reduceNe, g38, g39, g40, g41, g42]
      refine ⟨fun h => ?_, fun h => ⟨fun h2 => ?_, fun h2 => ?_⟩⟩
      · rw [okF_no (by unfold okF; rw [h]; rfl)]; exact ⟨⟨rfl, rfl⟩, ⟨rfl, rfl⟩, rfl⟩
      · rw [okF_no (by rw [Bool.eq_false_iff]; exact fun h3 => h2 ((okF_of h).1 h3))]; exact ⟨⟨rfl, rfl⟩, ⟨rfl, rfl⟩, rfl⟩
      have hok := (okF_of (L := p_CellsL) h).2 h2
      have hf := first_eq hok
      obtain ⟨g1, g2, g3, g4, g5, g6, g7, g8'⟩ := okF_at hok
      have hT : ∀ c ∈ trL at_X at_Y v_X v_Y v_D 0 most, sqB c.X c.Y = true ∧ hitB at_X at_Y v_X v_Y v_D most c = true := by
        intro c hc
        rw [g8', swL_mem] at hc
        exact tr_at (by omega) g3 g4 hc
      have hTl : (trL at_X at_Y v_X v_Y v_D 0 most).length ≤ 1000000 := by rw [g8']; exact tr_len (by omega) g3 g4
      unfold rayL at hf
      rw [← hf]
      clear hf g7 g8'
      generalize trL at_X at_Y v_X v_Y v_D 0 most = T at *
      refine vcLoop_upd (α := {k : Nat // k ≤ T.length}) [4, 5, 6, 8, 9, 13, 14, 39, 40] 0 (fun s => [(15, .o (.c (.v (.bool ((pickL (ltK at_X at_Y v_X v_Y v_D) (takeW p_W p_H p_CellsL T s.1)).isSome))))), (41, .o (.c (.v (.int .i64 (s.1 : Nat)))))]) (fun s => [(7, .box [.v (.int .i64 (bestF (entC at_X at_Y v_X v_Y v_D) (pickL (ltK at_X at_Y v_X v_Y v_D) (takeW p_W p_H p_CellsL T s.1))).1), .v (.int .i64 (bestF (entC at_X at_Y v_X v_Y v_D) (pickL (ltK at_X at_Y v_X v_Y v_D) (takeW p_W p_H p_CellsL T s.1))).2)] 35), (8, .box [.v (.int .i64 (bestC (pickL (ltK at_X at_Y v_X v_Y v_D) (takeW p_W p_H p_CellsL T s.1))).X), .v (.int .i64 (bestC (pickL (ltK at_X at_Y v_X v_Y v_D) (takeW p_W p_H p_CellsL T s.1))).Y)] 37)]) (fun s => T.length - s.1) ⟨0, by omega⟩ ?_ ?_
      · simp only [push_cast, Nat.reduceAdd, Nat.reduceSub, Nat.reduceLeDiff, Nat.reduceEqDiff, Nat.reduceBEq, Nat.reduceMul, Nat.reduceLT, reduceIte, reduceCtorEq, Int.reduceLE, Int.reduceLT, Int.reduceEq, Int.reduceMul, Int.reduceAdd, Int.reduceSub, Int.reduceNeg, Int.reduceToNat, Int.reduceNe, g38, g39, g40, g41, g42]
        exact ⟨rfl, ⟨rfl, rfl⟩, rfl, rfl⟩
      rintro ⟨k, hk⟩
      by_cases hlt : k < T.length
      · obtain ⟨hq, hh⟩ := hT _ (getD_in hlt)
        have hb := hit_bd g4 hh
        have ht : thrB at_X at_Y v_X v_Y v_D ((T.getD k eC.dflt).X * 64) ((T.getD k eC.dflt).Y * 64) ((T.getD k eC.dflt).X * 64 + 64) ((T.getD k eC.dflt).Y * 64 + 64) = true := by unfold hitB at hh; rw [Bool.and_eq_true] at hh; exact hh.1
        have hK : entF at_X at_Y v_X v_Y v_D ((T.getD k eC.dflt).X * 64) ((T.getD k eC.dflt).Y * 64) ((T.getD k eC.dflt).X * 64 + 64) ((T.getD k eC.dflt).Y * 64 + 64) = entC at_X at_Y v_X v_Y v_D (T.getD k eC.dflt) := rfl
        cases hw : wallB p_W p_H p_CellsL (T.getD k eC.dflt)
        · have hw' : ¬ atB p_W p_H p_CellsL (T.getD k eC.dflt).X (T.getD k eC.dflt).Y = 2 := by unfold wallB at hw; rw [decide_eq_false_iff_not] at hw; exact hw
          simp only [x16L0, hlt, hw', push_cast, Nat.reduceAdd, Nat.reduceSub, Nat.reduceLeDiff, Nat.reduceEqDiff, Nat.reduceBEq, Nat.reduceMul, Nat.reduceLT, reduceIte, reduceCtorEq, Int.reduceLE, Int.reduceLT, Int.reduceEq, Int.reduceMul, Int.reduceAdd, Int.reduceSub, Int.reduceNeg, Int.reduceToNat, Int.reduceNe, g38, g39, g40, g41, g42]
          refine ⟨⟨k + 1, by omega⟩, ?_, by simp only; omega⟩
          simp only
          rw [takeW_no hlt hw]
          exact ⟨⟨rfl, wrapI (by omega) (by omega)⟩, ⟨rfl, rfl⟩, rfl, rfl⟩
        · have hw' : atB p_W p_H p_CellsL (T.getD k eC.dflt).X (T.getD k eC.dflt).Y = 2 := by unfold wallB at hw; rw [decide_eq_true_eq] at hw; exact hw
          cases ho : pickL (ltK at_X at_Y v_X v_Y v_D) (takeW p_W p_H p_CellsL T k) with
          | none =>
            simp only [x16L0, hlt, hw', hq, ht, hK, ho, mI_t, bestF, bestC, Option.isSome_none, Option.isSome_some, push_cast, Nat.reduceAdd, Nat.reduceSub, Nat.reduceLeDiff, Nat.reduceEqDiff, Nat.reduceBEq, Nat.reduceMul, Nat.reduceLT, reduceIte, reduceCtorEq, Int.reduceLE, Int.reduceLT, Int.reduceEq, Int.reduceMul, Int.reduceAdd, Int.reduceSub, Int.reduceNeg, Int.reduceToNat, Int.reduceNe, g38, g39, g40, g41, g42]
            have e : pickL (ltK at_X at_Y v_X v_Y v_D) (takeW p_W p_H p_CellsL T (k + 1)) = some (T.getD k eC.dflt) := by rw [takeW_yes hlt hw, pickL_snoc, ho]; rfl
            refine ⟨by rfl, ⟨k + 1, by omega⟩, ?_, by simp only; omega⟩
            simp only [e]
            exact ⟨⟨rfl, wrapI (by omega) (by omega)⟩, ⟨trivial, trivial⟩, trivial, trivial⟩
          | some b =>
            have hbb := hit_bd g4 (hT _ (takeW_mem (pick_mem ho))).2
            simp only [x16L0, hlt, hw', hq, ht, hK, ho, mI_t, bestF, bestC, Option.isSome_none, Option.isSome_some, push_cast, Nat.reduceAdd, Nat.reduceSub, Nat.reduceLeDiff, Nat.reduceEqDiff, Nat.reduceBEq, Nat.reduceMul, Nat.reduceLT, reduceIte, reduceCtorEq, Int.reduceLE, Int.reduceLT, Int.reduceEq, Int.reduceMul, Int.reduceAdd, Int.reduceSub, Int.reduceNeg, Int.reduceToNat, Int.reduceNe, g38, g39, g40, g41, g42]
            have m1 := prod_bd (e := (entC at_X at_Y v_X v_Y v_D b).2) hb.1.1 hb.1.2 hb.2.1 hb.2.2 hbb.1.2
            have m2 := prod_bd (e := (entC at_X at_Y v_X v_Y v_D (T.getD k eC.dflt)).2) hbb.1.1 hbb.1.2 hbb.2.1 hbb.2.2 hb.1.2
            rw [wrapI (by omega) m1.2, wrapI (by omega) m2.2]
            refine ⟨fun hl => ?_, fun hl => ?_⟩
            · have e : pickL (ltK at_X at_Y v_X v_Y v_D) (takeW p_W p_H p_CellsL T (k + 1)) = some (T.getD k eC.dflt) := by rw [takeW_yes hlt hw, pickL_snoc, ho]; exact if_pos (decide_eq_true hl)
              refine ⟨by rfl, ⟨k + 1, by omega⟩, ?_, by simp only; omega⟩
              simp only [e]
              exact ⟨⟨rfl, wrapI (by omega) (by omega)⟩, ⟨trivial, trivial⟩, trivial, trivial⟩
            · have e : pickL (ltK at_X at_Y v_X v_Y v_D) (takeW p_W p_H p_CellsL T (k + 1)) = some b := by rw [takeW_yes hlt hw, pickL_snoc, ho]; exact if_neg (by unfold ltK; rw [decide_eq_true_eq]; exact hl)
              refine ⟨⟨k + 1, by omega⟩, ?_, by simp only; omega⟩
              simp only [e]
              exact ⟨⟨rfl, wrapI (by omega) (by omega)⟩, ⟨trivial, trivial⟩, trivial, trivial⟩
      · simp only [x16L0, hlt, push_cast, Nat.reduceAdd, Nat.reduceSub, Nat.reduceLeDiff, Nat.reduceEqDiff, Nat.reduceBEq, Nat.reduceMul, Nat.reduceLT, reduceIte, reduceCtorEq, Int.reduceLE, Int.reduceLT, Int.reduceEq, Int.reduceMul, Int.reduceAdd, Int.reduceSub, Int.reduceNeg, Int.reduceToNat, Int.reduceNe, g38, g39, g40, g41, g42]
        rw [takeW_all (by omega)]
        exact ⟨by rfl, ⟨rfl, rfl⟩, ⟨rfl, rfl⟩, rfl⟩
    · cases hg_
  · cases hg_
end Go.Proofs.Ytpnpbbagonknjaa
set_option linter.unusedVariables false
set_option linter.unusedSimpArgs false
set_option maxRecDepth 20000
namespace Go.Proofs.Ytpnpbbagonknjaa
open Go.Sx Go.Way
theorem ent_bd {px py vx vy vd : Int} {c : CC} (h : thrB px py vx vy vd (c.X * 64) (c.Y * 64) (c.X * 64 + 64) (c.Y * 64 + 64) = true) : (0 ≤ (entC px py vx vy vd c).1 ∧ (entC px py vx vy vd c).1 ≤ 562949953421312) ∧ 1 ≤ (entC px py vx vy vd c).2 ∧ (entC px py vx vy vd c).2 ≤ 67108864 := by
  have b := thr_nn h
  have p := entC_pos px py vx vy vd c
  have m := mulB (a := (thrL px py vx vy (c.X * 64) (c.Y * 64) (c.X * 64 + 64) (c.Y * 64 + 64)).1) (b := vd) (A := 8388608) (B := 67108864) (by omega) (by omega) (by omega) (by omega)
  have e1 : 0 ≤ (entC px py vx vy vd c).1 := low_nn (Int.mul_nonneg b.1.1 (by omega))
  have e2 : (entC px py vx vy vd c).2 ≤ 67108864 := (low_bd (by omega) b.2.1.2).2
  have hg : ∀ n d : Int, 0 < d → (1 : Int) ≤ (Int.gcd n d : Int) := fun n d hd => by
    have : Int.gcd n d ≠ 0 := fun h => by rw [Int.gcd_eq_zero_iff] at h; omega
    omega
  have e3 : (entC px py vx vy vd c).1 ≤ 562949953421312 := (divB (hg _ _ (show 0 < (thrL px py vx vy (c.X * 64) (c.Y * 64) (c.X * 64 + 64) (c.Y * 64 + 64)).2 by omega)) (show -562949953421312 ≤ _ by omega) (show _ ≤ (562949953421312 : Int) by omega)).2
  exact ⟨⟨e1, e3⟩, by omega, e2⟩
def upR (W H : Int) (L : List Int) (px py vx vy vd most : Int) (j : Nat) : List CC := gridUp (refP W H L px py vx vy vd most) (-1) (W + 2).toNat (-1) j
def rowR (W H : Int) (L : List Int) (px py vx vy vd most : Int) (j i : Nat) : List CC := upR W H L px py vx vy vd most j ++ gridRow (refP W H L px py vx vy vd most) (-1) (-1 + (j : Int)) i
theorem rowR_yes {W H : Int} {L : List Int} {px py vx vy vd most : Int} {j i : Nat} (h : refP W H L px py vx vy vd most (-1 + (i : Int)) (-1 + (j : Int)) = true) : rowR W H L px py vx vy vd most j (i + 1) = rowR W H L px py vx vy vd most j i ++ [⟨-1 + (i : Int), -1 + (j : Int)⟩] := by
  unfold rowR; rw [gridRow_yes h, List.append_assoc]
theorem rowR_no {W H : Int} {L : List Int} {px py vx vy vd most : Int} {j i : Nat} (h : refP W H L px py vx vy vd most (-1 + (i : Int)) (-1 + (j : Int)) = false) : rowR W H L px py vx vy vd most j (i + 1) = rowR W H L px py vx vy vd most j i := by
  unfold rowR; rw [gridRow_no h]
theorem rowR_zero {W H : Int} {L : List Int} {px py vx vy vd most : Int} {j : Nat} : rowR W H L px py vx vy vd most j 0 = upR W H L px py vx vy vd most j := by
  unfold rowR; rw [gridRow_zero, List.append_nil]
theorem rowR_all {W H : Int} {L : List Int} {px py vx vy vd most : Int} {j i : Nat} (h : (i : Int) = W + 2) : rowR W H L px py vx vy vd most j i = upR W H L px py vx vy vd most (j + 1) := by
  have : (W + 2).toNat = i := by omega
  unfold rowR upR; rw [gridUp_succ, this]
theorem upR_all {W H : Int} {L : List Int} {px py vx vy vd most : Int} {j : Nat} (h : (j : Int) = H + 2) : upR W H L px py vx vy vd most j = refL W H L px py vx vy vd most := by
  have e1 : (W - -1 + 1).toNat = (W + 2).toNat := by omega
  have e2 : (H - -1 + 1).toNat = j := by omega
  unfold upR refL gridL
  rw [e1, e2]
theorem rowR_mem {W H : Int} {L : List Int} {px py vx vy vd most : Int} {j i : Nat} {c : CC} (h : c ∈ rowR W H L px py vx vy vd most j i) : hitB px py vx vy vd most c = true := by
  unfold rowR upR at h
  rcases List.mem_append.1 h with h | h
  · have := (gridUp_mem.1 h).1
    unfold refP at this
    rw [Bool.and_eq_true] at this
    exact this.2
  · have := (gridRow_mem.1 h).1
    unfold refP at this
    rw [Bool.and_eq_true] at this
    exact this.2
def x18L0 : XC := (.seq (.seq (.reg false [O1 46 .mv 15, O1 47 (.fld 0) 4, O1 48 .load1 47, O2 49 (.bin .leq) 46 48]) (.cond (.t 49) .skip (.exit 2))) (.seq (.block 3 (.seq (.reg false [O1 52 .mv 15, O1 53 .mv 14, ⟨(some 54), (.build [(iV 0), (iV 0)] [(0, 1), (1, 1)]), [(.t 52), (.t 53)], none⟩, ⟨(some 16), (.alloc 37 [(iV 0), (iV 0)]), [], none⟩, ⟨none, (.store 2), [(.t 16), (.t 54)], none⟩]) (.seq (.seq (.reg false [O1 55 (.loadN 3) 4, O1 56 (.loadN 2) 16, O2 57 (.call 22) 55 56, K2 58 (.bin .neq) 57 (.int .u8 2)]) (.cond (.t 58) (.exit 3) .skip)) (.seq (.regD [O1 60 (.loadN 2) 5, O1 61 (.loadN 3) 6, O1 62 (.loadN 2) 16, O1 63 (.call 45) 62, ⟨(some 64), (.call 44), [(.t 60), (.t 61), (.t 63)], none⟩, O1 59 .mv 64, O1 65 (.ext 0) 59, O1 66 (.ext 1) 59, ⟨(some 17), (.alloc 35 [(iV 0), (iV 0)]), [], none⟩, ⟨none, (.store 2), [(.t 17), (.t 65)], none⟩, O1 18 .mv 66] [[], [], [], [2], [0, 1, 3, 2], [4, 0, 1, 3, 2], [5, 4, 0, 1, 3, 2], [5, 4, 0, 1, 3, 2], [], [8, 6, 5, 4, 0, 1, 3, 2], [7, 5, 4, 0, 1, 3, 2, 9, 8, 6]]) (.seq (.reg false [O1 67 .mv 18, O1 68 .mv 67, G1 69 .mv 3 68 true, ⟨(some 70), (.build [(iV 0), (iV 0)] [(0, 1), (1, 1)]), [(.t 69), (.k (iV 1))], (some (68, true))⟩, G1 71 (.loadN 2) 17 68 true, G2 72 (.call 35) 70 71 68 true, G1 73 (.un .not) 72 68 true, ⟨(some 74), .pick, [(.t 68), (.t 73), (.k (.bool false))], none⟩, O1 75 .mv 74, G1 76 .mv 13 75 true, G1 77 (.un .not) 76 75 true, G1 78 .mv 77 75 true, G1 79 (.loadN 2) 17 78 false, G1 80 (.loadN 2) 11 78 false, G2 81 (.call 35) 79 80 78 false, ⟨(some 82), .pick, [(.t 78), (.k (.bool true)), (.t 81)], (some (75, true))⟩, ⟨(some 83), .pick, [(.t 75), (.t 82), (.k (.bool false))], none⟩]) (.cond (.t 83) (.seq (.reg false [O1 84 (.loadN 2) 17, ⟨none, (.store 2), [(.t 11), (.t 84)], none⟩]) (.seq (.reg false [O1 85 (.loadN 2) 16, ⟨none, (.store 2), [(.t 12), (.t 85)], none⟩]) (.reg false [K1 13 .mv (.bool true)]))) .skip)))))) (.reg false [O1 50 .mv 15, K2 51 (.bin .add) 50 (iV 1), O1 15 .mv 51])))
def x18L1 : XC := (.seq (.seq (.reg false [O1 40 .mv 14, O1 41 (.fld 1) 4, O1 42 .load1 41, O2 43 (.bin .leq) 40 42]) (.cond (.t 43) .skip (.exit 0))) (.seq (.block 1 (.seq (.reg false [K1 15 .mv (iV (-1))]) (.block 2 (.loop x18L0)))) (.reg false [O1 44 .mv 14, K2 45 (.bin .add) 44 (iV 1), O1 14 .mv 45])))
def x18 : XFn := ⟨89, (.seq (.reg false [O1 4 (.box 24) 0, O1 5 (.box 40) 1, O1 6 (.box 32) 2, ⟨(some 8), (.alloc 35 [(iV 0), (iV 0)]), [], none⟩, ⟨(some 9), (.alloc 37 [(iV 0), (iV 0)]), [], none⟩, K1 10 .mv (.bool false)]) (.seq (.reg false [⟨(some 19), (.build [(iV 0), (iV 0)] []), [], none⟩, ⟨(some 11), (.alloc 35 [(iV 0), (iV 0)]), [], none⟩, ⟨none, (.store 2), [(.t 11), (.t 19)], none⟩]) (.seq (.reg false [⟨(some 20), (.build [(iV 0), (iV 0)] []), [], none⟩, ⟨(some 12), (.alloc 37 [(iV 0), (iV 0)]), [], none⟩, ⟨none, (.store 2), [(.t 12), (.t 20)], none⟩]) (.seq (.reg false [K1 13 .mv (.bool false)]) (.seq (.seq (.reg false [O1 21 (.loadN 3) 4, O1 22 (.loadN 2) 5, O2 23 (.call 21) 21 22, O1 24 (.un .not) 23, O1 25 .mv 24, G1 26 (.loadN 3) 6 25 false, G1 27 (.call 43) 26 25 false, G1 28 (.un .not) 27 25 false, ⟨(some 29), .pick, [(.t 25), (.k (.bool true)), (.t 28)], none⟩, O1 30 .mv 29, G1 31 .mv 3 30 false, GK 32 (.bin .lss) 31 (iV 0) 30 false, ⟨(some 33), .pick, [(.t 30), (.k (.bool true)), (.t 32)], none⟩, O1 34 .mv 33, G1 35 .mv 3 34 false, GK 36 (.bin .gtr) 35 (iV 2048) 34 false, ⟨(some 37), .pick, [(.t 34), (.k (.bool true)), (.t 36)], none⟩]) (.cond (.t 37) (.seq (.regD [O1 38 (.loadN 2) 11, O1 39 (.loadN 2) 12, ⟨none, (.store 2), [(.t 8), (.t 38)], none⟩, ⟨none, (.store 2), [(.t 9), (.t 39)], none⟩, K1 10 .mv (.bool false)] [[], [], [0], [1, 2, 0], [3, 1, 2, 0]]) .ret) .skip)) (.seq (.seq (.reg false [K1 14 .mv (iV (-1))]) (.block 0 (.loop x18L1))) (.seq (.regD [O1 86 (.loadN 2) 11, O1 87 (.loadN 2) 12, O1 88 .mv 13, ⟨none, (.store 2), [(.t 8), (.t 86)], none⟩, ⟨none, (.store 2), [(.t 9), (.t 87)], none⟩, O1 10 .mv 88] [[], [], [], [0], [1, 3, 0], [2, 4, 1, 3, 0]]) .ret))))))), [(.bn 8 2), (.bn 9 2), (.s 10)]⟩
theorem x18_ok : xfn Try.prog Try.f18 = some x18.er := by kernel_rfl
/-- wayfinder/wayfinderref10.First -/
def g18 : Con := fun args_ E_ nn_ => match args_ with
  | [.a [.v (.int .i64 p_W), .v (.int .i64 p_H), .n p_Cells], .a [.v (.int .i64 at_X), .v (.int .i64 at_Y)], .a [.v (.int .i64 v_X), .v (.int .i64 v_Y), .v (.int .i64 v_D)], .c (.v (.int .i64 most))] => (match rowOf E_ p_Cells with
    | some (p_Cells_n, p_Cells_s, p_Cells_f) => some (.q (isRow eU8 p_Cells_n p_Cells_s p_Cells_f ∧ True) (.t [.a [.v (.int .i64 (bestF (entC at_X at_Y v_X v_Y v_D) (firstO p_W p_H (decL eU8 p_Cells_n p_Cells_f) at_X at_Y v_X v_Y v_D most)).1), .v (.int .i64 (bestF (entC at_X at_Y v_X v_Y v_D) (firstO p_W p_H (decL eU8 p_Cells_n p_Cells_f) at_X at_Y v_X v_Y v_D most)).2)], .a [.v (.int .i64 (bestC (firstO p_W p_H (decL eU8 p_Cells_n p_Cells_f) at_X at_Y v_X v_Y v_D most)).X), .v (.int .i64 (bestC (firstO p_W p_H (decL eU8 p_Cells_n p_Cells_f) at_X at_Y v_X v_Y v_D most)).Y)], .c (.v (.bool (((firstO p_W p_H (decL eU8 p_Cells_n p_Cells_f) at_X at_Y v_X v_Y v_D most)).isSome)))]))
    | none => none)
  | _ => none
set_option maxHeartbeats 1600000 in
theorem c18 : COk Try.prog 18 g18 := by
  refine cok_q Try.func18 x18_ok (by kernel_rfl) (cok_tab (cok_cons c21 (cok_cons c43 (cok_cons c22 (cok_cons c45 (cok_cons c44 (cok_cons c35 cok_nil))))))) ?_
  intro args_ E_ nn_ cr_ hg_
  unfold g18 at hg_
  split at hg_
  · rename_i p_W p_H p_Cells at_X at_Y v_X v_Y v_D most
    split at hg_
    · rename_i p_Cells_n p_Cells_s p_Cells_f h_p_Cells
      cases hg_
      refine ⟨_, _, rfl, 1, [p_Cells], [.a [.v (.int .i64 p_W), .v (.int .i64 p_H), .n 0], .a [.v (.int .i64 at_X), .v (.int .i64 at_Y)], .a [.v (.int .i64 v_X), .v (.int .i64 v_Y), .v (.int .i64 v_D)], .c (.v (.int .i64 most))], [(0, .ro (decL eU8 p_Cells_n p_Cells_f).length eU8.sz (rowF eU8 (decL eU8 p_Cells_n p_Cells_f)))], .t [.a [.v (.int .i64 (bestF (entC at_X at_Y v_X v_Y v_D) (firstO p_W p_H (decL eU8 p_Cells_n p_Cells_f) at_X at_Y v_X v_Y v_D most)).1), .v (.int .i64 (bestF (entC at_X at_Y v_X v_Y v_D) (firstO p_W p_H (decL eU8 p_Cells_n p_Cells_f) at_X at_Y v_X v_Y v_D most)).2)], .a [.v (.int .i64 (bestC (firstO p_W p_H (decL eU8 p_Cells_n p_Cells_f) at_X at_Y v_X v_Y v_D most)).X), .v (.int .i64 (bestC (firstO p_W p_H (decL eU8 p_Cells_n p_Cells_f) at_X at_Y v_X v_Y v_D most)).Y)], .c (.v (.bool (((firstO p_W p_H (decL eU8 p_Cells_n p_Cells_f) at_X at_Y v_X v_Y v_D most)).isSome)))], rfl, rfl, by simp only [push_cast, Nat.reduceLT, Nat.reduceAdd], by simp only [push_cast, Nat.reduceLT, Nat.reduceAdd], by simp only [push_cast, Nat.reduceLT, Nat.reduceAdd], rfl, ⟨inE0_row h_p_Cells, trivial⟩, rfl, ?_⟩
      intro hpre hlen
      obtain ⟨i_p_Cells, hpre⟩ := hpre
      refine ⟨⟨inE_row h_p_Cells i_p_Cells, trivial⟩, ?_⟩
      have z_p_Cells := lens_row (E := eU8) hlen h_p_Cells
      clear i_p_Cells
      generalize decL eU8 p_Cells_n p_Cells_f = p_CellsL at *
      clear h_p_Cells
      simp (config := {maxSteps := 10000000}) only [x18, push_cast, Nat.reduceAdd, Nat.reduceSub, Nat.reduceLeDiff, Nat.reduceEqDiff, Nat.reduceBEq, Nat.reduceMul, Nat.reduceLT, reduceIte, reduceCtorEq, Int.reduceLE, Int.reduceLT, Int.reduceEq, Int.reduceMul, Int.reduceAdd, Int.reduceSub, Int.reduceNeg, Int.reduceToNat, Int.reduceNe, g21, g43, g22, g45, g44, g35]
      refine ⟨fun h => ?_, fun h1 h2 h3 h4 => ?_⟩
      · rw [okF_no]
        · exact ⟨by rfl, ⟨rfl, rfl⟩, ⟨rfl, rfl⟩, rfl⟩
        · rw [Bool.eq_false_iff]
          intro k
          simp only [okF, okR, Bool.and_eq_true, decide_eq_true_eq] at k
          rcases h with ((h | h) | h) | h
          · rw [k.1.1] at h; cases h
          · rw [k.1.2] at h; cases h
          · omega
          · omega
      have hok : okF p_W p_H p_CellsL at_X at_Y v_X v_Y v_D most = true := by unfold okF okR; rw [h1, h2]; simp; omega
      obtain ⟨g1, g2, g3, g4, g5, g6, _, _⟩ := okF_at hok
      unfold firstO
      rw [if_pos hok]
      refine vcLoop_upd (α := {j : Nat // (j : Int) ≤ p_H + 2}) [3, 4, 5, 6, 8, 9, 11, 12] 0 (fun s => [(13, .o (.c (.v (.bool ((pickL (ltK at_X at_Y v_X v_Y v_D) (upR p_W p_H p_CellsL at_X at_Y v_X v_Y v_D most s.1)).isSome))))), (14, .o (.c (.v (.int .i64 (-1 + (s.1 : Nat))))))]) (fun s => [(6, .box [.v (.int .i64 (bestF (entC at_X at_Y v_X v_Y v_D) (pickL (ltK at_X at_Y v_X v_Y v_D) (upR p_W p_H p_CellsL at_X at_Y v_X v_Y v_D most s.1))).1), .v (.int .i64 (bestF (entC at_X at_Y v_X v_Y v_D) (pickL (ltK at_X at_Y v_X v_Y v_D) (upR p_W p_H p_CellsL at_X at_Y v_X v_Y v_D most s.1))).2)] 35), (7, .box [.v (.int .i64 (bestC (pickL (ltK at_X at_Y v_X v_Y v_D) (upR p_W p_H p_CellsL at_X at_Y v_X v_Y v_D most s.1))).X), .v (.int .i64 (bestC (pickL (ltK at_X at_Y v_X v_Y v_D) (upR p_W p_H p_CellsL at_X at_Y v_X v_Y v_D most s.1))).Y)] 37)]) (fun s => (p_H + 2).toNat - s.1) ⟨0, by omega⟩ ?_ ?_
      · simp only [push_cast, Nat.reduceAdd, Nat.reduceSub, Nat.reduceLeDiff, Nat.reduceEqDiff, Nat.reduceBEq, Nat.reduceMul, Nat.reduceLT, reduceIte, reduceCtorEq, Int.reduceLE, Int.reduceLT, Int.reduceEq, Int.reduceMul, Int.reduceAdd, Int.reduceSub, Int.reduceNeg, Int.reduceToNat, Int.reduceNe, g21, g43, g22, g45, g44, g35]
        exact ⟨rfl, ⟨rfl, rfl⟩, rfl, rfl⟩
      rintro ⟨j, hj⟩
      simp only [x18L1, push_cast, Nat.reduceAdd, Nat.reduceSub, Nat.reduceLeDiff, Nat.reduceEqDiff, Nat.reduceBEq, Nat.reduceMul, Nat.reduceLT, reduceIte, reduceCtorEq, Int.reduceLE, Int.reduceLT, Int.reduceEq, Int.reduceMul, Int.reduceAdd, Int.reduceSub, Int.reduceNeg, Int.reduceToNat, Int.reduceNe, g21, g43, g22, g45, g44, g35]
      refine ⟨fun hlt => ?_, fun hge => ?_⟩
      · refine vcLoop_upd (α := {i : Nat // (i : Int) ≤ p_W + 2}) [3, 4, 5, 6, 8, 9, 11, 12, 14] 0 (fun s => [(13, .o (.c (.v (.bool ((pickL (ltK at_X at_Y v_X v_Y v_D) (rowR p_W p_H p_CellsL at_X at_Y v_X v_Y v_D most j s.1)).isSome))))), (15, .o (.c (.v (.int .i64 (-1 + (s.1 : Nat))))))]) (fun s => [(6, .box [.v (.int .i64 (bestF (entC at_X at_Y v_X v_Y v_D) (pickL (ltK at_X at_Y v_X v_Y v_D) (rowR p_W p_H p_CellsL at_X at_Y v_X v_Y v_D most j s.1))).1), .v (.int .i64 (bestF (entC at_X at_Y v_X v_Y v_D) (pickL (ltK at_X at_Y v_X v_Y v_D) (rowR p_W p_H p_CellsL at_X at_Y v_X v_Y v_D most j s.1))).2)] 35), (7, .box [.v (.int .i64 (bestC (pickL (ltK at_X at_Y v_X v_Y v_D) (rowR p_W p_H p_CellsL at_X at_Y v_X v_Y v_D most j s.1))).X), .v (.int .i64 (bestC (pickL (ltK at_X at_Y v_X v_Y v_D) (rowR p_W p_H p_CellsL at_X at_Y v_X v_Y v_D most j s.1))).Y)] 37)]) (fun s => (p_W + 2).toNat - s.1) ⟨0, by omega⟩ ?_ ?_
        · simp only [push_cast, Nat.reduceAdd, Nat.reduceSub, Nat.reduceLeDiff, Nat.reduceEqDiff, Nat.reduceBEq, Nat.reduceMul, Nat.reduceLT, reduceIte, reduceCtorEq, Int.reduceLE, Int.reduceLT, Int.reduceEq, Int.reduceMul, Int.reduceAdd, Int.reduceSub, Int.reduceNeg, Int.reduceToNat, Int.reduceNe, g21, g43, g22, g45, g44, g35, rowR_zero]
        rintro ⟨i, hi⟩
        by_cases hlt2 : -1 + (i : Int) ≤ p_W
        · cases hw : wallB p_W p_H p_CellsL ⟨-1 + (i : Int), -1 + (j : Int)⟩
          · have hw' : ¬ atB p_W p_H p_CellsL (-1 + (i : Int)) (-1 + (j : Int)) = 2 := by unfold wallB at hw; rw [decide_eq_false_iff_not] at hw; exact hw
            simp only [x18L0, hlt2, hw', g1, push_cast, Nat.reduceAdd, Nat.reduceSub, Nat.reduceLeDiff, Nat.reduceEqDiff, Nat.reduceBEq, Nat.reduceMul, Nat.reduceLT, reduceIte, reduceCtorEq, Int.reduceLE, Int.reduceLT, Int.reduceEq, Int.reduceMul, Int.reduceAdd, Int.reduceSub, Int.reduceNeg, Int.reduceToNat, Int.reduceNe, g21, g43, g22, g45, g44, g35]
            have hr : refP p_W p_H p_CellsL at_X at_Y v_X v_Y v_D most (-1 + (i : Int)) (-1 + (j : Int)) = false := by unfold refP; rw [hw]; rfl
            refine ⟨⟨i + 1, by omega⟩, ?_, by simp only; omega⟩
            simp only
            rw [rowR_no hr]
            exact ⟨⟨rfl, by rw [wrapI (by omega) (by omega)]; omega⟩, ⟨rfl, rfl⟩, rfl, rfl⟩
          · have hw' : atB p_W p_H p_CellsL (-1 + (i : Int)) (-1 + (j : Int)) = 2 := by unfold wallB at hw; rw [decide_eq_true_eq] at hw; exact hw
            cases ht : thrB at_X at_Y v_X v_Y v_D ((-1 + (i : Int)) * 64) ((-1 + (j : Int)) * 64) ((-1 + (i : Int)) * 64 + 64) ((-1 + (j : Int)) * 64 + 64)
            · have eo : okT at_X at_Y v_X v_Y v_D ((-1 + (i : Int)) * 64) ((-1 + (j : Int)) * 64) ((-1 + (i : Int)) * 64 + 64) ((-1 + (j : Int)) * 64 + 64) = false := (ok_thr ..).trans ht
              have hr : refP p_W p_H p_CellsL at_X at_Y v_X v_Y v_D most (-1 + (i : Int)) (-1 + (j : Int)) = false := by unfold refP hitB; simp only; rw [hw, ht]; rfl
              simp only [x18L0, hlt2, hw', g1, eo, mI_f, push_cast, Nat.reduceAdd, Nat.reduceSub, Nat.reduceLeDiff, Nat.reduceEqDiff, Nat.reduceBEq, Nat.reduceMul, Nat.reduceLT, reduceIte, reduceCtorEq, Int.reduceLE, Int.reduceLT, Int.reduceEq, Int.reduceMul, Int.reduceAdd, Int.reduceSub, Int.reduceNeg, Int.reduceToNat, Int.reduceNe, g21, g43, g22, g45, g44, g35]
              refine ⟨by omega, by rfl, ⟨i + 1, by omega⟩, ?_, by simp only; omega⟩
              simp only
              rw [rowR_no hr]
              exact ⟨⟨rfl, by rw [wrapI (by omega) (by omega)]; omega⟩, ⟨rfl, rfl⟩, rfl, rfl⟩
            · have eo : okT at_X at_Y v_X v_Y v_D ((-1 + (i : Int)) * 64) ((-1 + (j : Int)) * 64) ((-1 + (i : Int)) * 64 + 64) ((-1 + (j : Int)) * 64 + 64) = true := (ok_thr ..).trans ht
              have el : lowF ((timR at_X at_Y v_X v_Y ((-1 + (i : Int)) * 64) ((-1 + (j : Int)) * 64) ((-1 + (i : Int)) * 64 + 64) ((-1 + (j : Int)) * 64 + 64)).a * v_D) (timR at_X at_Y v_X v_Y ((-1 + (i : Int)) * 64) ((-1 + (j : Int)) * 64) ((-1 + (i : Int)) * 64 + 64) ((-1 + (j : Int)) * 64 + 64)).b = entC at_X at_Y v_X v_Y v_D ⟨-1 + (i : Int), -1 + (j : Int)⟩ := ent_low ht
              have hb := ent_bd (c := ⟨-1 + (i : Int), -1 + (j : Int)⟩) ht
              have hr : refP p_W p_H p_CellsL at_X at_Y v_X v_Y v_D most (-1 + (i : Int)) (-1 + (j : Int)) = decide ((entC at_X at_Y v_X v_Y v_D ⟨-1 + (i : Int), -1 + (j : Int)⟩).1 ≤ most * (entC at_X at_Y v_X v_Y v_D ⟨-1 + (i : Int), -1 + (j : Int)⟩).2) := by unfold refP hitB; simp only; rw [hw, ht]; rfl
              cases ho : pickL (ltK at_X at_Y v_X v_Y v_D) (rowR p_W p_H p_CellsL at_X at_Y v_X v_Y v_D most j i) with
              | none =>
                simp only [x18L0, hlt2, hw', g1, eo, el, ho, mI_t, bestF, bestC, Option.isSome_none, Option.isSome_some, push_cast, Nat.reduceAdd, Nat.reduceSub, Nat.reduceLeDiff, Nat.reduceEqDiff, Nat.reduceBEq, Nat.reduceMul, Nat.reduceLT, reduceIte, reduceCtorEq, Int.reduceLE, Int.reduceLT, Int.reduceEq, Int.reduceMul, Int.reduceAdd, Int.reduceSub, Int.reduceNeg, Int.reduceToNat, Int.reduceNe, g21, g43, g22, g45, g44, g35]
                refine ⟨by omega, by rfl, by omega, fun hm => ?_, fun hm => ?_⟩
                · have e : pickL (ltK at_X at_Y v_X v_Y v_D) (rowR p_W p_H p_CellsL at_X at_Y v_X v_Y v_D most j (i + 1)) = some (⟨-1 + (i : Int), -1 + (j : Int)⟩ : CC) := by rw [rowR_yes (hr.trans (decide_eq_true (by omega))), pickL_snoc, ho]; rfl
                  refine ⟨⟨i + 1, by omega⟩, ?_, by simp only; omega⟩
                  simp only [e]
                  exact ⟨⟨rfl, by rw [wrapI (by omega) (by omega)]; omega⟩, ⟨trivial, trivial⟩, trivial, trivial⟩
                · have e : pickL (ltK at_X at_Y v_X v_Y v_D) (rowR p_W p_H p_CellsL at_X at_Y v_X v_Y v_D most j (i + 1)) = none := by rw [rowR_no (hr.trans (decide_eq_false (by omega))), ho]
                  refine ⟨⟨i + 1, by omega⟩, ?_, by simp only; omega⟩
                  simp only [e]
                  exact ⟨⟨rfl, by rw [wrapI (by omega) (by omega)]; omega⟩, ⟨trivial, trivial⟩, trivial, trivial⟩
              | some b =>
                have hbb := hit_bd g4 (rowR_mem (pick_mem ho))
                simp only [x18L0, hlt2, hw', g1, eo, el, ho, mI_t, bestF, bestC, Option.isSome_none, Option.isSome_some, push_cast, Nat.reduceAdd, Nat.reduceSub, Nat.reduceLeDiff, Nat.reduceEqDiff, Nat.reduceBEq, Nat.reduceMul, Nat.reduceLT, reduceIte, reduceCtorEq, Int.reduceLE, Int.reduceLT, Int.reduceEq, Int.reduceMul, Int.reduceAdd, Int.reduceSub, Int.reduceNeg, Int.reduceToNat, Int.reduceNe, g21, g43, g22, g45, g44, g35]
                refine ⟨by omega, by rfl, by omega, fun hm => ⟨hm, by omega, by omega⟩, fun hm hl => ?_, fun hm => ?_⟩
                · have e : pickL (ltK at_X at_Y v_X v_Y v_D) (rowR p_W p_H p_CellsL at_X at_Y v_X v_Y v_D most j (i + 1)) = some (⟨-1 + (i : Int), -1 + (j : Int)⟩ : CC) := by rw [rowR_yes (hr.trans (decide_eq_true (by omega))), pickL_snoc, ho]; exact if_pos (decide_eq_true hl)
                  refine ⟨⟨i + 1, by omega⟩, ?_, by simp only; omega⟩
                  simp only [e]
                  exact ⟨⟨rfl, by rw [wrapI (by omega) (by omega)]; omega⟩, ⟨trivial, trivial⟩, trivial, trivial⟩
                · have e : pickL (ltK at_X at_Y v_X v_Y v_D) (rowR p_W p_H p_CellsL at_X at_Y v_X v_Y v_D most j (i + 1)) = some b := by
                    rcases Bool.and_eq_false_iff.1 hm with h5 | h5
                    · rw [Bool.not_eq_false', decide_eq_true_eq] at h5
                      rw [rowR_no (hr.trans (decide_eq_false (by omega))), ho]
                    · rw [decide_eq_false_iff_not] at h5
                      cases hq : refP p_W p_H p_CellsL at_X at_Y v_X v_Y v_D most (-1 + (i : Int)) (-1 + (j : Int))
                      · rw [rowR_no hq, ho]
                      · rw [rowR_yes hq, pickL_snoc, ho]; exact if_neg (by unfold ltK; rw [decide_eq_true_eq]; exact h5)
                  refine ⟨⟨i + 1, by omega⟩, ?_, by simp only; omega⟩
                  simp only [e]
                  exact ⟨⟨rfl, by rw [wrapI (by omega) (by omega)]; omega⟩, ⟨trivial, trivial⟩, trivial, trivial⟩
        · simp only [x18L0, hlt2, push_cast, Nat.reduceAdd, Nat.reduceSub, Nat.reduceLeDiff, Nat.reduceEqDiff, Nat.reduceBEq, Nat.reduceMul, Nat.reduceLT, reduceIte, reduceCtorEq, Int.reduceLE, Int.reduceLT, Int.reduceEq, Int.reduceMul, Int.reduceAdd, Int.reduceSub, Int.reduceNeg, Int.reduceToNat, Int.reduceNe, g21, g43, g22, g45, g44, g35]
          refine ⟨⟨j + 1, by omega⟩, ?_, by simp only; omega⟩
          simp only
          rw [rowR_all (by omega)]
          exact ⟨⟨rfl, by rw [wrapI (by omega) (by omega)]; omega⟩, ⟨rfl, rfl⟩, rfl, rfl⟩
      · rw [upR_all (by omega)]
        exact ⟨by rfl, ⟨rfl, rfl⟩, ⟨rfl, rfl⟩, rfl⟩
    · cases hg_
  · cases hg_
end Go.Proofs.Ytpnpbbagonknjaa
set_option linter.unusedVariables false
set_option linter.unusedSimpArgs false
set_option maxRecDepth 20000
namespace Go.Proofs.Ytpnpbbagonknjaa
open Go.Sx Go.Way
/-- No wall is nearer. -/
def farB (K : CC → Int × Int) (s : Int) : Option CC → Bool
  | none => true
  | some c => decide (s * (K c).2 ≤ (K c).1)
def clearB (W H : Int) (L : List Int) (px py vx vy vd s : Int) : Bool := okF W H L px py vx vy vd s && farB (entC px py vx vy vd) s (firstO W H L px py vx vy vd s)
theorem first_hit {W H : Int} {L : List Int} {px py vx vy vd most : Int} {c : CC} (h : firstO W H L px py vx vy vd most = some c) : (0 ≤ most ∧ most ≤ 2048) ∧ hitB px py vx vy vd most c = true ∧ wallB W H L c = true := by
  unfold firstO at h
  split at h
  · rename_i hk
    have m := refL_mem.1 (pick_mem h)
    exact ⟨(okF_at hk).2.2.2.1, m.1.2, m.1.1⟩
  · cases h
theorem okF_false {W H : Int} {L : List Int} {px py vx vy vd s : Int} (h : ((inB W H L px py = false ∨ vecB vx vy vd = false) ∨ s < 0) ∨ 2048 < s) : okF W H L px py vx vy vd s = false := by
  rw [Bool.eq_false_iff]
  intro k
  simp only [okF, okR, Bool.and_eq_true, decide_eq_true_eq] at k
  rcases h with ((h | h) | h) | h
  · rw [k.1.1] at h; cases h
  · rw [k.1.2] at h; cases h
  · omega
  · omega
theorem okF_true {W H : Int} {L : List Int} {px py vx vy vd s : Int} (h1 : inB W H L px py = true) (h2 : vecB vx vy vd = true) (h3 : 0 ≤ s) (h4 : s ≤ 2048) : okF W H L px py vx vy vd s = true := by
  unfold okF okR; rw [h1, h2]; simp; omega
def x19 : XFn := ⟨46, (.seq (.reg false [O1 4 (.box 24) 0, O1 5 (.box 40) 1, O1 6 (.box 32) 2, K1 8 .mv (.bool false)]) (.seq (.seq (.reg false [O1 12 (.loadN 3) 4, O1 13 (.loadN 2) 5, O2 14 (.call 38) 12 13, O1 15 (.un .not) 14, O1 16 .mv 15, G1 17 (.loadN 3) 6 16 false, G1 18 (.call 46) 17 16 false, G1 19 (.un .not) 18 16 false, ⟨(some 20), .pick, [(.t 16), (.k (.bool true)), (.t 19)], none⟩, O1 21 .mv 20, G1 22 .mv 3 21 false, ⟨(some 23), (.call 47), [(.t 22), (.k (iV 0)), (.k (iV 2048))], (some (21, false))⟩, G1 24 (.un .not) 23 21 false, ⟨(some 25), .pick, [(.t 21), (.k (.bool true)), (.t 24)], none⟩]) (.cond (.t 25) (.seq (.reg false [K1 8 .mv (.bool false)]) .ret) .skip)) (.seq (.reg false [O1 27 (.loadN 3) 4, O1 28 (.loadN 2) 5, O1 29 (.loadN 3) 6, O1 30 .mv 3, ⟨(some 31), (.call 16), [(.t 27), (.t 28), (.t 29), (.t 30)], none⟩, O1 26 .mv 31, O1 32 (.ext 0) 26, O1 33 (.ext 1) 26, O1 34 (.ext 2) 26, ⟨(some 9), (.alloc 35 [(iV 0), (iV 0)]), [], none⟩, ⟨(some 10), (.alloc 37 [(iV 0), (iV 0)]), [], none⟩, ⟨none, (.store 2), [(.t 9), (.t 32)], none⟩, ⟨none, (.store 2), [(.t 10), (.t 33)], none⟩, O1 11 .mv 34]) (.seq (.reg false [O1 35 .mv 11, O1 36 (.un .not) 35, O1 37 .mv 36, G1 38 (.fld 0) 9 37 false, G1 39 .load1 38 37 false, G1 40 .mv 3 37 false, G1 41 (.fld 1) 9 37 false, G1 42 .load1 41 37 false, G2 43 (.bin .mul) 40 42 37 false, G2 44 (.bin .geq) 39 43 37 false, ⟨(some 45), .pick, [(.t 37), (.k (.bool true)), (.t 44)], none⟩, O1 8 .mv 45]) .ret)))), [(.s 8)]⟩
theorem x19_ok : xfn Try.prog Try.f19 = some x19.er := by kernel_rfl
def x20 : XFn := ⟨47, (.seq (.reg false [O1 4 (.box 24) 0, O1 5 (.box 40) 1, O1 6 (.box 32) 2, K1 8 .mv (.bool false)]) (.seq (.seq (.reg false [O1 12 (.loadN 3) 4, O1 13 (.loadN 2) 5, O2 14 (.call 21) 12 13, O1 15 (.un .not) 14, O1 16 .mv 15, G1 17 (.loadN 3) 6 16 false, G1 18 (.call 43) 17 16 false, G1 19 (.un .not) 18 16 false, ⟨(some 20), .pick, [(.t 16), (.k (.bool true)), (.t 19)], none⟩, O1 21 .mv 20, G1 22 .mv 3 21 false, GK 23 (.bin .lss) 22 (iV 0) 21 false, ⟨(some 24), .pick, [(.t 21), (.k (.bool true)), (.t 23)], none⟩, O1 25 .mv 24, G1 26 .mv 3 25 false, GK 27 (.bin .gtr) 26 (iV 2048) 25 false, ⟨(some 28), .pick, [(.t 25), (.k (.bool true)), (.t 27)], none⟩]) (.cond (.t 28) (.seq (.reg false [K1 8 .mv (.bool false)]) .ret) .skip)) (.seq (.reg false [O1 30 (.loadN 3) 4, O1 31 (.loadN 2) 5, O1 32 (.loadN 3) 6, O1 33 .mv 3, ⟨(some 34), (.call 18), [(.t 30), (.t 31), (.t 32), (.t 33)], none⟩, O1 29 .mv 34, O1 35 (.ext 0) 29, O1 36 (.ext 1) 29, O1 37 (.ext 2) 29, ⟨(some 9), (.alloc 35 [(iV 0), (iV 0)]), [], none⟩, ⟨(some 10), (.alloc 37 [(iV 0), (iV 0)]), [], none⟩, ⟨none, (.store 2), [(.t 9), (.t 35)], none⟩, ⟨none, (.store 2), [(.t 10), (.t 36)], none⟩, O1 11 .mv 37]) (.seq (.reg false [O1 38 .mv 11, O1 39 (.un .not) 38, O1 40 .mv 39, G1 41 (.loadN 2) 9 40 false, G1 42 .mv 3 40 false, ⟨(some 43), (.build [(iV 0), (iV 0)] [(0, 1), (1, 1)]), [(.t 42), (.k (iV 1))], (some (40, false))⟩, G2 44 (.call 35) 41 43 40 false, G1 45 (.un .not) 44 40 false, ⟨(some 46), .pick, [(.t 40), (.k (.bool true)), (.t 45)], none⟩, O1 8 .mv 46]) .ret)))), [(.s 8)]⟩
theorem x20_ok : xfn Try.prog Try.f20 = some x20.er := by kernel_rfl
def x52 : XFn := ⟨31, (.seq (.reg false [O1 4 (.box 24) 0, O1 5 (.box 26) 1, ⟨(some 8), (.alloc 35 [(iV 0), (iV 0)]), [], none⟩, K1 9 .mv (.bool false)]) (.seq (.regD [O1 14 (.loadN 3) 4, O1 15 (.fld 0) 5, O1 16 .load1 15, O1 17 (.fld 1) 5, O1 18 .load1 17, ⟨(some 19), (.build [(iV 0), (iV 0)] [(0, 1), (1, 1)]), [(.t 16), (.t 18)], none⟩, O1 20 (.fld 2) 5, O1 21 .load1 20, O1 22 .mv 2, O2 23 (.call 71) 21 22, O1 24 .mv 3, ⟨(some 25), (.call 16), [(.t 14), (.t 19), (.t 23), (.t 24)], none⟩, O1 13 .mv 25, O1 26 (.ext 0) 13, O1 27 (.ext 1) 13, O1 28 (.ext 2) 13, ⟨(some 10), (.alloc 35 [(iV 0), (iV 0)]), [], none⟩, ⟨(some 11), (.alloc 37 [(iV 0), (iV 0)]), [], none⟩, ⟨none, (.store 2), [(.t 10), (.t 26)], none⟩, ⟨none, (.store 2), [(.t 11), (.t 27)], none⟩, O1 12 .mv 28] [[], [], [1], [], [3], [2, 1, 4, 3], [], [6], [], [7, 6, 8], [], [0, 5, 2, 1, 4, 3, 9, 7, 6, 8, 10], [11, 0, 5, 2, 1, 4, 3, 9, 7, 6, 8, 10], [12, 11, 0, 5, 2, 1, 4, 3, 9, 7, 6, 8, 10], [12, 11, 0, 5, 2, 1, 4, 3, 9, 7, 6, 8, 10], [12, 11, 0, 5, 2, 1, 4, 3, 9, 7, 6, 8, 10], [], [], [16, 13, 12, 11, 0, 5, 2, 1, 4, 3, 9, 7, 6, 8, 10, 17], [17, 14, 12, 11, 0, 5, 2, 1, 4, 3, 9, 7, 6, 8, 10, 18, 16, 13], [15, 12, 11, 0, 5, 2, 1, 4, 3, 9, 7, 6, 8, 10, 19, 17, 14, 18, 16, 13]]) (.seq (.reg false [O1 29 (.loadN 2) 10, O1 30 .mv 12, ⟨none, (.store 2), [(.t 8), (.t 29)], none⟩, O1 9 .mv 30]) .ret))), [(.bn 8 2), (.s 9)]⟩
theorem x52_ok : xfn Try.prog Try.f52 = some x52.er := by kernel_rfl
/-- wayfinder/ray.Clear -/
def g19 : Con := fun args_ E_ nn_ => match args_ with
  | [.a [.v (.int .i64 p_W), .v (.int .i64 p_H), .n p_Cells], .a [.v (.int .i64 at_X), .v (.int .i64 at_Y)], .a [.v (.int .i64 v_X), .v (.int .i64 v_Y), .v (.int .i64 v_D)], .c (.v (.int .i64 s))] => (match rowOf E_ p_Cells with
    | some (p_Cells_n, p_Cells_s, p_Cells_f) => some (.q (isRow eU8 p_Cells_n p_Cells_s p_Cells_f ∧ True) (.o (.c (.v (.bool (clearB p_W p_H (decL eU8 p_Cells_n p_Cells_f) at_X at_Y v_X v_Y v_D s))))))
    | none => none)
  | _ => none
theorem c19 : COk Try.prog 19 g19 := by
  refine cok_q Try.func19 x19_ok (by kernel_rfl) (cok_tab (cok_cons c38 (cok_cons c46 (cok_cons c47 (cok_cons c16 cok_nil))))) ?_
  intro args_ E_ nn_ cr_ hg_
  unfold g19 at hg_
  split at hg_
  · rename_i p_W p_H p_Cells at_X at_Y v_X v_Y v_D s
    split at hg_
    · rename_i p_Cells_n p_Cells_s p_Cells_f h_p_Cells
      cases hg_
      refine ⟨_, _, rfl, 1, [p_Cells], [.a [.v (.int .i64 p_W), .v (.int .i64 p_H), .n 0], .a [.v (.int .i64 at_X), .v (.int .i64 at_Y)], .a [.v (.int .i64 v_X), .v (.int .i64 v_Y), .v (.int .i64 v_D)], .c (.v (.int .i64 s))], [(0, .ro (decL eU8 p_Cells_n p_Cells_f).length eU8.sz (rowF eU8 (decL eU8 p_Cells_n p_Cells_f)))], .o (.c (.v (.bool (clearB p_W p_H (decL eU8 p_Cells_n p_Cells_f) at_X at_Y v_X v_Y v_D s)))), rfl, rfl, by simp only [push_cast, Nat.reduceLT, Nat.reduceAdd], by simp only [push_cast, Nat.reduceLT, Nat.reduceAdd], by simp only [push_cast, Nat.reduceLT, Nat.reduceAdd], rfl, ⟨inE0_row h_p_Cells, trivial⟩, rfl, ?_⟩
      intro hpre hlen
      obtain ⟨i_p_Cells, hpre⟩ := hpre
      refine ⟨⟨inE_row h_p_Cells i_p_Cells, trivial⟩, ?_⟩
      have z_p_Cells := lens_row (E := eU8) hlen h_p_Cells
      clear i_p_Cells
      generalize decL eU8 p_Cells_n p_Cells_f = p_CellsL at *
      clear h_p_Cells
      simp (config := {maxSteps := 10000000}) only [x19, push_cast, Nat.reduceAdd, Nat.reduceSub, Nat.reduceLeDiff, Nat.reduceEqDiff, Nat.reduceBEq, Nat.reduceMul, Nat.reduceLT, reduceIte, reduceCtorEq, Int.reduceLE, Int.reduceLT, Int.reduceEq, Int.reduceMul, Int.reduceAdd, Int.reduceSub, Int.reduceNeg, Int.reduceToNat, Int.reduceNe, g38, g46, g47, g16]
      refine ⟨fun h => ?_, fun h1 h2 h3 h4 => ?_⟩
      · unfold clearB; rw [okF_false (by rcases h with (h | h) | h; exact .inl (.inl (.inl h)); exact .inl (.inl (.inr h)); omega)]; rfl
      unfold clearB
      rw [okF_true h1 h2 h3 h4, Bool.true_and]
      cases ho : firstO p_W p_H p_CellsL at_X at_Y v_X v_Y v_D s with
      | none => rfl
      | some c =>
        have hb := hit_bd (first_hit ho).1 (first_hit ho).2.1
        have m := mulB (a := s) (b := (entC at_X at_Y v_X v_Y v_D c).2) (A := 2048) (B := 67108864) (by omega) (by omega) (by omega) (by omega)
        change decide (IntKind.i64.wrap (s * (entC at_X at_Y v_X v_Y v_D c).2) ≤ (entC at_X at_Y v_X v_Y v_D c).1) = decide (s * (entC at_X at_Y v_X v_Y v_D c).2 ≤ (entC at_X at_Y v_X v_Y v_D c).1)
        rw [wrapI (by omega) (by omega)]
    · cases hg_
  · cases hg_
/-- wayfinder/wayfinderref10.Clear -/
def g20 : Con := fun args_ E_ nn_ => match args_ with
  | [.a [.v (.int .i64 p_W), .v (.int .i64 p_H), .n p_Cells], .a [.v (.int .i64 at_X), .v (.int .i64 at_Y)], .a [.v (.int .i64 v_X), .v (.int .i64 v_Y), .v (.int .i64 v_D)], .c (.v (.int .i64 s))] => (match rowOf E_ p_Cells with
    | some (p_Cells_n, p_Cells_s, p_Cells_f) => some (.q (isRow eU8 p_Cells_n p_Cells_s p_Cells_f ∧ True) (.o (.c (.v (.bool (clearB p_W p_H (decL eU8 p_Cells_n p_Cells_f) at_X at_Y v_X v_Y v_D s))))))
    | none => none)
  | _ => none
theorem c20 : COk Try.prog 20 g20 := by
  refine cok_q Try.func20 x20_ok (by kernel_rfl) (cok_tab (cok_cons c21 (cok_cons c43 (cok_cons c18 (cok_cons c35 cok_nil))))) ?_
  intro args_ E_ nn_ cr_ hg_
  unfold g20 at hg_
  split at hg_
  · rename_i p_W p_H p_Cells at_X at_Y v_X v_Y v_D s
    split at hg_
    · rename_i p_Cells_n p_Cells_s p_Cells_f h_p_Cells
      cases hg_
      refine ⟨_, _, rfl, 1, [p_Cells], [.a [.v (.int .i64 p_W), .v (.int .i64 p_H), .n 0], .a [.v (.int .i64 at_X), .v (.int .i64 at_Y)], .a [.v (.int .i64 v_X), .v (.int .i64 v_Y), .v (.int .i64 v_D)], .c (.v (.int .i64 s))], [(0, .ro (decL eU8 p_Cells_n p_Cells_f).length eU8.sz (rowF eU8 (decL eU8 p_Cells_n p_Cells_f)))], .o (.c (.v (.bool (clearB p_W p_H (decL eU8 p_Cells_n p_Cells_f) at_X at_Y v_X v_Y v_D s)))), rfl, rfl, by simp only [push_cast, Nat.reduceLT, Nat.reduceAdd], by simp only [push_cast, Nat.reduceLT, Nat.reduceAdd], by simp only [push_cast, Nat.reduceLT, Nat.reduceAdd], rfl, ⟨inE0_row h_p_Cells, trivial⟩, rfl, ?_⟩
      intro hpre hlen
      obtain ⟨i_p_Cells, hpre⟩ := hpre
      refine ⟨⟨inE_row h_p_Cells i_p_Cells, trivial⟩, ?_⟩
      have z_p_Cells := lens_row (E := eU8) hlen h_p_Cells
      clear i_p_Cells
      generalize decL eU8 p_Cells_n p_Cells_f = p_CellsL at *
      clear h_p_Cells
      simp (config := {maxSteps := 10000000}) only [x20, push_cast, Nat.reduceAdd, Nat.reduceSub, Nat.reduceLeDiff, Nat.reduceEqDiff, Nat.reduceBEq, Nat.reduceMul, Nat.reduceLT, reduceIte, reduceCtorEq, Int.reduceLE, Int.reduceLT, Int.reduceEq, Int.reduceMul, Int.reduceAdd, Int.reduceSub, Int.reduceNeg, Int.reduceToNat, Int.reduceNe, g21, g43, g18, g35]
      refine ⟨fun h => ?_, fun h1 h2 h3 h4 => ?_⟩
      · unfold clearB; rw [okF_false h]; rfl
      unfold clearB
      rw [okF_true h1 h2 (by omega) (by omega), Bool.true_and]
      cases ho : firstO p_W p_H p_CellsL at_X at_Y v_X v_Y v_D s with
      | none => simp [farB]
      | some c =>
        have hb := hit_bd (first_hit ho).1 (first_hit ho).2.1
        refine ⟨fun _ => ⟨rfl, ?_⟩, ?_⟩
        · change (0 ≤ (entC at_X at_Y v_X v_Y v_D c).1 ∧ 0 < (entC at_X at_Y v_X v_Y v_D c).2 ∧ (entC at_X at_Y v_X v_Y v_D c).2 ≤ 2147483648) ∧ 0 ≤ s ∧ (entC at_X at_Y v_X v_Y v_D c).1 ≤ 9223372036854775807 ∧ s ≤ 9223372036854775807
          omega
        · change (!decide ((entC at_X at_Y v_X v_Y v_D c).1 * 1 < s * (entC at_X at_Y v_X v_Y v_D c).2)) = decide (s * (entC at_X at_Y v_X v_Y v_D c).2 ≤ (entC at_X at_Y v_X v_Y v_D c).1)
          rw [← decide_not, decide_eq_decide]
          omega
    · cases hg_
  · cases hg_
/-- wayfinder/ray.look -/
def g52 : Con := fun args_ E_ nn_ => match args_ with
  | [.a [.v (.int .i64 p_W), .v (.int .i64 p_H), .n p_Cells], .a [.v (.int .i64 at_X), .v (.int .i64 at_Y), .v (.int .i64 at_H)], .c (.v (.int .i64 mark)), .c (.v (.int .i64 most))] => (match rowOf E_ p_Cells with
    | some (p_Cells_n, p_Cells_s, p_Cells_f) => some (.q (isRow eU8 p_Cells_n p_Cells_s p_Cells_f ∧ True) (.t [.a [.v (.int .i64 (bestF (entC at_X at_Y (beamV at_H mark).1 (beamV at_H mark).2.1 (beamV at_H mark).2.2) (firstO p_W p_H (decL eU8 p_Cells_n p_Cells_f) at_X at_Y (beamV at_H mark).1 (beamV at_H mark).2.1 (beamV at_H mark).2.2 most)).1), .v (.int .i64 (bestF (entC at_X at_Y (beamV at_H mark).1 (beamV at_H mark).2.1 (beamV at_H mark).2.2) (firstO p_W p_H (decL eU8 p_Cells_n p_Cells_f) at_X at_Y (beamV at_H mark).1 (beamV at_H mark).2.1 (beamV at_H mark).2.2 most)).2)], .c (.v (.bool ((firstO p_W p_H (decL eU8 p_Cells_n p_Cells_f) at_X at_Y (beamV at_H mark).1 (beamV at_H mark).2.1 (beamV at_H mark).2.2 most).isSome)))]))
    | none => none)
  | _ => none
theorem c52 : COk Try.prog 52 g52 := by
  refine cok_q Try.func52 x52_ok (by kernel_rfl) (cok_tab (cok_cons c16 (cok_cons c71 cok_nil))) ?_
  intro args_ E_ nn_ cr_ hg_
  unfold g52 at hg_
  split at hg_
  · rename_i p_W p_H p_Cells at_X at_Y at_H mark most
    split at hg_
    · rename_i p_Cells_n p_Cells_s p_Cells_f h_p_Cells
      cases hg_
      refine ⟨_, _, rfl, 1, [p_Cells], [.a [.v (.int .i64 p_W), .v (.int .i64 p_H), .n 0], .a [.v (.int .i64 at_X), .v (.int .i64 at_Y), .v (.int .i64 at_H)], .c (.v (.int .i64 mark)), .c (.v (.int .i64 most))], [(0, .ro (decL eU8 p_Cells_n p_Cells_f).length eU8.sz (rowF eU8 (decL eU8 p_Cells_n p_Cells_f)))], .t [.a [.v (.int .i64 (bestF (entC at_X at_Y (beamV at_H mark).1 (beamV at_H mark).2.1 (beamV at_H mark).2.2) (firstO p_W p_H (decL eU8 p_Cells_n p_Cells_f) at_X at_Y (beamV at_H mark).1 (beamV at_H mark).2.1 (beamV at_H mark).2.2 most)).1), .v (.int .i64 (bestF (entC at_X at_Y (beamV at_H mark).1 (beamV at_H mark).2.1 (beamV at_H mark).2.2) (firstO p_W p_H (decL eU8 p_Cells_n p_Cells_f) at_X at_Y (beamV at_H mark).1 (beamV at_H mark).2.1 (beamV at_H mark).2.2 most)).2)], .c (.v (.bool ((firstO p_W p_H (decL eU8 p_Cells_n p_Cells_f) at_X at_Y (beamV at_H mark).1 (beamV at_H mark).2.1 (beamV at_H mark).2.2 most).isSome)))], rfl, rfl, by simp only [push_cast, Nat.reduceLT, Nat.reduceAdd], by simp only [push_cast, Nat.reduceLT, Nat.reduceAdd], by simp only [push_cast, Nat.reduceLT, Nat.reduceAdd], rfl, ⟨inE0_row h_p_Cells, trivial⟩, rfl, ?_⟩
      intro hpre hlen
      obtain ⟨i_p_Cells, hpre⟩ := hpre
      refine ⟨⟨inE_row h_p_Cells i_p_Cells, trivial⟩, ?_⟩
      have z_p_Cells := lens_row (E := eU8) hlen h_p_Cells
      clear i_p_Cells
      generalize decL eU8 p_Cells_n p_Cells_f = p_CellsL at *
      clear h_p_Cells
      simp (config := {maxSteps := 10000000}) only [x52, push_cast, Nat.reduceAdd, Nat.reduceSub, Nat.reduceLeDiff, Nat.reduceEqDiff, Nat.reduceBEq, Nat.reduceMul, Nat.reduceLT, reduceIte, reduceCtorEq, Int.reduceLE, Int.reduceLT, Int.reduceEq, Int.reduceMul, Int.reduceAdd, Int.reduceSub, Int.reduceNeg, Int.reduceToNat, Int.reduceNe, g16, g71]
      rfl
    · cases hg_
  · cases hg_
end Go.Proofs.Ytpnpbbagonknjaa
