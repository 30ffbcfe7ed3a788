/- A part of the proof of a statement about this seat: how a function is stepped through, and plain laws. No conditions. -/
import Derived.Test.YtjnelnofbpjdmaaRows
import Derived.Test.YtjnelnofbpjdmaaSz3
import Derived.Test.YtjnelnofbpjdmaaW4
import Derived.KernelRfl
set_option linter.unusedVariables false
set_option linter.unusedSimpArgs false
set_option maxRecDepth 20000
namespace Go.Proofs.Ytjnelnofbpjdmaa
open Go.Sx Go.Way
/-! Computable forms -/
theorem hid_comp {W H : Int} {L : List Int} {x0 y0 x1 y1 vx vy vd far : Int} {op : Bool} (ha : admB x0 y0 x1 y1 = true) (hv : vecB vx vy vd = true) (hf : far ≤ 2048) :
    hidB W H L x0 y0 x1 y1 vx vy vd far op = (decide (0 ≤ far) && (trL x0 y0 vx vy vd 0 far).any fun c => hidC W H L x0 y0 x1 y1 vx vy vd far op c) := by
  by_cases h0 : 0 ≤ far
  · rw [decide_eq_true h0, Bool.true_and]
    cases h : (trL x0 y0 vx vy vd 0 far).any fun c => hidC W H L x0 y0 x1 y1 vx vy vd far op c with
    | true =>
      rw [List.any_eq_true] at h
      obtain ⟨c, _, hc⟩ := h
      exact hid_iff.2 ⟨h0, c, hc⟩
    | false =>
      rw [List.any_eq_false] at h
      exact hid_none ha hv hf fun k hk => by
        have := h _ (getD_in hk)
        simpa using this
  · rw [decide_eq_false h0, hid_no (fun h => h0 h.1)]; rfl
def refX (W H : Int) (L : List Int) (x0 y0 x1 y1 h m z rng : Int) : Bool :=
  if z = -1 then decide (0 ≤ 1024 - rng) && (trL x0 y0 (beamV h m).1 (beamV h m).2.1 (beamV h m).2.2 0 (1024 - rng)).any fun c => hidC W H L x0 y0 x1 y1 (beamV h m).1 (beamV h m).2.1 (beamV h m).2.2 (1024 - rng) false c
  else (decide (0 ≤ z - rng) && (trL x0 y0 (beamV h m).1 (beamV h m).2.1 (beamV h m).2.2 0 (z - rng)).any fun c => hidC W H L x0 y0 x1 y1 (beamV h m).1 (beamV h m).2.1 (beamV h m).2.2 (z - rng) true c) || emptyB W H L x0 y0 x1 y1 (beamV h m).1 (beamV h m).2.1 (beamV h m).2.2 (max 0 (z - rng)) (z + rng)
theorem ref_comp {W H : Int} {L : List Int} {x0 y0 x1 y1 h m z rng : Int} (ha : admB x0 y0 x1 y1 = true) (hz : z ≤ 1024) (hr : 0 ≤ rng) : refI W H L x0 y0 x1 y1 h m z rng = refX W H L x0 y0 x1 y1 h m z rng := by
  unfold refI refX
  rw [hid_comp ha (beam_vec h m) (by omega), hid_comp ha (beam_vec h m) (by omega)]
theorem refu_comp {W H : Int} {L : List Int} {x0 y0 x1 y1 h m z rng : Int} : refuB W H L x0 y0 x1 y1 h m z rng = (planB W H L && decide ((0 ≤ m ∧ m ≤ 255) ∧ -1 ≤ z ∧ z ≤ 1024) && admB x0 y0 x1 y1 && decide (0 ≤ h ∧ h ≤ 255) && decide (1 ≤ rng ∧ rng ≤ 32) && refX W H L x0 y0 x1 y1 h m z rng) := by
  unfold refuB
  cases h1 : planB W H L
  · rfl
  by_cases h2 : (0 ≤ m ∧ m ≤ 255) ∧ -1 ≤ z ∧ z ≤ 1024
  · cases h3 : admB x0 y0 x1 y1
    · simp
    by_cases h5 : 1 ≤ rng ∧ rng ≤ 32
    · rw [ref_comp h3 h2.2.2 (by omega)]
    · simp [h5]
  · rw [decide_eq_false h2]; rfl
theorem bad_one {W H : Int} {L : List Int} {x0 y0 x1 y1 h m z rng : Int} (hz : z ≤ 1024) (hr : 0 ≤ rng) : badB W H L x0 y0 x1 y1 h [⟨m, z⟩] rng = (admB x0 y0 x1 y1 && refX W H L x0 y0 x1 y1 h m z rng) := by
  unfold badB badI
  cases h3 : admB x0 y0 x1 y1
  · rfl
  simp only [List.any_cons, List.any_nil, Bool.or_false, Bool.true_and]
  exact ref_comp h3 hz hr
/-- One box, one mark, no splits: what is not refuted stays. -/
theorem rfn_one {W H : Int} {L : List Int} {S : List CC} {rng X0 Y0 X1 Y1 F : Int} (hr : rightB W H L S rng = true) (hb : boxB X0 Y0 X1 Y1 F 1 = true) (h1 : ¬ min X1 (64 * W) < max X0 0) (h2 : ¬ min Y1 (64 * H) < max Y0 0)
    (hf : badB W H L (max X0 0) (max Y0 0) (min X1 (64 * W)) (min Y1 (64 * H)) (F % 256) S rng = false) : rfnE W H L [⟨X0, Y0, X1, Y1, F, 1⟩] S rng 0 = 0 ∧ (rfnL W H L [⟨X0, Y0, X1, Y1, F, 1⟩] S rng 0).length = 1 := by
  have hok : ¬ (rightB W H L S rng = false ∨ 16 < [(⟨X0, Y0, X1, Y1, F, 1⟩ : BB)].length ∨ [(⟨X0, Y0, X1, Y1, F, 1⟩ : BB)].all BB.ok = false) := by
    rintro (h | h | h)
    · rw [hr] at h; cases h
    · simp at h
    · simp [BB.ok, hb] at h
  obtain ⟨e1, e2⟩ := rfn_good (sp := 0) hok ⟨by omega, by omega⟩
  refine ⟨e1, ?_⟩
  rw [e2]
  have hl : ldN (badF W H L S rng (max X0 0) (max Y0 0) (min X1 (64 * W)) (min Y1 (64 * H))) F 1 = 0 := by
    unfold ldN
    rw [if_neg]
    unfold badF
    rw [hf]; simp
  obtain ⟨c, hc⟩ : ∃ c, trmO W H L S rng ⟨X0, Y0, X1, Y1, F, 1⟩ = some c := by
    unfold trmO
    rw [if_neg (fun h => h.elim h1 h2)]
    unfold trmF
    rw [if_neg (by show ¬ ldN _ F 1 = 1; rw [hl]; omega)]
    exact ⟨_, rfl⟩
  rw [rqL_keep hc (fun h => absurd h.1 (by omega)), rqL_nil]
  rfl
/-! Buildings, and what is hidden of them -/
def bldB (W H : Int) (L : List Int) : Bool := planB W H L && L.all fun x => decide (x ≠ 0)
theorem get8_in {T : List Int} {k : Nat} (h : k < T.length) : T.getD k eU8.dflt ∈ T := by
  rw [List.getD_eq_getElem?_getD, List.getElem?_eq_getElem h]; exact List.getElem_mem h
theorem mem8_at {T : List Int} {c : Int} (h : c ∈ T) : ∃ k, k < T.length ∧ T.getD k eU8.dflt = c := by
  obtain ⟨k, hk, he⟩ := List.mem_iff_getElem.1 h
  exact ⟨k, hk, by rw [← he]; simp [List.getD, hk]⟩
/-- What is hidden: a bit of the veil for each cell. -/
def vB (V : List Int) (i : Nat) : Bool := !decide (bitI BinOp.and IntKind.u8 ((V.getD (i / 8) eU8.dflt).fdiv (2 ^ min (i % 8) IntKind.u8.bits)) 1 = 0)
def hidS (L V : List Int) (k : Nat) : List Int := (List.range L.length).map fun i => if i < k ∧ vB V i = true then 0 else L.getD i eU8.dflt
def hidN (L V : List Int) : Nat := min L.length (IntKind.i64.wrap (8 * (V.length : Int))).toNat
def hidL (L V : List Int) : List Int := hidS L V (hidN L V)
theorem hidS_len (L V : List Int) (k : Nat) : (hidS L V k).length = L.length := by simp [hidS]
theorem hidS_zero (L V : List Int) : hidS L V 0 = L := by
  apply List.ext_getElem
  · simp [hidS]
  · intro i h1 h2
    simp [hidS, List.getD, h2]
theorem hidS_yes {L V : List Int} {k : Nat} (hv : vB V k = true) (h : k < L.length) : hidS L V (k + 1) = (hidS L V k).set k 0 := by
  apply List.ext_getElem
  · simp [hidS]
  · intro i h1 h2
    rw [List.getElem_set]
    simp only [hidS, List.getElem_map, List.getElem_range]
    by_cases hk : k = i
    · subst hk; rw [if_pos ⟨by omega, hv⟩, if_pos rfl]
    · rw [if_neg hk]
      by_cases hlt : i < k
      · by_cases g : vB V i = true
        · rw [if_pos ⟨by omega, g⟩, if_pos ⟨hlt, g⟩]
        · rw [if_neg (fun a => g a.2), if_neg (fun a => g a.2)]
      · rw [if_neg (fun a => by omega), if_neg (fun a => by omega)]
theorem hidS_no {L V : List Int} {k : Nat} (hv : vB V k = false) : hidS L V (k + 1) = hidS L V k := by
  apply List.map_congr_left
  intro i hi
  by_cases g : vB V i = true
  · by_cases hlt : i < k
    · rw [if_pos ⟨by omega, g⟩, if_pos ⟨hlt, g⟩]
    · have : i ≠ k := by rintro rfl; rw [hv] at g; cases g
      rw [if_neg (fun a => by omega), if_neg (fun a => by omega)]
  · rw [if_neg (fun a => g a.2), if_neg (fun a => g a.2)]
theorem hidS_at {L V : List Int} {k i : Nat} (h : i < L.length) : (hidS L V k).getD i eU8.dflt = 0 ∨ (hidS L V k).getD i eU8.dflt = L.getD i eU8.dflt := by
  unfold hidS
  rw [List.getD_eq_getElem?_getD, List.getElem?_map, List.getElem?_range h]
  simp only [Option.map_some, Option.getD_some]
  split
  · exact .inl rfl
  · exact .inr rfl
theorem wrap_le8 (n : Nat) : IntKind.i64.wrap (8 * (n : Int)) ≤ 8 * (n : Int) := by
  rw [IntKind.wrap_i64]; omega
theorem planB_hid {W H : Int} {L V : List Int} {k : Nat} (h : planB W H L = true) : planB W H (hidS L V k) = true := by
  have p := planB_at h
  unfold planB
  rw [Bool.and_eq_true, decide_eq_true_eq, decide_eq_true_eq, hidS_len]
  refine ⟨⟨p.1, p.2.1, p.2.2.1⟩, fun x hx => ?_⟩
  obtain ⟨j, hj, e⟩ := mem8_at hx
  rw [hidS_len] at hj
  rcases hidS_at (V := V) (k := k) hj with g | g
  · rw [g] at e; omega
  · rw [g] at e; rw [← e]; exact p.2.2.2.2 j hj
theorem hid_knows {W H : Int} {L V : List Int} {k : Nat} (h : planB W H L = true) : knows W H (hidS L V k) L :=
  ⟨planB_hid h, h, fun i hi => by rw [hidS_len] at hi; exact hidS_at hi⟩
theorem app8 {L : List Int} {n m sz : Nat} {bd : Bnd} : rowEq n sz (catF 0 (litF [] m) (rowF eU8 L)) (rowF eU8 L) (SC.sub bd) := by
  intro e j _ _
  rw [rowF_sub]
  unfold catF
  rw [if_neg (by omega), Nat.sub_zero]
theorem bld_plan {W H : Int} {L : List Int} (h : bldB W H L = true) : planB W H L = true := by
  unfold bldB at h; rw [Bool.and_eq_true] at h; exact h.1
theorem bl_hid {W H : Int} {L V : List Int} (h : planB W H L = true) : blB W H (hidL L V) W H L = true := by
  unfold blB
  rw [Bool.and_eq_true, okM_iff, bel_iff]
  refine ⟨⟨planB_hid h, h, rfl, rfl⟩, fun i hi => ?_⟩
  unfold hidL at hi
  rw [hidS_len] at hi
  exact hidS_at hi
theorem inB_pt {W H : Int} {L : List Int} {x y : Int} (h : inB W H L x y = true) : (0 ≤ x ∧ x ≤ 64 * W) ∧ (0 ≤ y ∧ y ≤ 64 * H) ∧ planB W H L = true := by
  unfold inB at h
  simp only [Bool.and_eq_true, decide_eq_true_eq] at h
  exact ⟨h.2.1, h.2.2, h.1⟩
theorem refu_adm {W H : Int} {L : List Int} {x0 y0 x1 y1 h m z rng : Int} (hr : refuB W H L x0 y0 x1 y1 h m z rng = true) : planB W H L = true ∧ ((-1048576 ≤ x0 ∧ x0 ≤ 1048576) ∧ (-1048576 ≤ y0 ∧ y0 ≤ 1048576) ∧ (-1048576 ≤ x1 ∧ x1 ≤ 1048576) ∧ -1048576 ≤ y1 ∧ y1 ≤ 1048576) ∧ x0 ≤ x1 ∧ y0 ≤ y1 := by
  unfold refuB admB at hr
  simp only [Bool.and_eq_true, decide_eq_true_eq] at hr
  exact ⟨hr.1.1.1.1.1, hr.1.1.1.2.1, by omega, by omega⟩
theorem smaller_law {W H : Int} {L : List Int} {x0 y0 x1 y1 h m z rng a b c d : Int} (ha : 0 ≤ a ∧ a ≤ 255) (hb : 0 ≤ b ∧ b ≤ 255) (hc : 0 ≤ c ∧ c ≤ 255) (hd : 0 ≤ d ∧ d ≤ 255) (hr : refuB W H L x0 y0 x1 y1 h m z rng = true) :
    refuB W H L (min (IntKind.i64.wrap (x0 + IntKind.i64.wrap a)) x1) (min (IntKind.i64.wrap (y0 + IntKind.i64.wrap b)) y1) (max (min (IntKind.i64.wrap (x0 + IntKind.i64.wrap a)) x1) (IntKind.i64.wrap (x1 - IntKind.i64.wrap c)))
      (max (min (IntKind.i64.wrap (y0 + IntKind.i64.wrap b)) y1) (IntKind.i64.wrap (y1 - IntKind.i64.wrap d))) h m z rng = true := by
  have g := refu_adm hr
  rw [wrapI (n := a) (by omega) (by omega), wrapI (n := b) (by omega) (by omega), wrapI (n := c) (by omega) (by omega), wrapI (n := d) (by omega) (by omega), wrapI (by omega) (by omega), wrapI (by omega) (by omega), wrapI (by omega) (by omega), wrapI (by omega) (by omega)]
  exact refu_mono ⟨g.1, g.1, fun i _ => .inr rfl⟩ ⟨by omega, by omega, by omega⟩ ⟨by omega, by omega, by omega⟩ hr
theorem sound_law {W H : Int} {L V : List Int} {x y h m z rng a b c d : Int} (hp : plausB W H L x y h m z rng = true) (hb : bldB W H L = true) :
    refuB W H (hidL L V) (IntKind.i64.wrap (x - max 0 (min a 200))) (IntKind.i64.wrap (y - max 0 (min b 200))) (IntKind.i64.wrap (x + max 0 (min c 200))) (IntKind.i64.wrap (y + max 0 (min d 200))) h m z rng = false := by
  have hp' := hp
  unfold plausB at hp'
  simp only [Bool.and_eq_true] at hp'
  have g := inB_pt (good_ok hp'.1.1.1).1
  have p := planB_at g.2.2
  rw [wrapI (by omega) (by omega), wrapI (by omega) (by omega), wrapI (by omega) (by omega), wrapI (by omega) (by omega)]
  rw [Bool.eq_false_iff]
  intro hr
  have := refu_mono (hid_knows (bld_plan hb)) (a0 := x) (a1 := x) (b0 := y) (b1 := y) ⟨by omega, by omega, by omega⟩ ⟨by omega, by omega, by omega⟩ hr
  rw [refu_sound hp] at this
  cases this
def x8 : XFn := ⟨53, (.seq (.reg false [K1 0 .mv (.bool false)]) (.seq (.reg false [⟨(some 6), (.slit 5 3 1 [(.int .u8 0), (.int .u8 0), (.int .u8 0)] [(0, 1), (1, 1), (2, 1)]), [(.k (.int .u8 1)), (.k (.int .u8 1)), (.k (.int .u8 1))], none⟩, ⟨(some 7), (.build [(iV 0), (iV 0), (.slice none 0 0)] [(0, 1), (1, 1), (2, 1)]), [(.k (iV 3)), (.k (iV 1)), (.t 6)], none⟩, ⟨(some 1), (.alloc 24 [(iV 0), (iV 0), (.slice none 0 0)]), [], none⟩, ⟨none, (.store 3), [(.t 1), (.t 7)], none⟩]) (.seq (.reg false [⟨(some 8), (.build [(iV 0), (iV 0), (iV 0), (iV 0)] [(0, 1), (1, 1), (2, 1), (3, 1)]), [(.k (iV 32)), (.k (iV 32)), (.k (iV 32)), (.k (iV 32))], none⟩, ⟨(some 2), (.alloc 26 [(iV 0), (iV 0), (iV 0), (iV 0)]), [], none⟩, ⟨none, (.store 4), [(.t 2), (.t 8)], none⟩]) (.seq (.reg false [⟨(some 9), (.build [(iV 0), (iV 0)] [(1, 1)]), [(.k (iV 160))], none⟩, ⟨(some 10), (.slit 28 1 2 [(iV 0), (iV 0)] [(0, 2)]), [(.t 9)], none⟩, O1 3 .mv 10]) (.seq (.reg false [O1 12 (.loadN 3) 1, ⟨(some 13), (.build [(iV 0), (iV 0), (iV 0), (iV 0), (iV 0), (iV 0)] [(0, 1), (1, 1), (2, 1), (3, 1), (5, 1)]), [(.k (iV 32)), (.k (iV 32)), (.k (iV 32)), (.k (iV 32)), (.k (iV 1))], none⟩, ⟨(some 14), (.slit 46 1 6 [(iV 0), (iV 0), (iV 0), (iV 0), (iV 0), (iV 0)] [(0, 6)]), [(.t 13)], none⟩, O1 15 .mv 3, ⟨(some 16), (.call 16), [(.t 12), (.t 14), (.t 15), (.k (iV 1)), (.k (iV 0))], none⟩, O1 11 .mv 16, O1 17 (.ext 0) 11, O1 18 (.ext 1) 11, O1 4 .mv 17, O1 5 .mv 18]) (.seq (.reg true [O1 19 (.loadN 3) 1, O1 20 (.loadN 4) 2, O1 21 .mv 3, K2 22 (.ixS 2) 21 (iV 0), O1 23 (.loadN 2) 22, ⟨(some 24), (.call 10), [(.t 19), (.t 20), (.k (iV 0)), (.t 23), (.k (iV 1))], none⟩, O1 25 (.un .not) 24, O1 26 .mv 25, G1 27 (.loadN 3) 1 26 true, G1 28 (.loadN 4) 2 26 true, ⟨(some 29), (.build [(iV 0), (iV 0)] [(1, 1)]), [(.k (iV 158))], (some (26, true))⟩, ⟨(some 30), (.call 10), [(.t 27), (.t 28), (.k (iV 0)), (.t 29), (.k (iV 1))], (some (26, true))⟩, ⟨(some 31), .pick, [(.t 26), (.t 30), (.k (.bool false))], none⟩, O1 32 .mv 31, G1 33 (.loadN 3) 1 32 true, G1 34 (.loadN 4) 2 32 true, ⟨(some 35), (.build [(iV 0), (iV 0)] [(1, 1)]), [(.k (iV 163))], (some (32, true))⟩, ⟨(some 36), (.call 10), [(.t 33), (.t 34), (.k (iV 0)), (.t 35), (.k (iV 1))], (some (32, true))⟩, ⟨(some 37), .pick, [(.t 32), (.t 36), (.k (.bool false))], none⟩, O1 38 .mv 37, G1 39 .mv 5 38 true, GK 40 (.bin .eql) 39 (iV 0) 38 true, ⟨(some 41), .pick, [(.t 38), (.t 40), (.k (.bool false))], none⟩, O1 42 .mv 41, G1 43 .mv 4 42 true, G1 44 .lenS 43 42 true, GK 45 (.bin .eql) 44 (iV 1) 42 true, ⟨(some 46), .pick, [(.t 42), (.t 45), (.k (.bool false))], none⟩, O1 47 .mv 46, G1 48 (.loadN 3) 1 47 true, ⟨(some 49), (.build [(iV 0), (iV 0), (iV 0)] [(0, 1), (1, 1)]), [(.k (iV 32)), (.k (iV 32))], (some (47, true))⟩, G1 50 .mv 3 47 true, ⟨(some 51), (.call 28), [(.t 48), (.t 49), (.t 50), (.k (iV 1))], (some (47, true))⟩, ⟨(some 52), .pick, [(.t 47), (.t 51), (.k (.bool false))], none⟩, O1 0 .mv 52]) .ret)))))), [(.s 0)]⟩
theorem x8_ok : xfn Try.prog Try.f8 = some x8.er := by kernel_rfl
def x9 : XFn := ⟨24, (.seq (.reg false [O1 2 (.box 24) 0, K1 4 .mv (.bool false)]) (.seq (.reg false [O1 5 (.fld 2) 2, O1 6 .load1 5, O1 7 .lenS 6, K2 8 (.bin .leq) 7 (iV 64), O1 9 .mv 8, G1 10 .mv 1 9 true, G1 11 .lenS 10 9 true, GK 12 (.bin .leq) 11 (iV 3) 9 true, G1 13 .mv 12 9 true, G1 14 .mv 1 13 false, G1 15 .lenS 14 13 false, GK 16 (.bin .gtr) 15 (iV 32) 13 false, G1 17 .mv 16 13 false, G1 18 .mv 1 17 true, G1 19 .lenS 18 17 true, GK 20 (.bin .lss) 19 (iV 40) 17 true, ⟨(some 21), .pick, [(.t 17), (.t 20), (.k (.bool false))], (some (13, false))⟩, ⟨(some 22), .pick, [(.t 13), (.k (.bool true)), (.t 21)], (some (9, true))⟩, ⟨(some 23), .pick, [(.t 9), (.t 22), (.k (.bool false))], none⟩, O1 4 .mv 23]) .ret)), [(.s 4)]⟩
theorem x9_ok : xfn Try.prog Try.f9 = some x9.er := by kernel_rfl
def x15 : XFn := ⟨11, (.seq (.reg false [O1 1 (.box 46) 0, K1 2 .mv (.bool false)]) (.seq (.reg false [O1 3 (.fld 5) 1, O1 4 .load1 3, K2 5 (.bin .leq) 4 (iV 12), O1 6 .mv 5, G1 7 (.fld 5) 1 6 false, G1 8 .load1 7 6 false, GK 9 (.bin .gtr) 8 (iV 256) 6 false, ⟨(some 10), .pick, [(.t 6), (.k (.bool true)), (.t 9)], none⟩, O1 2 .mv 10]) .ret)), [(.s 2)]⟩
theorem x15_ok : xfn Try.prog Try.f15 = some x15.er := by kernel_rfl
def x12L0 : XC := (.seq (.seq (.reg false [O1 7 .mv 3, O1 8 (.fld 2) 1, O1 9 .load1 8, O1 10 .lenS 9, O2 11 (.bin .lss) 7 10]) (.cond (.t 11) .skip (.exit 0))) (.seq (.block 1 (.seq (.reg false [O1 14 (.fld 2) 1, O1 15 .load1 14, O1 16 .mv 3, O2 17 (.ixS 1) 15 16, O1 18 .load1 17, K2 19 (.bin .eql) 18 (.int .u8 0)]) (.cond (.t 19) (.seq (.reg false [K1 2 .mv (.bool false)]) .ret) .skip))) (.reg false [O1 12 .mv 3, K2 13 (.bin .add) 12 (iV 1), O1 3 .mv 13])))
def x12 : XFn := ⟨20, (.seq (.reg false [O1 1 (.box 24) 0, K1 2 .mv (.bool false)]) (.seq (.seq (.reg false [O1 4 (.loadN 3) 1, O1 5 (.call 34) 4, O1 6 (.un .not) 5]) (.cond (.t 6) (.seq (.reg false [K1 2 .mv (.bool false)]) .ret) .skip)) (.seq (.seq (.reg false [K1 3 .mv (iV 0)]) (.block 0 (.loop x12L0))) (.seq (.reg false [K1 2 .mv (.bool true)]) .ret)))), [(.s 2)]⟩
theorem x12_ok : xfn Try.prog Try.f12 = some x12.er := by kernel_rfl
def x13L0 : XC := (.seq (.seq (.reg false [O1 16 .mv 6, O1 17 (.fld 2) 5, O1 18 .load1 17, O1 19 .lenS 18, O2 20 (.bin .lss) 16 19, O1 21 .mv 20, G1 22 .mv 6 21 true, G1 23 .mv 1 21 true, G1 24 .lenS 23 21 true, ⟨(some 25), (.bin .mul), [(.k (iV 8)), (.t 24)], (some (21, true))⟩, G2 26 (.bin .lss) 22 25 21 true, ⟨(some 27), .pick, [(.t 21), (.t 26), (.k (.bool false))], none⟩]) (.cond (.t 27) .skip (.exit 0))) (.seq (.block 1 (.seq (.reg false [O1 30 .mv 1, O1 31 .mv 6, K2 32 (.bin .quo) 31 (iV 8), O2 33 (.ixS 1) 30 32, O1 34 .load1 33, O1 35 .mv 6, K2 36 (.bin .rem) 35 (iV 8), O2 37 (.bin .shr) 34 36, K2 38 (.bin .and) 37 (.int .u8 1), K2 39 (.bin .neq) 38 (.int .u8 0)]) (.cond (.t 39) (.reg false [O1 40 (.fld 2) 5, O1 41 .load1 40, O1 42 .mv 6, O2 43 (.ixS 1) 41 42, ⟨none, (.store 1), [(.t 43), (.k (.int .u8 0))], none⟩]) .skip))) (.reg false [O1 28 .mv 6, K2 29 (.bin .add) 28 (iV 1), O1 6 .mv 29])))
def x13 : XFn := ⟨45, (.seq (.reg false [O1 2 (.box 24) 0, ⟨(some 4), (.alloc 24 [(iV 0), (iV 0), (.slice none 0 0)]), [], none⟩]) (.seq (.regD [O1 7 (.fld 0) 2, O1 8 .load1 7, O1 9 (.fld 1) 2, O1 10 .load1 9, ⟨(some 11), (.slit 5 0 1 [] []), [], none⟩, O1 12 (.fld 2) 2, O1 13 .load1 12, O2 14 (.app 5 1 1) 11 13, ⟨(some 15), (.build [(iV 0), (iV 0), (.slice none 0 0)] [(0, 1), (1, 1), (2, 1)]), [(.t 8), (.t 10), (.t 14)], none⟩, ⟨(some 5), (.alloc 24 [(iV 0), (iV 0), (.slice none 0 0)]), [], none⟩, ⟨none, (.store 3), [(.t 5), (.t 15)], none⟩] [[], [0], [], [2], [], [], [5], [4, 6, 5], [1, 0, 3, 2, 7, 4, 6, 5], [], [9, 8, 1, 0, 3, 2, 7, 4, 6, 5]]) (.seq (.seq (.reg false [K1 6 .mv (iV 0)]) (.block 0 (.loop x13L0))) (.seq (.reg false [O1 44 (.loadN 3) 5, ⟨none, (.store 3), [(.t 4), (.t 44)], none⟩]) .ret)))), [(.bn 4 3)]⟩
theorem x13_ok : xfn Try.prog Try.f13 = some x13.er := by kernel_rfl
def x3 : XFn := ⟨34, (.seq (.reg false [O1 2 (.box 24) 0, O1 3 (.box 30) 1, K1 4 .mv (.bool false)]) (.seq (.seq (.reg false [⟨(some 5), (.call 8), [], none⟩, O1 6 (.un .not) 5, O1 7 .mv 6, G1 8 (.loadN 3) 2 7 false, GK 9 (.call 9) 8 (.slice none 0 0) 7 false, G1 10 (.un .not) 9 7 false, ⟨(some 11), .pick, [(.t 7), (.k (.bool true)), (.t 10)], none⟩]) (.cond (.t 11) (.seq (.reg false [⟨(some 12), (.call 8), [], none⟩, O1 4 .mv 12]) .ret) .skip)) (.seq (.reg true [O1 13 (.loadN 3) 2, O1 14 (.fld 0) 3, O1 15 (.loadN 4) 14, O1 16 (.fld 4) 3, O1 17 .load1 16, O1 18 (.fld 5) 3, O1 19 (.loadN 2) 18, O1 20 (.fld 7) 3, O1 21 .load1 20, ⟨(some 22), (.call 10), [(.t 13), (.t 15), (.t 17), (.t 19), (.t 21)], none⟩, O1 23 (.loadN 3) 2, O1 24 (.fld 0) 3, O1 25 (.loadN 4) 24, O1 26 (.fld 4) 3, O1 27 .load1 26, O1 28 (.fld 5) 3, O1 29 (.loadN 2) 28, O1 30 (.fld 7) 3, O1 31 .load1 30, ⟨(some 32), (.call 11), [(.t 23), (.t 25), (.t 27), (.t 29), (.t 31)], none⟩, O2 33 (.binb .eql) 22 32, O1 4 .mv 33]) .ret))), [(.s 4)]⟩
theorem x3_ok : xfn Try.prog Try.f3 = some x3.er := by kernel_rfl
def x4 : XFn := ⟨111, (.seq (.reg false [O1 3 (.box 39) 0, O1 4 (.box 30) 1, O1 5 (.box 40) 2, K1 6 .mv (.bool false)]) (.seq (.seq (.reg false [⟨(some 10), (.call 8), [], none⟩, O1 11 (.un .not) 10]) (.cond (.t 11) (.seq (.reg false [K1 6 .mv (.bool false)]) .ret) .skip)) (.seq (.seq (.reg false [O1 12 (.fld 0) 3, O1 13 (.loadN 3) 12, O1 14 (.call 12) 13, O1 15 (.un .not) 14, O1 16 .mv 15, G1 17 (.fld 0) 3 16 false, G1 18 (.fld 2) 17 16 false, G1 19 .load1 18 16 false, G1 20 .lenS 19 16 false, GK 21 (.bin .gtr) 20 (iV 64) 16 false, ⟨(some 22), .pick, [(.t 16), (.k (.bool true)), (.t 21)], none⟩]) (.cond (.t 22) (.seq (.reg false [K1 6 .mv (.bool true)]) .ret) .skip)) (.seq (.reg false [O1 23 (.fld 0) 3, O1 24 (.loadN 3) 23, O1 25 (.fld 9) 3, O1 26 .load1 25, O2 27 (.call 13) 24 26, ⟨(some 7), (.alloc 24 [(iV 0), (iV 0), (.slice none 0 0)]), [], none⟩, ⟨none, (.store 3), [(.t 7), (.t 27)], none⟩]) (.seq (.seq (.reg false [O1 28 (.loadN 3) 7, O1 29 (.fld 0) 4, O1 30 (.loadN 4) 29, O1 31 (.fld 4) 4, O1 32 .load1 31, O1 33 (.fld 5) 4, O1 34 (.loadN 2) 33, O1 35 (.fld 7) 4, O1 36 .load1 35, ⟨(some 37), (.call 10), [(.t 28), (.t 30), (.t 32), (.t 34), (.t 36)], none⟩, O1 38 (.un .not) 37]) (.cond (.t 38) (.seq (.reg false [K1 6 .mv (.bool true)]) .ret) .skip)) (.seq (.reg false [O1 39 (.fld 0) 4, O1 40 (.loadN 4) 39, ⟨(some 8), (.alloc 26 [(iV 0), (iV 0), (iV 0), (iV 0)]), [], none⟩, ⟨none, (.store 4), [(.t 8), (.t 40)], none⟩]) (.seq (.reg false [O1 41 (.fld 0) 8, O1 42 .load1 41, K2 43 (.ixA 4 1) 5 (iV 0), O1 44 .load1 43, O1 45 (.conv .i64) 44, O2 46 (.bin .add) 42 45, O1 47 (.fld 2) 8, O1 48 .load1 47, O2 49 .minI 46 48, O1 50 (.fld 1) 8, O1 51 .load1 50, K2 52 (.ixA 4 1) 5 (iV 1), O1 53 .load1 52, O1 54 (.conv .i64) 53, O2 55 (.bin .add) 51 54, O1 56 (.fld 3) 8, O1 57 .load1 56, O2 58 .minI 55 57, O1 59 (.fld 2) 8, O1 60 .load1 59, O1 61 (.fld 3) 8, O1 62 .load1 61, ⟨(some 63), (.build [(iV 0), (iV 0), (iV 0), (iV 0)] [(0, 1), (1, 1), (2, 1), (3, 1)]), [(.t 49), (.t 58), (.t 60), (.t 62)], none⟩, ⟨(some 9), (.alloc 26 [(iV 0), (iV 0), (iV 0), (iV 0)]), [], none⟩, ⟨none, (.store 4), [(.t 9), (.t 63)], none⟩]) (.seq (.reg false [O1 64 (.fld 0) 9, O1 65 .load1 64, O1 66 (.fld 2) 8, O1 67 .load1 66, K2 68 (.ixA 4 1) 5 (iV 2), O1 69 .load1 68, O1 70 (.conv .i64) 69, O2 71 (.bin .sub) 67 70, O2 72 .maxI 65 71, O1 73 (.fld 2) 9, ⟨none, (.store 1), [(.t 73), (.t 72)], none⟩]) (.seq (.reg false [O1 74 (.fld 1) 9, O1 75 .load1 74, O1 76 (.fld 3) 8, O1 77 .load1 76, K2 78 (.ixA 4 1) 5 (iV 3), O1 79 .load1 78, O1 80 (.conv .i64) 79, O2 81 (.bin .sub) 77 80, O2 82 .maxI 75 81, O1 83 (.fld 3) 9, ⟨none, (.store 1), [(.t 83), (.t 82)], none⟩]) (.seq (.reg false [O1 84 (.loadN 3) 7, O1 85 (.fld 0) 3, O1 86 (.loadN 3) 85, O2 87 (.call 14) 84 86, O1 88 .mv 87, G1 89 (.loadN 3) 7 88 true, G1 90 (.loadN 4) 9 88 true, G1 91 (.fld 4) 4 88 true, G1 92 .load1 91 88 true, G1 93 (.fld 5) 4 88 true, G1 94 (.loadN 2) 93 88 true, G1 95 (.fld 7) 4 88 true, G1 96 .load1 95 88 true, ⟨(some 97), (.call 10), [(.t 89), (.t 90), (.t 92), (.t 94), (.t 96)], (some (88, true))⟩, ⟨(some 98), .pick, [(.t 88), (.t 97), (.k (.bool false))], none⟩, O1 99 .mv 98, G1 100 (.fld 0) 3 99 true, G1 101 (.loadN 3) 100 99 true, G1 102 (.loadN 4) 8 99 true, G1 103 (.fld 4) 4 99 true, G1 104 .load1 103 99 true, G1 105 (.fld 5) 4 99 true, G1 106 (.loadN 2) 105 99 true, G1 107 (.fld 7) 4 99 true, G1 108 .load1 107 99 true, ⟨(some 109), (.call 10), [(.t 101), (.t 102), (.t 104), (.t 106), (.t 108)], (some (99, true))⟩, ⟨(some 110), .pick, [(.t 99), (.t 109), (.k (.bool false))], none⟩, O1 6 .mv 110]) .ret)))))))))), [(.s 6)]⟩
theorem x4_ok : xfn Try.prog Try.f4 = some x4.er := by kernel_rfl
def x6 : XFn := ⟨74, (.seq (.reg false [O1 3 (.box 39) 0, O1 4 (.box 28) 1, O1 5 (.box 26) 2, K1 6 .mv (.bool false)]) (.seq (.seq (.reg false [⟨(some 7), (.call 8), [], none⟩, O1 8 (.un .not) 7]) (.cond (.t 8) (.seq (.reg false [K1 6 .mv (.bool false)]) .ret) .skip)) (.seq (.seq (.reg false [O1 9 (.fld 0) 3, O1 10 (.loadN 3) 9, O1 11 (.call 12) 10, O1 12 (.un .not) 11, O1 13 .mv 12, G1 14 (.fld 0) 3 13 false, G1 15 (.fld 2) 14 13 false, G1 16 .load1 15 13 false, G1 17 .lenS 16 13 false, GK 18 (.bin .gtr) 17 (iV 64) 13 false, ⟨(some 19), .pick, [(.t 13), (.k (.bool true)), (.t 18)], none⟩, O1 20 .mv 19, G1 21 (.fld 0) 3 20 false, G1 22 (.loadN 3) 21 20 false, G1 23 (.fld 3) 3 20 false, G1 24 (.loadN 3) 23 20 false, G1 25 (.loadN 2) 4 20 false, G1 26 (.fld 8) 3 20 false, G1 27 .load1 26 20 false, ⟨(some 28), (.call 22), [(.t 22), (.t 24), (.t 25), (.t 27)], (some (20, false))⟩, G1 29 (.un .not) 28 20 false, ⟨(some 30), .pick, [(.t 20), (.k (.bool true)), (.t 29)], none⟩]) (.cond (.t 30) (.seq (.reg false [K1 6 .mv (.bool true)]) .ret) .skip)) (.seq (.regD [O1 31 (.fld 3) 3, O1 32 (.fld 0) 31, O1 33 .load1 32, O1 34 (.fld 0) 5, O1 35 .load1 34, ⟨(some 36), (.call 23), [(.t 35), (.k (iV 0)), (.k (iV 200))], none⟩, O2 37 (.bin .sub) 33 36, O1 38 (.fld 3) 3, O1 39 (.fld 1) 38, O1 40 .load1 39, O1 41 (.fld 1) 5, O1 42 .load1 41, ⟨(some 43), (.call 23), [(.t 42), (.k (iV 0)), (.k (iV 200))], none⟩, O2 44 (.bin .sub) 40 43, O1 45 (.fld 3) 3, O1 46 (.fld 0) 45, O1 47 .load1 46, O1 48 (.fld 2) 5, O1 49 .load1 48, ⟨(some 50), (.call 23), [(.t 49), (.k (iV 0)), (.k (iV 200))], none⟩, O2 51 (.bin .add) 47 50, O1 52 (.fld 3) 3, O1 53 (.fld 1) 52, O1 54 .load1 53, O1 55 (.fld 3) 5, O1 56 .load1 55, ⟨(some 57), (.call 23), [(.t 56), (.k (iV 0)), (.k (iV 200))], none⟩, O2 58 (.bin .add) 54 57, ⟨(some 59), (.build [(iV 0), (iV 0), (iV 0), (iV 0)] [(0, 1), (1, 1), (2, 1), (3, 1)]), [(.t 37), (.t 44), (.t 51), (.t 58)], none⟩, ⟨none, (.store 4), [(.t 5), (.t 59)], none⟩] [[], [0], [1, 0], [], [3], [4, 3], [2, 1, 0, 5, 4, 3], [], [7], [8, 7], [], [10], [11, 10, 5, 4, 3], [9, 8, 7, 12, 11, 10, 5, 4, 3], [], [14], [15, 14], [], [17], [18, 17, 12, 11, 10, 5, 4, 3], [16, 15, 14, 19, 18, 17, 12, 11, 10, 5, 4, 3], [], [21], [22, 21], [], [24], [25, 24, 19, 18, 17, 12, 11, 10, 5, 4, 3], [23, 22, 21, 26, 25, 24, 19, 18, 17, 12, 11, 10, 5, 4, 3], [6, 2, 1, 0, 5, 4, 3, 13, 9, 8, 7, 12, 11, 10, 20, 16, 15, 14, 19, 18, 17, 27, 23, 22, 21, 26, 25, 24], [28, 6, 2, 1, 0, 5, 4, 3, 13, 9, 8, 7, 12, 11, 10, 20, 16, 15, 14, 19, 18, 17, 27, 23, 22, 21, 26, 25, 24]]) (.seq (.regD [O1 60 (.fld 0) 3, O1 61 (.loadN 3) 60, O1 62 (.fld 9) 3, O1 63 .load1 62, O2 64 (.call 13) 61 63, O1 65 (.loadN 4) 5, O1 66 (.fld 3) 3, O1 67 (.fld 2) 66, O1 68 .load1 67, O1 69 (.loadN 2) 4, O1 70 (.fld 8) 3, O1 71 .load1 70, ⟨(some 72), (.call 10), [(.t 64), (.t 65), (.t 68), (.t 69), (.t 71)], none⟩, O1 73 (.un .not) 72, O1 6 .mv 73] [[], [0], [], [2], [1, 0, 3, 2], [], [], [6], [7, 6], [], [], [10], [4, 1, 0, 3, 2, 5, 8, 7, 6, 9, 11, 10], [12, 4, 1, 0, 3, 2, 5, 8, 7, 6, 9, 11, 10], [13, 12, 4, 1, 0, 3, 2, 5, 8, 7, 6, 9, 11, 10]]) .ret))))), [(.s 6)]⟩
theorem x6_ok : xfn Try.prog Try.f6 = some x6.er := by kernel_rfl
/-- wayfinder/wayfinderlaw24.few -/
def g9n : Con := fun args_ E_ nn_ => match args_ with
  | [.a [.v (.int .i64 p_W), .v (.int .i64 p_H), .n p_Cells], .c (.v (.slice none 0 0))] => (match rowOf E_ p_Cells with
    | some (p_Cells_n, p_Cells_s, p_Cells_f) => some (.q (isRow eU8 p_Cells_n p_Cells_s p_Cells_f ∧ True) (.o (.c (.v (.bool (decide (((decL eU8 p_Cells_n p_Cells_f)).length ≤ 64)))))))
    | none => none)
  | _ => none
theorem c9n : COk Try.prog 9 g9n := by
  refine cok_q Try.func9 x9_ok (by kernel_rfl) (cok_tab cok_nil) ?_
  intro args_ E_ nn_ cr_ hg_
  unfold g9n at hg_
  split at hg_
  · rename_i p_W p_H p_Cells
    split at hg_
    · rename_i p_Cells_n p_Cells_s p_Cells_f h_p_Cells
      cases hg_
      refine ⟨_, _, rfl, 1, [p_Cells], [.a [.v (.int .i64 p_W), .v (.int .i64 p_H), .n 0], .c (.v (.slice none 0 0))], [(0, .ro (decL eU8 p_Cells_n p_Cells_f).length eU8.sz (rowF eU8 (decL eU8 p_Cells_n p_Cells_f)))], .o (.c (.v (.bool (decide (((decL eU8 p_Cells_n p_Cells_f)).length ≤ 64))))), rfl, rfl, by simp only [push_cast, Nat.reduceLT, Nat.reduceAdd], by simp only [push_cast, Nat.reduceLT, Nat.reduceAdd], by simp only [push_cast, Nat.reduceLT, Nat.reduceAdd], rfl, ⟨inE0_row h_p_Cells, trivial⟩, rfl, ?_⟩
      intro hpre hlen
      obtain ⟨i_p_Cells, hpre⟩ := hpre
      refine ⟨⟨inE_row h_p_Cells i_p_Cells, trivial⟩, ?_⟩
      have z_p_Cells := lens_row (E := eU8) hlen h_p_Cells
      clear i_p_Cells
      generalize decL eU8 p_Cells_n p_Cells_f = p_CellsL at *
      clear h_p_Cells
      simp (config := {maxSteps := 10000000}) only [x9, push_cast, Nat.reduceAdd, Nat.reduceSub, Nat.reduceLeDiff, Nat.reduceEqDiff, Nat.reduceBEq, Nat.reduceMul, Nat.reduceLT, reduceIte, reduceCtorEq, Int.reduceLE, Int.reduceLT, Int.reduceEq, Int.reduceMul, Int.reduceAdd, Int.reduceSub, Int.reduceNeg, Int.reduceToNat, Int.reduceNe]
      have e : (decide True || decide False && decide True) = true := by decide
      rw [e, Bool.and_true, decide_eq_decide]
      omega
    · cases hg_
  · cases hg_
/-- wayfinder/wayfinderlaw24.few -/
def g9 : Con := fun args_ E_ nn_ => match args_ with
  | [.a [.v (.int .i64 p_W), .v (.int .i64 p_H), .n p_Cells], .c (.n s)] => (match rowOf E_ p_Cells with
    | some (p_Cells_n, p_Cells_s, p_Cells_f) => (match rowOf E_ s with
    | some (s_n, s_s, s_f) => some (.q (isRow eU8 p_Cells_n p_Cells_s p_Cells_f ∧ isRow eC s_n s_s s_f ∧ True) (.o (.c (.v (.bool (decide (((decL eU8 p_Cells_n p_Cells_f)).length ≤ 64 ∧ (((decL eC s_n s_f)).length ≤ 3 ∨ 32 < ((decL eC s_n s_f)).length ∧ ((decL eC s_n s_f)).length < 40))))))))
    | none => none)
    | none => none)
  | _ => none
theorem c9 : COk Try.prog 9 g9 := by
  refine cok_q Try.func9 x9_ok (by kernel_rfl) (cok_tab cok_nil) ?_
  intro args_ E_ nn_ cr_ hg_
  unfold g9 at hg_
  split at hg_
  · rename_i p_W p_H p_Cells s
    split at hg_
    · rename_i p_Cells_n p_Cells_s p_Cells_f h_p_Cells
      split at hg_
      · rename_i s_n s_s s_f h_s
        cases hg_
        refine ⟨_, _, rfl, 2, [p_Cells, s], [.a [.v (.int .i64 p_W), .v (.int .i64 p_H), .n 0], .c (.n 1)], [(0, .ro (decL eU8 p_Cells_n p_Cells_f).length eU8.sz (rowF eU8 (decL eU8 p_Cells_n p_Cells_f))), (1, .ro (decL eC s_n s_f).length eC.sz (rowF eC (decL eC s_n s_f)))], .o (.c (.v (.bool (decide (((decL eU8 p_Cells_n p_Cells_f)).length ≤ 64 ∧ (((decL eC s_n s_f)).length ≤ 3 ∨ 32 < ((decL eC s_n s_f)).length ∧ ((decL eC s_n s_f)).length < 40)))))), rfl, rfl, by simp only [push_cast, Nat.reduceLT, Nat.reduceAdd], by simp only [push_cast, Nat.reduceLT, Nat.reduceAdd], by simp only [push_cast, Nat.reduceLT, Nat.reduceAdd], rfl, ⟨inE0_row h_p_Cells, inE0_row h_s, trivial⟩, rfl, ?_⟩
        intro hpre hlen
        obtain ⟨i_p_Cells, hpre⟩ := hpre
        obtain ⟨i_s, hpre⟩ := hpre
        refine ⟨⟨inE_row h_p_Cells i_p_Cells, inE_row h_s i_s, trivial⟩, ?_⟩
        have z_p_Cells := lens_row (E := eU8) hlen h_p_Cells
        have z_s := lens_row (E := eC) hlen h_s
        clear i_p_Cells
        generalize decL eU8 p_Cells_n p_Cells_f = p_CellsL at *
        clear i_s
        generalize decL eC s_n s_f = sL at *
        clear h_p_Cells
        clear h_s
        simp (config := {maxSteps := 10000000}) only [x9, push_cast, Nat.reduceAdd, Nat.reduceSub, Nat.reduceLeDiff, Nat.reduceEqDiff, Nat.reduceBEq, Nat.reduceMul, Nat.reduceLT, reduceIte, reduceCtorEq, Int.reduceLE, Int.reduceLT, Int.reduceEq, Int.reduceMul, Int.reduceAdd, Int.reduceSub, Int.reduceNeg, Int.reduceToNat, Int.reduceNe]
        refine ⟨fun a b => ⟨⟨a, b⟩, fun c => ⟨⟨a, b⟩, c⟩⟩, fun a => ⟨a, fun b => ⟨a, b⟩⟩, ?_⟩
        rw [Bool.eq_iff_iff]
        simp only [Bool.and_eq_true, Bool.or_eq_true, decide_eq_true_eq]
        omega
      · cases hg_
    · cases hg_
  · cases hg_
/-- wayfinder/wayfinderlaw24.narrow -/
def g15 : Con := fun args_ E_ nn_ => match args_ with
  | [.a [.v (.int .i64 b_X0), .v (.int .i64 b_Y0), .v (.int .i64 b_X1), .v (.int .i64 b_Y1), .v (.int .i64 b_From), .v (.int .i64 b_Count)]] => some (.q (True) (.o (.c (.v (.bool (decide (b_Count ≤ 12 ∨ 256 < b_Count)))))))
  | _ => none
theorem c15 : COk Try.prog 15 g15 := by
  refine cok_q Try.func15 x15_ok (by kernel_rfl) (cok_tab cok_nil) ?_
  intro args_ E_ nn_ cr_ hg_
  unfold g15 at hg_
  split at hg_
  · rename_i b_X0 b_Y0 b_X1 b_Y1 b_From b_Count
    cases hg_
    refine ⟨_, _, rfl, 0, [], [.a [.v (.int .i64 b_X0), .v (.int .i64 b_Y0), .v (.int .i64 b_X1), .v (.int .i64 b_Y1), .v (.int .i64 b_From), .v (.int .i64 b_Count)]], [], .o (.c (.v (.bool (decide (b_Count ≤ 12 ∨ 256 < b_Count))))), rfl, rfl, by simp only [push_cast, Nat.reduceLT, Nat.reduceAdd], by simp only [push_cast, Nat.reduceLT, Nat.reduceAdd], by simp only [push_cast, Nat.reduceLT, Nat.reduceAdd], rfl, trivial, rfl, ?_⟩
    intro hpre hlen
    refine ⟨trivial, ?_⟩
    simp (config := {maxSteps := 10000000}) only [x15, push_cast, Nat.reduceAdd, Nat.reduceSub, Nat.reduceLeDiff, Nat.reduceEqDiff, Nat.reduceBEq, Nat.reduceMul, Nat.reduceLT, reduceIte, reduceCtorEq, Int.reduceLE, Int.reduceLT, Int.reduceEq, Int.reduceMul, Int.reduceAdd, Int.reduceSub, Int.reduceNeg, Int.reduceToNat, Int.reduceNe]
    exact (Bool.decide_or _ _).symm
  · cases hg_
/-- wayfinder/wayfinderlaw24.awake -/
def g8 : Con := fun args_ E_ nn_ => match args_ with
  | [] => some (.q (True) (.o (.c (.v (.bool (true))))))
  | _ => none
theorem c8 : COk Try.prog 8 g8 := by
  refine cok_q Try.func8 x8_ok (by kernel_rfl) (cok_tab (cok_cons c16 (cok_cons c10 (cok_cons c28 cok_nil)))) ?_
  intro args_ E_ nn_ cr_ hg_
  unfold g8 at hg_
  split at hg_
  · skip
    cases hg_
    refine ⟨_, _, rfl, 0, [], [], [], .o (.c (.v (.bool (true)))), rfl, rfl, by simp only [push_cast, Nat.reduceLT, Nat.reduceAdd], by simp only [push_cast, Nat.reduceLT, Nat.reduceAdd], by simp only [push_cast, Nat.reduceLT, Nat.reduceAdd], rfl, trivial, rfl, ?_⟩
    intro hpre hlen
    refine ⟨trivial, ?_⟩
    have q1 : isRow eU8 3 1 (litF [SC.v (Value.int IntKind.u8 1), SC.v (Value.int IntKind.u8 1), SC.v (Value.int IntKind.u8 1)] 1) ↔ True := iff_true_intro (lits_row eU8 [1, 1, 1]).1
    have q2 : decL eU8 3 (litF [SC.v (Value.int IntKind.u8 1), SC.v (Value.int IntKind.u8 1), SC.v (Value.int IntKind.u8 1)] 1) = [1, 1, 1] := (lits_row eU8 [1, 1, 1]).2
    have r1 : isRow eC 1 2 (litF [SC.v (Value.int IntKind.i64 0), SC.v (Value.int IntKind.i64 160)] 2) ↔ True := iff_true_intro (lits_row eC [(⟨0, 160⟩ : CC)]).1
    have r2 : decL eC 1 (litF [SC.v (Value.int IntKind.i64 0), SC.v (Value.int IntKind.i64 160)] 2) = [(⟨0, 160⟩ : CC)] := (lits_row eC [(⟨0, 160⟩ : CC)]).2
    have r3 : litF [SC.v (Value.int IntKind.i64 0), SC.v (Value.int IntKind.i64 160)] 2 0 0 = SC.v (Value.int IntKind.i64 0) := rfl
    have r4 : litF [SC.v (Value.int IntKind.i64 0), SC.v (Value.int IntKind.i64 160)] 2 0 1 = SC.v (Value.int IntKind.i64 160) := rfl
    have u1 : isRow eB 1 6 (litF [SC.v (Value.int IntKind.i64 32), SC.v (Value.int IntKind.i64 32), SC.v (Value.int IntKind.i64 32), SC.v (Value.int IntKind.i64 32), SC.v (Value.int IntKind.i64 0), SC.v (Value.int IntKind.i64 1)] 6) ↔ True := iff_true_intro (lits_row eB [(⟨32, 32, 32, 32, 0, 1⟩ : BB)]).1
    have u2 : decL eB 1 (litF [SC.v (Value.int IntKind.i64 32), SC.v (Value.int IntKind.i64 32), SC.v (Value.int IntKind.i64 32), SC.v (Value.int IntKind.i64 32), SC.v (Value.int IntKind.i64 0), SC.v (Value.int IntKind.i64 1)] 6) = [(⟨32, 32, 32, 32, 0, 1⟩ : BB)] := (lits_row eB [(⟨32, 32, 32, 32, 0, 1⟩ : BB)]).2
    simp (config := {maxSteps := 10000000}) only [x8, push_cast, Nat.reduceAdd, Nat.reduceSub, Nat.reduceLeDiff, Nat.reduceEqDiff, Nat.reduceBEq, Nat.reduceMul, Nat.reduceLT, reduceIte, reduceCtorEq, Int.reduceLE, Int.reduceLT, Int.reduceEq, Int.reduceMul, Int.reduceAdd, Int.reduceSub, Int.reduceNeg, Int.reduceToNat, Int.reduceNe, g16, g10, g28, q1, q2, r1, r2, u1, u2, r3, r4]
    have b1 : refuB 3 1 [1, 1, 1] 32 32 32 32 0 0 160 1 = false := by rw [refu_comp]; decide +kernel
    have b2 : refuB 3 1 [1, 1, 1] 32 32 32 32 0 0 158 1 = true := by rw [refu_comp]; decide +kernel
    have b3 : refuB 3 1 [1, 1, 1] 32 32 32 32 0 0 163 1 = true := by rw [refu_comp]; decide +kernel
    have b4 : rightB 3 1 [1, 1, 1] [⟨0, 160⟩] 1 = true := by decide +kernel
    have b5 : badB 3 1 [1, 1, 1] 32 32 32 32 0 [⟨0, 160⟩] 1 = false := by rw [bad_one (by decide) (by decide)]; decide +kernel
    have b6 := rfn_one (X0 := 32) (Y0 := 32) (X1 := 32) (Y1 := 32) (F := 0) b4 (by decide) (by decide) (by decide) b5
    exact ⟨⟨⟨⟨⟨b1, b2⟩, b3⟩, b6.1⟩, by rw [b6.2]; rfl⟩, b4, b5⟩
  · cases hg_
/-- wayfinder/wayfinderbase.Building -/
def g12 : Con := fun args_ E_ nn_ => match args_ with
  | [.a [.v (.int .i64 p_W), .v (.int .i64 p_H), .n p_Cells]] => (match rowOf E_ p_Cells with
    | some (p_Cells_n, p_Cells_s, p_Cells_f) => some (.q (isRow eU8 p_Cells_n p_Cells_s p_Cells_f ∧ True) (.o (.c (.v (.bool (bldB p_W p_H (decL eU8 p_Cells_n p_Cells_f)))))))
    | none => none)
  | _ => none
theorem c12 : COk Try.prog 12 g12 := by
  refine cok_q Try.func12 x12_ok (by kernel_rfl) (cok_tab (cok_cons c34 cok_nil)) ?_
  intro args_ E_ nn_ cr_ hg_
  unfold g12 at hg_
  split at hg_
  · rename_i p_W p_H p_Cells
    split at hg_
    · rename_i p_Cells_n p_Cells_s p_Cells_f h_p_Cells
      cases hg_
      refine ⟨_, _, rfl, 1, [p_Cells], [.a [.v (.int .i64 p_W), .v (.int .i64 p_H), .n 0]], [(0, .ro (decL eU8 p_Cells_n p_Cells_f).length eU8.sz (rowF eU8 (decL eU8 p_Cells_n p_Cells_f)))], .o (.c (.v (.bool (bldB p_W p_H (decL eU8 p_Cells_n p_Cells_f))))), rfl, rfl, by simp only [push_cast, Nat.reduceLT, Nat.reduceAdd], by simp only [push_cast, Nat.reduceLT, Nat.reduceAdd], by simp only [push_cast, Nat.reduceLT, Nat.reduceAdd], rfl, ⟨inE0_row h_p_Cells, trivial⟩, rfl, ?_⟩
      intro hpre hlen
      obtain ⟨i_p_Cells, hpre⟩ := hpre
      refine ⟨⟨inE_row h_p_Cells i_p_Cells, trivial⟩, ?_⟩
      have z_p_Cells := lens_row (E := eU8) hlen h_p_Cells
      clear i_p_Cells
      generalize decL eU8 p_Cells_n p_Cells_f = p_CellsL at *
      clear h_p_Cells
      simp (config := {maxSteps := 10000000}) only [x12, push_cast, Nat.reduceAdd, Nat.reduceSub, Nat.reduceLeDiff, Nat.reduceEqDiff, Nat.reduceBEq, Nat.reduceMul, Nat.reduceLT, reduceIte, reduceCtorEq, Int.reduceLE, Int.reduceLT, Int.reduceEq, Int.reduceMul, Int.reduceAdd, Int.reduceSub, Int.reduceNeg, Int.reduceToNat, Int.reduceNe, g34]
      refine ⟨fun h => by unfold bldB; rw [h]; rfl, fun h => ?_⟩
      unfold bldB
      rw [h, Bool.true_and]
      refine vcLoop_upd (α := {k : Nat // k ≤ p_CellsL.length ∧ ∀ i, i < k → p_CellsL.getD i eU8.dflt ≠ 0}) [1] 0 (fun s => [(3, .o (.c (.v (.int .i64 (s.1 : Nat)))))]) (fun s => []) (fun s => p_CellsL.length - s.1) ⟨0, by omega, fun i hi => by omega⟩ ?_ ?_
      · simp only [push_cast, Nat.reduceAdd, Nat.reduceSub, Nat.reduceLeDiff, Nat.reduceEqDiff, Nat.reduceBEq, Nat.reduceMul, Nat.reduceLT, reduceIte, reduceCtorEq, Int.reduceLE, Int.reduceLT, Int.reduceEq, Int.reduceMul, Int.reduceAdd, Int.reduceSub, Int.reduceNeg, Int.reduceToNat, Int.reduceNe, g34]
      rintro ⟨k, hk, hall⟩
      simp only [x12L0, push_cast, Nat.reduceAdd, Nat.reduceSub, Nat.reduceLeDiff, Nat.reduceEqDiff, Nat.reduceBEq, Nat.reduceMul, Nat.reduceLT, reduceIte, reduceCtorEq, Int.reduceLE, Int.reduceLT, Int.reduceEq, Int.reduceMul, Int.reduceAdd, Int.reduceSub, Int.reduceNeg, Int.reduceToNat, Int.reduceNe, g34]
      refine ⟨fun hlt => ⟨hlt, hlt, fun g => ?_, fun g => ⟨⟨k + 1, by omega, fun i hi => by by_cases e : i = k; subst e; exact g; exact hall i (by omega)⟩, wrapI (by omega) (by omega), by simp only; omega⟩⟩, fun hge => ?_⟩
      · symm; rw [List.all_eq_false]; exact ⟨_, get8_in hlt, by rw [g]; simp⟩
      · symm; rw [List.all_eq_true]
        intro c hc
        obtain ⟨j, hj, e⟩ := mem8_at hc
        rw [← e]; exact decide_eq_true (hall j (by omega))
    · cases hg_
  · cases hg_
/-- wayfinder/wayfinderlaw24.hidden -/
def g13 : Con := fun args_ E_ nn_ => match args_ with
  | [.a [.v (.int .i64 p_W), .v (.int .i64 p_H), .n p_Cells], .c (.n veil)] => (match rowOf E_ p_Cells with
    | some (p_Cells_n, p_Cells_s, p_Cells_f) => (match rowOf E_ veil with
    | some (veil_n, veil_s, veil_f) => some (.e (isRow eU8 p_Cells_n p_Cells_s p_Cells_f ∧ isRow eU8 veil_n veil_s veil_f ∧ ((decL eU8 p_Cells_n p_Cells_f)).length ≤ 100000) (.o (.a [.v (.int .i64 p_W), .v (.int .i64 p_H), .n (nn_ + 0)])) [((nn_ + 0), .own (hidL (decL eU8 p_Cells_n p_Cells_f) (decL eU8 veil_n veil_f)).length 1 (rowF eU8 (hidL (decL eU8 p_Cells_n p_Cells_f) (decL eU8 veil_n veil_f))) 5)] (nn_ + 1))
    | none => none)
    | none => none)
  | _ => none
theorem c13 : COk Try.prog 13 g13 := by
  refine cok_e Try.func13 x13_ok (by kernel_rfl) (cok_tab cok_nil) ?_
  intro args_ E_ nn_ cr_ hg_
  unfold g13 at hg_
  split at hg_
  · rename_i p_W p_H p_Cells veil
    split at hg_
    · rename_i p_Cells_n p_Cells_s p_Cells_f h_p_Cells
      split at hg_
      · rename_i veil_n veil_s veil_f h_veil
        cases hg_
        refine ⟨_, _, _, _, rfl, 2, [p_Cells, veil], [.a [.v (.int .i64 p_W), .v (.int .i64 p_H), .n 0], .c (.n 1)], [(0, .ro (decL eU8 p_Cells_n p_Cells_f).length eU8.sz (rowF eU8 (decL eU8 p_Cells_n p_Cells_f))), (1, .ro (decL eU8 veil_n veil_f).length eU8.sz (rowF eU8 (decL eU8 veil_n veil_f)))], .o (.a [.v (.int .i64 p_W), .v (.int .i64 p_H), .n 2]), [(2, .own (hidL (decL eU8 p_Cells_n p_Cells_f) (decL eU8 veil_n veil_f)).length 1 (rowF eU8 (hidL (decL eU8 p_Cells_n p_Cells_f) (decL eU8 veil_n veil_f))) 5)], 3, rfl, rfl, by simp only [renE, Ent.ren, rowF_renf] <;> rfl, rfl, by decide, by simp only [push_cast, Nat.reduceLT, Nat.reduceAdd], by simp only [push_cast, Nat.reduceLT, Nat.reduceAdd], by simp only [push_cast, Nat.reduceLT, Nat.reduceAdd], by simp only [push_cast, Nat.reduceLT, Nat.reduceAdd], rfl, ⟨inE0_row h_p_Cells, inE0_row h_veil, trivial⟩, by simp only [keysNodup, outN, keys] <;> decide, rfl, rfl, ?_⟩
        intro hpre hlen
        obtain ⟨i_p_Cells, hpre⟩ := hpre
        obtain ⟨i_veil, hpre⟩ := hpre
        refine ⟨⟨inE_row h_p_Cells i_p_Cells, inE_row h_veil i_veil, trivial⟩, by simp only [apartE] <;> (first | trivial | (simp [Ent.mut]; done)), ?_⟩
        have z_p_Cells := lens_row (E := eU8) hlen h_p_Cells
        have z_veil := lens_row (E := eU8) hlen h_veil
        clear i_p_Cells
        generalize decL eU8 p_Cells_n p_Cells_f = p_CellsL at *
        clear i_veil
        generalize decL eU8 veil_n veil_f = veilL at *
        clear h_p_Cells
        clear h_veil
        simp (config := {maxSteps := 10000000}) only [x13, push_cast, Nat.reduceAdd, Nat.reduceSub, Nat.reduceLeDiff, Nat.reduceEqDiff, Nat.reduceBEq, Nat.reduceMul, Nat.reduceLT, reduceIte, reduceCtorEq, Int.reduceLE, Int.reduceLT, Int.reduceEq, Int.reduceMul, Int.reduceAdd, Int.reduceSub, Int.reduceNeg, Int.reduceToNat, Int.reduceNe]
        refine ⟨by omega, by rfl, ?_⟩
        refine vcLoop_upd (α := {k : Nat // k ≤ hidN p_CellsL veilL}) [1, 4, 5] 0 (fun s => [(6, .o (.c (.v (.int .i64 (s.1 : Nat)))))]) (fun s => [(5, .own (hidS p_CellsL veilL s.1).length 1 (rowF eU8 (hidS p_CellsL veilL s.1)) 5)]) (fun s => hidN p_CellsL veilL - s.1) ⟨0, by omega⟩ ?_ ?_
        · simp only [push_cast, Nat.reduceAdd, Nat.reduceSub, Nat.reduceLeDiff, Nat.reduceEqDiff, Nat.reduceBEq, Nat.reduceMul, Nat.reduceLT, reduceIte, reduceCtorEq, Int.reduceLE, Int.reduceLT, Int.reduceEq, Int.reduceMul, Int.reduceAdd, Int.reduceSub, Int.reduceNeg, Int.reduceToNat, Int.reduceNe, hidS_zero]
          exact app8
        rintro ⟨k, hk⟩
        have h8 := wrap_le8 veilL.length
        simp only [x13L0, push_cast, Nat.reduceAdd, Nat.reduceSub, Nat.reduceLeDiff, Nat.reduceEqDiff, Nat.reduceBEq, Nat.reduceMul, Nat.reduceLT, reduceIte, reduceCtorEq, Int.reduceLE, Int.reduceLT, Int.reduceEq, Int.reduceMul, Int.reduceAdd, Int.reduceSub, Int.reduceNeg, Int.reduceToNat, Int.reduceNe, hidS_len]
        unfold hidN at hk
        have d1 : ((k : Int)).tdiv 8 = ((k / 8 : Nat) : Int) := by rw [Int.tdiv_eq_ediv_of_nonneg (by omega)]; omega
        have d2 : ((k : Int)).tmod 8 = ((k % 8 : Nat) : Int) := by rw [Int.tmod_eq_emod_of_nonneg (by omega)]; omega
        rw [d1, d2, wrapI (n := ((k / 8 : Nat) : Int)) (by omega) (by omega)]
        simp only [Int.toNat_natCast]
        have st1 : ∀ b : Bnd, vB veilL k = true → k < p_CellsL.length → rowEq p_CellsL.length 1 (updF (rowF eU8 (hidS p_CellsL veilL k)) k 0 [SC.v (Value.int IntKind.u8 0)]) (rowF eU8 (hidS p_CellsL veilL (k + 1))) (SC.sub b) := by
          intro b g h
          rw [hidS_yes g h, upd8 (by rw [hidS_len]; omega)]
          exact (rowEq_rowF _ _ _ _).2 trivial
        have st2 : ∀ b : Bnd, vB veilL k = false → rowEq p_CellsL.length 1 (rowF eU8 (hidS p_CellsL veilL k)) (rowF eU8 (hidS p_CellsL veilL (k + 1))) (SC.sub b) := by
          intro b g
          rw [hidS_no g]
          exact (rowEq_rowF _ _ _ _).2 trivial
        refine ⟨fun h1 h2 => ⟨by omega, by omega, by omega, fun g => ⟨h1, h1, ⟨k + 1, by unfold hidN; omega⟩, ⟨wrapI (by omega) (by omega), st1 _ (by unfold vB; rw [decide_eq_false g]; rfl) h1⟩, by simp only; unfold hidN; omega⟩, fun g => ⟨⟨k + 1, by unfold hidN; omega⟩, ⟨wrapI (by omega) (by omega), st2 _ (by unfold vB; rw [decide_eq_true g]; rfl)⟩, by simp only; unfold hidN; omega⟩⟩, fun h => ?_⟩
        · have e : k = hidN p_CellsL veilL := by
            unfold hidN
            rw [← Bool.decide_and, decide_eq_false_iff_not] at h
            omega
          unfold hidL
          rw [← e]
          simp only [hidS_len]
          exact ⟨trivial, (rowEq_rowF _ _ _ _).2 trivial⟩
      · cases hg_
    · cases hg_
  · cases hg_
/-- wayfinder/wayfinderlaw24.ContractRefutes -/
def g3 : Con := fun args_ E_ nn_ => match args_ with
  | [.a [.v (.int .i64 p_W), .v (.int .i64 p_H), .n p_Cells], .a [.v (.int .i64 x_Rect_X0), .v (.int .i64 x_Rect_Y0), .v (.int .i64 x_Rect_X1), .v (.int .i64 x_Rect_Y1), .v (.int .i64 x_H), .v (.int .i64 x_Beam_Mark), .v (.int .i64 x_Beam_Reading), .v (.int .i64 x_Rng)]] => (match rowOf E_ p_Cells with
    | some (p_Cells_n, p_Cells_s, p_Cells_f) => some (.q (isRow eU8 p_Cells_n p_Cells_s p_Cells_f ∧ True) (.o (.c (.v (.bool (true))))))
    | none => none)
  | _ => none
theorem c3 : COk Try.prog 3 g3 := by
  refine cok_q Try.func3 x3_ok (by kernel_rfl) (cok_tab (cok_cons c8 (cok_cons c9n (cok_cons c10 (cok_cons c11 cok_nil))))) ?_
  intro args_ E_ nn_ cr_ hg_
  unfold g3 at hg_
  split at hg_
  · rename_i p_W p_H p_Cells x_Rect_X0 x_Rect_Y0 x_Rect_X1 x_Rect_Y1 x_H x_Beam_Mark x_Beam_Reading x_Rng
    split at hg_
    · rename_i p_Cells_n p_Cells_s p_Cells_f h_p_Cells
      cases hg_
      refine ⟨_, _, rfl, 1, [p_Cells], [.a [.v (.int .i64 p_W), .v (.int .i64 p_H), .n 0], .a [.v (.int .i64 x_Rect_X0), .v (.int .i64 x_Rect_Y0), .v (.int .i64 x_Rect_X1), .v (.int .i64 x_Rect_Y1), .v (.int .i64 x_H), .v (.int .i64 x_Beam_Mark), .v (.int .i64 x_Beam_Reading), .v (.int .i64 x_Rng)]], [(0, .ro (decL eU8 p_Cells_n p_Cells_f).length eU8.sz (rowF eU8 (decL eU8 p_Cells_n p_Cells_f)))], .o (.c (.v (.bool (true)))), rfl, rfl, by simp only [push_cast, Nat.reduceLT, Nat.reduceAdd], by simp only [push_cast, Nat.reduceLT, Nat.reduceAdd], by simp only [push_cast, Nat.reduceLT, Nat.reduceAdd], rfl, ⟨inE0_row h_p_Cells, trivial⟩, rfl, ?_⟩
      intro hpre hlen
      obtain ⟨i_p_Cells, hpre⟩ := hpre
      refine ⟨⟨inE_row h_p_Cells i_p_Cells, trivial⟩, ?_⟩
      have z_p_Cells := lens_row (E := eU8) hlen h_p_Cells
      clear i_p_Cells
      generalize decL eU8 p_Cells_n p_Cells_f = p_CellsL at *
      clear h_p_Cells
      simp (config := {maxSteps := 10000000}) only [x3, push_cast, Nat.reduceAdd, Nat.reduceSub, Nat.reduceLeDiff, Nat.reduceEqDiff, Nat.reduceBEq, Nat.reduceMul, Nat.reduceLT, reduceIte, reduceCtorEq, Int.reduceLE, Int.reduceLT, Int.reduceEq, Int.reduceMul, Int.reduceAdd, Int.reduceSub, Int.reduceNeg, Int.reduceToNat, Int.reduceNe, g8, g9n, g10, g11]
    · cases hg_
  · cases hg_
/-- wayfinder/wayfinderlaw24.ContractSmaller -/
def g4 : Con := fun args_ E_ nn_ => match args_ with
  | [.a [.v (.int .i64 x_Plan_W), .v (.int .i64 x_Plan_H), .n x_Plan_Cells, .v (.int .i64 x_At_X), .v (.int .i64 x_At_Y), .v (.int .i64 x_At_H), .n x_Marks, .n x_Errs, .v (.int .i64 x_Rng), .n x_Veil], .a [.v (.int .i64 y_Rect_X0), .v (.int .i64 y_Rect_Y0), .v (.int .i64 y_Rect_X1), .v (.int .i64 y_Rect_Y1), .v (.int .i64 y_H), .v (.int .i64 y_Beam_Mark), .v (.int .i64 y_Beam_Reading), .v (.int .i64 y_Rng)], .a [.v (.int .u8 cut_0), .v (.int .u8 cut_1), .v (.int .u8 cut_2), .v (.int .u8 cut_3)]] => (match rowOf E_ x_Plan_Cells with
    | some (x_Plan_Cells_n, x_Plan_Cells_s, x_Plan_Cells_f) => (match rowOf E_ x_Marks with
    | some (x_Marks_n, x_Marks_s, x_Marks_f) => (match rowOf E_ x_Errs with
    | some (x_Errs_n, x_Errs_s, x_Errs_f) => (match rowOf E_ x_Veil with
    | some (x_Veil_n, x_Veil_s, x_Veil_f) => some (.q (isRow eU8 x_Plan_Cells_n x_Plan_Cells_s x_Plan_Cells_f ∧ isRow eI x_Marks_n x_Marks_s x_Marks_f ∧ isRow eI x_Errs_n x_Errs_s x_Errs_f ∧ isRow eU8 x_Veil_n x_Veil_s x_Veil_f ∧ (0 ≤ cut_0 ∧ cut_0 ≤ 255) ∧ (0 ≤ cut_1 ∧ cut_1 ≤ 255) ∧ (0 ≤ cut_2 ∧ cut_2 ≤ 255) ∧ (0 ≤ cut_3 ∧ cut_3 ≤ 255)) (.o (.c (.v (.bool (true))))))
    | none => none)
    | none => none)
    | none => none)
    | none => none)
  | _ => none
set_option maxHeartbeats 1000000 in
theorem c4 : COk Try.prog 4 g4 := by
  refine cok_q Try.func4 x4_ok (by kernel_rfl) (cok_tab (cok_cons c8 (cok_cons c12 (cok_cons c13 (cok_cons c10 (cok_cons c14 cok_nil)))))) ?_
  intro args_ E_ nn_ cr_ hg_
  unfold g4 at hg_
  split at hg_
  · rename_i x_Plan_W x_Plan_H x_Plan_Cells x_At_X x_At_Y x_At_H x_Marks x_Errs x_Rng x_Veil y_Rect_X0 y_Rect_Y0 y_Rect_X1 y_Rect_Y1 y_H y_Beam_Mark y_Beam_Reading y_Rng cut_0 cut_1 cut_2 cut_3
    split at hg_
    · rename_i x_Plan_Cells_n x_Plan_Cells_s x_Plan_Cells_f h_x_Plan_Cells
      split at hg_
      · rename_i x_Marks_n x_Marks_s x_Marks_f h_x_Marks
        split at hg_
        · rename_i x_Errs_n x_Errs_s x_Errs_f h_x_Errs
          split at hg_
          · rename_i x_Veil_n x_Veil_s x_Veil_f h_x_Veil
            cases hg_
            refine ⟨_, _, rfl, 4, [x_Plan_Cells, x_Marks, x_Errs, x_Veil], [.a [.v (.int .i64 x_Plan_W), .v (.int .i64 x_Plan_H), .n 0, .v (.int .i64 x_At_X), .v (.int .i64 x_At_Y), .v (.int .i64 x_At_H), .n 1, .n 2, .v (.int .i64 x_Rng), .n 3], .a [.v (.int .i64 y_Rect_X0), .v (.int .i64 y_Rect_Y0), .v (.int .i64 y_Rect_X1), .v (.int .i64 y_Rect_Y1), .v (.int .i64 y_H), .v (.int .i64 y_Beam_Mark), .v (.int .i64 y_Beam_Reading), .v (.int .i64 y_Rng)], .a [.v (.int .u8 cut_0), .v (.int .u8 cut_1), .v (.int .u8 cut_2), .v (.int .u8 cut_3)]], [(0, .ro (decL eU8 x_Plan_Cells_n x_Plan_Cells_f).length eU8.sz (rowF eU8 (decL eU8 x_Plan_Cells_n x_Plan_Cells_f))), (1, .ro (decL eI x_Marks_n x_Marks_f).length eI.sz (rowF eI (decL eI x_Marks_n x_Marks_f))), (2, .ro (decL eI x_Errs_n x_Errs_f).length eI.sz (rowF eI (decL eI x_Errs_n x_Errs_f))), (3, .ro (decL eU8 x_Veil_n x_Veil_f).length eU8.sz (rowF eU8 (decL eU8 x_Veil_n x_Veil_f)))], .o (.c (.v (.bool (true)))), rfl, rfl, by simp only [push_cast, Nat.reduceLT, Nat.reduceAdd], by simp only [push_cast, Nat.reduceLT, Nat.reduceAdd], by simp only [push_cast, Nat.reduceLT, Nat.reduceAdd], rfl, ⟨inE0_row h_x_Plan_Cells, inE0_row h_x_Marks, inE0_row h_x_Errs, inE0_row h_x_Veil, trivial⟩, rfl, ?_⟩
            intro hpre hlen
            obtain ⟨i_x_Plan_Cells, hpre⟩ := hpre
            obtain ⟨i_x_Marks, hpre⟩ := hpre
            obtain ⟨i_x_Errs, hpre⟩ := hpre
            obtain ⟨i_x_Veil, hpre⟩ := hpre
            refine ⟨⟨inE_row h_x_Plan_Cells i_x_Plan_Cells, inE_row h_x_Marks i_x_Marks, inE_row h_x_Errs i_x_Errs, inE_row h_x_Veil i_x_Veil, trivial⟩, ?_⟩
            have z_x_Plan_Cells := lens_row (E := eU8) hlen h_x_Plan_Cells
            have z_x_Marks := lens_row (E := eI) hlen h_x_Marks
            have z_x_Errs := lens_row (E := eI) hlen h_x_Errs
            have z_x_Veil := lens_row (E := eU8) hlen h_x_Veil
            clear i_x_Plan_Cells
            generalize decL eU8 x_Plan_Cells_n x_Plan_Cells_f = x_Plan_CellsL at *
            clear i_x_Marks
            generalize decL eI x_Marks_n x_Marks_f = x_MarksL at *
            clear i_x_Errs
            generalize decL eI x_Errs_n x_Errs_f = x_ErrsL at *
            clear i_x_Veil
            generalize decL eU8 x_Veil_n x_Veil_f = x_VeilL at *
            clear h_x_Plan_Cells
            clear h_x_Marks
            clear h_x_Errs
            clear h_x_Veil
            simp (config := {maxSteps := 10000000}) only [x4, push_cast, Nat.reduceAdd, Nat.reduceSub, Nat.reduceLeDiff, Nat.reduceEqDiff, Nat.reduceBEq, Nat.reduceMul, Nat.reduceLT, reduceIte, reduceCtorEq, Int.reduceLE, Int.reduceLT, Int.reduceEq, Int.reduceMul, Int.reduceAdd, Int.reduceSub, Int.reduceNeg, Int.reduceToNat, Int.reduceNe, g8, g12, g13, g10, g14]
            refine fun hb h64 => ⟨by omega, fun hr => ⟨⟨bl_hid (bld_plan hb), smaller_law hpre.1 hpre.2.1 hpre.2.2.1 hpre.2.2.2 hr⟩, ?_⟩⟩
            have g := refu_adm hr
            exact refu_mono (hid_knows (bld_plan hb)) ⟨Int.le_refl _, g.2.2.1, Int.le_refl _⟩ ⟨Int.le_refl _, g.2.2.2, Int.le_refl _⟩ hr
          · cases hg_
        · cases hg_
      · cases hg_
    · cases hg_
  · cases hg_
/-- wayfinder/wayfinderlaw24.ContractSound -/
def g6 : Con := fun args_ E_ nn_ => match args_ with
  | [.a [.v (.int .i64 x_Plan_W), .v (.int .i64 x_Plan_H), .n x_Plan_Cells, .v (.int .i64 x_At_X), .v (.int .i64 x_At_Y), .v (.int .i64 x_At_H), .n x_Marks, .n x_Errs, .v (.int .i64 x_Rng), .n x_Veil], .a [.v (.int .i64 b_Mark), .v (.int .i64 b_Reading)], .a [.v (.int .i64 r_X0), .v (.int .i64 r_Y0), .v (.int .i64 r_X1), .v (.int .i64 r_Y1)]] => (match rowOf E_ x_Plan_Cells with
    | some (x_Plan_Cells_n, x_Plan_Cells_s, x_Plan_Cells_f) => (match rowOf E_ x_Marks with
    | some (x_Marks_n, x_Marks_s, x_Marks_f) => (match rowOf E_ x_Errs with
    | some (x_Errs_n, x_Errs_s, x_Errs_f) => (match rowOf E_ x_Veil with
    | some (x_Veil_n, x_Veil_s, x_Veil_f) => some (.q (isRow eU8 x_Plan_Cells_n x_Plan_Cells_s x_Plan_Cells_f ∧ isRow eI x_Marks_n x_Marks_s x_Marks_f ∧ isRow eI x_Errs_n x_Errs_s x_Errs_f ∧ isRow eU8 x_Veil_n x_Veil_s x_Veil_f ∧ True) (.o (.c (.v (.bool (true))))))
    | none => none)
    | none => none)
    | none => none)
    | none => none)
  | _ => none
set_option maxHeartbeats 1000000 in
theorem c6 : COk Try.prog 6 g6 := by
  refine cok_q Try.func6 x6_ok (by kernel_rfl) (cok_tab (cok_cons c8 (cok_cons c12 (cok_cons c22 (cok_cons c23 (cok_cons c13 (cok_cons c10 cok_nil))))))) ?_
  intro args_ E_ nn_ cr_ hg_
  unfold g6 at hg_
  split at hg_
  · rename_i x_Plan_W x_Plan_H x_Plan_Cells x_At_X x_At_Y x_At_H x_Marks x_Errs x_Rng x_Veil b_Mark b_Reading r_X0 r_Y0 r_X1 r_Y1
    split at hg_
    · rename_i x_Plan_Cells_n x_Plan_Cells_s x_Plan_Cells_f h_x_Plan_Cells
      split at hg_
      · rename_i x_Marks_n x_Marks_s x_Marks_f h_x_Marks
        split at hg_
        · rename_i x_Errs_n x_Errs_s x_Errs_f h_x_Errs
          split at hg_
          · rename_i x_Veil_n x_Veil_s x_Veil_f h_x_Veil
            cases hg_
            refine ⟨_, _, rfl, 4, [x_Plan_Cells, x_Marks, x_Errs, x_Veil], [.a [.v (.int .i64 x_Plan_W), .v (.int .i64 x_Plan_H), .n 0, .v (.int .i64 x_At_X), .v (.int .i64 x_At_Y), .v (.int .i64 x_At_H), .n 1, .n 2, .v (.int .i64 x_Rng), .n 3], .a [.v (.int .i64 b_Mark), .v (.int .i64 b_Reading)], .a [.v (.int .i64 r_X0), .v (.int .i64 r_Y0), .v (.int .i64 r_X1), .v (.int .i64 r_Y1)]], [(0, .ro (decL eU8 x_Plan_Cells_n x_Plan_Cells_f).length eU8.sz (rowF eU8 (decL eU8 x_Plan_Cells_n x_Plan_Cells_f))), (1, .ro (decL eI x_Marks_n x_Marks_f).length eI.sz (rowF eI (decL eI x_Marks_n x_Marks_f))), (2, .ro (decL eI x_Errs_n x_Errs_f).length eI.sz (rowF eI (decL eI x_Errs_n x_Errs_f))), (3, .ro (decL eU8 x_Veil_n x_Veil_f).length eU8.sz (rowF eU8 (decL eU8 x_Veil_n x_Veil_f)))], .o (.c (.v (.bool (true)))), rfl, rfl, by simp only [push_cast, Nat.reduceLT, Nat.reduceAdd], by simp only [push_cast, Nat.reduceLT, Nat.reduceAdd], by simp only [push_cast, Nat.reduceLT, Nat.reduceAdd], rfl, ⟨inE0_row h_x_Plan_Cells, inE0_row h_x_Marks, inE0_row h_x_Errs, inE0_row h_x_Veil, trivial⟩, rfl, ?_⟩
            intro hpre hlen
            obtain ⟨i_x_Plan_Cells, hpre⟩ := hpre
            obtain ⟨i_x_Marks, hpre⟩ := hpre
            obtain ⟨i_x_Errs, hpre⟩ := hpre
            obtain ⟨i_x_Veil, hpre⟩ := hpre
            refine ⟨⟨inE_row h_x_Plan_Cells i_x_Plan_Cells, inE_row h_x_Marks i_x_Marks, inE_row h_x_Errs i_x_Errs, inE_row h_x_Veil i_x_Veil, trivial⟩, ?_⟩
            have z_x_Plan_Cells := lens_row (E := eU8) hlen h_x_Plan_Cells
            have z_x_Marks := lens_row (E := eI) hlen h_x_Marks
            have z_x_Errs := lens_row (E := eI) hlen h_x_Errs
            have z_x_Veil := lens_row (E := eU8) hlen h_x_Veil
            clear i_x_Plan_Cells
            generalize decL eU8 x_Plan_Cells_n x_Plan_Cells_f = x_Plan_CellsL at *
            clear i_x_Marks
            generalize decL eI x_Marks_n x_Marks_f = x_MarksL at *
            clear i_x_Errs
            generalize decL eI x_Errs_n x_Errs_f = x_ErrsL at *
            clear i_x_Veil
            generalize decL eU8 x_Veil_n x_Veil_f = x_VeilL at *
            clear h_x_Plan_Cells
            clear h_x_Marks
            clear h_x_Errs
            clear h_x_Veil
            simp (config := {maxSteps := 10000000}) only [x6, push_cast, Nat.reduceAdd, Nat.reduceSub, Nat.reduceLeDiff, Nat.reduceEqDiff, Nat.reduceBEq, Nat.reduceMul, Nat.reduceLT, reduceIte, reduceCtorEq, Int.reduceLE, Int.reduceLT, Int.reduceEq, Int.reduceMul, Int.reduceAdd, Int.reduceSub, Int.reduceNeg, Int.reduceToNat, Int.reduceNe, g8, g12, g22, g23, g13, g10]
            exact fun hb h64 hp => ⟨by rfl, by omega, by rfl, sound_law hp hb⟩
          · cases hg_
        · cases hg_
      · cases hg_
    · cases hg_
  · cases hg_
end Go.Proofs.Ytjnelnofbpjdmaa
set_option linter.unusedVariables false
set_option linter.unusedSimpArgs false
set_option maxRecDepth 20000
namespace Go.Proofs.Ytjnelnofbpjdmaa
open Go.Sx Go.Way
/-! ### The pose at which a scan was made stays -/
def BB.has (b : BB) (x y h : Int) : Bool := hasB b.X0 b.Y0 b.X1 b.Y1 b.F b.N x y h
theorem has_iff {b : BB} {x y h : Int} : b.has x y h = true ↔ b.ok = true ∧ b.X0 ≤ x ∧ x ≤ b.X1 ∧ b.Y0 ≤ y ∧ y ≤ b.Y1 ∧ (h - b.F) % 256 < b.N := by
  unfold BB.has hasB BB.ok
  rw [Bool.and_eq_true, decide_eq_true_eq]
section
variable {W H : Int} {L V : List Int} {x y h rng : Int} {S : List CC}
theorem keep_bad {x0 y0 x1 y1 : Int} (hb : bldB W H L = true) (hs : allB W H L x y h rng S = true) (hr : 1 ≤ rng ∧ rng ≤ 32) (hh : 0 ≤ h ∧ h ≤ 255) (hx : x0 ≤ x ∧ x ≤ x1) (hy : y0 ≤ y ∧ y ≤ y1) :
    badB W H (hidL L V) x0 y0 x1 y1 h S rng = false := by
  have hsc : scanB S = true := by
    unfold allB at hs
    rw [Bool.and_eq_true, List.all_eq_true] at hs
    unfold scanB
    rw [Bool.and_eq_true, List.all_eq_true]
    exact ⟨hs.2, fun c hc => plaus_beam (hs.1 c hc)⟩
  have hpl : planB W H (hidL L V) = true := planB_hid (bld_plan hb)
  rw [← refu_any hpl hsc hh hr, List.any_eq_false]
  intro c hc hq
  unfold allB at hs
  rw [Bool.and_eq_true, List.all_eq_true] at hs
  have hp := hs.1 c hc
  have hm := refu_mono (hid_knows (bld_plan hb)) (a0 := x) (a1 := x) (b0 := y) (b1 := y) ⟨hx.1, Int.le_refl _, hx.2⟩ ⟨hy.1, Int.le_refl _, hy.2⟩ hq
  rw [refu_sound hp] at hm
  cases hm
theorem keep_scan (hs : allB W H L x y h rng S = true) : scanB S = true := by
  unfold allB at hs
  rw [Bool.and_eq_true, List.all_eq_true] at hs
  unfold scanB
  rw [Bool.and_eq_true, List.all_eq_true]
  exact ⟨hs.2, fun c hc => plaus_beam (hs.1 c hc)⟩
theorem keep_trm {b : BB} (hb : bldB W H L = true) (hs : allB W H L x y h rng S = true) (hr : 1 ≤ rng ∧ rng ≤ 32) (hh : 0 ≤ h ∧ h ≤ 255) (hx : 0 ≤ x ∧ x ≤ 64 * W) (hy : 0 ≤ y ∧ y ≤ 64 * H) (hk : b.has x y h = true) :
    ∃ c, trmO W H (hidL L V) S rng b = some c ∧ c.has x y h = true := by
  obtain ⟨ho, h1, h2, h3, h4, h5⟩ := has_iff.1 hk
  have p := box_parts ho
  have hf : badF W H (hidL L V) S rng (max b.X0 0) (max b.Y0 0) (min b.X1 (64 * W)) (min b.Y1 (64 * H)) h = false := keep_bad hb hs hr hh (by omega) (by omega)
  have hn : (h - b.F) % 256 < (b.N.toNat : Int) := by omega
  obtain ⟨t1, t2⟩ := trm_keep (fr := b.F) (n := b.N.toNat) (by omega) hh (by exact_mod_cast hn) hf
  have e : trmO W H (hidL L V) S rng b = trmF (badF W H (hidL L V) S rng (max b.X0 0) (max b.Y0 0) (min b.X1 (64 * W)) (min b.Y1 (64 * H))) (max b.X0 0) (max b.Y0 0) (min b.X1 (64 * W)) (min b.Y1 (64 * H)) b.F b.N.toNat := if_neg (by omega)
  cases hc : trmO W H (hidL L V) S rng b with
  | none =>
    rw [e] at hc
    unfold trmF at hc
    rw [if_neg (by omega)] at hc
    cases hc
  | some c =>
    refine ⟨c, rfl, ?_⟩
    have hok := trmO_ok ho hc
    rw [e] at hc
    unfold trmF at hc
    rw [if_neg (by omega)] at hc
    cases hc
    refine has_iff.2 ⟨hok, ?_, ?_, ?_, ?_, ?_⟩
    · simp only; omega
    · simp only; omega
    · simp only; omega
    · simp only; omega
    · simp only
      have : (h - (b.F + ((ldN (badF W H (hidL L V) S rng (max b.X0 0) (max b.Y0 0) (min b.X1 (64 * W)) (min b.Y1 (64 * H))) b.F b.N.toNat : Nat) : Int)) % 256) % 256 = (h - (b.F + ((ldN (badF W H (hidL L V) S rng (max b.X0 0) (max b.Y0 0) (min b.X1 (64 * W)) (min b.Y1 (64 * H))) b.F b.N.toNat : Nat) : Int))) % 256 := by omega
      rw [this]
      exact t2
end
theorem half_has {b : BB} {x y h : Int} (hc : canB b = true) (hk : b.has x y h = true) : (halfA b).has x y h = true ∨ (halfB b).has x y h = true := by
  obtain ⟨ho, h1, h2, h3, h4, h5⟩ := has_iff.1 hk
  have p := box_parts ho
  have ok := half_ok hc
  have hA : ∀ a : BB, a.ok = true → (a.has x y h = true ↔ a.X0 ≤ x ∧ x ≤ a.X1 ∧ a.Y0 ≤ y ∧ y ≤ a.Y1 ∧ (h - a.F) % 256 < a.N) := fun a g => by rw [has_iff]; exact ⟨fun z => z.2, fun z => ⟨g, z⟩⟩
  rw [hA _ ok.1, hA _ ok.2]
  unfold halfA halfB
  by_cases c1 : szI (b.Y1 - b.Y0 + 1) 1 ≤ szI (b.X1 - b.X0 + 1) 1 ∧ szI b.N 8 ≤ szI (b.X1 - b.X0 + 1) 1
  · rw [if_pos c1, if_pos c1]
    simp only
    omega
  · rw [if_neg c1, if_neg c1]
    by_cases c2 : szI b.N 8 ≤ szI (b.Y1 - b.Y0 + 1) 1
    · rw [if_pos c2, if_pos c2]
      simp only
      omega
    · rw [if_neg c2, if_neg c2]
      simp only
      omega
theorem keep_rfn {W H : Int} {L V : List Int} {x y h rng sp : Int} {S : List CC} {b : BB} (hb : bldB W H L = true) (hs : allB W H L x y h rng S = true) (hr : 1 ≤ rng ∧ rng ≤ 32) (hh : 0 ≤ h ∧ h ≤ 255) (hx : 0 ≤ x ∧ x ≤ 64 * W) (hy : 0 ≤ y ∧ y ≤ 64 * H) (hk : b.has x y h = true) (hsp : 0 ≤ sp ∧ sp ≤ 64) :
    rfnE W H (hidL L V) [b] S rng sp = 0 ∧ (rfnL W H (hidL L V) [b] S rng sp).any (fun c => c.has x y h) = true := by
  have hok : ¬ (rightB W H (hidL L V) S rng = false ∨ 16 < [b].length ∨ [b].all BB.ok = false) := by
    rintro (g | g | g)
    · unfold rightB at g
      have hpl : planB W H (hidL L V) = true := planB_hid (bld_plan hb)
      rw [hpl, keep_scan hs, decide_eq_true hr] at g
      cases g
    · simp at g
    · simp only [List.all_cons, List.all_nil, Bool.and_true] at g
      rw [(has_iff.1 hk).1] at g; cases g
  obtain ⟨e1, e2⟩ := rfn_good hok hsp
  refine ⟨e1, ?_⟩
  rw [e2]
  obtain ⟨sp', hi⟩ := rqL_inv (t := trmO W H (hidL L V) S rng) (q := [b]) (sp := sp) (out := []) (P := fun q _ out => ∃ c ∈ q ++ out, c.has x y h = true) ⟨b, by simp, hk⟩
    (by
      rintro d q sp out ⟨c, hc, hq⟩ hn
      rw [List.cons_append, List.mem_cons] at hc
      rcases hc with rfl | hc
      · obtain ⟨c', hc', _⟩ := keep_trm (V := V) hb hs hr hh hx hy hq
        rw [hn] at hc'; cases hc'
      · exact ⟨c, hc, hq⟩)
    (by
      rintro d e q sp out ⟨c, hc, hq⟩ hn hp hcan
      rw [List.cons_append, List.mem_cons] at hc
      rcases hc with rfl | hc
      · obtain ⟨c', hc', hq'⟩ := keep_trm (V := V) hb hs hr hh hx hy hq
        rw [hn] at hc'; cases hc'
        rcases half_has hcan hq' with g | g
        · exact ⟨_, by simp, g⟩
        · exact ⟨_, by simp, g⟩
      · rcases List.mem_append.1 hc with g | g
        · exact ⟨c, by simp [g], hq⟩
        · exact ⟨c, by simp [g], hq⟩)
    (by
      rintro d e q sp out ⟨c, hc, hq⟩ hn
      rw [List.cons_append, List.mem_cons] at hc
      rcases hc with rfl | hc
      · obtain ⟨c', hc', hq'⟩ := keep_trm (V := V) hb hs hr hh hx hy hq
        rw [hn] at hc'; cases hc'
        exact ⟨_, by simp, hq'⟩
      · rcases List.mem_append.1 hc with g | g
        · exact ⟨c, by simp [g], hq⟩
        · exact ⟨c, by simp [g], hq⟩)
  obtain ⟨c, hc, hq⟩ := hi
  exact List.any_eq_true.2 ⟨c, by simpa using hc, hq⟩
/-! ### The scan of a scene -/
def scnC (W H : Int) (L : List Int) (x y h rng : Int) (M : List Int) : Bool := bldB W H L && decide (L.length ≤ 64) && decide (M.length ≤ 3) && decide (1 ≤ rng ∧ rng ≤ 32) && decide ((0 ≤ h ∧ h < 256) ∧ (0 ≤ x ∧ x ≤ 64 * W) ∧ 0 ≤ y ∧ y ≤ 64 * H)
def scnL (W H : Int) (L : List Int) (x y h rng : Int) (M R : List Int) : List CC := if scnC W H L x y h rng M = true then swpL W H L x y h rng M R else []
def scnB (W H : Int) (L : List Int) (x y h rng : Int) (M : List Int) : Bool := scnC W H L x y h rng M && decide (swpE W H L x y h rng M = 0)
def x57 : XFn := ⟨7, (.seq (.reg false [O1 2 (.box 46) 0, K1 3 .mv (.bool false)]) (.seq (.reg false [O1 4 (.loadN 6) 2, O1 5 (.loadN 3) 1, O2 6 (.call 26) 4 5, O1 3 .mv 6]) .ret)), [(.s 3)]⟩
theorem x57_ok : xfn Try.prog Try.f57 = some x57.er := by kernel_rfl
def x87L0 : XC := (.seq (.reg false [O2 9 (.bin .lss) 8 7]) (.seq (.cond (.t 9) .skip (.exit 0)) (.seq (.block 1 (.seq (.reg false [O1 10 .mv 8, O1 5 .mv 10]) (.seq (.reg false [O1 11 .mv 1, O1 12 .mv 0, O1 13 .mv 5, O2 14 (.ixS 6) 12 13, O1 15 (.loadN 6) 14, O2 16 .callv 11 15]) (.cond (.t 16) (.seq (.reg false [O1 17 .mv 5, O1 4 .mv 17]) .ret) .skip)))) (.reg false [K2 18 (.bin .add) 8 (iV 1), O1 8 .mv 18]))))
def x87 : XFn := ⟨19, (.seq (.reg false [K1 4 .mv (iV 0)]) (.seq (.seq (.reg false [O1 6 .mv 0, O1 7 .lenS 6, K1 8 .mv (iV 0)]) (.block 0 (.loop x87L0))) (.seq (.reg false [K1 4 .mv (iV (-1))]) .ret))), [(.s 4)]⟩
theorem x87_ok : xfn Try.prog Try.f87 = some x87.er := by kernel_rfl
def x56 : XFn := ⟨9, (.seq (.reg false [K1 4 .mv (.bool false)]) (.seq (.reg false [O1 5 .mv 0, O1 6 .mv 1, O2 7 (.call 87) 5 6, K2 8 (.bin .geq) 7 (iV 0), O1 4 .mv 8]) .ret)), [(.s 4)]⟩
theorem x56_ok : xfn Try.prog Try.f56 = some x56.er := by kernel_rfl
def x27 : XFn := ⟨8, (.seq (.reg false [O1 3 (.box 36) 1, K1 4 .mv (.bool false)]) (.seq (.reg false [O1 5 .mv 0, ⟨(some 6), (.x (.mkf 57)), [(.t 3)], none⟩, O2 7 (.call 56) 5 6, O1 4 .mv 7]) .ret)), [(.s 4)]⟩
theorem x27_ok : xfn Try.prog Try.f27 = some x27.er := by kernel_rfl
def x24 : XFn := ⟨86, (.seq (.reg false [O1 1 (.box 39) 0, K1 2 .mv (.slice none 0 0), K1 3 .mv (.bool false)]) (.seq (.seq (.reg false [O1 6 (.fld 0) 1, O1 7 (.loadN 3) 6, O1 8 (.call 12) 7, O1 9 (.un .not) 8, O1 10 .mv 9, G1 11 (.fld 0) 1 10 false, G1 12 (.fld 2) 11 10 false, G1 13 .load1 12 10 false, G1 14 .lenS 13 10 false, GK 15 (.bin .gtr) 14 (iV 64) 10 false, ⟨(some 16), .pick, [(.t 10), (.k (.bool true)), (.t 15)], none⟩, O1 17 .mv 16, G1 18 (.fld 6) 1 17 false, G1 19 .load1 18 17 false, G1 20 .lenS 19 17 false, GK 21 (.bin .gtr) 20 (iV 3) 17 false, ⟨(some 22), .pick, [(.t 17), (.k (.bool true)), (.t 21)], none⟩, O1 23 .mv 22, G1 24 (.fld 3) 1 23 false, G1 25 (.loadN 3) 24 23 false, G1 26 (.call 52) 25 23 false, G1 27 (.un .not) 26 23 false, ⟨(some 28), .pick, [(.t 23), (.k (.bool true)), (.t 27)], none⟩, O1 29 .mv 28, G1 30 (.fld 8) 1 29 false, G1 31 .load1 30 29 false, GK 32 (.bin .lss) 31 (iV 1) 29 false, ⟨(some 33), .pick, [(.t 29), (.k (.bool true)), (.t 32)], none⟩, O1 34 .mv 33, G1 35 (.fld 8) 1 34 false, G1 36 .load1 35 34 false, GK 37 (.bin .gtr) 36 (iV 32) 34 false, ⟨(some 38), .pick, [(.t 34), (.k (.bool true)), (.t 37)], none⟩]) (.cond (.t 38) (.seq (.reg false [K1 2 .mv (.slice none 0 0), K1 3 .mv (.bool false)]) .ret) .skip)) (.seq (.seq (.reg false [O1 39 (.fld 3) 1, O1 40 (.fld 0) 39, O1 41 .load1 40, K2 42 (.bin .lss) 41 (iV 0), O1 43 .mv 42, G1 44 (.fld 3) 1 43 false, G1 45 (.fld 0) 44 43 false, G1 46 .load1 45 43 false, G1 47 (.fld 0) 1 43 false, G1 48 (.fld 0) 47 43 false, G1 49 .load1 48 43 false, GK 50 (.bin .mul) 49 (iV 64) 43 false, G2 51 (.bin .gtr) 46 50 43 false, ⟨(some 52), .pick, [(.t 43), (.k (.bool true)), (.t 51)], none⟩, O1 53 .mv 52, G1 54 (.fld 3) 1 53 false, G1 55 (.fld 1) 54 53 false, G1 56 .load1 55 53 false, GK 57 (.bin .lss) 56 (iV 0) 53 false, ⟨(some 58), .pick, [(.t 53), (.k (.bool true)), (.t 57)], none⟩, O1 59 .mv 58, G1 60 (.fld 3) 1 59 false, G1 61 (.fld 1) 60 59 false, G1 62 .load1 61 59 false, G1 63 (.fld 0) 1 59 false, G1 64 (.fld 1) 63 59 false, G1 65 .load1 64 59 false, GK 66 (.bin .mul) 65 (iV 64) 59 false, G2 67 (.bin .gtr) 62 66 59 false, ⟨(some 68), .pick, [(.t 59), (.k (.bool true)), (.t 67)], none⟩]) (.cond (.t 68) (.seq (.reg false [K1 2 .mv (.slice none 0 0), K1 3 .mv (.bool false)]) .ret) .skip)) (.seq (.reg false [O1 70 (.fld 0) 1, O1 71 (.loadN 3) 70, O1 72 (.fld 3) 1, O1 73 (.loadN 3) 72, O1 74 (.fld 6) 1, O1 75 .load1 74, O1 76 (.fld 8) 1, O1 77 .load1 76, O1 78 (.fld 7) 1, O1 79 .load1 78, ⟨(some 80), (.call 53), [(.t 71), (.t 73), (.t 75), (.t 77), (.t 79)], none⟩, O1 69 .mv 80, O1 81 (.ext 0) 69, O1 82 (.ext 1) 69, O1 4 .mv 81, O1 5 .mv 82]) (.seq (.reg false [O1 83 .mv 4, O1 84 .mv 5, K2 85 (.bin .eql) 84 (iV 0), O1 2 .mv 83, O1 3 .mv 85]) .ret))))), [(.s 2), (.s 3)]⟩
theorem x24_ok : xfn Try.prog Try.f24 = some x24.er := by kernel_rfl
def x7 : XFn := ⟨92, (.seq (.reg false [O1 3 (.box 39) 0, O1 4 (.box 46) 1, K1 6 .mv (.bool false)]) (.seq (.seq (.reg false [⟨(some 14), (.call 8), [], none⟩, O1 15 (.un .not) 14]) (.cond (.t 15) (.seq (.reg false [K1 6 .mv (.bool false)]) .ret) .skip)) (.seq (.reg false [O1 17 (.loadN 10) 3, O1 18 (.call 24) 17, O1 16 .mv 18, O1 19 (.ext 0) 16, O1 20 (.ext 1) 16, O1 7 .mv 19, O1 8 .mv 20]) (.seq (.seq (.reg false [O1 21 .mv 8, O1 22 (.un .not) 21, O1 23 .mv 22, G1 24 (.loadN 6) 4 23 false, G1 25 (.call 25) 24 23 false, G1 26 (.un .not) 25 23 false, ⟨(some 27), .pick, [(.t 23), (.k (.bool true)), (.t 26)], none⟩, O1 28 .mv 27, G1 29 (.loadN 6) 4 28 false, G1 30 (.call 15) 29 28 false, G1 31 (.un .not) 30 28 false, ⟨(some 32), .pick, [(.t 28), (.k (.bool true)), (.t 31)], none⟩, O1 33 .mv 32, G1 34 (.loadN 6) 4 33 false, G1 35 (.fld 3) 3 33 false, G1 36 (.loadN 3) 35 33 false, G2 37 (.call 26) 34 36 33 false, G1 38 (.un .not) 37 33 false, ⟨(some 39), .pick, [(.t 33), (.k (.bool true)), (.t 38)], none⟩]) (.cond (.t 39) (.seq (.reg false [K1 6 .mv (.bool true)]) .ret) .skip)) (.seq (.reg false [O1 40 (.fld 0) 3, O1 41 (.loadN 3) 40, O1 42 (.fld 9) 3, O1 43 .load1 42, O2 44 (.call 13) 41 43, ⟨(some 9), (.alloc 24 [(iV 0), (iV 0), (.slice none 0 0)]), [], none⟩, ⟨none, (.store 3), [(.t 9), (.t 44)], none⟩]) (.seq (.reg false [O1 46 (.loadN 3) 9, O1 47 (.loadN 6) 4, O1 48 .mv 7, O1 49 (.fld 8) 3, O1 50 .load1 49, ⟨(some 51), (.call 21), [(.t 46), (.t 47), (.t 48), (.t 50)], none⟩, O1 45 .mv 51, O1 52 (.ext 0) 45, O1 53 (.ext 1) 45, ⟨(some 10), (.alloc 46 [(iV 0), (iV 0), (iV 0), (iV 0), (iV 0), (iV 0)]), [], none⟩, ⟨none, (.store 6), [(.t 10), (.t 52)], none⟩, O1 11 .mv 53]) (.seq (.regD [O1 55 (.loadN 3) 9, O1 56 (.loadN 6) 4, ⟨(some 57), (.slit 46 1 6 [(iV 0), (iV 0), (iV 0), (iV 0), (iV 0), (iV 0)] [(0, 6)]), [(.t 56)], none⟩, O1 58 .mv 7, O1 59 (.fld 8) 3, O1 60 .load1 59, O1 61 .mv 2, K2 62 (.call 17) 61 (iV 5), ⟨(some 63), (.call 16), [(.t 55), (.t 57), (.t 58), (.t 60), (.t 62)], none⟩, O1 54 .mv 63, O1 64 (.ext 0) 54, O1 65 (.ext 1) 54, O1 12 .mv 64, O1 13 .mv 65] [[], [], [1], [], [], [4], [], [6], [0, 2, 1, 3, 5, 4, 7, 6], [8, 0, 2, 1, 3, 5, 4, 7, 6], [9, 8, 0, 2, 1, 3, 5, 4, 7, 6], [9, 8, 0, 2, 1, 3, 5, 4, 7, 6], [10, 9, 8, 0, 2, 1, 3, 5, 4, 7, 6], [11, 9, 8, 0, 2, 1, 3, 5, 4, 7, 6, 12, 10]]) (.seq (.reg false [O1 66 .mv 11, O1 67 .mv 66, G1 68 (.loadN 6) 10 67 true, G1 69 (.fld 3) 3 67 true, G1 70 (.loadN 3) 69 67 true, G2 71 (.call 26) 68 70 67 true, ⟨(some 72), .pick, [(.t 67), (.t 71), (.k (.bool false))], none⟩, O1 73 .mv 72, G1 74 .mv 13 73 true, GK 75 (.bin .eql) 74 (iV 0) 73 true, ⟨(some 76), .pick, [(.t 73), (.t 75), (.k (.bool false))], none⟩, O1 77 .mv 76, G1 78 .mv 12 77 true, G1 79 (.fld 3) 3 77 true, G1 80 (.loadN 3) 79 77 true, G2 81 (.call 27) 78 80 77 true, ⟨(some 82), .pick, [(.t 77), (.t 81), (.k (.bool false))], none⟩, O1 83 .mv 82, G1 84 (.loadN 3) 9 83 true, G1 85 (.fld 3) 3 83 true, G1 86 (.loadN 3) 85 83 true, G1 87 .mv 7 83 true, G1 88 (.fld 8) 3 83 true, G1 89 .load1 88 83 true, ⟨(some 90), (.call 28), [(.t 84), (.t 86), (.t 87), (.t 89)], (some (83, true))⟩, ⟨(some 91), .pick, [(.t 83), (.t 90), (.k (.bool false))], none⟩, O1 6 .mv 91]) .ret)))))))), [(.s 6)]⟩
theorem x7_ok : xfn Try.prog Try.f7 = some x7.er := by kernel_rfl
/-- wayfinder/box.Covers$1 -/
def g57 : Con := fun args_ E_ nn_ => match args_ with
  | [.a [.v (.int .i64 b_X0), .v (.int .i64 b_Y0), .v (.int .i64 b_X1), .v (.int .i64 b_Y1), .v (.int .i64 b_From), .v (.int .i64 b_Count)], .c (.p q 0)] => (match E_ q with
    | some (.box [.v (.int .i64 q_X), .v (.int .i64 q_Y), .v (.int .i64 q_H)] q_ty) => some (.q (True) (.o (.c (.v (.bool (hasB b_X0 b_Y0 b_X1 b_Y1 b_From b_Count q_X q_Y q_H))))))
    | _ => none)
  | _ => none
theorem c57 : COk Try.prog 57 g57 := by
  refine cok_r Try.func57 x57_ok (by kernel_rfl) (cok_tab (cok_cons c26 cok_nil)) ?_
  intro args_ E_ nn_ cr_ hg_
  unfold g57 at hg_
  split at hg_
  · rename_i b_X0 b_Y0 b_X1 b_Y1 b_From b_Count q
    split at hg_
    · rename_i q_X q_Y q_H q_ty h_q
      cases hg_
      refine ⟨_, _, rfl, 1, [q], [.a [.v (.int .i64 b_X0), .v (.int .i64 b_Y0), .v (.int .i64 b_X1), .v (.int .i64 b_Y1), .v (.int .i64 b_From), .v (.int .i64 b_Count)], .c (.p 0 0)], [(0, .box [.v (.int .i64 q_X), .v (.int .i64 q_Y), .v (.int .i64 q_H)] q_ty)], .o (.c (.v (.bool (hasB b_X0 b_Y0 b_X1 b_Y1 b_From b_Count q_X q_Y q_H)))), rfl, rfl, by simp only [push_cast, Nat.reduceLT, Nat.reduceAdd], by simp only [push_cast, Nat.reduceLT, Nat.reduceAdd], by simp only [push_cast, Nat.reduceLT, Nat.reduceAdd], rfl, ⟨⟨_, h_q⟩, trivial⟩, rfl, ?_⟩
      intro hpre hlen
      have hap : apartE (sg 1 nn_ [q]) [(0, .box [.v (.int .i64 q_X), .v (.int .i64 q_Y), .v (.int .i64 q_H)] q_ty)] [(0, .box [.v (.int .i64 q_X), .v (.int .i64 q_Y), .v (.int .i64 q_H)] q_ty)] := by
        refine ⟨fun _ k2 e2 hm hne => ?_, ?_⟩
        · simp only [List.mem_cons, List.not_mem_nil, or_false, Prod.mk.injEq] at hm
          obtain ⟨rfl, _⟩ := hm
          exact absurd rfl hne
        trivial
      refine ⟨⟨⟨_, h_q, by simp only [leE, mapEq, SC.ren, and_true, true_and, and_self] <;> rfl⟩, trivial⟩, hap, ?_⟩
      simp (config := {maxSteps := 10000000}) only [x57, push_cast, Nat.reduceAdd, Nat.reduceSub, Nat.reduceLeDiff, Nat.reduceEqDiff, Nat.reduceBEq, Nat.reduceMul, Nat.reduceLT, reduceIte, reduceCtorEq, Int.reduceLE, Int.reduceLT, Int.reduceEq, Int.reduceMul, Int.reduceAdd, Int.reduceSub, Int.reduceNeg, Int.reduceToNat, Int.reduceNe, g26]
    · cases hg_
  · cases hg_
/-- slices.IndexFunc[[]wayfinder/api.Box,wayfinder/api.Box] -/
def g87 : Con := fun args_ E_ nn_ => match args_ with
  | [.c (.n s), .c (.f 57 [.p q 0])] => (match rowOf E_ s with
    | some (s_n, s_s, s_f) => (match E_ q with
    | some (.box [.v (.int .i64 q_X), .v (.int .i64 q_Y), .v (.int .i64 q_H)] q_ty) => some (.q (isRow eB s_n s_s s_f ∧ True) (.o (.c (.v (.int .i64 (ixOf (fun b => b.has q_X q_Y q_H) (decL eB s_n s_f)))))))
    | _ => none)
    | none => none)
  | _ => none
theorem c87 : COk Try.prog 87 g87 := by
  refine cok_r Try.func87 x87_ok (by kernel_rfl) (cok_tab (cok_cons c57 cok_nil)) ?_
  intro args_ E_ nn_ cr_ hg_
  unfold g87 at hg_
  split at hg_
  · rename_i s q
    split at hg_
    · rename_i s_n s_s s_f h_s
      split at hg_
      · rename_i q_X q_Y q_H q_ty h_q
        cases hg_
        refine ⟨_, _, rfl, 2, [s, q], [.c (.n 0), .c (.f 57 [.p 1 0])], [(0, .ro (decL eB s_n s_f).length eB.sz (rowF eB (decL eB s_n s_f))), (1, .box [.v (.int .i64 q_X), .v (.int .i64 q_Y), .v (.int .i64 q_H)] q_ty)], .o (.c (.v (.int .i64 (ixOf (fun b => b.has q_X q_Y q_H) (decL eB s_n s_f))))), rfl, rfl, by simp only [push_cast, Nat.reduceLT, Nat.reduceAdd], by simp only [push_cast, Nat.reduceLT, Nat.reduceAdd], by simp only [push_cast, Nat.reduceLT, Nat.reduceAdd], rfl, ⟨inE0_row h_s, ⟨_, h_q⟩, trivial⟩, rfl, ?_⟩
        intro hpre hlen
        obtain ⟨i_s, hpre⟩ := hpre
        have hap : apartE (sg 2 nn_ [s, q]) [(0, .ro (decL eB s_n s_f).length eB.sz (rowF eB (decL eB s_n s_f))), (1, .box [.v (.int .i64 q_X), .v (.int .i64 q_Y), .v (.int .i64 q_H)] q_ty)] [(0, .ro (decL eB s_n s_f).length eB.sz (rowF eB (decL eB s_n s_f))), (1, .box [.v (.int .i64 q_X), .v (.int .i64 q_Y), .v (.int .i64 q_H)] q_ty)] := by
          refine ⟨fun h => by (cases h), ?_⟩
          refine ⟨fun _ k2 e2 hm hne => ?_, ?_⟩
          · simp only [List.mem_cons, List.not_mem_nil, or_false, Prod.mk.injEq] at hm
            rcases hm with ⟨rfl, _⟩ | ⟨rfl, _⟩
            · exact fun hh => by
                have hh2 : s = q := hh
                have hh3 := h_s
                rw [hh2] at hh3; unfold rowOf at hh3; rw [h_q] at hh3; cases hh3
            · exact absurd rfl hne
          trivial
        refine ⟨⟨inE_row h_s i_s, ⟨_, h_q, by simp only [leE, mapEq, SC.ren, and_true, true_and, and_self] <;> rfl⟩, trivial⟩, hap, ?_⟩
        have z_s := lens_row (E := eB) hlen h_s
        clear i_s
        generalize decL eB s_n s_f = sL at *
        clear h_s
        simp (config := {maxSteps := 10000000}) only [x87, push_cast, Nat.reduceAdd, Nat.reduceSub, Nat.reduceLeDiff, Nat.reduceEqDiff, Nat.reduceBEq, Nat.reduceMul, Nat.reduceLT, reduceIte, reduceCtorEq, Int.reduceLE, Int.reduceLT, Int.reduceEq, Int.reduceMul, Int.reduceAdd, Int.reduceSub, Int.reduceNeg, Int.reduceToNat, Int.reduceNe, g57]
        refine vcLoop_upd (α := {k : Nat // k ≤ sL.length ∧ ∀ i, i < k → (sL.getD i eB.dflt).has q_X q_Y q_H = false}) [0, 1, 7] 0 (fun s => [(8, .o (.c (.v (.int .i64 (s.1 : Nat)))))]) (fun s => []) (fun s => sL.length - s.1) ⟨0, by omega, fun i hi => by omega⟩ ?_ ?_
        · simp only [push_cast, Nat.reduceAdd, Nat.reduceSub, Nat.reduceLeDiff, Nat.reduceEqDiff, Nat.reduceBEq, Nat.reduceMul, Nat.reduceLT, reduceIte, reduceCtorEq, Int.reduceLE, Int.reduceLT, Int.reduceEq, Int.reduceMul, Int.reduceAdd, Int.reduceSub, Int.reduceNeg, Int.reduceToNat, Int.reduceNe, g57]
        rintro ⟨k, hk, hall⟩
        simp only [x87L0, push_cast, Nat.reduceAdd, Nat.reduceSub, Nat.reduceLeDiff, Nat.reduceEqDiff, Nat.reduceBEq, Nat.reduceMul, Nat.reduceLT, reduceIte, reduceCtorEq, Int.reduceLE, Int.reduceLT, Int.reduceEq, Int.reduceMul, Int.reduceAdd, Int.reduceSub, Int.reduceNeg, Int.reduceToNat, Int.reduceNe, g57]
        refine ⟨fun hlt => ⟨hlt, hlt, fun hw => (ixOf_some (p := fun b => b.has q_X q_Y q_H) (d := eB.dflt) hlt hall hw).symm, fun hw => ⟨⟨k + 1, by omega, fun i hi => by
              by_cases h : i = k
              · subst h; exact hw
              · exact hall i (by omega)⟩, wrapI (by omega) (by omega), by simp only; omega⟩⟩, fun hn => ?_⟩
        exact (ixOf_none (p := fun b => b.has q_X q_Y q_H) (d := eB.dflt) (fun i hi => hall i (by omega))).symm
      · cases hg_
    · cases hg_
  · cases hg_
/-- slices.ContainsFunc[[]wayfinder/api.Box,wayfinder/api.Box] -/
def g56 : Con := fun args_ E_ nn_ => match args_ with
  | [.c (.n s), .c (.f 57 [.p q 0])] => (match rowOf E_ s with
    | some (s_n, s_s, s_f) => (match E_ q with
    | some (.box [.v (.int .i64 q_X), .v (.int .i64 q_Y), .v (.int .i64 q_H)] q_ty) => some (.q (isRow eB s_n s_s s_f ∧ True) (.o (.c (.v (.bool (((decL eB s_n s_f)).any (fun b => b.has q_X q_Y q_H)))))))
    | _ => none)
    | none => none)
  | _ => none
theorem c56 : COk Try.prog 56 g56 := by
  refine cok_r Try.func56 x56_ok (by kernel_rfl) (cok_tab (cok_cons c87 cok_nil)) ?_
  intro args_ E_ nn_ cr_ hg_
  unfold g56 at hg_
  split at hg_
  · rename_i s q
    split at hg_
    · rename_i s_n s_s s_f h_s
      split at hg_
      · rename_i q_X q_Y q_H q_ty h_q
        cases hg_
        refine ⟨_, _, rfl, 2, [s, q], [.c (.n 0), .c (.f 57 [.p 1 0])], [(0, .ro (decL eB s_n s_f).length eB.sz (rowF eB (decL eB s_n s_f))), (1, .box [.v (.int .i64 q_X), .v (.int .i64 q_Y), .v (.int .i64 q_H)] q_ty)], .o (.c (.v (.bool (((decL eB s_n s_f)).any (fun b => b.has q_X q_Y q_H))))), rfl, rfl, by simp only [push_cast, Nat.reduceLT, Nat.reduceAdd], by simp only [push_cast, Nat.reduceLT, Nat.reduceAdd], by simp only [push_cast, Nat.reduceLT, Nat.reduceAdd], rfl, ⟨inE0_row h_s, ⟨_, h_q⟩, trivial⟩, rfl, ?_⟩
        intro hpre hlen
        obtain ⟨i_s, hpre⟩ := hpre
        have hap : apartE (sg 2 nn_ [s, q]) [(0, .ro (decL eB s_n s_f).length eB.sz (rowF eB (decL eB s_n s_f))), (1, .box [.v (.int .i64 q_X), .v (.int .i64 q_Y), .v (.int .i64 q_H)] q_ty)] [(0, .ro (decL eB s_n s_f).length eB.sz (rowF eB (decL eB s_n s_f))), (1, .box [.v (.int .i64 q_X), .v (.int .i64 q_Y), .v (.int .i64 q_H)] q_ty)] := by
          refine ⟨fun h => by (cases h), ?_⟩
          refine ⟨fun _ k2 e2 hm hne => ?_, ?_⟩
          · simp only [List.mem_cons, List.not_mem_nil, or_false, Prod.mk.injEq] at hm
            rcases hm with ⟨rfl, _⟩ | ⟨rfl, _⟩
            · exact fun hh => by
                have hh2 : s = q := hh
                have hh3 := h_s
                rw [hh2] at hh3; unfold rowOf at hh3; rw [h_q] at hh3; cases hh3
            · exact absurd rfl hne
          trivial
        refine ⟨⟨inE_row h_s i_s, ⟨_, h_q, by simp only [leE, mapEq, SC.ren, and_true, true_and, and_self] <;> rfl⟩, trivial⟩, hap, ?_⟩
        have z_s := lens_row (E := eB) hlen h_s
        clear i_s
        generalize decL eB s_n s_f = sL at *
        clear h_s
        simp (config := {maxSteps := 10000000}) only [x56, push_cast, Nat.reduceAdd, Nat.reduceSub, Nat.reduceLeDiff, Nat.reduceEqDiff, Nat.reduceBEq, Nat.reduceMul, Nat.reduceLT, reduceIte, reduceCtorEq, Int.reduceLE, Int.reduceLT, Int.reduceEq, Int.reduceMul, Int.reduceAdd, Int.reduceSub, Int.reduceNeg, Int.reduceToNat, Int.reduceNe, g87]
        exact ixOf_any (fun b => b.has q_X q_Y q_H) sL
      · cases hg_
    · cases hg_
  · cases hg_
/-- wayfinder/box.Covers -/
def g27 : Con := fun args_ E_ nn_ => match args_ with
  | [.c (.n l), .a [.v (.int .i64 p_X), .v (.int .i64 p_Y), .v (.int .i64 p_H)]] => (match rowOf E_ l with
    | some (l_n, l_s, l_f) => some (.q (isRow eB l_n l_s l_f ∧ True) (.o (.c (.v (.bool (((decL eB l_n l_f)).any (fun b => b.has p_X p_Y p_H)))))))
    | none => none)
  | _ => none
theorem c27 : COk Try.prog 27 g27 := by
  refine cok_q Try.func27 x27_ok (by kernel_rfl) (cok_tab (cok_cons c56 cok_nil)) ?_
  intro args_ E_ nn_ cr_ hg_
  unfold g27 at hg_
  split at hg_
  · rename_i l p_X p_Y p_H
    split at hg_
    · rename_i l_n l_s l_f h_l
      cases hg_
      refine ⟨_, _, rfl, 1, [l], [.c (.n 0), .a [.v (.int .i64 p_X), .v (.int .i64 p_Y), .v (.int .i64 p_H)]], [(0, .ro (decL eB l_n l_f).length eB.sz (rowF eB (decL eB l_n l_f)))], .o (.c (.v (.bool (((decL eB l_n l_f)).any (fun b => b.has p_X p_Y p_H))))), rfl, rfl, by simp only [push_cast, Nat.reduceLT, Nat.reduceAdd], by simp only [push_cast, Nat.reduceLT, Nat.reduceAdd], by simp only [push_cast, Nat.reduceLT, Nat.reduceAdd], rfl, ⟨inE0_row h_l, trivial⟩, rfl, ?_⟩
      intro hpre hlen
      obtain ⟨i_l, hpre⟩ := hpre
      refine ⟨⟨inE_row h_l i_l, trivial⟩, ?_⟩
      have z_l := lens_row (E := eB) hlen h_l
      clear i_l
      generalize decL eB l_n l_f = lL at *
      clear h_l
      simp (config := {maxSteps := 10000000}) only [x27, push_cast, Nat.reduceAdd, Nat.reduceSub, Nat.reduceLeDiff, Nat.reduceEqDiff, Nat.reduceBEq, Nat.reduceMul, Nat.reduceLT, reduceIte, reduceCtorEq, Int.reduceLE, Int.reduceLT, Int.reduceEq, Int.reduceMul, Int.reduceAdd, Int.reduceSub, Int.reduceNeg, Int.reduceToNat, Int.reduceNe, g56]
    · cases hg_
  · cases hg_
/-- wayfinder/wayfinderlaw24.scan -/
def g24 : Con := fun args_ E_ nn_ => match args_ with
  | [.a [.v (.int .i64 x_Plan_W), .v (.int .i64 x_Plan_H), .n x_Plan_Cells, .v (.int .i64 x_At_X), .v (.int .i64 x_At_Y), .v (.int .i64 x_At_H), .n x_Marks, .n x_Errs, .v (.int .i64 x_Rng), .n x_Veil]] => (match rowOf E_ x_Plan_Cells with
    | some (x_Plan_Cells_n, x_Plan_Cells_s, x_Plan_Cells_f) => (match rowOf E_ x_Marks with
    | some (x_Marks_n, x_Marks_s, x_Marks_f) => (match rowOf E_ x_Errs with
    | some (x_Errs_n, x_Errs_s, x_Errs_f) => (match rowOf E_ x_Veil with
    | some (x_Veil_n, x_Veil_s, x_Veil_f) => some (.e (isRow eU8 x_Plan_Cells_n x_Plan_Cells_s x_Plan_Cells_f ∧ isRow eI x_Marks_n x_Marks_s x_Marks_f ∧ isRow eI x_Errs_n x_Errs_s x_Errs_f ∧ isRow eU8 x_Veil_n x_Veil_s x_Veil_f ∧ True) (.t [.c (.n (nn_ + 0)), .c (.v (.bool (scnB x_Plan_W x_Plan_H (decL eU8 x_Plan_Cells_n x_Plan_Cells_f) x_At_X x_At_Y x_At_H x_Rng (decL eI x_Marks_n x_Marks_f))))]) [((nn_ + 0), .own (scnL x_Plan_W x_Plan_H (decL eU8 x_Plan_Cells_n x_Plan_Cells_f) x_At_X x_At_Y x_At_H x_Rng (decL eI x_Marks_n x_Marks_f) (decL eI x_Errs_n x_Errs_f)).length 2 (rowF eC (scnL x_Plan_W x_Plan_H (decL eU8 x_Plan_Cells_n x_Plan_Cells_f) x_At_X x_At_Y x_At_H x_Rng (decL eI x_Marks_n x_Marks_f) (decL eI x_Errs_n x_Errs_f))) 28)] (nn_ + 1))
    | none => none)
    | none => none)
    | none => none)
    | none => none)
  | _ => none
set_option maxHeartbeats 1000000 in
theorem c24 : COk Try.prog 24 g24 := by
  refine cok_e Try.func24 x24_ok (by kernel_rfl) (cok_tab (cok_cons c12 (cok_cons c52 (cok_cons c53 cok_nil)))) ?_
  intro args_ E_ nn_ cr_ hg_
  unfold g24 at hg_
  split at hg_
  · rename_i x_Plan_W x_Plan_H x_Plan_Cells x_At_X x_At_Y x_At_H x_Marks x_Errs x_Rng x_Veil
    split at hg_
    · rename_i x_Plan_Cells_n x_Plan_Cells_s x_Plan_Cells_f h_x_Plan_Cells
      split at hg_
      · rename_i x_Marks_n x_Marks_s x_Marks_f h_x_Marks
        split at hg_
        · rename_i x_Errs_n x_Errs_s x_Errs_f h_x_Errs
          split at hg_
          · rename_i x_Veil_n x_Veil_s x_Veil_f h_x_Veil
            cases hg_
            refine ⟨_, _, _, _, rfl, 4, [x_Plan_Cells, x_Marks, x_Errs, x_Veil], [.a [.v (.int .i64 x_Plan_W), .v (.int .i64 x_Plan_H), .n 0, .v (.int .i64 x_At_X), .v (.int .i64 x_At_Y), .v (.int .i64 x_At_H), .n 1, .n 2, .v (.int .i64 x_Rng), .n 3]], [(0, .ro (decL eU8 x_Plan_Cells_n x_Plan_Cells_f).length eU8.sz (rowF eU8 (decL eU8 x_Plan_Cells_n x_Plan_Cells_f))), (1, .ro (decL eI x_Marks_n x_Marks_f).length eI.sz (rowF eI (decL eI x_Marks_n x_Marks_f))), (2, .ro (decL eI x_Errs_n x_Errs_f).length eI.sz (rowF eI (decL eI x_Errs_n x_Errs_f))), (3, .ro (decL eU8 x_Veil_n x_Veil_f).length eU8.sz (rowF eU8 (decL eU8 x_Veil_n x_Veil_f)))], .t [.c (.n 4), .c (.v (.bool (scnB x_Plan_W x_Plan_H (decL eU8 x_Plan_Cells_n x_Plan_Cells_f) x_At_X x_At_Y x_At_H x_Rng (decL eI x_Marks_n x_Marks_f))))], [(4, .own (scnL x_Plan_W x_Plan_H (decL eU8 x_Plan_Cells_n x_Plan_Cells_f) x_At_X x_At_Y x_At_H x_Rng (decL eI x_Marks_n x_Marks_f) (decL eI x_Errs_n x_Errs_f)).length 2 (rowF eC (scnL x_Plan_W x_Plan_H (decL eU8 x_Plan_Cells_n x_Plan_Cells_f) x_At_X x_At_Y x_At_H x_Rng (decL eI x_Marks_n x_Marks_f) (decL eI x_Errs_n x_Errs_f))) 28)], 5, rfl, rfl, by simp only [renE, Ent.ren, rowF_renf] <;> rfl, rfl, by decide, by simp only [push_cast, Nat.reduceLT, Nat.reduceAdd], by simp only [push_cast, Nat.reduceLT, Nat.reduceAdd], by simp only [push_cast, Nat.reduceLT, Nat.reduceAdd], by simp only [push_cast, Nat.reduceLT, Nat.reduceAdd], rfl, ⟨inE0_row h_x_Plan_Cells, inE0_row h_x_Marks, inE0_row h_x_Errs, inE0_row h_x_Veil, trivial⟩, by simp only [keysNodup, outN, keys] <;> decide, rfl, rfl, ?_⟩
            intro hpre hlen
            obtain ⟨i_x_Plan_Cells, hpre⟩ := hpre
            obtain ⟨i_x_Marks, hpre⟩ := hpre
            obtain ⟨i_x_Errs, hpre⟩ := hpre
            obtain ⟨i_x_Veil, hpre⟩ := hpre
            refine ⟨⟨inE_row h_x_Plan_Cells i_x_Plan_Cells, inE_row h_x_Marks i_x_Marks, inE_row h_x_Errs i_x_Errs, inE_row h_x_Veil i_x_Veil, trivial⟩, by simp only [apartE] <;> (first | trivial | (simp [Ent.mut]; done)), ?_⟩
            have z_x_Plan_Cells := lens_row (E := eU8) hlen h_x_Plan_Cells
            have z_x_Marks := lens_row (E := eI) hlen h_x_Marks
            have z_x_Errs := lens_row (E := eI) hlen h_x_Errs
            have z_x_Veil := lens_row (E := eU8) hlen h_x_Veil
            clear i_x_Plan_Cells
            generalize decL eU8 x_Plan_Cells_n x_Plan_Cells_f = x_Plan_CellsL at *
            clear i_x_Marks
            generalize decL eI x_Marks_n x_Marks_f = x_MarksL at *
            clear i_x_Errs
            generalize decL eI x_Errs_n x_Errs_f = x_ErrsL at *
            clear i_x_Veil
            generalize decL eU8 x_Veil_n x_Veil_f = x_VeilL at *
            clear h_x_Plan_Cells
            clear h_x_Marks
            clear h_x_Errs
            clear h_x_Veil
            simp (config := {maxSteps := 10000000}) only [x24, push_cast, Nat.reduceAdd, Nat.reduceSub, Nat.reduceLeDiff, Nat.reduceEqDiff, Nat.reduceBEq, Nat.reduceMul, Nat.reduceLT, reduceIte, reduceCtorEq, Int.reduceLE, Int.reduceLT, Int.reduceEq, Int.reduceMul, Int.reduceAdd, Int.reduceSub, Int.reduceNeg, Int.reduceToNat, Int.reduceNe, g12, g52, g53]
            cases h0 : scnC x_Plan_W x_Plan_H x_Plan_CellsL x_At_X x_At_Y x_At_H x_Rng x_MarksL
            · have e1 : scnB x_Plan_W x_Plan_H x_Plan_CellsL x_At_X x_At_Y x_At_H x_Rng x_MarksL = false := by unfold scnB; rw [h0]; rfl
              have e2 : scnL x_Plan_W x_Plan_H x_Plan_CellsL x_At_X x_At_Y x_At_H x_Rng x_MarksL x_ErrsL = [] := by unfold scnL; rw [if_neg (by rw [h0]; simp)]
              rw [e1, e2]
              refine ⟨fun _ => ⟨rfl, rfl⟩, fun a1 a2 a3 a4 a5 a6 a7 a8 a9 a10 a11 => ⟨fun _ => ⟨rfl, rfl⟩, fun c1 c2 c3 c4 => ?_⟩⟩
              have pp := planB_at (bld_plan a1)
              rw [wrapI (by omega) (by omega)] at c2 c4
              have : scnC x_Plan_W x_Plan_H x_Plan_CellsL x_At_X x_At_Y x_At_H x_Rng x_MarksL = true := by
                unfold scnC
                rw [a1, decide_eq_true (p := x_Plan_CellsL.length ≤ 64) (by omega), decide_eq_true (p := x_MarksL.length ≤ 3) (by omega), decide_eq_true (p := 1 ≤ x_Rng ∧ x_Rng ≤ 32) (by omega), decide_eq_true (p := (0 ≤ x_At_H ∧ x_At_H < 256) ∧ (0 ≤ x_At_X ∧ x_At_X ≤ 64 * x_Plan_W) ∧ 0 ≤ x_At_Y ∧ x_At_Y ≤ 64 * x_Plan_H) (by omega)]
                rfl
              rw [this] at h0; cases h0
            have h1 := h0
            unfold scnC at h1
            simp only [Bool.and_eq_true, decide_eq_true_eq] at h1
            have e1 : scnB x_Plan_W x_Plan_H x_Plan_CellsL x_At_X x_At_Y x_At_H x_Rng x_MarksL = decide (swpE x_Plan_W x_Plan_H x_Plan_CellsL x_At_X x_At_Y x_At_H x_Rng x_MarksL = 0) := by unfold scnB; rw [h0]; rfl
            have e2 : scnL x_Plan_W x_Plan_H x_Plan_CellsL x_At_X x_At_Y x_At_H x_Rng x_MarksL x_ErrsL = swpL x_Plan_W x_Plan_H x_Plan_CellsL x_At_X x_At_Y x_At_H x_Rng x_MarksL x_ErrsL := if_pos h0
            rw [e1, e2]
            have pp := planB_at (bld_plan h1.1.1.1.1)
            rw [wrapI (n := x_Plan_W * 64) (by omega) (by omega), wrapI (n := x_Plan_H * 64) (by omega) (by omega)]
            refine ⟨fun h => ?_, fun _ _ _ _ _ _ _ _ _ _ _ => ⟨fun h => ?_, fun _ _ _ _ => ⟨rfl, same_eq rfl⟩⟩⟩
            · exfalso
              rw [h1.1.1.1.1] at h
              simp only [reduceCtorEq, false_or] at h
              omega
            · exfalso; omega
          · cases hg_
        · cases hg_
      · cases hg_
    · cases hg_
  · cases hg_
/-- wayfinder/wayfinderlaw24.ContractKeeps -/
def g7 : Con := fun args_ E_ nn_ => match args_ with
  | [.a [.v (.int .i64 x_Plan_W), .v (.int .i64 x_Plan_H), .n x_Plan_Cells, .v (.int .i64 x_At_X), .v (.int .i64 x_At_Y), .v (.int .i64 x_At_H), .n x_Marks, .n x_Errs, .v (.int .i64 x_Rng), .n x_Veil], .a [.v (.int .i64 b_X0), .v (.int .i64 b_Y0), .v (.int .i64 b_X1), .v (.int .i64 b_Y1), .v (.int .i64 b_From), .v (.int .i64 b_Count)], .c (.v (.int .i64 splits))] => (match rowOf E_ x_Plan_Cells with
    | some (x_Plan_Cells_n, x_Plan_Cells_s, x_Plan_Cells_f) => (match rowOf E_ x_Marks with
    | some (x_Marks_n, x_Marks_s, x_Marks_f) => (match rowOf E_ x_Errs with
    | some (x_Errs_n, x_Errs_s, x_Errs_f) => (match rowOf E_ x_Veil with
    | some (x_Veil_n, x_Veil_s, x_Veil_f) => some (.q (isRow eU8 x_Plan_Cells_n x_Plan_Cells_s x_Plan_Cells_f ∧ isRow eI x_Marks_n x_Marks_s x_Marks_f ∧ isRow eI x_Errs_n x_Errs_s x_Errs_f ∧ isRow eU8 x_Veil_n x_Veil_s x_Veil_f ∧ -9223372036854775808 ≤ splits ∧ splits ≤ 9223372036854775807) (.o (.c (.v (.bool (true))))))
    | none => none)
    | none => none)
    | none => none)
    | none => none)
  | _ => none
set_option maxHeartbeats 2000000 in
theorem c7 : COk Try.prog 7 g7 := by
  refine cok_q Try.func7 x7_ok (by kernel_rfl) (cok_tab (cok_cons c8 (cok_cons c24 (cok_cons c25 (cok_cons c15 (cok_cons c26 (cok_cons c13 (cok_cons c21 (cok_cons c16 (cok_cons c17 (cok_cons c27 (cok_cons c28 cok_nil)))))))))))) ?_
  intro args_ E_ nn_ cr_ hg_
  unfold g7 at hg_
  split at hg_
  · rename_i x_Plan_W x_Plan_H x_Plan_Cells x_At_X x_At_Y x_At_H x_Marks x_Errs x_Rng x_Veil b_X0 b_Y0 b_X1 b_Y1 b_From b_Count splits
    split at hg_
    · rename_i x_Plan_Cells_n x_Plan_Cells_s x_Plan_Cells_f h_x_Plan_Cells
      split at hg_
      · rename_i x_Marks_n x_Marks_s x_Marks_f h_x_Marks
        split at hg_
        · rename_i x_Errs_n x_Errs_s x_Errs_f h_x_Errs
          split at hg_
          · rename_i x_Veil_n x_Veil_s x_Veil_f h_x_Veil
            cases hg_
            refine ⟨_, _, rfl, 4, [x_Plan_Cells, x_Marks, x_Errs, x_Veil], [.a [.v (.int .i64 x_Plan_W), .v (.int .i64 x_Plan_H), .n 0, .v (.int .i64 x_At_X), .v (.int .i64 x_At_Y), .v (.int .i64 x_At_H), .n 1, .n 2, .v (.int .i64 x_Rng), .n 3], .a [.v (.int .i64 b_X0), .v (.int .i64 b_Y0), .v (.int .i64 b_X1), .v (.int .i64 b_Y1), .v (.int .i64 b_From), .v (.int .i64 b_Count)], .c (.v (.int .i64 splits))], [(0, .ro (decL eU8 x_Plan_Cells_n x_Plan_Cells_f).length eU8.sz (rowF eU8 (decL eU8 x_Plan_Cells_n x_Plan_Cells_f))), (1, .ro (decL eI x_Marks_n x_Marks_f).length eI.sz (rowF eI (decL eI x_Marks_n x_Marks_f))), (2, .ro (decL eI x_Errs_n x_Errs_f).length eI.sz (rowF eI (decL eI x_Errs_n x_Errs_f))), (3, .ro (decL eU8 x_Veil_n x_Veil_f).length eU8.sz (rowF eU8 (decL eU8 x_Veil_n x_Veil_f)))], .o (.c (.v (.bool (true)))), rfl, rfl, by simp only [push_cast, Nat.reduceLT, Nat.reduceAdd], by simp only [push_cast, Nat.reduceLT, Nat.reduceAdd], by simp only [push_cast, Nat.reduceLT, Nat.reduceAdd], rfl, ⟨inE0_row h_x_Plan_Cells, inE0_row h_x_Marks, inE0_row h_x_Errs, inE0_row h_x_Veil, trivial⟩, rfl, ?_⟩
            intro hpre hlen
            obtain ⟨i_x_Plan_Cells, hpre⟩ := hpre
            obtain ⟨i_x_Marks, hpre⟩ := hpre
            obtain ⟨i_x_Errs, hpre⟩ := hpre
            obtain ⟨i_x_Veil, hpre⟩ := hpre
            refine ⟨⟨inE_row h_x_Plan_Cells i_x_Plan_Cells, inE_row h_x_Marks i_x_Marks, inE_row h_x_Errs i_x_Errs, inE_row h_x_Veil i_x_Veil, trivial⟩, ?_⟩
            have z_x_Plan_Cells := lens_row (E := eU8) hlen h_x_Plan_Cells
            have z_x_Marks := lens_row (E := eI) hlen h_x_Marks
            have z_x_Errs := lens_row (E := eI) hlen h_x_Errs
            have z_x_Veil := lens_row (E := eU8) hlen h_x_Veil
            clear i_x_Plan_Cells
            generalize decL eU8 x_Plan_Cells_n x_Plan_Cells_f = x_Plan_CellsL at *
            clear i_x_Marks
            generalize decL eI x_Marks_n x_Marks_f = x_MarksL at *
            clear i_x_Errs
            generalize decL eI x_Errs_n x_Errs_f = x_ErrsL at *
            clear i_x_Veil
            generalize decL eU8 x_Veil_n x_Veil_f = x_VeilL at *
            clear h_x_Plan_Cells
            clear h_x_Marks
            clear h_x_Errs
            clear h_x_Veil
            have u1 : isRow eB 1 6 (litF [SC.v (Value.int IntKind.i64 b_X0), SC.v (Value.int IntKind.i64 b_Y0), SC.v (Value.int IntKind.i64 b_X1), SC.v (Value.int IntKind.i64 b_Y1), SC.v (Value.int IntKind.i64 b_From), SC.v (Value.int IntKind.i64 b_Count)] 6) ↔ True := iff_true_intro (lits_row eB [(⟨b_X0, b_Y0, b_X1, b_Y1, b_From, b_Count⟩ : BB)]).1
            have u2 : decL eB 1 (litF [SC.v (Value.int IntKind.i64 b_X0), SC.v (Value.int IntKind.i64 b_Y0), SC.v (Value.int IntKind.i64 b_X1), SC.v (Value.int IntKind.i64 b_Y1), SC.v (Value.int IntKind.i64 b_From), SC.v (Value.int IntKind.i64 b_Count)] 6) = [(⟨b_X0, b_Y0, b_X1, b_Y1, b_From, b_Count⟩ : BB)] := (lits_row eB [(⟨b_X0, b_Y0, b_X1, b_Y1, b_From, b_Count⟩ : BB)]).2
            simp (config := {maxSteps := 10000000}) only [x7, push_cast, Nat.reduceAdd, Nat.reduceSub, Nat.reduceLeDiff, Nat.reduceEqDiff, Nat.reduceBEq, Nat.reduceMul, Nat.reduceLT, reduceIte, reduceCtorEq, Int.reduceLE, Int.reduceLT, Int.reduceEq, Int.reduceMul, Int.reduceAdd, Int.reduceSub, Int.reduceNeg, Int.reduceToNat, Int.reduceNe, g8, g24, g25, g15, g26, g13, g21, g16, g17, g27, g28, u1, u2]
            intro h1 h2 _ h4
            unfold scnB at h1
            rw [Bool.and_eq_true, decide_eq_true_eq] at h1
            have hc := h1.1
            have e2 : scnL x_Plan_W x_Plan_H x_Plan_CellsL x_At_X x_At_Y x_At_H x_Rng x_MarksL x_ErrsL = swpL x_Plan_W x_Plan_H x_Plan_CellsL x_At_X x_At_Y x_At_H x_Rng x_MarksL x_ErrsL := if_pos hc
            rw [e2]
            unfold scnC at hc
            simp only [Bool.and_eq_true, decide_eq_true_eq] at hc
            obtain ⟨⟨⟨⟨c1, c2⟩, c3⟩, c4⟩, c5, c6, c7⟩ := hc
            have hall := sweep_plaus (R := x_ErrsL) h1.2
            generalize swpL x_Plan_W x_Plan_H x_Plan_CellsL x_At_X x_At_Y x_At_H x_Rng x_MarksL x_ErrsL = S at *
            have hh : 0 ≤ x_At_H ∧ x_At_H ≤ 255 := by omega
            have hpl : planB x_Plan_W x_Plan_H (hidL x_Plan_CellsL x_VeilL) = true := planB_hid (bld_plan c1)
            have hR : rightB x_Plan_W x_Plan_H (hidL x_Plan_CellsL x_VeilL) S x_Rng = true := by
              unfold rightB; rw [hpl, keep_scan hall, decide_eq_true c4]; rfl
            obtain ⟨c, t1, t2⟩ := keep_trm (V := x_VeilL) (b := (⟨b_X0, b_Y0, b_X1, b_Y1, b_From, b_Count⟩ : BB)) c1 hall c4 hh c6 c7 h4
            have tO : trimO x_Plan_W x_Plan_H (hidL x_Plan_CellsL x_VeilL) S x_Rng (⟨b_X0, b_Y0, b_X1, b_Y1, b_From, b_Count⟩ : BB) = some c := (if_pos ⟨hR, h2⟩).trans t1
            have r := keep_rfn (V := x_VeilL) (b := (⟨b_X0, b_Y0, b_X1, b_Y1, b_From, b_Count⟩ : BB)) (sp := splits % 5) c1 hall c4 hh c6 c7 h4 ⟨by omega, by omega⟩
            rw [tO]
            exact ⟨by omega, hpre, by rfl, ⟨⟨⟨rfl, t2⟩, r.1⟩, r.2⟩, ⟨hR, c6, c7, hh⟩, keep_bad c1 hall c4 hh ⟨Int.le_refl _, Int.le_refl _⟩ ⟨Int.le_refl _, Int.le_refl _⟩⟩
          · cases hg_
        · cases hg_
      · cases hg_
    · cases hg_
  · cases hg_
end Go.Proofs.Ytjnelnofbpjdmaa
