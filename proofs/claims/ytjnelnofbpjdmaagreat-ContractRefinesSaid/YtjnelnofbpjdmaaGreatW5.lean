/- A part of the proof of a statement about this seat: how a function is stepped through, and plain laws. No conditions. -/
import Derived.Test.YtjnelnofbpjdmaaGreatRows
import Derived.Test.YtjnelnofbpjdmaaGreatSz3
import Derived.Test.YtjnelnofbpjdmaaGreatW4
import Derived.KernelRfl
set_option linter.unusedVariables false
set_option linter.unusedSimpArgs false
set_option maxRecDepth 20000
namespace Go.Proofs.YtjnelnofbpjdmaaGreat
open Go.Sx Go.Way
/-! Computable forms -/
theorem hid_comp {W H : Int} {L : List Int} {x0 y0 x1 y1 vx vy vd far : Int} {op : Bool} (ha : admB x0 y0 x1 y1 = true) (hv : vecB vx vy vd = true) (hf : far ≤ 2048) :
    hidB W H L x0 y0 x1 y1 vx vy vd far op = (decide (0 ≤ far) && (trL x0 y0 vx vy vd 0 far).any fun c => hidC W H L x0 y0 x1 y1 vx vy vd far op c) := by
  by_cases h0 : 0 ≤ far
  · rw [decide_eq_true h0, Bool.true_and]
    cases h : (trL x0 y0 vx vy vd 0 far).any fun c => hidC W H L x0 y0 x1 y1 vx vy vd far op c with
    | true =>
      rw [List.any_eq_true] at h
      obtain ⟨c, _, hc⟩ := h
      exact hid_iff.2 ⟨h0, c, hc⟩
    | false =>
      rw [List.any_eq_false] at h
      exact hid_none ha hv hf fun k hk => by
        have := h _ (getD_in hk)
        simpa using this
  · rw [decide_eq_false h0, hid_no (fun h => h0 h.1)]; rfl
def refX (W H : Int) (L : List Int) (x0 y0 x1 y1 h m z rng : Int) : Bool :=
  if z = -1 then decide (0 ≤ 1024 - rng) && (trL x0 y0 (beamV h m).1 (beamV h m).2.1 (beamV h m).2.2 0 (1024 - rng)).any fun c => hidC W H L x0 y0 x1 y1 (beamV h m).1 (beamV h m).2.1 (beamV h m).2.2 (1024 - rng) false c
  else (decide (0 ≤ z - rng) && (trL x0 y0 (beamV h m).1 (beamV h m).2.1 (beamV h m).2.2 0 (z - rng)).any fun c => hidC W H L x0 y0 x1 y1 (beamV h m).1 (beamV h m).2.1 (beamV h m).2.2 (z - rng) true c) || emptyB W H L x0 y0 x1 y1 (beamV h m).1 (beamV h m).2.1 (beamV h m).2.2 (max 0 (z - rng)) (z + rng)
theorem ref_comp {W H : Int} {L : List Int} {x0 y0 x1 y1 h m z rng : Int} (ha : admB x0 y0 x1 y1 = true) (hz : z ≤ 1024) (hr : 0 ≤ rng) : refI W H L x0 y0 x1 y1 h m z rng = refX W H L x0 y0 x1 y1 h m z rng := by
  unfold refI refX
  rw [hid_comp ha (beam_vec h m) (by omega), hid_comp ha (beam_vec h m) (by omega)]
theorem refu_comp {W H : Int} {L : List Int} {x0 y0 x1 y1 h m z rng : Int} : refuB W H L x0 y0 x1 y1 h m z rng = (planB W H L && decide ((0 ≤ m ∧ m ≤ 255) ∧ -1 ≤ z ∧ z ≤ 1024) && admB x0 y0 x1 y1 && decide (0 ≤ h ∧ h ≤ 255) && decide (1 ≤ rng ∧ rng ≤ 32) && refX W H L x0 y0 x1 y1 h m z rng) := by
  unfold refuB
  cases h1 : planB W H L
  · rfl
  by_cases h2 : (0 ≤ m ∧ m ≤ 255) ∧ -1 ≤ z ∧ z ≤ 1024
  · cases h3 : admB x0 y0 x1 y1
    · simp
    by_cases h5 : 1 ≤ rng ∧ rng ≤ 32
    · rw [ref_comp h3 h2.2.2 (by omega)]
    · simp [h5]
  · rw [decide_eq_false h2]; rfl
theorem bad_one {W H : Int} {L : List Int} {x0 y0 x1 y1 h m z rng : Int} (hz : z ≤ 1024) (hr : 0 ≤ rng) : badB W H L x0 y0 x1 y1 h [⟨m, z⟩] rng = (admB x0 y0 x1 y1 && refX W H L x0 y0 x1 y1 h m z rng) := by
  unfold badB badI
  cases h3 : admB x0 y0 x1 y1
  · rfl
  simp only [List.any_cons, List.any_nil, Bool.or_false, Bool.true_and]
  exact ref_comp h3 hz hr
/-- One box, one mark, no splits: what is not refuted stays. -/
theorem rfn_one {W H : Int} {L : List Int} {S : List CC} {rng X0 Y0 X1 Y1 F : Int} (hr : rightB W H L S rng = true) (hb : boxB X0 Y0 X1 Y1 F 1 = true) (h1 : ¬ min X1 (64 * W) < max X0 0) (h2 : ¬ min Y1 (64 * H) < max Y0 0)
    (hf : badB W H L (max X0 0) (max Y0 0) (min X1 (64 * W)) (min Y1 (64 * H)) (F % 256) S rng = false) : rfnE W H L [⟨X0, Y0, X1, Y1, F, 1⟩] S rng 0 = 0 ∧ (rfnL W H L [⟨X0, Y0, X1, Y1, F, 1⟩] S rng 0).length = 1 := by
  have hok : ¬ (rightB W H L S rng = false ∨ 16 < [(⟨X0, Y0, X1, Y1, F, 1⟩ : BB)].length ∨ [(⟨X0, Y0, X1, Y1, F, 1⟩ : BB)].all BB.ok = false) := by
    rintro (h | h | h)
    · rw [hr] at h; cases h
    · simp at h
    · simp [BB.ok, hb] at h
  obtain ⟨e1, e2⟩ := rfn_good (sp := 0) hok ⟨by omega, by omega⟩
  refine ⟨e1, ?_⟩
  rw [e2]
  have hl : ldN (badF W H L S rng (max X0 0) (max Y0 0) (min X1 (64 * W)) (min Y1 (64 * H))) F 1 = 0 := by
    unfold ldN
    rw [if_neg]
    unfold badF
    rw [hf]; simp
  obtain ⟨c, hc⟩ : ∃ c, trmO W H L S rng ⟨X0, Y0, X1, Y1, F, 1⟩ = some c := by
    unfold trmO
    rw [if_neg (fun h => h.elim h1 h2)]
    unfold trmF
    rw [if_neg (by show ¬ ldN _ F 1 = 1; rw [hl]; omega)]
    exact ⟨_, rfl⟩
  rw [rqL_keep hc (fun h => absurd h.1 (by omega)), rqL_nil]
  rfl
/-! Buildings, and what is hidden of them -/
def bldB (W H : Int) (L : List Int) : Bool := planB W H L && L.all fun x => decide (x ≠ 0)
theorem get8_in {T : List Int} {k : Nat} (h : k < T.length) : T.getD k eU8.dflt ∈ T := by
  rw [List.getD_eq_getElem?_getD, List.getElem?_eq_getElem h]; exact List.getElem_mem h
theorem mem8_at {T : List Int} {c : Int} (h : c ∈ T) : ∃ k, k < T.length ∧ T.getD k eU8.dflt = c := by
  obtain ⟨k, hk, he⟩ := List.mem_iff_getElem.1 h
  exact ⟨k, hk, by rw [← he]; simp [List.getD, hk]⟩
/-- What is hidden: a bit of the veil for each cell. -/
def vB (V : List Int) (i : Nat) : Bool := !decide (bitI BinOp.and IntKind.u8 ((V.getD (i / 8) eU8.dflt).fdiv (2 ^ min (i % 8) IntKind.u8.bits)) 1 = 0)
def hidS (L V : List Int) (k : Nat) : List Int := (List.range L.length).map fun i => if i < k ∧ vB V i = true then 0 else L.getD i eU8.dflt
def hidN (L V : List Int) : Nat := min L.length (IntKind.i64.wrap (8 * (V.length : Int))).toNat
def hidL (L V : List Int) : List Int := hidS L V (hidN L V)
theorem hidS_len (L V : List Int) (k : Nat) : (hidS L V k).length = L.length := by simp [hidS]
theorem hidS_zero (L V : List Int) : hidS L V 0 = L := by
  apply List.ext_getElem
  · simp [hidS]
  · intro i h1 h2
    simp [hidS, List.getD, h2]
theorem hidS_yes {L V : List Int} {k : Nat} (hv : vB V k = true) (h : k < L.length) : hidS L V (k + 1) = (hidS L V k).set k 0 := by
  apply List.ext_getElem
  · simp [hidS]
  · intro i h1 h2
    rw [List.getElem_set]
    simp only [hidS, List.getElem_map, List.getElem_range]
    by_cases hk : k = i
    · subst hk; rw [if_pos ⟨by omega, hv⟩, if_pos rfl]
    · rw [if_neg hk]
      by_cases hlt : i < k
      · by_cases g : vB V i = true
        · rw [if_pos ⟨by omega, g⟩, if_pos ⟨hlt, g⟩]
        · rw [if_neg (fun a => g a.2), if_neg (fun a => g a.2)]
      · rw [if_neg (fun a => by omega), if_neg (fun a => by omega)]
theorem hidS_no {L V : List Int} {k : Nat} (hv : vB V k = false) : hidS L V (k + 1) = hidS L V k := by
  apply List.map_congr_left
  intro i hi
  by_cases g : vB V i = true
  · by_cases hlt : i < k
    · rw [if_pos ⟨by omega, g⟩, if_pos ⟨hlt, g⟩]
    · have : i ≠ k := by rintro rfl; rw [hv] at g; cases g
      rw [if_neg (fun a => by omega), if_neg (fun a => by omega)]
  · rw [if_neg (fun a => g a.2), if_neg (fun a => g a.2)]
theorem hidS_at {L V : List Int} {k i : Nat} (h : i < L.length) : (hidS L V k).getD i eU8.dflt = 0 ∨ (hidS L V k).getD i eU8.dflt = L.getD i eU8.dflt := by
  unfold hidS
  rw [List.getD_eq_getElem?_getD, List.getElem?_map, List.getElem?_range h]
  simp only [Option.map_some, Option.getD_some]
  split
  · exact .inl rfl
  · exact .inr rfl
theorem wrap_le8 (n : Nat) : IntKind.i64.wrap (8 * (n : Int)) ≤ 8 * (n : Int) := by
  rw [IntKind.wrap_i64]; omega
theorem planB_hid {W H : Int} {L V : List Int} {k : Nat} (h : planB W H L = true) : planB W H (hidS L V k) = true := by
  have p := planB_at h
  unfold planB
  rw [Bool.and_eq_true, decide_eq_true_eq, decide_eq_true_eq, hidS_len]
  refine ⟨⟨p.1, p.2.1, p.2.2.1⟩, fun x hx => ?_⟩
  obtain ⟨j, hj, e⟩ := mem8_at hx
  rw [hidS_len] at hj
  rcases hidS_at (V := V) (k := k) hj with g | g
  · rw [g] at e; omega
  · rw [g] at e; rw [← e]; exact p.2.2.2.2 j hj
theorem hid_knows {W H : Int} {L V : List Int} {k : Nat} (h : planB W H L = true) : knows W H (hidS L V k) L :=
  ⟨planB_hid h, h, fun i hi => by rw [hidS_len] at hi; exact hidS_at hi⟩
theorem app8 {L : List Int} {n m sz : Nat} {bd : Bnd} : rowEq n sz (catF 0 (litF [] m) (rowF eU8 L)) (rowF eU8 L) (SC.sub bd) := by
  intro e j _ _
  rw [rowF_sub]
  unfold catF
  rw [if_neg (by omega), Nat.sub_zero]
theorem bld_plan {W H : Int} {L : List Int} (h : bldB W H L = true) : planB W H L = true := by
  unfold bldB at h; rw [Bool.and_eq_true] at h; exact h.1
theorem bl_hid {W H : Int} {L V : List Int} (h : planB W H L = true) : blB W H (hidL L V) W H L = true := by
  unfold blB
  rw [Bool.and_eq_true, okM_iff, bel_iff]
  refine ⟨⟨planB_hid h, h, rfl, rfl⟩, fun i hi => ?_⟩
  unfold hidL at hi
  rw [hidS_len] at hi
  exact hidS_at hi
theorem inB_pt {W H : Int} {L : List Int} {x y : Int} (h : inB W H L x y = true) : (0 ≤ x ∧ x ≤ 64 * W) ∧ (0 ≤ y ∧ y ≤ 64 * H) ∧ planB W H L = true := by
  unfold inB at h
  simp only [Bool.and_eq_true, decide_eq_true_eq] at h
  exact ⟨h.2.1, h.2.2, h.1⟩
theorem refu_adm {W H : Int} {L : List Int} {x0 y0 x1 y1 h m z rng : Int} (hr : refuB W H L x0 y0 x1 y1 h m z rng = true) : planB W H L = true ∧ ((-1048576 ≤ x0 ∧ x0 ≤ 1048576) ∧ (-1048576 ≤ y0 ∧ y0 ≤ 1048576) ∧ (-1048576 ≤ x1 ∧ x1 ≤ 1048576) ∧ -1048576 ≤ y1 ∧ y1 ≤ 1048576) ∧ x0 ≤ x1 ∧ y0 ≤ y1 := by
  unfold refuB admB at hr
  simp only [Bool.and_eq_true, decide_eq_true_eq] at hr
  exact ⟨hr.1.1.1.1.1, hr.1.1.1.2.1, by omega, by omega⟩
theorem smaller_law {W H : Int} {L : List Int} {x0 y0 x1 y1 h m z rng a b c d : Int} (ha : 0 ≤ a ∧ a ≤ 255) (hb : 0 ≤ b ∧ b ≤ 255) (hc : 0 ≤ c ∧ c ≤ 255) (hd : 0 ≤ d ∧ d ≤ 255) (hr : refuB W H L x0 y0 x1 y1 h m z rng = true) :
    refuB W H L (min (IntKind.i64.wrap (x0 + IntKind.i64.wrap a)) x1) (min (IntKind.i64.wrap (y0 + IntKind.i64.wrap b)) y1) (max (min (IntKind.i64.wrap (x0 + IntKind.i64.wrap a)) x1) (IntKind.i64.wrap (x1 - IntKind.i64.wrap c)))
      (max (min (IntKind.i64.wrap (y0 + IntKind.i64.wrap b)) y1) (IntKind.i64.wrap (y1 - IntKind.i64.wrap d))) h m z rng = true := by
  have g := refu_adm hr
  rw [wrapI (n := a) (by omega) (by omega), wrapI (n := b) (by omega) (by omega), wrapI (n := c) (by omega) (by omega), wrapI (n := d) (by omega) (by omega), wrapI (by omega) (by omega), wrapI (by omega) (by omega), wrapI (by omega) (by omega), wrapI (by omega) (by omega)]
  exact refu_mono ⟨g.1, g.1, fun i _ => .inr rfl⟩ ⟨by omega, by omega, by omega⟩ ⟨by omega, by omega, by omega⟩ hr
theorem sound_law {W H : Int} {L V : List Int} {x y h m z rng a b c d : Int} (hp : plausB W H L x y h m z rng = true) (hb : bldB W H L = true) :
    refuB W H (hidL L V) (IntKind.i64.wrap (x - max 0 (min a 200))) (IntKind.i64.wrap (y - max 0 (min b 200))) (IntKind.i64.wrap (x + max 0 (min c 200))) (IntKind.i64.wrap (y + max 0 (min d 200))) h m z rng = false := by
  have hp' := hp
  unfold plausB at hp'
  simp only [Bool.and_eq_true] at hp'
  have g := inB_pt (good_ok hp'.1.1.1).1
  have p := planB_at g.2.2
  rw [wrapI (by omega) (by omega), wrapI (by omega) (by omega), wrapI (by omega) (by omega), wrapI (by omega) (by omega)]
  rw [Bool.eq_false_iff]
  intro hr
  have := refu_mono (hid_knows (bld_plan hb)) (a0 := x) (a1 := x) (b0 := y) (b1 := y) ⟨by omega, by omega, by omega⟩ ⟨by omega, by omega, by omega⟩ hr
  rw [refu_sound hp] at this
  cases this
def x5 : XFn := ⟨53, (.seq (.reg false [K1 0 .mv (.bool false)]) (.seq (.reg false [⟨(some 6), (.slit 5 3 1 [(.int .u8 0), (.int .u8 0), (.int .u8 0)] [(0, 1), (1, 1), (2, 1)]), [(.k (.int .u8 1)), (.k (.int .u8 1)), (.k (.int .u8 1))], none⟩, ⟨(some 7), (.build [(iV 0), (iV 0), (.slice none 0 0)] [(0, 1), (1, 1), (2, 1)]), [(.k (iV 3)), (.k (iV 1)), (.t 6)], none⟩, ⟨(some 1), (.alloc 24 [(iV 0), (iV 0), (.slice none 0 0)]), [], none⟩, ⟨none, (.store 3), [(.t 1), (.t 7)], none⟩]) (.seq (.reg false [⟨(some 8), (.build [(iV 0), (iV 0), (iV 0), (iV 0)] [(0, 1), (1, 1), (2, 1), (3, 1)]), [(.k (iV 32)), (.k (iV 32)), (.k (iV 32)), (.k (iV 32))], none⟩, ⟨(some 2), (.alloc 46 [(iV 0), (iV 0), (iV 0), (iV 0)]), [], none⟩, ⟨none, (.store 4), [(.t 2), (.t 8)], none⟩]) (.seq (.reg false [⟨(some 9), (.build [(iV 0), (iV 0)] [(1, 1)]), [(.k (iV 160))], none⟩, ⟨(some 10), (.slit 48 1 2 [(iV 0), (iV 0)] [(0, 2)]), [(.t 9)], none⟩, O1 3 .mv 10]) (.seq (.reg false [O1 12 (.loadN 3) 1, ⟨(some 13), (.build [(iV 0), (iV 0), (iV 0), (iV 0), (iV 0), (iV 0)] [(0, 1), (1, 1), (2, 1), (3, 1), (5, 1)]), [(.k (iV 32)), (.k (iV 32)), (.k (iV 32)), (.k (iV 32)), (.k (iV 1))], none⟩, ⟨(some 14), (.slit 35 1 6 [(iV 0), (iV 0), (iV 0), (iV 0), (iV 0), (iV 0)] [(0, 6)]), [(.t 13)], none⟩, O1 15 .mv 3, ⟨(some 16), (.call 8), [(.t 12), (.t 14), (.t 15), (.k (iV 1)), (.k (iV 0))], none⟩, O1 11 .mv 16, O1 17 (.ext 0) 11, O1 18 (.ext 1) 11, O1 4 .mv 17, O1 5 .mv 18]) (.seq (.reg true [O1 19 (.loadN 3) 1, O1 20 (.loadN 4) 2, O1 21 .mv 3, K2 22 (.ixS 2) 21 (iV 0), O1 23 (.loadN 2) 22, ⟨(some 24), (.call 15), [(.t 19), (.t 20), (.k (iV 0)), (.t 23), (.k (iV 1))], none⟩, O1 25 (.un .not) 24, O1 26 .mv 25, G1 27 (.loadN 3) 1 26 true, G1 28 (.loadN 4) 2 26 true, ⟨(some 29), (.build [(iV 0), (iV 0)] [(1, 1)]), [(.k (iV 158))], (some (26, true))⟩, ⟨(some 30), (.call 15), [(.t 27), (.t 28), (.k (iV 0)), (.t 29), (.k (iV 1))], (some (26, true))⟩, ⟨(some 31), .pick, [(.t 26), (.t 30), (.k (.bool false))], none⟩, O1 32 .mv 31, G1 33 (.loadN 3) 1 32 true, G1 34 (.loadN 4) 2 32 true, ⟨(some 35), (.build [(iV 0), (iV 0)] [(1, 1)]), [(.k (iV 163))], (some (32, true))⟩, ⟨(some 36), (.call 15), [(.t 33), (.t 34), (.k (iV 0)), (.t 35), (.k (iV 1))], (some (32, true))⟩, ⟨(some 37), .pick, [(.t 32), (.t 36), (.k (.bool false))], none⟩, O1 38 .mv 37, G1 39 .mv 5 38 true, GK 40 (.bin .eql) 39 (iV 0) 38 true, ⟨(some 41), .pick, [(.t 38), (.t 40), (.k (.bool false))], none⟩, O1 42 .mv 41, G1 43 .mv 4 42 true, G1 44 .lenS 43 42 true, GK 45 (.bin .eql) 44 (iV 1) 42 true, ⟨(some 46), .pick, [(.t 42), (.t 45), (.k (.bool false))], none⟩, O1 47 .mv 46, G1 48 (.loadN 3) 1 47 true, ⟨(some 49), (.build [(iV 0), (iV 0), (iV 0)] [(0, 1), (1, 1)]), [(.k (iV 32)), (.k (iV 32))], (some (47, true))⟩, G1 50 .mv 3 47 true, ⟨(some 51), (.call 13), [(.t 48), (.t 49), (.t 50), (.k (iV 1))], (some (47, true))⟩, ⟨(some 52), .pick, [(.t 47), (.t 51), (.k (.bool false))], none⟩, O1 0 .mv 52]) .ret)))))), [(.s 0)]⟩
theorem x5_ok : xfn Tryz.prog Tryz.f5 = some x5.er := by kernel_rfl
def x6 : XFn := ⟨24, (.seq (.reg false [O1 2 (.box 24) 0, K1 4 .mv (.bool false)]) (.seq (.reg false [O1 5 (.fld 2) 2, O1 6 .load1 5, O1 7 .lenS 6, K2 8 (.bin .leq) 7 (iV 64), O1 9 .mv 8, G1 10 .mv 1 9 true, G1 11 .lenS 10 9 true, GK 12 (.bin .leq) 11 (iV 3) 9 true, G1 13 .mv 12 9 true, G1 14 .mv 1 13 false, G1 15 .lenS 14 13 false, GK 16 (.bin .gtr) 15 (iV 32) 13 false, G1 17 .mv 16 13 false, G1 18 .mv 1 17 true, G1 19 .lenS 18 17 true, GK 20 (.bin .lss) 19 (iV 40) 17 true, ⟨(some 21), .pick, [(.t 17), (.t 20), (.k (.bool false))], (some (13, false))⟩, ⟨(some 22), .pick, [(.t 13), (.k (.bool true)), (.t 21)], (some (9, true))⟩, ⟨(some 23), .pick, [(.t 9), (.t 22), (.k (.bool false))], none⟩, O1 4 .mv 23]) .ret)), [(.s 4)]⟩
theorem x6_ok : xfn Tryz.prog Tryz.f6 = some x6.er := by kernel_rfl
def x7 : XFn := ⟨11, (.seq (.reg false [O1 1 (.box 35) 0, K1 2 .mv (.bool false)]) (.seq (.reg false [O1 3 (.fld 5) 1, O1 4 .load1 3, K2 5 (.bin .leq) 4 (iV 12), O1 6 .mv 5, G1 7 (.fld 5) 1 6 false, G1 8 .load1 7 6 false, GK 9 (.bin .gtr) 8 (iV 256) 6 false, ⟨(some 10), .pick, [(.t 6), (.k (.bool true)), (.t 9)], none⟩, O1 2 .mv 10]) .ret)), [(.s 2)]⟩
theorem x7_ok : xfn Tryz.prog Tryz.f7 = some x7.er := by kernel_rfl
/-- wayfinder/wayfinderlaw24.few -/
def g6n : Con := fun args_ E_ nn_ => match args_ with
  | [.a [.v (.int .i64 p_W), .v (.int .i64 p_H), .n p_Cells], .c (.v (.slice none 0 0))] => (match rowOf E_ p_Cells with
    | some (p_Cells_n, p_Cells_s, p_Cells_f) => some (.q (isRow eU8 p_Cells_n p_Cells_s p_Cells_f ∧ True) (.o (.c (.v (.bool (decide (((decL eU8 p_Cells_n p_Cells_f)).length ≤ 64)))))))
    | none => none)
  | _ => none
theorem c6n : COk Tryz.prog 6 g6n := by
  refine cok_q Tryz.func6 x6_ok (by kernel_rfl) (cok_tab cok_nil) ?_
  intro args_ E_ nn_ cr_ hg_
  unfold g6n at hg_
  split at hg_
  · rename_i p_W p_H p_Cells
    split at hg_
    · rename_i p_Cells_n p_Cells_s p_Cells_f h_p_Cells
      cases hg_
      refine ⟨_, _, rfl, 1, [p_Cells], [.a [.v (.int .i64 p_W), .v (.int .i64 p_H), .n 0], .c (.v (.slice none 0 0))], [(0, .ro (decL eU8 p_Cells_n p_Cells_f).length eU8.sz (rowF eU8 (decL eU8 p_Cells_n p_Cells_f)))], .o (.c (.v (.bool (decide (((decL eU8 p_Cells_n p_Cells_f)).length ≤ 64))))), rfl, rfl, by simp only [push_cast, Nat.reduceLT, Nat.reduceAdd], by simp only [push_cast, Nat.reduceLT, Nat.reduceAdd], by simp only [push_cast, Nat.reduceLT, Nat.reduceAdd], rfl, ⟨inE0_row h_p_Cells, trivial⟩, rfl, ?_⟩
      intro hpre hlen
      obtain ⟨i_p_Cells, hpre⟩ := hpre
      refine ⟨⟨inE_row h_p_Cells i_p_Cells, trivial⟩, ?_⟩
      have z_p_Cells := lens_row (E := eU8) hlen h_p_Cells
      clear i_p_Cells
      generalize decL eU8 p_Cells_n p_Cells_f = p_CellsL at *
      clear h_p_Cells
      simp (config := {maxSteps := 10000000}) only [x6, push_cast, Nat.reduceAdd, Nat.reduceSub, Nat.reduceLeDiff, Nat.reduceEqDiff, Nat.reduceBEq, Nat.reduceMul, Nat.reduceLT, reduceIte, reduceCtorEq, Int.reduceLE, Int.reduceLT, Int.reduceEq, Int.reduceMul, Int.reduceAdd, Int.reduceSub, Int.reduceNeg, Int.reduceToNat, Int.reduceNe]
      have e : (decide True || decide False && decide True) = true := by decide
      rw [e, Bool.and_true, decide_eq_decide]
      omega
    · cases hg_
  · cases hg_
/-- wayfinder/wayfinderlaw24.few -/
def g6 : Con := fun args_ E_ nn_ => match args_ with
  | [.a [.v (.int .i64 p_W), .v (.int .i64 p_H), .n p_Cells], .c (.n s)] => (match rowOf E_ p_Cells with
    | some (p_Cells_n, p_Cells_s, p_Cells_f) => (match rowOf E_ s with
    | some (s_n, s_s, s_f) => some (.q (isRow eU8 p_Cells_n p_Cells_s p_Cells_f ∧ isRow eC s_n s_s s_f ∧ True) (.o (.c (.v (.bool (decide (((decL eU8 p_Cells_n p_Cells_f)).length ≤ 64 ∧ (((decL eC s_n s_f)).length ≤ 3 ∨ 32 < ((decL eC s_n s_f)).length ∧ ((decL eC s_n s_f)).length < 40))))))))
    | none => none)
    | none => none)
  | _ => none
theorem c6 : COk Tryz.prog 6 g6 := by
  refine cok_q Tryz.func6 x6_ok (by kernel_rfl) (cok_tab cok_nil) ?_
  intro args_ E_ nn_ cr_ hg_
  unfold g6 at hg_
  split at hg_
  · rename_i p_W p_H p_Cells s
    split at hg_
    · rename_i p_Cells_n p_Cells_s p_Cells_f h_p_Cells
      split at hg_
      · rename_i s_n s_s s_f h_s
        cases hg_
        refine ⟨_, _, rfl, 2, [p_Cells, s], [.a [.v (.int .i64 p_W), .v (.int .i64 p_H), .n 0], .c (.n 1)], [(0, .ro (decL eU8 p_Cells_n p_Cells_f).length eU8.sz (rowF eU8 (decL eU8 p_Cells_n p_Cells_f))), (1, .ro (decL eC s_n s_f).length eC.sz (rowF eC (decL eC s_n s_f)))], .o (.c (.v (.bool (decide (((decL eU8 p_Cells_n p_Cells_f)).length ≤ 64 ∧ (((decL eC s_n s_f)).length ≤ 3 ∨ 32 < ((decL eC s_n s_f)).length ∧ ((decL eC s_n s_f)).length < 40)))))), rfl, rfl, by simp only [push_cast, Nat.reduceLT, Nat.reduceAdd], by simp only [push_cast, Nat.reduceLT, Nat.reduceAdd], by simp only [push_cast, Nat.reduceLT, Nat.reduceAdd], rfl, ⟨inE0_row h_p_Cells, inE0_row h_s, trivial⟩, rfl, ?_⟩
        intro hpre hlen
        obtain ⟨i_p_Cells, hpre⟩ := hpre
        obtain ⟨i_s, hpre⟩ := hpre
        refine ⟨⟨inE_row h_p_Cells i_p_Cells, inE_row h_s i_s, trivial⟩, ?_⟩
        have z_p_Cells := lens_row (E := eU8) hlen h_p_Cells
        have z_s := lens_row (E := eC) hlen h_s
        clear i_p_Cells
        generalize decL eU8 p_Cells_n p_Cells_f = p_CellsL at *
        clear i_s
        generalize decL eC s_n s_f = sL at *
        clear h_p_Cells
        clear h_s
        simp (config := {maxSteps := 10000000}) only [x6, push_cast, Nat.reduceAdd, Nat.reduceSub, Nat.reduceLeDiff, Nat.reduceEqDiff, Nat.reduceBEq, Nat.reduceMul, Nat.reduceLT, reduceIte, reduceCtorEq, Int.reduceLE, Int.reduceLT, Int.reduceEq, Int.reduceMul, Int.reduceAdd, Int.reduceSub, Int.reduceNeg, Int.reduceToNat, Int.reduceNe]
        refine ⟨fun a b => ⟨⟨a, b⟩, fun c => ⟨⟨a, b⟩, c⟩⟩, fun a => ⟨a, fun b => ⟨a, b⟩⟩, ?_⟩
        rw [Bool.eq_iff_iff]
        simp only [Bool.and_eq_true, Bool.or_eq_true, decide_eq_true_eq]
        omega
      · cases hg_
    · cases hg_
  · cases hg_
/-- wayfinder/wayfinderlaw24.narrow -/
def g7 : Con := fun args_ E_ nn_ => match args_ with
  | [.a [.v (.int .i64 b_X0), .v (.int .i64 b_Y0), .v (.int .i64 b_X1), .v (.int .i64 b_Y1), .v (.int .i64 b_From), .v (.int .i64 b_Count)]] => some (.q (True) (.o (.c (.v (.bool (decide (b_Count ≤ 12 ∨ 256 < b_Count)))))))
  | _ => none
theorem c7 : COk Tryz.prog 7 g7 := by
  refine cok_q Tryz.func7 x7_ok (by kernel_rfl) (cok_tab cok_nil) ?_
  intro args_ E_ nn_ cr_ hg_
  unfold g7 at hg_
  split at hg_
  · rename_i b_X0 b_Y0 b_X1 b_Y1 b_From b_Count
    cases hg_
    refine ⟨_, _, rfl, 0, [], [.a [.v (.int .i64 b_X0), .v (.int .i64 b_Y0), .v (.int .i64 b_X1), .v (.int .i64 b_Y1), .v (.int .i64 b_From), .v (.int .i64 b_Count)]], [], .o (.c (.v (.bool (decide (b_Count ≤ 12 ∨ 256 < b_Count))))), rfl, rfl, by simp only [push_cast, Nat.reduceLT, Nat.reduceAdd], by simp only [push_cast, Nat.reduceLT, Nat.reduceAdd], by simp only [push_cast, Nat.reduceLT, Nat.reduceAdd], rfl, trivial, rfl, ?_⟩
    intro hpre hlen
    refine ⟨trivial, ?_⟩
    simp (config := {maxSteps := 10000000}) only [x7, push_cast, Nat.reduceAdd, Nat.reduceSub, Nat.reduceLeDiff, Nat.reduceEqDiff, Nat.reduceBEq, Nat.reduceMul, Nat.reduceLT, reduceIte, reduceCtorEq, Int.reduceLE, Int.reduceLT, Int.reduceEq, Int.reduceMul, Int.reduceAdd, Int.reduceSub, Int.reduceNeg, Int.reduceToNat, Int.reduceNe]
    exact (Bool.decide_or _ _).symm
  · cases hg_
/-- wayfinder/wayfinderlaw24.awake -/
def g5 : Con := fun args_ E_ nn_ => match args_ with
  | [] => some (.q (True) (.o (.c (.v (.bool (true))))))
  | _ => none
theorem c5 : COk Tryz.prog 5 g5 := by
  refine cok_q Tryz.func5 x5_ok (by kernel_rfl) (cok_tab (cok_cons c8 (cok_cons c15 (cok_cons c13 cok_nil)))) ?_
  intro args_ E_ nn_ cr_ hg_
  unfold g5 at hg_
  split at hg_
  · skip
    cases hg_
    refine ⟨_, _, rfl, 0, [], [], [], .o (.c (.v (.bool (true)))), rfl, rfl, by simp only [push_cast, Nat.reduceLT, Nat.reduceAdd], by simp only [push_cast, Nat.reduceLT, Nat.reduceAdd], by simp only [push_cast, Nat.reduceLT, Nat.reduceAdd], rfl, trivial, rfl, ?_⟩
    intro hpre hlen
    refine ⟨trivial, ?_⟩
    have q1 : isRow eU8 3 1 (litF [SC.v (Value.int IntKind.u8 1), SC.v (Value.int IntKind.u8 1), SC.v (Value.int IntKind.u8 1)] 1) ↔ True := iff_true_intro (lits_row eU8 [1, 1, 1]).1
    have q2 : decL eU8 3 (litF [SC.v (Value.int IntKind.u8 1), SC.v (Value.int IntKind.u8 1), SC.v (Value.int IntKind.u8 1)] 1) = [1, 1, 1] := (lits_row eU8 [1, 1, 1]).2
    have r1 : isRow eC 1 2 (litF [SC.v (Value.int IntKind.i64 0), SC.v (Value.int IntKind.i64 160)] 2) ↔ True := iff_true_intro (lits_row eC [(⟨0, 160⟩ : CC)]).1
    have r2 : decL eC 1 (litF [SC.v (Value.int IntKind.i64 0), SC.v (Value.int IntKind.i64 160)] 2) = [(⟨0, 160⟩ : CC)] := (lits_row eC [(⟨0, 160⟩ : CC)]).2
    have r3 : litF [SC.v (Value.int IntKind.i64 0), SC.v (Value.int IntKind.i64 160)] 2 0 0 = SC.v (Value.int IntKind.i64 0) := rfl
    have r4 : litF [SC.v (Value.int IntKind.i64 0), SC.v (Value.int IntKind.i64 160)] 2 0 1 = SC.v (Value.int IntKind.i64 160) := rfl
    have u1 : isRow eB 1 6 (litF [SC.v (Value.int IntKind.i64 32), SC.v (Value.int IntKind.i64 32), SC.v (Value.int IntKind.i64 32), SC.v (Value.int IntKind.i64 32), SC.v (Value.int IntKind.i64 0), SC.v (Value.int IntKind.i64 1)] 6) ↔ True := iff_true_intro (lits_row eB [(⟨32, 32, 32, 32, 0, 1⟩ : BB)]).1
    have u2 : decL eB 1 (litF [SC.v (Value.int IntKind.i64 32), SC.v (Value.int IntKind.i64 32), SC.v (Value.int IntKind.i64 32), SC.v (Value.int IntKind.i64 32), SC.v (Value.int IntKind.i64 0), SC.v (Value.int IntKind.i64 1)] 6) = [(⟨32, 32, 32, 32, 0, 1⟩ : BB)] := (lits_row eB [(⟨32, 32, 32, 32, 0, 1⟩ : BB)]).2
    simp (config := {maxSteps := 10000000}) only [x5, push_cast, Nat.reduceAdd, Nat.reduceSub, Nat.reduceLeDiff, Nat.reduceEqDiff, Nat.reduceBEq, Nat.reduceMul, Nat.reduceLT, reduceIte, reduceCtorEq, Int.reduceLE, Int.reduceLT, Int.reduceEq, Int.reduceMul, Int.reduceAdd, Int.reduceSub, Int.reduceNeg, Int.reduceToNat, Int.reduceNe, g8, g15, g13, q1, q2, r1, r2, u1, u2, r3, r4]
    have b1 : refuB 3 1 [1, 1, 1] 32 32 32 32 0 0 160 1 = false := by rw [refu_comp]; decide +kernel
    have b2 : refuB 3 1 [1, 1, 1] 32 32 32 32 0 0 158 1 = true := by rw [refu_comp]; decide +kernel
    have b3 : refuB 3 1 [1, 1, 1] 32 32 32 32 0 0 163 1 = true := by rw [refu_comp]; decide +kernel
    have b4 : rightB 3 1 [1, 1, 1] [⟨0, 160⟩] 1 = true := by decide +kernel
    have b5 : badB 3 1 [1, 1, 1] 32 32 32 32 0 [⟨0, 160⟩] 1 = false := by rw [bad_one (by decide) (by decide)]; decide +kernel
    have b6 := rfn_one (X0 := 32) (Y0 := 32) (X1 := 32) (Y1 := 32) (F := 0) b4 (by decide) (by decide) (by decide) b5
    exact ⟨⟨⟨⟨⟨b1, b2⟩, b3⟩, b6.1⟩, by rw [b6.2]; rfl⟩, b4, b5⟩
  · cases hg_
end Go.Proofs.YtjnelnofbpjdmaaGreat
set_option linter.unusedVariables false
set_option linter.unusedSimpArgs false
set_option maxRecDepth 20000
namespace Go.Proofs.YtjnelnofbpjdmaaGreat
open Go.Sx Go.Way
def x10L0 : XC := (.seq (.seq (.reg false [O1 11 .mv 5, O1 12 .mv 0, O1 13 .lenS 12, O2 14 (.bin .lss) 11 13]) (.cond (.t 14) .skip (.exit 0))) (.seq (.block 1 (.seq (.reg true [O1 17 .mv 0, O1 18 .mv 5, O2 19 (.ixS 6) 17 18, O1 20 (.loadN 6) 19, O1 21 .mv 1, O1 22 .mv 5, O2 23 (.ixS 6) 21 22, O1 24 (.loadN 6) 23, ⟨(some 25), (.eqA true [(.i .i64), (.i .i64), (.i .i64), (.i .i64), (.i .i64), (.i .i64)]), [(.t 20), (.t 24)], none⟩]) (.cond (.t 25) (.seq (.reg false [K1 4 .mv (.bool false)]) .ret) .skip))) (.reg false [O1 15 .mv 5, K2 16 (.bin .add) 15 (iV 1), O1 5 .mv 16])))
def x10 : XFn := ⟨26, (.seq (.reg false [K1 4 .mv (.bool false)]) (.seq (.seq (.reg false [O1 6 .mv 0, O1 7 .lenS 6, O1 8 .mv 1, O1 9 .lenS 8, O2 10 (.bin .neq) 7 9]) (.cond (.t 10) (.seq (.reg false [K1 4 .mv (.bool false)]) .ret) .skip)) (.seq (.seq (.reg false [K1 5 .mv (iV 0)]) (.block 0 (.loop x10L0))) (.seq (.reg false [K1 4 .mv (.bool true)]) .ret)))), [(.s 4)]⟩
theorem x10_ok : xfn Tryz.prog Tryz.f10 = some x10.er := by kernel_rfl
def x4 : XFn := ⟨73, (.seq (.reg false [O1 3 (.box 24) 0, O1 4 (.box 35) 1, O1 5 (.box 30) 2, K1 6 .mv (.bool false)]) (.seq (.seq (.reg false [⟨(some 11), (.call 5), [], none⟩, O1 12 (.un .not) 11, O1 13 .mv 12, G1 14 (.loadN 3) 3 13 false, G1 15 (.fld 0) 5 13 false, G1 16 .load1 15 13 false, G2 17 (.call 6) 14 16 13 false, G1 18 (.un .not) 17 13 false, ⟨(some 19), .pick, [(.t 13), (.k (.bool true)), (.t 18)], none⟩, O1 20 .mv 19, G1 21 (.loadN 6) 4 20 false, G1 22 (.call 7) 21 20 false, G1 23 (.un .not) 22 20 false, ⟨(some 24), .pick, [(.t 20), (.k (.bool true)), (.t 23)], none⟩]) (.cond (.t 24) (.seq (.reg false [⟨(some 25), (.call 5), [], none⟩, O1 6 .mv 25]) .ret) .skip)) (.seq (.reg false [O1 27 (.loadN 3) 3, O1 28 (.loadN 6) 4, O1 29 (.fld 0) 5, O1 30 .load1 29, O1 31 (.fld 1) 5, O1 32 .load1 31, ⟨(some 33), (.call 11), [(.t 27), (.t 28), (.t 30), (.t 32)], none⟩, O1 26 .mv 33, O1 34 (.ext 0) 26, O1 35 (.ext 1) 26, ⟨(some 7), (.alloc 35 [(iV 0), (iV 0), (iV 0), (iV 0), (iV 0), (iV 0)]), [], none⟩, ⟨none, (.store 6), [(.t 7), (.t 34)], none⟩, O1 8 .mv 35]) (.seq (.reg false [O1 37 (.loadN 3) 3, O1 38 (.loadN 6) 4, O1 39 (.fld 0) 5, O1 40 .load1 39, O1 41 (.fld 1) 5, O1 42 .load1 41, ⟨(some 43), (.call 12), [(.t 37), (.t 38), (.t 40), (.t 42)], none⟩, O1 36 .mv 43, O1 44 (.ext 0) 36, O1 45 (.ext 1) 36, ⟨(some 9), (.alloc 35 [(iV 0), (iV 0), (iV 0), (iV 0), (iV 0), (iV 0)]), [], none⟩, ⟨none, (.store 6), [(.t 9), (.t 44)], none⟩, O1 10 .mv 45]) (.seq (.reg true [O1 46 (.loadN 6) 7, O1 47 (.loadN 6) 9, ⟨(some 48), (.eqA false [(.i .i64), (.i .i64), (.i .i64), (.i .i64), (.i .i64), (.i .i64)]), [(.t 46), (.t 47)], none⟩, O1 49 .mv 48, G1 50 .mv 8 49 true, G1 51 .mv 10 49 true, G2 52 (.binb .eql) 50 51 49 true, ⟨(some 53), .pick, [(.t 49), (.t 52), (.k (.bool false))], none⟩, O1 54 .mv 53, G1 55 (.loadN 3) 3 54 true, G1 56 (.fld 2) 5 54 true, G1 57 (.loadN 3) 56 54 true, G1 58 (.fld 0) 5 54 true, G1 59 .load1 58 54 true, G1 60 (.fld 1) 5 54 true, G1 61 .load1 60 54 true, ⟨(some 62), (.call 13), [(.t 55), (.t 57), (.t 59), (.t 61)], (some (54, true))⟩, G1 63 (.loadN 3) 3 54 true, G1 64 (.fld 2) 5 54 true, G1 65 (.loadN 3) 64 54 true, G1 66 (.fld 0) 5 54 true, G1 67 .load1 66 54 true, G1 68 (.fld 1) 5 54 true, G1 69 .load1 68 54 true, ⟨(some 70), (.call 14), [(.t 63), (.t 65), (.t 67), (.t 69)], (some (54, true))⟩, G2 71 (.binb .eql) 62 70 54 true, ⟨(some 72), .pick, [(.t 54), (.t 71), (.k (.bool false))], none⟩, O1 6 .mv 72]) .ret))))), [(.s 6)]⟩
theorem x4_ok : xfn Tryz.prog Tryz.f4 = some x4.er := by kernel_rfl
def x3L0 : XC := (.seq (.seq (.reg false [O1 45 .mv 7, O1 46 .mv 1, O1 47 .lenS 46, O2 48 (.bin .lss) 45 47]) (.cond (.t 48) .skip (.exit 0))) (.seq (.block 1 (.seq (.reg false [O1 51 .mv 1, O1 52 .mv 7, O2 53 (.ixS 6) 51 52, O1 54 (.loadN 6) 53, O1 55 (.call 7) 54, O1 56 (.un .not) 55]) (.cond (.t 56) (.seq (.reg false [K1 6 .mv (.bool true)]) .ret) .skip))) (.reg false [O1 49 .mv 7, K2 50 (.bin .add) 49 (iV 1), O1 7 .mv 50])))
def x3 : XFn := ⟨104, (.seq (.reg false [O1 3 (.box 24) 0, O1 5 (.box 30) 2, K1 6 .mv (.bool false)]) (.seq (.seq (.reg false [⟨(some 14), (.call 5), [], none⟩, O1 15 (.un .not) 14, O1 16 .mv 15, G1 17 (.loadN 3) 3 16 false, G1 18 (.fld 0) 5 16 false, G1 19 .load1 18 16 false, G2 20 (.call 6) 17 19 16 false, G1 21 (.un .not) 20 16 false, ⟨(some 22), .pick, [(.t 16), (.k (.bool true)), (.t 21)], none⟩, O1 23 .mv 22, G1 24 (.fld 0) 5 23 false, G1 25 .load1 24 23 false, G1 26 .lenS 25 23 false, GK 27 (.bin .eql) 26 (iV 3) 23 false, ⟨(some 28), .pick, [(.t 23), (.k (.bool true)), (.t 27)], none⟩, O1 29 .mv 28, G1 30 .mv 1 29 false, G1 31 .lenS 30 29 false, GK 32 (.bin .gtr) 31 (iV 3) 29 false, G1 33 .mv 32 29 false, G1 34 .mv 1 33 true, G1 35 .lenS 34 33 true, GK 36 (.bin .lss) 35 (iV 17) 33 true, ⟨(some 37), .pick, [(.t 33), (.t 36), (.k (.bool false))], (some (29, false))⟩, ⟨(some 38), .pick, [(.t 29), (.k (.bool true)), (.t 37)], none⟩, O1 39 .mv 38, G1 40 .mv 1 39 false, G1 41 .lenS 40 39 false, GK 42 (.bin .gtr) 41 (iV 20) 39 false, ⟨(some 43), .pick, [(.t 39), (.k (.bool true)), (.t 42)], none⟩]) (.cond (.t 43) (.seq (.reg false [⟨(some 44), (.call 5), [], none⟩, O1 6 .mv 44]) .ret) .skip)) (.seq (.seq (.reg false [K1 7 .mv (iV 0)]) (.block 0 (.loop x3L0))) (.seq (.reg false [O1 57 (.fld 2) 5, O1 58 (.fld 2) 57, O1 59 .load1 58, O1 8 .mv 59]) (.seq (.seq (.reg false [O1 60 .mv 8, K2 61 (.bin .gtr) 60 (iV 4), O1 62 .mv 61, G1 63 .mv 8 62 true, GK 64 (.bin .leq) 63 (iV 64) 62 true, ⟨(some 65), .pick, [(.t 62), (.t 64), (.k (.bool false))], none⟩]) (.cond (.t 65) (.reg false [K1 8 .mv (iV 4)]) .skip)) (.seq (.reg false [⟨(some 66), (.slit 35 0 6 [] []), [], none⟩, O1 67 .mv 1, O2 68 (.app 35 6 48) 66 67, O1 9 .mv 68]) (.seq (.reg false [O1 70 (.loadN 3) 3, O1 71 .mv 9, O1 72 (.fld 0) 5, O1 73 .load1 72, O1 74 (.fld 1) 5, O1 75 .load1 74, O1 76 .mv 8, ⟨(some 77), (.call 8), [(.t 70), (.t 71), (.t 73), (.t 75), (.t 76)], none⟩, O1 69 .mv 77, O1 78 (.ext 0) 69, O1 79 (.ext 1) 69, O1 10 .mv 78, O1 11 .mv 79]) (.seq (.reg false [O1 81 (.loadN 3) 3, O1 82 .mv 1, O1 83 (.fld 0) 5, O1 84 .load1 83, O1 85 (.fld 1) 5, O1 86 .load1 85, O1 87 .mv 8, ⟨(some 88), (.call 9), [(.t 81), (.t 82), (.t 84), (.t 86), (.t 87)], none⟩, O1 80 .mv 88, O1 89 (.ext 0) 80, O1 90 (.ext 1) 80, O1 12 .mv 89, O1 13 .mv 90]) (.seq (.reg false [O1 91 .mv 11, O1 92 .mv 13, O2 93 (.bin .eql) 91 92, O1 94 .mv 93, G1 95 .mv 10 94 true, G1 96 .mv 12 94 true, G2 97 (.call 10) 95 96 94 true, ⟨(some 98), .pick, [(.t 94), (.t 97), (.k (.bool false))], none⟩, O1 99 .mv 98, G1 100 .mv 9 99 true, G1 101 .mv 1 99 true, G2 102 (.call 10) 100 101 99 true, ⟨(some 103), .pick, [(.t 99), (.t 102), (.k (.bool false))], none⟩, O1 6 .mv 103]) .ret))))))))), [(.s 6)]⟩
theorem x3_ok : xfn Tryz.prog Tryz.f3 = some x3.er := by kernel_rfl
theorem bb_ext {a b : BB} (h0 : a.X0 = b.X0) (h1 : a.Y0 = b.Y0) (h2 : a.X1 = b.X1) (h3 : a.Y1 = b.Y1) (h4 : a.F = b.F) (h5 : a.N = b.N) : a = b := by
  cases a; cases b; simp only at h0 h1 h2 h3 h4 h5; subst h0 h1 h2 h3 h4 h5; rfl
/-- wayfinder/wayfinderbase.Boxes -/
def g10 : Con := fun args_ E_ nn_ => match args_ with
  | [.c (.n a), .c (.n b)] => (match rowOf E_ a with
    | some (a_n, a_s, a_f) => (match rowOf E_ b with
    | some (b_n, b_s, b_f) => some (.q (isRow eB a_n a_s a_f ∧ isRow eB b_n b_s b_f ∧ True) (.o (.c (.v (.bool (decide ((decL eB a_n a_f) = (decL eB b_n b_f))))))))
    | none => none)
    | none => none)
  | _ => none
theorem c10 : COk Tryz.prog 10 g10 := by
  refine cok_q Tryz.func10 x10_ok (by kernel_rfl) (cok_tab cok_nil) ?_
  intro args_ E_ nn_ cr_ hg_
  unfold g10 at hg_
  split at hg_
  · rename_i a b
    split at hg_
    · rename_i a_n a_s a_f h_a
      split at hg_
      · rename_i b_n b_s b_f h_b
        cases hg_
        refine ⟨_, _, rfl, 2, [a, b], [.c (.n 0), .c (.n 1)], [(0, .ro (decL eB a_n a_f).length eB.sz (rowF eB (decL eB a_n a_f))), (1, .ro (decL eB b_n b_f).length eB.sz (rowF eB (decL eB b_n b_f)))], .o (.c (.v (.bool (decide ((decL eB a_n a_f) = (decL eB b_n b_f)))))), rfl, rfl, by simp only [push_cast, Nat.reduceLT, Nat.reduceAdd], by simp only [push_cast, Nat.reduceLT, Nat.reduceAdd], by simp only [push_cast, Nat.reduceLT, Nat.reduceAdd], rfl, ⟨inE0_row h_a, inE0_row h_b, trivial⟩, rfl, ?_⟩
        intro hpre hlen
        obtain ⟨i_a, hpre⟩ := hpre
        obtain ⟨i_b, hpre⟩ := hpre
        refine ⟨⟨inE_row h_a i_a, inE_row h_b i_b, trivial⟩, ?_⟩
        have z_a := lens_row (E := eB) hlen h_a
        have z_b := lens_row (E := eB) hlen h_b
        clear i_a
        generalize decL eB a_n a_f = aL at *
        clear i_b
        generalize decL eB b_n b_f = bL at *
        clear h_a
        clear h_b
        simp (config := {maxSteps := 10000000}) only [x10, push_cast, Nat.reduceAdd, Nat.reduceSub, Nat.reduceLeDiff, Nat.reduceEqDiff, Nat.reduceBEq, Nat.reduceMul, Nat.reduceLT, reduceIte, reduceCtorEq, Int.reduceLE, Int.reduceLT, Int.reduceEq, Int.reduceMul, Int.reduceAdd, Int.reduceSub, Int.reduceNeg, Int.reduceToNat, Int.reduceNe]
        refine ⟨fun h => ?_, fun h => ?_⟩
        · symm; rw [decide_eq_false_iff_not]; intro e; exact h (by rw [e])
        refine vcLoop_upd (α := {k : Nat // k ≤ aL.length ∧ ∀ i, i < k → aL.getD i eB.dflt = bL.getD i eB.dflt}) [0, 1] 0 (fun s => [(5, .o (.c (.v (.int .i64 (s.1 : Nat)))))]) (fun s => []) (fun s => aL.length - s.1) ⟨0, by omega, fun i hi => by omega⟩ ?_ ?_
        · simp only [push_cast, Nat.reduceAdd, Nat.reduceSub, Nat.reduceLeDiff, Nat.reduceEqDiff, Nat.reduceBEq, Nat.reduceMul, Nat.reduceLT, reduceIte, reduceCtorEq, Int.reduceLE, Int.reduceLT, Int.reduceEq, Int.reduceMul, Int.reduceAdd, Int.reduceSub, Int.reduceNeg, Int.reduceToNat, Int.reduceNe]
        rintro ⟨k, hk, hall⟩
        simp only [x10L0, push_cast, Nat.reduceAdd, Nat.reduceSub, Nat.reduceLeDiff, Nat.reduceEqDiff, Nat.reduceBEq, Nat.reduceMul, Nat.reduceLT, reduceIte, reduceCtorEq, Int.reduceLE, Int.reduceLT, Int.reduceEq, Int.reduceMul, Int.reduceAdd, Int.reduceSub, Int.reduceNeg, Int.reduceToNat, Int.reduceNe]
        refine ⟨fun hlt => ⟨hlt, hlt, by omega, by omega, fun hne => ?_, fun e0 e1 e2 e3 e4 e5 => ⟨⟨k + 1, by omega, fun i hi => ?_⟩, wrapI (by omega) (by omega), by simp only; omega⟩⟩, fun hge => ?_⟩
        · symm; rw [decide_eq_false_iff_not]; intro e; rw [e] at hne; simp at hne
        · by_cases hik : i = k
          · subst hik; exact bb_ext e0 e1 e2 e3 e4 e5
          · exact hall i (by omega)
        · symm; rw [decide_eq_true_eq]; exact getD_ext eB.dflt (by omega) (fun i hi => hall i (by omega))
      · cases hg_
    · cases hg_
  · cases hg_
/-- wayfinder/wayfinderlaw24.ContractTrims -/
def g4 : Con := fun args_ E_ nn_ => match args_ with
  | [.a [.v (.int .i64 p_W), .v (.int .i64 p_H), .n p_Cells], .a [.v (.int .i64 b_X0), .v (.int .i64 b_Y0), .v (.int .i64 b_X1), .v (.int .i64 b_Y1), .v (.int .i64 b_From), .v (.int .i64 b_Count)], .a [.n x_Scan, .v (.int .i64 x_Rng), .v (.int .i64 x_At_X), .v (.int .i64 x_At_Y), .v (.int .i64 x_At_H)]] => (match rowOf E_ p_Cells with
    | some (p_Cells_n, p_Cells_s, p_Cells_f) => (match rowOf E_ x_Scan with
    | some (x_Scan_n, x_Scan_s, x_Scan_f) => some (.q (isRow eU8 p_Cells_n p_Cells_s p_Cells_f ∧ isRow eC x_Scan_n x_Scan_s x_Scan_f ∧ True) (.o (.c (.v (.bool (true))))))
    | none => none)
    | none => none)
  | _ => none
set_option maxHeartbeats 1000000 in
theorem c4 : COk Tryz.prog 4 g4 := by
  refine cok_q Tryz.func4 x4_ok (by kernel_rfl) (cok_tab (cok_cons c5 (cok_cons c6 (cok_cons c7 (cok_cons c11 (cok_cons c12 (cok_cons c13 (cok_cons c14 cok_nil)))))))) ?_
  intro args_ E_ nn_ cr_ hg_
  unfold g4 at hg_
  split at hg_
  · rename_i p_W p_H p_Cells b_X0 b_Y0 b_X1 b_Y1 b_From b_Count x_Scan x_Rng x_At_X x_At_Y x_At_H
    split at hg_
    · rename_i p_Cells_n p_Cells_s p_Cells_f h_p_Cells
      split at hg_
      · rename_i x_Scan_n x_Scan_s x_Scan_f h_x_Scan
        cases hg_
        refine ⟨_, _, rfl, 2, [p_Cells, x_Scan], [.a [.v (.int .i64 p_W), .v (.int .i64 p_H), .n 0], .a [.v (.int .i64 b_X0), .v (.int .i64 b_Y0), .v (.int .i64 b_X1), .v (.int .i64 b_Y1), .v (.int .i64 b_From), .v (.int .i64 b_Count)], .a [.n 1, .v (.int .i64 x_Rng), .v (.int .i64 x_At_X), .v (.int .i64 x_At_Y), .v (.int .i64 x_At_H)]], [(0, .ro (decL eU8 p_Cells_n p_Cells_f).length eU8.sz (rowF eU8 (decL eU8 p_Cells_n p_Cells_f))), (1, .ro (decL eC x_Scan_n x_Scan_f).length eC.sz (rowF eC (decL eC x_Scan_n x_Scan_f)))], .o (.c (.v (.bool (true)))), rfl, rfl, by simp only [push_cast, Nat.reduceLT, Nat.reduceAdd], by simp only [push_cast, Nat.reduceLT, Nat.reduceAdd], by simp only [push_cast, Nat.reduceLT, Nat.reduceAdd], rfl, ⟨inE0_row h_p_Cells, inE0_row h_x_Scan, trivial⟩, rfl, ?_⟩
        intro hpre hlen
        obtain ⟨i_p_Cells, hpre⟩ := hpre
        obtain ⟨i_x_Scan, hpre⟩ := hpre
        refine ⟨⟨inE_row h_p_Cells i_p_Cells, inE_row h_x_Scan i_x_Scan, trivial⟩, ?_⟩
        have z_p_Cells := lens_row (E := eU8) hlen h_p_Cells
        have z_x_Scan := lens_row (E := eC) hlen h_x_Scan
        clear i_p_Cells
        generalize decL eU8 p_Cells_n p_Cells_f = p_CellsL at *
        clear i_x_Scan
        generalize decL eC x_Scan_n x_Scan_f = x_ScanL at *
        clear h_p_Cells
        clear h_x_Scan
        simp (config := {maxSteps := 10000000}) only [x4, push_cast, Nat.reduceAdd, Nat.reduceSub, Nat.reduceLeDiff, Nat.reduceEqDiff, Nat.reduceBEq, Nat.reduceMul, Nat.reduceLT, reduceIte, reduceCtorEq, Int.reduceLE, Int.reduceLT, Int.reduceEq, Int.reduceMul, Int.reduceAdd, Int.reduceSub, Int.reduceNeg, Int.reduceToNat, Int.reduceNe, g5, g6, g7, g11, g12, g13, g14]
      · cases hg_
    · cases hg_
  · cases hg_
/-- wayfinder/wayfinderlaw24.ContractRefines -/
def g3 : Con := fun args_ E_ nn_ => match args_ with
  | [.a [.v (.int .i64 p_W), .v (.int .i64 p_H), .n p_Cells], .c (.n set), .a [.n x_Scan, .v (.int .i64 x_Rng), .v (.int .i64 x_At_X), .v (.int .i64 x_At_Y), .v (.int .i64 x_At_H)]] => (match rowOf E_ p_Cells with
    | some (p_Cells_n, p_Cells_s, p_Cells_f) => (match rowOf E_ set with
    | some (set_n, set_s, set_f) => (match rowOf E_ x_Scan with
    | some (x_Scan_n, x_Scan_s, x_Scan_f) => some (.q (isRow eU8 p_Cells_n p_Cells_s p_Cells_f ∧ isRow eB set_n set_s set_f ∧ isRow eC x_Scan_n x_Scan_s x_Scan_f ∧ True) (.o (.c (.v (.bool (true))))))
    | none => none)
    | none => none)
    | none => none)
  | _ => none
set_option maxHeartbeats 2000000 in
theorem c3 : COk Tryz.prog 3 g3 := by
  refine cok_q Tryz.func3 x3_ok (by kernel_rfl) (cok_tab (cok_cons c5 (cok_cons c6 (cok_cons c7 (cok_cons c8 (cok_cons c9 (cok_cons c10 cok_nil))))))) ?_
  intro args_ E_ nn_ cr_ hg_
  unfold g3 at hg_
  split at hg_
  · rename_i p_W p_H p_Cells set x_Scan x_Rng x_At_X x_At_Y x_At_H
    split at hg_
    · rename_i p_Cells_n p_Cells_s p_Cells_f h_p_Cells
      split at hg_
      · rename_i set_n set_s set_f h_set
        split at hg_
        · rename_i x_Scan_n x_Scan_s x_Scan_f h_x_Scan
          cases hg_
          refine ⟨_, _, rfl, 3, [p_Cells, set, x_Scan], [.a [.v (.int .i64 p_W), .v (.int .i64 p_H), .n 0], .c (.n 1), .a [.n 2, .v (.int .i64 x_Rng), .v (.int .i64 x_At_X), .v (.int .i64 x_At_Y), .v (.int .i64 x_At_H)]], [(0, .ro (decL eU8 p_Cells_n p_Cells_f).length eU8.sz (rowF eU8 (decL eU8 p_Cells_n p_Cells_f))), (1, .ro (decL eB set_n set_f).length eB.sz (rowF eB (decL eB set_n set_f))), (2, .ro (decL eC x_Scan_n x_Scan_f).length eC.sz (rowF eC (decL eC x_Scan_n x_Scan_f)))], .o (.c (.v (.bool (true)))), rfl, rfl, by simp only [push_cast, Nat.reduceLT, Nat.reduceAdd], by simp only [push_cast, Nat.reduceLT, Nat.reduceAdd], by simp only [push_cast, Nat.reduceLT, Nat.reduceAdd], rfl, ⟨inE0_row h_p_Cells, inE0_row h_set, inE0_row h_x_Scan, trivial⟩, rfl, ?_⟩
          intro hpre hlen
          obtain ⟨i_p_Cells, hpre⟩ := hpre
          obtain ⟨i_set, hpre⟩ := hpre
          obtain ⟨i_x_Scan, hpre⟩ := hpre
          refine ⟨⟨inE_row h_p_Cells i_p_Cells, inE_row h_set i_set, inE_row h_x_Scan i_x_Scan, trivial⟩, ?_⟩
          have z_p_Cells := lens_row (E := eU8) hlen h_p_Cells
          have z_set := lens_row (E := eB) hlen h_set
          have z_x_Scan := lens_row (E := eC) hlen h_x_Scan
          clear i_p_Cells
          generalize decL eU8 p_Cells_n p_Cells_f = p_CellsL at *
          clear i_set
          generalize decL eB set_n set_f = setL at *
          clear i_x_Scan
          generalize decL eC x_Scan_n x_Scan_f = x_ScanL at *
          clear h_p_Cells
          clear h_set
          clear h_x_Scan
          simp (config := {maxSteps := 10000000}) only [x3, push_cast, Nat.reduceAdd, Nat.reduceSub, Nat.reduceLeDiff, Nat.reduceEqDiff, Nat.reduceBEq, Nat.reduceMul, Nat.reduceLT, reduceIte, reduceCtorEq, Int.reduceLE, Int.reduceLT, Int.reduceEq, Int.reduceMul, Int.reduceAdd, Int.reduceSub, Int.reduceNeg, Int.reduceToNat, Int.reduceNe, g5, g6, g7, g8, g9, g10]
          refine ⟨fun a b c => ⟨⟨⟨a, b⟩, c⟩, fun d => ⟨⟨⟨a, b⟩, c⟩, d⟩⟩, fun a b c d e => ?_⟩
          refine vcLoop_upd (α := {k : Nat // k ≤ setL.length}) [1, 3, 5] 0 (fun s => [(7, .o (.c (.v (.int .i64 (s.1 : Nat)))))]) (fun s => []) (fun s => setL.length - s.1) ⟨0, by omega⟩ ?_ ?_
          · simp only [push_cast, Nat.reduceAdd, Nat.reduceSub, Nat.reduceLeDiff, Nat.reduceEqDiff, Nat.reduceBEq, Nat.reduceMul, Nat.reduceLT, reduceIte, reduceCtorEq, Int.reduceLE, Int.reduceLT, Int.reduceEq, Int.reduceMul, Int.reduceAdd, Int.reduceSub, Int.reduceNeg, Int.reduceToNat, Int.reduceNe, g5, g6, g7, g8, g9, g10]
          rintro ⟨k, hk⟩
          simp only [x3L0, push_cast, Nat.reduceAdd, Nat.reduceSub, Nat.reduceLeDiff, Nat.reduceEqDiff, Nat.reduceBEq, Nat.reduceMul, Nat.reduceLT, reduceIte, reduceCtorEq, Int.reduceLE, Int.reduceLT, Int.reduceEq, Int.reduceMul, Int.reduceAdd, Int.reduceSub, Int.reduceNeg, Int.reduceToNat, Int.reduceNe, g5, g6, g7, g8, g9, g10]
          have hc : catF 0 (litF [] 6) (rowF eB setL) = rowF eB setL := by
            funext e j
            unfold catF
            rw [if_neg (by omega), Nat.sub_zero]
          have h1 : isRow eB setL.length 6 (rowF eB setL) := (isRow_rowF _).2 trivial
          have h2 : decL eB setL.length (rowF eB setL) = setL := decL_rowF setL
          rw [hc, h2]
          exact ⟨fun hlt => ⟨hlt, hlt, fun _ => ⟨⟨k + 1, by omega⟩, wrapI (by omega) (by omega), by simp only; omega⟩⟩, fun _ => ⟨fun _ _ => ⟨by omega, h1, fun _ _ => ⟨⟨rfl, rfl⟩, h1⟩, ⟨rfl, rfl⟩, rfl⟩, fun _ => ⟨by omega, h1, fun _ _ => ⟨⟨rfl, rfl⟩, h1⟩, ⟨rfl, rfl⟩, rfl⟩⟩⟩
        · cases hg_
      · cases hg_
    · cases hg_
  · cases hg_
end Go.Proofs.YtjnelnofbpjdmaaGreat
