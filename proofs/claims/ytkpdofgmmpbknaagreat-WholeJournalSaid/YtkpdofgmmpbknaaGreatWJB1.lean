/- A part of the proof of a statement about this seat: how a function is stepped through, and plain laws. No conditions. -/
import Derived.Test.YtkpdofgmmpbknaaGreatRows
import Derived.Test.YtkpdofgmmpbknaaGreatWJSz4
import Derived.Test.YtkpdofgmmpbknaaGreatWJV2
import Derived.KernelRfl
set_option linter.unusedVariables false
set_option linter.unusedSimpArgs false
set_option maxRecDepth 20000
namespace Go.Proofs.YtkpdofgmmpbknaaGreat
open Go.Sx Go.Way
structure QQ where
  X : Int
  Y : Int
  H : Int
def eQ : Enc QQ where
  sz := 3
  ks := [.i .i64, .i .i64, .i .i64]
  wf := fun x => ((-9223372036854775808) ≤ x.X ∧ x.X ≤ 9223372036854775807) ∧ ((-9223372036854775808) ≤ x.Y ∧ x.Y ≤ 9223372036854775807) ∧ ((-9223372036854775808) ≤ x.H ∧ x.H ≤ 9223372036854775807)
  enc := fun x => [.v (.int .i64 x.X), .v (.int .i64 x.Y), .v (.int .i64 x.H)]
  dec := fun f => ⟨intC (f 0), intC (f 1), intC (f 2)⟩
  dflt := ⟨0, 0, 0⟩
  flat := by
    intro x c hc
    simp only [List.mem_cons, List.not_mem_nil, or_false] at hc
    rcases hc with rfl | rfl | rfl <;> exact ⟨_, rfl, rfl⟩
  len := fun x => rfl
  onto := by
    intro cs h
    obtain ⟨n0, cs0, rfl, a0, b0, h0⟩ := kind_i h
    obtain ⟨n1, cs1, rfl, a1, b1, h1⟩ := kind_i h0
    obtain ⟨n2, cs2, rfl, a2, b2, h2⟩ := kind_i h1
    obtain rfl := kind_n h2
    exact ⟨⟨n0, n1, n2⟩, rfl, ⟨a0, b0⟩, ⟨a1, b1⟩, ⟨a2, b2⟩⟩
  de := by
    intro x f h
    have h0 := h 0 (by decide)
    simp only [nth] at h0
    have h1 := h 1 (by decide)
    simp only [nth] at h1
    have h2 := h 2 (by decide)
    simp only [nth] at h2
    simp only [h0, h1, h2, intC, boolC]
theorem eQ_sz : eQ.sz = 3 := rfl
theorem eQ_0 (L : List QQ) (e : Nat) : rowF eQ L e 0 = .v (.int .i64 (L.getD e eQ.dflt).X) := rfl
theorem eQ_1 (L : List QQ) (e : Nat) : rowF eQ L e 1 = .v (.int .i64 (L.getD e eQ.dflt).Y) := rfl
theorem eQ_2 (L : List QQ) (e : Nat) : rowF eQ L e 2 = .v (.int .i64 (L.getD e eQ.dflt).H) := rfl
theorem eQ_eta (x : QQ) : QQ.mk x.X x.Y x.H = x := rfl
theorem eQ_isRow (L : List QQ) : isRow eQ L.length 3 (rowF eQ L) ↔ True := isRow_rowF L
attribute [push_cast] eQ_eta eQ_isRow eQ_sz eQ_0 eQ_1 eQ_2
def ixOf {α : Type} (p : α → Bool) (L : List α) : Int := match L.findIdx? p with | some i => i | none => -1
theorem ixOf_some {α : Type} {p : α → Bool} {L : List α} {d : α} {k : Nat} (hk : k < L.length) (h1 : ∀ i, i < k → p (L.getD i d) = false) (h2 : p (L.getD k d) = true) : ixOf p L = k := by
  have hg : ∀ i (h : i < L.length), L.getD i d = L[i] := fun i h => by rw [List.getD_eq_getElem?_getD, List.getElem?_eq_getElem h]; rfl
  have : L.findIdx? p = some k := by
    rw [List.findIdx?_eq_some_iff_getElem]
    refine ⟨hk, by rw [← hg k hk]; exact h2, fun j hj => ?_⟩
    have := h1 j hj
    rw [hg j (by omega)] at this
    simp [this]
  unfold ixOf; rw [this]
theorem ixOf_none {α : Type} {p : α → Bool} {L : List α} {d : α} (h1 : ∀ i, i < L.length → p (L.getD i d) = false) : ixOf p L = -1 := by
  have hg : ∀ i (h : i < L.length), L.getD i d = L[i] := fun i h => by rw [List.getD_eq_getElem?_getD, List.getElem?_eq_getElem h]; rfl
  have : L.findIdx? p = none := by
    rw [List.findIdx?_eq_none_iff]
    intro x hx
    obtain ⟨i, hi, rfl⟩ := List.getElem_of_mem hx
    have := h1 i hi
    rw [hg i hi] at this
    exact this
  unfold ixOf; rw [this]
theorem ixOf_any {α : Type} (p : α → Bool) (L : List α) : decide (0 ≤ ixOf p L) = L.any p := by
  unfold ixOf
  cases h : L.findIdx? p with
  | none =>
    rw [List.findIdx?_eq_none_iff] at h
    have : L.any p = false := by rw [List.any_eq_false]; intro x hx; simp [h x hx]
    rw [this]; rfl
  | some i =>
    rw [List.findIdx?_eq_some_iff_getElem] at h
    obtain ⟨hi, h1, _⟩ := h
    have : L.any p = true := List.any_eq_true.2 ⟨L[i], List.getElem_mem hi, h1⟩
    rw [this]
    simp
structure RobS where
  W : Int
  H : Int
  L : List Int
  bT : Int
  bL : Int
  bS : Int
  bR : Int
  x : Int
  y : Int
  h : Int
  ticks : Int
  bumps : Int
def wrongM (n : Int) : Bool := decide (n < 0 ∨ 256 ≤ n)
def cmdB (t f : Int) : Bool := decide ((-32 ≤ t ∧ t ≤ 32) ∧ 0 ≤ f ∧ f ≤ 32)
def bndB (bT bL bS bR : Int) : Bool := decide ((0 ≤ bT ∧ bT ≤ 8) ∧ (0 ≤ bL ∧ bL ≤ 16) ∧ (0 ≤ bS ∧ bS ≤ 8) ∧ 1 ≤ bR ∧ bR ≤ 32)
def posB (x y h : Int) : Bool := decide (((-1048576 ≤ x ∧ x ≤ 1048576) ∧ -1048576 ≤ y ∧ y ≤ 1048576) ∧ 0 ≤ h ∧ h ≤ 255)
noncomputable def rnewE (W H : Int) (L : List Int) (bT bL bS bR x y h : Int) : Int :=
  if ckV W H L ≠ 0 then ckV W H L else if bndB bT bL bS bR = false ∨ posB x y h = false then 1 else if fitB W H L x y = false then 9 else 0
def actOk (a : ActL) : Bool := cmdB a.turn a.fwd && decide (a.marks.length ≤ 32) && !a.marks.any wrongM
def slipO (r : RobS) (a : ActL) : Int × Int × Int × Int × Int := clipS r.bT r.bL r.bS r.bR a.sT a.sL a.sX a.sY
noncomputable def stO (r : RobS) (a : ActL) : Int × Int × Int × Bool × Int := stepS r.W r.H r.L r.x r.y r.h a.turn a.fwd (slipO r a).1 (slipO r a).2.1 (slipO r a).2.2.1 (slipO r a).2.2.2.1
noncomputable def doR (r : RobS) (a : ActL) : RobS :=
  if actOk a = true then ⟨r.W, r.H, r.L, r.bT, r.bL, r.bS, r.bR, (stO r a).1, (stO r a).2.1, (stO r a).2.2.1, r.ticks + 1, r.bumps + (if (stO r a).2.2.2.1 = true then 1 else 0)⟩ else r
noncomputable def doV (r : RobS) (a : ActL) : EvtL :=
  if actOk a = true then ⟨r.ticks + 1, a.turn, a.fwd, (stO r a).2.2.2.1, swpL r.W r.H r.L (stO r a).1 (stO r a).2.1 (stO r a).2.2.1 r.bR a.marks a.errs⟩ else ⟨0, 0, 0, false, []⟩
def doE (a : ActL) : Int := if actOk a = true then 0 else 1
theorem doR_t {r : RobS} {a : ActL} (h : actOk a = true) : doR r a = ⟨r.W, r.H, r.L, r.bT, r.bL, r.bS, r.bR, (stO r a).1, (stO r a).2.1, (stO r a).2.2.1, r.ticks + 1, r.bumps + (if (stO r a).2.2.2.1 = true then 1 else 0)⟩ := if_pos h
theorem doV_t {r : RobS} {a : ActL} (h : actOk a = true) : doV r a = ⟨r.ticks + 1, a.turn, a.fwd, (stO r a).2.2.2.1, swpL r.W r.H r.L (stO r a).1 (stO r a).2.1 (stO r a).2.2.1 r.bR a.marks a.errs⟩ := if_pos h
theorem doR_f {r : RobS} {a : ActL} (h : actOk a = false) : doR r a = r := if_neg (by rw [h]; decide)
theorem doV_f {r : RobS} {a : ActL} (h : actOk a = false) : doV r a = ⟨0, 0, 0, false, []⟩ := if_neg (by rw [h]; decide)
theorem actOk_f {a : ActL} (h : (¬ ((-32 ≤ a.turn ∧ a.turn ≤ 32) ∧ 0 ≤ a.fwd ∧ a.fwd ≤ 32) ∨ (32 : Int) < (a.marks.length : Nat)) ∨ a.marks.any wrongM = true) : actOk a = false := by
  unfold actOk
  rcases h with (h | h) | h
  · have : cmdB a.turn a.fwd = false := decide_eq_false h
    rw [this]; rfl
  · rw [decide_eq_false (p := a.marks.length ≤ 32) (by omega)]; simp
  · rw [h]; simp
theorem actOk_t {a : ActL} (h1 : (-32 ≤ a.turn ∧ a.turn ≤ 32) ∧ 0 ≤ a.fwd ∧ a.fwd ≤ 32) (h2 : ((a.marks.length : Nat) : Int) ≤ 32) (h3 : a.marks.any wrongM = false) : actOk a = true := by
  unfold actOk
  have : cmdB a.turn a.fwd = true := decide_eq_true h1
  rw [this, decide_eq_true (p := a.marks.length ≤ 32) (by omega), h3]; rfl
theorem rnew_ck {W H : Int} {L : List Int} {bT bL bS bR x y h : Int} (e : ckV W H L ≠ 0) : rnewE W H L bT bL bS bR x y h = ckV W H L := if_pos e
theorem rnew_arg {W H : Int} {L : List Int} {bT bL bS bR x y h : Int} (e : ckV W H L = 0) (e2 : ¬ ((0 ≤ bT ∧ bT ≤ 8) ∧ (0 ≤ bL ∧ bL ≤ 16) ∧ (0 ≤ bS ∧ bS ≤ 8) ∧ 1 ≤ bR ∧ bR ≤ 32) ∨ ¬ (((-1048576 ≤ x ∧ x ≤ 1048576) ∧ -1048576 ≤ y ∧ y ≤ 1048576) ∧ 0 ≤ h ∧ h ≤ 255)) : rnewE W H L bT bL bS bR x y h = 1 := by
  unfold rnewE
  rw [if_neg (by rw [e]; decide), if_pos]
  rcases e2 with e2 | e2
  · exact .inl (decide_eq_false e2)
  · exact .inr (decide_eq_false e2)
theorem rnew_fit {W H : Int} {L : List Int} {bT bL bS bR x y h : Int} (e : ckV W H L = 0) (e2 : ((0 ≤ bT ∧ bT ≤ 8) ∧ (0 ≤ bL ∧ bL ≤ 16) ∧ (0 ≤ bS ∧ bS ≤ 8) ∧ 1 ≤ bR ∧ bR ≤ 32) ∧ (((-1048576 ≤ x ∧ x ≤ 1048576) ∧ -1048576 ≤ y ∧ y ≤ 1048576) ∧ 0 ≤ h ∧ h ≤ 255)) : rnewE W H L bT bL bS bR x y h = if fitB W H L x y = false then 9 else 0 := by
  unfold rnewE
  rw [if_neg (by rw [e]; decide), if_neg]
  rintro (q | q)
  · rw [show bndB bT bL bS bR = true from decide_eq_true e2.1] at q; cases q
  · rw [show posB x y h = true from decide_eq_true e2.2] at q; cases q
theorem rnew_ok {W H : Int} {L : List Int} {bT bL bS bR x y h : Int} (e : rnewE W H L bT bL bS bR x y h = 0) : ckV W H L = 0 ∧ (((0 ≤ bT ∧ bT ≤ 8) ∧ (0 ≤ bL ∧ bL ≤ 16) ∧ (0 ≤ bS ∧ bS ≤ 8) ∧ 1 ≤ bR ∧ bR ≤ 32) ∧ (((-1048576 ≤ x ∧ x ≤ 1048576) ∧ -1048576 ≤ y ∧ y ≤ 1048576) ∧ 0 ≤ h ∧ h ≤ 255)) ∧ fitB W H L x y = true := by
  by_cases h1 : ckV W H L = 0
  · refine ⟨h1, ?_⟩
    by_cases h2 : ((0 ≤ bT ∧ bT ≤ 8) ∧ (0 ≤ bL ∧ bL ≤ 16) ∧ (0 ≤ bS ∧ bS ≤ 8) ∧ 1 ≤ bR ∧ bR ≤ 32) ∧ (((-1048576 ≤ x ∧ x ≤ 1048576) ∧ -1048576 ≤ y ∧ y ≤ 1048576) ∧ 0 ≤ h ∧ h ≤ 255)
    · rw [rnew_fit h1 h2] at e
      refine ⟨h2, ?_⟩
      cases hf : fitB W H L x y
      · rw [if_pos hf] at e; cases e
      · rfl
    · rw [rnew_arg h1 (by omega)] at e; cases e
  · rw [rnew_ck h1] at e; exact absurd e h1
theorem ck_len {W H : Int} {L : List Int} (h : ckV W H L = 0) : L.length ≤ 4096 := by
  have hb := ckV_ok.1 h
  unfold buildB at hb
  rw [Bool.and_eq_true] at hb
  have := planB_at hb.1
  omega
noncomputable def rbK (r : RobS) (A : List ActL) : Nat → RobS
  | 0 => r
  | k + 1 => doR (rbK r A k) (A.getD k eAct.dflt)
noncomputable def evK (r : RobS) (A : List ActL) (k : Nat) : List EvtL := (List.range k).map fun i => doV (rbK r A i) (A.getD i eAct.dflt)
def poseO (r : RobS) : QQ := ⟨r.x, r.y, r.h⟩
noncomputable def poK (r : RobS) (A : List ActL) (k : Nat) : List QQ := (List.range k).map fun i => poseO (rbK r A (i + 1))
def rob0 (W H : Int) (L : List Int) (bT bL bS bR x y h : Int) : RobS := ⟨W, H, L, bT, bL, bS, bR, x, y, h, 0, 0⟩
noncomputable def runE (W H : Int) (L : List Int) (bT bL bS bR x y h : Int) (A : List ActL) : Int :=
  if rnewE W H L bT bL bS bR x y h ≠ 0 then rnewE W H L bT bL bS bR x y h else if A.all actOk = true then 0 else 1
noncomputable def runV (W H : Int) (L : List Int) (bT bL bS bR x y h : Int) (A : List ActL) : List EvtL := if runE W H L bT bL bS bR x y h A = 0 then evK (rob0 W H L bT bL bS bR x y h) A A.length else []
noncomputable def runP (W H : Int) (L : List Int) (bT bL bS bR x y h : Int) (A : List ActL) : List QQ := if runE W H L bT bL bS bR x y h A = 0 then poK (rob0 W H L bT bL bS bR x y h) A A.length else []
section
variable (r : RobS) (A : List ActL)
theorem rbK_succ (k : Nat) : rbK r A (k + 1) = doR (rbK r A k) (A.getD k eAct.dflt) := rfl
theorem evK_len (k : Nat) : (evK r A k).length = k := by simp [evK]
theorem poK_len (k : Nat) : (poK r A k).length = k := by simp [poK]
theorem evK_succ (k : Nat) : evK r A (k + 1) = evK r A k ++ [doV (rbK r A k) (A.getD k eAct.dflt)] := by simp [evK, List.range_succ]
theorem poK_succ (k : Nat) : poK r A (k + 1) = poK r A k ++ [poseO (rbK r A (k + 1))] := by simp [poK, List.range_succ]
theorem doR_keep (a : ActL) : (doR r a).W = r.W ∧ (doR r a).H = r.H ∧ (doR r a).L = r.L ∧ (doR r a).bT = r.bT ∧ (doR r a).bL = r.bL ∧ (doR r a).bS = r.bS ∧ (doR r a).bR = r.bR := by
  cases h : actOk a
  · rw [doR_f h]; exact ⟨rfl, rfl, rfl, rfl, rfl, rfl, rfl⟩
  · rw [doR_t h]; exact ⟨rfl, rfl, rfl, rfl, rfl, rfl, rfl⟩
theorem doR_cnt (a : ActL) : (r.ticks ≤ (doR r a).ticks ∧ (doR r a).ticks ≤ r.ticks + 1) ∧ r.bumps ≤ (doR r a).bumps ∧ (doR r a).bumps ≤ r.bumps + 1 := by
  cases h : actOk a
  · rw [doR_f h]; omega
  · rw [doR_t h]; simp only; split <;> omega
theorem rbK_keep : ∀ k, (rbK r A k).W = r.W ∧ (rbK r A k).H = r.H ∧ (rbK r A k).L = r.L ∧ (rbK r A k).bT = r.bT ∧ (rbK r A k).bL = r.bL ∧ (rbK r A k).bS = r.bS ∧ (rbK r A k).bR = r.bR
  | 0 => ⟨rfl, rfl, rfl, rfl, rfl, rfl, rfl⟩
  | k + 1 => by
    have h1 := rbK_keep k
    have h2 := doR_keep (rbK r A k) (A.getD k eAct.dflt)
    rw [rbK_succ]
    exact ⟨h2.1.trans h1.1, h2.2.1.trans h1.2.1, h2.2.2.1.trans h1.2.2.1, h2.2.2.2.1.trans h1.2.2.2.1, h2.2.2.2.2.1.trans h1.2.2.2.2.1, h2.2.2.2.2.2.1.trans h1.2.2.2.2.2.1, h2.2.2.2.2.2.2.trans h1.2.2.2.2.2.2⟩
theorem rbK_cnt : ∀ k : Nat, (r.ticks ≤ (rbK r A k).ticks ∧ (rbK r A k).ticks ≤ r.ticks + k) ∧ r.bumps ≤ (rbK r A k).bumps ∧ (rbK r A k).bumps ≤ r.bumps + k
  | 0 => by simp [rbK]
  | k + 1 => by
    have h1 := rbK_cnt k
    have h2 := doR_cnt (rbK r A k) (A.getD k eAct.dflt)
    rw [rbK_succ]
    omega
end
theorem act_eta (x : ActL) : ActL.mk x.turn x.fwd x.sT x.sL x.sX x.sY x.marks x.errs = x := rfl
theorem evt_eta (x : EvtL) : EvtL.mk x.tick x.turn x.fwd x.bump x.scan = x := rfl
theorem rob_eta (x : RobS) : RobS.mk x.W x.H x.L x.bT x.bL x.bS x.bR x.x x.y x.h x.ticks x.bumps = x := rfl
attribute [push_cast] act_eta evt_eta rob_eta
theorem run_bad {W H : Int} {L : List Int} {bT bL bS bR x y h : Int} {A : List ActL} {i : Nat} (h0 : rnewE W H L bT bL bS bR x y h = 0) (hi : i < A.length) (ha : actOk (A.getD i eAct.dflt) = false) :
    runE W H L bT bL bS bR x y h A = 1 ∧ runV W H L bT bL bS bR x y h A = [] ∧ runP W H L bT bL bS bR x y h A = [] := by
  have hall : ¬ A.all actOk = true := by
    intro hh
    rw [List.all_eq_true] at hh
    have hm : A.getD i eAct.dflt ∈ A := by rw [List.getD_eq_getElem?_getD, List.getElem?_eq_getElem hi, Option.getD_some]; exact List.getElem_mem hi
    have := hh _ hm
    rw [ha] at this; cases this
  have e : runE W H L bT bL bS bR x y h A = 1 := by
    unfold runE
    rw [if_neg (by rw [h0]; decide), if_neg hall]
  refine ⟨e, ?_, ?_⟩
  · unfold runV; rw [if_neg (by rw [e]; decide)]
  · unfold runP; rw [if_neg (by rw [e]; decide)]
theorem run_ok {W H : Int} {L : List Int} {bT bL bS bR x y h : Int} {A : List ActL} (h0 : rnewE W H L bT bL bS bR x y h = 0) (ha : ∀ i, i < A.length → actOk (A.getD i eAct.dflt) = true) :
    runE W H L bT bL bS bR x y h A = 0 ∧ runV W H L bT bL bS bR x y h A = evK (rob0 W H L bT bL bS bR x y h) A A.length ∧ runP W H L bT bL bS bR x y h A = poK (rob0 W H L bT bL bS bR x y h) A A.length := by
  have e : runE W H L bT bL bS bR x y h A = 0 := by
    unfold runE
    rw [if_neg (by rw [h0]; decide), if_pos]
    rw [List.all_eq_true]
    intro z hz
    obtain ⟨i, hi, rfl⟩ := List.getElem_of_mem hz
    have := ha i hi
    rwa [List.getD_eq_getElem?_getD, List.getElem?_eq_getElem hi, Option.getD_some] at this
  refine ⟨e, ?_, ?_⟩
  · unfold runV; rw [if_pos e]
  · unfold runP; rw [if_pos e]
theorem run_new {W H : Int} {L : List Int} {bT bL bS bR x y h : Int} {A : List ActL} (h0 : ¬ rnewE W H L bT bL bS bR x y h = 0) :
    runE W H L bT bL bS bR x y h A = rnewE W H L bT bL bS bR x y h ∧ runV W H L bT bL bS bR x y h A = [] ∧ runP W H L bT bL bS bR x y h A = [] := by
  have e : runE W H L bT bL bS bR x y h A = rnewE W H L bT bL bS bR x y h := by unfold runE; rw [if_pos h0]
  refine ⟨e, ?_, ?_⟩
  · unfold runV; rw [if_neg (by rw [e]; exact h0)]
  · unfold runP; rw [if_neg (by rw [e]; exact h0)]
theorem doE_1 {a : ActL} (h : ¬ doE a = 0) : actOk a = false ∧ doE a = 1 := by
  unfold doE at *
  cases ha : actOk a
  · exact ⟨rfl, if_neg (by decide)⟩
  · rw [ha] at h; exact absurd rfl h
theorem doE_0 {a : ActL} (h : doE a = 0) : actOk a = true := by
  unfold doE at h
  cases ha : actOk a
  · rw [ha] at h; cases h
  · rfl
theorem push_eq' {α : Type} {E : Enc α} {L L' : List α} {x : α} {sz n : Nat} {cs : List SC} {b : Bnd} (hn : n = L.length) (hc : cs = E.enc x) (h : L' = L ++ [x]) : rowEq (n + 1) sz (catF n (rowF E L) (litF cs sz)) (rowF E L') (SC.sub b) := by
  subst hn; subst hc
  exact (push_eq h).2
theorem same_eq' {α : Type} {E : Enc α} {L L' : List α} {n sz : Nat} {b : Bnd} (h : L' = L) : rowEq n sz (rowF E L) (rowF E L') (SC.sub b) := (same_eq h).2
def x43 : XFn := ⟨9, (.seq (.reg false [K1 2 .mv (.bool false)]) (.seq (.reg false [O1 3 .mv 0, K2 4 (.bin .lss) 3 (iV 0), O1 5 .mv 4, G1 6 .mv 0 5 false, GK 7 (.bin .geq) 6 (iV 256) 5 false, ⟨(some 8), .pick, [(.t 5), (.k (.bool true)), (.t 7)], none⟩, O1 2 .mv 8]) .ret)), [(.s 2)]⟩
theorem x43_ok : xfn Tryz.prog Tryz.f43 = some x43.er := by kernel_rfl
def x75L0 : XC := (.seq (.reg false [O2 9 (.bin .lss) 8 7]) (.seq (.cond (.t 9) .skip (.exit 0)) (.seq (.block 1 (.seq (.reg false [O1 10 .mv 8, O1 5 .mv 10]) (.seq (.reg false [O1 11 .mv 1, O1 12 .mv 0, O1 13 .mv 5, O2 14 (.ixS 1) 12 13, O1 15 .load1 14, O2 16 .callv 11 15]) (.cond (.t 16) (.seq (.reg false [O1 17 .mv 5, O1 4 .mv 17]) .ret) .skip)))) (.reg false [K2 18 (.bin .add) 8 (iV 1), O1 8 .mv 18]))))
def x75 : XFn := ⟨19, (.seq (.reg false [K1 4 .mv (iV 0)]) (.seq (.seq (.reg false [O1 6 .mv 0, O1 7 .lenS 6, K1 8 .mv (iV 0)]) (.block 0 (.loop x75L0))) (.seq (.reg false [K1 4 .mv (iV (-1))]) .ret))), [(.s 4)]⟩
theorem x75_ok : xfn Tryz.prog Tryz.f75 = some x75.er := by kernel_rfl
def x42 : XFn := ⟨9, (.seq (.reg false [K1 4 .mv (.bool false)]) (.seq (.reg false [O1 5 .mv 0, O1 6 .mv 1, O2 7 (.call 75) 5 6, K2 8 (.bin .geq) 7 (iV 0), O1 4 .mv 8]) .ret)), [(.s 4)]⟩
theorem x42_ok : xfn Tryz.prog Tryz.f42 = some x42.er := by kernel_rfl
def x23 : XFn := ⟨8, (.seq (.reg false [K1 2 .mv (.slice none 0 0)]) (.seq (.seq (.reg false [O1 3 .mv 0, O1 4 (.isnil false) 3]) (.cond (.t 4) (.seq (.reg false [K1 2 .mv (.slice none 0 0)]) .ret) .skip)) (.seq (.reg false [⟨(some 5), (.slit 5 0 1 [] []), [], none⟩, O1 6 .mv 0, O2 7 (.app 5 1 1) 5 6, O1 2 .mv 7]) .ret))), [(.s 2)]⟩
theorem x23_ok : xfn Tryz.prog Tryz.f23 = some x23.er := by kernel_rfl
def x40 : XFn := ⟨9, (.seq (.reg false [K1 2 .mv (.bool false)]) (.seq (.reg false [O1 3 .mv 0, K2 4 (.bin .geq) 3 (iV (-1048576)), O1 5 .mv 4, G1 6 .mv 0 5 true, GK 7 (.bin .leq) 6 (iV 1048576) 5 true, ⟨(some 8), .pick, [(.t 5), (.t 7), (.k (.bool false))], none⟩, O1 2 .mv 8]) .ret)), [(.s 2)]⟩
theorem x40_ok : xfn Tryz.prog Tryz.f40 = some x40.er := by kernel_rfl
def x20 : XFn := ⟨59, (.seq (.reg false [O1 3 (.box 24) 0, O1 4 (.box 26) 1, O1 5 (.box 28) 2, K1 6 .mv (.pointer none), K1 7 .mv (iV 0)]) (.seq (.seq (.reg false [O1 10 (.loadN 3) 3, O1 11 (.call 39) 10, O1 8 .mv 11]) (.seq (.reg false [O1 12 .mv 8, K2 13 (.bin .neq) 12 (iV 0)]) (.cond (.t 13) (.seq (.reg false [O1 14 .mv 8, K1 6 .mv (.pointer none), O1 7 .mv 14]) .ret) .skip))) (.seq (.reg false [⟨(some 9), .mv, [(.k (.func (.func 40) #[] #[]))], none⟩]) (.seq (.seq (.reg false [O1 15 (.loadN 4) 4, O1 16 (.call 33) 15, O1 17 (.un .not) 16, O1 18 .mv 17, G1 19 .mv 9 18 false, G1 20 (.fld 0) 5 18 false, G1 21 .load1 20 18 false, G2 22 .callv 19 21 18 false, G1 23 (.un .not) 22 18 false, ⟨(some 24), .pick, [(.t 18), (.k (.bool true)), (.t 23)], none⟩, O1 25 .mv 24, G1 26 .mv 9 25 false, G1 27 (.fld 1) 5 25 false, G1 28 .load1 27 25 false, G2 29 .callv 26 28 25 false, G1 30 (.un .not) 29 25 false, ⟨(some 31), .pick, [(.t 25), (.k (.bool true)), (.t 30)], none⟩, O1 32 .mv 31, G1 33 (.fld 2) 5 32 false, G1 34 .load1 33 32 false, GK 35 (.bin .lss) 34 (iV 0) 32 false, ⟨(some 36), .pick, [(.t 32), (.k (.bool true)), (.t 35)], none⟩, O1 37 .mv 36, G1 38 (.fld 2) 5 37 false, G1 39 .load1 38 37 false, GK 40 (.bin .geq) 39 (iV 256) 37 false, ⟨(some 41), .pick, [(.t 37), (.k (.bool true)), (.t 40)], none⟩]) (.cond (.t 41) (.seq (.reg false [K1 6 .mv (.pointer none), K1 7 .mv (iV 1)]) .ret) .skip)) (.seq (.seq (.reg false [O1 42 (.loadN 3) 3, O1 43 (.fld 0) 5, O1 44 .load1 43, O1 45 (.fld 1) 5, O1 46 .load1 45, ⟨(some 47), (.build [(iV 0), (iV 0)] [(0, 1), (1, 1)]), [(.t 44), (.t 46)], none⟩, ⟨(some 48), (.call 41), [(.t 42), (.t 47), (.k (iV 20))], none⟩, O1 49 (.un .not) 48]) (.cond (.t 49) (.seq (.reg false [K1 6 .mv (.pointer none), K1 7 .mv (iV 9)]) .ret) .skip)) (.seq (.reg false [O1 50 (.fld 2) 3, O1 51 .load1 50, O1 52 (.call 23) 51, O1 53 (.fld 2) 3, ⟨none, (.store 1), [(.t 53), (.t 52)], none⟩]) (.seq (.reg false [O1 54 (.loadN 3) 3, O1 55 (.loadN 4) 4, O1 56 (.loadN 3) 5, ⟨(some 57), (.build [(iV 0), (iV 0), (.slice none 0 0), (iV 0), (iV 0), (iV 0), (iV 0), (iV 0), (iV 0), (iV 0), (iV 0), (iV 0)] [(0, 3), (3, 4), (7, 3)]), [(.t 54), (.t 55), (.t 56)], none⟩, O1 58 (.box 95) 57, O1 6 .mv 58, K1 7 .mv (iV 0)]) .ret))))))), [(.s 6), (.s 7)]⟩
theorem x20_ok : xfn Tryz.prog Tryz.f20 = some x20.er := by kernel_rfl
def x21 : XFn := ⟨105, (.seq (.reg false [O1 3 (.box 64) 1, ⟨(some 4), (.alloc 48 [(iV 0), (iV 0), (iV 0), (.bool false), (.slice none 0 0)]), [], none⟩, K1 5 .mv (iV 0)]) (.seq (.seq (.reg false [O1 13 .mv 0, ⟨(some 14), (.x (.eqP false)), [(.t 13), (.k (.pointer none))], none⟩, O1 15 .mv 14, G1 16 (.fld 0) 3 15 false, G1 17 (.loadN 2) 16 15 false, G1 18 (.call 24) 17 15 false, G1 19 (.un .not) 18 15 false, ⟨(some 20), .pick, [(.t 15), (.k (.bool true)), (.t 19)], none⟩, O1 21 .mv 20, G1 22 (.fld 6) 3 21 false, G1 23 .load1 22 21 false, G1 24 .lenS 23 21 false, GK 25 (.bin .gtr) 24 (iV 32) 21 false, ⟨(some 26), .pick, [(.t 21), (.k (.bool true)), (.t 25)], none⟩, O1 27 .mv 26, G1 28 (.fld 6) 3 27 false, G1 29 .load1 28 27 false, ⟨(some 30), (.call 42), [(.t 29), (.k (.func (.func 43) #[] #[]))], (some (27, false))⟩, ⟨(some 31), .pick, [(.t 27), (.k (.bool true)), (.t 30)], none⟩]) (.cond (.t 31) (.seq (.reg false [⟨(some 32), (.build [(iV 0), (iV 0), (iV 0), (.bool false), (.slice none 0 0)] []), [], none⟩, ⟨none, (.store 5), [(.t 4), (.t 32)], none⟩, K1 5 .mv (iV 1)]) .ret) .skip)) (.seq (.regD [O1 34 .mv 0, O1 35 .nilc 34, O1 36 (.fld 3) 35, O1 37 (.loadN 4) 36, O1 38 (.fld 2) 3, O1 39 (.loadN 4) 38, O2 40 (.call 44) 37 39, O1 33 .mv 40, O1 41 (.ext 0) 33, O1 42 (.ext 1) 33, ⟨(some 6), (.alloc 62 [(iV 0), (iV 0), (iV 0), (iV 0)]), [], none⟩, ⟨none, (.store 4), [(.t 6), (.t 41)], none⟩, O1 7 .mv 42] [[], [0], [1, 0], [2, 1, 0], [], [4], [3, 2, 1, 0, 5, 4], [6, 3, 2, 1, 0, 5, 4], [7, 6, 3, 2, 1, 0, 5, 4], [7, 6, 3, 2, 1, 0, 5, 4], [], [10, 8, 7, 6, 3, 2, 1, 0, 5, 4], [9, 7, 6, 3, 2, 1, 0, 5, 4, 11, 10, 8]]) (.seq (.regD [O1 44 .mv 0, O1 45 .nilc 44, O1 46 (.fld 0) 45, O1 47 (.loadN 3) 46, O1 48 .mv 0, O1 49 .nilc 48, O1 50 (.fld 7) 49, O1 51 (.loadN 3) 50, O1 52 (.fld 0) 3, O1 53 (.loadN 2) 52, O1 54 (.loadN 4) 6, ⟨(some 55), (.call 45), [(.t 47), (.t 51), (.t 53), (.t 54)], none⟩, O1 43 .mv 55, O1 56 (.ext 0) 43, O1 57 (.ext 1) 43, O1 58 (.ext 2) 43, ⟨(some 8), (.alloc 28 [(iV 0), (iV 0), (iV 0)]), [], none⟩, ⟨none, (.store 3), [(.t 8), (.t 56)], none⟩, O1 9 .mv 57, O1 10 .mv 58] [[], [0], [1, 0], [2, 1, 0], [], [4], [5, 4], [6, 5, 4], [], [8], [], [3, 2, 1, 0, 7, 6, 5, 4, 9, 8, 10], [11, 3, 2, 1, 0, 7, 6, 5, 4, 9, 8, 10], [12, 11, 3, 2, 1, 0, 7, 6, 5, 4, 9, 8, 10], [12, 11, 3, 2, 1, 0, 7, 6, 5, 4, 9, 8, 10], [12, 11, 3, 2, 1, 0, 7, 6, 5, 4, 9, 8, 10], [], [16, 13, 12, 11, 3, 2, 1, 0, 7, 6, 5, 4, 9, 8, 10], [14, 12, 11, 3, 2, 1, 0, 7, 6, 5, 4, 9, 8, 10, 17, 16, 13], [15, 12, 11, 3, 2, 1, 0, 7, 6, 5, 4, 9, 8, 10, 18, 14, 17, 16, 13]]) (.seq (.reg false [O1 59 .mv 0, O1 60 (.loadN 3) 8, O1 61 .nilc 59, O1 62 (.fld 7) 61, ⟨none, (.store 3), [(.t 62), (.t 60)], none⟩]) (.seq (.reg false [O1 63 .mv 0, O1 64 .nilc 63, O1 65 (.fld 10) 64, O1 66 .load1 65, K2 67 (.bin .add) 66 (iV 1), O1 68 .nilc 63, O1 69 (.fld 10) 68, ⟨none, (.store 1), [(.t 69), (.t 67)], none⟩]) (.seq (.seq (.reg false [O1 70 .mv 9]) (.cond (.t 70) (.reg false [O1 71 .mv 0, O1 72 .nilc 71, O1 73 (.fld 11) 72, O1 74 .load1 73, K2 75 (.bin .add) 74 (iV 1), O1 76 .nilc 71, O1 77 (.fld 11) 76, ⟨none, (.store 1), [(.t 77), (.t 75)], none⟩]) .skip)) (.seq (.regD [O1 79 .mv 0, O1 80 .nilc 79, O1 81 (.fld 0) 80, O1 82 (.loadN 3) 81, O1 83 (.loadN 3) 8, O1 84 (.fld 6) 3, O1 85 .load1 84, O1 86 .mv 0, O1 87 .nilc 86, O1 88 (.fld 3) 87, O1 89 (.fld 3) 88, O1 90 .load1 89, O1 91 (.fld 7) 3, O1 92 .load1 91, ⟨(some 93), (.call 46), [(.t 82), (.t 83), (.t 85), (.t 90), (.t 92)], none⟩, O1 78 .mv 93, O1 94 (.ext 0) 78, O1 95 (.ext 1) 78, O1 11 .mv 94, O1 12 .mv 95] [[], [0], [1, 0], [2, 1, 0], [], [], [5], [], [7], [8, 7], [9, 8, 7], [10, 9, 8, 7], [], [12], [3, 2, 1, 0, 4, 6, 5, 11, 10, 9, 8, 7, 13, 12], [14, 3, 2, 1, 0, 4, 6, 5, 11, 10, 9, 8, 7, 13, 12], [15, 14, 3, 2, 1, 0, 4, 6, 5, 11, 10, 9, 8, 7, 13, 12], [15, 14, 3, 2, 1, 0, 4, 6, 5, 11, 10, 9, 8, 7, 13, 12], [16, 15, 14, 3, 2, 1, 0, 4, 6, 5, 11, 10, 9, 8, 7, 13, 12], [17, 15, 14, 3, 2, 1, 0, 4, 6, 5, 11, 10, 9, 8, 7, 13, 12, 18, 16]]) (.seq (.regD [O1 96 .mv 0, O1 97 .nilc 96, O1 98 (.fld 10) 97, O1 99 .load1 98, O1 100 (.fld 0) 3, O1 101 (.loadN 2) 100, O1 102 .mv 9, O1 103 .mv 11, ⟨(some 104), (.build [(iV 0), (iV 0), (iV 0), (.bool false), (.slice none 0 0)] [(0, 1), (1, 2), (3, 1), (4, 1)]), [(.t 99), (.t 101), (.t 102), (.t 103)], none⟩, ⟨none, (.store 5), [(.t 4), (.t 104)], none⟩, K1 5 .mv (iV 0)] [[], [0], [1, 0], [2, 1, 0], [], [4], [], [], [3, 2, 1, 0, 5, 4, 6, 7], [8, 3, 2, 1, 0, 5, 4, 6, 7], [9, 8, 3, 2, 1, 0, 5, 4, 6, 7]]) .ret))))))))), [(.bn 4 5), (.s 5)]⟩
theorem x21_ok : xfn Tryz.prog Tryz.f21 = some x21.er := by kernel_rfl
def x22 : XFn := ⟨10, (.seq (.reg false [⟨(some 2), (.alloc 28 [(iV 0), (iV 0), (iV 0)]), [], none⟩]) (.seq (.seq (.reg false [O1 3 .mv 0, ⟨(some 4), (.x (.eqP false)), [(.t 3), (.k (.pointer none))], none⟩]) (.cond (.t 4) (.seq (.reg false [⟨(some 5), (.build [(iV 0), (iV 0), (iV 0)] []), [], none⟩, ⟨none, (.store 3), [(.t 2), (.t 5)], none⟩]) .ret) .skip)) (.seq (.reg false [O1 6 .mv 0, O1 7 .nilc 6, O1 8 (.fld 7) 7, O1 9 (.loadN 3) 8, ⟨none, (.store 3), [(.t 2), (.t 9)], none⟩]) .ret))), [(.bn 2 3)]⟩
theorem x22_ok : xfn Tryz.prog Tryz.f22 = some x22.er := by kernel_rfl
def g43 : Con := fun args_ E_ nn_ => match args_ with
  | [.c (.v (.int .i64 mark))] => some (.q (True) (.o (.c (.v (.bool (wrongM mark))))))
  | _ => none
theorem c43 : COk Tryz.prog 43 g43 := by
  refine cok_q Tryz.func43 x43_ok (by kernel_rfl) (cok_tab cok_nil) ?_
  intro args_ E_ nn_ cr_ hg_
  unfold g43 at hg_
  split at hg_
  · rename_i mark
    cases hg_
    refine ⟨_, _, rfl, 0, [], [.c (.v (.int .i64 mark))], [], .o (.c (.v (.bool (wrongM mark)))), rfl, rfl, and3 (by simp only [push_cast, Nat.reduceLT, Nat.reduceAdd]) ⟨rfl, trivial, rfl, ?_⟩⟩
    intro hpre hlen
    refine ⟨trivial, ?_⟩
    simp (maxSteps := 9999999) only [x43, push_cast, simprocAttr]
    unfold wrongM
    rw [Bool.eq_iff_iff]
    simp
  · cases hg_
def g75 : Con := fun args_ E_ nn_ => match args_ with
  | [.c (.n s), .c (.v (.func (.func 43) f_a f_b))] => (match rowOf E_ s with
    | some (s_n, s_s, s_f) => some (.q (isRow eI s_n s_s s_f ∧ f_a = #[] ∧ f_b = #[]) (.o (.c (.v (.int .i64 (ixOf wrongM (decL eI s_n s_f)))))))
    | none => none)
  | _ => none
theorem c75 : COk Tryz.prog 75 g75 := by
  refine cok_q Tryz.func75 x75_ok (by kernel_rfl) (cok_tab (cok_cons c43 cok_nil)) ?_
  intro args_ E_ nn_ cr_ hg_
  unfold g75 at hg_
  split at hg_
  · rename_i s f_a f_b
    split at hg_
    · rename_i s_n s_s s_f h_s
      cases hg_
      refine ⟨_, _, rfl, 1, [s], [.c (.n 0), .c (.v (.func (.func 43) f_a f_b))], [(0, .ro (decL eI s_n s_f).length eI.sz (rowF eI (decL eI s_n s_f)))], .o (.c (.v (.int .i64 (ixOf wrongM (decL eI s_n s_f))))), rfl, rfl, and3 (by simp only [push_cast, Nat.reduceLT, Nat.reduceAdd]) ⟨rfl, ⟨inE0_row h_s, trivial⟩, rfl, ?_⟩⟩
      intro hpre hlen
      obtain ⟨i_s, hpre⟩ := hpre
      refine ⟨⟨inE_row h_s i_s, trivial⟩, ?_⟩
      have z_s := lens_row (E := eI) hlen h_s
      clear i_s
      generalize decL eI s_n s_f = sL at *
      clear h_s
      obtain ⟨rfl, rfl⟩ := hpre
      simp (maxSteps := 9999999) only [x75, push_cast, simprocAttr, g43]
      refine vcLoop_upd (α := {k : Nat // k ≤ sL.length ∧ ∀ i, i < k → wrongM (sL.getD i eI.dflt) = false}) [0, 1, 7] 0 (fun s => [(8, .o (.c (.v (.int .i64 (s.1 : Nat)))))]) (fun s => []) (fun s => sL.length - s.1) ⟨0, by omega, fun i hi => by omega⟩ ?_ ?_
      · simp only [push_cast, simprocAttr, g43]
      · rintro ⟨k, hk, hall⟩
        simp only [x75L0, push_cast, simprocAttr, g43]
        refine ⟨fun hlt => ⟨hlt, hlt, fun hw => (ixOf_some hlt hall hw).symm, fun hw => ?_⟩, fun hn => ?_⟩
        · exact ⟨⟨k + 1, by omega, fun i hi => by
            by_cases h : i = k
            · subst h; exact hw
            · exact hall i (by omega)⟩, wrapI (by omega) (by omega), by simp only; omega⟩
        · exact (ixOf_none (fun i hi => hall i (by omega))).symm
    · cases hg_
  · cases hg_
def g42 : Con := fun args_ E_ nn_ => match args_ with
  | [.c (.n s), .c (.v (.func (.func 43) f_a f_b))] => (match rowOf E_ s with
    | some (s_n, s_s, s_f) => some (.q (isRow eI s_n s_s s_f ∧ f_a = #[] ∧ f_b = #[]) (.o (.c (.v (.bool (((decL eI s_n s_f)).any wrongM))))))
    | none => none)
  | _ => none
theorem c42 : COk Tryz.prog 42 g42 := by
  refine cok_q Tryz.func42 x42_ok (by kernel_rfl) (cok_tab (cok_cons c75 cok_nil)) ?_
  intro args_ E_ nn_ cr_ hg_
  unfold g42 at hg_
  split at hg_
  · rename_i s f_a f_b
    split at hg_
    · rename_i s_n s_s s_f h_s
      cases hg_
      refine ⟨_, _, rfl, 1, [s], [.c (.n 0), .c (.v (.func (.func 43) f_a f_b))], [(0, .ro (decL eI s_n s_f).length eI.sz (rowF eI (decL eI s_n s_f)))], .o (.c (.v (.bool (((decL eI s_n s_f)).any wrongM)))), rfl, rfl, and3 (by simp only [push_cast, Nat.reduceLT, Nat.reduceAdd]) ⟨rfl, ⟨inE0_row h_s, trivial⟩, rfl, ?_⟩⟩
      intro hpre hlen
      obtain ⟨i_s, hpre⟩ := hpre
      refine ⟨⟨inE_row h_s i_s, trivial⟩, ?_⟩
      have z_s := lens_row (E := eI) hlen h_s
      clear i_s
      generalize decL eI s_n s_f = sL at *
      clear h_s
      obtain ⟨rfl, rfl⟩ := hpre
      simp (maxSteps := 9999999) only [x42, push_cast, simprocAttr, g75]
      exact ixOf_any wrongM sL
    · cases hg_
  · cases hg_
def g23 : Con := fun args_ E_ nn_ => match args_ with
  | [.c (.n s)] => (match rowOf E_ s with
    | some (s_n, s_s, s_f) => some (.e (isRow eU8 s_n s_s s_f ∧ ((decL eU8 s_n s_f)).length ≤ 100000) (.o (.c (.n (nn_ + 0)))) [((nn_ + 0), .own ((decL eU8 s_n s_f)).length 1 (rowF eU8 ((decL eU8 s_n s_f))) 5)] (nn_ + 1))
    | none => none)
  | _ => none
theorem c23 : COk Tryz.prog 23 g23 := by
  refine cok_e Tryz.func23 x23_ok (by kernel_rfl) (cok_tab cok_nil) ?_
  intro args_ E_ nn_ cr_ hg_
  unfold g23 at hg_
  split at hg_
  · rename_i s
    split at hg_
    · rename_i s_n s_s s_f h_s
      cases hg_
      refine ⟨_, _, _, _, rfl, 1, [s], [.c (.n 0)], [(0, .ro (decL eU8 s_n s_f).length eU8.sz (rowF eU8 (decL eU8 s_n s_f)))], .o (.c (.n 1)), [(1, .own ((decL eU8 s_n s_f)).length 1 (rowF eU8 ((decL eU8 s_n s_f))) 5)], 2, rfl, rfl, by simp only [renE, Ent.ren, rowF_renf] <;> rfl, rfl, by decide, and4 (by simp only [push_cast, Nat.reduceLT, Nat.reduceAdd]) ⟨rfl, ⟨inE0_row h_s, trivial⟩, by simp only [keysNodup, outN, keys] <;> decide, rfl, rfl, ?_⟩⟩
      intro hpre hlen
      obtain ⟨i_s, hpre⟩ := hpre
      refine ⟨⟨inE_row h_s i_s, trivial⟩, by simp only [apartE] <;> (first | trivial | (simp [Ent.mut]; done)), ?_⟩
      have z_s := lens_row (E := eU8) hlen h_s
      clear i_s
      generalize decL eU8 s_n s_f = sL at *
      clear h_s
      simp (maxSteps := 9999999) only [x23, push_cast, simprocAttr, catF_zero]
      exact fun b h => ⟨h, fun _ => by omega⟩
    · cases hg_
  · cases hg_
def g40 : Con := fun args_ E_ nn_ => match args_ with
  | [.c (.v (.int .i64 n))] => some (.q (True) (.o (.c (.v (.bool (decide (-1048576 ≤ n ∧ n ≤ 1048576)))))))
  | _ => none
theorem c40 : COk Tryz.prog 40 g40 := by
  refine cok_q Tryz.func40 x40_ok (by kernel_rfl) (cok_tab cok_nil) ?_
  intro args_ E_ nn_ cr_ hg_
  unfold g40 at hg_
  split at hg_
  · rename_i n
    cases hg_
    refine ⟨_, _, rfl, 0, [], [.c (.v (.int .i64 n))], [], .o (.c (.v (.bool (decide (-1048576 ≤ n ∧ n ≤ 1048576))))), rfl, rfl, and3 (by simp only [push_cast, Nat.reduceLT, Nat.reduceAdd]) ⟨rfl, trivial, rfl, ?_⟩⟩
    intro hpre hlen
    refine ⟨trivial, ?_⟩
    simp (maxSteps := 9999999) only [x40, push_cast, simprocAttr]
    rw [Bool.decide_and]
  · cases hg_
noncomputable def g20a : Con := fun args_ E_ nn_ => match args_ with
  | [.a [.v (.int .i64 p_W), .v (.int .i64 p_H), .n p_Cells], .a [.v (.int .i64 b_Turn), .v (.int .i64 b_Length), .v (.int .i64 b_Slip), .v (.int .i64 b_Range)], .a [.v (.int .i64 at_X), .v (.int .i64 at_Y), .v (.int .i64 at_H)]] => (match rowOf E_ p_Cells with
    | some (p_Cells_n, p_Cells_s, p_Cells_f) => some (.e (isRow eU8 p_Cells_n p_Cells_s p_Cells_f ∧ rnewE p_W p_H (decL eU8 p_Cells_n p_Cells_f) b_Turn b_Length b_Slip b_Range at_X at_Y at_H = 0 ∧ u8s (decL eU8 p_Cells_n p_Cells_f)) (.t [.c (.p (nn_ + 0) 0), .c (.v (.int .i64 (0)))]) [((nn_ + 0), .box [.v (.int .i64 (p_W)), .v (.int .i64 (p_H)), .n (nn_ + 1), .v (.int .i64 (b_Turn)), .v (.int .i64 (b_Length)), .v (.int .i64 (b_Slip)), .v (.int .i64 (b_Range)), .v (.int .i64 (at_X)), .v (.int .i64 (at_Y)), .v (.int .i64 (at_H)), .v (.int .i64 (0)), .v (.int .i64 (0))] 95), ((nn_ + 1), .own ((decL eU8 p_Cells_n p_Cells_f)).length 1 (rowF eU8 ((decL eU8 p_Cells_n p_Cells_f))) 5)] (nn_ + 2))
    | none => none)
  | _ => none
theorem c20a : COk Tryz.prog 20 g20a := by
  refine cok_e Tryz.func20 x20_ok (by kernel_rfl) (cok_tab (cok_cons c39 (cok_cons c33 (cok_cons c40 (cok_cons c41 (cok_cons c23 cok_nil)))))) ?_
  intro args_ E_ nn_ cr_ hg_
  unfold g20a at hg_
  split at hg_
  · rename_i p_W p_H p_Cells b_Turn b_Length b_Slip b_Range at_X at_Y at_H
    split at hg_
    · rename_i p_Cells_n p_Cells_s p_Cells_f h_p_Cells
      cases hg_
      refine ⟨_, _, _, _, rfl, 1, [p_Cells], [.a [.v (.int .i64 p_W), .v (.int .i64 p_H), .n 0], .a [.v (.int .i64 b_Turn), .v (.int .i64 b_Length), .v (.int .i64 b_Slip), .v (.int .i64 b_Range)], .a [.v (.int .i64 at_X), .v (.int .i64 at_Y), .v (.int .i64 at_H)]], [(0, .ro (decL eU8 p_Cells_n p_Cells_f).length eU8.sz (rowF eU8 (decL eU8 p_Cells_n p_Cells_f)))], .t [.c (.p 1 0), .c (.v (.int .i64 (0)))], [(1, .box [.v (.int .i64 (p_W)), .v (.int .i64 (p_H)), .n 2, .v (.int .i64 (b_Turn)), .v (.int .i64 (b_Length)), .v (.int .i64 (b_Slip)), .v (.int .i64 (b_Range)), .v (.int .i64 (at_X)), .v (.int .i64 (at_Y)), .v (.int .i64 (at_H)), .v (.int .i64 (0)), .v (.int .i64 (0))] 95), (2, .own ((decL eU8 p_Cells_n p_Cells_f)).length 1 (rowF eU8 ((decL eU8 p_Cells_n p_Cells_f))) 5)], 3, rfl, rfl, by simp only [renE, Ent.ren, rowF_renf] <;> rfl, rfl, by decide, and4 (by simp only [push_cast, Nat.reduceLT, Nat.reduceAdd]) ⟨rfl, ⟨inE0_row h_p_Cells, trivial⟩, by simp only [keysNodup, outN, keys] <;> decide, rfl, rfl, ?_⟩⟩
      intro hpre hlen
      obtain ⟨i_p_Cells, hpre⟩ := hpre
      refine ⟨⟨inE_row h_p_Cells i_p_Cells, trivial⟩, by simp only [apartE] <;> (first | trivial | (simp [Ent.mut]; done)), ?_⟩
      have z_p_Cells := lens_row (E := eU8) hlen h_p_Cells
      clear i_p_Cells
      generalize decL eU8 p_Cells_n p_Cells_f = p_CellsL at *
      clear h_p_Cells
      simp (maxSteps := 9999999) only [x20, push_cast, simprocAttr, g39, g33, g40, g41, g23]
      obtain ⟨q1, q2, q3⟩ := rnew_ok hpre.1
      have ql := ck_len q1
      refine ⟨hpre.2, fun h => absurd q1 h, fun _ => ⟨fun h => (by omega), ?_⟩⟩
      intros
      exact ⟨hpre.2, fun h => (by rw [q3] at h; cases h), fun _ => (by omega)⟩
    · cases hg_
  · cases hg_
noncomputable def g20b : Con := fun args_ E_ nn_ => match args_ with
  | [.a [.v (.int .i64 p_W), .v (.int .i64 p_H), .n p_Cells], .a [.v (.int .i64 b_Turn), .v (.int .i64 b_Length), .v (.int .i64 b_Slip), .v (.int .i64 b_Range)], .a [.v (.int .i64 at_X), .v (.int .i64 at_Y), .v (.int .i64 at_H)]] => (match rowOf E_ p_Cells with
    | some (p_Cells_n, p_Cells_s, p_Cells_f) => some (.q (isRow eU8 p_Cells_n p_Cells_s p_Cells_f ∧ rnewE p_W p_H (decL eU8 p_Cells_n p_Cells_f) b_Turn b_Length b_Slip b_Range at_X at_Y at_H ≠ 0 ∧ u8s (decL eU8 p_Cells_n p_Cells_f)) (.t [.c (.v (.pointer none)), .c (.v (.int .i64 (rnewE p_W p_H (decL eU8 p_Cells_n p_Cells_f) b_Turn b_Length b_Slip b_Range at_X at_Y at_H)))]))
    | none => none)
  | _ => none
theorem c20b : COk Tryz.prog 20 g20b := by
  refine cok_q Tryz.func20 x20_ok (by kernel_rfl) (cok_tab (cok_cons c39 (cok_cons c33 (cok_cons c40 (cok_cons c41 (cok_cons c23 cok_nil)))))) ?_
  intro args_ E_ nn_ cr_ hg_
  unfold g20b at hg_
  split at hg_
  · rename_i p_W p_H p_Cells b_Turn b_Length b_Slip b_Range at_X at_Y at_H
    split at hg_
    · rename_i p_Cells_n p_Cells_s p_Cells_f h_p_Cells
      cases hg_
      refine ⟨_, _, rfl, 1, [p_Cells], [.a [.v (.int .i64 p_W), .v (.int .i64 p_H), .n 0], .a [.v (.int .i64 b_Turn), .v (.int .i64 b_Length), .v (.int .i64 b_Slip), .v (.int .i64 b_Range)], .a [.v (.int .i64 at_X), .v (.int .i64 at_Y), .v (.int .i64 at_H)]], [(0, .ro (decL eU8 p_Cells_n p_Cells_f).length eU8.sz (rowF eU8 (decL eU8 p_Cells_n p_Cells_f)))], .t [.c (.v (.pointer none)), .c (.v (.int .i64 (rnewE p_W p_H (decL eU8 p_Cells_n p_Cells_f) b_Turn b_Length b_Slip b_Range at_X at_Y at_H)))], rfl, rfl, and3 (by simp only [push_cast, Nat.reduceLT, Nat.reduceAdd]) ⟨rfl, ⟨inE0_row h_p_Cells, trivial⟩, rfl, ?_⟩⟩
      intro hpre hlen
      obtain ⟨i_p_Cells, hpre⟩ := hpre
      refine ⟨⟨inE_row h_p_Cells i_p_Cells, trivial⟩, ?_⟩
      have z_p_Cells := lens_row (E := eU8) hlen h_p_Cells
      clear i_p_Cells
      generalize decL eU8 p_Cells_n p_Cells_f = p_CellsL at *
      clear h_p_Cells
      simp (maxSteps := 9999999) only [x20, push_cast, simprocAttr, g39, g33, g40, g41, g23]
      refine ⟨hpre.2, fun h => (rnew_ck h).symm, fun h => ⟨fun h2 => ?_, ?_⟩⟩
      · rw [rnew_arg h (by omega)]
      intro a1 a2 a3 a4 a5 a6 a7 a8 a9 a10 a11 a12 a13 a14
      have e := rnew_fit (W := p_W) (H := p_H) (L := p_CellsL) (bT := b_Turn) (bL := b_Length) (bS := b_Slip) (bR := b_Range) (x := at_X) (y := at_Y) (h := at_H) h (by omega)
      refine ⟨hpre.2, fun hf => by rw [e, if_pos hf], fun hf => ?_⟩
      rw [if_neg (by rw [hf]; decide)] at e
      exact hpre.1 e
    · cases hg_
  · cases hg_
noncomputable def g20 : Con := fun args_ E_ nn_ => match args_ with
  | [.a [.v (.int .i64 p_W), .v (.int .i64 p_H), .n p_Cells], .a [.v (.int .i64 b_Turn), .v (.int .i64 b_Length), .v (.int .i64 b_Slip), .v (.int .i64 b_Range)], .a [.v (.int .i64 at_X), .v (.int .i64 at_Y), .v (.int .i64 at_H)]] =>
    (match rowOf E_ p_Cells with
    | some (p_Cells_n, p_Cells_s, p_Cells_f) => if rnewE p_W p_H (decL eU8 p_Cells_n p_Cells_f) b_Turn b_Length b_Slip b_Range at_X at_Y at_H = 0 then g20a args_ E_ nn_ else g20b args_ E_ nn_
    | none => none)
  | _ => none
theorem c20 : COk Tryz.prog 20 g20 := by
  intro args E n h1 h2
  unfold g20
  split
  · split
    · split
      · exact c20a _ _ _ h1 h2
      · exact c20b _ _ _ h1 h2
    · trivial
  · trivial
def g22 : Con := fun args_ E_ nn_ => match args_ with
  | [.c (.p r 0)] => (match E_ r with
    | some (.box [.v (.int .i64 r_plan_W), .v (.int .i64 r_plan_H), .n r_plan_Cells, .v (.int .i64 r_bounds_Turn), .v (.int .i64 r_bounds_Length), .v (.int .i64 r_bounds_Slip), .v (.int .i64 r_bounds_Range), .v (.int .i64 r_at_X), .v (.int .i64 r_at_Y), .v (.int .i64 r_at_H), .v (.int .i64 r_ticks), .v (.int .i64 r_bumps)] r_ty) => (match rowOf E_ r_plan_Cells with
    | some (r_plan_Cells_n, r_plan_Cells_s, r_plan_Cells_f) => some (.q (isRow eU8 r_plan_Cells_n r_plan_Cells_s r_plan_Cells_f ∧ True) (.o (.a [.v (.int .i64 (r_at_X)), .v (.int .i64 (r_at_Y)), .v (.int .i64 (r_at_H))])))
    | none => none)
    | _ => none)
  | _ => none
theorem c22 : COk Tryz.prog 22 g22 := by
  refine cok_r Tryz.func22 x22_ok (by kernel_rfl) (cok_tab cok_nil) ?_
  intro args_ E_ nn_ cr_ hg_
  unfold g22 at hg_
  split at hg_
  · rename_i r
    split at hg_
    · rename_i r_plan_W r_plan_H r_plan_Cells r_bounds_Turn r_bounds_Length r_bounds_Slip r_bounds_Range r_at_X r_at_Y r_at_H r_ticks r_bumps r_ty h_r
      split at hg_
      · rename_i r_plan_Cells_n r_plan_Cells_s r_plan_Cells_f h_r_plan_Cells
        cases hg_
        refine ⟨_, _, rfl, 2, [r, r_plan_Cells], [.c (.p 0 0)], [(0, .box [.v (.int .i64 r_plan_W), .v (.int .i64 r_plan_H), .n 1, .v (.int .i64 r_bounds_Turn), .v (.int .i64 r_bounds_Length), .v (.int .i64 r_bounds_Slip), .v (.int .i64 r_bounds_Range), .v (.int .i64 r_at_X), .v (.int .i64 r_at_Y), .v (.int .i64 r_at_H), .v (.int .i64 r_ticks), .v (.int .i64 r_bumps)] r_ty), (1, .ro (decL eU8 r_plan_Cells_n r_plan_Cells_f).length eU8.sz (rowF eU8 (decL eU8 r_plan_Cells_n r_plan_Cells_f)))], .o (.a [.v (.int .i64 (r_at_X)), .v (.int .i64 (r_at_Y)), .v (.int .i64 (r_at_H))]), rfl, rfl, and3 (by simp only [push_cast, Nat.reduceLT, Nat.reduceAdd]) ⟨rfl, ⟨⟨_, h_r⟩, inE0_row h_r_plan_Cells, trivial⟩, rfl, ?_⟩⟩
        intro hpre hlen
        obtain ⟨i_r_plan_Cells, hpre⟩ := hpre
        have hap : apartE (sg 2 nn_ [r, r_plan_Cells]) [(0, .box [.v (.int .i64 r_plan_W), .v (.int .i64 r_plan_H), .n 1, .v (.int .i64 r_bounds_Turn), .v (.int .i64 r_bounds_Length), .v (.int .i64 r_bounds_Slip), .v (.int .i64 r_bounds_Range), .v (.int .i64 r_at_X), .v (.int .i64 r_at_Y), .v (.int .i64 r_at_H), .v (.int .i64 r_ticks), .v (.int .i64 r_bumps)] r_ty), (1, .ro (decL eU8 r_plan_Cells_n r_plan_Cells_f).length eU8.sz (rowF eU8 (decL eU8 r_plan_Cells_n r_plan_Cells_f)))] [(0, .box [.v (.int .i64 r_plan_W), .v (.int .i64 r_plan_H), .n 1, .v (.int .i64 r_bounds_Turn), .v (.int .i64 r_bounds_Length), .v (.int .i64 r_bounds_Slip), .v (.int .i64 r_bounds_Range), .v (.int .i64 r_at_X), .v (.int .i64 r_at_Y), .v (.int .i64 r_at_H), .v (.int .i64 r_ticks), .v (.int .i64 r_bumps)] r_ty), (1, .ro (decL eU8 r_plan_Cells_n r_plan_Cells_f).length eU8.sz (rowF eU8 (decL eU8 r_plan_Cells_n r_plan_Cells_f)))] := by
          refine ⟨fun _ k2 e2 hm hne => ?_, ?_⟩
          · simp only [List.mem_cons, List.not_mem_nil, or_false, Prod.mk.injEq] at hm
            rcases hm with ⟨rfl, _⟩ | ⟨rfl, _⟩
            · exact absurd rfl hne
            · exact fun hh => by
                have hh2 : r_plan_Cells = r := hh
                have hh3 := h_r_plan_Cells
                rw [hh2] at hh3; unfold rowOf at hh3; rw [h_r] at hh3; cases hh3
          refine ⟨fun h => by (cases h), ?_⟩
          trivial
        refine ⟨⟨⟨_, h_r, by simp only [leE, mapEq, SC.ren, and_true, true_and, and_self] <;> rfl⟩, inE_row h_r_plan_Cells i_r_plan_Cells, trivial⟩, hap, ?_⟩
        have z_r_plan_Cells := lens_row (E := eU8) hlen h_r_plan_Cells
        clear i_r_plan_Cells
        generalize decL eU8 r_plan_Cells_n r_plan_Cells_f = r_plan_CellsL at *
        clear h_r_plan_Cells
        simp (maxSteps := 9999999) only [x22, push_cast, simprocAttr]
      · cases hg_
    · cases hg_
  · cases hg_
noncomputable def g21 : Con := fun args_ E_ nn_ => match args_ with
  | [.c (.p r 0), .a [.v (.int .i64 a_Command_Turn), .v (.int .i64 a_Command_Forward), .v (.int .i64 a_Slip_Turn), .v (.int .i64 a_Slip_Length), .v (.int .i64 a_Slip_X), .v (.int .i64 a_Slip_Y), .n a_Marks, .n a_Errs]] => (match E_ r with
    | some (.box [.v (.int .i64 r_plan_W), .v (.int .i64 r_plan_H), .n r_plan_Cells, .v (.int .i64 r_bounds_Turn), .v (.int .i64 r_bounds_Length), .v (.int .i64 r_bounds_Slip), .v (.int .i64 r_bounds_Range), .v (.int .i64 r_at_X), .v (.int .i64 r_at_Y), .v (.int .i64 r_at_H), .v (.int .i64 r_ticks), .v (.int .i64 r_bumps)] r_ty) => (match rowOf E_ a_Marks with
    | some (a_Marks_n, a_Marks_s, a_Marks_f) => (match rowOf E_ a_Errs with
    | some (a_Errs_n, a_Errs_s, a_Errs_f) => (match rowOf E_ r_plan_Cells with
    | some (r_plan_Cells_n, r_plan_Cells_s, r_plan_Cells_f) => some (.e (isRow eI a_Marks_n a_Marks_s a_Marks_f ∧ isRow eI a_Errs_n a_Errs_s a_Errs_f ∧ isRow eU8 r_plan_Cells_n r_plan_Cells_s r_plan_Cells_f ∧ u8s (decL eU8 r_plan_Cells_n r_plan_Cells_f) ∧ (0 ≤ r_ticks ∧ r_ticks ≤ 1000) ∧ 0 ≤ r_bumps ∧ r_bumps ≤ 1000) (.t [.a [.v (.int .i64 ((doV (⟨r_plan_W, r_plan_H, (decL eU8 r_plan_Cells_n r_plan_Cells_f), r_bounds_Turn, r_bounds_Length, r_bounds_Slip, r_bounds_Range, r_at_X, r_at_Y, r_at_H, r_ticks, r_bumps⟩ : RobS) (⟨a_Command_Turn, a_Command_Forward, a_Slip_Turn, a_Slip_Length, a_Slip_X, a_Slip_Y, (decL eI a_Marks_n a_Marks_f), (decL eI a_Errs_n a_Errs_f)⟩ : ActL)).tick)), .v (.int .i64 ((doV (⟨r_plan_W, r_plan_H, (decL eU8 r_plan_Cells_n r_plan_Cells_f), r_bounds_Turn, r_bounds_Length, r_bounds_Slip, r_bounds_Range, r_at_X, r_at_Y, r_at_H, r_ticks, r_bumps⟩ : RobS) (⟨a_Command_Turn, a_Command_Forward, a_Slip_Turn, a_Slip_Length, a_Slip_X, a_Slip_Y, (decL eI a_Marks_n a_Marks_f), (decL eI a_Errs_n a_Errs_f)⟩ : ActL)).turn)), .v (.int .i64 ((doV (⟨r_plan_W, r_plan_H, (decL eU8 r_plan_Cells_n r_plan_Cells_f), r_bounds_Turn, r_bounds_Length, r_bounds_Slip, r_bounds_Range, r_at_X, r_at_Y, r_at_H, r_ticks, r_bumps⟩ : RobS) (⟨a_Command_Turn, a_Command_Forward, a_Slip_Turn, a_Slip_Length, a_Slip_X, a_Slip_Y, (decL eI a_Marks_n a_Marks_f), (decL eI a_Errs_n a_Errs_f)⟩ : ActL)).fwd)), .v (.bool (doV (⟨r_plan_W, r_plan_H, (decL eU8 r_plan_Cells_n r_plan_Cells_f), r_bounds_Turn, r_bounds_Length, r_bounds_Slip, r_bounds_Range, r_at_X, r_at_Y, r_at_H, r_ticks, r_bumps⟩ : RobS) (⟨a_Command_Turn, a_Command_Forward, a_Slip_Turn, a_Slip_Length, a_Slip_X, a_Slip_Y, (decL eI a_Marks_n a_Marks_f), (decL eI a_Errs_n a_Errs_f)⟩ : ActL)).bump), .n (nn_ + 0)], .c (.v (.int .i64 (doE (⟨a_Command_Turn, a_Command_Forward, a_Slip_Turn, a_Slip_Length, a_Slip_X, a_Slip_Y, (decL eI a_Marks_n a_Marks_f), (decL eI a_Errs_n a_Errs_f)⟩ : ActL))))]) [((nn_ + 0), .ro ((doV (⟨r_plan_W, r_plan_H, (decL eU8 r_plan_Cells_n r_plan_Cells_f), r_bounds_Turn, r_bounds_Length, r_bounds_Slip, r_bounds_Range, r_at_X, r_at_Y, r_at_H, r_ticks, r_bumps⟩ : RobS) (⟨a_Command_Turn, a_Command_Forward, a_Slip_Turn, a_Slip_Length, a_Slip_X, a_Slip_Y, (decL eI a_Marks_n a_Marks_f), (decL eI a_Errs_n a_Errs_f)⟩ : ActL)).scan).length 2 (rowF eC ((doV (⟨r_plan_W, r_plan_H, (decL eU8 r_plan_Cells_n r_plan_Cells_f), r_bounds_Turn, r_bounds_Length, r_bounds_Slip, r_bounds_Range, r_at_X, r_at_Y, r_at_H, r_ticks, r_bumps⟩ : RobS) (⟨a_Command_Turn, a_Command_Forward, a_Slip_Turn, a_Slip_Length, a_Slip_X, a_Slip_Y, (decL eI a_Marks_n a_Marks_f), (decL eI a_Errs_n a_Errs_f)⟩ : ActL)).scan))), (r, .box [.v (.int .i64 ((doR (⟨r_plan_W, r_plan_H, (decL eU8 r_plan_Cells_n r_plan_Cells_f), r_bounds_Turn, r_bounds_Length, r_bounds_Slip, r_bounds_Range, r_at_X, r_at_Y, r_at_H, r_ticks, r_bumps⟩ : RobS) (⟨a_Command_Turn, a_Command_Forward, a_Slip_Turn, a_Slip_Length, a_Slip_X, a_Slip_Y, (decL eI a_Marks_n a_Marks_f), (decL eI a_Errs_n a_Errs_f)⟩ : ActL)).W)), .v (.int .i64 ((doR (⟨r_plan_W, r_plan_H, (decL eU8 r_plan_Cells_n r_plan_Cells_f), r_bounds_Turn, r_bounds_Length, r_bounds_Slip, r_bounds_Range, r_at_X, r_at_Y, r_at_H, r_ticks, r_bumps⟩ : RobS) (⟨a_Command_Turn, a_Command_Forward, a_Slip_Turn, a_Slip_Length, a_Slip_X, a_Slip_Y, (decL eI a_Marks_n a_Marks_f), (decL eI a_Errs_n a_Errs_f)⟩ : ActL)).H)), .n r_plan_Cells, .v (.int .i64 ((doR (⟨r_plan_W, r_plan_H, (decL eU8 r_plan_Cells_n r_plan_Cells_f), r_bounds_Turn, r_bounds_Length, r_bounds_Slip, r_bounds_Range, r_at_X, r_at_Y, r_at_H, r_ticks, r_bumps⟩ : RobS) (⟨a_Command_Turn, a_Command_Forward, a_Slip_Turn, a_Slip_Length, a_Slip_X, a_Slip_Y, (decL eI a_Marks_n a_Marks_f), (decL eI a_Errs_n a_Errs_f)⟩ : ActL)).bT)), .v (.int .i64 ((doR (⟨r_plan_W, r_plan_H, (decL eU8 r_plan_Cells_n r_plan_Cells_f), r_bounds_Turn, r_bounds_Length, r_bounds_Slip, r_bounds_Range, r_at_X, r_at_Y, r_at_H, r_ticks, r_bumps⟩ : RobS) (⟨a_Command_Turn, a_Command_Forward, a_Slip_Turn, a_Slip_Length, a_Slip_X, a_Slip_Y, (decL eI a_Marks_n a_Marks_f), (decL eI a_Errs_n a_Errs_f)⟩ : ActL)).bL)), .v (.int .i64 ((doR (⟨r_plan_W, r_plan_H, (decL eU8 r_plan_Cells_n r_plan_Cells_f), r_bounds_Turn, r_bounds_Length, r_bounds_Slip, r_bounds_Range, r_at_X, r_at_Y, r_at_H, r_ticks, r_bumps⟩ : RobS) (⟨a_Command_Turn, a_Command_Forward, a_Slip_Turn, a_Slip_Length, a_Slip_X, a_Slip_Y, (decL eI a_Marks_n a_Marks_f), (decL eI a_Errs_n a_Errs_f)⟩ : ActL)).bS)), .v (.int .i64 ((doR (⟨r_plan_W, r_plan_H, (decL eU8 r_plan_Cells_n r_plan_Cells_f), r_bounds_Turn, r_bounds_Length, r_bounds_Slip, r_bounds_Range, r_at_X, r_at_Y, r_at_H, r_ticks, r_bumps⟩ : RobS) (⟨a_Command_Turn, a_Command_Forward, a_Slip_Turn, a_Slip_Length, a_Slip_X, a_Slip_Y, (decL eI a_Marks_n a_Marks_f), (decL eI a_Errs_n a_Errs_f)⟩ : ActL)).bR)), .v (.int .i64 ((doR (⟨r_plan_W, r_plan_H, (decL eU8 r_plan_Cells_n r_plan_Cells_f), r_bounds_Turn, r_bounds_Length, r_bounds_Slip, r_bounds_Range, r_at_X, r_at_Y, r_at_H, r_ticks, r_bumps⟩ : RobS) (⟨a_Command_Turn, a_Command_Forward, a_Slip_Turn, a_Slip_Length, a_Slip_X, a_Slip_Y, (decL eI a_Marks_n a_Marks_f), (decL eI a_Errs_n a_Errs_f)⟩ : ActL)).x)), .v (.int .i64 ((doR (⟨r_plan_W, r_plan_H, (decL eU8 r_plan_Cells_n r_plan_Cells_f), r_bounds_Turn, r_bounds_Length, r_bounds_Slip, r_bounds_Range, r_at_X, r_at_Y, r_at_H, r_ticks, r_bumps⟩ : RobS) (⟨a_Command_Turn, a_Command_Forward, a_Slip_Turn, a_Slip_Length, a_Slip_X, a_Slip_Y, (decL eI a_Marks_n a_Marks_f), (decL eI a_Errs_n a_Errs_f)⟩ : ActL)).y)), .v (.int .i64 ((doR (⟨r_plan_W, r_plan_H, (decL eU8 r_plan_Cells_n r_plan_Cells_f), r_bounds_Turn, r_bounds_Length, r_bounds_Slip, r_bounds_Range, r_at_X, r_at_Y, r_at_H, r_ticks, r_bumps⟩ : RobS) (⟨a_Command_Turn, a_Command_Forward, a_Slip_Turn, a_Slip_Length, a_Slip_X, a_Slip_Y, (decL eI a_Marks_n a_Marks_f), (decL eI a_Errs_n a_Errs_f)⟩ : ActL)).h)), .v (.int .i64 ((doR (⟨r_plan_W, r_plan_H, (decL eU8 r_plan_Cells_n r_plan_Cells_f), r_bounds_Turn, r_bounds_Length, r_bounds_Slip, r_bounds_Range, r_at_X, r_at_Y, r_at_H, r_ticks, r_bumps⟩ : RobS) (⟨a_Command_Turn, a_Command_Forward, a_Slip_Turn, a_Slip_Length, a_Slip_X, a_Slip_Y, (decL eI a_Marks_n a_Marks_f), (decL eI a_Errs_n a_Errs_f)⟩ : ActL)).ticks)), .v (.int .i64 ((doR (⟨r_plan_W, r_plan_H, (decL eU8 r_plan_Cells_n r_plan_Cells_f), r_bounds_Turn, r_bounds_Length, r_bounds_Slip, r_bounds_Range, r_at_X, r_at_Y, r_at_H, r_ticks, r_bumps⟩ : RobS) (⟨a_Command_Turn, a_Command_Forward, a_Slip_Turn, a_Slip_Length, a_Slip_X, a_Slip_Y, (decL eI a_Marks_n a_Marks_f), (decL eI a_Errs_n a_Errs_f)⟩ : ActL)).bumps))] r_ty), (r_plan_Cells, .ro ((decL eU8 r_plan_Cells_n r_plan_Cells_f)).length 1 (rowF eU8 ((decL eU8 r_plan_Cells_n r_plan_Cells_f)))), (a_Marks, .ro ((decL eI a_Marks_n a_Marks_f)).length 1 (rowF eI ((decL eI a_Marks_n a_Marks_f)))), (a_Errs, .ro ((decL eI a_Errs_n a_Errs_f)).length 1 (rowF eI ((decL eI a_Errs_n a_Errs_f))))] (nn_ + 1))
    | none => none)
    | none => none)
    | none => none)
    | _ => none)
  | _ => none
theorem c21 : COk Tryz.prog 21 g21 := by
  refine cok_d Tryz.func21 x21_ok (by kernel_rfl) (cok_tab (cok_cons c24 (cok_cons c42 (cok_cons c44 (cok_cons c45 (cok_cons c46 cok_nil)))))) ?_
  intro args_ E_ nn_ cr_ hg_
  unfold g21 at hg_
  split at hg_
  · rename_i r a_Command_Turn a_Command_Forward a_Slip_Turn a_Slip_Length a_Slip_X a_Slip_Y a_Marks a_Errs
    split at hg_
    · rename_i r_plan_W r_plan_H r_plan_Cells r_bounds_Turn r_bounds_Length r_bounds_Slip r_bounds_Range r_at_X r_at_Y r_at_H r_ticks r_bumps r_ty h_r
      split at hg_
      · rename_i a_Marks_n a_Marks_s a_Marks_f h_a_Marks
        split at hg_
        · rename_i a_Errs_n a_Errs_s a_Errs_f h_a_Errs
          split at hg_
          · rename_i r_plan_Cells_n r_plan_Cells_s r_plan_Cells_f h_r_plan_Cells
            cases hg_
            refine ⟨_, _, _, _, rfl, 4, [r, a_Marks, a_Errs, r_plan_Cells], [.c (.p 0 0), .a [.v (.int .i64 a_Command_Turn), .v (.int .i64 a_Command_Forward), .v (.int .i64 a_Slip_Turn), .v (.int .i64 a_Slip_Length), .v (.int .i64 a_Slip_X), .v (.int .i64 a_Slip_Y), .n 1, .n 2]], [(0, .box [.v (.int .i64 r_plan_W), .v (.int .i64 r_plan_H), .n 3, .v (.int .i64 r_bounds_Turn), .v (.int .i64 r_bounds_Length), .v (.int .i64 r_bounds_Slip), .v (.int .i64 r_bounds_Range), .v (.int .i64 r_at_X), .v (.int .i64 r_at_Y), .v (.int .i64 r_at_H), .v (.int .i64 r_ticks), .v (.int .i64 r_bumps)] r_ty), (1, .ro (decL eI a_Marks_n a_Marks_f).length eI.sz (rowF eI (decL eI a_Marks_n a_Marks_f))), (2, .ro (decL eI a_Errs_n a_Errs_f).length eI.sz (rowF eI (decL eI a_Errs_n a_Errs_f))), (3, .ro (decL eU8 r_plan_Cells_n r_plan_Cells_f).length eU8.sz (rowF eU8 (decL eU8 r_plan_Cells_n r_plan_Cells_f)))], .t [.a [.v (.int .i64 ((doV (⟨r_plan_W, r_plan_H, (decL eU8 r_plan_Cells_n r_plan_Cells_f), r_bounds_Turn, r_bounds_Length, r_bounds_Slip, r_bounds_Range, r_at_X, r_at_Y, r_at_H, r_ticks, r_bumps⟩ : RobS) (⟨a_Command_Turn, a_Command_Forward, a_Slip_Turn, a_Slip_Length, a_Slip_X, a_Slip_Y, (decL eI a_Marks_n a_Marks_f), (decL eI a_Errs_n a_Errs_f)⟩ : ActL)).tick)), .v (.int .i64 ((doV (⟨r_plan_W, r_plan_H, (decL eU8 r_plan_Cells_n r_plan_Cells_f), r_bounds_Turn, r_bounds_Length, r_bounds_Slip, r_bounds_Range, r_at_X, r_at_Y, r_at_H, r_ticks, r_bumps⟩ : RobS) (⟨a_Command_Turn, a_Command_Forward, a_Slip_Turn, a_Slip_Length, a_Slip_X, a_Slip_Y, (decL eI a_Marks_n a_Marks_f), (decL eI a_Errs_n a_Errs_f)⟩ : ActL)).turn)), .v (.int .i64 ((doV (⟨r_plan_W, r_plan_H, (decL eU8 r_plan_Cells_n r_plan_Cells_f), r_bounds_Turn, r_bounds_Length, r_bounds_Slip, r_bounds_Range, r_at_X, r_at_Y, r_at_H, r_ticks, r_bumps⟩ : RobS) (⟨a_Command_Turn, a_Command_Forward, a_Slip_Turn, a_Slip_Length, a_Slip_X, a_Slip_Y, (decL eI a_Marks_n a_Marks_f), (decL eI a_Errs_n a_Errs_f)⟩ : ActL)).fwd)), .v (.bool (doV (⟨r_plan_W, r_plan_H, (decL eU8 r_plan_Cells_n r_plan_Cells_f), r_bounds_Turn, r_bounds_Length, r_bounds_Slip, r_bounds_Range, r_at_X, r_at_Y, r_at_H, r_ticks, r_bumps⟩ : RobS) (⟨a_Command_Turn, a_Command_Forward, a_Slip_Turn, a_Slip_Length, a_Slip_X, a_Slip_Y, (decL eI a_Marks_n a_Marks_f), (decL eI a_Errs_n a_Errs_f)⟩ : ActL)).bump), .n 4], .c (.v (.int .i64 (doE (⟨a_Command_Turn, a_Command_Forward, a_Slip_Turn, a_Slip_Length, a_Slip_X, a_Slip_Y, (decL eI a_Marks_n a_Marks_f), (decL eI a_Errs_n a_Errs_f)⟩ : ActL))))], [(4, .ro ((doV (⟨r_plan_W, r_plan_H, (decL eU8 r_plan_Cells_n r_plan_Cells_f), r_bounds_Turn, r_bounds_Length, r_bounds_Slip, r_bounds_Range, r_at_X, r_at_Y, r_at_H, r_ticks, r_bumps⟩ : RobS) (⟨a_Command_Turn, a_Command_Forward, a_Slip_Turn, a_Slip_Length, a_Slip_X, a_Slip_Y, (decL eI a_Marks_n a_Marks_f), (decL eI a_Errs_n a_Errs_f)⟩ : ActL)).scan).length 2 (rowF eC ((doV (⟨r_plan_W, r_plan_H, (decL eU8 r_plan_Cells_n r_plan_Cells_f), r_bounds_Turn, r_bounds_Length, r_bounds_Slip, r_bounds_Range, r_at_X, r_at_Y, r_at_H, r_ticks, r_bumps⟩ : RobS) (⟨a_Command_Turn, a_Command_Forward, a_Slip_Turn, a_Slip_Length, a_Slip_X, a_Slip_Y, (decL eI a_Marks_n a_Marks_f), (decL eI a_Errs_n a_Errs_f)⟩ : ActL)).scan))), (0, .box [.v (.int .i64 ((doR (⟨r_plan_W, r_plan_H, (decL eU8 r_plan_Cells_n r_plan_Cells_f), r_bounds_Turn, r_bounds_Length, r_bounds_Slip, r_bounds_Range, r_at_X, r_at_Y, r_at_H, r_ticks, r_bumps⟩ : RobS) (⟨a_Command_Turn, a_Command_Forward, a_Slip_Turn, a_Slip_Length, a_Slip_X, a_Slip_Y, (decL eI a_Marks_n a_Marks_f), (decL eI a_Errs_n a_Errs_f)⟩ : ActL)).W)), .v (.int .i64 ((doR (⟨r_plan_W, r_plan_H, (decL eU8 r_plan_Cells_n r_plan_Cells_f), r_bounds_Turn, r_bounds_Length, r_bounds_Slip, r_bounds_Range, r_at_X, r_at_Y, r_at_H, r_ticks, r_bumps⟩ : RobS) (⟨a_Command_Turn, a_Command_Forward, a_Slip_Turn, a_Slip_Length, a_Slip_X, a_Slip_Y, (decL eI a_Marks_n a_Marks_f), (decL eI a_Errs_n a_Errs_f)⟩ : ActL)).H)), .n 3, .v (.int .i64 ((doR (⟨r_plan_W, r_plan_H, (decL eU8 r_plan_Cells_n r_plan_Cells_f), r_bounds_Turn, r_bounds_Length, r_bounds_Slip, r_bounds_Range, r_at_X, r_at_Y, r_at_H, r_ticks, r_bumps⟩ : RobS) (⟨a_Command_Turn, a_Command_Forward, a_Slip_Turn, a_Slip_Length, a_Slip_X, a_Slip_Y, (decL eI a_Marks_n a_Marks_f), (decL eI a_Errs_n a_Errs_f)⟩ : ActL)).bT)), .v (.int .i64 ((doR (⟨r_plan_W, r_plan_H, (decL eU8 r_plan_Cells_n r_plan_Cells_f), r_bounds_Turn, r_bounds_Length, r_bounds_Slip, r_bounds_Range, r_at_X, r_at_Y, r_at_H, r_ticks, r_bumps⟩ : RobS) (⟨a_Command_Turn, a_Command_Forward, a_Slip_Turn, a_Slip_Length, a_Slip_X, a_Slip_Y, (decL eI a_Marks_n a_Marks_f), (decL eI a_Errs_n a_Errs_f)⟩ : ActL)).bL)), .v (.int .i64 ((doR (⟨r_plan_W, r_plan_H, (decL eU8 r_plan_Cells_n r_plan_Cells_f), r_bounds_Turn, r_bounds_Length, r_bounds_Slip, r_bounds_Range, r_at_X, r_at_Y, r_at_H, r_ticks, r_bumps⟩ : RobS) (⟨a_Command_Turn, a_Command_Forward, a_Slip_Turn, a_Slip_Length, a_Slip_X, a_Slip_Y, (decL eI a_Marks_n a_Marks_f), (decL eI a_Errs_n a_Errs_f)⟩ : ActL)).bS)), .v (.int .i64 ((doR (⟨r_plan_W, r_plan_H, (decL eU8 r_plan_Cells_n r_plan_Cells_f), r_bounds_Turn, r_bounds_Length, r_bounds_Slip, r_bounds_Range, r_at_X, r_at_Y, r_at_H, r_ticks, r_bumps⟩ : RobS) (⟨a_Command_Turn, a_Command_Forward, a_Slip_Turn, a_Slip_Length, a_Slip_X, a_Slip_Y, (decL eI a_Marks_n a_Marks_f), (decL eI a_Errs_n a_Errs_f)⟩ : ActL)).bR)), .v (.int .i64 ((doR (⟨r_plan_W, r_plan_H, (decL eU8 r_plan_Cells_n r_plan_Cells_f), r_bounds_Turn, r_bounds_Length, r_bounds_Slip, r_bounds_Range, r_at_X, r_at_Y, r_at_H, r_ticks, r_bumps⟩ : RobS) (⟨a_Command_Turn, a_Command_Forward, a_Slip_Turn, a_Slip_Length, a_Slip_X, a_Slip_Y, (decL eI a_Marks_n a_Marks_f), (decL eI a_Errs_n a_Errs_f)⟩ : ActL)).x)), .v (.int .i64 ((doR (⟨r_plan_W, r_plan_H, (decL eU8 r_plan_Cells_n r_plan_Cells_f), r_bounds_Turn, r_bounds_Length, r_bounds_Slip, r_bounds_Range, r_at_X, r_at_Y, r_at_H, r_ticks, r_bumps⟩ : RobS) (⟨a_Command_Turn, a_Command_Forward, a_Slip_Turn, a_Slip_Length, a_Slip_X, a_Slip_Y, (decL eI a_Marks_n a_Marks_f), (decL eI a_Errs_n a_Errs_f)⟩ : ActL)).y)), .v (.int .i64 ((doR (⟨r_plan_W, r_plan_H, (decL eU8 r_plan_Cells_n r_plan_Cells_f), r_bounds_Turn, r_bounds_Length, r_bounds_Slip, r_bounds_Range, r_at_X, r_at_Y, r_at_H, r_ticks, r_bumps⟩ : RobS) (⟨a_Command_Turn, a_Command_Forward, a_Slip_Turn, a_Slip_Length, a_Slip_X, a_Slip_Y, (decL eI a_Marks_n a_Marks_f), (decL eI a_Errs_n a_Errs_f)⟩ : ActL)).h)), .v (.int .i64 ((doR (⟨r_plan_W, r_plan_H, (decL eU8 r_plan_Cells_n r_plan_Cells_f), r_bounds_Turn, r_bounds_Length, r_bounds_Slip, r_bounds_Range, r_at_X, r_at_Y, r_at_H, r_ticks, r_bumps⟩ : RobS) (⟨a_Command_Turn, a_Command_Forward, a_Slip_Turn, a_Slip_Length, a_Slip_X, a_Slip_Y, (decL eI a_Marks_n a_Marks_f), (decL eI a_Errs_n a_Errs_f)⟩ : ActL)).ticks)), .v (.int .i64 ((doR (⟨r_plan_W, r_plan_H, (decL eU8 r_plan_Cells_n r_plan_Cells_f), r_bounds_Turn, r_bounds_Length, r_bounds_Slip, r_bounds_Range, r_at_X, r_at_Y, r_at_H, r_ticks, r_bumps⟩ : RobS) (⟨a_Command_Turn, a_Command_Forward, a_Slip_Turn, a_Slip_Length, a_Slip_X, a_Slip_Y, (decL eI a_Marks_n a_Marks_f), (decL eI a_Errs_n a_Errs_f)⟩ : ActL)).bumps))] r_ty), (3, .ro ((decL eU8 r_plan_Cells_n r_plan_Cells_f)).length 1 (rowF eU8 ((decL eU8 r_plan_Cells_n r_plan_Cells_f)))), (1, .ro ((decL eI a_Marks_n a_Marks_f)).length 1 (rowF eI ((decL eI a_Marks_n a_Marks_f)))), (2, .ro ((decL eI a_Errs_n a_Errs_f)).length 1 (rowF eI ((decL eI a_Errs_n a_Errs_f))))], 5, rfl, rfl, by simp only [renE, Ent.ren, rowF_renf] <;> rfl, rfl, by decide, and4 (by simp only [push_cast, Nat.reduceLT, Nat.reduceAdd]) ⟨rfl, ⟨⟨_, h_r⟩, inE0_row h_a_Marks, inE0_row h_a_Errs, inE0_row h_r_plan_Cells, trivial⟩, by simp only [keysNodup, outN, keys] <;> decide, rfl, .inr ⟨.inl rfl, .inl rfl, .inl rfl, .inl rfl, trivial⟩, ?_⟩⟩
            intro hpre hlen
            obtain ⟨i_a_Marks, hpre⟩ := hpre
            obtain ⟨i_a_Errs, hpre⟩ := hpre
            obtain ⟨i_r_plan_Cells, hpre⟩ := hpre
            have hap : apartE (sg 4 nn_ [r, a_Marks, a_Errs, r_plan_Cells]) [(0, .box [.v (.int .i64 r_plan_W), .v (.int .i64 r_plan_H), .n 3, .v (.int .i64 r_bounds_Turn), .v (.int .i64 r_bounds_Length), .v (.int .i64 r_bounds_Slip), .v (.int .i64 r_bounds_Range), .v (.int .i64 r_at_X), .v (.int .i64 r_at_Y), .v (.int .i64 r_at_H), .v (.int .i64 r_ticks), .v (.int .i64 r_bumps)] r_ty), (1, .ro (decL eI a_Marks_n a_Marks_f).length eI.sz (rowF eI (decL eI a_Marks_n a_Marks_f))), (2, .ro (decL eI a_Errs_n a_Errs_f).length eI.sz (rowF eI (decL eI a_Errs_n a_Errs_f))), (3, .ro (decL eU8 r_plan_Cells_n r_plan_Cells_f).length eU8.sz (rowF eU8 (decL eU8 r_plan_Cells_n r_plan_Cells_f)))] [(0, .box [.v (.int .i64 r_plan_W), .v (.int .i64 r_plan_H), .n 3, .v (.int .i64 r_bounds_Turn), .v (.int .i64 r_bounds_Length), .v (.int .i64 r_bounds_Slip), .v (.int .i64 r_bounds_Range), .v (.int .i64 r_at_X), .v (.int .i64 r_at_Y), .v (.int .i64 r_at_H), .v (.int .i64 r_ticks), .v (.int .i64 r_bumps)] r_ty), (1, .ro (decL eI a_Marks_n a_Marks_f).length eI.sz (rowF eI (decL eI a_Marks_n a_Marks_f))), (2, .ro (decL eI a_Errs_n a_Errs_f).length eI.sz (rowF eI (decL eI a_Errs_n a_Errs_f))), (3, .ro (decL eU8 r_plan_Cells_n r_plan_Cells_f).length eU8.sz (rowF eU8 (decL eU8 r_plan_Cells_n r_plan_Cells_f)))] := by
              refine ⟨fun _ k2 e2 hm hne => ?_, ?_⟩
              · simp only [List.mem_cons, List.not_mem_nil, or_false, Prod.mk.injEq] at hm
                rcases hm with ⟨rfl, _⟩ | ⟨rfl, _⟩ | ⟨rfl, _⟩ | ⟨rfl, _⟩
                · exact absurd rfl hne
                · exact fun hh => by
                    have hh2 : a_Marks = r := hh
                    have hh3 := h_a_Marks
                    rw [hh2] at hh3; unfold rowOf at hh3; rw [h_r] at hh3; cases hh3
                · exact fun hh => by
                    have hh2 : a_Errs = r := hh
                    have hh3 := h_a_Errs
                    rw [hh2] at hh3; unfold rowOf at hh3; rw [h_r] at hh3; cases hh3
                · exact fun hh => by
                    have hh2 : r_plan_Cells = r := hh
                    have hh3 := h_r_plan_Cells
                    rw [hh2] at hh3; unfold rowOf at hh3; rw [h_r] at hh3; cases hh3
              refine ⟨fun h => by (cases h), ?_⟩
              refine ⟨fun h => by (cases h), ?_⟩
              refine ⟨fun h => by (cases h), ?_⟩
              trivial
            refine ⟨⟨⟨_, h_r, by simp only [leE, mapEq, SC.ren, and_true, true_and, and_self] <;> rfl⟩, inE_row h_a_Marks i_a_Marks, inE_row h_a_Errs i_a_Errs, inE_row h_r_plan_Cells i_r_plan_Cells, trivial⟩, hap, ?_⟩
            have z_a_Marks := lens_row (E := eI) hlen h_a_Marks
            have z_a_Errs := lens_row (E := eI) hlen h_a_Errs
            have z_r_plan_Cells := lens_row (E := eU8) hlen h_r_plan_Cells
            clear i_a_Marks
            generalize decL eI a_Marks_n a_Marks_f = a_MarksL at *
            clear i_a_Errs
            generalize decL eI a_Errs_n a_Errs_f = a_ErrsL at *
            clear i_r_plan_Cells
            generalize decL eU8 r_plan_Cells_n r_plan_Cells_f = r_plan_CellsL at *
            clear h_a_Marks
            clear h_a_Errs
            clear h_r_plan_Cells
            simp (maxSteps := 9999999) only [x21, push_cast, simprocAttr, g24, g42, g44, g45, g46]
            refine ⟨fun h => ?_, ?_⟩
            · have e : actOk (⟨a_Command_Turn, a_Command_Forward, a_Slip_Turn, a_Slip_Length, a_Slip_X, a_Slip_Y, a_MarksL, a_ErrsL⟩ : ActL) = false := actOk_f h
              simp only [doV_f e, doR_f e, doE, e]
              simp
            intro b1 b2 b3 b4 b5 b6
            have e : actOk (⟨a_Command_Turn, a_Command_Forward, a_Slip_Turn, a_Slip_Length, a_Slip_X, a_Slip_Y, a_MarksL, a_ErrsL⟩ : ActL) = true := actOk_t ⟨⟨b1, b2⟩, b3, b4⟩ (Int.not_lt.1 b5) b6
            simp only [doV_t e, doR_t e, doE, e]
            clear hap h_r
            refine ⟨by rfl, hpre.1, by rfl, fun hB => ?_, fun hB => ?_⟩
            · simp only [stX, stY, stH, stB] at hB
              refine ⟨by rfl, by rfl, ?_⟩
              simp only [stX, stY, stH, stB, stO, slipO, hB, push_cast, simprocAttr, g24, g42, g44, g45, g46]
              exact ⟨wrapI (by omega) (by omega), wrapI (by omega) (by omega), wrapI (by omega) (by omega)⟩
            simp only [stX, stY, stH, stB] at hB
            refine ⟨by rfl, by rfl, ?_⟩
            simp only [stX, stY, stH, stB, stO, slipO, hB, push_cast, simprocAttr, g24, g42, g44, g45, g46]
            exact ⟨wrapI (by omega) (by omega), wrapI (by omega) (by omega), by omega⟩
          · cases hg_
        · cases hg_
      · cases hg_
    · cases hg_
  · cases hg_
end Go.Proofs.YtkpdofgmmpbknaaGreat
namespace Go.Proofs.YtkpdofgmmpbknaaGreat
open Go.Sx Go.Way
def x6L0 : XC := (.seq (.reg false [O2 32 (.bin .lss) 31 30]) (.seq (.cond (.t 32) .skip (.exit 0)) (.seq (.opn 29 31 7 (.opn 29 31 6 (.block 1 (.seq (.reg false [O2 33 (.ixS 8) 29 31, O1 34 (.loadN 8) 33, ⟨(some 16), (.alloc 64 [(iV 0), (iV 0), (iV 0), (iV 0), (iV 0), (iV 0), (.slice none 0 0), (.slice none 0 0)]), [], none⟩, ⟨none, (.store 8), [(.t 16), (.t 34)], none⟩]) (.seq (.reg false [O1 36 .mv 11, O1 37 (.loadN 8) 16, O2 38 (.call 21) 36 37, O1 35 .mv 38, O1 39 (.ext 0) 35, O1 40 (.ext 1) 35, ⟨(some 17), (.alloc 48 [(iV 0), (iV 0), (iV 0), (.bool false), (.slice none 0 0)]), [], none⟩, ⟨none, (.store 5), [(.t 17), (.t 39)], none⟩, O1 18 .mv 40]) (.seq (.seq (.reg false [O1 41 .mv 18, K2 42 (.bin .neq) 41 (iV 0)]) (.cond (.t 42) (.seq (.reg false [O1 43 .mv 18, K1 8 .mv (.slice none 0 0), K1 9 .mv (.slice none 0 0), O1 10 .mv 43]) .ret) .skip)) (.seq (.spl 13 (.reg false [O1 44 .mv 13, O1 45 (.loadN 5) 17, ⟨(some 46), (.slit 48 1 5 [(iV 0), (iV 0), (iV 0), (.bool false), (.slice none 0 0)] [(0, 5)]), [(.t 45)], none⟩, O2 47 (.app 48 5 56) 44 46, O1 13 .mv 47])) (.mrg 13 (.reg false [O1 48 .mv 14, O1 49 .mv 11, O1 50 (.call 22) 49, ⟨(some 51), (.slit 28 1 3 [(iV 0), (iV 0), (iV 0)] [(0, 3)]), [(.t 50)], none⟩, O2 52 (.app 28 3 24) 48 51, O1 14 .mv 52]))))))))) (.reg false [K2 53 (.bin .add) 31 (iV 1), O1 31 .mv 53]))))
def x6 : XFn := ⟨56, (.seq (.reg false [O1 4 (.box 24) 0, O1 5 (.box 26) 1, O1 6 (.box 28) 2, K1 8 .mv (.slice none 0 0), K1 9 .mv (.slice none 0 0), K1 10 .mv (iV 0)]) (.seq (.reg false [O1 20 (.loadN 3) 4, O1 21 (.loadN 4) 5, O1 22 (.loadN 3) 6, ⟨(some 23), (.call 20), [(.t 20), (.t 21), (.t 22)], none⟩, O1 19 .mv 23, O1 24 (.ext 0) 19, O1 25 (.ext 1) 19, O1 11 .mv 24, O1 12 .mv 25]) (.seq (.seq (.reg false [O1 26 .mv 12, K2 27 (.bin .neq) 26 (iV 0)]) (.cond (.t 27) (.seq (.reg false [O1 28 .mv 12, K1 8 .mv (.slice none 0 0), K1 9 .mv (.slice none 0 0), O1 10 .mv 28]) .ret) .skip)) (.seq (.reg false [K1 13 .mv (.slice none 0 0)]) (.seq (.reg false [K1 14 .mv (.slice none 0 0)]) (.seq (.seq (.reg false [O1 29 .mv 3, O1 30 .lenS 29, K1 31 .mv (iV 0)]) (.block 0 (.loop x6L0))) (.seq (.reg false [O1 54 .mv 13, O1 55 .mv 14, O1 8 .mv 54, O1 9 .mv 55, K1 10 .mv (iV 0)]) .ret))))))), [(.s 8), (.s 9), (.s 10)]⟩
theorem x6_ok : xfn Tryz.prog Tryz.f6 = some x6.er := by kernel_rfl
noncomputable def g6 : Con := fun args_ E_ nn_ => match args_ with
  | [.a [.v (.int .i64 p_W), .v (.int .i64 p_H), .n p_Cells], .a [.v (.int .i64 b_Turn), .v (.int .i64 b_Length), .v (.int .i64 b_Slip), .v (.int .i64 b_Range)], .a [.v (.int .i64 at_X), .v (.int .i64 at_Y), .v (.int .i64 at_H)], .c (.n acts)] => (match rowOf E_ p_Cells with
    | some (p_Cells_n, p_Cells_s, p_Cells_f) => (match rowD eAct.sz E_ acts with
    | some (acts_n, acts_s, acts_f, acts_c) => some (.d (isRow eU8 p_Cells_n p_Cells_s p_Cells_f ∧ isDeep eAct acts_n acts_s acts_f acts_c ∧ u8s (decL eU8 p_Cells_n p_Cells_f) ∧ ((decD eAct acts_n acts_f acts_c)).length ≤ 900) (.t [.c (.n (nn_ + 0)), .c (.n (nn_ + 1)), .c (.v (.int .i64 (runE p_W p_H (decL eU8 p_Cells_n p_Cells_f) b_Turn b_Length b_Slip b_Range at_X at_Y at_H (decD eAct acts_n acts_f acts_c))))]) (fun G_ => [((nn_ + 0), .deep (some 48) (runV p_W p_H (decL eU8 p_Cells_n p_Cells_f) b_Turn b_Length b_Slip b_Range at_X at_Y at_H (decD eAct acts_n acts_f acts_c)).length 5 (deepF eEvt (runV p_W p_H (decL eU8 p_Cells_n p_Cells_f) b_Turn b_Length b_Slip b_Range at_X at_Y at_H (decD eAct acts_n acts_f acts_c)) G_) (deepC eEvt (runV p_W p_H (decL eU8 p_Cells_n p_Cells_f) b_Turn b_Length b_Slip b_Range at_X at_Y at_H (decD eAct acts_n acts_f acts_c))) []), ((nn_ + 1), .own (runP p_W p_H (decL eU8 p_Cells_n p_Cells_f) b_Turn b_Length b_Slip b_Range at_X at_Y at_H (decD eAct acts_n acts_f acts_c)).length 3 (rowF eQ (runP p_W p_H (decL eU8 p_Cells_n p_Cells_f) b_Turn b_Length b_Slip b_Range at_X at_Y at_H (decD eAct acts_n acts_f acts_c))) 28), (p_Cells, .ro ((decL eU8 p_Cells_n p_Cells_f)).length 1 (rowF eU8 ((decL eU8 p_Cells_n p_Cells_f)))), (acts, .deep none ((decD eAct acts_n acts_f acts_c)).length 8 (deepF eAct ((decD eAct acts_n acts_f acts_c)) acts_f) (deepC eAct ((decD eAct acts_n acts_f acts_c))) [])]) (nn_ + 2))
    | none => none)
    | none => none)
  | _ => none
set_option maxHeartbeats 1000000 in
theorem c6 : COk Tryz.prog 6 g6 := by
  refine cok_g Tryz.func6 x6_ok (by kernel_rfl) (cok_tab (cok_cons c20 (cok_cons c21 (cok_cons c22 cok_nil)))) ?_
  intro args_ E_ nn_ cr_ hg_
  unfold g6 at hg_
  split at hg_
  · rename_i p_W p_H p_Cells b_Turn b_Length b_Slip b_Range at_X at_Y at_H acts
    split at hg_
    · rename_i p_Cells_n p_Cells_s p_Cells_f h_p_Cells
      split at hg_
      · rename_i acts_n acts_s acts_f acts_c h_acts
        cases hg_
        refine ⟨_, _, _, _, rfl, 2, [p_Cells, acts], [.a [.v (.int .i64 p_W), .v (.int .i64 p_H), .n 0], .a [.v (.int .i64 b_Turn), .v (.int .i64 b_Length), .v (.int .i64 b_Slip), .v (.int .i64 b_Range)], .a [.v (.int .i64 at_X), .v (.int .i64 at_Y), .v (.int .i64 at_H)], .c (.n 1)], [(0, .ro (decL eU8 p_Cells_n p_Cells_f).length eU8.sz (rowF eU8 (decL eU8 p_Cells_n p_Cells_f))), (1, .deep none (decD eAct acts_n acts_f acts_c).length eAct.sz (deepF eAct (decD eAct acts_n acts_f acts_c) acts_f) (deepC eAct (decD eAct acts_n acts_f acts_c)) [])], .t [.c (.n 2), .c (.n 3), .c (.v (.int .i64 (runE p_W p_H (decL eU8 p_Cells_n p_Cells_f) b_Turn b_Length b_Slip b_Range at_X at_Y at_H (decD eAct acts_n acts_f acts_c))))], (fun G_ => [(2, .deep (some 48) (runV p_W p_H (decL eU8 p_Cells_n p_Cells_f) b_Turn b_Length b_Slip b_Range at_X at_Y at_H (decD eAct acts_n acts_f acts_c)).length 5 (deepF eEvt (runV p_W p_H (decL eU8 p_Cells_n p_Cells_f) b_Turn b_Length b_Slip b_Range at_X at_Y at_H (decD eAct acts_n acts_f acts_c)) G_) (deepC eEvt (runV p_W p_H (decL eU8 p_Cells_n p_Cells_f) b_Turn b_Length b_Slip b_Range at_X at_Y at_H (decD eAct acts_n acts_f acts_c))) []), (3, .own (runP p_W p_H (decL eU8 p_Cells_n p_Cells_f) b_Turn b_Length b_Slip b_Range at_X at_Y at_H (decD eAct acts_n acts_f acts_c)).length 3 (rowF eQ (runP p_W p_H (decL eU8 p_Cells_n p_Cells_f) b_Turn b_Length b_Slip b_Range at_X at_Y at_H (decD eAct acts_n acts_f acts_c))) 28), (0, .ro ((decL eU8 p_Cells_n p_Cells_f)).length 1 (rowF eU8 ((decL eU8 p_Cells_n p_Cells_f)))), (1, .deep none ((decD eAct acts_n acts_f acts_c)).length 8 (deepF eAct ((decD eAct acts_n acts_f acts_c)) acts_f) (deepC eAct ((decD eAct acts_n acts_f acts_c))) [])]), 4, rfl, rfl, (fun _ => by simp only [renE, Ent.ren, renAl, rowF_renf] <;> rfl), rfl, by decide, by simp only [push_cast, Nat.reduceLT, Nat.reduceAdd], by simp only [push_cast, Nat.reduceLT, Nat.reduceAdd], by simp only [push_cast, Nat.reduceLT, Nat.reduceAdd], (fun _ => by simp only [push_cast, Nat.reduceLT, Nat.reduceAdd]), rfl, ⟨inE0_row h_p_Cells, inE0_deep h_acts, trivial⟩, (fun _ => by simp only [keysNodup, outN, keys] <;> decide), (fun _ => rfl), (fun _ => .inr ⟨.inl rfl, .inl rfl, trivial⟩), ?_⟩
        intro hpre hlen
        obtain ⟨i_p_Cells, hpre⟩ := hpre
        obtain ⟨i_acts, hpre⟩ := hpre
        refine ⟨⟨inE_row h_p_Cells i_p_Cells, inE_deep h_acts i_acts, trivial⟩, by simp only [apartE] <;> (first | trivial | (simp [Ent.mut]; done)), ?_⟩
        have z_p_Cells := lens_row (E := eU8) hlen h_p_Cells
        have z_acts := lens_deep (D := eAct) hlen h_acts
        clear i_p_Cells
        generalize decL eU8 p_Cells_n p_Cells_f = p_CellsL at *
        clear i_acts
        generalize decD eAct acts_n acts_f acts_c = actsL at *
        clear h_p_Cells
        clear h_acts
        by_cases hE : rnewE p_W p_H p_CellsL b_Turn b_Length b_Slip b_Range at_X at_Y at_H = 0
        · simp (maxSteps := 9999999) only [x6, push_cast, simprocAttr, g20, g21, g22, g20a, hE]
          refine ⟨hpre.1, ?_⟩
          refine vcLoop_upd (α := {s : Nat × (Nat → Nat → Value) // s.1 ≤ actsL.length ∧ ∀ i, i < s.1 → actOk (actsL.getD i eAct.dflt) = true}) [11, 29, 30] 2 (fun s => [(13, .o (.c (.n 7))), (14, .o (.c (.n 8))), (31, .o (.c (.v (.int .i64 (s.1.1 : Nat)))))]) (fun s => [(7, .deep (some 48) s.1.1 5 (deepF eEvt (evK (rob0 p_W p_H p_CellsL b_Turn b_Length b_Slip b_Range at_X at_Y at_H) actsL s.1.1) s.1.2) (deepC eEvt (evK (rob0 p_W p_H p_CellsL b_Turn b_Length b_Slip b_Range at_X at_Y at_H) actsL s.1.1)) []), (8, .own s.1.1 3 (rowF eQ (poK (rob0 p_W p_H p_CellsL b_Turn b_Length b_Slip b_Range at_X at_Y at_H) actsL s.1.1)) 28), (5, .box [.v (.int .i64 (((rbK (rob0 p_W p_H p_CellsL b_Turn b_Length b_Slip b_Range at_X at_Y at_H) actsL s.1.1)).W)), .v (.int .i64 (((rbK (rob0 p_W p_H p_CellsL b_Turn b_Length b_Slip b_Range at_X at_Y at_H) actsL s.1.1)).H)), .n 6, .v (.int .i64 (((rbK (rob0 p_W p_H p_CellsL b_Turn b_Length b_Slip b_Range at_X at_Y at_H) actsL s.1.1)).bT)), .v (.int .i64 (((rbK (rob0 p_W p_H p_CellsL b_Turn b_Length b_Slip b_Range at_X at_Y at_H) actsL s.1.1)).bL)), .v (.int .i64 (((rbK (rob0 p_W p_H p_CellsL b_Turn b_Length b_Slip b_Range at_X at_Y at_H) actsL s.1.1)).bS)), .v (.int .i64 (((rbK (rob0 p_W p_H p_CellsL b_Turn b_Length b_Slip b_Range at_X at_Y at_H) actsL s.1.1)).bR)), .v (.int .i64 (((rbK (rob0 p_W p_H p_CellsL b_Turn b_Length b_Slip b_Range at_X at_Y at_H) actsL s.1.1)).x)), .v (.int .i64 (((rbK (rob0 p_W p_H p_CellsL b_Turn b_Length b_Slip b_Range at_X at_Y at_H) actsL s.1.1)).y)), .v (.int .i64 (((rbK (rob0 p_W p_H p_CellsL b_Turn b_Length b_Slip b_Range at_X at_Y at_H) actsL s.1.1)).h)), .v (.int .i64 (((rbK (rob0 p_W p_H p_CellsL b_Turn b_Length b_Slip b_Range at_X at_Y at_H) actsL s.1.1)).ticks)), .v (.int .i64 (((rbK (rob0 p_W p_H p_CellsL b_Turn b_Length b_Slip b_Range at_X at_Y at_H) actsL s.1.1)).bumps))] 95), (6, .ro p_CellsL.length 1 (rowF eU8 p_CellsL)), (0, .ro p_CellsL.length 1 (rowF eU8 p_CellsL))]) (fun s => actsL.length - s.1.1) ⟨(0, fun _ _ => .bool false), by omega, fun i hi => by omega⟩ ?_ ?_
          · simp only [push_cast, simprocAttr, g20, g21, g22]
            exact ⟨rfl, rfl, rfl, rfl, rfl, rfl, rfl, rfl, rfl, rfl, rfl⟩
          rintro ⟨⟨i, V⟩, hi, hall⟩
          simp only at hi hall
          have hk := rbK_keep (rob0 p_W p_H p_CellsL b_Turn b_Length b_Slip b_Range at_X at_Y at_H) actsL i
          have hc := rbK_cnt (rob0 p_W p_H p_CellsL b_Turn b_Length b_Slip b_Range at_X at_Y at_H) actsL i
          generalize hK : rbK (rob0 p_W p_H p_CellsL b_Turn b_Length b_Slip b_Range at_X at_Y at_H) actsL i = K at hk hc
          have hcL : K.L = p_CellsL := hk.2.2.1
          have hct : 0 ≤ K.ticks ∧ K.ticks ≤ 1000 := ⟨hc.1.1, by have := hc.1.2; simp only [rob0] at this; omega⟩
          have hcb : 0 ≤ K.bumps ∧ K.bumps ≤ 1000 := ⟨hc.2.1, by have := hc.2.2; simp only [rob0] at this; omega⟩
          clear hc
          simp only [hK]
          rw [← hcL]
          simp (maxSteps := 9999999) only [x6L0, push_cast, simprocAttr, g20, g21, g22]
          refine ⟨fun hlt => ⟨hlt, hlt, hlt, hlt, ⟨by rw [hcL]; exact hpre.1, hct, hcb⟩, fun he => ?_, fun he => ?_⟩, fun hge => ?_⟩
          · have z := doE_1 he
            have z2 := run_bad (A := actsL) hE hlt z.1
            rw [hcL, z2.1, z2.2.1, z2.2.2, z.2]
            exact ⟨fun _ _ => .bool false, by simp⟩
          · refine ⟨by omega, ⟨by omega, mrgOk_push' (evK_len _ _ _).symm fun e j _ _ => okM_lit ?_ e j⟩, fun F' hF => ⟨by omega, ⟨⟨(i + 1, F'), by omega, fun q hq => ?_⟩, ?_⟩⟩⟩
            · intro c hc
              simp only [List.mem_cons, List.not_mem_nil, or_false] at hc
              rcases hc with rfl | rfl | rfl | rfl | rfl
              · trivial
              · trivial
              · trivial
              · trivial
              · exact okM_ro (E := eC) rfl
            · rcases Nat.lt_succ_iff_lt_or_eq.1 hq with h | h
              · exact hall q h
              · subst h; exact doE_0 he
            · simp only
              rw [rbK_succ, hcL, hK]
              refine ⟨⟨wrapI (by omega) (by omega), ⟨trivial, deep_push' (X := [doV K (actsL.getD i eAct.dflt)]) (evK_len _ _ _).symm rfl (by rw [evK_succ, hK]) (by rw [hcL] at hF; exact hF) (push_evt (mrg1_ro (E := eC) rfl rfl rfl))⟩, ?_⟩, by omega⟩
              exact ⟨⟨trivial, push_eq' (x := poseO (doR K (actsL.getD i eAct.dflt))) (poK_len _ _ _).symm rfl (by rw [poK_succ, rbK_succ, hK])⟩, rfl, rfl, rfl, rfl, rfl, rfl, rfl, rfl, rfl, rfl, rfl⟩
          · obtain rfl : i = actsL.length := by omega
            have z := run_ok (A := actsL) hE hall
            rw [hcL, z.1, z.2.1, z.2.2, evK_len, poK_len]
            exact ⟨V, rfl, ⟨rfl, fun _ _ _ _ => ⟨rfl, cEq_refl _⟩⟩, rfl, same_eq' rfl⟩
        · simp (maxSteps := 9999999) only [x6, push_cast, simprocAttr, g20, g21, g22, g20b, hE]
          have z := run_new (A := actsL) hE
          rw [z.1, z.2.1, z.2.2]
          exact ⟨hpre.1, fun _ _ => .bool false, by simp⟩
      · cases hg_
    · cases hg_
  · cases hg_
end Go.Proofs.YtkpdofgmmpbknaaGreat
namespace Go.Proofs.YtkpdofgmmpbknaaGreat
open Go.Sx Go.Way
theorem lt_ge (a b : Int) : a < b ∨ b ≤ a := by omega
theorem sq_le {a c : Int} (hc : 0 ≤ c) (h : a * a ≤ c * c) : -c ≤ a ∧ a ≤ c := by
  have key : ∀ b : Int, b * b ≤ c * c → b ≤ c := fun b hb => by
    rcases lt_ge c b with h1 | h1
    · have := Int.mul_le_mul (show c + 1 ≤ b by omega) (show c + 1 ≤ b by omega) (by omega) (by omega)
      have e : (c + 1) * (c + 1) = c * c + 2 * c + 1 := by grind
      omega
    · exact h1
  have := key (-a) (by rw [Int.neg_mul_neg]; exact h)
  exact ⟨by omega, key a h⟩
theorem low_vec {x y d : Int} (h1 : 1 ≤ d) (h2 : d ≤ 67108864) (h : x * x + y * y = d * d) : vecB (low x y d).1 (low x y d).2.1 (low x y d).2.2 = true := by
  have hg := gcd3_pos (x := x) (y := y) (d := d) (by omega)
  obtain ⟨k1, k2, k3⟩ := dvd_gcd3 x y d
  have e1 := Int.ediv_mul_cancel k1
  have e2 := Int.ediv_mul_cancel k2
  have e3 := Int.ediv_mul_cancel k3
  have p1 := Int.ediv_pos_of_pos_of_dvd (show 0 < d by omega) (Int.le_of_lt hg) k3
  have p2 : d / gcd3 x y d ≤ d := Int.ediv_le_self _ (by omega)
  unfold low vecB
  simp only
  clear k1 k2 k3
  generalize x / gcd3 x y d = a at *
  generalize y / gcd3 x y d = b at *
  generalize d / gcd3 x y d = c at *
  generalize gcd3 x y d = g at *
  have e : (a * a + b * b) * (g * g) = c * c * (g * g) := by rw [← e1, ← e2, ← e3] at h; grind
  have f := Int.eq_of_mul_eq_mul_right (by have := Int.mul_pos hg hg; omega) e
  have n1 : 0 ≤ a * a := by rcases Int.le_total 0 a with q | q; exact Int.mul_nonneg q q; exact Int.mul_nonneg_of_nonpos_of_nonpos q q
  have n2 : 0 ≤ b * b := by rcases Int.le_total 0 b with q | q; exact Int.mul_nonneg q q; exact Int.mul_nonneg_of_nonpos_of_nonpos q q
  have s1 := sq_le (a := a) (c := c) (by omega) (by omega)
  have s2 := sq_le (a := b) (c := c) (by omega) (by omega)
  rw [decide_eq_true_eq]
  omega
theorem dirV_ok : ∀ k : Fin 256, vecB (dirV k.val).1 (dirV k.val).2.1 (dirV k.val).2.2 = true ∧ (dirV k.val).2.2 ≤ 8191 := by decide +kernel
theorem dirV_vec (h : Int) : vecB (dirV h).1 (dirV h).2.1 (dirV h).2.2 = true ∧ (dirV h).2.2 ≤ 8191 := by
  rw [← dirV_mod]
  have h0 : 0 ≤ h % 256 := Int.emod_nonneg _ (by omega)
  have h1 : h % 256 < 256 := Int.emod_lt_of_pos _ (by omega)
  have := dirV_ok ⟨(h % 256).toNat, by omega⟩
  rw [show (((⟨(h % 256).toNat, by omega⟩ : Fin 256).val : Nat) : Int) = h % 256 from Int.toNat_of_nonneg h0] at this
  exact this
theorem beam_vec (h m : Int) : vecB (beamV h m).1 (beamV h m).2.1 (beamV h m).2.2 = true := by
  obtain ⟨a1, a2⟩ := dirV_vec h
  obtain ⟨b1, b2⟩ := dirV_vec m
  have v1 := vec_bd a1
  have v2 := vec_bd b1
  unfold beamV
  generalize dirV h = p at *
  generalize dirV m = q at *
  have hx : vecB (bmX p.1 p.2.1 p.2.2 q.1 q.2.1 q.2.2).1 (bmX p.1 p.2.1 p.2.2 q.1 q.2.1 q.2.2).2.1 (bmX p.1 p.2.1 p.2.2 q.1 q.2.1 q.2.2).2.2 = true := by
    unfold bmX
    have m1 := Int.mul_pos (show 0 < p.2.2 by omega) (show 0 < q.2.2 by omega)
    have m2 := Int.mul_le_mul a2 b2 (by omega) (by omega)
    refine low_vec (by omega) (by omega) ?_
    have z1 := v1.2.2.2.2.2.2.2.2
    have z2 := v2.2.2.2.2.2.2.2.2
    generalize p.1 = a at *; generalize p.2.1 = b at *; generalize p.2.2 = c at *
    generalize q.1 = d at *; generalize q.2.1 = e at *; generalize q.2.2 = f at *
    have r1 : (a * d - b * e) * (a * d - b * e) + (a * e + b * d) * (a * e + b * d) = (a * a + b * b) * (d * d + e * e) := by grind
    rw [r1, z1, z2]; grind
  have he : bmE p.1 p.2.1 p.2.2 q.1 q.2.1 q.2.2 = 0 := by
    have := (vec_bd hx).2.1
    unfold bmE
    rw [if_neg (by rw [a1, b1]; decide), if_neg (by omega)]
  unfold bmT
  rw [if_pos he]
  exact hx
section
variable {W H : Int} {L : List Int} {px py vx vy vd most s : Int} {b c : CC}
theorem first_best (h : firstO W H L px py vx vy vd most = some c) : okF W H L px py vx vy vd most = true ∧ Best (ltK px py vx vy vd) (refL W H L px py vx vy vd most) c := by
  unfold firstO at h
  split at h
  · rename_i hk
    rcases pick_best (ltK_tr px py vx vy vd) (ltK_neg px py vx vy vd) (ltK_irr px py vx vy vd) (refL W H L px py vx vy vd most) (gridL_sorted _ _ _ _ _) with ⟨a1, a2⟩ | ⟨d, a1, a2⟩
    · rw [a1] at h; cases h
    · rw [a1] at h; cases h; exact ⟨hk, a2⟩
  · cases h
theorem first_min (h : firstO W H L px py vx vy vd most = some c) (hb : b ∈ refL W H L px py vx vy vd most) : flE (entC px py vx vy vd c) (entC px py vx vy vd b) := by
  have := (first_best h).2.2.1 b hb
  unfold ltK at this
  rw [decide_eq_false_iff_not] at this
  unfold flE
  omega
theorem first_is (hk : okF W H L px py vx vy vd most = true) (hb : b ∈ refL W H L px py vx vy vd most) : ∃ c, firstO W H L px py vx vy vd most = some c := by
  unfold firstO
  rw [if_pos hk]
  rcases pick_best (ltK_tr px py vx vy vd) (ltK_neg px py vx vy vd) (ltK_irr px py vx vy vd) (refL W H L px py vx vy vd most) (gridL_sorted _ _ _ _ _) with ⟨a1, a2⟩ | ⟨d, a1, a2⟩
  · rw [a2] at hb; cases hb
  · exact ⟨d, a1⟩
theorem first_in (h : firstO W H L px py vx vy vd most = some c) : c ∈ refL W H L px py vx vy vd most := (first_best h).2.1
theorem ref_at (h : c ∈ refL W H L px py vx vy vd most) : 0 ≤ (entC px py vx vy vd c).1 ∧ 1 ≤ (entC px py vx vy vd c).2 ∧ (entC px py vx vy vd c).1 ≤ most * (entC px py vx vy vd c).2 := by
  have m := refL_mem.1 h
  have k := m.1.2
  unfold hitB at k
  rw [Bool.and_eq_true, decide_eq_true_eq] at k
  have b := ent_bd (c := c) k.1
  exact ⟨b.1.1, b.2.1, k.2⟩
theorem ref_to (h : c ∈ refL W H L px py vx vy vd most) (hs : (entC px py vx vy vd c).1 ≤ s * (entC px py vx vy vd c).2) : c ∈ refL W H L px py vx vy vd s := by
  have m := refL_mem.1 h
  have k := m.1.2
  unfold hitB at k
  rw [Bool.and_eq_true, decide_eq_true_eq] at k
  refine refL_mem.2 ⟨⟨m.1.1, ?_⟩, m.2⟩
  unfold hitB
  rw [k.1, decide_eq_true hs]; rfl
theorem ref_up (h : c ∈ refL W H L px py vx vy vd most) (hs : most ≤ s) : c ∈ refL W H L px py vx vy vd s := by
  have a := ref_at h
  have := Int.mul_le_mul_of_nonneg_right hs (show 0 ≤ (entC px py vx vy vd c).2 by omega)
  exact ref_to h (by omega)
theorem fl_le {A B : Int × Int} (ha : 1 ≤ A.2) (hb : 1 ≤ B.2) (h : flE A B) : (B.1 ≤ s * B.2 → A.1 ≤ s * A.2) ∧ (s * A.2 ≤ A.1 → s * B.2 ≤ B.1) := by
  unfold flE at h
  constructor
  · intro k
    refine Int.le_of_mul_le_mul_right (a := B.2) ?_ (by omega)
    have e := Int.mul_le_mul_of_nonneg_right k (show 0 ≤ A.2 by omega)
    have r : s * B.2 * A.2 = s * A.2 * B.2 := by ac_rfl
    omega
  · intro k
    refine Int.le_of_mul_le_mul_right (a := A.2) ?_ (by omega)
    have e := Int.mul_le_mul_of_nonneg_right k (show 0 ≤ B.2 by omega)
    have r : s * B.2 * A.2 = s * A.2 * B.2 := by ac_rfl
    omega
end
section
variable {W H : Int} {L : List Int} {x y h m r rng er : Int}
theorem good_ok (k : goodB W H L x y h = true) : inB W H L x y = true ∧ 0 ≤ h ∧ h ≤ 255 := by
  unfold goodB at k
  rw [Bool.and_eq_true, decide_eq_true_eq] at k
  exact ⟨k.1, k.2⟩
theorem look_ok (k : goodB W H L x y h = true) {s : Int} (h0 : 0 ≤ s) (h1 : s ≤ 2048) : okF W H L x y (beamV h m).1 (beamV h m).2.1 (beamV h m).2.2 s = true := okF_true (good_ok k).1 (beam_vec h m) h0 h1
theorem meas_plaus (k : measE W H L x y h m rng = 0) : plausB W H L x y h m (measV W H L x y h m rng er) rng = true := by
  have hg : goodB W H L x y h = true := by
    unfold measE at k; split at k
    · cases k
    · rename_i q; simpa using q
  have hq : (1 ≤ rng ∧ rng ≤ 32) ∧ 0 ≤ m ∧ m ≤ 255 := by
    unfold measE at k; rw [if_neg (by rw [hg]; decide)] at k
    split at k
    · assumption
    · cases k
  unfold measV
  rw [if_pos k]
  obtain ⟨g1, g2⟩ := good_ok hg
  have far : ∀ {d : CC}, lookO W H L x y h m (1024 - rng) = some d → ∃ c, lookO W H L x y h m 1024 = some c ∧ (lookK x y h m c).1 ≤ (1024 - rng) * (lookK x y h m c).2 ∧ 1 ≤ (lookK x y h m c).2 := by
    intro d hd
    have hm := ref_up (s := 1024) (first_in hd) (by omega)
    obtain ⟨c, hc⟩ := first_is (look_ok hg (by omega) (by omega)) hm
    have a := ref_at (first_in hd)
    have b := ref_at (first_in hc)
    exact ⟨c, hc, (fl_le b.2.1 a.2.1 (first_min hc hm)).1 a.2.2, b.2.1⟩
  cases ho : lookO W H L x y h m 1024 with
  | none =>
    rw [show measZ (lookK x y h m) (min (max er (1 - rng)) rng) none = -1 from rfl, plaus_t g1 g2 (by omega) hq.1, if_pos rfl]
    cases hd : lookO W H L x y h m (1024 - rng) with
    | none => rfl
    | some d => obtain ⟨c, hc, _⟩ := far hd; rw [ho] at hc; cases hc
  | some c =>
    have a := ref_at (first_in ho)
    have e1 : 1 - rng ≤ min (max er (1 - rng)) rng ∧ min (max er (1 - rng)) rng ≤ rng := by omega
    generalize min (max er (1 - rng)) rng = e at *
    change plausB W H L x y h m (if 1024 < max ((lookK x y h m c).1 / (lookK x y h m c).2 + e) 0 then -1 else max ((lookK x y h m c).1 / (lookK x y h m c).2 + e) 0) rng = true
    have q0 : 0 ≤ (lookK x y h m c).1 / (lookK x y h m c).2 := Int.ediv_nonneg a.1 (by have := a.2.1; unfold lookK; omega)
    have q2 : (lookK x y h m c).1 / (lookK x y h m c).2 * (lookK x y h m c).2 ≤ (lookK x y h m c).1 := Int.ediv_mul_le _ (by have := a.2.1; unfold lookK; omega)
    have q3 : (lookK x y h m c).1 < ((lookK x y h m c).1 / (lookK x y h m c).2 + 1) * (lookK x y h m c).2 := Int.lt_ediv_add_one_mul_self _ (by have := a.2.1; unfold lookK; omega)
    have a' : 0 ≤ (lookK x y h m c).1 ∧ 1 ≤ (lookK x y h m c).2 ∧ (lookK x y h m c).1 ≤ 1024 * (lookK x y h m c).2 := a
    generalize hK : (lookK x y h m c).1 / (lookK x y h m c).2 = q at *
    split
    · rename_i hv
      rw [plaus_t g1 g2 (by omega) hq.1, if_pos rfl]
      cases hd : lookO W H L x y h m (1024 - rng) with
      | none => rfl
      | some d =>
        obtain ⟨c2, hc2, k1, k2⟩ := far hd
        rw [ho] at hc2; cases hc2
        exfalso
        have : q ≤ 1024 - rng := by
          refine Int.le_of_mul_le_mul_right (a := (lookK x y h m c).2) ?_ (by omega)
          omega
        omega
    · rename_i hv
      rw [plaus_t g1 g2 (by omega) hq.1, if_neg (by omega)]
      have hr : q + 1 ≤ max (q + e) 0 + rng := by omega
      have hl : max (q + e) 0 - rng ≤ q := by omega
      have hv0 : 0 ≤ max (q + e) 0 ∧ max (q + e) 0 ≤ 1024 := by omega
      generalize max (q + e) 0 = v at *
      have hm : c ∈ refL W H L x y (beamV h m).1 (beamV h m).2.1 (beamV h m).2.2 (v + rng) := ref_to (first_in ho) (by
        have := Int.mul_le_mul_of_nonneg_right hr (show 0 ≤ (lookK x y h m c).2 by omega)
        change (lookK x y h m c).1 ≤ (v + rng) * (lookK x y h m c).2
        omega)
      obtain ⟨d, hd⟩ := first_is (look_ok hg (by omega) (by omega)) hm
      have b := ref_at (first_in hd)
      have f := first_min hd hm
      have hd2 := ref_to (s := 1024) (first_in hd) ((fl_le b.2.1 a.2.1 f).1 a.2.2)
      have f2 := first_min ho hd2
      rw [show lookO W H L x y h m (v + rng) = some d from hd]
      refine decide_eq_true ((fl_le (A := lookK x y h m c) a'.2.1 b.2.1 f2).2 ?_)
      have := Int.mul_le_mul_of_nonneg_right hl (show 0 ≤ (lookK x y h m c).2 by omega)
      omega
theorem sweep_plaus {M R : List Int} (k : swpE W H L x y h rng M = 0) : allB W H L x y h rng (swpL W H L x y h rng M R) = true := by
  have hm : ¬ 32 < M.length := by intro q; unfold swpE at k; rw [if_pos q] at k; cases k
  have h0 : swE1 W H L x y h rng M M.length = 0 := by unfold swpE at k; rwa [if_neg hm] at k
  have hall : ∀ n, n < M.length → measE W H L x y h (M.getD n eI.dflt) rng = 0 := by
    intro n hn
    have e1 : swE1 W H L x y h rng M (n + 1) = 0 := by
      rcases Classical.em (swE1 W H L x y h rng M (n + 1) = 0) with g | g
      · exact g
      · have := swE1_stop g M.length (by omega); omega
    have e0 : swE1 W H L x y h rng M n = 0 := by
      rcases Classical.em (swE1 W H L x y h rng M n = 0) with g | g
      · exact g
      · have := swE1_stop g M.length (by omega); omega
    rw [← e1]; exact (if_pos e0).symm
  rw [(swp_good R hm h0).2]
  unfold allB
  rw [swV_len, decide_eq_true (show M.length ≤ 32 by omega), Bool.and_true, List.all_eq_true]
  intro c hc
  unfold swV at hc
  rw [List.mem_map] at hc
  obtain ⟨i, hi, rfl⟩ := hc
  rw [List.mem_range] at hi
  exact meas_plaus (hall i hi)
end
def okS (r : RobS) : Prop := fitB r.W r.H r.L r.x r.y = true ∧ (0 ≤ r.h ∧ r.h ≤ 255) ∧ (0 ≤ r.bT ∧ r.bT ≤ 8) ∧ (0 ≤ r.bL ∧ r.bL ≤ 16) ∧ (0 ≤ r.bS ∧ r.bS ≤ 8) ∧ 1 ≤ r.bR ∧ r.bR ≤ 32
theorem fit_bd {W H : Int} {L : List Int} {x y : Int} (h : fitB W H L x y = true) : planB W H L = true ∧ (0 ≤ x ∧ x ≤ 64 * W ∧ W ≤ 64) ∧ 0 ≤ y ∧ y ≤ 64 * H ∧ H ≤ 64 := by
  have h1 := (fit_iff.1 h).1
  have hp : planB W H L = true := by unfold buildB at h1; rw [Bool.and_eq_true] at h1; exact h1.1
  have hb := planB_at hp
  have hi := fit_in h
  unfold inPlan at hi
  rw [decide_eq_true_eq] at hi
  exact ⟨hp, by omega, by omega⟩
theorem clp_bd {n k : Int} (h : 0 ≤ k) : -k ≤ clp n k ∧ clp n k ≤ k := by unfold clp; omega
theorem act_cmd {a : ActL} (h : actOk a = true) : ((-32 ≤ a.turn ∧ a.turn ≤ 32) ∧ 0 ≤ a.fwd ∧ a.fwd ≤ 32) ∧ a.marks.length ≤ 32 ∧ ∀ m ∈ a.marks, 0 ≤ m ∧ m ≤ 255 := by
  unfold actOk at h
  simp only [Bool.and_eq_true, decide_eq_true_eq, Bool.not_eq_true', cmdB] at h
  refine ⟨h.1.1, h.1.2, fun m hm => ?_⟩
  have := h.2
  rw [List.any_eq_false] at this
  have := this m hm
  unfold wrongM at this
  rw [decide_eq_true_eq] at this
  omega
theorem slip_is {r : RobS} {a : ActL} (h : okS r) : slipO r a = (clp a.sT r.bT, clp a.sL r.bL, clp a.sX r.bS, clp a.sY r.bS, 0) := clipS_go (by unfold okS at h; omega)
theorem next_in {X Y H T F eT eL eX eY : Int} (h1 : (0 ≤ X ∧ X ≤ 4096) ∧ (0 ≤ Y ∧ Y ≤ 4096) ∧ 0 ≤ H ∧ H ≤ 255) (h2 : (-32 ≤ T ∧ T ≤ 32) ∧ 0 ≤ F ∧ F ≤ 32) (h3 : (-8 ≤ eT ∧ eT ≤ 8) ∧ (-16 ≤ eL ∧ eL ≤ 16) ∧ (-8 ≤ eX ∧ eX ≤ 8) ∧ -8 ≤ eY ∧ eY ≤ 8) :
    (nextS X Y H T F eT eL eX eY).2.2.2 = 0 ∧ 0 ≤ (nextS X Y H T F eT eL eX eY).2.2.1 ∧ (nextS X Y H T F eT eL eX eY).2.2.1 ≤ 255 := by
  by_cases hF : F = 0
  · rw [nextS_stay (by omega) (by omega) hF]
    exact ⟨rfl, by simp only; omega, by simp only; omega⟩
  · obtain ⟨hx, hy⟩ := dir_div_bd ((H + T + eT) % 256) (max 0 (F + eL)) (by omega)
    rw [nextS_go (by omega) (by omega) hF rfl rfl, if_pos (by omega)]
    exact ⟨rfl, by simp only; omega, by simp only; omega⟩
theorem tick_law {r : RobS} {a : ActL} (h : okS r) (ha : actOk a = true) : ∃ nx ny nh, nextS r.x r.y r.h a.turn a.fwd (slipO r a).1 (slipO r a).2.1 (slipO r a).2.2.1 (slipO r a).2.2.2.1 = (nx, ny, nh, 0) ∧
    withinS r.bT r.bL r.bS r.bR r.x r.y r.h a.turn a.fwd nx ny nh false = true ∧ withinS r.bT r.bL r.bS r.bR r.x r.y r.h a.turn a.fwd r.x r.y nh true = true ∧ (0 ≤ nh ∧ nh ≤ 255) ∧
    ((stO r a = (r.x, r.y, nh, true, 0) ∧ 0 < a.fwd ∧ blkB r.W r.H r.L r.x r.y nx ny = true) ∨
     (stO r a = (nx, ny, nh, false, 0) ∧ (a.fwd = 0 ∨ blkB r.W r.H r.L r.x r.y nx ny = false) ∧ fitB r.W r.H r.L nx ny = true)) := by
  have hs := slip_is (a := a) h
  obtain ⟨hc, -, -⟩ := act_cmd ha
  obtain ⟨hf, hh, hb⟩ := h
  have hbd := fit_bd hf
  have hbl := (fit_iff.1 hf).1
  rw [hs]
  simp only
  have k1 := clp_bd (n := a.sT) (k := r.bT) (by omega)
  have k2 := clp_bd (n := a.sL) (k := r.bL) (by omega)
  have k3 := clp_bd (n := a.sX) (k := r.bS) (by omega)
  have k4 := clp_bd (n := a.sY) (k := r.bS) (by omega)
  have hn := next_in (X := r.x) (Y := r.y) (H := r.h) (T := a.turn) (F := a.fwd) (eT := clp a.sT r.bT) (eL := clp a.sL r.bL) (eX := clp a.sX r.bS) (eY := clp a.sY r.bS) (by omega) (by omega) (by omega)
  rcases follows (bT := r.bT) (bL := r.bL) (bS := r.bS) (bR := r.bR) (X := r.x) (Y := r.y) (H := r.h) (T := a.turn) (F := a.fwd) (by omega) k1 k2 k3 k4 with ⟨e, he, hz⟩ | ⟨x, y, hh', r0, r1, r2, r3, he, _, w1, w2, _⟩
  · rw [he] at hn; exact absurd hn.1 hz
  · rw [he] at hn
    simp only at hn
    refine ⟨x, y, hh', he, w1, w2, hn.2, ?_⟩
    have hst : stO r a = stepS r.W r.H r.L r.x r.y r.h a.turn a.fwd (clp a.sT r.bT) (clp a.sL r.bL) (clp a.sX r.bS) (clp a.sY r.bS) := by unfold stO; rw [hs]
    rw [hst]
    unfold stepS
    rw [if_neg (by rw [hbd.1]; decide), if_neg (by rw [hbl]; decide), he]
    simp only [ne_eq, not_true_eq_false, if_false]
    by_cases hk : ¬ a.fwd = 0 ∧ blkB r.W r.H r.L r.x r.y x y = true
    · rw [if_pos hk]
      exact .inl ⟨rfl, by omega, hk.2⟩
    · rw [if_neg hk]
      refine .inr ⟨rfl, ?_, ?_⟩
      · by_cases hF : a.fwd = 0
        · exact .inl hF
        · right; rw [Bool.eq_false_iff]; exact fun q => hk ⟨hF, q⟩
      · by_cases hF : a.fwd = 0
        · obtain ⟨rfl, rfl⟩ := nextS_zero hF he
          exact hf
        · unfold fitB
          rw [Bool.not_eq_true', Bool.eq_false_iff]
          exact fun q => hk ⟨hF, blk_end2 q⟩
theorem okS_do {r : RobS} {a : ActL} (h : okS r) (ha : actOk a = true) : okS (doR r a) := by
  obtain ⟨nx, ny, nh, h1, h2, h3, h4, h5⟩ := tick_law h ha
  rw [doR_t ha]
  unfold okS
  simp only
  rcases h5 with ⟨e, _⟩ | ⟨e, _, hf⟩
  · rw [e]; exact ⟨h.1, h4, h.2.2⟩
  · rw [e]; exact ⟨hf, h4, h.2.2⟩
theorem okS_K {r : RobS} {A : List ActL} (h : okS r) : ∀ k, (∀ i, i < k → actOk (A.getD i eAct.dflt) = true) → okS (rbK r A k)
  | 0, _ => h
  | k + 1, ha => by
    rw [rbK_succ]
    exact okS_do (okS_K h k fun i hi => ha i (by omega)) (ha k (by omega))
theorem okS_new {W H : Int} {L : List Int} {bT bL bS bR x y h : Int} (e : rnewE W H L bT bL bS bR x y h = 0) : okS (rob0 W H L bT bL bS bR x y h) := by
  have z := rnew_ok e
  unfold okS rob0
  simp only
  exact ⟨z.2.2, z.2.1.2.2, z.2.1.1⟩
theorem run_good {W H : Int} {L : List Int} {bT bL bS bR x y h : Int} {A : List ActL} (e : runE W H L bT bL bS bR x y h A = 0) : rnewE W H L bT bL bS bR x y h = 0 ∧ ∀ i, i < A.length → actOk (A.getD i eAct.dflt) = true := by
  unfold runE at e
  by_cases h0 : rnewE W H L bT bL bS bR x y h = 0
  · rw [if_neg (by rw [h0]; decide)] at e
    refine ⟨h0, fun i hi => ?_⟩
    cases hall : A.all actOk
    · rw [hall] at e; simp at e
    · rw [List.all_eq_true] at hall
      have hm : A.getD i eAct.dflt ∈ A := by rw [List.getD_eq_getElem?_getD, List.getElem?_eq_getElem hi, Option.getD_some]; exact List.getElem_mem hi
      exact hall _ hm
  · rw [if_pos h0] at e; exact absurd e h0
theorem run_err {W H : Int} {L : List Int} {bT bL bS bR x y h : Int} {A : List ActL} (e : ¬ runE W H L bT bL bS bR x y h A = 0) : runV W H L bT bL bS bR x y h A = [] ∧ runP W H L bT bL bS bR x y h A = [] := by
  unfold runV runP
  rw [if_neg e, if_neg e]
  exact ⟨rfl, rfl⟩
theorem runP_at {W H : Int} {L : List Int} {bT bL bS bR x y h : Int} {A : List ActL} (e : runE W H L bT bL bS bR x y h A = 0) : (runP W H L bT bL bS bR x y h A).length = A.length ∧ ∀ k, k < A.length → (runP W H L bT bL bS bR x y h A).getD k eQ.dflt = poseO (rbK (rob0 W H L bT bL bS bR x y h) A (k + 1)) := by
  unfold runP
  rw [if_pos e]
  refine ⟨poK_len _ _ _, fun k hk => ?_⟩
  unfold poK
  rw [List.getD_eq_getElem?_getD, List.getElem?_map, List.getElem?_range hk]; rfl
theorem runV_at {W H : Int} {L : List Int} {bT bL bS bR x y h : Int} {A : List ActL} (e : runE W H L bT bL bS bR x y h A = 0) : (runV W H L bT bL bS bR x y h A).length = A.length ∧ ∀ k, k < A.length → (runV W H L bT bL bS bR x y h A).getD k eEvt.dflt = doV (rbK (rob0 W H L bT bL bS bR x y h) A k) (A.getD k eAct.dflt) := by
  unfold runV
  rw [if_pos e]
  refine ⟨evK_len _ _ _, fun k hk => ?_⟩
  unfold evK
  rw [List.getD_eq_getElem?_getD, List.getElem?_map, List.getElem?_range hk]; rfl
theorem run_at {W H : Int} {L : List Int} {bT bL bS bR x y h : Int} {A : List ActL} (e : runE W H L bT bL bS bR x y h A = 0) (k : Nat) (hk : k ≤ A.length) : okS (rbK (rob0 W H L bT bL bS bR x y h) A k) :=
  okS_K (okS_new (run_good e).1) k fun i hi => (run_good e).2 i (by omega)
theorem scan_law {r : RobS} {a : ActL} (h : okS r) (ha : actOk a = true) : (doV r a).scan.length = a.marks.length ∧ (∀ k, k < a.marks.length → ((doV r a).scan.getD k eC.dflt).X = a.marks.getD k eI.dflt) ∧
    allB r.W r.H r.L (doR r a).x (doR r a).y (doR r a).h r.bR (doV r a).scan = true := by
  have hd := okS_do h ha
  have hk := doR_keep r a
  obtain ⟨hc, hl, hm⟩ := act_cmd ha
  rw [doV_t ha, doR_t ha] at *
  simp only at *
  unfold okS at hd
  simp only at hd
  obtain ⟨hf, hh, hb⟩ := hd
  have hbd := fit_bd hf
  have hgood : goodB r.W r.H r.L (stO r a).1 (stO r a).2.1 (stO r a).2.2.1 = true := by
    unfold goodB inB
    rw [hbd.1, decide_eq_true (p := 0 ≤ (stO r a).2.2.1 ∧ (stO r a).2.2.1 ≤ 255) hh, decide_eq_true (by omega)]; rfl
  have hE : swpE r.W r.H r.L (stO r a).1 (stO r a).2.1 (stO r a).2.2.1 r.bR a.marks = 0 := by
    unfold swpE
    rw [if_neg (by omega)]
    have : ∀ k, k ≤ a.marks.length → swE1 r.W r.H r.L (stO r a).1 (stO r a).2.1 (stO r a).2.2.1 r.bR a.marks k = 0 := by
      intro k
      induction k with
      | zero => intro _; rfl
      | succ k ih =>
        intro hk
        have e1 := ih (by omega)
        have hmk : a.marks.getD k eI.dflt ∈ a.marks := by rw [List.getD_eq_getElem?_getD, List.getElem?_eq_getElem (by omega), Option.getD_some]; exact List.getElem_mem _
        have := hm _ hmk
        unfold swE1
        rw [if_pos e1]
        unfold measE
        rw [if_neg (by rw [hgood]; decide), if_pos (by omega)]
    exact this _ (Nat.le_refl _)
  have e0 : swE1 r.W r.H r.L (stO r a).1 (stO r a).2.1 (stO r a).2.2.1 r.bR a.marks a.marks.length = 0 := by
    unfold swpE at hE; rwa [if_neg (by omega)] at hE
  refine ⟨?_, fun k hk => ?_, sweep_plaus hE⟩
  · rw [(swp_good a.errs (by omega) e0).2, swV_len]
  · rw [(swp_good a.errs (by omega) e0).2]
    unfold swV
    rw [List.getD_eq_getElem?_getD, List.getElem?_map, List.getElem?_range hk]; rfl
end Go.Proofs.YtkpdofgmmpbknaaGreat
