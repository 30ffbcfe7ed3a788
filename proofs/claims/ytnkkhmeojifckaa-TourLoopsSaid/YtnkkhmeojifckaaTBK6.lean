/- A part of the proof of a statement about this seat: how a function is stepped through, and plain laws. No conditions. -/
import Derived.Test.YtnkkhmeojifckaaRows
import Derived.Test.YtnkkhmeojifckaaTBSz4
import Derived.Test.YtnkkhmeojifckaaTBK5
import Derived.KernelRfl
set_option linter.unusedVariables false
set_option linter.unusedSimpArgs false
set_option maxRecDepth 20000
namespace Go.Proofs.Ytnkkhmeojifckaa
open Go.Sx
theorem remC_self (y u : CC) : remC [y, u] y = [u] := by simp [remC]
theorem remC_tl (y u : CC) : remC [u, y] y = [u] := by
  by_cases h : u.X = y.X ∧ u.Y = y.Y
  · have : u = y := cc_ext h.1 h.2
    subst this; simp [remC]
  · simp [remC, h]
def nb (R : CC → List CC) (x u v : CC) : Prop := R x = [u, v] ∨ R x = [v, u]
theorem nb_sym {R : CC → List CC} {x u v : CC} (h : nb R x u v) : nb R x v u := h.symm
def Seg (R : CC → List CC) : CC → List CC → CC → Prop
  | _, [], _ => True
  | p, x :: l, n => nb R x p (l.headD n) ∧ Seg R x l n
theorem seg_app {R : CC → List CC} : ∀ {A B : List CC} {p n : CC}, Seg R p (A ++ B) n ↔ Seg R p A (B.headD n) ∧ Seg R (A.getLastD p) B n
  | [], B, p, n => by simp [Seg]
  | x :: A, B, p, n => by
    simp only [List.cons_append, Seg, seg_app (A := A) (B := B)]
    have e1 : (A ++ B).headD n = A.headD (B.headD n) := by cases A <;> rfl
    have e2 : (x :: A).getLastD p = A.getLastD x := by cases A <;> rfl
    rw [e1, e2]
    exact ⟨fun ⟨h1, h2, h3⟩ => ⟨⟨h1, h2⟩, h3⟩, fun ⟨⟨h1, h2⟩, h3⟩ => ⟨h1, h2, h3⟩⟩
theorem headD_rev (l : List CC) (n : CC) : l.reverse.headD n = l.getLastD n := by
  rw [List.headD_eq_head?_getD, List.head?_reverse, List.getLastD_eq_getLast?]
theorem lastD_rev (l : List CC) (n : CC) : l.reverse.getLastD n = l.headD n := by
  have := headD_rev l.reverse n
  rw [List.reverse_reverse] at this
  exact this.symm
theorem seg_rev {R : CC → List CC} : ∀ {l : List CC} {p n : CC}, Seg R p l n → Seg R n l.reverse p
  | [], p, n, _ => trivial
  | x :: l, p, n, ⟨h1, h2⟩ => by
    rw [List.reverse_cons, seg_app]
    refine ⟨?_, ?_, trivial⟩
    · exact seg_rev h2
    · rw [lastD_rev]; exact nb_sym h1
theorem lastD_cons (x y : CC) (l : List CC) : (x :: l).getLastD y = l.getLastD x := by cases l <;> rfl
theorem lastD_app : ∀ (A : List CC) {B : List CC} {x p : CC}, (A ++ x :: B).getLastD p = B.getLastD x
  | [], B, x, p => lastD_cons x p B
  | a :: A, B, x, p => by
    rw [List.cons_append, lastD_cons]
    exact lastD_app A
def RingA (R : CC → List CC) (a : CC) (l : List CC) : Prop := Seg R (l.getLastD a) (a :: l) a ∧ (a :: l).Nodup
theorem ring_rot {R : CC → List CC} {a b : CC} {A B : List CC} (h : RingA R a (A ++ b :: B)) : RingA R b (B ++ a :: A) := by
  obtain ⟨h1, h2⟩ := h
  constructor
  · have e1 : a :: (A ++ b :: B) = (a :: A) ++ (b :: B) := rfl
    have e2 : b :: (B ++ a :: A) = (b :: B) ++ (a :: A) := rfl
    rw [e1, seg_app] at h1
    rw [e2, seg_app]
    have f1 : (A ++ b :: B).getLastD a = B.getLastD b := lastD_app A
    have f2 : (B ++ a :: A).getLastD b = A.getLastD a := lastD_app B
    have f3 : ∀ (x y : CC) (l : List CC), (x :: l).getLastD y = l.getLastD x := fun x y l => by cases l <;> rfl
    rw [f1] at h1
    rw [f3] at h1
    rw [f2, f3]
    exact ⟨h1.2, h1.1⟩
  · have : (a :: (A ++ b :: B)).Perm (b :: (B ++ a :: A)) := by
      have e1 : a :: (A ++ b :: B) = (a :: A) ++ (b :: B) := rfl
      have e2 : b :: (B ++ a :: A) = (b :: B) ++ (a :: A) := rfl
      rw [e1, e2]; exact List.perm_append_comm
    exact this.nodup_iff.1 h2
theorem ring_rev {R : CC → List CC} {a : CC} {l : List CC} (h : RingA R a l) : RingA R a l.reverse := by
  obtain ⟨⟨h1, h2⟩, h3⟩ := h
  refine ⟨⟨?_, seg_rev h2⟩, ?_⟩
  · rw [lastD_rev, headD_rev]; exact nb_sym h1
  · rw [List.nodup_cons] at h3 ⊢
    exact ⟨fun g => h3.1 (List.mem_reverse.1 g), (List.reverse_perm l).nodup_iff.2 h3.2⟩
theorem ring_at {R : CC → List CC} {a x : CC} {l : List CC} (h : RingA R a l) (hx : x ∈ a :: l) : ∃ m, RingA R x m ∧ (x :: m).Perm (a :: l) := by
  rcases List.mem_cons.1 hx with rfl | hx
  · exact ⟨l, h, List.Perm.refl _⟩
  · obtain ⟨A, B, rfl⟩ := List.append_of_mem hx
    refine ⟨_, ring_rot h, ?_⟩
    have e1 : a :: (A ++ x :: B) = (a :: A) ++ (x :: B) := rfl
    have e2 : x :: (B ++ a :: A) = (x :: B) ++ (a :: A) := rfl
    rw [e1, e2]; exact List.perm_append_comm
theorem ring_nb {R : CC → List CC} {a : CC} {l : List CC} (h : RingA R a l) : nb R a (l.getLastD a) (l.headD a) := h.1.1
theorem last_cases (l : List CC) : l = [] ∨ ∃ m y, l = m ++ [y] := by
  rcases List.eq_nil_or_concat l with h | ⟨m, y, h⟩
  · exact .inl h
  · exact .inr ⟨m, y, by rw [h, List.concat_eq_append]⟩
theorem ring_end {R : CC → List CC} {a x y : CC} {l : List CC} (h : RingA R a l) (hx : x ∈ a :: l) (hy : y ∈ R x) (hne : y ≠ x) : ∃ m, RingA R x (m ++ [y]) ∧ (x :: (m ++ [y])).Perm (a :: l) := by
  obtain ⟨m, h1, h2⟩ := ring_at h hx
  have hn := ring_nb h1
  have hy' : y = m.getLastD x ∨ y = m.headD x := by
    rcases hn with e | e <;> rw [e] at hy <;> simp only [List.mem_cons, List.not_mem_nil, or_false] at hy
    · exact hy
    · exact hy.symm
  have key : ∀ m, RingA R x m → (x :: m).Perm (a :: l) → y = m.getLastD x → ∃ m, RingA R x (m ++ [y]) ∧ (x :: (m ++ [y])).Perm (a :: l) := by
    intro m h1 h2 e
    rcases last_cases m with rfl | ⟨m', z, rfl⟩
    · exact absurd e hne
    · have : y = z := by rw [e]; simp
      subst this
      exact ⟨m', h1, h2⟩
  rcases hy' with e | e
  · exact key m h1 h2 e
  · refine key m.reverse (ring_rev h1) ((List.Perm.cons x (List.reverse_perm m)).trans h2) ?_
    rw [lastD_rev]; exact e
theorem seg_congr {R R' : CC → List CC} : ∀ {l : List CC} {p n : CC}, (∀ x ∈ l, R' x = R x) → Seg R p l n → Seg R' p l n
  | [], _, _, _, _ => trivial
  | x :: l, p, n, h, ⟨h1, h2⟩ => ⟨by unfold nb; rw [h x List.mem_cons_self]; exact h1, seg_congr (fun y hy => h y (List.mem_cons_of_mem _ hy)) h2⟩
theorem ring_merge {R R' : CC → List CC} {a0 a1 b0 b1 : CC} {M N : List CC} (h : RingA R a0 (M ++ [a1])) (g : RingA R b1 (N ++ [b0])) (hd : ∀ x ∈ a0 :: (M ++ [a1]), x ∉ b1 :: (N ++ [b0]))
    (e1 : R' a0 = remC (R a0) a1 ++ [b0]) (e2 : R' a1 = remC (R a1) a0 ++ [b1]) (e3 : R' b0 = remC (R b0) b1 ++ [a0]) (e4 : R' b1 = remC (R b1) b0 ++ [a1])
    (e5 : ∀ c, c ≠ a0 → c ≠ a1 → c ≠ b0 → c ≠ b1 → R' c = R c) : RingA R' a0 ((M ++ [a1]) ++ (b1 :: (N ++ [b0]))) := by
  obtain ⟨h1, h2⟩ := h
  obtain ⟨g1, g2⟩ := g
  have rem_nb : ∀ {x u v w : CC}, nb R x u v → remC (R x) u ++ [w] = [v, w] := by
    intro x u v w hn
    rcases hn with e | e <;> rw [e]
    · rw [remC_self]; rfl
    · rw [remC_tl]; rfl
  have f3 : ∀ (x y : CC) (l : List CC), (x :: l).getLastD y = l.getLastD x := fun x y l => by cases l <;> rfl
  have f4 : ∀ (l : List CC) (x y : CC), (l ++ [x]).getLastD y = x := fun l x y => by simp
  rw [f4] at h1 g1
  obtain ⟨p1, p2⟩ := h1
  obtain ⟨q1, q2⟩ := g1
  rw [seg_app] at p2 q2
  obtain ⟨p2, p3, _⟩ := p2
  obtain ⟨q2, q3, _⟩ := q2
  simp only [List.headD_nil, List.headD_cons] at p2 p3 q2 q3
  rw [List.nodup_cons, List.nodup_append] at h2 g2
  obtain ⟨h2, h3, _, h4⟩ := h2
  obtain ⟨g2, g3, _, g4⟩ := g2
  have mM : ∀ x ∈ M, R' x = R x := fun x hx => by
    refine e5 x ?_ ?_ ?_ ?_
    · rintro rfl; exact h2 (List.mem_append_left _ hx)
    · rintro rfl; exact h4 x hx x (by simp) rfl
    · rintro rfl; exact hd x (by simp [hx]) (by simp)
    · rintro rfl; exact hd x (by simp [hx]) (by simp)
  have mN : ∀ x ∈ N, R' x = R x := fun x hx => by
    refine e5 x ?_ ?_ ?_ ?_
    · rintro rfl; exact hd x (by simp) (by simp [hx])
    · rintro rfl; exact hd x (by simp) (by simp [hx])
    · rintro rfl; exact g4 x hx x (by simp) rfl
    · rintro rfl; exact g2 (List.mem_append_left _ hx)
  constructor
  · have l1 : ((M ++ [a1]) ++ (b1 :: (N ++ [b0]))).getLastD a0 = b0 := by
      have : (M ++ [a1]) ++ (b1 :: (N ++ [b0])) = ((M ++ [a1]) ++ (b1 :: N)) ++ [b0] := by simp
      rw [this, f4]
    rw [l1]
    have hh : ((M ++ [a1]) ++ (b1 :: (N ++ [b0]))).headD a0 = (M ++ [a1]).headD a0 := by cases M <;> rfl
    refine ⟨?_, ?_⟩
    · rw [hh]
      have := rem_nb (w := b0) p1
      exact .inr (e1.trans this)
    · rw [List.append_assoc, seg_app]
      refine ⟨seg_congr mM p2, ?_⟩
      simp only [List.singleton_append, Seg]
      refine ⟨.inl (by rw [e2]; exact rem_nb (nb_sym p3)), ?_, ?_⟩
      · have hh2 : (N ++ [b0]).headD a0 = (N ++ [b0]).headD b1 := by cases N <;> rfl
        rw [hh2]
        exact .inr (e4.trans (rem_nb q1))
      · rw [seg_app]
        exact ⟨seg_congr mN q2, .inl (by rw [e3]; exact rem_nb (nb_sym q3)), trivial⟩
  · have e : a0 :: ((M ++ [a1]) ++ (b1 :: (N ++ [b0]))) = (a0 :: (M ++ [a1])) ++ (b1 :: (N ++ [b0])) := rfl
    rw [e, List.nodup_append]
    refine ⟨?_, ?_, fun x hx y hy e => hd x hx (e ▸ hy)⟩
    · rw [List.nodup_cons, List.nodup_append]; exact ⟨h2, h3, by simp, h4⟩
    · rw [List.nodup_cons, List.nodup_append]; exact ⟨g2, g3, by simp, g4⟩
theorem ccne {a b : CC} (h : a.X ≠ b.X ∨ a.Y ≠ b.Y) : a ≠ b := by
  rintro rfl
  rcases h with h | h <;> exact h rfl
theorem cceq {a b : CC} : a = b ↔ a.X = b.X ∧ a.Y = b.Y := ⟨fun h => by rw [h]; exact ⟨rfl, rfl⟩, fun h => cc_ext h.1 h.2⟩
def zV : Nat → Value := fun _ => .bool false
def sq (q : List QE) : List QE := q.map fun e => ⟨e.x, e.y, .bool false, e.l⟩
theorem sq_get {x y : Int} : ∀ q : List QE, qGet (sq q) x y = qGet q x y
  | [] => rfl
  | e :: q => by
    have := sq_get (x := x) (y := y) q
    unfold sq at this
    simp only [sq, List.map_cons, qGet, this]
theorem sq_has {x y : Int} : ∀ q : List QE, qHas (sq q) x y = qHas q x y
  | [] => rfl
  | e :: q => by
    have := sq_has (x := x) (y := y) q
    unfold sq at this
    simp only [sq, List.map_cons, qHas, this]
theorem sq_len (q : List QE) : (sq q).length = q.length := by simp [sq]
theorem sq_set {x y : Int} {V : Value} {l : List CC} : ∀ q : List QE, sq (qSet q x y V l) = qSet (sq q) x y (.bool false) l
  | [] => rfl
  | e :: q => by
    have := sq_set (x := x) (y := y) (V := V) (l := l) q
    unfold sq at this
    by_cases g : e.x = x ∧ e.y = y
    · simp [sq, qSet, g]
    · simp [sq, qSet, g, this]
theorem sq_join {q : List QE} {a b : CC} {V V' : Value} : sq (qJoin q a b V V') = qJoin (sq q) a b (.bool false) (.bool false) := by
  unfold qJoin; rw [sq_set, sq_set, sq_get, sq_get]
theorem sq_cut {q : List QE} {a b : CC} {V V' : Value} : sq (qCut q a b V V') = qCut (sq q) a b (.bool false) (.bool false) := by
  unfold qCut; rw [sq_set, sq_set, sq_get, sq_get]
theorem sq_blk {q : List QE} {c : CC} {V : Nat → Value} : sq (qBlk q c V) = qBlk (sq q) c zV := by
  unfold qBlk; simp only [sq_join]; rfl
theorem sq_mrg {q : List QE} {c d : CC} {V : Nat → Value} : sq (qMrg q c d V) = qMrg (sq q) c d zV := by
  unfold qMrg; simp only [sq_join, sq_cut]; rfl
def qR (A : List QE) (c : CC) : List CC := qGet A c.X c.Y
def qH (A : List QE) (c : CC) : Prop := qHas A c.X c.Y = true
def edge (A : List QE) (u v : CC) : Prop := v ∈ qR A u ∧ u ∈ qR A v
section
variable {A q : List QE} {a b u v : CC} {V V' : Value}
theorem nk {a b : CC} (h : a ≠ b) : ¬ (a.X = b.X ∧ a.Y = b.Y) := fun g => h (cc_ext g.1 g.2)
theorem jR1 (h : a ≠ b) : qR (qJoin q a b V V') a = qR q a ++ [b] := qJoin_get1 (nk h)
theorem jR2 : qR (qJoin q a b V V') b = qR q b ++ [a] := qJoin_get2
theorem jR (h1 : u ≠ a) (h2 : u ≠ b) : qR (qJoin q a b V V') u = qR q u := qJoin_get (nk (Ne.symm h1)) (nk (Ne.symm h2))
theorem cR1 (h : a ≠ b) : qR (qCut q a b V V') a = remC (qR q a) b := qCut_get1 (nk h)
theorem cR2 : qR (qCut q a b V V') b = remC (qR q b) a := qCut_get2
theorem cR (h1 : u ≠ a) (h2 : u ≠ b) : qR (qCut q a b V V') u = qR q u := qCut_get (nk (Ne.symm h1)) (nk (Ne.symm h2))
theorem setH {x y : Int} {l : List CC} : qH (qSet q x y V l) u ↔ qH q u ∨ (x = u.X ∧ y = u.Y) := by
  unfold qH
  by_cases g : x = u.X ∧ y = u.Y
  · obtain ⟨rfl, rfl⟩ := g
    simp [qHas_set_eq]
  · rw [qHas_set_ne g]; simp [g]
theorem jH : qH (qJoin q a b V V') u ↔ qH q u ∨ u = a ∨ u = b := by
  unfold qJoin
  rw [setH, setH, cceq, cceq]
  constructor
  · rintro ((h | h) | h)
    · exact .inl h
    · exact .inr (.inl ⟨h.1.symm, h.2.symm⟩)
    · exact .inr (.inr ⟨h.1.symm, h.2.symm⟩)
  · rintro (h | h | h)
    · exact .inl (.inl h)
    · exact .inl (.inr ⟨h.1.symm, h.2.symm⟩)
    · exact .inr ⟨h.1.symm, h.2.symm⟩
theorem cH (ha : qH q a) (hb : qH q b) : qH (qCut q a b V V') u ↔ qH q u := by
  unfold qCut
  rw [setH, setH]
  constructor
  · rintro ((h | h) | h)
    · exact h
    · rwa [show u = a from cc_ext h.1.symm h.2.symm]
    · rwa [show u = b from cc_ext h.1.symm h.2.symm]
  · exact fun h => .inl (.inl h)
theorem set_len1 {x y : Int} {l : List CC} : ∀ {q : List QE}, qHas q x y = true → (qSet q x y V l).length = q.length
  | [], h => by cases h
  | e :: q, h => by
    simp only [qHas, qSet] at h ⊢
    by_cases g : e.x = x ∧ e.y = y
    · rw [if_pos g]; rfl
    · rw [if_neg g] at h ⊢
      simp only [List.length_cons, set_len1 h]
theorem set_len0 {x y : Int} {l : List CC} : ∀ {q : List QE}, qHas q x y = false → (qSet q x y V l).length = q.length + 1
  | [], h => rfl
  | e :: q, h => by
    simp only [qHas, qSet] at h ⊢
    by_cases g : e.x = x ∧ e.y = y
    · rw [if_pos g] at h; cases h
    · rw [if_neg g] at h ⊢
      simp only [List.length_cons, set_len0 h]
theorem qHf (h : ¬ qH q u) : qHas q u.X u.Y = false := by
  unfold qH at h
  rwa [Bool.not_eq_true] at h
theorem jLen00 (ha : ¬ qH q a) (hb : ¬ qH q b) (hab : a ≠ b) : (qJoin q a b V V').length = q.length + 2 := by
  unfold qJoin
  rw [set_len0 (qHf (u := b) (by rw [setH]; rintro (h | h); exact hb h; exact hab (cc_ext h.1 h.2))), set_len0 (qHf ha)]
theorem jLen10 (ha : qH q a) (hb : ¬ qH q b) (hab : a ≠ b) : (qJoin q a b V V').length = q.length + 1 := by
  unfold qJoin
  rw [set_len0 (qHf (u := b) (by rw [setH]; rintro (h | h); exact hb h; exact hab (cc_ext h.1 h.2))), set_len1 ha]
theorem jLen11 (ha : qH q a) (hb : qH q b) : (qJoin q a b V V').length = q.length := by
  unfold qJoin
  rw [set_len1 (setH.2 (.inl hb)), set_len1 ha]
theorem cLen (ha : qH q a) (hb : qH q b) : (qCut q a b V V').length = q.length := by
  unfold qCut
  rw [set_len1 (setH.2 (.inl hb)), set_len1 ha]
theorem qR_nil (h : ¬ qH q u) : qR q u = [] := qGet_not (qHf h)
theorem edge_has (h : edge q u v) : qH q u ∧ qH q v := by
  refine ⟨Classical.byContradiction fun g => ?_, Classical.byContradiction fun g => ?_⟩
  · have := h.1; rw [qR_nil g] at this; cases this
  · have := h.2; rw [qR_nil g] at this; cases this
end
section
variable {A : List QE} {d : CC} {V : Nat → Value}
theorem dA : d ≠ blkA d := ccne (.inl (by simp only [blkA]; omega))
theorem dD : d ≠ blkD d := ccne (.inl (by simp only [blkD]; omega))
theorem dE : d ≠ blkE d := ccne (.inr (by simp only [blkE]; omega))
theorem AD : blkA d ≠ blkD d := ccne (.inr (by simp only [blkA, blkD]; omega))
theorem AE : blkA d ≠ blkE d := ccne (.inl (by simp only [blkA, blkE]; omega))
theorem DE : blkD d ≠ blkE d := ccne (.inl (by simp only [blkD, blkE]; omega))
theorem bR0 : qR (qBlk A d V) d = qR A d ++ [blkA d] ++ [blkE d] := by
  unfold qBlk; rw [jR2, jR dD dE, jR dA dD, jR1 dA]
theorem bRA : qR (qBlk A d V) (blkA d) = qR A (blkA d) ++ [d] ++ [blkD d] := by
  unfold qBlk; rw [jR AE dA.symm, jR AD AE, jR1 AD, jR2]
theorem bRD : qR (qBlk A d V) (blkD d) = qR A (blkD d) ++ [blkA d] ++ [blkE d] := by
  unfold qBlk; rw [jR DE dD.symm, jR1 DE, jR2, jR dD.symm AD.symm]
theorem bRE : qR (qBlk A d V) (blkE d) = qR A (blkE d) ++ [blkD d] ++ [d] := by
  unfold qBlk; rw [jR1 dE.symm, jR2, jR AE.symm DE.symm, jR dE.symm AE.symm]
theorem bR {u : CC} (h0 : u ≠ d) (h1 : u ≠ blkA d) (h2 : u ≠ blkD d) (h3 : u ≠ blkE d) : qR (qBlk A d V) u = qR A u := by
  unfold qBlk; rw [jR h3 h0, jR h2 h3, jR h1 h2, jR h0 h1]
theorem bH {u : CC} : qH (qBlk A d V) u ↔ qH A u ∨ u = d ∨ u = blkA d ∨ u = blkD d ∨ u = blkE d := by
  unfold qBlk
  rw [jH, jH, jH, jH]
  constructor
  · rintro ((((h | h | h) | h | h) | h | h) | h | h) <;> simp [h]
  · rintro (h | h | h | h | h) <;> simp [h]
theorem bLen (h0 : ¬ qH A d) (h1 : ¬ qH A (blkA d)) (h2 : ¬ qH A (blkD d)) (h3 : ¬ qH A (blkE d)) : (qBlk A d V).length = A.length + 4 := by
  unfold qBlk
  rw [jLen11 (jH.2 (.inr (.inr rfl))) (jH.2 (.inl (jH.2 (.inl (jH.2 (.inr (.inl rfl)))))))]
  rw [jLen10 (jH.2 (.inr (.inr rfl))) _ DE]
  · rw [jLen10 (jH.2 (.inr (.inr rfl))) _ AD]
    · rw [jLen00 h0 h1 dA]
    · rw [jH]; rintro (h | h | h)
      · exact h2 h
      · exact dD h.symm
      · exact AD h.symm
  · rw [jH, jH]; rintro ((h | h | h) | h | h)
    · exact h3 h
    · exact dE h.symm
    · exact AE h.symm
    · exact AE h.symm
    · exact DE h.symm
end
def qMg (q : List QE) (a0 a1 b0 b1 : CC) (V : Nat → Value) : List QE :=
  qJoin (qJoin (qCut (qCut q a0 a1 (V 0) (V 1)) b0 b1 (V 2) (V 3)) a0 b0 (V 4) (V 5)) a1 b1 (V 6) (V 7)
theorem qMrg_mg (q : List QE) (c d : CC) (V : Nat → Value) : qMrg q c d V = qMg q (mA0 c d) (mA1 c d) d (mB1 c d) V := rfl
section
variable {q : List QE} {a0 a1 b0 b1 : CC} {V : Nat → Value}
theorem gR0 (h1 : a0 ≠ a1) (h2 : a0 ≠ b0) (h3 : a0 ≠ b1) : qR (qMg q a0 a1 b0 b1 V) a0 = remC (qR q a0) a1 ++ [b0] := by
  unfold qMg; rw [jR h1 h3, jR1 h2, cR h2 h3, cR1 h1]
theorem gR1 (h1 : a0 ≠ a1) (h2 : a1 ≠ b0) (h3 : a1 ≠ b1) : qR (qMg q a0 a1 b0 b1 V) a1 = remC (qR q a1) a0 ++ [b1] := by
  unfold qMg; rw [jR1 h3, jR h1.symm h2, cR h2 h3, cR2]
theorem gR2 (h1 : b0 ≠ b1) (h2 : a0 ≠ b0) (h3 : a1 ≠ b0) : qR (qMg q a0 a1 b0 b1 V) b0 = remC (qR q b0) b1 ++ [a0] := by
  unfold qMg; rw [jR h3.symm h1, jR2, cR1 h1, cR h2.symm h3.symm]
theorem gR3 (h1 : b0 ≠ b1) (h2 : a0 ≠ b1) (h3 : a1 ≠ b1) : qR (qMg q a0 a1 b0 b1 V) b1 = remC (qR q b1) b0 ++ [a1] := by
  unfold qMg; rw [jR2, jR h2.symm h1.symm, cR2, cR h2.symm h3.symm]
theorem gR {u : CC} (h0 : u ≠ a0) (h1 : u ≠ a1) (h2 : u ≠ b0) (h3 : u ≠ b1) : qR (qMg q a0 a1 b0 b1 V) u = qR q u := by
  unfold qMg; rw [jR h1 h3, jR h0 h2, cR h2 h3, cR h0 h1]
theorem gH (p0 : qH q a0) (p1 : qH q a1) (p2 : qH q b0) (p3 : qH q b1) {u : CC} : qH (qMg q a0 a1 b0 b1 V) u ↔ qH q u := by
  have f2 : qH (qCut q a0 a1 (V 0) (V 1)) b0 := (cH p0 p1).2 p2
  have f3 : qH (qCut q a0 a1 (V 0) (V 1)) b1 := (cH p0 p1).2 p3
  unfold qMg
  rw [jH, jH, cH f2 f3, cH p0 p1]
  constructor
  · rintro ((h | rfl | rfl) | rfl | rfl) <;> assumption
  · exact fun h => .inl (.inl h)
theorem gLen (p0 : qH q a0) (p1 : qH q a1) (p2 : qH q b0) (p3 : qH q b1) : (qMg q a0 a1 b0 b1 V).length = q.length := by
  have f2 : qH (qCut q a0 a1 (V 0) (V 1)) b0 := (cH p0 p1).2 p2
  have f3 : qH (qCut q a0 a1 (V 0) (V 1)) b1 := (cH p0 p1).2 p3
  unfold qMg
  rw [jLen11 (jH.2 (.inl ((cH f2 f3).2 ((cH p0 p1).2 p1)))) (jH.2 (.inl ((cH f2 f3).2 f3))), jLen11 ((cH f2 f3).2 ((cH p0 p1).2 p0)) ((cH f2 f3).2 f2), cLen f2 f3, cLen p0 p1]
theorem remC_mem {l : List CC} {y v : CC} (h : v ∈ l) (hne : v ≠ y) : v ∈ remC l y := by
  induction l with
  | nil => cases h
  | cons x l ih =>
    unfold remC
    rcases List.mem_cons.1 h with rfl | h
    · rw [if_neg (nk hne)]; exact List.mem_cons_self
    · split
      · exact h
      · exact List.mem_cons_of_mem _ (ih h)
theorem remC_sub {l : List CC} {y v : CC} (h : v ∈ remC l y) : v ∈ l := by
  induction l with
  | nil => cases h
  | cons x l ih =>
    unfold remC at h
    split at h
    · exact List.mem_cons_of_mem _ h
    · rcases List.mem_cons.1 h with rfl | h
      · exact List.mem_cons_self
      · exact List.mem_cons_of_mem _ (ih h)
theorem g_keep {u v : CC} (h01 : a0 ≠ a1) (h02 : a0 ≠ b0) (h03 : a0 ≠ b1) (h12 : a1 ≠ b0) (h13 : a1 ≠ b1) (h23 : b0 ≠ b1) (h : v ∈ qR q u) (n1 : ¬ (u = a0 ∧ v = a1)) (n2 : ¬ (u = a1 ∧ v = a0)) (n3 : ¬ (u = b0 ∧ v = b1)) (n4 : ¬ (u = b1 ∧ v = b0)) : v ∈ qR (qMg q a0 a1 b0 b1 V) u := by
  by_cases g0 : u = a0
  · subst g0; rw [gR0 h01 h02 h03]; exact List.mem_append_left _ (remC_mem h fun e => n1 ⟨rfl, e⟩)
  by_cases g1 : u = a1
  · subst g1; rw [gR1 h01 h12 h13]; exact List.mem_append_left _ (remC_mem h fun e => n2 ⟨rfl, e⟩)
  by_cases g2 : u = b0
  · subst g2; rw [gR2 h23 h02 h12]; exact List.mem_append_left _ (remC_mem h fun e => n3 ⟨rfl, e⟩)
  by_cases g3 : u = b1
  · subst g3; rw [gR3 h23 h03 h13]; exact List.mem_append_left _ (remC_mem h fun e => n4 ⟨rfl, e⟩)
  rw [gR g0 g1 g2 g3]; exact h
end
theorem adj_mk {a b : CC} (h : a.X - b.X = 0 ∧ (a.Y - b.Y = 1 ∨ a.Y - b.Y = -1) ∨ a.Y - b.Y = 0 ∧ (a.X - b.X = 1 ∨ a.X - b.X = -1)) : adjB a b = true := decide_eq_true (by omega)
def sideOk (A : List QE) (x y : Int) : Prop :=
  (¬ qH A ⟨x + 2, y⟩ → edge A ⟨x + 1, y⟩ ⟨x + 1, y + 1⟩) ∧ (¬ qH A ⟨x, y + 2⟩ → edge A ⟨x, y + 1⟩ ⟨x + 1, y + 1⟩) ∧
  (¬ qH A ⟨x - 2, y⟩ → edge A ⟨x, y⟩ ⟨x, y + 1⟩) ∧ (¬ qH A ⟨x, y - 2⟩ → edge A ⟨x, y⟩ ⟨x + 1, y⟩)
def clS (W H : Int) (L : List Int) (S : CC → Prop) : Prop := ∀ c, S c → ∀ d ∈ nbr c, frB W H L d.X d.Y = true → S d
structure LJ (W H : Int) (L : List Int) (c0 : CC) (A : List QE) : Prop where
  fr : ∀ u, qH A u → frB W H L u.X u.Y = true
  blk : ∀ u : CC, qH A u ↔ qH A ⟨u.X - u.X % 2, u.Y - u.Y % 2⟩
  adj : ∀ u v, v ∈ qR A u → adjB u v = true
  side : ∀ x y, qH A ⟨x, y⟩ → x % 2 = 0 → y % 2 = 0 → sideOk A x y
  mn : ∀ S : CC → Prop, S c0 → clS W H L S → ∀ u, qH A u → S u
theorem LJ_nil (W H : Int) (L : List Int) (c0 : CC) : LJ W H L c0 [] where
  fr := fun u h => by cases h
  blk := fun u => ⟨nofun, nofun⟩
  adj := fun u v h => by cases h
  side := fun x y h => by cases h
  mn := fun S _ _ u h => by cases h
theorem blk_all {W H : Int} {L : List Int} (h : blkB W H L = true) (x y : Int) : frB W H L x y = frB W H L (x - x % 2) (y - y % 2) := by
  unfold blkB at h
  rw [decide_eq_true_eq] at h
  obtain ⟨⟨hw, hh⟩, hall⟩ := h
  by_cases hin : (0 ≤ x ∧ x < W) ∧ 0 ≤ y ∧ y < H
  · have := hall y.toNat (by omega) x.toNat (by omega)
    rwa [Int.toNat_of_nonneg hin.1.1, Int.toNat_of_nonneg hin.2.1] at this
  · rw [frB_out hin, frB_out (by omega)]
theorem in_blk {d u : CC} (hd : d.X % 2 = 0 ∧ d.Y % 2 = 0) : (u = d ∨ u = blkA d ∨ u = blkD d ∨ u = blkE d) ↔ (u.X - u.X % 2 = d.X ∧ u.Y - u.Y % 2 = d.Y) := by
  rw [cceq, cceq, cceq, cceq]
  simp only [blkA, blkD, blkE]
  omega
section
variable {W H : Int} {L : List Int} {c0 d : CC} {A : List QE}
theorem edge_blk {u v : CC} (hn : ∀ u, (u = d ∨ u = blkA d ∨ u = blkD d ∨ u = blkE d) → ¬ qH A u) (h : edge A u v) : edge (qBlk A d zV) u v := by
  obtain ⟨h1, h2⟩ := edge_has h
  have key : ∀ u, qH A u → qR (qBlk A d zV) u = qR A u := fun u hu => bR (fun e => hn u (.inl e) hu) (fun e => hn u (.inr (.inl e)) hu) (fun e => hn u (.inr (.inr (.inl e))) hu) (fun e => hn u (.inr (.inr (.inr e))) hu)
  exact ⟨by rw [key u h1]; exact h.1, by rw [key v h2]; exact h.2⟩
theorem e_AD : edge (qBlk A d zV) (blkA d) (blkD d) := ⟨by rw [bRA]; simp, by rw [bRD]; simp⟩
theorem e_ED : edge (qBlk A d zV) (blkE d) (blkD d) := ⟨by rw [bRE]; simp, by rw [bRD]; simp⟩
theorem e_dE : edge (qBlk A d zV) d (blkE d) := ⟨by rw [bR0]; simp, by rw [bRE]; simp⟩
theorem e_dA : edge (qBlk A d zV) d (blkA d) := ⟨by rw [bR0]; simp, by rw [bRA]; simp⟩
theorem blk_out (h : LJ W H L c0 A) (hd : d.X % 2 = 0 ∧ d.Y % 2 = 0) (hn : ¬ qH A d) : ∀ u, (u = d ∨ u = blkA d ∨ u = blkD d ∨ u = blkE d) → ¬ qH A u := by
  intro u hu hq
  rw [in_blk hd] at hu
  rw [h.blk u, hu.1, hu.2] at hq
  exact hn hq
theorem LJ_blk (hb : ∀ x y, frB W H L x y = frB W H L (x - x % 2) (y - y % 2)) (h : LJ W H L c0 A) (hd : d.X % 2 = 0 ∧ d.Y % 2 = 0) (hf : frB W H L d.X d.Y = true) (hn : ¬ qH A d)
    (hr : ∀ S : CC → Prop, S c0 → clS W H L S → (∀ u, qH A u → S u) → ∃ u, (u = d ∨ u = blkA d ∨ u = blkD d ∨ u = blkE d) ∧ S u) : LJ W H L c0 (qBlk A d zV) := by
  have ho := blk_out h hd hn
  have hfb : ∀ u, (u = d ∨ u = blkA d ∨ u = blkD d ∨ u = blkE d) → frB W H L u.X u.Y = true := by
    intro u hu
    rw [in_blk hd] at hu
    rw [hb u.X u.Y, hu.1, hu.2]; exact hf
  refine ⟨?_, ?_, ?_, ?_, ?_⟩
  · intro u hu
    rcases bH.1 hu with g | g
    · exact h.fr u g
    · exact hfb u g
  · intro u
    rw [bH, bH, in_blk hd, in_blk hd, h.blk u]
    have e1 : (u.X - u.X % 2) - (u.X - u.X % 2) % 2 = u.X - u.X % 2 := by omega
    have e2 : (u.Y - u.Y % 2) - (u.Y - u.Y % 2) % 2 = u.Y - u.Y % 2 := by omega
    simp only [e1, e2]
  · intro u v hv
    by_cases g0 : u = d
    · subst g0
      rw [bR0, qR_nil (ho _ (.inl rfl))] at hv
      simp only [List.nil_append, List.singleton_append, List.mem_cons, List.not_mem_nil, or_false] at hv
      rcases hv with rfl | rfl <;> exact adj_mk (by simp only [blkA, blkE]; omega)
    by_cases g1 : u = blkA d
    · subst g1
      rw [bRA, qR_nil (ho _ (.inr (.inl rfl)))] at hv
      simp only [List.nil_append, List.singleton_append, List.mem_cons, List.not_mem_nil, or_false] at hv
      rcases hv with rfl | rfl <;> exact adj_mk (by simp only [blkA, blkD]; omega)
    by_cases g2 : u = blkD d
    · subst g2
      rw [bRD, qR_nil (ho _ (.inr (.inr (.inl rfl))))] at hv
      simp only [List.nil_append, List.singleton_append, List.mem_cons, List.not_mem_nil, or_false] at hv
      rcases hv with rfl | rfl <;> exact adj_mk (by simp only [blkA, blkD, blkE]; omega)
    by_cases g3 : u = blkE d
    · subst g3
      rw [bRE, qR_nil (ho _ (.inr (.inr (.inr rfl))))] at hv
      simp only [List.nil_append, List.singleton_append, List.mem_cons, List.not_mem_nil, or_false] at hv
      rcases hv with rfl | rfl <;> exact adj_mk (by simp only [blkD, blkE]; omega)
    rw [bR g0 g1 g2 g3] at hv
    exact h.adj u v hv
  · intro x y hu hx hy
    have mono : ∀ u, ¬ qH (qBlk A d zV) u → ¬ qH A u := fun u hu g => hu (bH.2 (.inl g))
    rcases bH.1 hu with g | g
    · obtain ⟨s1, s2, s3, s4⟩ := h.side x y g hx hy
      exact ⟨fun q => edge_blk ho (s1 (mono _ q)), fun q => edge_blk ho (s2 (mono _ q)), fun q => edge_blk ho (s3 (mono _ q)), fun q => edge_blk ho (s4 (mono _ q))⟩
    · rw [in_blk hd] at g
      simp only at g
      obtain rfl : d = ⟨x, y⟩ := cc_ext (by simp only; omega) (by simp only; omega)
      exact ⟨fun _ => e_AD, fun _ => e_ED, fun _ => e_dE, fun _ => e_dA⟩
  · intro S h0 hc u hu
    rcases bH.1 hu with g | g
    · exact h.mn S h0 hc u g
    · obtain ⟨w, hw, hS⟩ := hr S h0 hc (h.mn S h0 hc)
      have t1 : S d → S (blkA d) := fun s => hc d s _ (nbr_adj.2 (adj_mk (by simp only [blkA]; omega))) (hfb _ (.inr (.inl rfl)))
      have t2 : S (blkA d) → S (blkD d) := fun s => hc _ s _ (nbr_adj.2 (adj_mk (by simp only [blkA, blkD]; omega))) (hfb _ (.inr (.inr (.inl rfl))))
      have t3 : S (blkD d) → S (blkE d) := fun s => hc _ s _ (nbr_adj.2 (adj_mk (by simp only [blkD, blkE]; omega))) (hfb _ (.inr (.inr (.inr rfl))))
      have t4 : S (blkE d) → S d := fun s => hc _ s _ (nbr_adj.2 (adj_mk (by simp only [blkE]; omega))) (hfb _ (.inl rfl))
      have sd : S d := by
        rcases hw with rfl | rfl | rfl | rfl
        · exact hS
        · exact t4 (t3 (t2 hS))
        · exact t4 (t3 hS)
        · exact t4 hS
      rcases g with rfl | rfl | rfl | rfl
      · exact sd
      · exact t1 sd
      · exact t2 (t1 sd)
      · exact t3 (t2 (t1 sd))
end
def geo (p a0 a1 b0 b1 : CC) : Prop :=
  (a0 = ⟨p.X + 1, p.Y⟩ ∧ a1 = ⟨p.X + 1, p.Y + 1⟩ ∧ b0 = ⟨p.X + 2, p.Y⟩ ∧ b1 = ⟨p.X + 2, p.Y + 1⟩) ∨
  (a0 = ⟨p.X, p.Y + 1⟩ ∧ a1 = ⟨p.X + 1, p.Y + 1⟩ ∧ b0 = ⟨p.X, p.Y + 2⟩ ∧ b1 = ⟨p.X + 1, p.Y + 2⟩)
section
variable {W H : Int} {L : List Int} {c0 p a0 a1 b0 b1 : CC} {A : List QE}
theorem geo_ne (h : geo p a0 a1 b0 b1) : a0 ≠ a1 ∧ a0 ≠ b0 ∧ a0 ≠ b1 ∧ a1 ≠ b0 ∧ a1 ≠ b1 ∧ b0 ≠ b1 := by
  rcases h with ⟨rfl, rfl, rfl, rfl⟩ | ⟨rfl, rfl, rfl, rfl⟩
  · exact ⟨ccne (by simp only; omega), ccne (by simp only; omega), ccne (by simp only; omega), ccne (by simp only; omega), ccne (by simp only; omega), ccne (by simp only; omega)⟩
  · exact ⟨ccne (by simp only; omega), ccne (by simp only; omega), ccne (by simp only; omega), ccne (by simp only; omega), ccne (by simp only; omega), ccne (by simp only; omega)⟩
theorem LJ_mg (h : LJ W H L c0 A) (hp : p.X % 2 = 0 ∧ p.Y % 2 = 0) (hg : geo p a0 a1 b0 b1) (ea : edge A a0 a1) (eb : edge A b0 b1) : LJ W H L c0 (qMg A a0 a1 b0 b1 zV) := by
  obtain ⟨n01, n02, n03, n12, n13, n23⟩ := geo_ne hg
  obtain ⟨p0, p1⟩ := edge_has ea
  obtain ⟨p2, p3⟩ := edge_has eb
  have hP : qH A p := by
    have := (h.blk a0).1 p0
    rcases hg with ⟨rfl, rfl, rfl, rfl⟩ | ⟨rfl, rfl, rfl, rfl⟩
    · have e : (⟨(p.X + 1) - (p.X + 1) % 2, p.Y - p.Y % 2⟩ : CC) = p := cc_ext (by simp only; omega) (by simp only; omega)
      simp only at this
      rwa [e] at this
    · have e : (⟨p.X - p.X % 2, (p.Y + 1) - (p.Y + 1) % 2⟩ : CC) = p := cc_ext (by simp only; omega) (by simp only; omega)
      simp only at this
      rwa [e] at this
  refine ⟨?_, ?_, ?_, ?_, ?_⟩
  · exact fun u hu => h.fr u ((gH p0 p1 p2 p3).1 hu)
  · intro u; rw [gH p0 p1 p2 p3, gH p0 p1 p2 p3]; exact h.blk u
  · intro u v hv
    by_cases g0 : u = a0
    · subst g0
      rw [gR0 n01 n02 n03] at hv
      rcases List.mem_append.1 hv with g | g
      · exact h.adj _ _ (remC_sub g)
      · rw [List.mem_singleton] at g; subst g
        rcases hg with ⟨rfl, rfl, rfl, rfl⟩ | ⟨rfl, rfl, rfl, rfl⟩ <;> exact adj_mk (by simp only; omega)
    by_cases g1 : u = a1
    · subst g1
      rw [gR1 n01 n12 n13] at hv
      rcases List.mem_append.1 hv with g | g
      · exact h.adj _ _ (remC_sub g)
      · rw [List.mem_singleton] at g; subst g
        rcases hg with ⟨rfl, rfl, rfl, rfl⟩ | ⟨rfl, rfl, rfl, rfl⟩ <;> exact adj_mk (by simp only; omega)
    by_cases g2 : u = b0
    · subst g2
      rw [gR2 n23 n02 n12] at hv
      rcases List.mem_append.1 hv with g | g
      · exact h.adj _ _ (remC_sub g)
      · rw [List.mem_singleton] at g; subst g
        rcases hg with ⟨rfl, rfl, rfl, rfl⟩ | ⟨rfl, rfl, rfl, rfl⟩ <;> exact adj_mk (by simp only; omega)
    by_cases g3 : u = b1
    · subst g3
      rw [gR3 n23 n03 n13] at hv
      rcases List.mem_append.1 hv with g | g
      · exact h.adj _ _ (remC_sub g)
      · rw [List.mem_singleton] at g; subst g
        rcases hg with ⟨rfl, rfl, rfl, rfl⟩ | ⟨rfl, rfl, rfl, rfl⟩ <;> exact adj_mk (by simp only; omega)
    rw [gR g0 g1 g2 g3] at hv
    exact h.adj u v hv
  · intro x y hu hx hy
    obtain ⟨s1, s2, s3, s4⟩ := h.side x y ((gH p0 p1 p2 p3).1 hu) hx hy
    have keep : ∀ u v, edge A u v → ¬ (u = a0 ∧ v = a1) → ¬ (u = a1 ∧ v = a0) → ¬ (u = b0 ∧ v = b1) → ¬ (u = b1 ∧ v = b0) → edge (qMg A a0 a1 b0 b1 zV) u v := fun u v e m1 m2 m3 m4 =>
      ⟨g_keep n01 n02 n03 n12 n13 n23 e.1 m1 m2 m3 m4, g_keep n01 n02 n03 n12 n13 n23 e.2 (fun g => m2 ⟨g.2, g.1⟩) (fun g => m1 ⟨g.2, g.1⟩) (fun g => m4 ⟨g.2, g.1⟩) (fun g => m3 ⟨g.2, g.1⟩)⟩
    have mono : ∀ u, ¬ qH (qMg A a0 a1 b0 b1 zV) u → ¬ qH A u := fun u hu g => hu ((gH p0 p1 p2 p3).2 g)
    have at_ : ∀ u v : CC, ¬ qH A u → qH A v → u.X = v.X → u.Y = v.Y → False := fun u v h1 h2 e1 e2 => h1 (by rwa [show u = v from cc_ext e1 e2])
    rcases hg with ⟨rfl, rfl, rfl, rfl⟩ | ⟨rfl, rfl, rfl, rfl⟩
    · refine ⟨fun q => keep _ _ (s1 (mono _ q)) ?_ ?_ ?_ ?_, fun q => keep _ _ (s2 (mono _ q)) ?_ ?_ ?_ ?_, fun q => keep _ _ (s3 (mono _ q)) ?_ ?_ ?_ ?_, fun q => keep _ _ (s4 (mono _ q)) ?_ ?_ ?_ ?_⟩
      all_goals (rintro ⟨e1, e2⟩; have f1 := cceq.1 e1; have f2 := cceq.1 e2; simp only at f1 f2)
      all_goals first | omega | exact at_ _ _ (mono _ q) p2 (by simp only; omega) (by simp only; omega) | exact at_ _ _ (mono _ q) hP (by simp only; omega) (by simp only; omega)
    · refine ⟨fun q => keep _ _ (s1 (mono _ q)) ?_ ?_ ?_ ?_, fun q => keep _ _ (s2 (mono _ q)) ?_ ?_ ?_ ?_, fun q => keep _ _ (s3 (mono _ q)) ?_ ?_ ?_ ?_, fun q => keep _ _ (s4 (mono _ q)) ?_ ?_ ?_ ?_⟩
      all_goals (rintro ⟨e1, e2⟩; have f1 := cceq.1 e1; have f2 := cceq.1 e2; simp only at f1 f2)
      all_goals first | omega | exact at_ _ _ (mono _ q) p2 (by simp only; omega) (by simp only; omega) | exact at_ _ _ (mono _ q) hP (by simp only; omega) (by simp only; omega)
  · exact fun S h0 hc u hu => h.mn S h0 hc u ((gH p0 p1 p2 p3).1 hu)
end
theorem ring_two {R : CC → List CC} {a x v : CC} {l : List CC} (h : RingA R a l) (hx : x ∈ a :: l) (hv : v ∈ R x) : twoC (R x) v := by
  obtain ⟨m, h1, _⟩ := ring_at h hx
  rcases ring_nb h1 with e | e <;> rw [e] at hv ⊢ <;> simp only [List.mem_cons, List.not_mem_nil, or_false] at hv
  · exact ⟨_, _, rfl, hv.imp Eq.symm Eq.symm⟩
  · exact ⟨_, _, rfl, hv.imp Eq.symm Eq.symm⟩
theorem ring_join {R R' : CC → List CC} {x y a0 a1 b0 b1 : CC} {l l' : List CC} (h : RingA R x l) (g : RingA R y l') (hd : ∀ u ∈ x :: l, u ∉ y :: l') (ha0 : a0 ∈ x :: l) (ha : a1 ∈ R a0) (na : a1 ≠ a0) (hb0 : b0 ∈ y :: l') (hb : b1 ∈ R b0) (hb' : b0 ∈ R b1) (nb_ : b0 ≠ b1)
    (e1 : R' a0 = remC (R a0) a1 ++ [b0]) (e2 : R' a1 = remC (R a1) a0 ++ [b1]) (e3 : R' b0 = remC (R b0) b1 ++ [a0]) (e4 : R' b1 = remC (R b1) b0 ++ [a1])
    (e5 : ∀ c, c ≠ a0 → c ≠ a1 → c ≠ b0 → c ≠ b1 → R' c = R c) : ∃ m, RingA R' a0 m ∧ (a0 :: m).Perm ((x :: l) ++ (y :: l')) := by
  obtain ⟨M, h1, h2⟩ := ring_end h ha0 ha na
  obtain ⟨M1, g0, g0'⟩ := ring_end g hb0 hb nb_.symm
  have hb1 : b1 ∈ y :: l' := g0'.subset (by simp)
  obtain ⟨N, g1, g2⟩ := ring_end g hb1 hb' nb_
  exact ⟨_, ring_merge h1 g1 (fun u hu hu2 => hd u (h2.subset hu) (g2.subset hu2)) e1 e2 e3 e4 e5, List.Perm.append h2 g2⟩
structure LR (A : List QE) (c0 : CC) (l : List CC) : Prop where
  ring : RingA (qR A) c0 l
  key : ∀ u, qH A u ↔ u ∈ c0 :: l
  len : A.length = l.length + 1
theorem blk_ring {A : List QE} {d : CC} (hn : ∀ u, (u = d ∨ u = blkA d ∨ u = blkD d ∨ u = blkE d) → ¬ qH A u) : RingA (qR (qBlk A d zV)) d [blkA d, blkD d, blkE d] := by
  refine ⟨⟨.inr ?_, .inl ?_, .inl ?_, .inl ?_, trivial⟩, ?_⟩
  · rw [bR0, qR_nil (hn _ (.inl rfl))]; rfl
  · rw [bRA, qR_nil (hn _ (.inr (.inl rfl)))]; rfl
  · rw [bRD, qR_nil (hn _ (.inr (.inr (.inl rfl))))]; rfl
  · rw [bRE, qR_nil (hn _ (.inr (.inr (.inr rfl))))]; rfl
  · simp [dA, dD, dE, AD, AE, DE]
section
variable {W H : Int} {L : List Int} {c0 p a0 a1 b0 b1 d : CC} {A : List QE} {l m : List CC}
theorem lp_merge (hj : LJ W H L c0 A) (g1 : RingA (qR A) c0 l) (g2 : RingA (qR A) d m) (hd : ∀ u ∈ c0 :: l, u ∉ d :: m) (key : ∀ u, qH A u ↔ u ∈ c0 :: l ∨ u ∈ d :: m) (len : A.length = l.length + 1 + (m.length + 1))
    (hp : p.X % 2 = 0 ∧ p.Y % 2 = 0) (hg : geo p a0 a1 b0 b1) (ea : edge A a0 a1) (eb : edge A b0 b1) (ha : a0 ∈ c0 :: l ∧ b0 ∈ d :: m ∨ a0 ∈ d :: m ∧ b0 ∈ c0 :: l) :
    LJ W H L c0 (qMg A a0 a1 b0 b1 zV) ∧ ∃ l', LR (qMg A a0 a1 b0 b1 zV) c0 l' := by
  refine ⟨LJ_mg hj hp hg ea eb, ?_⟩
  obtain ⟨n01, n02, n03, n12, n13, n23⟩ := geo_ne hg
  obtain ⟨p0, p1⟩ := edge_has ea
  obtain ⟨p2, p3⟩ := edge_has eb
  have hr : ∃ k, RingA (qR (qMg A a0 a1 b0 b1 zV)) a0 k ∧ (a0 :: k).Perm ((c0 :: l) ++ (d :: m)) := by
    rcases ha with ⟨q1, q2⟩ | ⟨q1, q2⟩
    · exact ring_join g1 g2 hd q1 ea.1 n01.symm q2 eb.1 eb.2 n23 (gR0 n01 n02 n03) (gR1 n01 n12 n13) (gR2 n23 n02 n12) (gR3 n23 n03 n13) (fun c h0 h1 h2 h3 => gR h0 h1 h2 h3)
    · obtain ⟨k, k1, k2⟩ := ring_join g2 g1 (fun u h1 h2 => hd u h2 h1) q1 ea.1 n01.symm q2 eb.1 eb.2 n23 (gR0 n01 n02 n03) (gR1 n01 n12 n13) (gR2 n23 n02 n12) (gR3 n23 n03 n13) (fun c h0 h1 h2 h3 => gR h0 h1 h2 h3)
      exact ⟨k, k1, k2.trans List.perm_append_comm⟩
  obtain ⟨k, k1, k2⟩ := hr
  obtain ⟨l', h1, h2⟩ := ring_at k1 (k2.mem_iff.2 (by simp) : c0 ∈ a0 :: k)
  have h3 := h2.trans k2
  refine ⟨l', h1, fun u => ?_, ?_⟩
  · rw [gH p0 p1 p2 p3, key u, h3.mem_iff, List.mem_append]
  · rw [gLen p0 p1 p2 p3, len]
    have := h3.length_eq
    simp only [List.length_cons, List.length_append] at this
    omega
end
def nb2 (c : CC) : List CC := [⟨c.X + 2, c.Y⟩, ⟨c.X, c.Y + 2⟩, ⟨c.X - 2, c.Y⟩, ⟨c.X, c.Y - 2⟩]
def mgP (c d : CC) : CC × CC := if c.X < d.X ∨ c.Y < d.Y then (c, d) else (d, c)
def mgQ (A : List QE) (c d : CC) : List QE := qMrg (qBlk A d zV) (mgP c d).1 (mgP c d).2 zV
structure LS where
  A : List QE
  Q : List CC
def evC (c : CC) : Prop := c.X % 2 = 0 ∧ c.Y % 2 = 0
def inK (d u : CC) : Prop := u = d ∨ u = blkA d ∨ u = blkD d ∨ u = blkE d
section
variable {W H : Int} {L : List Int} {c0 c p a0 a1 b0 b1 d : CC} {A : List QE} {l m : List CC}
theorem geo_m (hg : geo p a0 a1 b0 b1) : mA0 p b0 = a0 ∧ mA1 p b0 = a1 ∧ mB1 p b0 = b1 ∧ (b0.X = p.X + 2 ∧ b0.Y = p.Y ∨ b0.X = p.X ∧ b0.Y = p.Y + 2) := by
  rcases hg with ⟨rfl, rfl, rfl, rfl⟩ | ⟨rfl, rfl, rfl, rfl⟩
  · exact ⟨if_neg (by simp only; omega), rfl, if_neg (by simp only; omega), .inl ⟨rfl, rfl⟩⟩
  · exact ⟨if_pos rfl, rfl, if_pos rfl, .inr ⟨rfl, rfl⟩⟩
theorem lp_step (hj : LJ W H L c0 A) (hj2 : LJ W H L c0 (qBlk A d zV)) (hr : LR A c0 l) (ed : evC d) (hn : ¬ qH A d)
    (hp : evC p) (hg : geo p a0 a1 b0 b1) (ea : edge (qBlk A d zV) a0 a1) (eb : edge (qBlk A d zV) b0 b1) (ha : qH A a0 ∧ inK d b0 ∨ inK d a0 ∧ qH A b0) :
    mOk (qBlk A d zV) p b0 ∧ LJ W H L c0 (qMrg (qBlk A d zV) p b0 zV) ∧ ∃ l', LR (qMrg (qBlk A d zV) p b0 zV) c0 l' := by
  have ho := blk_out hj ed hn
  obtain ⟨m0, m1, m2, m3⟩ := geo_m hg
  have hm : ∀ u, u ∈ d :: [blkA d, blkD d, blkE d] ↔ inK d u := fun u => by simp [inK]
  have g1 : RingA (qR (qBlk A d zV)) c0 l := ⟨seg_congr (fun x hx => by
    have hx := (hr.key x).2 hx
    exact bR (fun e => ho x (.inl e) hx) (fun e => ho x (.inr (.inl e)) hx) (fun e => ho x (.inr (.inr (.inl e))) hx) (fun e => ho x (.inr (.inr (.inr e))) hx)) hr.ring.1, hr.ring.2⟩
  have g2 := blk_ring ho
  have key : ∀ u, qH (qBlk A d zV) u ↔ u ∈ c0 :: l ∨ u ∈ d :: [blkA d, blkD d, blkE d] := fun u => by rw [bH, hm, ← hr.key]; rfl
  have len : (qBlk A d zV).length = l.length + 1 + ([blkA d, blkD d, blkE d].length + 1) := by
    rw [bLen (ho _ (.inl rfl)) (ho _ (.inr (.inl rfl))) (ho _ (.inr (.inr (.inl rfl)))) (ho _ (.inr (.inr (.inr rfl)))), hr.len]; rfl
  have h2 := lp_merge hj2 g1 g2 (fun u h1 h2 => ho u ((hm u).1 h2) ((hr.key u).2 h1)) key len hp hg ea eb (by
    rcases ha with ⟨q1, q2⟩ | ⟨q1, q2⟩
    · exact .inl ⟨(hr.key _).1 q1, (hm _).2 q2⟩
    · exact .inr ⟨(hm _).2 q1, (hr.key _).1 q2⟩)
  have e : qMrg (qBlk A d zV) p b0 zV = qMg (qBlk A d zV) a0 a1 b0 b1 zV := by rw [qMrg_mg, m0, m1, m2]
  rw [e]
  refine ⟨?_, h2⟩
  have two : ∀ u v, qH (qBlk A d zV) u → v ∈ qR (qBlk A d zV) u → twoC (qR (qBlk A d zV) u) v := fun u v hu hv => by
    rcases (key u).1 hu with g | g
    · exact ring_two g1 g hv
    · exact ring_two g2 g hv
  obtain ⟨p0, p1⟩ := edge_has ea
  obtain ⟨p2, p3⟩ := edge_has eb
  unfold mOk
  rw [m0, m1, m2]
  exact ⟨m3, ⟨p0, p1, p2, p3⟩, ⟨two _ _ p0 ea.1, two _ _ p1 ea.2⟩, two _ _ p2 eb.1, two _ _ p3 eb.2⟩
theorem lp_add (hb : ∀ x y, frB W H L x y = frB W H L (x - x % 2) (y - y % 2)) (hj : LJ W H L c0 A) (hr : LR A c0 l) (hc : qH A c) (ce : evC c) (hd : d ∈ nb2 c) (hf : frB W H L d.X d.Y = true) (hn : ¬ qH A d) :
    mOk (qBlk A d zV) (mgP c d).1 (mgP c d).2 ∧ LJ W H L c0 (mgQ A c d) ∧ ∃ l', LR (mgQ A c d) c0 l' := by
  obtain ⟨cx, cy⟩ := ce
  have ed : evC d := by
    simp only [nb2, List.mem_cons, List.not_mem_nil, or_false] at hd
    rcases hd with rfl | rfl | rfl | rfl <;> exact ⟨by simp only; omega, by simp only; omega⟩
  have ho := blk_out hj ed hn
  obtain ⟨s1, s2, s3, s4⟩ := hj.side c.X c.Y hc cx cy
  have hcb : ∀ u, inK c u → qH A u := fun u hu => by
    rw [hj.blk u]
    have := (in_blk (u := u) ⟨cx, cy⟩).1 hu
    rw [this.1, this.2]; exact hc
  have hfb : ∀ u, inK d u → frB W H L u.X u.Y = true := by
    intro u hu
    have := (in_blk (u := u) ed).1 hu
    rw [hb u.X u.Y, this.1, this.2]; exact hf
  have hj2 : LJ W H L c0 (qBlk A d zV) := LJ_blk hb hj ed hf hn fun S h0 hS hall => by
    simp only [nb2, List.mem_cons, List.not_mem_nil, or_false] at hd
    rcases hd with e | e | e | e
    · exact ⟨d, .inl rfl, hS _ (hall (blkA c) (hcb _ (.inr (.inl rfl)))) d (nbr_adj.2 (adj_mk (by rw [e]; simp only [blkA]; omega))) hf⟩
    · exact ⟨d, .inl rfl, hS _ (hall (blkE c) (hcb _ (.inr (.inr (.inr rfl))))) d (nbr_adj.2 (adj_mk (by rw [e]; simp only [blkE]; omega))) hf⟩
    · exact ⟨blkA d, .inr (.inl rfl), hS _ (hall c hc) _ (nbr_adj.2 (adj_mk (by rw [e]; simp only [blkA]; omega))) (hfb _ (.inr (.inl rfl)))⟩
    · exact ⟨blkE d, .inr (.inr (.inr rfl)), hS _ (hall c hc) _ (nbr_adj.2 (adj_mk (by rw [e]; simp only [blkE]; omega))) (hfb _ (.inr (.inr (.inr rfl))))⟩
  unfold mgQ
  simp only [nb2, List.mem_cons, List.not_mem_nil, or_false] at hd
  rcases hd with e | e | e | e
  · have em : mgP c d = (c, d) := if_pos (by rw [e]; simp only; omega)
    rw [em]
    have q := s1 (by rwa [e] at hn)
    exact lp_step hj hj2 hr ed hn ⟨cx, cy⟩ (a0 := ⟨c.X + 1, c.Y⟩) (a1 := ⟨c.X + 1, c.Y + 1⟩) (b1 := blkE d) (.inl ⟨rfl, rfl, e, by rw [e]; rfl⟩) (edge_blk ho q) e_dE (.inl ⟨(edge_has q).1, .inl rfl⟩)
  · have em : mgP c d = (c, d) := if_pos (by rw [e]; simp only; omega)
    rw [em]
    have q := s2 (by rwa [e] at hn)
    exact lp_step hj hj2 hr ed hn ⟨cx, cy⟩ (a0 := ⟨c.X, c.Y + 1⟩) (a1 := ⟨c.X + 1, c.Y + 1⟩) (b1 := blkA d) (.inr ⟨rfl, rfl, e, by rw [e]; rfl⟩) (edge_blk ho q) e_dA (.inl ⟨(edge_has q).1, .inl rfl⟩)
  · have em : mgP c d = (d, c) := if_neg (by rw [e]; simp only; omega)
    rw [em]
    have q := s3 (by rwa [e] at hn)
    exact lp_step hj hj2 hr ed hn ed (a0 := blkA d) (a1 := blkD d) (b1 := blkE c) (.inl ⟨rfl, rfl, cc_ext (by rw [e]; simp only; omega) (by rw [e]), cc_ext (by rw [e]; simp only [blkE]; omega) (by rw [e]; rfl)⟩) e_AD (edge_blk ho q) (.inr ⟨.inr (.inl rfl), hc⟩)
  · have em : mgP c d = (d, c) := if_neg (by rw [e]; simp only; omega)
    rw [em]
    have q := s4 (by rwa [e] at hn)
    exact lp_step hj hj2 hr ed hn ed (a0 := blkE d) (a1 := blkD d) (b1 := blkA c) (.inr ⟨rfl, rfl, cc_ext (by rw [e]) (by rw [e]; simp only; omega), cc_ext (by rw [e]; rfl) (by rw [e]; simp only [blkA]; omega)⟩) e_ED (edge_blk ho q) (.inr ⟨.inr (.inr (.inr rfl)), hc⟩)
theorem mgQ_H (hm : mOk (qBlk A d zV) (mgP c d).1 (mgP c d).2) {u : CC} : qH (mgQ A c d) u ↔ qH A u ∨ inK d u := by
  obtain ⟨_, ⟨p0, p1, p2, p3⟩, _⟩ := hm
  unfold mgQ
  rw [qMrg_mg, gH p0 p1 p2 p3, bH]; rfl
end
theorem sub_len : ∀ {l m : List CC}, l.Nodup → (∀ u ∈ l, u ∈ m) → l.length ≤ m.length
  | [], _, _, _ => Nat.zero_le _
  | x :: l, m, hn, hs => by
    obtain ⟨A, B, rfl⟩ := List.append_of_mem (hs x List.mem_cons_self)
    rw [List.nodup_cons] at hn
    have := sub_len (l := l) (m := A ++ B) hn.2 fun u hu => by
      have h := hs u (List.mem_cons_of_mem _ hu)
      rw [List.mem_append, List.mem_cons] at h
      rw [List.mem_append]
      rcases h with h | rfl | h
      · exact .inl h
      · exact absurd hu hn.1
      · exact .inr h
    simp only [List.length_append, List.length_cons] at this ⊢
    omega
structure LI (W H : Int) (L : List Int) (c0 : CC) (s : LS) : Prop where
  j : LJ W H L c0 s.A
  r : ∃ l, LR s.A c0 l
  qh : ∀ c ∈ s.Q, qH s.A c
  qe : ∀ c ∈ s.Q, evC c
  cl : ∀ x, qH s.A x → evC x → x ∉ s.Q → ∀ d ∈ nb2 x, frB W H L d.X d.Y = true → qH s.A d
def lpD (W H : Int) (L : List Int) (c : CC) (s : LS) (d : CC) : LS := if frB W H L d.X d.Y = true ∧ qHas s.A d.X d.Y = false then ⟨mgQ s.A c d, s.Q ++ [d]⟩ else s
def lpC (W H : Int) (L : List Int) (c : CC) (s : LS) : LS := (nb2 c).foldl (lpD W H L c) s
def lpMu (s : LS) : Nat := 2 * (4100 - s.A.length) + s.Q.length
def lpStep (W H : Int) (L : List Int) (s : LS) : LS := match s.Q with
  | [] => s
  | c :: _ => ⟨(lpC W H L c s).A, (lpC W H L c s).Q.drop 1⟩
def lpRun (W H : Int) (L : List Int) : Nat → LS → LS
  | 0, s => s
  | n + 1, s => if s.Q.length = 0 then s else lpRun W H L n (lpStep W H L s)
def lp0 (c : CC) : LS := ⟨qBlk [] c zV, [c]⟩
def lpEnd (W H : Int) (L : List Int) (c : CC) : LS := lpRun W H L 8300 (lp0 c)
section
variable {W H : Int} {L : List Int} {c0 c d : CC} {s : LS}
theorem ev_blk {x : CC} (ed : evC d) (ex : evC x) (h : inK d x) : x = d := by
  have := (in_blk (u := x) ed).1 h
  obtain ⟨h1, h2⟩ := ed
  obtain ⟨h3, h4⟩ := ex
  exact cc_ext (by omega) (by omega)
theorem nb2_ev (ce : evC c) (hd : d ∈ nb2 c) : evC d := by
  obtain ⟨cx, cy⟩ := ce
  simp only [nb2, List.mem_cons, List.not_mem_nil, or_false] at hd
  rcases hd with rfl | rfl | rfl | rfl <;> exact ⟨by simp only; omega, by simp only; omega⟩
theorem LR_len (hp : planB W H L = true) (h : LI W H L c0 s) : s.A.length ≤ 4096 := by
  obtain ⟨l, hr⟩ := h.r
  have pp := planB_at hp
  have := nd_le (W := W) (H := H) hr.ring.2 fun c hc => frB_in (h.j.fr c ((hr.key c).2 hc))
  have hl := hr.len
  simp only [List.length_cons] at this
  omega
theorem LR_up {A : List QE} {l l' : List CC} {A' : List QE} (h : LR A c0 l) (h' : LR A' c0 l') (hs : ∀ u, qH A u → qH A' u) (hd : ¬ qH A d) (hd' : qH A' d) : A.length < A'.length := by
  rw [h.len, h'.len]
  have h1 : (d :: c0 :: l).Nodup := List.nodup_cons.2 ⟨fun g => hd ((h.key d).2 g), h.ring.2⟩
  have h2 : ∀ u ∈ d :: c0 :: l, u ∈ c0 :: l' := fun u hu => by
    rcases List.mem_cons.1 hu with rfl | hu
    · exact (h'.key _).1 hd'
    · exact (h'.key u).1 (hs u ((h.key u).2 hu))
  have := sub_len h1 h2
  simp only [List.length_cons] at this
  omega
theorem lpD_ok (hb : ∀ x y, frB W H L x y = frB W H L (x - x % 2) (y - y % 2)) (hp : planB W H L = true) (h : LI W H L c0 s) (hc : c ∈ s.Q) (hd : d ∈ nb2 c) :
    LI W H L c0 (lpD W H L c s d) ∧ (∃ k, (lpD W H L c s d).Q = s.Q ++ k) ∧ lpMu (lpD W H L c s d) ≤ lpMu s ∧ (frB W H L d.X d.Y = true → qH (lpD W H L c s d).A d) ∧ (∀ u, qH s.A u → qH (lpD W H L c s d).A u) := by
  unfold lpD
  by_cases g : frB W H L d.X d.Y = true ∧ qHas s.A d.X d.Y = false
  · rw [if_pos g]
    obtain ⟨l, hr⟩ := h.r
    have hn : ¬ qH s.A d := by unfold qH; rw [g.2]; simp
    have ed := nb2_ev (h.qe c hc) hd
    obtain ⟨q1, q2, l', q3⟩ := lp_add hb h.j hr (h.qh c hc) (h.qe c hc) hd g.1 hn
    have hk : ∀ u, qH (mgQ s.A c d) u ↔ qH s.A u ∨ inK d u := fun u => mgQ_H q1
    clear q1
    generalize mgQ s.A c d = B at *
    have hLI : LI W H L c0 ⟨B, s.Q ++ [d]⟩ := by
      refine ⟨q2, ⟨l', q3⟩, fun x hx => ?_, fun x hx => ?_, fun x hx ex hq e he hfe => ?_⟩
      · rcases List.mem_append.1 hx with gx | gx
        · exact (hk x).2 (.inl (h.qh x gx))
        · rw [List.mem_singleton] at gx; subst gx; exact (hk _).2 (.inr (.inl rfl))
      · rcases List.mem_append.1 hx with gx | gx
        · exact h.qe x gx
        · rw [List.mem_singleton] at gx; subst gx; exact ed
      · rcases (hk x).1 hx with gx | gx
        · exact (hk e).2 (.inl (h.cl x gx ex (fun q => hq (List.mem_append_left _ q)) e he hfe))
        · exfalso
          have e2 := ev_blk ed ex gx
          subst e2
          exact hq (List.mem_append_right _ (List.mem_singleton.2 rfl))
    refine ⟨hLI, ⟨[d], rfl⟩, ?_, fun _ => (hk d).2 (.inr (.inl rfl)), fun u hu => (hk u).2 (.inl hu)⟩
    have h1 := LR_len hp hLI
    have h2 := LR_up hr q3 (fun u hu => (hk u).2 (.inl hu)) hn ((hk d).2 (.inr (.inl rfl)))
    unfold lpMu
    simp only [List.length_append, List.length_singleton] at h1 ⊢
    omega
  · rw [if_neg g]
    refine ⟨h, ⟨[], by simp⟩, Nat.le_refl _, fun hf => ?_, fun u hu => hu⟩
    unfold qH
    cases e : qHas s.A d.X d.Y with
    | true => rfl
    | false => exact absurd ⟨hf, e⟩ g
theorem lp_fold (hb : ∀ x y, frB W H L x y = frB W H L (x - x % 2) (y - y % 2)) (hp : planB W H L = true) : ∀ (ds : List CC) (s : LS), LI W H L c0 s → c ∈ s.Q → (∀ d ∈ ds, d ∈ nb2 c) →
    LI W H L c0 (ds.foldl (lpD W H L c) s) ∧ (∃ k, (ds.foldl (lpD W H L c) s).Q = s.Q ++ k) ∧ lpMu (ds.foldl (lpD W H L c) s) ≤ lpMu s ∧ (∀ d ∈ ds, frB W H L d.X d.Y = true → qH (ds.foldl (lpD W H L c) s).A d) ∧ (∀ u, qH s.A u → qH (ds.foldl (lpD W H L c) s).A u)
  | [], s, h, _, _ => ⟨h, ⟨[], by simp⟩, Nat.le_refl _, nofun, fun u hu => hu⟩
  | d :: ds, s, h, hc, hds => by
    obtain ⟨h1, ⟨k, h2⟩, h3, h4, h5⟩ := lpD_ok hb hp h hc (hds d List.mem_cons_self)
    obtain ⟨i1, ⟨k', i2⟩, i3, i4, i5⟩ := lp_fold hb hp ds (lpD W H L c s d) h1 (by rw [h2]; exact List.mem_append_left _ hc) (fun e he => hds e (List.mem_cons_of_mem _ he))
    refine ⟨i1, ⟨k ++ k', by rw [List.foldl_cons, i2, h2, List.append_assoc]⟩, Nat.le_trans i3 h3, fun e he hf => ?_, fun u hu => i5 u (h5 u hu)⟩
    rcases List.mem_cons.1 he with rfl | he
    · exact i5 _ (h4 hf)
    · exact i4 e he hf
theorem lpStep_ok (hb : ∀ x y, frB W H L x y = frB W H L (x - x % 2) (y - y % 2)) (hp : planB W H L = true) (h : LI W H L c0 s) (hq : 0 < s.Q.length) : LI W H L c0 (lpStep W H L s) ∧ lpMu (lpStep W H L s) < lpMu s := by
  obtain ⟨A, Q⟩ := s
  cases Q with
  | nil => simp at hq
  | cons c Q =>
    obtain ⟨i1, ⟨k, i2⟩, i3, i4, i5⟩ := lp_fold hb hp (nb2 c) ⟨A, c :: Q⟩ h List.mem_cons_self (fun d hd => hd)
    unfold lpStep
    simp only
    unfold lpC
    generalize (nb2 c).foldl (lpD W H L c) ⟨A, c :: Q⟩ = t at *
    obtain ⟨B, R⟩ := t
    simp only at i2
    subst i2
    simp only [List.cons_append, List.drop_succ_cons, List.drop_zero] at *
    refine ⟨⟨i1.j, i1.r, fun x hx => i1.qh x (List.mem_cons_of_mem _ hx), fun x hx => i1.qe x (List.mem_cons_of_mem _ hx), fun x hx ex hn d hd hf => ?_⟩, ?_⟩
    · by_cases e : x = c
      · subst e; exact i4 d hd hf
      · exact i1.cl x hx ex (fun g => by rcases List.mem_cons.1 g with g | g; exact e g; exact hn g) d hd hf
    · unfold lpMu at i3 ⊢
      simp only [List.length_cons] at i3 ⊢
      omega
theorem lp0_ok (hb : ∀ x y, frB W H L x y = frB W H L (x - x % 2) (y - y % 2)) (ce : evC c) (hf : frB W H L c.X c.Y = true) : LI W H L c (lp0 c) := by
  have hn : ∀ u, ¬ qH ([] : List QE) u := nofun
  refine ⟨LJ_blk hb (LJ_nil W H L c) ce hf (hn c) fun S h0 _ _ => ⟨c, .inl rfl, h0⟩, ⟨[blkA c, blkD c, blkE c], blk_ring fun u _ => hn u, fun u => ?_, ?_⟩, fun x hx => ?_, fun x hx => ?_, fun x hx ex hq => ?_⟩
  · rw [lp0, bH]
    simp only [List.mem_cons, List.not_mem_nil, or_false]
    exact ⟨fun h => h.resolve_left (hn u), .inr⟩
  · rw [lp0, bLen (hn _) (hn _) (hn _) (hn _)]; rfl
  · simp only [lp0, List.mem_singleton] at hx
    subst hx; exact bH.2 (.inr (.inl rfl))
  · simp only [lp0, List.mem_singleton] at hx
    subst hx; exact ce
  · rcases bH.1 hx with g | g
    · exact absurd g (hn x)
    · refine absurd ?_ hq
      rw [ev_blk ce ex g]; simp [lp0]
def lpWay (W H : Int) (L : List Int) (c : CC) (s : LS) : Prop := LI W H L c s ∧ ∃ n, n ≤ 8300 ∧ lpMu s ≤ n ∧ lpRun W H L n s = lpEnd W H L c
theorem lpWay0 (hb : ∀ x y, frB W H L x y = frB W H L (x - x % 2) (y - y % 2)) (ce : evC c) (hf : frB W H L c.X c.Y = true) : lpWay W H L c (lp0 c) :=
  ⟨lp0_ok hb ce hf, 8300, Nat.le_refl _, by unfold lpMu lp0; simp only [List.length_singleton]; omega, rfl⟩
theorem lpWay_step (hb : ∀ x y, frB W H L x y = frB W H L (x - x % 2) (y - y % 2)) (hp : planB W H L = true) (h : lpWay W H L c s) (hq : 0 < s.Q.length) : lpWay W H L c (lpStep W H L s) := by
  obtain ⟨hi, n, hn8, hn, he⟩ := h
  obtain ⟨h1, h2⟩ := lpStep_ok hb hp hi hq
  cases n with
  | zero => omega
  | succ n =>
    refine ⟨h1, n, by omega, by omega, ?_⟩
    rw [← he]
    conv => rhs; unfold lpRun
    rw [if_neg (by omega)]
theorem lpWay_end (h : lpWay W H L c s) (hq : s.Q.length = 0) : s = lpEnd W H L c := by
  obtain ⟨_, n, _, _, he⟩ := h
  rw [← he]
  cases n with
  | zero => rfl
  | succ n => unfold lpRun; rw [if_pos hq]
theorem lpWay_len (h : lpWay W H L c s) : lpMu s ≤ 8300 := by
  obtain ⟨_, n, h1, h2, _⟩ := h; omega
theorem LI_pos {u : CC} (h : LI W H L c s) (hu : qH s.A u) : 0 < (qR s.A u).length := by
  obtain ⟨l, hr⟩ := h.r
  obtain ⟨m, h1, _⟩ := ring_at hr.ring ((hr.key u).1 hu)
  rcases ring_nb h1 with e | e <;> rw [e] <;> simp
theorem lp_end (hb : ∀ x y, frB W H L x y = frB W H L (x - x % 2) (y - y % 2)) (hp : planB W H L = true) : ∀ (n : Nat) (s : LS), LI W H L c s → lpMu s ≤ n → LI W H L c (lpRun W H L n s) ∧ (lpRun W H L n s).Q.length = 0
  | 0, s, h, hm => by
    unfold lpMu at hm
    exact ⟨h, by unfold lpRun; omega⟩
  | n + 1, s, h, hm => by
    unfold lpRun
    split
    · rename_i g; exact ⟨h, g⟩
    · rename_i g
      obtain ⟨h1, h2⟩ := lpStep_ok hb hp h (by omega)
      exact lp_end hb hp n _ h1 (by omega)
theorem lpEnd_ok (hb : ∀ x y, frB W H L x y = frB W H L (x - x % 2) (y - y % 2)) (hp : planB W H L = true) (ce : evC c) (hf : frB W H L c.X c.Y = true) : LI W H L c (lpEnd W H L c) ∧ (lpEnd W H L c).Q.length = 0 :=
  lp_end hb hp 8300 _ (lp0_ok hb ce hf) (by unfold lpMu lp0; simp only [List.length_singleton]; omega)
theorem lp_reg (hb : ∀ x y, frB W H L x y = frB W H L (x - x % 2) (y - y % 2)) (hp : planB W H L = true) (ce : evC c) (hf : frB W H L c.X c.Y = true) (u : CC) : qH (lpEnd W H L c).A u ↔ u ∈ (tEnd W H L c).K := by
  obtain ⟨h, hq⟩ := lpEnd_ok hb hp ce hf
  obtain ⟨t, ht⟩ := tEnd_inv hp hf
  have hT : ∀ x, x ∉ (tEnd W H L c).T := fun x hx => by
    have := List.length_pos_of_mem hx
    omega
  have hQ : ∀ x, x ∉ (lpEnd W H L c).Q := fun x hx => by
    have := List.length_pos_of_mem hx
    omega
  constructor
  · exact h.j.mn (fun u => u ∈ (tEnd W H L c).K) t.st (fun x hx d hd hfd => t.cl x hx (hT x) d hd hfd) u
  · refine t.mn (fun u => qH (lpEnd W H L c).A u) ?_ (fun x hx d hd hfd => ?_) u
    · obtain ⟨l, hr⟩ := h.r
      exact (hr.key c).2 List.mem_cons_self
    · have hx0 : qH (lpEnd W H L c).A ⟨x.X - x.X % 2, x.Y - x.Y % 2⟩ := (h.j.blk x).1 hx
      rw [h.j.blk d]
      have hfd2 : frB W H L (d.X - d.X % 2) (d.Y - d.Y % 2) = true := by rw [← hb]; exact hfd
      have ex : evC ⟨x.X - x.X % 2, x.Y - x.Y % 2⟩ := ⟨by simp only; omega, by simp only; omega⟩
      have hcl := h.cl _ hx0 ex (hQ _)
      have hadj := nbr_adj.1 hd
      unfold adjB at hadj
      rw [decide_eq_true_eq] at hadj
      by_cases e0 : d.X - d.X % 2 = x.X - x.X % 2 ∧ d.Y - d.Y % 2 = x.Y - x.Y % 2
      · rw [e0.1, e0.2]; exact hx0
      · refine hcl ⟨d.X - d.X % 2, d.Y - d.Y % 2⟩ ?_ hfd2
        simp only [nb2, List.mem_cons, List.not_mem_nil, or_false, cceq]
        omega
theorem lp_len (hb : ∀ x y, frB W H L x y = frB W H L (x - x % 2) (y - y % 2)) (hp : planB W H L = true) (ce : evC c) (hf : frB W H L c.X c.Y = true) : (lpEnd W H L c).A.length = (regL W H L c.X c.Y).length := by
  obtain ⟨h, hq⟩ := lpEnd_ok hb hp ce hf
  obtain ⟨l, hr⟩ := h.r
  obtain ⟨t, ht⟩ := tEnd_inv hp hf
  rw [hr.len]
  show l.length + 1 = (tEnd W H L c).K.length
  have := nd_len hr.ring.2 t.nd fun u => by rw [← hr.key u]; exact lp_reg hb hp ce hf u
  simpa using this
end
theorem cnt8_one {L : List Int} (h : ∀ x ∈ L, x ≤ 2) : cnt8 L 1 = ((L.countP fun x => decide (x = 1) : Nat) : Int) := by
  have e : cnt8 L 1 = ((L.map fun x => UInt8.ofNat x.toNat).count 1 : Nat) := rfl
  rw [e, List.count_eq_countP, List.countP_map]
  congr 1
  apply List.countP_congr
  intro x hx
  have := h x hx
  simp only [Function.comp, beq_iff_eq, decide_eq_true_eq]
  constructor
  · intro hh
    rcases (by omega : x.toNat = 0 ∨ x = 1 ∨ x = 2) with g | g | g
    · rw [g] at hh; exact absurd hh (by decide)
    · exact g
    · subst g; exact absurd hh (by decide)
  · rintro rfl; rfl
section
variable {W H : Int} {L : List Int}
theorem planB_le (h : planB W H L = true) : ∀ x ∈ L, x ≤ 2 := by
  simp only [planB, Bool.and_eq_true, decide_eq_true_eq] at h
  exact h.2
theorem cel_in (hp : planB W H L = true) {i : Nat} (h : i < L.length) : cellIn W H (celC W i) := by
  have pp := planB_at hp
  unfold cellIn celC
  refine ⟨⟨Int.emod_nonneg _ (by omega), Int.emod_lt_of_pos _ (by omega)⟩, Int.ediv_nonneg (by omega) (by omega), ?_⟩
  apply Int.ediv_lt_of_lt_mul (by omega)
  rw [Int.mul_comm, ← pp.2.2.1]; omega
end
def fstI (L : List Int) : Nat := L.findIdx fun v => decide (v = 1)
def fstC (W : Int) (L : List Int) : CC := celC W (fstI L)
section
variable {W H : Int} {L : List Int}
theorem fst_lt (hp : planB W H L = true) (h : cnt8 L 1 ≠ 0) : fstI L < L.length := by
  rw [cnt8_one (planB_le hp)] at h
  unfold fstI
  rw [List.findIdx_lt_length]
  have : 0 < L.countP fun x => decide (x = 1) := by omega
  rw [List.countP_pos_iff] at this
  exact this
theorem fst_at (h : fstI L < L.length) : L.getD (fstI L) eU8.dflt = 1 := by
  have := List.findIdx_getElem (xs := L) (p := fun v => decide (v = 1)) (w := h)
  rw [List.getD_eq_getElem?_getD, List.getElem?_eq_getElem h]
  exact of_decide_eq_true this
theorem fst_no {j : Nat} (h : j < fstI L) : L.getD j eU8.dflt ≠ 1 := by
  have hl : j < L.length := Nat.lt_of_lt_of_le h List.findIdx_le_length
  have := List.not_of_lt_findIdx h
  rw [List.getD_eq_getElem?_getD, List.getElem?_eq_getElem hl]
  simpa using this
theorem fst_eq {i : Nat} (hi : i < L.length) (h1 : L.getD i eU8.dflt = 1) (h2 : ∀ j, j < i → L.getD j eU8.dflt ≠ 1) : i = fstI L := by
  have h3 : fstI L < L.length := by
    unfold fstI
    rw [List.findIdx_lt_length]
    exact ⟨L[i], List.getElem_mem hi, by
      rw [List.getD_eq_getElem?_getD, List.getElem?_eq_getElem hi] at h1
      exact decide_eq_true h1⟩
  rcases Nat.lt_trichotomy i (fstI L) with g | g | g
  · exact absurd h1 (fst_no g)
  · exact g
  · exact absurd (fst_at h3) (h2 _ g)
theorem fst_free (hp : planB W H L = true) (h : cnt8 L 1 ≠ 0) : frB W H L (fstC W L).X (fstC W L).Y = true := by
  have hl := fst_lt hp h
  have hc := cel_in hp hl
  have e := (ix_cel hc).1 rfl
  unfold fstC
  rw [fr_at hp hc]
  unfold ixC at e
  rw [← e]
  exact decide_eq_true (fst_at hl)
theorem fst_ev (hp : planB W H L = true) (hb : blkB W H L = true) (h : cnt8 L 1 ≠ 0) : evC (fstC W L) := by
  have hl := fst_lt hp h
  have hc := cel_in hp hl
  have hf := fst_free hp h
  have pp := planB_at hp
  rw [blk_all hb] at hf
  have e := (ix_cel hc).1 rfl
  have hc2 : cellIn W H ⟨(fstC W L).X - (fstC W L).X % 2, (fstC W L).Y - (fstC W L).Y % 2⟩ := frB_in hf
  have hat := fr_at hp hc2
  simp only at hat
  rw [hat, decide_eq_true_eq] at hf
  have b1 := ix_bd hc2
  have b2 := ix_bd hc
  unfold ixC at e
  change fstI L = ((fstC W L).Y * W + (fstC W L).X).toNat at e
  change 0 ≤ (fstC W L).Y * W + (fstC W L).X ∧ _ at b2
  simp only at b1
  have hr := hc.1.1
  have hr2 := hc.2.1
  change 0 ≤ (fstC W L).X at hr
  change 0 ≤ (fstC W L).Y at hr2
  generalize fstC W L = c at *
  refine Classical.byContradiction fun hne => ?_
  refine fst_no (j := ((c.Y - c.Y % 2) * W + (c.X - c.X % 2)).toNat) ?_ hf
  rw [e]
  have hne : ¬ (c.X % 2 = 0 ∧ c.Y % 2 = 0) := hne
  rcases (by omega : c.Y % 2 = 0 ∨ c.Y % 2 = 1) with g | g
  · rw [g] at b1 hf ⊢
    rw [Int.sub_zero] at b1 ⊢
    omega
  · rw [g] at b1 ⊢
    have e2 : (c.Y - 1) * W = c.Y * W - W := by rw [Int.sub_mul, Int.one_mul]
    rw [e2] at b1 ⊢
    omega
end
def lopE (W H : Int) (L : List Int) : Int := if planB W H L = false then 1 else if blkB W H L = false then 3 else if cnt8 L 1 = 0 then 9 else if ((regL W H L (fstC W L).X (fstC W L).Y).length : Int) = cnt8 L 1 then 0 else 9
def lopP (W H : Int) (L : List Int) (c : CC) (m : List CC) : Prop := RingA (qR (lpEnd W H L c).A) c m ∧ m.headD c = (qR (lpEnd W H L c).A c).getD 0 eC.dflt ∧ ∀ u, qH (lpEnd W H L c).A u ↔ u ∈ c :: m
noncomputable def lopM (W H : Int) (L : List Int) (c : CC) : List CC := Classical.epsilon (lopP W H L c)
noncomputable def lopL (W H : Int) (L : List Int) : List CC := if lopE W H L = 0 then fstC W L :: lopM W H L (fstC W L) else []
section
variable {W H : Int} {L : List Int} {c : CC}
theorem lopM_ok (h : LI W H L c (lpEnd W H L c)) : lopP W H L c (lopM W H L c) := by
  apply Classical.epsilon_spec
  obtain ⟨l, hr⟩ := h.r
  rcases ring_nb hr.ring with e | e
  · refine ⟨l.reverse, ring_rev hr.ring, ?_, fun u => ?_⟩
    · rw [e, headD_rev]; rfl
    · rw [hr.key]; simp
  · exact ⟨l, hr.ring, by rw [e]; rfl, hr.key⟩
theorem seg_at {R : CC → List CC} : ∀ {l : List CC} {p n : CC} {k : Nat}, Seg R p l n → k < l.length → nb R (l.getD k eC.dflt) ((p :: l).getD k eC.dflt) ((l ++ [n]).getD (k + 1) eC.dflt)
  | x :: l, p, n, 0, h, _ => by
    have := h.1
    have e : (x :: l ++ [n]).getD (0 + 1) eC.dflt = l.headD n := by cases l <;> rfl
    rw [e]; exact this
  | x :: l, p, n, k + 1, h, hk => by
    have := seg_at (k := k) h.2 (by simpa using hk)
    simpa using this
theorem walk_at {m : List CC} {k : Nat} (h : lopP W H L c m) (hk : k < m.length) : nb (qR (lpEnd W H L c).A) (m.getD k eC.dflt) ((c :: m).getD k eC.dflt) ((m ++ [c]).getD (k + 1) eC.dflt) := seg_at h.1.1.2 hk
theorem walk_ne {m : List CC} {k : Nat} (h : lopP W H L c m) (hk : k < m.length) : m.getD k eC.dflt ≠ c := by
  intro e
  have := (List.nodup_cons.1 h.1.2).1
  rw [← e] at this
  exact this (gmemC hk)
theorem loop_law (hp : planB W H L = true) (he : lopE W H L = 0) :
    0 < (lopL W H L).length ∧ chkE W H L (lopL W H L) = 0 ∧ covN W H L (lopL W H L) = (lopL W H L).length ∧ ((lopL W H L).length : Int) = cnt8 L 1 ∧ adjB ((lopL W H L).getD 0 eC.dflt) ((lopL W H L).getD ((lopL W H L).length - 1) eC.dflt) = true := by
  have hl : lopL W H L = fstC W L :: lopM W H L (fstC W L) := if_pos he
  unfold lopE at he
  rw [if_neg (by rw [hp]; decide)] at he
  split at he
  · cases he
  · rename_i hb
    rw [Bool.not_eq_false] at hb
    split at he
    · cases he
    · rename_i hc
      split at he
      · rename_i hlen
        have ev := fst_ev hp hb hc
        have hf := fst_free hp hc
        obtain ⟨hi, _⟩ := lpEnd_ok (blk_all hb) hp ev hf
        have hln := lp_len (blk_all hb) hp ev hf
        obtain ⟨h1, h2, h3⟩ := lopM_ok hi
        obtain ⟨l0, hr⟩ := hi.r
        have elen : (lopM W H L (fstC W L)).length + 1 = (lpEnd W H L (fstC W L)).A.length := by
          rw [hr.len]
          have := nd_len h1.2 hr.ring.2 fun u => by rw [← h3 u, ← hr.key u]
          simpa using this
        rw [hl]
        have hij := hi.j
        clear hi
        generalize lopM W H L (fstC W L) = m at *
        generalize hcc : fstC W L = c at *
        generalize (lpEnd W H L c).A = A at *
        have hfr : ∀ i, i < (c :: m).length → frB W H L ((c :: m).getD i eC.dflt).X ((c :: m).getD i eC.dflt).Y = true := fun i hi2 => hij.fr _ ((h3 _).2 (gmemC hi2))
        have hch : ∀ i, i + 1 < (c :: m).length → adjB ((c :: m).getD i eC.dflt) ((c :: m).getD (i + 1) eC.dflt) = true := by
          intro i hi2
          have hs := seg_at (k := i) h1.1 (by omega)
          have e : (c :: m ++ [c]).getD (i + 1) eC.dflt = (c :: m).getD (i + 1) eC.dflt := getD_l hi2
          rw [e] at hs
          refine hij.adj _ _ ?_
          rcases hs with e | e <;> rw [e] <;> simp
        have hk0 : chkE W H L (c :: m) = 0 := chk_ok hp (by simp) hfr hch
        refine ⟨by simp, hk0, ?_, ?_, ?_⟩
        · unfold covN
          rw [if_pos hk0]
          congr 1
          refine nd_len (insK_nd _ _) h1.2 fun u => ?_
          rw [insK_mem (Nat.le_refl _)]
          constructor
          · rintro ⟨i, hi2, rfl⟩; exact gmemC hi2
          · intro hu
            obtain ⟨i, hi2, e⟩ := List.getElem_of_mem hu
            exact ⟨i, hi2, by rw [List.getD_eq_getElem?_getD, List.getElem?_eq_getElem hi2]; exact e.symm⟩
        · rw [← hlen, ← hln, ← elen]; rfl
        · have hs := h1.1.1
          refine hij.adj _ _ ?_
          have e : (c :: m).getD ((c :: m).length - 1) eC.dflt = m.getLastD c := by
            rcases last_cases m with rfl | ⟨m', y, rfl⟩
            · rfl
            · simp [List.getD_eq_getElem?_getD]
          rw [e]
          show m.getLastD c ∈ qR A c
          rcases hs with e | e <;> rw [e] <;> simp
      · cases he
end
theorem lop1 {W H : Int} {L : List Int} (h : planB W H L = false) : 1 = lopE W H L := by unfold lopE; rw [if_pos h]
theorem lop3 {W H : Int} {L : List Int} (h : planB W H L = true) (h2 : blkB W H L = false) : 3 = lopE W H L := by unfold lopE; rw [if_neg (by rw [h]; decide), if_pos h2]
theorem lop9 {W H : Int} {L : List Int} (h : planB W H L = true) (h2 : blkB W H L = true) (h3 : cnt8 L 1 = 0) : 9 = lopE W H L := by unfold lopE; rw [if_neg (by rw [h]; decide), if_neg (by rw [h2]; decide), if_pos h3]
theorem lop9' {W H : Int} {L : List Int} (h : planB W H L = true) (h2 : blkB W H L = true) (h3 : cnt8 L 1 ≠ 0) (h4 : ¬ ((regL W H L (fstC W L).X (fstC W L).Y).length : Int) = cnt8 L 1) : 9 = lopE W H L := by unfold lopE; rw [if_neg (by rw [h]; decide), if_neg (by rw [h2]; decide), if_neg h3, if_neg h4]
theorem lop0 {W H : Int} {L : List Int} (h : planB W H L = true) (h2 : blkB W H L = true) (h3 : cnt8 L 1 ≠ 0) (h4 : ((regL W H L (fstC W L).X (fstC W L).Y).length : Int) = cnt8 L 1) : lopE W H L = 0 := by unfold lopE; rw [if_neg (by rw [h]; decide), if_neg (by rw [h2]; decide), if_neg h3, if_pos h4]
theorem lopL0 {W H : Int} {L : List Int} {n : Int} (h : n = lopE W H L) (hn : n ≠ 0) : (lopL W H L).length = 0 := by unfold lopL; rw [if_neg (by omega)]; rfl
theorem sq_same {x y : Int} {V : Value} : ∀ {q : List QE}, qHas q x y = true → sq (qSet q x y V (qGet q x y)) = sq q
  | [], h => by cases h
  | e :: q, h => by
    simp only [qHas] at h
    by_cases g : e.x = x ∧ e.y = y
    · simp [sq, qSet, qGet, g]
    · rw [if_neg g] at h
      have := sq_same (V := V) h
      unfold sq at this
      simp [sq, qSet, qGet, g, this]
theorem rowS (L : List CC) (n : Nat) : rowEq n 2 (rowF eC L) (rowF eC L) (fun x => x) := fun _ _ _ _ => rfl
theorem qVal_set_eq {x y : Int} {V : Value} {l : List CC} : ∀ {q : List QE}, qVal (qSet q x y V l) x y = V
  | [] => by simp [qSet, qVal]
  | e :: q => by
    by_cases g : e.x = x ∧ e.y = y
    · simp [qSet, qVal, g]
    · simp [qSet, qVal, g, qVal_set_eq (q := q)]
theorem sq_two {x y : Int} {V V1 : Value} {q : List QE} {L : List CC} (h : qHas q x y = true) (e : qGet q x y = L) : sq (qSet (qSet q x y V L) x y V1 L) = sq q := by
  have h2 := sq_same (V := V1) (q := qSet q x y V L) (x := x) (y := y) qHas_set_eq
  rw [qGet_set_eq] at h2
  rw [h2, ← e]; exact sq_same h
theorem sq_one {x y : Int} {V : Value} {q : List QE} {L : List CC} (h : qHas q x y = true) (e : qGet q x y = L) : sq (qSet q x y V L) = sq q := by
  rw [← e]; exact sq_same h
theorem qM_two {x y : Int} {V V1 : Value} {q : List QE} {L : List CC} : updM (qM q) x y (.v V1) = qM (qSet (qSet q x y V L) x y V1 L) := by
  rw [qM_set, qM_set, updM_updM]
theorem mOk_sq {q : List QE} {c d : CC} (h : mOk (sq q) c d) : mOk q c d := by
  unfold mOk at h ⊢
  simpa only [sq_get, sq_has] using h
end Go.Proofs.Ytnkkhmeojifckaa
