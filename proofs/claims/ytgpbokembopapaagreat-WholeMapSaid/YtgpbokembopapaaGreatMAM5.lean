/- A part of the proof of a statement about this seat: how a function is stepped through, and plain laws. No conditions. -/
import Derived.Test.YtgpbokembopapaaGreatRows
import Derived.Test.YtgpbokembopapaaGreatMASz4
import Derived.Test.YtgpbokembopapaaGreatMAM4
import Derived.KernelRfl
set_option linter.unusedVariables false
set_option linter.unusedSimpArgs false
set_option maxRecDepth 20000
namespace Go.Proofs.YtgpbokembopapaaGreat
open Go.Sx Go.Way
def decF : Nat → Int → Int → Int → List Int → List EE
  | 0, _, _, _, _ => []
  | f + 1, x, y, n, d => if d = [] then [] else ⟨16 * x + (n + gapD d) % 16, 16 * y + (n + gapD d) / 16, hitD d, pasD d⟩ :: decF f x y (n + gapD d + 1) (rstD d)
def decT (t : TT) : List EE := decF t.d.length t.x t.y 0 t.d
def unpL (T : List TT) : List EE := srtL cmpE (T.flatMap decT)
theorem encP_cons (n : Int) (e : EE) (l : List EE) : encP n (e :: l) = uintL ((numE e - n).toNat) ++ (uintL (zig e.H) ++ (uintL (zig e.P) ++ encP (numE e + 1) l)) := rfl
theorem numE_cell {e : EE} {x y : Int} (h : e.X / 16 = x ∧ e.Y / 16 = y) : 16 * x + numE e % 16 = e.X ∧ 16 * y + numE e / 16 = e.Y := by
  unfold numE; omega
theorem rd_head {n : Int} {e : EE} {l : List EE} (hn : n ≤ numE e) (h0 : 0 ≤ n) (hc : (-1099511627776 ≤ e.H ∧ e.H ≤ 1099511627776) ∧ -1099511627776 ≤ e.P ∧ e.P ≤ 1099511627776) :
    gapD (encP n (e :: l)) = numE e - n ∧ hitD (encP n (e :: l)) = e.H ∧ pasD (encP n (e :: l)) = e.P ∧ rstD (encP n (e :: l)) = encP (numE e + 1) l := by
  have hb := numE_bd e
  have zh := zig_lt hc.1
  have zp := zig_lt hc.2
  rw [encP_cons]
  have e1 : rdU (uintL ((numE e - n).toNat) ++ (uintL (zig e.H) ++ (uintL (zig e.P) ++ encP (numE e + 1) l))) = ((numE e - n).toNat, uintL (zig e.H) ++ (uintL (zig e.P) ++ encP (numE e + 1) l), 0) := rdU_uint _ (by omega)
  have e2 : rdU (uintL (zig e.H) ++ (uintL (zig e.P) ++ encP (numE e + 1) l)) = (zig e.H, uintL (zig e.P) ++ encP (numE e + 1) l, 0) := rdU_uint _ (by omega)
  have e3 : rdU (uintL (zig e.P) ++ encP (numE e + 1) l) = (zig e.P, encP (numE e + 1) l, 0) := rdU_uint _ (by omega)
  refine ⟨?_, ?_, ?_, ?_⟩
  · unfold gapD; rw [e1]; exact Int.toNat_of_nonneg (by omega)
  · unfold hitD; rw [e1, e2, unz_zig]
  · unfold pasD; rw [e1, e2, e3, unz_zig]
  · unfold rstD; rw [e1, e2, e3]
theorem dec_enc {x y : Int} : ∀ (l : List EE) (n : Int) (f : Nat), PartOk l → (∀ e ∈ l, e.X / 16 = x ∧ e.Y / 16 = y) → (∀ e ∈ l, n ≤ numE e) → 0 ≤ n → l.length ≤ f → decF f x y n (encP n l) = l
  | [], n, f, _, _, _, _, _ => by cases f <;> simp [decF, encP]
  | e :: l, n, 0, _, _, _, _, h => by simp at h
  | e :: l, n, f + 1, hP, hh, hn, h0, hf => by
    obtain ⟨r1, r2, r3, r4⟩ := rd_head (l := l) (hn e (by simp)) h0 (hP.cnt e (by simp))
    have hne : encP n (e :: l) ≠ [] := by
      rw [encP_cons]
      intro h
      rw [List.append_eq_nil_iff] at h
      exact uintL_ne _ h.1
    obtain ⟨c1, c2⟩ := numE_cell (hh e (by simp))
    have hb := numE_bd e
    have hup := List.pairwise_cons.1 hP.up
    unfold decF
    rw [if_neg hne, r1, r2, r3, r4, show n + (numE e - n) = numE e by omega, c1, c2]
    rw [dec_enc l (numE e + 1) f ⟨hup.2, fun a ha => hP.cnt a (by simp [ha]), fun a ha => hP.at_ a (by simp [ha])⟩ (fun a ha => hh a (by simp [ha])) (fun a ha => by have := hup.1 a ha; omega) (by omega) (by simp only [List.length_cons] at hf; omega)]
theorem encP_long : ∀ (l : List EE) (n : Int), l.length ≤ (encP n l).length
  | [], _ => by simp
  | e :: l, n => by
    have := encP_long l (numE e + 1)
    have h1 := uintL_pos ((numE e - n).toNat)
    rw [encP_cons]
    simp only [List.length_append, List.length_cons]
    omega
theorem partE_home {A : List EE} {c : CC} : ∀ e ∈ partE A c, e.X / 16 = c.X ∧ e.Y / 16 = c.Y := by
  intro e he
  have := (List.mem_filter.1 he).2
  rwa [decide_eq_true_eq] at this
theorem decT_pack {A : List EE} (h : valE A = true) (c : CC) : decT ⟨c.X, c.Y, encP 0 (partE A c)⟩ = partE A c :=
  dec_enc _ _ _ (partE_ok h c) partE_home (fun e _ => (numE_bd e).1) (Int.le_refl _) (encP_long _ _)
theorem ordL_has {A : List EE} {e : EE} (he : e ∈ A) : (⟨e.X / 16, e.Y / 16⟩ : CC) ∈ ordL A := by
  have ho := partsOk A A.length (Nat.le_refl _)
  rw [List.take_length] at ho
  refine (findS_mem _ _ (partsL A)).2 ?_
  rw [ho.at_, if_neg]
  · simp
  · intro h0
    have : e ∈ partE A ⟨e.X / 16, e.Y / 16⟩ := List.mem_filter.2 ⟨he, by simp⟩
    rw [h0] at this; cases this
theorem ordL_of {A : List EE} {c : CC} (hc : c ∈ ordL A) : ∃ e ∈ A, e.X / 16 = c.X ∧ e.Y / 16 = c.Y := by
  have ho := partsOk A A.length (Nat.le_refl _)
  rw [List.take_length] at ho
  have h1 := (findS_mem c.X c.Y (partsL A)).1 hc
  rw [ho.at_] at h1
  split at h1
  · exact absurd rfl h1
  · rename_i hne
    obtain ⟨e, he⟩ := List.exists_mem_of_ne_nil _ hne
    exact ⟨e, (List.mem_filter.1 he).1, partE_home e he⟩
theorem up_nodup {A : List EE} (h : valE A = true) : (A.map keyE).Nodup := by
  rw [← diffL_nodup]
  exact (valE_up h).imp fun {a b} hab h0 => by omega
theorem flat_perm {A : List EE} (h : valE A = true) {O : List CC} (hO : O.Perm (ordL A)) : (O.flatMap (partE A)).Perm A := by
  have hA : A.Nodup := (List.pairwise_map.1 (up_nodup h)).imp fun hab e => hab (by rw [e])
  have hon : O.Nodup := hO.nodup_iff.2 (by have := (partsOk A A.length (Nat.le_refl _)).nd; rw [List.take_length] at this; exact this)
  refine (List.perm_ext_iff_of_nodup ?_ hA).2 fun e => ?_
  · unfold List.flatMap List.Nodup
    rw [List.pairwise_flatten]
    refine ⟨fun l hl => ?_, ?_⟩
    · obtain ⟨c, _, rfl⟩ := List.mem_map.1 hl
      exact hA.filter _
    · rw [List.pairwise_map]
      refine hon.imp fun {a b} hab => ?_
      intro e h1 e2 h2 he
      subst he
      have g1 := partE_home e h1
      have g2 := partE_home e h2
      apply hab
      cases a; cases b
      simp only at g1 g2
      rw [← g1.1, ← g1.2, ← g2.1, ← g2.2]
  · rw [List.mem_flatMap]
    refine ⟨fun ⟨c, _, hc⟩ => (List.mem_filter.1 hc).1, fun he => ⟨_, hO.mem_iff.2 (ordL_has he), List.mem_filter.2 ⟨he, by simp⟩⟩⟩
theorem srt_self {A : List EE} (h : valE A = true) : srtL cmpE A = A := by
  symm
  refine srtL_uniq ord_E ((diffL_nodup _).2 (up_nodup h)) (List.Perm.refl _) ?_
  exact (valE_up h).imp fun {a b} hab => by unfold leI; rw [decide_eq_true_eq]; omega
theorem flat_sort {A : List EE} (h : valE A = true) {O : List CC} (hO : O.Perm (ordL A)) : srtL cmpE (O.flatMap (partE A)) = A := by
  rw [srtL_congr ord_E ((diffL_nodup _).2 (up_nodup h)) (flat_perm h hO), srt_self h]
theorem unpL_pack {A : List EE} (h : valE A = true) : unpL (packL A) = A := by
  unfold unpL packL
  rw [List.flatMap_map]
  have e : (srtL cmpCC (ordL A)).flatMap (fun c => decT ⟨c.X, c.Y, encP 0 (partE A c)⟩) = (srtL cmpCC (ordL A)).flatMap (partE A) := by
    congr 1; funext c; exact decT_pack h c
  rw [e]
  exact flat_sort h (srtL_perm _)
def unpOk (T : List TT) : Prop := ∃ A, valE A = true ∧ T = packL A
theorem tile_get {A : List EE} {O : List CC} {i : Nat} (h : i < O.length) : (tilesO A O).getD i eTl.dflt = ⟨(O.getD i eC.dflt).X, (O.getD i eC.dflt).Y, encP 0 (partE A (O.getD i eC.dflt))⟩ := by
  unfold tilesO
  rw [List.getD_eq_getElem?_getD, List.getD_eq_getElem?_getD, List.getElem?_map, List.getElem?_eq_getElem h]; rfl
theorem flat_take {A : List EE} {O : List CC} {k : Nat} (h : k < O.length) : (O.take (k + 1)).flatMap (partE A) = (O.take k).flatMap (partE A) ++ partE A (O.getD k eC.dflt) := by
  rw [List.take_add_one, List.getElem?_eq_getElem h, List.flatMap_append]
  simp only [Option.toList_some, List.flatMap_cons, List.flatMap_nil, List.append_nil, List.getD_eq_getElem?_getD, List.getElem?_eq_getElem h, Option.getD_some]
theorem sort_up (A : List EE) {i : Nat} (h0 : 0 < i) (hi : i < (srtL cmpCC (ordL A)).length) : cmpCC ((srtL cmpCC (ordL A)).getD (i - 1) eC.dflt) ((srtL cmpCC (ordL A)).getD i eC.dflt) < 0 := by
  have hs := srtL_sorted ord_C (ordL A)
  have hd := diffL_perm ord_C (ordL_diff A) (srtL_perm (cf := cmpCC) (ordL A))
  generalize srtL cmpCC (ordL A) = O at *
  have g1 := List.pairwise_iff_getElem.1 hs (i - 1) i (by omega) hi (by omega)
  have g2 := List.pairwise_iff_getElem.1 hd (i - 1) i (by omega) hi (by omega)
  unfold leI at g1
  rw [decide_eq_true_eq] at g1
  rw [List.getD_eq_getElem?_getD, List.getD_eq_getElem?_getD, List.getElem?_eq_getElem hi, List.getElem?_eq_getElem (show i - 1 < O.length by omega)]
  simp only [Option.getD_some]
  omega
theorem encP_drop {P : List EE} {i : Nat} (hi : i < P.length) : encP (nxtE (P.take i)) (P.drop i) = encP (nxtE (P.take i)) (P.getD i eE.dflt :: P.drop (i + 1)) := by
  rw [drop_cons eE.dflt hi]
theorem encP_len {P : List EE} : ∀ (l : List EE) (n : Int), 0 ≤ n → (∀ e ∈ l, (-1099511627776 ≤ e.H ∧ e.H ≤ 1099511627776) ∧ -1099511627776 ≤ e.P ∧ e.P ≤ 1099511627776) → (encP n l).length ≤ 30 * l.length
  | [], n, _, _ => by simp [encP]
  | e :: l, n, h0, hc => by
    have ih := encP_len (P := P) l (numE e + 1) (by have := numE_bd e; omega) (fun a ha => hc a (by simp [ha]))
    have hb := numE_bd e
    have h1 := hc e (by simp)
    have z1 := uintL_10 (n := (numE e - n).toNat) (by omega)
    have z2 := uintL_10 (n := zig e.H) (by have := zig_lt h1.1; omega)
    have z3 := uintL_10 (n := zig e.P) (by have := zig_lt h1.2; omega)
    rw [encP_cons]
    simp only [List.length_append, List.length_cons]
    omega
theorem encP_u8 : ∀ (l : List EE) (n : Int), u8s (encP n l)
  | [], _ => fun x h => by simp [encP] at h
  | e :: l, n => by
    rw [encP_cons]
    exact u8s_app (uintL_u8 _) (u8s_app (uintL_u8 _) (u8s_app (uintL_u8 _) (encP_u8 l _)))
theorem part_few {P : List EE} (h : PartOk P) : P.length ≤ 256 := by
  have key : ∀ i (hi : i < P.length), (i : Int) ≤ numE P[i] := by
    intro i
    induction i with
    | zero => intro hi; have := numE_bd P[0]; omega
    | succ i ih =>
      intro hi
      have h1 := ih (by omega)
      have h2 := List.pairwise_iff_getElem.1 h.up i (i + 1) (by omega) hi (by omega)
      omega
  rcases Nat.lt_or_ge 256 P.length with g | g
  · have h1 := key 256 g
    have h2 := numE_bd P[256]
    omega
  · exact g
theorem entP_of {A : List EE} (hv : valE A = true) {c : CC} {i : Nat} (hi : i < (partE A c).length) : entP c.X c.Y (nxtE ((partE A c).take i)) (encP (nxtE ((partE A c).take i)) ((partE A c).drop i)) := by
  have hP := partE_ok hv c
  have hm := getE_mem hi
  have hc := hP.cnt _ hm
  have ha := hP.at_ _ hm
  have hh := partE_home _ hm
  have hn := nxtE_le hP hi
  have hb := numE_bd ((partE A c).getD i eE.dflt)
  have hf := part_few hP
  obtain ⟨c1, c2⟩ := numE_cell hh
  have hg : (((numE ((partE A c).getD i eE.dflt) - nxtE ((partE A c).take i)).toNat : Nat) : Int) = numE ((partE A c).getD i eE.dflt) - nxtE ((partE A c).take i) := Int.toNat_of_nonneg (by omega)
  have hz : ((partE A c).getD i eE.dflt).H ≠ 0 ∨ ((partE A c).getD i eE.dflt).P ≠ 0 := by
    obtain ⟨_, hall⟩ := valE_get hv
    have hmA := (List.mem_filter.1 hm).1
    obtain ⟨k, hk, hke⟩ := List.getElem_of_mem hmA
    have := hall k hk
    unfold okE goodE at this
    rw [List.getD_eq_getElem?_getD (l := A), List.getElem?_eq_getElem hk, Option.getD_some, hke] at this
    simp only [Bool.and_eq_true, decide_eq_true_eq] at this
    exact this.1.1.1.2
  refine ⟨(numE ((partE A c).getD i eE.dflt) - nxtE ((partE A c).take i)).toNat, _, _, encP (numE ((partE A c).getD i eE.dflt) + 1) ((partE A c).drop (i + 1)), by rw [encP_drop hi, encP_cons], ?_, encP_u8 _ _, hn.1, ?_, hc.1, hc.2, hz, ?_⟩
  · have := encP_len (P := []) ((partE A c).drop i) (nxtE ((partE A c).take i)) hn.1 (fun e he => hP.cnt e (List.mem_of_mem_drop he))
    rw [List.length_drop] at this
    omega
  · rw [hg]; omega
  · rw [hg, show nxtE ((partE A c).take i) + (numE ((partE A c).getD i eE.dflt) - nxtE ((partE A c).take i)) = numE ((partE A c).getD i eE.dflt) by omega, c1, c2]
    exact ha
theorem home_win {A : List EE} (hv : valE A = true) {c : CC} (hc : c ∈ ordL A) : winB c.X 1024 = true ∧ winB c.Y 1024 = true := by
  obtain ⟨e, he, h1, h2⟩ := ordL_of hc
  obtain ⟨k, hk, rfl⟩ := List.getElem_of_mem he
  have := okE_good ((valE_get hv).2 k hk)
  rw [List.getD_eq_getElem?_getD, List.getElem?_eq_getElem hk, Option.getD_some] at this
  unfold winB
  rw [decide_eq_true_eq, decide_eq_true_eq]
  omega
theorem part_ne {A : List EE} {c : CC} (hc : c ∈ ordL A) : 0 < (partE A c).length := by
  obtain ⟨e, he, h1, h2⟩ := ordL_of hc
  exact List.length_pos_of_mem (List.mem_filter.2 ⟨he, by simp [h1, h2]⟩)
section
open Go.Sx
theorem told_dup {S : St} (s i m sz : Nat) (f : Nat → Nat → SC) (hs : lk S.env s = some (.o (.c (.n i)))) (hi : lk S.ents i = some (.ro m sz f)) : Go.Sx.Told S (fun _ : Unit => ⟨(s, .o (.c (.n S.next))) :: S.env, (S.next, .ro m sz f) :: S.ents, S.next + 1⟩) := by
  intro base M N n0 r0 r a w hr
  have hne : ∀ i, upto S.next i → i ≠ S.next := fun i hi => Nat.ne_of_lt hi
  have hil := hr.scH i _ hi
  have hrel := hr.heap.ent i _ hi
  have hb : ∀ b, blkOf (r i) = some b → ∃ j e0, lk S.ents j = some e0 ∧ e0.live = true ∧ e0.mut = false ∧ blkOf (r j) = some b := fun b hb => ⟨i, _, hi, rfl, rfl, hb⟩
  have hv := hr.heap.view (c := S.next) (V := r i) (e := .ro m sz f) (fun j x hx => ⟨hne j (hr.scH j x hx).1, Ent.sc_mono hne (hr.scH j x hx).2⟩) (hr.heap.one i) (fun _ _ => rfl) hb (Ent.rel_ext (e := .ro m sz f) (m := upto S.next) (fun j hj => more_ne j (hne j hj)) hil.2 hrel)
  refine ⟨(), more r S.next (r i), hr.defers, hr.tmps, fun t v hl => ?_, hv.congrE (fun j => ?_), fun t v hl => ?_, fun k x hx => ?_, Nat.le_trans hr.low (Nat.le_succ _), fun j hj => ?_⟩
  · simp only [lk] at hl
    split at hl
    · rename_i h2
      cases hl
      subst h2
      have := hr.slot _ _ hs
      rw [this]
      show r i = more r S.next (r i) S.next
      rw [more_new]
    · rw [SV.den_ext (m := upto S.next) (fun i hi => more_ne i (hne i hi)) (hr.scE t v hl)]
      exact hr.slot t v hl
  · simp only [lk]
    rw [upd_one]
  · simp only [lk] at hl
    split at hl
    · cases hl; exact Nat.lt_succ_self _
    · exact SV.sc_mono (upto_mono (Nat.le_succ _)) (hr.scE t v hl)
  · simp only [lk] at hx
    split at hx
    · rename_i h2; cases hx; subst h2
      exact ⟨Nat.lt_succ_self _, Ent.sc_mono (x := Ent.ro m sz f) (upto_mono (Nat.le_succ _)) hil.2⟩
    · have := hr.scH _ _ hx
      exact ⟨Nat.lt_succ_of_lt this.1, Ent.sc_mono (upto_mono (Nat.le_succ _)) this.2⟩
  · rw [more_ne j (Nat.ne_of_lt (Nat.lt_of_lt_of_le hj hr.low))]
    exact hr.keep j hj
end
theorem flat_le {α β : Type} (f : α → List β) (O : List α) (k : Nat) : ((O.take k).flatMap f).length ≤ (O.flatMap f).length := by
  conv => rhs; rw [← List.take_append_drop k O]
  rw [List.flatMap_append, List.length_append]; omega
theorem valE_good {A : List EE} (h : valE A = true) : ∀ e ∈ A, goodE e = true := by
  intro e he
  obtain ⟨k, hk, rfl⟩ := List.getElem_of_mem he
  have := (valE_get h).2 k hk
  unfold okE at this
  rw [List.getD_eq_getElem?_getD, List.getElem?_eq_getElem hk, Option.getD_some, Bool.and_eq_true] at this
  exact this.1
theorem valE_srt {T : List EE} (hd : (T.map keyE).Nodup) (hg : ∀ e ∈ T, goodE e = true) (hl : T.length ≤ 1048576) : valE (srtL cmpE T) = true := by
  have hs := srtL_sorted ord_E T
  have hd2 := diffL_perm ord_E ((diffL_nodup _).2 hd) (srtL_perm (cf := cmpE) T)
  have hm : ∀ e ∈ srtL cmpE T, goodE e = true := fun e he => hg e ((srtL_perm _).mem_iff.1 he)
  have hln := srtL_len (cf := cmpE) T
  generalize srtL cmpE T = L at *
  unfold valE
  rw [Bool.and_eq_true, decide_eq_true_eq, decide_eq_true_eq]
  refine ⟨fun k hk => ?_, by omega⟩
  unfold okE
  rw [Bool.and_eq_true, Bool.or_eq_true, decide_eq_true_eq, decide_eq_true_eq]
  refine ⟨hm _ (getE_mem hk), ?_⟩
  rcases Nat.eq_zero_or_pos k with g | g
  · exact .inl g
  · right
    have g1 := List.pairwise_iff_getElem.1 hs (k - 1) k (by omega) hk (by omega)
    have g2 := List.pairwise_iff_getElem.1 hd2 (k - 1) k (by omega) hk (by omega)
    unfold leI at g1
    rw [decide_eq_true_eq] at g1
    rw [List.getD_eq_getElem?_getD, List.getD_eq_getElem?_getD, List.getElem?_eq_getElem hk, List.getElem?_eq_getElem (show k - 1 < L.length by omega)]
    simp only [Option.getD_some]
    omega
def cellE (e : EE) : Prop := (-16384 ≤ e.X ∧ e.X ≤ 16384) ∧ -16384 ≤ e.Y ∧ e.Y ≤ 16384
theorem good_cell {e : EE} (h : goodE e = true) : cellE e := by
  unfold goodE winB at h
  simp only [Bool.and_eq_true, decide_eq_true_eq] at h
  exact ⟨h.1.2, h.2⟩
theorem addL_cell {T : List EE} (hT : ∀ e ∈ T, cellE e) : ∀ {L : List EE}, (∀ e ∈ L, cellE e) → ∀ e ∈ addL T L, cellE e
  | [], _ => hT
  | a :: L, hL => by
    have ha := hL a (by simp)
    exact addL_cell (T := addT T a.X a.Y a.H a.P) (addT_all hT ha (fun e _ _ => ha)) (fun e he => hL e (by simp [he]))
theorem good_of {e : EE} (h1 : cntB e = true) (h2 : posE e) (h3 : cellE e) : goodE e = true := by
  obtain ⟨p1, p2, p3⟩ := h2
  obtain ⟨c1, c2⟩ := h3
  unfold goodE winB
  rw [h1]
  simp only [Bool.true_and, Bool.and_eq_true, decide_eq_true_eq]
  exact ⟨⟨by omega, c1⟩, c2⟩
theorem sumT_ok {A B : List EE} (va : valE A = true) (vb : valE B = true) (pa : posL A) (pb : posL B) : TalOk (sumT A B) (0 + A.length + B.length) := (talOk_nil.addL (valE_all va pa)).addL (valE_all vb pb)
theorem valE_sum {A B : List EE} (va : valE A = true) (vb : valE B = true) (pa : posL A) (pb : posL B) (hc : (sumT A B).all cntB = true) (hl : (sumT A B).length ≤ 1048576) : valE (srtL cmpE (sumT A B)) = true := by
  have hT := sumT_ok va vb pa pb
  rw [List.all_eq_true] at hc
  refine valE_srt hT.nd (fun e he => good_of (hc e he) (hT.pos e he) ?_) hl
  exact addL_cell (addL_cell (fun _ h => by cases h) (fun e he => good_cell (valE_good va e he))) (fun e he => good_cell (valE_good vb e he)) e he
theorem unpOk_val {T : List TT} (h : unpOk T) : valE (unpL T) = true ∧ packL (unpL T) = T := by
  obtain ⟨A, hv, rfl⟩ := h
  rw [unpL_pack hv]; exact ⟨hv, rfl⟩
def x16 : XFn := ⟨9, (.seq (.reg false [K1 2 .mv (.slice none 0 0), K1 3 .mv (iV 0)]) (.seq (.seq (.reg false [O1 4 .mv 0, O1 5 (.call 52) 4, O1 6 (.un .not) 5]) (.cond (.t 6) (.seq (.reg false [K1 2 .mv (.slice none 0 0), K1 3 .mv (iV 1)]) .ret) .skip)) (.seq (.reg false [O1 7 .mv 0, O1 8 (.call 53) 7, O1 2 .mv 8, K1 3 .mv (iV 0)]) .ret))), [(.s 2), (.s 3)]⟩
theorem x16_ok : xfn Tryz.prog Tryz.f16 = some x16.er := by kernel_rfl
def x19L0 : XC := (.seq (.seq (.reg false [O1 60 .mv 8, O1 61 .lenS 60, K2 62 (.bin .gtr) 61 (iV 0)]) (.cond (.t 62) .skip (.exit 2))) (.block 3 (.seq (.reg false [⟨(some 9), (.alloc 119 [(iV 0), (iV 0), (iV 0), (iV 0)]), [], none⟩]) (.seq (.reg false [K1 10 .mv (iV 0)]) (.seq (.reg false [O1 64 (.loadN 3) 6, O1 65 .mv 7, O1 66 .mv 8, ⟨(some 67), (.call 57), [(.t 64), (.t 65), (.t 66)], none⟩, O1 63 .mv 67, O1 68 (.ext 0) 63, O1 69 (.ext 1) 63, O1 70 (.ext 2) 63, O1 71 (.ext 3) 63, ⟨none, (.store 4), [(.t 9), (.t 68)], none⟩, O1 7 .mv 69, O1 8 .mv 70, O1 10 .mv 71]) (.seq (.seq (.reg false [O1 72 .mv 10, K2 73 (.bin .neq) 72 (iV 0)]) (.cond (.t 73) (.seq (.reg false [O1 74 .mv 10, K1 2 .mv (.slice none 0 0), O1 3 .mv 74]) .ret) .skip)) (.reg false [O1 75 .mv 4, O1 76 (.loadN 4) 9, ⟨(some 77), (.slit 119 1 4 [(iV 0), (iV 0), (iV 0), (iV 0)] [(0, 4)]), [(.t 76)], none⟩, O2 78 (.app 119 4 32) 75 77, O1 4 .mv 78])))))))
def x19L1 : XC := (.seq (.reg false [O2 14 (.bin .lss) 13 12]) (.seq (.cond (.t 14) .skip (.exit 0)) (.seq (.opn 11 13 2 (.block 1 (.seq (.reg false [O1 15 .mv 13, O2 16 (.ixS 3) 11 13, O1 17 (.loadN 3) 16, ⟨(some 6), (.alloc 116 [(iV 0), (iV 0), (.slice none 0 0)]), [], none⟩, O1 5 .mv 15, ⟨none, (.store 3), [(.t 6), (.t 17)], none⟩]) (.seq (.seq (.reg true [O1 18 .mv 5, K2 19 (.bin .gtr) 18 (iV 0), O1 20 .mv 19, G1 21 .mv 0 20 true, G1 22 .mv 5 20 true, GK 23 (.bin .sub) 22 (iV 1) 20 true, G2 24 (.ixS 3) 21 23 20 true, G1 25 (.fld 0) 24 20 true, G1 26 .load1 25 20 true, G1 27 .mv 0 20 true, G1 28 .mv 5 20 true, GK 29 (.bin .sub) 28 (iV 1) 20 true, G2 30 (.ixS 3) 27 29 20 true, G1 31 (.fld 1) 30 20 true, G1 32 .load1 31 20 true, ⟨(some 33), (.build [(iV 0), (iV 0)] [(0, 1), (1, 1)]), [(.t 26), (.t 32)], (some (20, true))⟩, G1 34 (.fld 0) 6 20 true, G1 35 .load1 34 20 true, G1 36 (.fld 1) 6 20 true, G1 37 .load1 36 20 true, ⟨(some 38), (.build [(iV 0), (iV 0)] [(0, 1), (1, 1)]), [(.t 35), (.t 37)], (some (20, true))⟩, G2 39 (.call 55) 33 38 20 true, GK 40 (.bin .geq) 39 (iV 0) 20 true, ⟨(some 41), .pick, [(.t 20), (.t 40), (.k (.bool false))], none⟩, O1 42 .mv 41, G1 43 (.fld 0) 6 42 false, G1 44 .load1 43 42 false, GK 45 (.call 56) 44 (iV 1024) 42 false, G1 46 (.un .not) 45 42 false, ⟨(some 47), .pick, [(.t 42), (.k (.bool true)), (.t 46)], none⟩, O1 48 .mv 47, G1 49 (.fld 1) 6 48 false, G1 50 .load1 49 48 false, GK 51 (.call 56) 50 (iV 1024) 48 false, G1 52 (.un .not) 51 48 false, ⟨(some 53), .pick, [(.t 48), (.k (.bool true)), (.t 52)], none⟩]) (.cond (.t 53) (.seq (.reg false [K1 2 .mv (.slice none 0 0), K1 3 .mv (iV 1)]) .ret) .skip)) (.seq (.seq (.reg false [O1 54 (.fld 2) 6, O1 55 .load1 54, O1 56 .lenS 55, K2 57 (.bin .eql) 56 (iV 0)]) (.cond (.t 57) (.seq (.reg false [K1 2 .mv (.slice none 0 0), K1 3 .mv (iV 3)]) .ret) .skip)) (.seq (.reg true [O1 58 (.fld 2) 6, O1 59 .load1 58, K1 7 .mv (iV 0), O1 8 .mv 59]) (.gst (.block 2 (.loop x19L0))))))))) (.reg false [K2 79 (.bin .add) 13 (iV 1), O1 13 .mv 79]))))
def x19 : XFn := ⟨86, (.seq (.reg false [K1 2 .mv (.slice none 0 0), K1 3 .mv (iV 0)]) (.seq (.reg false [K1 4 .mv (.slice none 0 0)]) (.seq (.seq (.reg false [O1 11 .mv 0, O1 12 .lenS 11, K1 13 .mv (iV 0)]) (.block 0 (.loop x19L1))) (.seq (.seq (.reg false [O1 80 .mv 4, O1 81 .lenS 80, K2 82 (.bin .gtr) 81 (iV 1048576)]) (.cond (.t 82) (.seq (.reg false [K1 2 .mv (.slice none 0 0), K1 3 .mv (iV 6)]) .ret) .skip)) (.seq (.reg false [O1 83 .mv 4, ⟨(some 84), (.call 58), [(.t 83), (.k (.func (.func 59) #[] #[]))], none⟩]) (.seq (.reg false [O1 85 .mv 4, O1 2 .mv 85, K1 3 .mv (iV 0)]) .ret)))))), [(.s 2), (.s 3)]⟩
theorem x19_ok : xfn Tryz.prog Tryz.f19 = some x19.er := by kernel_rfl
def x17 : XFn := ⟨37, (.seq (.reg false [K1 4 .mv (.slice none 0 0), K1 5 .mv (iV 0)]) (.seq (.reg false [O1 11 .mv 0, O1 12 (.call 19) 11, O1 10 .mv 12, O1 13 (.ext 0) 10, O1 14 (.ext 1) 10, O1 6 .mv 13, O1 7 .mv 14]) (.seq (.seq (.reg false [O1 15 .mv 7, K2 16 (.bin .neq) 15 (iV 0)]) (.cond (.t 16) (.seq (.reg false [O1 17 .mv 7, K1 4 .mv (.slice none 0 0), O1 5 .mv 17]) .ret) .skip)) (.seq (.reg false [O1 19 .mv 1, O1 20 (.call 19) 19, O1 18 .mv 20, O1 21 (.ext 0) 18, O1 22 (.ext 1) 18, O1 8 .mv 21, O1 7 .mv 22]) (.seq (.seq (.reg false [O1 23 .mv 7, K2 24 (.bin .neq) 23 (iV 0)]) (.cond (.t 24) (.seq (.reg false [O1 25 .mv 7, K1 4 .mv (.slice none 0 0), O1 5 .mv 25]) .ret) .skip)) (.seq (.reg false [O1 27 .mv 6, O1 28 .mv 8, O2 29 (.call 15) 27 28, O1 26 .mv 29, O1 30 (.ext 0) 26, O1 31 (.ext 1) 26, O1 9 .mv 30, O1 7 .mv 31]) (.seq (.seq (.reg false [O1 32 .mv 7, K2 33 (.bin .neq) 32 (iV 0)]) (.cond (.t 33) (.seq (.reg false [O1 34 .mv 7, K1 4 .mv (.slice none 0 0), O1 5 .mv 34]) .ret) .skip)) (.seq (.reg false [O1 35 .mv 9, O1 36 (.call 53) 35, O1 4 .mv 36, K1 5 .mv (iV 0)]) .ret)))))))), [(.s 4), (.s 5)]⟩
theorem x17_ok : xfn Tryz.prog Tryz.f17 = some x17.er := by kernel_rfl
noncomputable def g16 : Con := fun args_ E_ nn_ => match args_ with
  | [.c (.n l)] => (match rowOf E_ l with
    | some (l_n, l_s, l_f) => some (.d (isRow eE l_n l_s l_f ∧ valE (decL eE l_n l_f) = true) (fun G_ => True) (fun G_ => .t [.c (.n (nn_ + 0)), .c (.v (.int .i64 (0)))]) (fun G_ => [((nn_ + 0), .deep (some 116) (packL (decL eE l_n l_f)).length 3 (deepF eTl (packL (decL eE l_n l_f)) G_) (deepC eTl (packL (decL eE l_n l_f))) []), (l, .ro ((decL eE l_n l_f)).length 4 (rowF eE ((decL eE l_n l_f))))]) (nn_ + 1))
    | none => none)
  | _ => none
theorem c16 : COk Tryz.prog 16 g16 := by
  refine cok_g Tryz.func16 x16_ok (by kernel_rfl) (cok_tab (cok_cons c52 (cok_cons c53 cok_nil))) ?_
  intro args_ E_ nn_ cr_ hg_
  unfold g16 at hg_
  split at hg_
  · rename_i l
    split at hg_
    · rename_i l_n l_s l_f h_l
      cases hg_
      refine ⟨_, _, _, _, _, rfl, 1, [l], [.c (.n 0)], [(0, .ro (decL eE l_n l_f).length eE.sz (rowF eE (decL eE l_n l_f)))], (fun G_ => .t [.c (.n 1), .c (.v (.int .i64 (0)))]), (fun G_ => [(1, .deep (some 116) (packL (decL eE l_n l_f)).length 3 (deepF eTl (packL (decL eE l_n l_f)) G_) (deepC eTl (packL (decL eE l_n l_f))) []), (0, .ro ((decL eE l_n l_f)).length 4 (rowF eE ((decL eE l_n l_f))))]), 2, rfl, (fun _ => rfl), (fun _ => by simp only [renE, Ent.ren, renAl, rowF_renf] <;> rfl), rfl, by decide, by simp only [push_cast, Nat.reduceLT, Nat.reduceAdd], by simp only [push_cast, Nat.reduceLT, Nat.reduceAdd], (fun _ => by simp only [push_cast, Nat.reduceLT, Nat.reduceAdd]), (fun _ => by simp only [push_cast, Nat.reduceLT, Nat.reduceAdd]), rfl, ⟨inE0_row h_l, trivial⟩, (fun _ => by simp only [keysNodup, outN, keys] <;> decide), (fun _ => rfl), (fun _ => .inr ⟨.inl rfl, trivial⟩), ?_⟩
      intro hpre hlen
      obtain ⟨i_l, hpre⟩ := hpre
      refine ⟨⟨inE_row h_l i_l, trivial⟩, by simp only [apartE] <;> (first | trivial | (simp [Ent.mut]; done)), ?_⟩
      have z_l := lens_row (E := eE) hlen h_l
      clear i_l
      generalize decL eE l_n l_f = lL at *
      clear h_l
      simp (maxSteps := 9999999) only [x16, push_cast, simprocAttr, g52, g53, hpre]
      exact fun V => ⟨V, fun _ _ _ _ => ⟨rfl, cEq_refl _⟩⟩
    · cases hg_
  · cases hg_
noncomputable def g19 : Con := fun args_ E_ nn_ => match args_ with
  | [.c (.n l)] => (match rowD eTl.sz E_ l with
    | some (l_n, l_s, l_f, l_c) => some (.e (isDeep eTl l_n l_s l_f l_c ∧ unpOk (decD eTl l_n l_f l_c)) (.t [.c (.n (nn_ + 0)), .c (.v (.int .i64 (0)))]) [((nn_ + 0), .own (unpL (decD eTl l_n l_f l_c)).length 4 (rowF eE (unpL (decD eTl l_n l_f l_c))) 119)] (nn_ + 1))
    | none => none)
  | _ => none
theorem c19 : COk Tryz.prog 19 g19 := by
  refine cok_d Tryz.func19 x19_ok (by kernel_rfl) (cok_tab (cok_cons c57 (cok_cons c55 (cok_cons c56 (cok_cons c58u cok_nil))))) ?_
  intro args_ E_ nn_ cr_ hg_
  unfold g19 at hg_
  split at hg_
  · rename_i l
    split at hg_
    · rename_i l_n l_s l_f l_c h_l
      cases hg_
      refine ⟨_, _, _, _, rfl, 1, [l], [.c (.n 0)], [(0, .deep none (decD eTl l_n l_f l_c).length eTl.sz (deepF eTl (decD eTl l_n l_f l_c) l_f) (deepC eTl (decD eTl l_n l_f l_c)) [])], .t [.c (.n 1), .c (.v (.int .i64 (0)))], [(1, .own (unpL (decD eTl l_n l_f l_c)).length 4 (rowF eE (unpL (decD eTl l_n l_f l_c))) 119)], 2, rfl, rfl, by simp only [renE, Ent.ren, rowF_renf] <;> rfl, rfl, by decide, and4 (by simp only [push_cast, Nat.reduceLT, Nat.reduceAdd]) ⟨rfl, ⟨inE0_deep h_l, trivial⟩, by simp only [keysNodup, outN, keys] <;> decide, rfl, .inl rfl, ?_⟩⟩
      intro hpre hlen
      obtain ⟨i_l, hpre⟩ := hpre
      refine ⟨⟨inE_deep h_l i_l, trivial⟩, by simp only [apartE] <;> (first | trivial | (simp [Ent.mut]; done)), ?_⟩
      have z_l := lens_deep (D := eTl) hlen h_l
      clear i_l
      generalize decD eTl l_n l_f l_c = lL at *
      clear h_l
      obtain ⟨A, hv, rfl⟩ := hpre
      have hul := unpL_pack hv
      obtain ⟨hAl, hall⟩ := valE_get hv
      simp (maxSteps := 9999999) only [x19, push_cast, simprocAttr, g57, g55, g56, g58u, hul]
      have hpk : packL A = tilesO A (srtL cmpCC (ordL A)) := rfl
      have hob : (srtL cmpCC (ordL A)).length ≤ A.length := by
        have := ordL_len (A := A) A.length (Nat.le_refl _)
        rw [List.take_length] at this
        rw [sort_len]; exact this
      have hso := fun i => sort_up A (i := i)
      have hmo : ∀ c ∈ srtL cmpCC (ordL A), c ∈ ordL A := fun c h => (srtL_perm _).mem_iff.1 h
      have hfs := flat_sort hv (srtL_perm (cf := cmpCC) (ordL A))
      have hfp := flat_perm hv (srtL_perm (cf := cmpCC) (ordL A))
      rw [hpk]
      generalize srtL cmpCC (ordL A) = O at *
      have hol : (tilesO A O).length = O.length := by unfold tilesO; rw [List.length_map]
      refine vcLoop_upd (α := {k : Nat // k ≤ O.length}) [0, 11, 12] 1 (fun s => [(4, .o (.c (.n 1))), (13, .o (.c (.v (.int .i64 (s.1 : Nat)))))]) (fun s => [(1, .own ((O.take s.1).flatMap (partE A)).length 4 (rowF eE ((O.take s.1).flatMap (partE A))) 119)]) (fun s => O.length - s.1) ⟨0, by omega⟩ ?_ ?_
      · simp only [push_cast, simprocAttr, g57, g55, g56, g58u, hul]
        rfl
      rintro ⟨k, hk⟩
      by_cases hlt : k < O.length
      · have htg := tile_get (A := A) hlt
        simp only [x19L1, push_cast, simprocAttr, g57, g55, g56, g58u, hul, hol, hlt, htg]
        have hft := flat_take (A := A) hlt
        have hcm := hmo _ (getC_mem hlt)
        have hwn := home_win hv hcm
        have hpn := part_ne hcm
        have hk1 : 0 < (k : Int) → IntKind.i64.wrap ((k : Int) - 1) = ((k - 1 : Nat) : Int) := fun h => by rw [wrapI (by omega) (by omega)]; omega
        refine ⟨fun h => ⟨h, by rw [hk1 h]; omega, by rw [hk1 h]; omega⟩, fun h => ⟨h, by rw [hk1 h]; omega⟩, fun h => ⟨h, by rw [hk1 h]; omega, by rw [hk1 h]; omega⟩, fun h => ⟨h, by rw [hk1 h]; omega⟩, ?_, fun _ _ _ => ⟨fun h => ?_, fun _ => ?_⟩⟩
        · rintro ((⟨h1, h2⟩ | h) | h)
          · rw [hk1 h1, Int.toNat_natCast, tile_get (A := A) (by omega)] at h2
            have := hso k (by omega) hlt
            unfold cmpCC at this
            simp only at h2
            omega
          · rw [hwn.1] at h; cases h
          · rw [hwn.2] at h; cases h
        · have := encP_long (partE A (O.getD k eC.dflt)) 0
          omega
        have hfl := flat_le (partE A) O (k + 1)
        rw [hft, List.length_append, hfp.length_eq] at hfl
        have hep := fun i (hi : i < (partE A (O.getD k eC.dflt)).length) => entP_of hv hi
        have hP := partE_ok hv (O.getD k eC.dflt)
        have hph := partE_home (A := A) (c := O.getD k eC.dflt)
        generalize O.getD k eC.dflt = c at *
        generalize partE A c = P at *
        refine ⟨Unit, _, told_dup 8 2 _ _ _ rfl rfl, fun _ => ?_⟩
        simp only [push_cast, simprocAttr, g57, g55, g56, g58u, hul]
        refine vcLoop_upd (α := {i : Nat // i ≤ P.length}) [0, 6, 11, 12, 13] 2 (fun s => [(4, .o (.c (.n 6))), (7, .o (.c (.v (.int .i64 (nxtE (P.take s.1)))))), (8, .o (.c (.n 5)))]) (fun s => [(5, .ro (encP (nxtE (P.take s.1)) (P.drop s.1)).length 1 (rowF eU8 (encP (nxtE (P.take s.1)) (P.drop s.1)))), (6, .own ((O.take k).flatMap (partE A) ++ P.take s.1).length 4 (rowF eE ((O.take k).flatMap (partE A) ++ P.take s.1)) 119), (1, .dead)]) (fun s => P.length - s.1) ⟨0, by omega⟩ ?_ ?_
        · simp only [push_cast, simprocAttr, g57, g55, g56, g58u, hul]
          exact ⟨rfl, same_eq rfl, same_eq (by rw [List.take_zero, List.append_nil]), hlt⟩
        rintro ⟨i, hi⟩
        simp only [x19L0, push_cast, simprocAttr, g57, g55, g56, g58u, hul]
        refine ⟨fun hpos => ?_, fun hz => ?_⟩
        · have hil : i < P.length := by
            rcases Nat.lt_or_ge i P.length with g | g
            · exact g
            · rw [List.drop_eq_nil_of_le g] at hpos; simp [encP] at hpos
          have he := hep i hil
          have hnx := nxtE_le hP hil
          obtain ⟨r1, r2, r3, r4⟩ := rd_head (l := P.drop (i + 1)) hnx.2 hnx.1 (hP.cnt _ (getE_mem hil))
          obtain ⟨c1, c2⟩ := numE_cell (hph _ (getE_mem hil))
          have hq : nxtE (P.take i) + (numE (P.getD i eE.dflt) - nxtE (P.take i)) = numE (P.getD i eE.dflt) := by omega
          have hns := nxtE_snoc hil
          rw [encP_drop hil] at he ⊢
          rw [r1, r2, r3, r4, hq, c1, c2]
          refine ⟨he, by rw [List.length_append, List.length_take]; omega, ⟨i + 1, by omega⟩, ⟨hns.symm, same_eq (by rw [hns]), push_eq (E := eE) (x := P.getD i eE.dflt) ?_, hlt⟩, by simp only; omega⟩
          rw [List.take_add_one, List.getElem?_eq_getElem hil, List.getD_eq_getElem?_getD, List.getElem?_eq_getElem hil, List.append_assoc]
          rfl
        · have hil : i = P.length := by
            rcases Nat.lt_or_ge i P.length with g | g
            · have := encP_long (P.drop i) (nxtE (P.take i))
              rw [List.length_drop] at this
              omega
            · omega
          subst hil
          exact ⟨⟨k + 1, by omega⟩, ⟨wrapI (by omega) (by omega), same_eq (by rw [hft, List.take_length])⟩, by simp only; omega⟩
      simp only [x19L1, push_cast, simprocAttr, g57, g55, g56, g58u, hul, hol, hlt]
      obtain rfl : k = O.length := by omega
      rw [List.take_length, hfs]
      have hl := hfp.length_eq
      exact ⟨fun h => by omega, fun _ => ⟨⟨by omega, diffL_perm ord_E ((diffL_nodup _).2 (up_nodup hv)) hfp⟩, hl, (rowEq_rowF _ _ _ _).2 trivial⟩⟩
    · cases hg_
  · cases hg_
noncomputable def g17 : Con := fun args_ E_ nn_ => match args_ with
  | [.c (.n a), .c (.n b)] => (match rowD eTl.sz E_ a with
    | some (a_n, a_s, a_f, a_c) => (match rowD eTl.sz E_ b with
    | some (b_n, b_s, b_f, b_c) => some (.d (isDeep eTl a_n a_s a_f a_c ∧ isDeep eTl b_n b_s b_f b_c ∧ (unpOk (decD eTl a_n a_f a_c) ∧ unpOk (decD eTl b_n b_f b_c)) ∧ (posL (unpL (decD eTl a_n a_f a_c)) ∧ posL (unpL (decD eTl b_n b_f b_c))) ∧ (sumT (unpL (decD eTl a_n a_f a_c)) (unpL (decD eTl b_n b_f b_c))).all cntB = true ∧ (sumT (unpL (decD eTl a_n a_f a_c)) (unpL (decD eTl b_n b_f b_c))).length ≤ 1048576) (fun G_ => True) (fun G_ => .t [.c (.n (nn_ + 0)), .c (.v (.int .i64 (0)))]) (fun G_ => [((nn_ + 0), .deep (some 116) (packL (srtL cmpE (sumT (unpL (decD eTl a_n a_f a_c)) (unpL (decD eTl b_n b_f b_c))))).length 3 (deepF eTl (packL (srtL cmpE (sumT (unpL (decD eTl a_n a_f a_c)) (unpL (decD eTl b_n b_f b_c))))) G_) (deepC eTl (packL (srtL cmpE (sumT (unpL (decD eTl a_n a_f a_c)) (unpL (decD eTl b_n b_f b_c)))))) []), (a, .deep none ((decD eTl a_n a_f a_c)).length 3 (deepF eTl ((decD eTl a_n a_f a_c)) a_f) (deepC eTl ((decD eTl a_n a_f a_c))) []), (b, .deep none ((decD eTl b_n b_f b_c)).length 3 (deepF eTl ((decD eTl b_n b_f b_c)) b_f) (deepC eTl ((decD eTl b_n b_f b_c))) [])]) (nn_ + 1))
    | none => none)
    | none => none)
  | _ => none
theorem c17 : COk Tryz.prog 17 g17 := by
  refine cok_g Tryz.func17 x17_ok (by kernel_rfl) (cok_tab (cok_cons c19 (cok_cons c15 (cok_cons c53 cok_nil)))) ?_
  intro args_ E_ nn_ cr_ hg_
  unfold g17 at hg_
  split at hg_
  · rename_i a b
    split at hg_
    · rename_i a_n a_s a_f a_c h_a
      split at hg_
      · rename_i b_n b_s b_f b_c h_b
        cases hg_
        refine ⟨_, _, _, _, _, rfl, 2, [a, b], [.c (.n 0), .c (.n 1)], [(0, .deep none (decD eTl a_n a_f a_c).length eTl.sz (deepF eTl (decD eTl a_n a_f a_c) a_f) (deepC eTl (decD eTl a_n a_f a_c)) []), (1, .deep none (decD eTl b_n b_f b_c).length eTl.sz (deepF eTl (decD eTl b_n b_f b_c) b_f) (deepC eTl (decD eTl b_n b_f b_c)) [])], (fun G_ => .t [.c (.n 2), .c (.v (.int .i64 (0)))]), (fun G_ => [(2, .deep (some 116) (packL (srtL cmpE (sumT (unpL (decD eTl a_n a_f a_c)) (unpL (decD eTl b_n b_f b_c))))).length 3 (deepF eTl (packL (srtL cmpE (sumT (unpL (decD eTl a_n a_f a_c)) (unpL (decD eTl b_n b_f b_c))))) G_) (deepC eTl (packL (srtL cmpE (sumT (unpL (decD eTl a_n a_f a_c)) (unpL (decD eTl b_n b_f b_c)))))) []), (0, .deep none ((decD eTl a_n a_f a_c)).length 3 (deepF eTl ((decD eTl a_n a_f a_c)) a_f) (deepC eTl ((decD eTl a_n a_f a_c))) []), (1, .deep none ((decD eTl b_n b_f b_c)).length 3 (deepF eTl ((decD eTl b_n b_f b_c)) b_f) (deepC eTl ((decD eTl b_n b_f b_c))) [])]), 3, rfl, (fun _ => rfl), (fun _ => by simp only [renE, Ent.ren, renAl, rowF_renf] <;> rfl), rfl, by decide, by simp only [push_cast, Nat.reduceLT, Nat.reduceAdd], by simp only [push_cast, Nat.reduceLT, Nat.reduceAdd], (fun _ => by simp only [push_cast, Nat.reduceLT, Nat.reduceAdd]), (fun _ => by simp only [push_cast, Nat.reduceLT, Nat.reduceAdd]), rfl, ⟨inE0_deep h_a, inE0_deep h_b, trivial⟩, (fun _ => by simp only [keysNodup, outN, keys] <;> decide), (fun _ => rfl), (fun _ => .inr ⟨.inl rfl, .inl rfl, trivial⟩), ?_⟩
        intro hpre hlen
        obtain ⟨i_a, hpre⟩ := hpre
        obtain ⟨i_b, hpre⟩ := hpre
        refine ⟨⟨inE_deep h_a i_a, inE_deep h_b i_b, trivial⟩, by simp only [apartE] <;> (first | trivial | (simp [Ent.mut]; done)), ?_⟩
        have z_a := lens_deep (D := eTl) hlen h_a
        have z_b := lens_deep (D := eTl) hlen h_b
        clear i_a
        generalize decD eTl a_n a_f a_c = aL at *
        clear i_b
        generalize decD eTl b_n b_f b_c = bL at *
        clear h_a
        clear h_b
        simp (maxSteps := 9999999) only [x17, push_cast, simprocAttr, g19, g15, g53]
        obtain ⟨⟨ua, ub⟩, ⟨pa, pb⟩, hc, hl⟩ := hpre
        have va := (unpOk_val ua).1
        have vb := (unpOk_val ub).1
        exact ⟨ua, ub, ⟨⟨va, vb⟩, ⟨pa, pb⟩, hc, hl⟩, valE_sum va vb pa pb hc hl, fun V => ⟨V, fun _ _ _ _ => ⟨rfl, cEq_refl _⟩⟩⟩
      · cases hg_
    · cases hg_
  · cases hg_
end Go.Proofs.YtgpbokembopapaaGreat
