/- The contracts together; the chapter's example. -/
import Derived.Test.YtkkmleglaljacaaO
namespace Go.Proofs.Ytkkmleglaljacaa
open Go.RowKit

/-- what Add answers -/
def Told (x : Rg) (l l' : List Rg) (a c : Int) : Prop := (rightB x = true ∧ a = manyL l' - manyL l ∧ c = 0) ∨ (rightB x = false ∧ a = 0 ∧ c = 1)
def plusR (x : Rg) : List Rg := if rightB x then [x] else []
structure Added (t : TypeId) (w w' : World) (g : Nat) (x : Rg) (l : List Rg) (v' : Value) (l' : List Rg) (a c : Int) : Prop where
  idx : Idx t w' g v' l'
  told : Told x l l' a c
  is : ∀ s, Is l s → Is l' (s ++ plusR x)
  len : l'.length ≤ l.length + 1
  by_ : w.grownBy w' (some g)
theorem added_right {t : TypeId} {w w' : World} {g : Nat} {x : Rg} {l l' : List Rg} {v' : Value} (h : Idx t w' g v' l') (hl : ∀ y ∈ l, RightR y) (hx : RightR x) (hI : Is l' (l ++ [x])) (hg : w.grownBy w' (some g)) : Added t w w' g x l v' l' (manyL l' - manyL l) 0 := by
  have hb : rightB x = true := decide_eq_true hx
  refine ⟨h, .inl ⟨hb, rfl, rfl⟩, fun s hs => ?_, ?_, hg⟩
  · unfold plusR
    rw [if_pos hb]
    exact hs.snoc hI
  · have := hI.len (fun y hy => (right_snoc hl hx y hy).le)
    simpa using this
theorem added_not {t : TypeId} {w w' : World} {g : Nat} {x : Rg} {l : List Rg} {v : Value} (h : Idx t w g v l) (hx : ¬ RightR x) (hb : Below w.heap.size w w') : Added t w w' g x l v l 0 1 := by
  have hf : rightB x = false := decide_eq_false hx
  refine ⟨h.below hb, .inr ⟨hf, rfl, rfl⟩, fun s hs => ?_, Nat.le_succ _, gb_of_below hb _⟩
  unfold plusR
  rw [if_neg (by rw [hf]; simp), List.append_nil]
  exact hs
theorem add_any (g : Nat) (v : Value) (l : List Rg) (x : Rg) (w : World) (h : Idx 49 w g v l) (hm : l.length ≤ 900) :
    Calls Try.prog 11 #[.pointer (some ⟨g, 0, none⟩), .agg #[.int .i64 x.w, .int .i64 x.f, .int .i64 x.t]] w fun e w' => ∃ v' l' a c, e = .returned (.tuple #[.int .i64 a, .int .i64 c]) ∧ Added 49 w w' g x l v' l' a c := by
  by_cases hx : RightR x
  · refine (add_ok g v l x w h hx hm).mono ?_
    rintro e w' ⟨v', l', rfl, hI, hs, hg⟩
    exact ⟨v', l', _, _, rfl, added_right hI h.right hx hs hg⟩
  · refine (add_bad g v l x w h hx).mono ?_
    rintro e w' ⟨rfl, hb⟩
    exact ⟨v, l, _, _, rfl, added_not h hx hb⟩
theorem radd_any (g : Nat) (v : Value) (l : List Rg) (x : Rg) (w : World) (h : Idx 28 w g v l) (hm : l.length ≤ 900) :
    Calls Try.prog 12 #[.pointer (some ⟨g, 0, none⟩), .agg #[.int .i64 x.w, .int .i64 x.f, .int .i64 x.t]] w fun e w' => ∃ v' l' a c, e = .returned (.tuple #[.int .i64 a, .int .i64 c]) ∧ Added 28 w w' g x l v' l' a c := by
  by_cases hx : RightR x
  · refine (radd_ok g v l x w h hx hm).mono ?_
    rintro e w' ⟨v', l', rfl, hI, hs, hg⟩
    exact ⟨v', l', _, _, rfl, added_right hI h.right hx hs hg⟩
  · refine (radd_bad g x w hx).mono ?_
    rintro e w' ⟨rfl, hb⟩
    exact ⟨v, l, _, _, rfl, added_not h hx hb⟩
theorem gaps_any (g : Nat) (v : Value) (l xs : List Rg) (A : Option Addr) (n c : Nat) (w : World) (h : Idx 49 w g v l) (hx : Sl w 3 RgC A n c xs) (hn : n ≤ 1000) (hll : l.length ≤ 900) :
    Calls Try.prog 14 #[.pointer (some ⟨g, 0, none⟩), .slice A n c] w fun e w' => ∃ A' c' J, e = .returned (.slice A' (gapsL J l).length c') ∧ Is J (xs.filter rightB) ∧ Sl w' 3 RgC A' (gapsL J l).length c' (gapsL J l) ∧ Below w.heap.size w w' := by
  refine (gaps_walk _ l xs A n c w (fun W hW => ranges_any g v l W (h.below hW) (by omega)) hx hn h.canon h.right hll (.inr ⟨g, rfl⟩)).mono ?_
  rintro e w' ⟨u, J, rfl, hJ, ho, hb⟩
  have hJr := hJ.right (fun y hy => mem_right hy)
  have hgr : ∀ y ∈ gapsL J l, R64 y := fun y hy => by
    obtain ⟨b, hb, h1, h2, h3, h4⟩ := gapsL_in h.canon J y hy
    have := hJr b hb
    unfold RightR at this
    unfold R64 I64
    omega
  obtain ⟨A', c', rfl, hs⟩ := own_sl ho hgr
  exact ⟨A', c', J, rfl, hJ, hs, hb⟩
theorem gaps_nil (xs : List Rg) (A : Option Addr) (n c : Nat) (w : World) (hx : Sl w 3 RgC A n c xs) (hn : n ≤ 1000) :
    Calls Try.prog 14 #[.pointer none, .slice A n c] w fun e w' => ∃ A' c' J, e = .returned (.slice A' J.length c') ∧ Is J (xs.filter rightB) ∧ Sl w' 3 RgC A' J.length c' J ∧ Below w.heap.size w w' := by
  refine (gaps_walk _ [] xs A n c w (fun W _ => (ranges_nil W).mono ?_) hx hn ⟨List.Pairwise.nil, fun _ h => by cases h⟩ (fun _ h => by cases h) (by simp) (.inl rfl)).mono ?_
  · rintro e w' ⟨rfl, rfl⟩
    exact ⟨_, rfl, OwnC.nil_ _ _ _, Below.refl _ _⟩
  · rintro e w' ⟨u, J, rfl, hJ, ho, hb⟩
    have hJr := hJ.right (fun y hy => mem_right hy)
    have e1 : gapsL J [] = J := by
      unfold gapsL
      have : ∀ (l : List Rg), (∀ y ∈ l, RightR y) → (l.flatMap fun g => gapOne g g.f []) = l := by
        intro l hl
        induction l with
        | nil => rfl
        | cons y r ih =>
          rw [List.flatMap_cons, ih (fun z hz => hl z (List.mem_cons_of_mem _ hz)), gapOne, if_pos (hl y (by simp)).le]
          rfl
      exact this J hJr
    rw [e1] at ho
    obtain ⟨A', c', rfl, hs⟩ := own_sl ho (fun y hy => (hJr y hy).r64)
    exact ⟨A', c', J, rfl, hJ, hs, hb⟩
theorem rgaps_any (g : Nat) (v : Value) (l xs : List Rg) (A : Option Addr) (n c : Nat) (w : World) (h : Idx 28 w g v l) (hx : Sl w 3 RgC A n c xs) (hn : n ≤ 1000) (hll : l.length ≤ 900) :
    Calls Try.prog 15 #[.pointer (some ⟨g, 0, none⟩), .slice A n c] w fun e w' => ∃ A' c' J, e = .returned (.slice A' (gapsL J l).length c') ∧ Is J (xs.filter rightB) ∧ Sl w' 3 RgC A' (gapsL J l).length c' (gapsL J l) ∧ Below w.heap.size w w' := by
  refine (rgaps_walk g v l xs A n c w h hx hn hll).mono ?_
  rintro e w' ⟨u, J, rfl, hJ, ho, hb⟩
  have hJr := hJ.right (fun y hy => mem_right hy)
  have hgr : ∀ y ∈ gapsL J l, R64 y := fun y hy => by
    obtain ⟨b, hb, h1, h2, h3, h4⟩ := gapsL_in h.canon J y hy
    have := hJr b hb
    unfold RightR at this
    unfold R64 I64
    omega
  obtain ⟨A', c', rfl, hs⟩ := own_sl ho hgr
  exact ⟨A', c', J, rfl, hJ, hs, hb⟩
theorem rang_any (g : Nat) (v : Value) (l : List Rg) (w : World) (h : Idx 49 w g v l) (hm : l.length ≤ 1000000) :
    Calls Try.prog 16 #[.pointer (some ⟨g, 0, none⟩)] w fun e w' => ∃ A c, e = .returned (.slice A l.length c) ∧ Sl w' 3 RgC A l.length c l ∧ Below w.heap.size w w' := by
  refine (ranges_any g v l w h hm).mono ?_
  rintro e w' ⟨u, rfl, ho, hb⟩
  obtain ⟨A, c, rfl, hs⟩ := ho.sl (fun y hy => (h.right y hy).r64)
  exact ⟨A, c, rfl, hs, hb⟩
theorem vec_i64 {l : List Rg} (hc : Canon l) (hr : ∀ y ∈ l, RightR y) : ∀ x ∈ vecL [] l, I64 x := by
  intro x hx
  obtain ⟨k, hk, rfl⟩ := List.mem_iff_getElem.1 hx
  have h := vec_ok l [] hc hr (fun y hy _ => by simp)
  have hg := List.getElem?_eq_getElem hk
  rcases h.no k (by simp) hk with ⟨e, _⟩ | ⟨y, hy, h1, h2⟩
  · rw [hg] at e
    have e2 : (vecL [] l)[k] = 0 := by simpa using e
    unfold I64
    omega
  · have h3 := h.at_ y hy h1
    rw [h2, hg] at h3
    have h4 : (vecL [] l)[k] = y.t := by simpa using h3
    have := hr y hy
    unfold RightR at this
    unfold I64
    omega
theorem vect_any (g : Nat) (v : Value) (l : List Rg) (w : World) (h : Idx 49 w g v l) (hm : l.length ≤ 10000) :
    Calls Try.prog 18 #[.pointer (some ⟨g, 0, none⟩)] w fun e w' => ∃ A c, e = .returned (.slice A (vecL [] l).length c) ∧ Sl w' 1 IntC A (vecL [] l).length c (vecL [] l) ∧ Below w.heap.size w w' := by
  refine (vector_any g v l w h hm).mono ?_
  rintro e w' ⟨A, c, rfl, ho, hb⟩
  exact ⟨A, c, rfl, ownI_sl ho (vec_i64 h.canon h.right), hb⟩
theorem rvect_any (g : Nat) (v : Value) (l : List Rg) (w : World) (h : Idx 28 w g v l) (hm : l.length ≤ 10000) :
    Calls Try.prog 19 #[.pointer (some ⟨g, 0, none⟩)] w fun e w' => ∃ A c, e = .returned (.slice A (vecL [] l).length c) ∧ Sl w' 1 IntC A (vecL [] l).length c (vecL [] l) ∧ Below w.heap.size w w' := by
  have he := vec_doc l [] h.canon h.right (fun y hy _ => by simp)
  refine (rvector_any g v l w h hm).mono ?_
  rintro e w' ⟨A, c, rfl, ho, hb⟩
  rw [he] at ho ⊢
  exact ⟨A, c, rfl, ownI_sl ho (vec_i64 h.canon h.right), hb⟩

set_option maxRecDepth 100000 in
set_option maxHeartbeats 1600000 in
theorem sameI_any (n1 c1 n2 c2 : Nat) (A1 A2 : Option Addr) (xs ys : List Int) (w : World) (hx : Sl w 1 IntC A1 n1 c1 xs) (hy : Sl w 1 IntC A2 n2 c2 ys) (hlen : n1 ≤ 1000000) (h2 : n2 ≤ 1000000) :
    Calls Try.prog 17 #[.slice A1 n1 c1, .slice A2 n2 c2] w fun e w' => e = .returned (.bool (decide (xs = ys))) ∧ Below w.heap.size w w' := by
  have hl1 := hx.len
  have hl2 := hy.len
  have HX := Lib.hid hx
  have HY := Lib.hid hy
  clear hx hy
  by_cases hne : n1 = n2
  · subst hne
    have hq : ((n1 : Int) != (n1 : Int)) = false := by simp
    obtain ⟨r, hr⟩ : ∃ r, r = decide (xs = ys) := ⟨_, rfl⟩
    rw [← hr]
    have HR := Lib.hid hr
    clear hr
    go_enter Try.func17, Try.ntmps17
    go_wp2_with fail
    go_loopw [5] (fun i wr => ∃ k : Nat, k ≤ n1 ∧ i = .int .i64 k ∧ xs.take k = ys.take k ∧ Below w.heap.size w wr) (fun i _ => n1 - (intOf i).toNat)
    case atStart => exact ⟨0, by omega, rfl, rfl, Below.refl _ _⟩
    case round =>
      obtain ⟨k, hk, rfl, hT, hB⟩ := hrel
      rcases Nat.lt_or_ge k n1 with hlt | hge
      · have hkl : k < xs.length := by omega
        have hkl2 : k < ys.length := by omega
        obtain ⟨b, off, rfl, hbl, a0, _⟩ := Sl.int_at HX.out hlt
        obtain ⟨b', off', rfl, hbl', b0, _⟩ := Sl.int_at HY.out hlt
        have d0 := cell_below hB hbl a0
        have e0 := cell_below hB hbl' b0
        have htk := take_snocI hkl
        have htk2 := take_snocI hkl2
        have hx1 := nth_lt hkl
        have hy1 := nth_lt hkl2
        obtain ⟨x, hxx⟩ : ∃ x, nth xs k = x := ⟨_, rfl⟩
        obtain ⟨y, hyy⟩ : ∃ y, nth ys k = y := ⟨_, rfl⟩
        have hne2 : x ≠ y → r = false := fun h => by
          rw [HR.out]
          refine decide_eq_false fun e => h ?_
          subst e
          rw [← hxx, ← hyy]
        rw [hxx] at d0 htk
        rw [hyy] at e0 htk2
        have HB := Lib.hid hB
        have HT := Lib.hid hT
        have HK := Lib.hid htk
        have HK2 := Lib.hid htk2
        clear a0 b0 htk htk2 hB hT hxx hyy hx1 hy1
        by_cases hxy : x = y
        · have hd : (x != y) = false := by simp [hxy]
          have HE := Lib.hid hxy
          clear hne2 hxy
          go_wp2_with fail
          go_quiet (fail)
          have HBQ := Lib.hid (show Below w.heap.size w (wr.drewN nq) from HB.out.trans ⟨rfl, rfl, rfl, Nat.le_refl _, fun _ _ => rfl⟩)
          go_wp2_with fail
          exact ⟨⟨k + 1, by omega, by go_num, by rw [HK.out, HK2.out, HT.out, HE.out], HBQ.out⟩, by simp [intOf]; omega⟩
        · have hd : (x != y) = true := by simp [hxy]
          obtain rfl := hne2 hxy
          clear hne2 hxy
          go_wp2_with fail
          go_quiet (fail)
          have HBQ := Lib.hid (show Below w.heap.size w (wr.drewN nq) from HB.out.trans ⟨rfl, rfl, rfl, Nat.le_refl _, fun _ _ => rfl⟩)
          go_wp2_with fail
          go_ret
          exact ⟨rfl, HBQ.out⟩
      · obtain rfl : k = n1 := by omega
        rw [List.take_of_length_le (by omega), List.take_of_length_le (by omega)] at hT
        have hr : r = true := by rw [HR.out, hT]; simp
        subst hr
        go_wp2_with fail
        go_ret
        exact ⟨rfl, hB⟩
  · have hq : ((n1 : Int) != (n2 : Int)) = true := by simp; omega
    have hr : decide (xs = ys) = false := by
      refine decide_eq_false fun e => hne ?_
      rw [← hl1, ← hl2, e]
    rw [hr]
    go_enter Try.func17, Try.ntmps17
    go_wp2_with fail
    go_ret
    exact ⟨rfl, Below.refl _ _⟩

theorem is13 : Is [⟨0, 1, 3⟩] ([] ++ plusR ⟨0, 1, 3⟩) := by
  rw [show plusR ⟨0, 1, 3⟩ = [⟨0, 1, 3⟩] from by decide]
  exact ⟨⟨List.pairwise_singleton _ _, by simp⟩, fun _ _ => Iff.rfl⟩
theorem is15 : Is [⟨0, 1, 5⟩] ([] ++ plusR ⟨0, 1, 3⟩ ++ plusR ⟨0, 3, 5⟩) := by
  rw [show plusR ⟨0, 1, 3⟩ = [⟨0, 1, 3⟩] from by decide, show plusR ⟨0, 3, 5⟩ = [⟨0, 3, 5⟩] from by decide]
  refine ⟨⟨List.pairwise_singleton _ _, by simp⟩, fun w n => ?_⟩
  simp only [List.nil_append, List.cons_append, cov_cons, cov_nil, or_false]
  constructor
  · rintro ⟨h1, h2, h3⟩
    by_cases c : n ≤ 3
    · exact .inl ⟨h1, h2, c⟩
    · exact .inr ⟨h1, by omega, h3⟩
  · rintro (⟨h1, h2, h3⟩ | ⟨h1, h2, h3⟩)
    · exact ⟨h1, h2, by omega⟩
    · exact ⟨h1, by omega, h3⟩
theorem is47 : Is [⟨0, 4, 7⟩] ([⟨0, 4, 7⟩].filter rightB) := by
  rw [show ([⟨0, 4, 7⟩] : List Rg).filter rightB = [⟨0, 4, 7⟩] from by decide]
  exact ⟨⟨List.pairwise_singleton _ _, by simp⟩, fun _ _ => Iff.rfl⟩
theorem sl1 (W : World) (x : Rg) (hx : R64 x) : Sl (W.alloc (.cells #[.int .i64 x.w, .int .i64 x.f, .int .i64 x.t] 33)) 3 RgC (some ⟨W.heap.size, 0, none⟩) 1 1 [x] :=
  ⟨rfl, Nat.le_refl _, by omega, fun i hi => by
    have hi0 : i = 0 := by simpa using hi
    subst hi0
    refine ⟨W.heap.size, 0, rc x, rfl, by simp, rfl, ⟨rfl, hx⟩, fun j u hu => ?_⟩
    have := cells3_new W 33 (.int .i64 x.w) (.int .i64 x.f) (.int .i64 x.t) j u hu
    have e : (Addr.mk W.heap.size 0 none).add j = ⟨W.heap.size, j, none⟩ := by unfold Addr.add; split <;> simp_all
    rw [e] at this
    simpa using this⟩
theorem slI1 (W : World) (x : Int) (hx : I64 x) : Sl (W.alloc (.cells #[.int .i64 x] 3)) 1 IntC (some ⟨W.heap.size, 0, none⟩) 1 1 [x] :=
  ⟨rfl, Nat.le_refl _, by omega, fun i hi => by
    have hi0 : i = 0 := by simpa using hi
    subst hi0
    refine ⟨W.heap.size, 0, [.int .i64 x], rfl, by simp, rfl, ⟨rfl, hx⟩, fun j u hu => ?_⟩
    have := cell1_new W 3 (.int .i64 x) j u hu
    have e : (Addr.mk W.heap.size 0 none).add j = ⟨W.heap.size, j, none⟩ := by unfold Addr.add; split <;> simp_all
    rw [e] at this
    simpa using this⟩

set_option maxRecDepth 100000 in
set_option maxHeartbeats 3200000 in
theorem awake_any (w : World) : Calls Try.prog 10 #[] w fun e w' => e = .returned (.bool true) ∧ Below w.heap.size w w' := by
  go_enter Try.func10, Try.ntmps10
  go_wp2_with fail
  refine (new_any w).mono ?_
  rintro e w1 ⟨rfl, hI, hb⟩
  have HA := Lib.hid (add_any w.heap.size _ [] ⟨0, 1, 3⟩ w1 hI (by simp))
  have HB := Lib.hid hb
  clear hI hb
  go_wp2_with fail
  refine HA.out.mono ?_
  rintro e w2 ⟨v2, l2, a2, c2, rfl, hA⟩
  have e2 : l2 = [⟨0, 1, 3⟩] := (hA.is _ Is.nil_).one is13
  obtain ⟨rfl, rfl⟩ : a2 = 3 ∧ c2 = 0 := by
    rcases hA.told with ⟨_, h2, h3⟩ | ⟨h1, _⟩
    · exact ⟨by rw [h2, e2]; rfl, h3⟩
    · exact absurd h1 (by decide)
  have hIs2 := hA.is _ Is.nil_
  rw [e2] at hA hIs2
  have HB2 := Lib.hid (below_gb HB.out hA.by_ (Nat.le_refl _) HB.out.size)
  have HA2 := Lib.hid (add_any w.heap.size _ [⟨0, 1, 3⟩] ⟨0, 3, 5⟩ w2 hA.idx (by simp))
  clear hA e2
  go_wp2_with fail
  refine HA2.out.mono ?_
  rintro e w3 ⟨v3, l3, a3, c3, rfl, hA⟩
  have e3 : l3 = [⟨0, 1, 5⟩] := (hA.is _ hIs2).one is15
  obtain ⟨rfl, rfl⟩ : a3 = 2 ∧ c3 = 0 := by
    rcases hA.told with ⟨_, h2, h3⟩ | ⟨h1, _⟩
    · exact ⟨by rw [h2, e3]; rfl, h3⟩
    · exact absurd h1 (by decide)
  rw [e3] at hA
  have HB3 := Lib.hid (below_gb HB2.out hA.by_ (Nat.le_refl _) HB2.out.size)
  have HI3 := Lib.hid hA.idx
  clear hA e3 hIs2
  go_wp2_with fail
  refine (rang_any _ _ _ w3 HI3.out (by simp)).mono ?_
  rintro e w4 ⟨A4, c4, rfl, hs4, hb4⟩
  have HS4 := Lib.hid hs4
  have HI4 := Lib.hid (HI3.out.below hb4)
  have HB4 := Lib.hid (HB3.out.trans (hb4.mono HB3.out.size))
  clear hs4 hb4
  simp only [List.length_cons, List.length_nil]
  go_wp2_with fail
  refine (same_any _ c4 1 1 A4 _ [⟨0, 1, 5⟩] [⟨0, 1, 5⟩] _ (HS4.out.below ((Below.refl _ _).alloc (Nat.le_refl _) _)) (sl1 w4 ⟨0, 1, 5⟩ (RightR.r64 (by decide))) (by simp) (by simp)).mono ?_
  rintro e w5 ⟨rfl, hb5⟩
  have hb45 : Below w4.heap.size w4 w5 := ((Below.refl _ w4).alloc (Nat.le_refl _) _).trans (hb5.mono (by simp))
  have HI5 := Lib.hid (HI4.out.below hb45)
  have HB5 := Lib.hid (HB4.out.trans (hb45.mono HB4.out.size))
  clear hb5 hb45
  have hsame : sameB [⟨0, 1, 5⟩] [⟨0, 1, 5⟩] = true := by decide
  rw [hsame]
  have hvec : vecL [] [⟨0, 1, 5⟩] = [5] := by decide
  have HV := Lib.hid (vect_any _ _ _ w5 HI5.out (by simp))
  rw [hvec] at HV
  go_wp2_with fail
  refine HV.out.mono ?_
  rintro e w6 ⟨A6, c6, rfl, hs6, hb6⟩
  have HS6 := Lib.hid hs6
  have HI6 := Lib.hid (HI5.out.below hb6)
  have HB6 := Lib.hid (HB5.out.trans (hb6.mono HB5.out.size))
  clear hs6 hb6
  simp only [List.length_cons, List.length_nil]
  go_wp2_with fail
  refine (sameI_any _ c6 1 1 A6 _ [5] [5] _ (HS6.out.below ((Below.refl _ _).alloc (Nat.le_refl _) _)) (slI1 w6 5 (by unfold I64; omega)) (by simp) (by simp)).mono ?_
  rintro e w7 ⟨rfl, hb7⟩
  have hb67 : Below w6.heap.size w6 w7 := ((Below.refl _ w6).alloc (Nat.le_refl _) _).trans (hb7.mono (by simp))
  have HI7 := Lib.hid (HI6.out.below hb67)
  have HB7 := Lib.hid (HB6.out.trans (hb67.mono HB6.out.size))
  clear hb7 hb67
  simp only [decide_true]
  have HG := Lib.hid (gaps_any _ _ _ [⟨0, 4, 7⟩] _ 1 1 _ (HI7.out.below ((Below.refl _ _).alloc (Nat.le_refl _) (.cells #[.int .i64 0, .int .i64 4, .int .i64 7] 33))) (sl1 w7 ⟨0, 4, 7⟩ (RightR.r64 (by decide))) (by simp) (by simp))
  go_wp2_with fail
  refine HG.out.mono ?_
  rintro e w8 ⟨A8, c8, J, rfl, hJ, hs8, hb8⟩
  have eJ : J = [⟨0, 4, 7⟩] := hJ.one is47
  rw [eJ] at hs8 ⊢
  rw [show gapsL [⟨0, 4, 7⟩] [⟨0, 1, 5⟩] = [⟨0, 6, 7⟩] from by decide] at hs8 ⊢
  have HS8 := Lib.hid hs8
  have HB8 := Lib.hid (HB7.out.trans ((((Below.refl _ w7).alloc (Nat.le_refl _) (.cells #[.int .i64 0, .int .i64 4, .int .i64 7] 33)).trans (hb8.mono (by simp))).mono HB7.out.size))
  clear hs8 hb8 hJ eJ
  simp only [List.length_cons, List.length_nil]
  go_wp2_with fail
  refine (same_any _ c8 1 1 A8 _ [⟨0, 6, 7⟩] [⟨0, 6, 7⟩] _ (HS8.out.below ((Below.refl _ _).alloc (Nat.le_refl _) _)) (sl1 w8 ⟨0, 6, 7⟩ (RightR.r64 (by decide))) (by simp) (by simp)).mono ?_
  rintro e w9 ⟨rfl, hb9⟩
  have hsame : sameB [⟨0, 6, 7⟩] [⟨0, 6, 7⟩] = true := by decide
  rw [hsame]
  have HB9 := Lib.hid (HB8.out.trans ((((Below.refl _ w8).alloc (Nat.le_refl _) (.cells #[.int .i64 0, .int .i64 6, .int .i64 7] 33)).trans (hb9.mono (by simp))).mono HB8.out.size))
  clear hb9
  go_wp2_with fail
  go_ret
  exact ⟨rfl, HB9.out⟩
end Go.Proofs.Ytkkmleglaljacaa
