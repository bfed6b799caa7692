/- The stage's theorem: whatever the order. -/
import Derived.Test.YtkkmleglaljacaaU
namespace Go.Proofs.Ytkkmleglaljacaa
open Go.RowKit

/-- what b is given, what c is given -/
def bL (xs : List Rg) (n : Nat) : Nat → List Rg
  | 0 => []
  | k + 1 => bL xs n k ++ [xs.getD ((k + n) % xs.length) ⟨0, 0, 0⟩] ++ [xs.getD (xs.length - 1 - k) ⟨0, 0, 0⟩]
def cL (xs : List Rg) : Nat → List Rg
  | 0 => []
  | k + 1 => if k % 2 = 0 then cL xs k ++ [xs.getD k ⟨0, 0, 0⟩] else cL xs k
theorem getD_mem (xs : List Rg) {i : Nat} (h : i < xs.length) : xs.getD i ⟨0, 0, 0⟩ ∈ xs := by
  rw [List.getD_eq_getElem?_getD, List.getElem?_eq_getElem h]
  exact List.getElem_mem h
theorem bL_sub (xs : List Rg) (n : Nat) (h0 : 0 < xs.length) : ∀ k, k ≤ xs.length → ∀ y ∈ bL xs n k, y ∈ xs
  | 0, _, y, hy => by cases hy
  | k + 1, hk, y, hy => by
    rw [bL] at hy
    rcases List.mem_append.1 hy with hy | hy
    · rcases List.mem_append.1 hy with hy | hy
      · exact bL_sub xs n h0 k (by omega) y hy
      · cases List.mem_singleton.1 hy
        exact getD_mem xs (Nat.mod_lt _ h0)
    · cases List.mem_singleton.1 hy
      exact getD_mem xs (by omega)
theorem bL_all (xs : List Rg) (n : Nat) : ∀ k, k ≤ xs.length → ∀ i, xs.length - k ≤ i → i < xs.length → xs.getD i ⟨0, 0, 0⟩ ∈ bL xs n k
  | 0, _, i, h1, h2 => by omega
  | k + 1, hk, i, h1, h2 => by
    rw [bL]
    by_cases e : i = xs.length - 1 - k
    · subst e
      exact List.mem_append_right _ (by simp)
    · exact List.mem_append_left _ (List.mem_append_left _ (bL_all xs n k (by omega) i (by omega) h2))
theorem cL_sub (xs : List Rg) : ∀ k, k ≤ xs.length → ∀ y ∈ cL xs k, y ∈ xs
  | 0, _, y, hy => by cases hy
  | k + 1, hk, y, hy => by
    rw [cL] at hy
    split at hy
    · rcases List.mem_append.1 hy with hy | hy
      · exact cL_sub xs k (by omega) y hy
      · cases List.mem_singleton.1 hy
        exact getD_mem xs (by omega)
    · exact cL_sub xs k (by omega) y hy
theorem bL_cov (xs : List Rg) (n : Nat) (h0 : 0 < xs.length) (w m : Int) : cov ((bL xs n xs.length).filter rightB) w m ↔ cov (xs.filter rightB) w m := by
  unfold cov
  constructor
  · rintro ⟨g, hg, r⟩
    obtain ⟨h1, h2⟩ := List.mem_filter.1 hg
    exact ⟨g, List.mem_filter.2 ⟨bL_sub xs n h0 _ (Nat.le_refl _) g h1, h2⟩, r⟩
  · rintro ⟨g, hg, r⟩
    obtain ⟨h1, h2⟩ := List.mem_filter.1 hg
    obtain ⟨i, hi, rfl⟩ := List.mem_iff_getElem.1 h1
    have h3 := bL_all xs n xs.length (Nat.le_refl _) i (by omega) hi
    rw [List.getD_eq_getElem?_getD, List.getElem?_eq_getElem hi] at h3
    exact ⟨xs[i], List.mem_filter.2 ⟨h3, h2⟩, r⟩
theorem filter_one (s : List Rg) (x : Rg) : (s ++ [x]).filter rightB = s.filter rightB ++ plusR x := by
  rw [List.filter_append]
  congr 1
  unfold plusR
  cases h : rightB x <;> simp [h]

/-- three indexes side by side -/
structure TT (B g1 g2 g3 : Nat) (va vb vc : Value) (la lb lc : List Rg) (w W : World) : Prop where
  a : Idx 49 W g1 va la
  b : Idx 49 W g2 vb lb
  c : Idx 49 W g3 vc lc
  below : Below B w W
  h1 : B ≤ g1
  h2 : g1 < g2
  h3 : g2 < g3
section
variable {B g1 g2 g3 : Nat} {va vb vc v' : Value} {la lb lc l' : List Rg} {w W W' : World} {x : Rg} {a c : Int}
theorem TT.sz (t : TT B g1 g2 g3 va vb vc la lb lc w W) : B ≤ W.heap.size := Nat.le_of_lt (Nat.lt_of_le_of_lt t.h1 t.a.lt)
theorem TT.go (t : TT B g1 g2 g3 va vb vc la lb lc w W) (hb : Below W.heap.size W W') : TT B g1 g2 g3 va vb vc la lb lc w W' := ⟨t.a.below hb, t.b.below hb, t.c.below hb, t.below.trans (hb.mono t.sz), t.h1, t.h2, t.h3⟩
theorem TT.addA (t : TT B g1 g2 g3 va vb vc la lb lc w W) (h : Added 49 W W' g1 x la v' l' a c) : TT B g1 g2 g3 v' vb vc l' lb lc w W' :=
  ⟨h.idx, t.b.other t.a.blk (by decide) (Nat.ne_of_gt t.h2) h.by_, t.c.other t.a.blk (by decide) (Nat.ne_of_gt (Nat.lt_trans t.h2 t.h3)) h.by_, below_gb t.below h.by_ t.h1 t.sz, t.h1, t.h2, t.h3⟩
theorem TT.addB (t : TT B g1 g2 g3 va vb vc la lb lc w W) (h : Added 49 W W' g2 x lb v' l' a c) : TT B g1 g2 g3 va v' vc la l' lc w W' :=
  ⟨t.a.other t.b.blk (by decide) (Nat.ne_of_lt t.h2) h.by_, h.idx, t.c.other t.b.blk (by decide) (Nat.ne_of_gt t.h3) h.by_, below_gb t.below h.by_ (Nat.le_trans t.h1 (Nat.le_of_lt t.h2)) t.sz, t.h1, t.h2, t.h3⟩
theorem TT.addC (t : TT B g1 g2 g3 va vb vc la lb lc w W) (h : Added 49 W W' g3 x lc v' l' a c) : TT B g1 g2 g3 va vb v' la lb l' w W' :=
  ⟨t.a.other t.c.blk (by decide) (Nat.ne_of_lt (Nat.lt_trans t.h2 t.h3)) h.by_, t.b.other t.c.blk (by decide) (Nat.ne_of_lt t.h3) h.by_, h.idx, below_gb t.below h.by_ (Nat.le_trans t.h1 (Nat.le_of_lt (Nat.lt_trans t.h2 t.h3))) t.sz, t.h1, t.h2, t.h3⟩
end
theorem Sl.keep {w w' : World} {A : Option Addr} {n c g : Nat} {xs : List Rg} {t : TypeId} {v : Value} (h : Sl w 3 RgC A n c xs) (hb : Blk w g t #[v]) (hg : w.grownBy w' (some g)) : Sl w' 3 RgC A n c xs :=
  ⟨h.1, h.2, h.3, fun i hi => by
    obtain ⟨b, off, cs, e, hlt, hl, ⟨rfl, hr⟩, hc⟩ := h.4 i hi
    have hne : b ≠ g := by
      intro e2
      subst e2
      have h1 := hc 1 (.int .i64 xs[i].f) rfl
      rw [hb.cell, Array.getElem?_eq_none (by simp)] at h1
      cases h1
    exact ⟨b, off, _, e, Nat.lt_of_lt_of_le hlt hg.size, hl, ⟨rfl, hr⟩, fun j u hu => (World.cell?_of_block (a := ⟨b, off + i * 3 + j, none⟩) (hg.block b hlt (fun e => hne (by cases e; rfl)))).trans (hc j u hu)⟩⟩
theorem turn_is (turn : Int) (n1 : Nat) (h0 : 0 < n1) (h1 : n1 ≤ 100) : ∃ N : Nat, N < n1 ∧ (wrap64 (turn.tmod n1 + n1)).tmod n1 = N := by
  have hb := Int.tmod_lt_of_pos turn (show (0 : Int) < n1 by omega)
  have hb2 : -(n1 : Int) < turn.tmod n1 := by
    have := Int.lt_tmod_of_pos turn (show (0 : Int) < n1 by omega)
    omega
  have hw : wrap64 (turn.tmod n1 + n1) = turn.tmod n1 + n1 := by unfold wrap64; omega
  rw [hw, Int.tmod_eq_emod_of_nonneg (by omega)]
  have e1 := Int.emod_nonneg (turn.tmod n1 + n1) (show (n1 : Int) ≠ 0 by omega)
  have e2 := Int.emod_lt_of_pos (turn.tmod n1 + n1) (show (0 : Int) < n1 by omega)
  exact ⟨((turn.tmod n1 + n1) % n1).toNat, by omega, by omega⟩
theorem mod_is (k N n1 : Nat) : ((k : Int) + (N : Int)).tmod (n1 : Int) = (((k + N) % n1 : Nat) : Int) := by
  rw [Int.tmod_eq_emod_of_nonneg (by omega)]
  simp
theorem getD_at (xs : List Rg) {i : Nat} (h : i < xs.length) : xs.getD i ⟨0, 0, 0⟩ = xs[i] := by
  rw [List.getD_eq_getElem?_getD, List.getElem?_eq_getElem h]
  rfl

set_option maxRecDepth 100000 in
set_option maxHeartbeats 3200000 in
theorem law_same (A1 : Option Addr) (n1 c1 : Nat) (xs : List Rg) (turn : Int) (w : World) (hx : Sl w 3 RgC A1 n1 c1 xs) (_hturn : I64 turn) :
    Calls Try.prog 4 #[.slice A1 n1 c1, .int .i64 turn] w fun e w' => e = .returned (.bool true) ∧ Below w.heap.size w w' := by
  have hl1 := hx.len
  have hm1 := hx.max
  have hle1 := hx.le
  have hq1 : n1 = 0 → ((n1 : Int) == 0) = true := fun h => by simp [h]
  have hq0 : n1 ≠ 0 → ((n1 : Int) == 0) = false := fun h => by simp; omega
  have HX := Lib.hid hx
  have HQ1 := Lib.hid hq1
  have HQ0 := Lib.hid hq0
  clear hx hq1 hq0
  by_cases hbig : n1 > 100 ∨ n1 = 0
  · by_cases hb1 : n1 > 100
    case' pos => have d1 : decide ((n1 : Int) > 100) = true := decide_eq_true (by omega)
    case' neg =>
      have d1 : decide ((n1 : Int) > 100) = false := decide_eq_false (by omega)
      obtain rfl : n1 = 0 := by omega
    all_goals
      clear hbig hb1
      go_enter Try.func4, Try.ntmps4
      go_wp2_with fail
      refine (new_any w).mono ?_
      rintro e w1 ⟨rfl, hI, hb⟩
      have HB := Lib.hid hb
      clear hI hb
      go_wp2_with fail
      refine (new_any w1).mono ?_
      rintro e w2 ⟨rfl, hI, hb⟩
      have HB2 := Lib.hid (HB.out.trans (hb.mono HB.out.size))
      clear hI hb
      go_wp2_with fail
      refine (new_any w2).mono ?_
      rintro e w3 ⟨rfl, hI, hb⟩
      have HB3 := Lib.hid (HB2.out.trans (hb.mono HB2.out.size))
      clear hI hb
      go_wp2_with fail
      refine (awake_any _).mono ?_
      rintro e w9 ⟨rfl, hb9⟩
      have hb10 := HB3.out.trans (hb9.mono HB3.out.size)
      clear hb9
      go_wp2_with fail
      go_ret
      exact ⟨rfl, hb10⟩
  have d1 : decide ((n1 : Int) > 100) = false := decide_eq_false (by omega)
  have d2 := HQ0.out (by omega)
  have hn1 : n1 ≤ 100 := by omega
  have hn0 : 0 < n1 := by omega
  clear hbig
  go_enter Try.func4, Try.ntmps4
  go_wp2_with fail
  refine (new_any w).mono ?_
  rintro e w1 ⟨rfl, hI, hb⟩
  have HI1 := Lib.hid hI
  have HB := Lib.hid hb
  clear hI hb
  go_wp2_with fail
  refine (new_any w1).mono ?_
  rintro e w2 ⟨rfl, hI, hb⟩
  have HI2 := Lib.hid (And.intro (HI1.out.below hb) hI)
  have HB2 := Lib.hid (HB.out.trans (hb.mono HB.out.size))
  clear hI hb
  go_wp2_with fail
  refine (new_any w2).mono ?_
  rintro e w3 ⟨rfl, hI, hb⟩
  have HI3 := Lib.hid (And.intro (HI2.out.1.below hb) (And.intro (HI2.out.2.below hb) hI))
  have HB3 := Lib.hid (HB2.out.trans (hb.mono HB2.out.size))
  clear hI hb
  go_wp2_with fail
  obtain ⟨N, hN, hNe⟩ := turn_is turn n1 hn0 hn1
  rw [hNe]
  have hz1 := HI1.out.lt
  have hz2 := HI2.out.2.lt
  have hz3 := HI3.out.2.2.lt
  have hT0 : TT w.heap.size w.heap.size w1.heap.size w2.heap.size _ _ _ [] [] [] w w3 := ⟨HI3.out.1, HI3.out.2.1, HI3.out.2.2, HB3.out, Nat.le_refl _, hz1, hz2⟩
  obtain ⟨g1, hg1⟩ : ∃ g, g = w.heap.size := ⟨_, rfl⟩
  obtain ⟨g2, hg2⟩ : ∃ g, g = w1.heap.size := ⟨_, rfl⟩
  obtain ⟨g3, hg3⟩ : ∃ g, g = w2.heap.size := ⟨_, rfl⟩
  rw [← hg1, ← hg2, ← hg3] at hT0
  have HT0 := Lib.hid hT0
  have HG1 := Lib.hid hg1
  have HG2 := Lib.hid hg2
  have HG3 := Lib.hid hg3
  clear hT0 hg1 hg2 hg3 hNe hz1 hz2 hz3 HI1 HI2 HI3
  rw [← HG1.out, ← HG2.out, ← HG3.out]
  go_loopw [9] (fun i wr => ∃ (k : Nat) (la lb lc : List Rg) (va vb vc : Value), k ≤ n1 ∧ i = .int .i64 k ∧ TT g1 g1 g2 g3 va vb vc la lb lc w wr ∧ Is la ((xs.take k).filter rightB) ∧ Is lb ((bL xs N k).filter rightB) ∧ Is lc ((cL xs k).filter rightB) ∧ la.length ≤ k ∧ lb.length ≤ 2 * k ∧ lc.length ≤ k) (fun i _ => n1 - (intOf i).toNat)
  case atStart => exact ⟨0, [], [], [], _, _, _, by omega, rfl, HT0.out, Is.nil_, Is.nil_, Is.nil_, by simp, by simp, by simp⟩
  case round =>
    obtain ⟨k, la, lb, lc, va, vb, vc, hk, rfl, hT, hA, hB, hC, hla, hlb, hlc⟩ := hrel
    rcases Nat.lt_or_ge k n1 with hlt | hge
    · have hkl : k < xs.length := by omega
      have hMl : (k + N) % n1 < xs.length := by rw [hl1]; exact Nat.mod_lt _ hn0
      have hJl : n1 - 1 - k < xs.length := by omega
      obtain ⟨b, off, rfl, hbl, c0, c1', c2', _⟩ := Sl.rg_at HX.out hkl
      obtain ⟨_, _, ee, _, e0, e1, e2, _⟩ := Sl.rg_at HX.out hMl
      cases ee
      obtain ⟨_, _, ee, _, f0, f1, f2, _⟩ := Sl.rg_at HX.out hJl
      cases ee
      have hmod := mod_is k N n1
      obtain ⟨M, hM⟩ : ∃ M, (k + N) % n1 = M := ⟨_, rfl⟩
      obtain ⟨J, hJ⟩ : ∃ J, n1 - 1 - k = J := ⟨_, rfl⟩
      have hJi : (n1 : Int) - 1 - (k : Int) = (J : Int) := by omega
      have hfA := filter_plus xs k hkl
      have hfB : (bL xs N (k + 1)).filter rightB = (bL xs N k).filter rightB ++ plusR xs[(k + N) % n1] ++ plusR xs[n1 - 1 - k] := by
        rw [bL, filter_one, filter_one, hl1, getD_at xs hMl, getD_at xs hJl]
      have hfC : (cL xs (k + 1)).filter rightB = if k % 2 = 0 then (cL xs k).filter rightB ++ plusR xs[k] else (cL xs k).filter rightB := by
        rw [cL]
        split
        · rw [filter_one, getD_at xs hkl]
        · rfl
      obtain ⟨x, hxx⟩ : ∃ x, xs[k] = x := ⟨_, rfl⟩
      obtain ⟨y, hyy⟩ : ∃ y, xs[(k + N) % n1] = y := ⟨_, rfl⟩
      obtain ⟨z, hzz⟩ : ∃ z, xs[n1 - 1 - k] = z := ⟨_, rfl⟩
      rw [hxx] at c0 c1' c2' hfA hfC
      rw [hyy] at e0 e1 e2 hfB
      rw [hzz] at f0 f1 f2 hfB
      rw [hM] at e0 e1 e2 hmod hMl
      rw [hJ] at f0 f1 f2 hJl
      clear hxx hyy hzz hM
      have hBw : Below w.heap.size w wr := by rw [← HG1.out]; exact hT.below
      have d0 := cell_below hBw hbl c0
      have d1' := cell_below hBw hbl c1'
      have d2' := cell_below hBw hbl c2'
      have HC0 := Lib.hid (And.intro c0 (And.intro c1' c2'))
      have HC1 := Lib.hid (And.intro e0 (And.intro e1 e2))
      have HC2 := Lib.hid (And.intro f0 (And.intro f1 f2))
      have HAa := Lib.hid (add_any g1 va la x wr hT.a (by omega))
      have HT := Lib.hid hT
      have HIa := Lib.hid hA
      have HIb := Lib.hid hB
      have HIc := Lib.hid hC
      have HFA := Lib.hid hfA
      have HFB := Lib.hid hfB
      have HFC := Lib.hid hfC
      clear hT hA hB hC hBw c0 c1' c2' e0 e1 e2 f0 f1 f2 hfA hfB hfC
      go_wp2_with fail
      refine HAa.out.mono ?_
      rintro e w4 ⟨v4, l4, a4, e4, rfl, hA⟩
      have hT4 := HT.out.addA hA
      have HA4 := Lib.hid (And.intro (hA.is _ HIa.out) hA.len)
      have hBw : Below w.heap.size w w4 := by rw [← HG1.out]; exact hT4.below
      have d0 := cell_below hBw hbl HC1.out.1
      have d1' := cell_below hBw hbl HC1.out.2.1
      have d2' := cell_below hBw hbl HC1.out.2.2
      have HAb := Lib.hid (add_any g2 vb lb y w4 hT4.b (by omega))
      have HT4 := Lib.hid hT4
      clear hT4 hA hBw
      have hMl1 : M < n1 := by omega
      go_wp2_with fail
      refine HAb.out.mono ?_
      rintro e w5 ⟨v5, l5, a5, e5, rfl, hA⟩
      have hT5 := HT4.out.addB hA
      have HA5 := Lib.hid (And.intro (hA.is _ HIb.out) hA.len)
      have hlen5 : l5.length ≤ 2 * k + 1 := by have := hA.len; omega
      have hBw : Below w.heap.size w w5 := by rw [← HG1.out]; exact hT5.below
      have d0 := cell_below hBw hbl HC2.out.1
      have d1' := cell_below hBw hbl HC2.out.2.1
      have d2' := cell_below hBw hbl HC2.out.2.2
      have HAc := Lib.hid (add_any g2 v5 l5 z w5 hT5.b (by omega))
      have HT5 := Lib.hid hT5
      have hJl1 : J < n1 := by omega
      clear hT5 hA hBw
      go_wp2_with fail
      refine HAc.out.mono ?_
      rintro e w6 ⟨v6, l6, a6, e6, rfl, hA⟩
      have hT6 := HT5.out.addB hA
      have HA6 := Lib.hid (And.intro (hA.is _ HA5.out.1) hA.len)
      have hBw : Below w.heap.size w w6 := by rw [← HG1.out]; exact hT6.below
      have d0 := cell_below hBw hbl HC0.out.1
      have d1' := cell_below hBw hbl HC0.out.2.1
      have d2' := cell_below hBw hbl HC0.out.2.2
      have HAd := Lib.hid (add_any g3 vc lc x w6 hT6.c (by omega))
      have HT6 := Lib.hid hT6
      clear hT6 hA hBw
      by_cases hev : k % 2 = 0
      · have hE : ((k : Int) % 2 == 0) = true := by
          simp
          omega
        have hfC := HFC.out
        rw [if_pos hev] at hfC
        have HFC' := Lib.hid hfC
        clear hev hfC
        go_wp2_with fail
        refine HAd.out.mono ?_
        rintro e w7 ⟨v7, l7, a7, e7, rfl, hA⟩
        have HT7 := Lib.hid (HT6.out.addC hA)
        have HA7 := Lib.hid (And.intro (hA.is _ HIc.out) hA.len)
        clear hA
        go_wp2_with fail
        have h4 := HA4.out.2
        have h5 := HA5.out.2
        have h6 := HA6.out.2
        have h7 := HA7.out.2
        exact ⟨⟨k + 1, l4, l6, l7, _, _, _, by omega, by go_num, HT7.out, by rw [HFA.out]; exact HA4.out.1, by rw [HFB.out]; exact HA6.out.1, by rw [HFC'.out]; exact HA7.out.1, by omega, by omega, by omega⟩, by simp [intOf]; omega⟩
      · have hE : ((k : Int) % 2 == 0) = false := by
          simp
          omega
        have hfC := HFC.out
        rw [if_neg hev] at hfC
        have HFC' := Lib.hid hfC
        clear hev hfC
        go_wp2_with fail
        have h4 := HA4.out.2
        have h5 := HA5.out.2
        have h6 := HA6.out.2
        exact ⟨⟨k + 1, l4, l6, lc, _, _, _, by omega, by go_num, HT6.out, by rw [HFA.out]; exact HA4.out.1, by rw [HFB.out]; exact HA6.out.1, by rw [HFC'.out]; exact HIc.out, by omega, by omega, by omega⟩, by simp [intOf]; omega⟩
    · obtain rfl : k = n1 := by omega
      subst hl1
      rw [List.take_length] at hA
      have hlab : lb = la := Is.one ⟨hB.1, fun w m => (hB.2 w m).trans (bL_cov xs N hn0 w m)⟩ hA
      rw [hlab] at hT hlb
      have hsub : ∀ w m, cov lc w m → cov (xs.filter rightB) w m := fun w m h => by
        obtain ⟨y, hy, r⟩ := (hC.2 w m).1 h
        obtain ⟨y1, y2⟩ := List.mem_filter.1 hy
        exact ⟨y, List.mem_filter.2 ⟨cL_sub xs _ (Nat.le_refl _) y y1, y2⟩, r⟩
      have HT := Lib.hid hT
      have HIa := Lib.hid hA
      have HSub := Lib.hid hsub
      have HRa := Lib.hid (rang_any g1 va la wr hT.a (by omega))
      have hnot : ∀ (x : Bool) (w : World), (Op.unary .not (.bool x)).run Try.prog w = .ok (.bool (!x)) w := fun _ _ => rfl
      clear hT hA hB hC hlab hsub
      go_wp2_with fail
      refine HRa.out.mono ?_
      rintro e w4 ⟨A4, c4, rfl, hs4, hb4⟩
      have HT4 := Lib.hid (HT.out.go hb4)
      have HS4 := Lib.hid hs4
      have HRb := Lib.hid (rang_any g2 vb la w4 (HT.out.go hb4).b (by omega))
      clear hs4 hb4
      go_wp2_with fail
      refine HRb.out.mono ?_
      rintro e w5 ⟨A5, c5, rfl, hs5, hb5⟩
      have HT5 := Lib.hid (HT4.out.go hb5)
      have HS5 := Lib.hid (And.intro (HS4.out.below hb5) hs5)
      clear hs5 hb5
      go_wp2_with fail
      refine (same_self _ c4 _ c5 A4 A5 la w5 HS5.out.1 HS5.out.2 (by omega) (by omega)).mono ?_
      rintro e w6 ⟨rfl, hb6⟩
      have HT6 := Lib.hid (HT5.out.go hb6)
      clear hb6
      have HX6 := Lib.hid (HX.out.below (show Below w.heap.size w w6 by rw [← HG1.out]; exact HT6.out.below))
      have HGp := Lib.hid (gaps_any g3 vc lc xs A1 _ c1 w6 HT6.out.c HX6.out (by omega) (by omega))
      go_wp2_with fail
      refine HGp.out.mono ?_
      rintro e w7 ⟨A7, c7, J, rfl, hJ, hs7, hb7⟩
      obtain rfl : J = la := hJ.one HIa.out
      have HT7 := Lib.hid (HT6.out.go hb7)
      have hGc := gapsL_canon HT6.out.c.canon hJ.1
      have hGl := gapsL_len HT6.out.c.canon hJ.1
      have hGin := gapsL_in HT6.out.c.canon J
      have hGcov := gapsL_cov HT6.out.c.canon J
      have hJr := HT6.out.a.right
      obtain ⟨G, hG⟩ : ∃ G, gapsL J lc = G := ⟨_, rfl⟩
      rw [hG] at hs7 hGc hGl hGin hGcov ⊢
      have HGc := Lib.hid hGc
      have HGin := Lib.hid hGin
      have HGcov := Lib.hid hGcov
      have HJr := Lib.hid hJr
      have HS7 := Lib.hid hs7
      have hm7 := hs7.max
      have hle7 := hs7.le
      clear hb7 hJ hGc hGin hGcov hJr hG hs7
      go_wp2_with fail
      go_loopw [11] (fun i wq => ∃ (j : Nat) (ld : List Rg) (vd : Value), j ≤ G.length ∧ i = .int .i64 j ∧ TT g1 g1 g2 g3 va vb vd J J ld w wq ∧ Is ld (lc ++ G.take j) ∧ ld.length ≤ lc.length + j ∧ Sl wq 3 RgC A7 G.length c7 G) (fun i _ => G.length - (intOf i).toNat)
      case atStart => exact ⟨0, lc, vc, by omega, rfl, HT7.out, by rw [List.take_zero, List.append_nil]; exact ⟨HT7.out.c.canon, fun _ _ => Iff.rfl⟩, by omega, HS7.out⟩
      case round =>
        obtain ⟨j, ld, vd, hj, rfl, hT, hId, hld, hSG⟩ := hrel
        rcases Nat.lt_or_ge j G.length with hjl | hjg
        · obtain ⟨b, off, rfl, hbl, d0, d1', d2', _⟩ := Sl.rg_at hSG hjl
          have hyG : G[j] ∈ G := List.getElem_mem hjl
          obtain ⟨gg, hgg, i1, i2, i3, i4⟩ := HGin.out G[j] hyG
          have hgr := HJr.out gg hgg
          have hyr : RightR G[j] := by unfold RightR at hgr ⊢; omega
          have hdis : ∀ m, G[j].f ≤ m → m ≤ G[j].t → ¬ cov ld G[j].w m := by
            intro m m1 m2 hc
            have h1 := (hId.2 _ _).1 hc
            rcases cov_append.1 h1 with h1 | ⟨z, hz, z1, z2, z3⟩
            · exact ((HGcov.out _ _).1 ⟨G[j], hyG, rfl, m1, m2⟩).2 h1
            · obtain ⟨i, hi, rfl⟩ := List.mem_iff_getElem.1 hz
              rw [List.length_take] at hi
              rw [List.getElem_take] at z1 z2 z3
              have hap : Apart G[i] G[j] := (List.pairwise_iff_getElem.1 HGc.out.1) i j (by omega) hjl (by omega)
              unfold Apart at hap
              omega
          have htk := List.take_succ_eq_append_getElem hjl
          have HAd := Lib.hid (add_any g3 vd ld G[j] wr hT.c (by omega))
          obtain ⟨y, hy⟩ : ∃ y, G[j] = y := ⟨_, rfl⟩
          rw [hy] at d0 d1' d2' hyr hdis htk HAd
          have HT8 := Lib.hid hT
          have HSG := Lib.hid hSG
          have HId8 := Lib.hid hId
          have HDis := Lib.hid hdis
          have HTk := Lib.hid htk
          have HYr := Lib.hid hyr
          clear hT hSG hId hdis htk hy hyG hgg i1 i2 i3 i4 hgr hyr
          go_wp2_with fail
          refine HAd.out.mono ?_
          rintro e w8 ⟨v8, l8, a8, e8, rfl, hA⟩
          have hIs8 := hA.is ld ⟨HT8.out.c.canon, fun _ _ => Iff.rfl⟩
          have hrb : rightB y = true := decide_eq_true HYr.out
          have hpl : plusR y = [y] := by unfold plusR; rw [if_pos hrb]
          rw [hpl] at hIs8
          obtain ⟨rfl, rfl⟩ : a8 = y.t - y.f + 1 ∧ e8 = 0 := by
            rcases hA.told with ⟨_, p1, p2⟩ | ⟨p0, _⟩
            · have := Is.many HT8.out.c.canon HYr.out.le HDis.out hIs8
              exact ⟨by omega, p2⟩
            · rw [hrb] at p0; cases p0
          have hIs9 : Is l8 (lc ++ G.take (j + 1)) := by
            rw [HTk.out, ← List.append_assoc]
            have := hA.is _ HId8.out
            rwa [hpl] at this
          have hS8 := HSG.out.keep HT8.out.c.blk hA.by_
          have HT9 := Lib.hid (HT8.out.addC hA)
          have hle9 := hA.len
          obtain ⟨_, _, ee, _, f0, f1, f2, _⟩ := Sl.rg_at hS8 hjl
          cases ee
          have hyy : G[j] = y := by
            have h1 := HTk.out
            rw [List.take_succ_eq_append_getElem hjl] at h1
            have h2 := List.append_cancel_left h1
            simpa using h2
          rw [hyy] at f0 f1 f2
          have HS8 := Lib.hid hS8
          have HIs9 := Lib.hid hIs9
          have hyr2 := HYr.out
          unfold RightR at hyr2
          obtain ⟨_, _, y2, y3, y4⟩ := hyr2
          have hqq : (y.t - y.f + 1 != y.t - y.f + 1) = false := by simp
          clear hA hIs8 hIs9 hS8 hpl hrb hyy d0 d1' d2'
          go_wp2_with fail
          go_quiet (fail)
          have hbq : Below w8.heap.size w8 (w8.drewN nq) := ⟨rfl, rfl, rfl, Nat.le_refl _, fun _ _ => rfl⟩
          have HTq := Lib.hid (HT9.out.go hbq)
          have HSq := Lib.hid (HS8.out.below hbq)
          clear hbq
          go_wp2_with fail
          exact ⟨⟨j + 1, l8, v8, by omega, by go_num, HTq.out, HIs9.out, by omega, HSq.out⟩, by simp [intOf]; omega⟩
        · obtain rfl : j = G.length := by omega
          rw [List.take_length] at hId
          have hld2 : ld = J := Is.one ⟨hId.1, fun w m => by
            rw [hId.2, cov_append, HGcov.out]
            constructor
            · rintro (h | h)
              · exact (HIa.out.2 w m).2 (HSub.out w m h)
              · exact h.1
            · intro h
              by_cases hc : cov lc w m
              · exact .inl hc
              · exact .inr ⟨h, hc⟩⟩ ⟨HT7.out.a.canon, fun _ _ => Iff.rfl⟩
          rw [hld2] at hT
          have HT8 := Lib.hid hT
          clear hT hId hSG hld2 hld
          have HR1 := Lib.hid (rang_any g3 vd J wr HT8.out.c (by omega))
          go_wp2_with fail
          refine HR1.out.mono ?_
          rintro e w9 ⟨A9, c9, rfl, hs9, hb9⟩
          have HT9 := Lib.hid (HT8.out.go hb9)
          have HS9 := Lib.hid hs9
          have HR2 := Lib.hid (rang_any g1 va J w9 (HT8.out.go hb9).a (by omega))
          clear hs9 hb9
          go_wp2_with fail
          refine HR2.out.mono ?_
          rintro e w10 ⟨A10, c10, rfl, hs10, hb10⟩
          have HT10 := Lib.hid (HT9.out.go hb10)
          have HS10 := Lib.hid (And.intro (HS9.out.below hb10) hs10)
          clear hs10 hb10
          go_wp2_with fail
          refine (same_self _ c9 _ c10 A9 A10 J w10 HS10.out.1 HS10.out.2 (by omega) (by omega)).mono ?_
          rintro e w11 ⟨rfl, hb11⟩
          have HT11 := Lib.hid (HT10.out.go hb11)
          clear hb11
          have HX11 := Lib.hid (HX.out.below (show Below w.heap.size w w11 by rw [← HG1.out]; exact HT11.out.below))
          have HGz := Lib.hid (gaps_any g3 vd J xs A1 _ c1 w11 HT11.out.c HX11.out (by omega) (by omega))
          go_wp2_with fail
          refine HGz.out.mono ?_
          rintro e w12 ⟨A12, c12, K, rfl, hK, _, hb12⟩
          rw [gaps_none HT11.out.c.canon hK (fun w m h => (HIa.out.2 w m).2 h)]
          have HT12 := Lib.hid (HT11.out.go hb12)
          simp only [List.length_nil]
          clear hb12 hK
          go_wp2_with fail
          refine (awake_any _).mono ?_
          rintro e w13 ⟨rfl, hb13⟩
          have hb14 := (HT12.out.go hb13).below
          rw [HG1.out] at hb14
          clear hb13
          go_wp2_with fail
          go_ret
          exact ⟨rfl, hb14⟩
end Go.Proofs.Ytkkmleglaljacaa
