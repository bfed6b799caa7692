/- Gaps, as the program does it. -/
import Derived.Test.YtkkmleglaljacaaDl
namespace Go.Proofs.Ytkkmleglaljacaa
open Go.RowKit

theorem kept_right (ps : List Rg) : keptL ps = ps.filter rightB := by
  unfold keptL notR
  congr 1
  funext x
  simp
theorem mem_right {ps : List Rg} {x : Rg} (h : x ∈ ps.filter rightB) : RightR x := of_decide_eq_true (List.mem_filter.1 h).2

theorem delfunc_any (B : Nat) (v : Value) (ps : List Rg) (w : World) (hrow : w.ownsRow B 33 3 v ps.length (rcs ps)) (hr : ∀ x ∈ ps, R64 x) (hm : ps.length ≤ 1000000) (hB : B ≤ w.heap.size) :
    Calls Try.prog 29 #[v, .func (.func 30) #[] #[]] w fun e w' => ∃ u, e = .returned u ∧ w'.ownsRow B 33 3 u (keptL ps).length (rcs (keptL ps)) ∧ Below B w w' := by
  by_cases hf : firstR notR ps = -1
  · refine (delfunc_none B v ps w hrow hr hm hf).mono ?_
    rintro e w' ⟨rfl, hb⟩
    refine ⟨v, rfl, ?_, hb.mono hB⟩
    rw [first_none hf]
    exact row_below hrow hb
  · rcases hrow.2 with ⟨rfl, e2⟩ | ⟨g, cap, cur, rfl, hb, _⟩
    · have : ps = [] := List.eq_nil_of_length_eq_zero e2
      subst this
      exact absurd rfl hf
    · refine (delfunc_some B g cap ps w hrow hr hm hf).mono ?_
      rintro e w' ⟨rfl, ho, hg⟩
      exact ⟨_, rfl, ho, (Below.refl B w).grown hg hB (fun k hk => by cases hk; exact hb)⟩

set_option maxRecDepth 100000 in
set_option maxHeartbeats 4000000 in
theorem gaps_walk (p : Value) (l xs : List Rg) (A : Option Addr) (n c : Nat) (w : World) (hR : ∀ W, Below w.heap.size w W → Calls Try.prog 16 #[p] W fun e w' => ∃ u, e = .returned u ∧ OwnC w' W.heap.size 3 u l.length (rcs l) ∧ Below W.heap.size W w')
    (hx : Sl w 3 RgC A n c xs) (hn : n ≤ 1000) (hcan : Canon l) (hlr : ∀ y ∈ l, RightR y) (hll : l.length ≤ 900) (hp : p = .pointer none ∨ ∃ g, p = .pointer (some ⟨g, 0, none⟩)) :
    Calls Try.prog 14 #[p, .slice A n c] w fun e w' => ∃ v J, e = .returned v ∧ Is J (xs.filter rightB) ∧ w'.ownsRow w.heap.size 33 3 v (gapsL J l).length (rcs (gapsL J l)) ∧ Below w.heap.size w w' := by
  have hxl := hx.len
  have HR := Lib.hid hR
  have HX := Lib.hid hx
  have HCan := Lib.hid hcan
  have HLr := Lib.hid hlr
  have hx64 := Lib.hid hx.r64
  clear hR hx hcan hlr
  obtain ⟨pa, rfl⟩ : ∃ pa, p = .pointer pa := by rcases hp with rfl | ⟨g, rfl⟩ <;> exact ⟨_, rfl⟩
  clear hp
  go_enter Try.func14, Try.ntmps14
  go_wp2_with fail
  refine (HR.out w (Below.refl _ _)).mono ?_
  rintro e w1 ⟨u1, rfl, ho1, hb1⟩
  obtain ⟨A1, c1, rfl, hs1⟩ := ho1.sl (fun y hy => (HLr.out y hy).r64)
  have HS1 := Lib.hid hs1
  have HB1 := Lib.hid hb1
  have HCl := Lib.hid (clone_row n c A xs w1 (HX.out.below hb1) (by omega))
  clear ho1 hs1 hb1
  go_wp2_with fail
  refine HCl.out.mono ?_
  rintro e w2 ⟨u2, rfl, ho2, hb2⟩
  have HD := Lib.hid (delfunc_any w1.heap.size u2 xs w2 ho2 hx64.out (by omega) hb2.size)
  have HB2 := Lib.hid (HB1.out.trans (hb2.mono HB1.out.size))
  have H12 := Lib.hid hb2
  clear ho2 hb2
  go_wp2_with fail
  refine HD.out.mono ?_
  rintro e w3 ⟨u3, rfl, ho3, hb3⟩
  rw [kept_right] at ho3
  obtain ⟨ys, hys⟩ : ∃ ys, ys = xs.filter rightB := ⟨_, rfl⟩
  rw [← hys] at ho3
  have hyr : ∀ y ∈ ys, RightR y := fun y hy => mem_right (by rw [hys] at hy; exact hy)
  have hyl : ys.length ≤ n := by rw [hys, ← hxl]; exact List.length_filter_le _ _
  obtain ⟨A3, c3, rfl⟩ := row_slice ho3
  have HJ := Lib.hid (joined_any ys.length c3 A3 ys w3 (own_slx ho3 hyr) (by omega) hyr)
  have HB3 := Lib.hid (HB2.out.trans (hb3.mono HB1.out.size))
  have HS3 := Lib.hid (HS1.out.below (H12.out.trans hb3))
  have HYr := Lib.hid hyr
  have HYs := Lib.hid hys
  clear ho3 hb3 hys hyr
  go_wp2_with fail
  refine HJ.out.mono ?_
  rintro e w4 ⟨u4, s, rfl, hp, hs, ho4, hb4⟩
  have hIs : Is (joinAll s) ys := joinAll_is hp hs (fun y hy => (HYr.out y hy).le)
  obtain ⟨J, hJ⟩ : ∃ J, joinAll s = J := ⟨_, rfl⟩
  rw [hJ] at hIs ho4
  have hJr := hIs.right HYr.out
  have hJl : J.length ≤ ys.length := hIs.len (fun y hy => (HYr.out y hy).le)
  obtain ⟨A4, c4, rfl⟩ := row_slice ho4
  have HIs := Lib.hid hIs
  have HJr := Lib.hid hJr
  have HSJ := Lib.hid (own_slx ho4 hJr)
  have HS4 := Lib.hid (HS3.out.below hb4)
  have HB4 := Lib.hid (HB3.out.trans (hb4.mono HB3.out.size))
  clear hp hs ho4 hb4 hIs hJr hJ
  obtain ⟨M, hM⟩ : ∃ M, M = l.length + 1 := ⟨_, rfl⟩
  have hJM : J.length * M ≤ 1000 * 901 := Nat.mul_le_mul (by omega) (by omega)
  go_wp2_with fail
  go_loopw [6, 19] (fun u i wr => ∃ (k : Nat) (L : List Rg), k ≤ J.length ∧ i = .int .i64 k ∧ gapsL J l = L ++ gapsL (J.drop k) l ∧ L.length ≤ k * M ∧ wr.ownsRow w4.heap.size 33 3 u L.length (rcs L) ∧ Below w4.heap.size w4 wr) (fun _ i _ => J.length - (intOf i).toNat)
  case atStart => exact ⟨0, [], by omega, rfl, rfl, by simp, World.ownsRow_nil _ _ _ _, Below.refl _ _⟩
  case round =>
    obtain ⟨k, L, hk, rfl, hG, hL, hO, hB⟩ := hrel
    obtain ⟨A5, c5, rfl⟩ := row_slice hO
    rcases Nat.lt_or_ge k J.length with hkl | hge
    · obtain ⟨b, off, rfl, hbl, d0, d1, d2, _⟩ := Sl.rg_at HSJ.out hkl
      have d0 := cell_below hB hbl d0
      have d1 := cell_below hB hbl d1
      have d2 := cell_below hB hbl d2
      have hdk := List.drop_eq_getElem_cons hkl
      have hxr := HJr.out J[k] (List.getElem_mem hkl)
      have hkM : (k + 1) * M ≤ J.length * M := Nat.mul_le_mul_right _ hkl
      rw [Nat.succ_mul] at hkM
      obtain ⟨g, hg⟩ : ∃ g, J[k] = g := ⟨_, rfl⟩
      rw [hg] at d0 d1 d2 hdk hxr
      rw [hdk, gapsL_cons] at hG
      obtain ⟨w5, hw5⟩ : ∃ w5, w5 = wr.alloc (.cells #[.int .i64 g.w, .int .i64 g.f, .int .i64 g.t] 33) := ⟨_, rfl⟩
      have hb5 : Below wr.heap.size wr w5 := by rw [hw5]; exact (Below.refl _ wr).alloc (Nat.le_refl _) _
      have hGb : Blk w5 wr.heap.size 33 #[.int .i64 g.w, .int .i64 g.f, .int .i64 g.t] := by rw [hw5]; exact Blk.new _ _ _
      have HW5 := Lib.hid hw5
      have HO5 := Lib.hid (row_below hO hb5)
      have HNe5 := Lib.hid (row_ne hO (Nat.le_refl _))
      have HB5 := Lib.hid (hB.trans (hb5.mono hB.size))
      have HGb := Lib.hid hGb
      have HG := Lib.hid hG
      have hsr := hB.size
      have HS5 := Lib.hid (show wr.heap.size + 1 ≤ w5.heap.size by rw [hw5]; simp)
      unfold RightR at hxr
      obtain ⟨r0, r1, r2, r3, r4⟩ := hxr
      clear hdk hg hw5 hb5 hGb hG hO hB
      go_wp2_with fail
      rw [← HW5.out]
      go_loopw [6, 9, 27] (fun u f i wq => ∃ (j : Nat) (P : List Rg) (a : Int), j ≤ l.length ∧ i = .int .i64 j ∧ f = .int .i64 a ∧ 1 ≤ a ∧ a ≤ 1099511627777 ∧ gapOne g g.f l = P ++ gapOne g a (l.drop j) ∧ P.length ≤ j ∧ wq.ownsRow w4.heap.size 33 3 u (L.length + P.length) (rcs (L ++ P)) ∧ Below w4.heap.size w4 wq ∧
        Blk wq wr.heap.size 33 #[.int .i64 g.w, .int .i64 g.f, .int .i64 g.t] ∧ u.ownBlock ≠ some wr.heap.size ∧ wr.heap.size + 1 ≤ wq.heap.size) (fun _ _ i _ => l.length - (intOf i).toNat)
      case atStart => exact ⟨0, [], g.f, by omega, rfl, rfl, by omega, by omega, rfl, by simp, by simpa using HO5.out, HB5.out, HGb.out, HNe5.out, HS5.out⟩
      case round =>
        obtain ⟨j, P, a, hj, rfl, rfl, ha1, ha2, hP, hPl, hO, hB, hGb, hne, hsz⟩ := hrel
        obtain ⟨A6, c6, rfl⟩ := row_slice hO
        have hm6 : L.length + P.length ≤ 1000000 := by omega
        rcases Nat.lt_or_ge j l.length with hjl | hjg
        · obtain ⟨b', off', rfl, hbl', e0, e1, e2, _⟩ := Sl.rg_at HS4.out hjl
          have e0 := cell_below hB hbl' e0
          have e1 := cell_below hB hbl' e1
          have e2 := cell_below hB hbl' e2
          have hdj := List.drop_eq_getElem_cons hjl
          have hyr := HLr.out l[j] (List.getElem_mem hjl)
          obtain ⟨y, hy⟩ : ∃ y, l[j] = y := ⟨_, rfl⟩
          rw [hy] at e0 e1 e2 hdj hyr
          rw [hdj, gapOne] at hP
          have hO7 := hO.alloc (.cells #[.int .i64 y.w, .int .i64 y.f, .int .i64 y.t] 33)
          have hG7 := hGb.alloc (.cells #[.int .i64 y.w, .int .i64 y.f, .int .i64 y.t] 33)
          have hB7 := hB.alloc hB.size (.cells #[.int .i64 y.w, .int .i64 y.f, .int .i64 y.t] 33)
          have hY7 := Blk.rg_new wr y
          have hs7 : w4.heap.size ≤ (wr.alloc (.cells #[.int .i64 y.w, .int .i64 y.f, .int .i64 y.t] 33)).heap.size := hB7.size
          obtain ⟨f0, f1, f2⟩ := blk3 hG7
          have HO7 := Lib.hid hO7
          have HG7 := Lib.hid hG7
          have HB7 := Lib.hid hB7
          have HY7 := Lib.hid hY7
          have HNeY := Lib.hid (row_ne hO (Nat.le_refl _))
          unfold RightR at hyr
          obtain ⟨y0, y1, y2, y3, y4⟩ := hyr
          clear hdj hy hO hB hGb hO7 hG7 hB7 hY7
          by_cases hs : y.w ≠ g.w ∨ y.t < a ∨ y.f > g.t
          · rw [if_pos hs] at hP
            have HP := Lib.hid hP
            clear hP
            by_cases c1 : y.w = g.w
            case' neg =>
              have t1 : (y.w != g.w) = true := by simp [c1]
              clear hs c1
            case' pos =>
              have t1 : (y.w != g.w) = false := by simp [c1]
              by_cases c2 : y.t < a
              case' pos =>
                have t2 : decide (y.t < a) = true := decide_eq_true c2
                clear hs c1 c2
              case' neg =>
                have t2 : decide (y.t < a) = false := decide_eq_false c2
                have t3 : decide (y.f > g.t) = true := decide_eq_true (by omega)
                clear hs c1 c2
            all_goals
              go_wp2_with fail
              exact ⟨⟨j + 1, P, a, by omega, by go_num, rfl, ha1, ha2, HP.out, by omega, HO7.out, HB7.out, HG7.out, hne, by simp; omega⟩, by simp [intOf]; omega⟩
          · rw [if_neg hs] at hP
            have t1 : (y.w != g.w) = false := by simp; omega
            have t2 : decide (y.t < a) = false := decide_eq_false (by omega)
            have t3 : decide (y.f > g.t) = false := decide_eq_false (by omega)
            by_cases c4 : a < y.f
            · have t4 : decide (a < y.f) = true := decide_eq_true c4
              rw [if_pos c4] at hP
              have HP := Lib.hid hP
              clear hP hs c4
              go_wp2_with (at_builtin; refine wpList_app3 (wr.alloc (.cells #[.int .i64 y.w, .int .i64 y.f, .int .i64 y.t] 33)) ⟨g.w, a, y.f - 1⟩ rfl (.tmp 53) (.tmp 61) rfl w4.heap.size (.slice A6 (L.length + P.length) c6) (L.length + P.length) (L ++ P) rfl HO7.out (by simp [Act.eval]) hm6 hs7 ?_; intro g8 cap8 w8 ho8 hb8 hg8 hat8; obtain ⟨z0, z1, z2⟩ := blk3 (HY7.out.grown hg8 (fun e => HNeY.out e.symm)); have HG8 := Lib.hid (HG7.out.grown hg8 (fun e => hne e.symm)); have HO8 := Lib.hid ho8; have HB8 := Lib.hid (HB7.out.trans hb8); have HA8 := Lib.hid hat8; have HZ8 := Lib.hid hb8.size; have HZ9 := Lib.hid hg8.size; clear ho8 hb8 hg8 hat8)
              have hq7 : ∀ q, q < wr.heap.size → (Value.slice A6 (L.length + P.length) c6).ownBlock ≠ some q → g8 ≠ q := by
                intro q hq hn e
                rcases HA8.out with h | h
                · exact hn (by rw [h, e])
                · simp at h; omega
              have hsz9 := HZ9.out
              simp only [World.size_alloc] at hsz9
              exact ⟨⟨j + 1, P ++ [⟨g.w, a, y.f - 1⟩], y.t + 1, by omega, by go_num, rfl, by omega, by omega, by rw [HP.out]; simp, by simp; omega, by rw [List.length_append, ← Nat.add_assoc, ← List.append_assoc]; exact HO8.out, HB8.out, HG8.out, by simp only [Value.ownBlock, ne_eq, Option.some.injEq]; exact hq7 _ (by omega) hne, by omega⟩, by simp [intOf]; omega⟩
            · have t4 : decide (a < y.f) = false := decide_eq_false c4
              rw [if_neg c4, List.nil_append] at hP
              have HP := Lib.hid hP
              clear hP hs c4
              obtain ⟨z0, z1, z2⟩ := blk3 HY7.out
              go_wp2_with fail
              exact ⟨⟨j + 1, P, y.t + 1, by omega, by go_num, rfl, by omega, by omega, HP.out, by omega, HO7.out, HB7.out, HG7.out, hne, by simp; omega⟩, by simp [intOf]; omega⟩
        · obtain rfl : j = l.length := by omega
          rw [List.drop_length, gapOne] at hP
          obtain ⟨f0, f1, f2⟩ := blk3 hGb
          have HO7 := Lib.hid hO
          have HB7 := Lib.hid hB
          have hs7 := hB.size
          clear hO hB hGb
          by_cases c4 : a ≤ g.t
          · have t4 : decide (a ≤ g.t) = true := decide_eq_true c4
            rw [if_pos c4] at hP
            have HP := Lib.hid hP
            clear hP c4
            go_wp2_with (at_builtin; refine wpList_app3 wr ⟨g.w, a, g.t⟩ rfl (.tmp 71) (.tmp 78) rfl w4.heap.size (.slice A6 (L.length + P.length) c6) (L.length + P.length) (L ++ P) rfl HO7.out (by simp [Act.eval]) hm6 hs7 ?_; intro g8 cap8 w8 ho8 hb8 _ _; have HO8 := Lib.hid ho8; have HB8 := Lib.hid (HB7.out.trans hb8); clear ho8 hb8)
            exact ⟨⟨k + 1, L ++ P ++ [⟨g.w, a, g.t⟩], by omega, by go_num, by rw [HG.out, HP.out]; simp, by rw [Nat.succ_mul]; simp; omega, by rw [List.length_append, List.length_append]; exact HO8.out, HB8.out⟩, by simp [intOf]; omega⟩
          · have t4 : decide (a ≤ g.t) = false := decide_eq_false c4
            rw [if_neg c4, List.append_nil] at hP
            have HP := Lib.hid hP
            clear hP c4
            go_wp2_with fail
            exact ⟨⟨k + 1, L ++ P, by omega, by go_num, by rw [HG.out, HP.out]; simp, by rw [Nat.succ_mul]; simp; omega, by simpa using HO7.out, HB7.out⟩, by simp [intOf]; omega⟩
    · obtain rfl : k = J.length := by omega
      rw [List.drop_length] at hG
      simp only [gapsL, List.flatMap_nil, List.append_nil] at hG
      have HO7 := Lib.hid hO
      have HB7 := Lib.hid hB
      have HG := Lib.hid hG
      clear hO hB hG
      go_wp2_with fail
      go_ret
      refine ⟨_, J, rfl, by rw [← HYs.out]; exact HIs.out, ?_, HB4.out.trans (HB7.out.mono HB4.out.size)⟩
      unfold gapsL
      rw [HG.out]
      exact row_mono HO7.out HB4.out.size
end Go.Proofs.Ytkkmleglaljacaa
