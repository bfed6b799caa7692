/- Gaps, as the document does it. -/
import Derived.Test.YtkkmleglaljacaaN
namespace Go.Proofs.Ytkkmleglaljacaa
open Go.RowKit

theorem Is.snoc {J K a : List Rg} {x : Rg} (h : Is J a) (k : Is K (J ++ [x])) : Is K (a ++ [x]) :=
  ⟨k.1, fun w n => by rw [k.2, cov_append, cov_append, h.2]⟩
theorem filter_snoc (xs : List Rg) (k : Nat) (hk : k < xs.length) : (xs.take (k + 1)).filter rightB = (xs.take k).filter rightB ++ (if rightB xs[k] then [xs[k]] else []) := by
  rw [List.take_succ_eq_append_getElem hk, List.filter_append]
  congr 1
  cases h : rightB xs[k] <;> simp [h]
theorem row_off {w : World} {B : Nat} {e : TypeId} {size n : Nat} {v : Value} {xs : List Value} (h : w.ownsRow B e size v n xs) {p : Addr} (hp : v.ownBlock ≠ some p.block) (u : Value) : (w.setCell p u).ownsRow B e size v n xs :=
  h.kept (gb_setCell (gb_refl w (some p.block)) (.inl rfl) u) (.inr hp)

set_option maxRecDepth 100000 in
set_option maxHeartbeats 4000000 in
theorem rgaps_walk (gI : Nat) (v : Value) (l xs : List Rg) (A : Option Addr) (n c : Nat) (w : World) (hI : Idx 28 w gI v l)
    (hx : Sl w 3 RgC A n c xs) (hn : n ≤ 1000) (hll : l.length ≤ 900) :
    Calls Try.prog 15 #[.pointer (some ⟨gI, 0, none⟩), .slice A n c] w fun e w' => ∃ v J, e = .returned v ∧ Is J (xs.filter rightB) ∧ w'.ownsRow w.heap.size 33 3 v (gapsL J l).length (rcs (gapsL J l)) ∧ Below w.heap.size w w' := by
  have hxl := hx.len
  have hgI := hI.lt
  have hcI := hI.cell
  obtain ⟨A1, c1, rfl, hs1⟩ := hI.sl
  have HX := Lib.hid hx
  have HCI := Lib.hid hcI
  have HS1 := Lib.hid hs1
  have HCan := Lib.hid hI.canon
  have HLr := Lib.hid hI.right
  clear hx hcI hs1 hI
  go_enter Try.func15, Try.ntmps15
  go_wp2_with fail
  go_loopw [5, 6] (fun u i wr => ∃ (k : Nat) (J : List Rg), k ≤ n ∧ i = .int .i64 k ∧ Is J ((xs.take k).filter rightB) ∧ (∀ y ∈ J, RightR y) ∧ J.length ≤ k ∧ wr.ownsRow w.heap.size 33 3 u J.length (rcs J) ∧ Below w.heap.size w wr) (fun _ i _ => n - (intOf i).toNat)
  case atStart => exact ⟨0, [], by omega, rfl, Is.nil_, (fun _ h => by cases h), by simp, World.ownsRow_nil _ _ _ _, Below.refl _ _⟩
  case round =>
    obtain ⟨k, J, hk, rfl, hIs, hJr, hJl, hO, hB⟩ := hrel
    obtain ⟨A5, c5, rfl⟩ := row_slice hO
    rcases Nat.lt_or_ge k n with hkn | hge
    · have hkl : k < xs.length := by omega
      obtain ⟨b, off, rfl, hbl, d0, d1, d2, _⟩ := Sl.rg_at HX.out hkl
      have d0' := cell_below hB hbl d0
      have d1' := cell_below hB hbl d1
      have d2' := cell_below hB hbl d2
      have hfs := filter_snoc xs k hkl
      have hmem : xs[k] ∈ xs := List.getElem_mem hkl
      obtain ⟨x, hxx⟩ : ∃ x, xs[k] = x := ⟨_, rfl⟩
      rw [hxx] at d0 d1 d2 d0' d1' d2' hfs
      have HR := Lib.hid (fun W => Right_any x W)
      have HD := Lib.hid (And.intro d0 (And.intro d1 d2))
      have HO := Lib.hid hO
      have HB := Lib.hid hB
      have HIs := Lib.hid hIs
      have HJr := Lib.hid hJr
      unfold rv at HR
      clear hO hB hIs hJr d0 d1 d2 hxx hmem
      cases hr : rightB x with
      | false =>
        rw [hr] at HR hfs
        rw [if_neg (by simp), List.append_nil] at hfs
        have HF := Lib.hid hfs
        clear hfs hr
        go_wp2_with fail
        refine (HR.out _).mono ?_
        rintro e w2 ⟨rfl, hb2⟩
        have HO2 := Lib.hid (row_below HO.out hb2)
        have HB2 := Lib.hid (HB.out.trans (hb2.mono HB.out.size))
        clear hb2
        go_wp2_with fail
        exact ⟨⟨k + 1, J, by omega, by go_num, by rw [HF.out]; exact HIs.out, HJr.out, by omega, HO2.out, HB2.out⟩, by simp [intOf]; omega⟩
      | true =>
        rw [hr] at HR hfs
        rw [if_pos rfl] at hfs
        have hxr : RightR x := of_decide_eq_true hr
        have HF := Lib.hid hfs
        have HXr := Lib.hid hxr
        clear hfs hr hxr d0' d1' d2'
        have q := HD.out
        have d0 := cell_below HB.out hbl q.1
        have d1 := cell_below HB.out hbl q.2.1
        have d2 := cell_below HB.out hbl q.2.2
        clear q
        go_wp2_with fail
        refine (HR.out _).mono ?_
        rintro e w2 ⟨rfl, hb2⟩
        have hO2 := row_below HO.out hb2
        have hB2 := HB.out.trans (hb2.mono HB.out.size)
        have q := HD.out
        have e0 := cell_below hB2 hbl q.1
        have e1 := cell_below hB2 hbl q.2.1
        have e2 := cell_below hB2 hbl q.2.2
        have HW := Lib.hid (with_any J.length c5 A5 J x w2 (own_slx hO2 HJr.out) (by omega) HJr.out HXr.out)
        have HB2 := Lib.hid hB2
        unfold rv at HW
        clear q hb2 hO2 hB2 d0 d1 d2
        go_wp2_with fail
        refine HW.out.mono ?_
        rintro e w3 ⟨u3, rfl, ho3, hb3⟩
        have hK := with_is HIs.out.1 HXr.out.le
        have hK2 := HIs.out.snoc hK
        have hKr := hK.right (right_snoc HJr.out HXr.out)
        have hKl : (withL J x false).length ≤ J.length + 1 := by
          have := hK.len (fun y hy => (right_snoc HJr.out HXr.out y hy).le)
          simpa using this
        obtain ⟨K, hKe⟩ : ∃ K, withL J x false = K := ⟨_, rfl⟩
        rw [hKe] at hK2 hKr hKl ho3
        obtain ⟨A6, c6, rfl⟩ := row_slice ho3
        have HO3 := Lib.hid (row_mono ho3 HB2.out.size)
        have HB3 := Lib.hid (HB2.out.trans (hb3.mono HB2.out.size))
        have HK := Lib.hid hK2
        have HKr := Lib.hid hKr
        clear hK hK2 hKr hKe ho3 hb3
        go_wp2_with fail
        exact ⟨⟨k + 1, K, by omega, by go_num, by rw [HF.out]; exact HK.out, HKr.out, by omega, HO3.out, HB3.out⟩, by simp [intOf]; omega⟩
    · obtain rfl : k = n := by omega
      rw [List.take_of_length_le (by omega)] at hIs
      have HIs := Lib.hid hIs
      have HJr := Lib.hid hJr
      have HSJ := Lib.hid (own_slx hO hJr)
      have HB4 := Lib.hid hB
      obtain ⟨w4, hw4⟩ : ∃ w4, w4 = wr := ⟨_, rfl⟩
      rw [← hw4] at HSJ HB4 ⊢
      clear hw4 hO hB hIs hJr
      obtain ⟨M, hM⟩ : ∃ M, M = l.length + 1 := ⟨_, rfl⟩
      have hJM : J.length * M ≤ 1000 * 901 := Nat.mul_le_mul (by omega) (by omega)
      go_wp2_with fail
      go_loopw [7, 8] (fun u i wr => ∃ (k : Nat) (L : List Rg), k ≤ J.length ∧ i = .int .i64 k ∧ (J.flatMap fun g => gapDoc g g.f l) = L ++ ((J.drop k).flatMap fun g => gapDoc g g.f l) ∧ L.length ≤ k * M ∧ wr.ownsRow w4.heap.size 33 3 u L.length (rcs L) ∧ Below w4.heap.size w4 wr) (fun _ i _ => J.length - (intOf i).toNat)
      case atStart => exact ⟨0, [], by omega, rfl, rfl, by simp, World.ownsRow_nil _ _ _ _, Below.refl _ _⟩
      case round =>
        obtain ⟨k2, L, hk2, rfl, hG, hL, hO, hB⟩ := hrel
        obtain ⟨A7, c7, rfl⟩ := row_slice hO
        rcases Nat.lt_or_ge k2 J.length with hkl | hge
        · obtain ⟨b, off, rfl, hbl, d0, d1, d2, _⟩ := Sl.rg_at HSJ.out hkl
          have d0 := cell_below hB hbl d0
          have d1 := cell_below hB hbl d1
          have d2 := cell_below hB hbl d2
          have hdk := List.drop_eq_getElem_cons hkl
          have hxr := HJr.out J[k2] (List.getElem_mem hkl)
          have hkM : (k2 + 1) * M ≤ J.length * M := Nat.mul_le_mul_right _ hkl
          rw [Nat.succ_mul] at hkM
          obtain ⟨g, hg⟩ : ∃ g, J[k2] = g := ⟨_, rfl⟩
          rw [hg] at d0 d1 d2 hdk hxr
          rw [hdk, List.flatMap_cons] at hG
          obtain ⟨w5, hw5⟩ : ∃ w5, w5 = wr.alloc (.cells #[.int .i64 g.w, .int .i64 g.f, .int .i64 g.t] 33) := ⟨_, rfl⟩
          have hb5 : Below wr.heap.size wr w5 := by rw [hw5]; exact (Below.refl _ wr).alloc (Nat.le_refl _) _
          have hGb : Blk w5 wr.heap.size 33 #[.int .i64 g.w, .int .i64 g.f, .int .i64 g.t] := by rw [hw5]; exact Blk.new _ _ _
          have HW5 := Lib.hid hw5
          have HO5 := Lib.hid (row_below hO hb5)
          have HNe5 := Lib.hid (row_ne hO (Nat.le_refl _))
          have HB5 := Lib.hid (hB.trans (hb5.mono hB.size))
          have HGb := Lib.hid hGb
          have HG := Lib.hid hG
          have hsr := hB.size
          have HS5 := Lib.hid (show wr.heap.size + 1 ≤ w5.heap.size by rw [hw5]; simp)
          unfold RightR at hxr
          obtain ⟨r0, r1, r2, r3, r4⟩ := hxr
          clear hdk hg hw5 hb5 hGb hG hO hB
          go_wp2_with fail
          rw [← HW5.out]
          go_loopw [7, 10] (fun u i wq => ∃ (j : Nat) (P : List Rg) (a : Int), j ≤ l.length ∧ i = .int .i64 j ∧ 1 ≤ a ∧ a ≤ 1099511627777 ∧ gapDoc g g.f l = P ++ gapDoc g a (l.drop j) ∧ P.length ≤ j ∧ wq.ownsRow w4.heap.size 33 3 u (L.length + P.length) (rcs (L ++ P)) ∧ Below w4.heap.size w4 wq ∧
            Blk wq wr.heap.size 33 #[.int .i64 g.w, .int .i64 a, .int .i64 g.t] ∧ u.ownBlock ≠ some wr.heap.size ∧ wr.heap.size + 1 ≤ wq.heap.size) (fun _ i _ => l.length - (intOf i).toNat)
          case atStart => exact ⟨0, [], g.f, by omega, rfl, by omega, by omega, rfl, by simp, by simpa using HO5.out, HB5.out, HGb.out, HNe5.out, HS5.out⟩
          case round =>
            obtain ⟨j, P, a, hj, rfl, ha1, ha2, hP, hPl, hO, hB, hGb, hne, hsz⟩ := hrel
            obtain ⟨A6, c6, rfl⟩ := row_slice hO
            have hm6 : L.length + P.length ≤ 1000000 := by omega
            have hBw := HB4.out.trans (hB.mono HB4.out.size)
            have hci := cell_below hBw hgI HCI.out
            rcases Nat.lt_or_ge j l.length with hjl | hjg
            · obtain ⟨b', off', rfl, hbl', e0, e1, e2, _⟩ := Sl.rg_at HS1.out hjl
              have e0 := cell_below hBw hbl' e0
              have e1 := cell_below hBw hbl' e1
              have e2 := cell_below hBw hbl' e2
              have hdj := List.drop_eq_getElem_cons hjl
              have hyr := HLr.out l[j] (List.getElem_mem hjl)
              obtain ⟨y, hy⟩ : ∃ y, l[j] = y := ⟨_, rfl⟩
              rw [hy] at e0 e1 e2 hdj hyr
              rw [hdj, gapDoc] at hP
              have hO7 := hO.alloc (.cells #[.int .i64 y.w, .int .i64 y.f, .int .i64 y.t] 33)
              have hG7 := hGb.alloc (.cells #[.int .i64 y.w, .int .i64 y.f, .int .i64 y.t] 33)
              have hB7 := hB.alloc hB.size (.cells #[.int .i64 y.w, .int .i64 y.f, .int .i64 y.t] 33)
              have hY7 := Blk.rg_new wr y
              have hs7 : w4.heap.size ≤ (wr.alloc (.cells #[.int .i64 y.w, .int .i64 y.f, .int .i64 y.t] 33)).heap.size := hB7.size
              obtain ⟨f0, f1, f2⟩ := blk3 hG7
              have ff := hG7.frozen 1
              have HO0 := Lib.hid hO
              have HG0 := Lib.hid hGb
              have HB0 := Lib.hid hB
              have HO7 := Lib.hid hO7
              have HG7 := Lib.hid hG7
              have HB7 := Lib.hid hB7
              have HY7 := Lib.hid hY7
              have HNeY := Lib.hid (row_ne hO (Nat.le_refl _))
              unfold RightR at hyr
              obtain ⟨y0, y1, y2, y3, y4⟩ := hyr
              clear hdj hy hO hB hGb hO7 hG7 hB7 hY7 hBw
              by_cases hs : y.w ≠ g.w ∨ y.t < a ∨ y.f > g.t ∨ a > g.t
              · rw [if_pos hs] at hP
                have HP := Lib.hid hP
                clear hP
                by_cases c1 : y.w = g.w
                case' neg =>
                  have t1 : (y.w != g.w) = true := by simp [c1]
                  clear hs c1
                case' pos =>
                  have t1 : (y.w != g.w) = false := by simp [c1]
                  by_cases c2 : y.t < a
                  case' pos =>
                    have t2 : decide (y.t < a) = true := decide_eq_true c2
                    clear hs c1 c2
                  case' neg =>
                    have t2 : decide (y.t < a) = false := decide_eq_false c2
                    by_cases c3 : y.f > g.t
                    case' pos =>
                      have t3 : decide (y.f > g.t) = true := decide_eq_true c3
                      clear hs c1 c2 c3
                    case' neg =>
                      have t3 : decide (y.f > g.t) = false := decide_eq_false c3
                      have t4 : decide (a > g.t) = true := decide_eq_true (by omega)
                      clear hs c1 c2 c3
                all_goals
                  go_wp2_with fail
                  exact ⟨⟨j + 1, P, a, by omega, by go_num, ha1, ha2, HP.out, by omega, HO7.out, HB7.out, HG7.out, hne, by simp; omega⟩, by simp [intOf]; omega⟩
              · rw [if_neg hs] at hP
                have t1 : (y.w != g.w) = false := by simp; omega
                have t2 : decide (y.t < a) = false := decide_eq_false (by omega)
                have t3 : decide (y.f > g.t) = false := decide_eq_false (by omega)
                have t4 : decide (a > g.t) = false := decide_eq_false (by omega)
                by_cases c4 : a < y.f
                · have t5 : decide (y.f > a) = true := decide_eq_true c4
                  rw [if_pos c4] at hP
                  have HP := Lib.hid hP
                  clear hP hs c4
                  go_wp2_with (at_builtin; refine wpList_app3 (wr.alloc (.cells #[.int .i64 y.w, .int .i64 y.f, .int .i64 y.t] 33)) ⟨g.w, a, y.f - 1⟩ rfl (.tmp 86) (.tmp 95) rfl w4.heap.size (.slice A6 (L.length + P.length) c6) (L.length + P.length) (L ++ P) rfl HO7.out (by simp [Act.eval]) hm6 hs7 ?_; intro g8 cap8 w8 ho8 hb8 hg8 hat8; obtain ⟨z0, z1, z2⟩ := blk3 (HY7.out.grown hg8 (fun e => HNeY.out e.symm)); have HG8 := Lib.hid (HG7.out.grown hg8 (fun e => hne e.symm)); obtain ⟨x0, x1, x2⟩ := blk3 HG8.out; have xf := HG8.out.frozen 1; have HO8 := Lib.hid ho8; have HB8 := Lib.hid (HB7.out.trans hb8); have HA8 := Lib.hid hat8; have HZ9 := Lib.hid hg8.size; clear ho8 hb8 hg8 hat8)
                  have hq7 : ∀ q, q < wr.heap.size → (Value.slice A6 (L.length + P.length) c6).ownBlock ≠ some q → g8 ≠ q := by
                    intro q hq hn e
                    rcases HA8.out with h | h
                    · exact hn (by rw [h, e])
                    · simp at h; omega
                  have hsz9 := HZ9.out
                  simp only [World.size_alloc] at hsz9
                  have hne8 := hq7 _ (by omega) hne
                  exact ⟨⟨j + 1, P ++ [⟨g.w, a, y.f - 1⟩], y.t + 1, by omega, by go_num, by omega, by omega, by rw [HP.out]; simp, by simp; omega, by rw [List.length_append, ← Nat.add_assoc, ← List.append_assoc]; exact row_off HO8.out (by simp only [Value.ownBlock, ne_eq, Option.some.injEq]; exact hne8) _, HB8.out.setCell (by simp; omega) _, HG8.out.set_ 1 _, by simp only [Value.ownBlock, ne_eq, Option.some.injEq]; exact hne8, by simp [World.setCell]; omega⟩, by simp [intOf]; omega⟩
                · have t5 : decide (y.f > a) = false := decide_eq_false c4
                  rw [if_neg c4, List.nil_append] at hP
                  have HP := Lib.hid hP
                  clear hP hs c4
                  obtain ⟨z0, z1, z2⟩ := blk3 HY7.out
                  go_wp2_with fail
                  refine ⟨⟨j + 1, P, y.t + 1, by omega, by go_num, by omega, by omega, HP.out, by omega, row_off HO7.out hne _, HB7.out.setCell ?_ _, HG7.out.set_ 1 _, hne, ?_⟩, by simp [intOf]; omega⟩
                  · show w4.heap.size ≤ _
                    omega
                  · simp [World.setCell]; omega
            · obtain rfl : j = l.length := by omega
              rw [List.drop_length, gapDoc] at hP
              obtain ⟨f0, f1, f2⟩ := blk3 hGb
              have HO7 := Lib.hid hO
              have HB7 := Lib.hid hB
              have hs7 := hB.size
              clear hO hB hGb hBw
              by_cases c4 : a ≤ g.t
              · have t4 : decide (a ≤ g.t) = true := decide_eq_true c4
                rw [if_pos c4] at hP
                have HP := Lib.hid hP
                clear hP c4
                go_wp2_with (at_builtin; refine wpList_app3 wr ⟨g.w, a, g.t⟩ rfl (.tmp 106) (.tmp 108) rfl w4.heap.size (.slice A6 (L.length + P.length) c6) (L.length + P.length) (L ++ P) rfl HO7.out (by simp [Act.eval]) hm6 hs7 ?_; intro g8 cap8 w8 ho8 hb8 _ _; have HO8 := Lib.hid ho8; have HB8 := Lib.hid (HB7.out.trans hb8); clear ho8 hb8)
                exact ⟨⟨k2 + 1, L ++ P ++ [⟨g.w, a, g.t⟩], by omega, by go_num, by rw [HG.out, HP.out]; simp, by rw [Nat.succ_mul]; simp; omega, by rw [List.length_append, List.length_append]; exact HO8.out, HB8.out⟩, by simp [intOf]; omega⟩
              · have t4 : decide (a ≤ g.t) = false := decide_eq_false c4
                rw [if_neg c4, List.append_nil] at hP
                have HP := Lib.hid hP
                clear hP c4
                go_wp2_with fail
                exact ⟨⟨k2 + 1, L ++ P, by omega, by go_num, by rw [HG.out, HP.out]; simp, by rw [Nat.succ_mul]; simp; omega, by simpa using HO7.out, HB7.out⟩, by simp [intOf]; omega⟩
        · obtain rfl : k2 = J.length := by omega
          rw [List.drop_length, List.flatMap_nil, List.append_nil, gapsL_doc HCan.out (fun g hg => (HJr.out g hg).le)] at hG
          have HO7 := Lib.hid hO
          have HB7 := Lib.hid hB
          have HG := Lib.hid hG
          clear hO hB hG
          go_wp2_with fail
          go_ret
          refine ⟨_, J, rfl, HIs.out, ?_, HB4.out.trans (HB7.out.mono HB4.out.size)⟩
          rw [HG.out]
          exact row_mono HO7.out HB4.out.size
end Go.Proofs.Ytkkmleglaljacaa
