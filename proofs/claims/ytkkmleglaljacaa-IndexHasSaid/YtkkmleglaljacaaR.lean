/- The law on gaps. -/
import Derived.Test.YtkkmleglaljacaaQ
namespace Go.Proofs.Ytkkmleglaljacaa
open Go.RowKit

theorem filter_plus (xs : List Rg) (k : Nat) (hk : k < xs.length) : (xs.take (k + 1)).filter rightB = (xs.take k).filter rightB ++ plusR xs[k] := filter_snoc xs k hk
theorem idx_new (t : TypeId) (W : World) : Idx t (W.alloc (.cells #[.slice none 0 0] t)) W.heap.size (.slice none 0 0) [] :=
  ⟨Blk.new _ _ _, World.ownsRow_nil _ _ _ _, ⟨List.Pairwise.nil, fun _ h => by cases h⟩, fun _ h => by cases h⟩

theorem OwnC.slr {W : World} {B n c : Nat} {A : Option Addr} {l : List Rg} (h : OwnC W B 3 (.slice A n c) n (rcs l)) (hl : ∀ y ∈ l, R64 y) : Sl W 3 RgC A n c l := by
  have hn : n = l.length := by
    have := h.1
    rw [rcs_len] at this
    omega
  subst hn
  obtain ⟨A', c', e2, h2⟩ := h.sl hl
  cases e2
  exact h2

set_option maxRecDepth 100000 in
set_option maxHeartbeats 3200000 in
theorem law_gaps (A1 : Option Addr) (n1 c1 : Nat) (xs : List Rg) (A2 : Option Addr) (n2 c2 : Nat) (ys : List Rg) (w : World) (hx : Sl w 3 RgC A1 n1 c1 xs) (hy : Sl w 3 RgC A2 n2 c2 ys) :
    Calls Try.prog 3 #[.slice A1 n1 c1, .slice A2 n2 c2] w fun e w' => e = .returned (.bool true) ∧ Below w.heap.size w w' := by
  have hl1 := hx.len
  have hl2 := hy.len
  have hm1 := hx.max
  have hm2 := hy.max
  have hle1 := hx.le
  have hle2 := hy.le
  by_cases hbig : n1 > 100 ∨ n2 > 100
  · by_cases hb1 : n1 > 100
    case' pos => have d1 : decide ((n1 : Int) > 100) = true := decide_eq_true (by omega)
    case' neg =>
      have d1 : decide ((n1 : Int) > 100) = false := decide_eq_false (by omega)
      have d2 : decide ((n2 : Int) > 100) = true := decide_eq_true (by omega)
    all_goals
      clear hbig hb1 hx hy
      go_enter Try.func3, Try.ntmps3
      go_wp2_with fail
      refine (new_any w).mono ?_
      rintro e w1 ⟨rfl, hI, hb⟩
      have HB := Lib.hid hb
      clear hI hb
      go_wp2_with fail
      refine (awake_any _).mono ?_
      rintro e w9 ⟨rfl, hb9⟩
      have hb10 := HB.out.trans (hb9.mono HB.out.size)
      clear hb9
      go_wp2_with fail
      go_ret
      exact ⟨rfl, hb10⟩
  have d1 : decide ((n1 : Int) > 100) = false := decide_eq_false (by omega)
  have d2 : decide ((n2 : Int) > 100) = false := decide_eq_false (by omega)
  have hn1 : n1 ≤ 100 := by omega
  have hn2 : n2 ≤ 100 := by omega
  have HX := Lib.hid hx
  have HY := Lib.hid hy
  clear hbig hx hy
  go_enter Try.func3, Try.ntmps3
  go_wp2_with fail
  refine (new_any w).mono ?_
  rintro e w1 ⟨rfl, hI, hb⟩
  have HI1 := Lib.hid (hI.below ((Below.refl _ _).alloc (Nat.le_refl _) (.cells #[.slice none 0 0] 28)))
  have HR1 := Lib.hid (idx_new 28 w1)
  have hsz := hI.lt
  obtain ⟨h, hh⟩ : ∃ h, h = w1.heap.size := ⟨_, rfl⟩
  have HB1 := Lib.hid (hb.alloc hb.size (.cells #[.slice none 0 0] 28))
  rw [← hh] at HR1
  have hgh : w.heap.size < h := by omega
  have HH := Lib.hid hh
  clear hI hb hh
  go_wp2_with fail
  rw [← HH.out]
  go_loopw [7] (fun i wr => ∃ (k : Nat) (l : List Rg) (vx vr : Value), k ≤ n1 ∧ i = .int .i64 k ∧ Idx 49 wr w.heap.size vx l ∧ Idx 28 wr h vr l ∧ Is l ((xs.take k).filter rightB) ∧ l.length ≤ k ∧ Below w.heap.size w wr) (fun i _ => n1 - (intOf i).toNat)
  case atStart => exact ⟨0, [], _, _, by omega, rfl, HI1.out, HR1.out, Is.nil_, by simp, HB1.out⟩
  case round =>
    obtain ⟨k, l, vx, vr, hk, rfl, hIx, hIr, hIs, hll, hB⟩ := hrel
    rcases Nat.lt_or_ge k n1 with hlt | hge
    · have hkl : k < xs.length := by omega
      obtain ⟨b, off, rfl, hbl, c0, c1', c2', _⟩ := Sl.rg_at HX.out hkl
      have d0 := cell_below hB hbl c0
      have d1' := cell_below hB hbl c1'
      have d2' := cell_below hB hbl c2'
      have hf := filter_plus xs k hkl
      obtain ⟨x, hxx⟩ : ∃ x, xs[k] = x := ⟨_, rfl⟩
      rw [hxx] at c0 c1' c2' d0 d1' d2' hf
      have HC := Lib.hid (And.intro c0 (And.intro c1' c2'))
      have HA := Lib.hid (add_any _ vx l x wr hIx (by omega))
      have HIx := Lib.hid hIx
      have HIr := Lib.hid hIr
      have HIs := Lib.hid hIs
      have HF := Lib.hid hf
      have HB := Lib.hid hB
      clear hIx hIr hIs hf hB hxx c0 c1' c2'
      go_wp2_with fail
      refine HA.out.mono ?_
      rintro e w2 ⟨v2, l2, a2, e2, rfl, hA⟩
      have hB2 := below_gb HB.out hA.by_ (Nat.le_refl _) HB.out.size
      have q := HC.out
      have f0 := cell_below hB2 hbl q.1
      have f1 := cell_below hB2 hbl q.2.1
      have f2 := cell_below hB2 hbl q.2.2
      have HR := Lib.hid (radd_any h vr l x w2 (HIr.out.other HIx.out.blk (by decide) (by omega) hA.by_) (by omega))
      have HA2 := Lib.hid hA
      have HB2 := Lib.hid hB2
      clear hA hB2 q d0 d1' d2'
      go_wp2_with fail
      refine HR.out.mono ?_
      rintro e w3 ⟨v3, l3, a3, e3, rfl, hA⟩
      have hIr2 := HIr.out.other HIx.out.blk (by decide) (Nat.ne_of_gt hgh) HA2.out.by_
      have hl : l3 = l2 := (hA.is _ HIs.out).one (HA2.out.is _ HIs.out)
      have hB3 := below_gb HB2.out hA.by_ (by omega) HB2.out.size
      have hIx3 := HA2.out.idx.other hIr2.blk (by decide) (Nat.ne_of_lt hgh) hA.by_
      have hIr3 := hA.idx
      rw [hl] at hIr3
      have HP := Lib.hid (And.intro hIx3 (And.intro hIr3 (And.intro (HA2.out.is _ HIs.out) (And.intro HA2.out.len hB3))))
      clear hA hIr2 hl hB3 hIx3 hIr3 f0 f1 f2
      go_wp2_with fail
      obtain ⟨p1, p2, p3, p4, p5⟩ := HP.out
      exact ⟨⟨k + 1, l2, v2, v3, by omega, by go_num, p1, p2, by rw [HF.out]; exact p3, by omega, p5⟩, by simp [intOf]; omega⟩
    · obtain rfl : k = n1 := by omega
      have hB' : Below w.heap.size w (wr.alloc (.cells #[] 33)) := hB.alloc hB.size _
      have hb9 : Below wr.heap.size wr (wr.alloc (.cells #[] 33)) := (Below.refl _ wr).alloc (Nat.le_refl _) _
      have hsrc := src_sl (tx := 22) (e' := 33) Try.underlying22 (HY.out.below hB')
      have hown : OwnC (wr.alloc (.cells #[] 33)) wr.heap.size 3 (.slice (some ⟨wr.heap.size, 0, none⟩) 0 0) 0 [] :=
        ⟨rfl, .inr ⟨_, 0, rfl, Nat.le_refl _, by simp, Nat.le_refl _, Nat.zero_le _, fun j hj => by omega, fun j hj => by omega, fun j u h => by cases h⟩⟩
      obtain ⟨i0, hi0, hz0, hz1, hz2⟩ := info_parts info33
      have HIx := Lib.hid hIx
      have HIr := Lib.hid hIr
      have HIs := Lib.hid hIs
      have HB := Lib.hid hB
      have HB9 := Lib.hid hb9
      have HSr := Lib.hid hsrc
      have HOw := Lib.hid hown
      clear hIx hIr hIs hB hB' hb9 hsrc hown
      go_wp2_with (at_builtin; refine wpList_append_C _ rfl (.tmp 47) (.tmp 48) 22 22 rfl 33 i0 (.agg #[.int .i64 0, .int .i64 0, .int .i64 0]) 3 Try.underlying22 hi0 hz0 hz1 rfl (by decide) _ _ 0 [] rfl HOw.out _ rfl n2 (rcs ys) HSr.out (by unfold maxLen; omega) (by rw [hz2]; omega) (by simp) ?_; intro v4 w4 ho4 hg4 _; obtain ⟨A4, c4, rfl⟩ := OwnC.isSlice ho4; have HB4 := Lib.hid (gb_own HB9.out (Nat.le_refl _) (by simp) HOw.out hg4); have HO4 := Lib.hid ho4; clear ho4 hg4)
      have ho4 := HO4.out
      rw [List.nil_append, Nat.zero_add] at ho4
      have hs4 := ho4.slr HY.out.r64
      have HS4 := Lib.hid hs4
      have HG := Lib.hid (gaps_any _ vx l ys A4 n2 c4 w4 (HIx.out.below HB4.out) hs4 (by omega) (by omega))
      have HR4 := Lib.hid (HIr.out.below HB4.out)
      have HB5 := Lib.hid (HB.out.trans (HB4.out.mono HB.out.size))
      clear ho4 hs4
      refine HG.out.mono ?_
      rintro e w5 ⟨A5, c5, J5, rfl, hJ5, hs5, hb5⟩
      have HB6 := Lib.hid (HB5.out.trans (hb5.mono HB5.out.size))
      have HG2 := Lib.hid (rgaps_any h vr l ys A2 n2 c2 w5 (HR4.out.below hb5) (HY.out.below HB6.out) (by omega) (by omega))
      have HS5 := Lib.hid hs5
      have HS4' := Lib.hid (HS4.out.below hb5)
      have HJ5 := Lib.hid hJ5
      clear hJ5 hs5 hb5
      go_wp2_with fail
      refine HG2.out.mono ?_
      rintro e w6 ⟨A6, c6, J6, rfl, hJ6, hs6, hb6⟩
      obtain rfl : J6 = J5 := hJ6.one HJ5.out
      have hlen : (gapsL J6 l).length ≤ 1000 := by
        have h1 := gapsL_len HIx.out.canon hJ6.1
        have h2 := hJ6.len (fun y hy => (mem_right hy).le)
        have h3 := List.length_filter_le rightB ys
        omega
      have HB7 := Lib.hid (HB6.out.trans (hb6.mono HB6.out.size))
      have HS6 := Lib.hid hs6
      have HS46 := Lib.hid (HS4'.out.below hb6)
      have HS56 := Lib.hid (HS5.out.below hb6)
      clear hJ6 hs6 hb6
      obtain ⟨G, hGe⟩ : ∃ G, gapsL J6 l = G := ⟨_, rfl⟩
      rw [hGe] at HS6 HS56 hlen ⊢
      clear hGe
      go_wp2_with fail
      refine (same_any _ c5 _ c6 A5 A6 G G w6 HS56.out HS6.out (by omega) (by omega)).mono ?_
      rintro e w7 ⟨rfl, hb7⟩
      rw [show sameB G G = true from by unfold sameB; simp]
      have HB8 := Lib.hid (HB7.out.trans (hb7.mono HB7.out.size))
      have HS47 := Lib.hid (HS46.out.below hb7)
      clear hb7
      go_wp2_with fail
      refine (same_any _ c4 _ c2 A4 A2 ys ys w7 HS47.out (HY.out.below HB8.out) (by omega) (by omega)).mono ?_
      rintro e w8 ⟨rfl, hb8⟩
      rw [show sameB ys ys = true from by unfold sameB; simp]
      have HB9' := Lib.hid (HB8.out.trans (hb8.mono HB8.out.size))
      clear hb8
      go_wp2_with fail
      refine (awake_any _).mono ?_
      rintro e w9 ⟨rfl, hb9⟩
      have hb10 := HB9'.out.trans (hb9.mono HB9'.out.size)
      clear hb9
      go_wp2_with fail
      go_ret
      exact ⟨rfl, hb10⟩
end Go.Proofs.Ytkkmleglaljacaa
