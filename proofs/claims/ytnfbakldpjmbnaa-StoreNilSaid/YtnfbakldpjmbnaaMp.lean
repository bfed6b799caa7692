/- chunk.Manifest. -/
import Derived.Test.YtnfbakldpjmbnaaMw
namespace Go.Proofs.Ytnfbakldpjmbnaa
open Go.RowKit
attribute [local go_sem] bs_size bs_getElem bs_list bs_append

/-- a row of strings, behind what a builder's writing leaves -/
theorem row_kept {w w' : World} {B B0 b : Nat} {l : List UInt8} {v : Value} {n : Nat} {xs : List Value} (h : w.ownsRow B 9 1 v n xs) (hB : Bld w B0 b l) (hk : Lib.OthersKept 5 (some b) w w') : w'.ownsRow B 9 1 v n xs := by
  refine ⟨h.1, ?_⟩
  rcases h.2 with hn | ⟨g, cap, cur, rfl, hb, hg, hnc, hcm, hcs, ht⟩
  · exact .inl hn
  · refine .inr ⟨g, cap, cur, rfl, hb, hk g _ hg (fun e => ?_) (fun c fz e => ?_), hnc, hcm, hcs, ht⟩
    · obtain rfl := Option.some.inj e
      rcases hB with hB | hB
      · obtain ⟨_, u, hu, _⟩ := hB; rw [hg] at hu; cases hu
      · obtain ⟨_, u, hu, _⟩ := hB; rw [hg] at hu; cases hu
    · cases e
theorem row_below {w w' : World} {B : Nat} {e : TypeId} {size : Nat} {v : Value} {n : Nat} {xs : List Value} (h : w.ownsRow B e size v n xs) (hb : Below w.heap.size w w') : w'.ownsRow B e size v n xs :=
  h.kept (gb_of_below hb none) (by
    rcases h.2 with ⟨rfl, _⟩ | ⟨g, cap, cur, rfl, _⟩
    · exact .inl rfl
    · exact .inr (by simp [Value.ownBlock]))
theorem Bld.below {w w' : World} {B b : Nat} {l : List UInt8} (h : Bld w B b l) (hb : Below w.heap.size w w') : Bld w' B b l := by
  have go : ∀ p, Lib.BuilderAt 64 5 B b p (bv l) w → Lib.BuilderAt 64 5 B b p (bv l) w' := fun p ⟨h1, v, h2, h3, h4⟩ =>
    ⟨h1, v, (hb.block b (by
      rcases Nat.lt_or_ge b w.heap.size with h' | h'
      · exact h'
      · rw [Array.getElem?_eq_none h'] at h2; cases h2)).trans h2, row_below h3 hb, h4⟩
  rcases h with h | h
  · exact .inl (go _ h)
  · exact .inr (go _ h)

set_option maxRecDepth 100000 in
set_option maxHeartbeats 1600000 in
theorem man_any (d : List UInt8) (hd : d.length ≤ 1000000) (w : World) : Calls Try.prog 20 #[.string (bs d)] w (ManP w d) := by
  by_cases hbig : d.length ≤ 4096
  case neg =>
    have hq : decide ((d.length : Int) > 4096) = true := decide_eq_true (by omega)
    have HB := Lib.hid hbig
    clear hbig
    go_enter Try.func20, Try.ntmps20
    go_wp2_with fail
    go_ret2
    exact ManP.big HB.out (Below.refl _ _)
  have hq : decide ((d.length : Int) > 4096) = false := decide_eq_false (by omega)
  by_cases h0 : d = []
  · subst h0
    go_enter Try.func20, Try.ntmps20
    go_wp2_with fail
    go_ret2
    exact ManP.nil_ (Below.refl _ _)
  have hem : d.isEmpty = false := by cases d <;> simp_all
  have H0 := Lib.hid h0
  have HBig := Lib.hid hbig
  have HNum := Lib.hid (fun w => Cd.num_c (d.length : Int) w (by omega))
  rw [← manK_zero] at HNum
  have hsh := short_piece d
  have HSh := Lib.hid hsh
  have HCut := Lib.hid (cut_any d hd)
  have HKey := Lib.hid (fun (s : List UInt8) (h : s.length ≤ 256) (w : World) => key_c s (by omega) w)
  have hpl : pieces d.length ≤ 16 := by unfold pieces; omega
  have hcl := cutL_length d
  have hB0 := (Below.refl w.heap.size w).alloc (Nat.le_refl _) (.cells #[.pointer none, .slice none 0 0] 64)
  have hBl := Bld.fresh w
  have hm0 := manK_len d 0
  obtain ⟨w0, hw0⟩ : ∃ w0, w0 = w.alloc (.cells #[.pointer none, .slice none 0 0] 64) := ⟨_, rfl⟩
  obtain ⟨b0, hb0⟩ : ∃ b0, b0 = w.heap.size := ⟨_, rfl⟩
  have hs0 : b0 < w0.heap.size := by rw [hw0, hb0]; simp
  rw [← hw0] at hB0 hBl
  rw [← hb0] at hBl
  have HW := Lib.hid hw0
  have HQ := Lib.hid hb0
  have HB0 := Lib.hid hB0
  have HBl := Lib.hid hBl
  clear h0 hbig hsh hw0 hb0 hB0 hBl
  go_enter Try.func20, Try.ntmps20
  go_upto_region 6 with (fail)
  rw [← HW.out, ← HQ.out]
  go_wp2_with fail
  refine (HNum.out w0).mono ?_
  rintro e w1 ⟨rfl, hb1⟩
  have HB1 := Lib.hid (HB0.out.trans (hb1.mono HB0.out.size))
  have HBl1 := Lib.hid (Bld.below HBl.out hb1)
  have hs1 : b0 ≤ w1.heap.size := Nat.le_trans (Nat.le_of_lt hs0) hb1.size
  clear hb1
  go_wp2_with fail
  refine (write_any b0 b0 [] (manK d 0) w1 HBl1.out (by simp; omega) hs1).mono ?_
  rintro e w2 ⟨rfl, hBl2, hb2, _⟩
  rw [List.nil_append] at hBl2
  have HB2 := Lib.hid (HB1.out.trans (hb2.mono (by rw [HQ.out]; exact Nat.le_refl _)))
  have hs2 : b0 ≤ w2.heap.size := Nat.le_trans hs1 hb2.size
  have HBl2 := Lib.hid hBl2
  clear hb2 hBl2
  go_wp2_with fail
  refine (HCut.out w2).mono ?_
  rintro e w3 ⟨v3, rfl, hO, hb3⟩
  have HBl3 := Lib.hid (Bld.below HBl2.out hb3)
  have HB3 := Lib.hid (HB2.out.trans (hb3.mono HB2.out.size))
  have hs3 : b0 ≤ w3.heap.size := Nat.le_trans hs2 hb3.size
  obtain ⟨A, c, rfl, hS⟩ := OwnT.strs (OwnC.of_row hO) HSh.out
  have HO := Lib.hid hO
  have hmx := hS.max
  have hle := hS.le
  have HCl := Lib.hid hcl
  clear hO hb3 hS hcl
  go_wp2_with fail
  go_loopw [21] (fun i wr => ∃ k : Nat, k ≤ (cutL d).length ∧ i = .int .i64 k ∧ Bld wr b0 b0 (manK d k) ∧ wr.ownsRow w2.heap.size 9 1 (.slice A (cutL d).length c) (cutL d).length (strs (cutL d)) ∧ Below b0 w wr ∧ b0 ≤ wr.heap.size) (fun i _ => (cutL d).length - (intOf i).toNat)
  case atStart => exact ⟨0, by omega, rfl, HBl3.out, HO.out, by rw [HQ.out]; exact HB3.out, hs3⟩
  case round =>
    obtain ⟨k, hk, rfl, hBr, hOr, hbr, hsr⟩ := hrel
    rcases Nat.lt_or_ge k (cutL d).length with hlt | hge
    · obtain ⟨A', c', he, hS⟩ := OwnT.strs (OwnC.of_row hOr) HSh.out
      cases he
      obtain ⟨b, off, rfl, hbl, c0, hm⟩ := Strs.at_ hS hlt
      rw [cutL_at hlt] at c0
      have hki : (k : Int) < ((cutL d).length : Int) := by omega
      have HK := Lib.hid (HKey.out (piece d k) (piece_len d k) wr)
      have HNx := Lib.hid (manK_succ d k)
      unfold keyL at HNx
      have hln := manK_len d k
      have hln2 : (manK d k).length ≤ 1000 := by have := HCl.out; omega
      have hln3 : ((sumL (piece d k)).take 32).length ≤ 32 := List.length_take_le _ _
      have HBr := Lib.hid hBr
      have HOr := Lib.hid hOr
      have Hbr := Lib.hid hbr
      clear hBr hOr hbr hln hm hS
      generalize (sumL (piece d k)).take 32 = ky at *
      generalize piece d k = pc at *
      go_wp2_with fail
      refine HK.out.mono ?_
      rintro e w4 ⟨rfl, hb4⟩
      have HB4 := Lib.hid (Below.trans Hbr.out (hb4.mono hsr))
      have HBl4 := Lib.hid (Bld.below HBr.out hb4)
      have HO4 := Lib.hid (row_below HOr.out hb4)
      have hs4 : b0 ≤ w4.heap.size := Nat.le_trans hsr hb4.size
      clear hb4
      go_wp2_with fail
      refine (write_any b0 b0 (manK d k) ky w4 HBl4.out (by omega) hs4).mono ?_
      rintro e w5 ⟨rfl, hBl5, hb5, hk5⟩
      have HB5 := Lib.hid (Below.trans HB4.out hb5)
      have HO5 := Lib.hid (row_kept HO4.out HBl4.out hk5)
      have hs5 : b0 ≤ w5.heap.size := Nat.le_trans hs4 hb5.size
      have HBl5 := Lib.hid hBl5
      clear hBl5 hb5 hk5
      go_wp2_with fail
      exact ⟨⟨k + 1, by omega, by go_num, by rw [HNx.out]; exact HBl5.out, HO5.out, HB5.out, hs5⟩, by simp [intOf]; omega⟩
    · have hkn : ¬ (k : Int) < ((cutL d).length : Int) := by omega
      have hfin : RowKit.Hid (manK d k = manL d) := Lib.hid (by rw [← manK_all]; congr 1; have := HCl.out; omega)
      have HBr := Lib.hid hBr
      have Hbr := Lib.hid hbr
      clear hBr hOr hbr
      go_wp2_with fail
      refine (string_any b0 b0 (manK d k) wr HBr.out hsr).mono ?_
      rintro e w4 ⟨rfl, hb4⟩
      have HB4 := Lib.hid (show Below w.heap.size w w4 by rw [← HQ.out]; exact Below.trans Hbr.out hb4)
      clear hb4
      go_wp2_with fail
      go_ret2
      exact ManP.yes HBig.out H0.out hfin.out HB4.out
end Go.Proofs.Ytnfbakldpjmbnaa
