/- The walks of the readers' methods. -/
import Derived.Test.YtabdgomlcaglbaaA
namespace Go.Proofs.Ytabdgomlcaglbaa
open Go.RowKit
attribute [local go_sem] bs_size bs_getElem bs_list

theorem num_any (g : Nat) (d : List UInt8) (a : Nat) (w : World) (hR : Rd w g d a 0) (ha : a ≤ d.length) (hd : d.length ≤ 9223372036854775807) :
    Calls Try.prog 23 #[.pointer (some ⟨g, 0, none⟩)] w fun e' w' => e' = .returned (.int .u64 (numR d a).2.2) ∧ Rd w' g d (numR d a).1 (numR d a).2.1 ∧ w.grownBy w' (some g) := by
  unfold numR
  split
  · rename_i h
    have : a = d.length := by have := congrArg List.length h; simp at this; omega
    subst this
    exact num_end g d w hR hd
  · rename_i h t hdr
    by_cases h1 : 8 < h.toNat
    · rw [if_pos h1]
      exact num_big g d a h t w hR hdr hd h1
    · rw [if_neg h1]
      by_cases h2 : t.length < h.toNat
      · rw [if_pos h2]
        exact num_short g d a h t w hR hdr hd (by omega) h2
      · rw [if_neg h2]
        by_cases h3 : (t.take h.toNat).head? = some 0
        · rw [if_pos h3]
          obtain ⟨s', hs⟩ : ∃ s', t.take h.toNat = 0 :: s' := by
            cases hc : t.take h.toNat with
            | nil => rw [hc] at h3; cases h3
            | cons c s' => rw [hc] at h3; simp at h3; subst h3; exact ⟨s', rfl⟩
          exact num_zero g d a h t w hR hdr hd (by omega) (by omega) s' hs
        · rw [if_neg h3]
          exact num_yes g d a h t w hR hdr hd (by omega) (by omega) _ rfl h3

set_option maxHeartbeats 400000 in
theorem Num_any (g : Nat) (d : List UInt8) (a : Nat) (e : Int) (w : World) (hR : Rd w g d a e) (ha : a ≤ d.length) (hd : d.length ≤ 9223372036854775807) :
    Calls Try.prog 17 #[.pointer (some ⟨g, 0, none⟩)] w fun e' w' => e' = .returned (.int .i64 (toI (numS d a e).2.2)) ∧ Rd w' g d (numS d a e).1 (numS d a e).2.1 ∧ w.grownBy w' (some g) := by
  obtain ⟨c0, c1, c2, f0, f1, f2⟩ := hR.cells
  unfold numS
  by_cases he : e = 0
  · subst he
    rw [if_pos rfl]
    go_enter Try.func17, Try.ntmps17
    go_wp2_with fail
    refine (num_any g d a w hR ha hd).mono ?_
    rintro e w1 ⟨rfl, hR1, hg1⟩
    go_wp2_with fail
    go_ret
    exact ⟨ret_int (by unfold toI wrap64; rfl), hR1, hg1⟩
  · rw [if_neg he]
    have hne : (e != 0) = true := by simp [he]
    go_enter Try.func17, Try.ntmps17
    go_wp2_with fail
    go_ret
    exact ⟨rfl, hR, gb_refl _ _⟩

set_option maxHeartbeats 400000 in
theorem Text_any (g : Nat) (d : List UInt8) (a : Nat) (e : Int) (w : World) (hR : Rd w g d a e) (ha : a ≤ d.length) (hd : d.length ≤ 9223372036854775807) :
    Calls Try.prog 15 #[.pointer (some ⟨g, 0, none⟩)] w fun e' w' => e' = .returned (.string (bs (textS d a e).2.2)) ∧ Rd w' g d (textS d a e).1 (textS d a e).2.1 ∧ w.grownBy w' (some g) := by
  obtain ⟨c0, c1, c2, f0, f1, f2⟩ := hR.cells
  by_cases he : e = 0
  · subst he
    have hle := numR_le d a ha
    have hlt := numR_lt d a
    have hnum := num_any g d a w hR ha hd
    unfold textS
    rw [if_pos rfl]
    generalize numR d a = r at *
    obtain ⟨a1, e1, n⟩ := r
    simp only [] at hnum hle hlt ⊢
    have HN := Lib.hid hnum
    clear hnum
    by_cases he1 : e1 = 0
    · subst he1
      rw [if_pos rfl]
      by_cases hs : d.length - a1 < n
      · rw [if_pos hs]
        go_enter Try.func15, Try.ntmps15
        go_wp2_with fail
        refine HN.out.mono ?_
        rintro e w1 ⟨rfl, hR1, hg1⟩
        obtain ⟨k0, k1, k2, j0, j1, j2⟩ := hR1.cells
        clear c0 c1 c2 f0 f1 f2
        go_wp2_with fail
        refine (take_no g d a1 0 n w1 hR1 hle hd hlt hs).mono ?_
        rintro e w2 ⟨rfl, hR2, hg2⟩
        go_wp2_with fail
        go_ret
        exact ⟨rfl, hR2, gb_trans hg1 hg2⟩
      · rw [if_neg hs]
        go_enter Try.func15, Try.ntmps15
        go_wp2_with fail
        refine HN.out.mono ?_
        rintro e w1 ⟨rfl, hR1, hg1⟩
        obtain ⟨k0, k1, k2, j0, j1, j2⟩ := hR1.cells
        clear c0 c1 c2 f0 f1 f2
        go_wp2_with fail
        refine (take_yes g d a1 0 n w1 hR1 hle hd (by omega)).mono ?_
        rintro e w2 ⟨rfl, hR2, hg2⟩
        go_wp2_with fail
        go_ret
        exact ⟨rfl, hR2, gb_trans hg1 hg2⟩
    · rw [if_neg he1]
      have hne : (e1 != 0) = true := by simp [he1]
      go_enter Try.func15, Try.ntmps15
      go_wp2_with fail
      refine HN.out.mono ?_
      rintro e w1 ⟨rfl, hR1, hg1⟩
      obtain ⟨k0, k1, k2, j0, j1, j2⟩ := hR1.cells
      clear c0 c1 c2 f0 f1 f2
      go_wp2_with fail
      go_ret
      exact ⟨rfl, hR1, hg1⟩
  · unfold textS
    rw [if_neg he]
    have hne : (e != 0) = true := by simp [he]
    go_enter Try.func15, Try.ntmps15
    go_wp2_with fail
    go_ret
    exact ⟨rfl, hR, gb_refl _ _⟩

set_option maxHeartbeats 400000 in
theorem Err_any (g : Nat) (d : List UInt8) (a : Nat) (e : Int) (w : World) (hR : Rd w g d a e) :
    Calls Try.prog 19 #[.pointer (some ⟨g, 0, none⟩)] w fun e' w' => e' = .returned (.int .i64 e) ∧ w = w' := by
  obtain ⟨c0, c1, c2, f0, f1, f2⟩ := hR.cells
  go_enter Try.func19, Try.ntmps19
  go_wp2_with fail
  go_ret
  exact ⟨rfl, rfl⟩

set_option maxHeartbeats 400000 in
theorem End_any (g : Nat) (d : List UInt8) (a : Nat) (e : Int) (w : World) (hR : Rd w g d a e) (ha : a ≤ d.length) (hd : d.length ≤ 9223372036854775807) :
    Calls Try.prog 20 #[.pointer (some ⟨g, 0, none⟩)] w fun e' w' => e' = .returned (.int .i64 (endS d a e)) ∧ Below w.heap.size w w' := by
  obtain ⟨c0, c1, c2, f0, f1, f2⟩ := hR.cells
  unfold endS
  by_cases he : e = 0
  · subst he
    rw [if_pos rfl]
    by_cases hlt : a < d.length
    · rw [if_pos hlt]
      go_enter Try.func20, Try.ntmps20
      go_wp2_with fail
      refine (Err_any g d a 0 _ hR).mono ?_
      rintro e w' ⟨rfl, rfl⟩
      go_wp2_with fail
      go_quiet (fail)
      go_wp2_with fail
      go_ret
      exact ⟨rfl, below_drewN (Below.refl _ _) _⟩
    · rw [if_neg hlt]
      go_enter Try.func20, Try.ntmps20
      go_wp2_with fail
      refine (Err_any g d a 0 _ hR).mono ?_
      rintro e w' ⟨rfl, rfl⟩
      go_wp2_with fail
      go_quiet (fail)
      go_wp2_with fail
      go_ret
      exact ⟨rfl, below_drewN (Below.refl _ _) _⟩
  · rw [if_neg he]
    have hne : (e != 0) = true := by simp [he]
    go_enter Try.func20, Try.ntmps20
    go_wp2_with fail
    refine (Err_any g d a e _ hR).mono ?_
    rintro e w' ⟨rfl, rfl⟩
    go_wp2_with fail
    go_ret
    exact ⟨rfl, Below.refl _ _⟩

set_option maxHeartbeats 400000 in
theorem Read_any (d : List UInt8) (w : World) :
    Calls Try.prog 14 #[.string (bs d)] w fun e' w' => e' = .returned (.pointer (some ⟨w.heap.size, 0, none⟩)) ∧ Rd w' w.heap.size d 0 0 ∧ Below w.heap.size w w' := by
  go_enter Try.func14, Try.ntmps14
  go_wp2_with fail
  go_ret
  exact ⟨rfl, Blk.new _ _ _, (Below.refl _ _).alloc (Nat.le_refl _) _⟩

/-! ### A nil reader -/
theorem Num_nil (w : World) : Calls Try.prog 17 #[.pointer none] w fun e' w' => e' = .returned (.int .i64 0) ∧ w = w' := by
  go_enter Try.func17, Try.ntmps17
  go_wp2_with fail
  go_ret
  exact ⟨rfl, rfl⟩
theorem Text_nil (w : World) : Calls Try.prog 15 #[.pointer none] w fun e' w' => e' = .returned (.string (bs [])) ∧ w = w' := by
  go_enter Try.func15, Try.ntmps15
  go_wp2_with fail
  go_ret
  exact ⟨rfl, rfl⟩
theorem Err_nil (w : World) : Calls Try.prog 19 #[.pointer none] w fun e' w' => e' = .returned (.int .i64 2) ∧ w = w' := by
  go_enter Try.func19, Try.ntmps19
  go_wp2_with fail
  go_ret
  exact ⟨rfl, rfl⟩
theorem End_nil (w : World) : Calls Try.prog 20 #[.pointer none] w fun e' w' => e' = .returned (.int .i64 2) ∧ w = w' := by
  go_enter Try.func20, Try.ntmps20
  go_wp2_with fail
  refine (Err_nil _).mono ?_
  rintro e w' ⟨rfl, rfl⟩
  go_wp2_with fail
  go_ret
  exact ⟨rfl, rfl⟩
end Go.Proofs.Ytabdgomlcaglbaa
