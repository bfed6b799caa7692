/- The walks of the readers' methods. -/
import Derived.Test.YtnfbakldpjmbnaaCdA
namespace Go.Proofs.Ytnfbakldpjmbnaa.Cd
open Go.RowKit
attribute [local go_sem] bs_size bs_getElem bs_list

theorem num_any (g : Nat) (d : List UInt8) (a : Nat) (w : World) (hR : Rd w g d a 0) (ha : a ≤ d.length) (hd : d.length ≤ 9223372036854775807) :
    Calls Try.prog 34 #[.pointer (some ⟨g, 0, none⟩)] w fun e' w' => e' = .returned (.int .u64 (numR d a).2.2) ∧ Rd w' g d (numR d a).1 (numR d a).2.1 ∧ w.grownBy w' (some g) := by
  unfold numR
  split
  · rename_i h
    have : a = d.length := by have := congrArg List.length h; simp at this; omega
    subst this
    exact num_end g d w hR hd
  · rename_i h t hdr
    by_cases h1 : 8 < h.toNat
    · rw [if_pos h1]
      exact num_big g d a h t w hR hdr hd h1
    · rw [if_neg h1]
      by_cases h2 : t.length < h.toNat
      · rw [if_pos h2]
        exact num_short g d a h t w hR hdr hd (by omega) h2
      · rw [if_neg h2]
        by_cases h3 : (t.take h.toNat).head? = some 0
        · rw [if_pos h3]
          obtain ⟨s', hs⟩ : ∃ s', t.take h.toNat = 0 :: s' := by
            cases hc : t.take h.toNat with
            | nil => rw [hc] at h3; cases h3
            | cons c s' => rw [hc] at h3; simp at h3; subst h3; exact ⟨s', rfl⟩
          exact num_zero g d a h t w hR hdr hd (by omega) (by omega) s' hs
        · rw [if_neg h3]
          exact num_yes g d a h t w hR hdr hd (by omega) (by omega) _ rfl h3

set_option maxHeartbeats 400000 in
theorem Num_any (g : Nat) (d : List UInt8) (a : Nat) (e : Int) (w : World) (hR : Rd w g d a e) (ha : a ≤ d.length) (hd : d.length ≤ 9223372036854775807) :
    Calls Try.prog 24 #[.pointer (some ⟨g, 0, none⟩)] w fun e' w' => e' = .returned (.int .i64 (toI (numS d a e).2.2)) ∧ Rd w' g d (numS d a e).1 (numS d a e).2.1 ∧ w.grownBy w' (some g) := by
  obtain ⟨c0, c1, c2, f0, f1, f2⟩ := hR.cells
  unfold numS
  by_cases he : e = 0
  · subst he
    rw [if_pos rfl]
    go_enter Try.func24, Try.ntmps24
    go_wp2_with fail
    refine (num_any g d a w hR ha hd).mono ?_
    rintro e w1 ⟨rfl, hR1, hg1⟩
    go_wp2_with fail
    go_ret
    exact ⟨ret_int (by unfold toI wrap64; rfl), hR1, hg1⟩
  · rw [if_neg he]
    have hne : (e != 0) = true := by simp [he]
    go_enter Try.func24, Try.ntmps24
    go_wp2_with fail
    go_ret
    exact ⟨rfl, hR, gb_refl _ _⟩

set_option maxHeartbeats 400000 in
theorem Err_any (g : Nat) (d : List UInt8) (a : Nat) (e : Int) (w : World) (hR : Rd w g d a e) :
    Calls Try.prog 25 #[.pointer (some ⟨g, 0, none⟩)] w fun e' w' => e' = .returned (.int .i64 e) ∧ w = w' := by
  obtain ⟨c0, c1, c2, f0, f1, f2⟩ := hR.cells
  go_enter Try.func25, Try.ntmps25
  go_wp2_with fail
  go_ret
  exact ⟨rfl, rfl⟩

set_option maxHeartbeats 400000 in
theorem Read_any (d : List UInt8) (w : World) :
    Calls Try.prog 23 #[.string (bs d)] w fun e' w' => e' = .returned (.pointer (some ⟨w.heap.size, 0, none⟩)) ∧ Rd w' w.heap.size d 0 0 ∧ Below w.heap.size w w' := by
  go_enter Try.func23, Try.ntmps23
  go_wp2_with fail
  go_ret
  exact ⟨rfl, Blk.new _ _ _, (Below.refl _ _).alloc (Nat.le_refl _) _⟩

/-! ### A nil reader -/
theorem Num_nil (w : World) : Calls Try.prog 24 #[.pointer none] w fun e' w' => e' = .returned (.int .i64 0) ∧ w = w' := by
  go_enter Try.func24, Try.ntmps24
  go_wp2_with fail
  go_ret
  exact ⟨rfl, rfl⟩
theorem Err_nil (w : World) : Calls Try.prog 25 #[.pointer none] w fun e' w' => e' = .returned (.int .i64 2) ∧ w = w' := by
  go_enter Try.func25, Try.ntmps25
  go_wp2_with fail
  go_ret
  exact ⟨rfl, rfl⟩
end Go.Proofs.Ytnfbakldpjmbnaa.Cd
