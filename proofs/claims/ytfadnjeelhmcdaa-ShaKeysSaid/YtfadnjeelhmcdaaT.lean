/- The law of the digest's size; its key; the chapter's example. -/
import Derived.Test.YtfadnjeelhmcdaaG
namespace Go.Proofs.Ytfadnjeelhmcdaa
open Go.RowKit
attribute [local go_sem] bs_size bs_getElem bs_list bs_append

theorem key_extract (l : List UInt8) : (bs (sumL l)).extract 0 32 = bs ((sumL l).take 32) := by rw [bs_extract]; rfl

set_option maxHeartbeats 400000 in
theorem key_c (l : List UInt8) (hl : l.length ≤ 100000) (w : World) :
    Calls Try.prog 9 #[.string (bs l)] w fun e w' => e = .returned (.string (bs ((sumL l).take 32))) ∧ Below w.heap.size w w' := by
  have hlen := sumL_len l
  have hk := key_extract l
  have h := sum_c l hl
  generalize sumL l = S at *
  have hS : ((32 : Nat)) ≤ (bs S).size := by rw [bs_size]; omega
  go_enter Try.func9, Try.ntmps9
  go_wp2_with fail
  refine (h _).mono ?_
  rintro e w1 ⟨rfl, hb⟩
  go_wp2_with fail
  go_ret
  exact ⟨rfl, hb⟩

theorem bs_abc : (ByteArray.mk #[97, 98, 99]) = bs abc := rfl
set_option maxHeartbeats 400000 in
theorem awake_any (w : World) : Calls Try.prog 8 #[] w fun e' w' => e' = .returned (.bool true) ∧ Below w.heap.size w w' := by
  have h := key_c abc (by decide)
  rw [abc_key] at h
  have H := Lib.hid h
  clear h
  go_enter Try.func8, Try.ntmps8
  go_wp2_with fail
  refine (H.out _).mono ?_
  rintro e w1 ⟨rfl, hb⟩
  have he : (bs abcKey).toList = abcKey := bs_list _
  go_wp2_with fail
  go_ret
  exact ⟨by first | rfl | (simp [abcKey]), hb⟩

set_option maxHeartbeats 1000000 in
theorem law_sizes (l : List UInt8) (w : World) (hl : l.length ≤ 9223372036854775807) :
    Calls Try.prog 5 #[.string (bs l)] w fun e w' => e = .returned (.bool true) ∧ Below w.heap.size w w' := by
  rcases Nat.lt_or_ge 100000 l.length with hlt | hge
  · have hd : decide (((l.length : Nat) : Int) > 100000) = true := decide_eq_true (by omega)
    go_enter Try.func5, Try.ntmps5
    go_wp2_with fail
    refine (awake_any _).mono ?_
    rintro e w1 ⟨rfl, hb⟩
    go_wp2_with fail
    go_ret
    exact ⟨rfl, hb⟩
  · have hd : decide (((l.length : Nat) : Int) > 100000) = false := decide_eq_false (by omega)
    have h1 := Lib.hid (sum_c l hge)
    have h2 := Lib.hid (key_c l hge)
    have hlen := sumL_len l
    have hk := key_extract l
    generalize sumL l = S at *
    have hS : ((32 : Nat)) ≤ (bs S).size := by rw [bs_size]; omega
    go_enter Try.func5, Try.ntmps5
    go_wp2_with fail
    refine (h1.out _).mono ?_
    rintro e w1 ⟨rfl, hb⟩
    go_wp2_with fail
    refine wp_region_after (by kernel_rfl) (by kernel_rfl) ?_
    repeat (go_big_quiet_step (first | (go_at_call 9; exact after_call (h2.out _)) | (go_at_call 8; exact after_call (awake_any _))))
    refine wpQuiet_nil ?_
    rintro _ ⟨x, rfl⟩
    have hb2 := hb.trans (x.below.mono hb.size)
    go_wp2_with fail
    go_ret
    exact ⟨rfl, hb2⟩
end Go.Proofs.Ytfadnjeelhmcdaa
