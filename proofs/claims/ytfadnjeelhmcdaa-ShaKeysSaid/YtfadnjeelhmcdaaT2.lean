/- The laws of the digest against the document's. -/
import Derived.Test.YtfadnjeelhmcdaaT
import Derived.Test.YtfadnjeelhmcdaaR
namespace Go.Proofs.Ytfadnjeelhmcdaa
open Go.RowKit
attribute [local go_sem] bs_size bs_getElem bs_list bs_append

set_option maxHeartbeats 400000 in
theorem key_r (l : List UInt8) (hl : l.length ≤ 100000) (w : World) :
    Calls Try.prog 10 #[.string (bs l)] w fun e w' => e = .returned (.string (bs ((sumL l).take 32))) ∧ Below w.heap.size w w' := by
  have hlen := sumL_len l
  have hk := key_extract l
  have h := sum_r l hl
  generalize sumL l = S at *
  have hS : ((32 : Nat)) ≤ (bs S).size := by rw [bs_size]; omega
  go_enter Try.func10, Try.ntmps10
  go_wp2_with fail
  refine (h _).mono ?_
  rintro e w1 ⟨rfl, hb⟩
  go_wp2_with fail
  go_ret
  exact ⟨rfl, hb⟩

set_option maxHeartbeats 400000 in
theorem law_sums (l : List UInt8) (w : World) (hl : l.length ≤ 9223372036854775807) :
    Calls Try.prog 3 #[.string (bs l)] w fun e w' => e = .returned (.bool true) ∧ Below w.heap.size w w' := by
  rcases Nat.lt_or_ge 100000 l.length with hlt | hge
  · have hd : decide (((l.length : Nat) : Int) > 100000) = true := decide_eq_true (by omega)
    go_enter Try.func3, Try.ntmps3
    go_wp2_with fail
    refine (awake_any _).mono ?_
    rintro e w1 ⟨rfl, hb⟩
    go_wp2_with fail
    go_ret
    exact ⟨rfl, hb⟩
  · have hd : decide (((l.length : Nat) : Int) > 100000) = false := decide_eq_false (by omega)
    have h1 := Lib.hid (sum_c l hge)
    have h2 := Lib.hid (sum_r l hge)
    generalize sumL l = S at *
    go_enter Try.func3, Try.ntmps3
    go_wp2_with fail
    refine (h1.out _).mono ?_
    rintro e w1 ⟨rfl, hb⟩
    go_wp2_with fail
    refine (h2.out _).mono ?_
    rintro e w2 ⟨rfl, hb2⟩
    have hb2 := hb.trans (hb2.mono hb.size)
    go_wp2_with fail
    refine (awake_any _).mono ?_
    rintro e w3 ⟨rfl, hb3⟩
    have hb3 := hb2.trans (hb3.mono hb2.size)
    go_wp2_with fail
    go_ret
    exact ⟨rfl, hb3⟩

set_option maxHeartbeats 400000 in
theorem law_keys (l : List UInt8) (w : World) (hl : l.length ≤ 9223372036854775807) :
    Calls Try.prog 4 #[.string (bs l)] w fun e w' => e = .returned (.bool true) ∧ Below w.heap.size w w' := by
  rcases Nat.lt_or_ge 100000 l.length with hlt | hge
  · have hd : decide (((l.length : Nat) : Int) > 100000) = true := decide_eq_true (by omega)
    go_enter Try.func4, Try.ntmps4
    go_wp2_with fail
    refine (awake_any _).mono ?_
    rintro e w1 ⟨rfl, hb⟩
    go_wp2_with fail
    go_ret
    exact ⟨rfl, hb⟩
  · have hd : decide (((l.length : Nat) : Int) > 100000) = false := decide_eq_false (by omega)
    have h1 := Lib.hid (key_c l hge)
    have h2 := Lib.hid (key_r l hge)
    generalize (sumL l).take 32 = S at *
    go_enter Try.func4, Try.ntmps4
    go_wp2_with fail
    refine (h1.out _).mono ?_
    rintro e w1 ⟨rfl, hb⟩
    go_wp2_with fail
    refine (h2.out _).mono ?_
    rintro e w2 ⟨rfl, hb2⟩
    have hb2 := hb.trans (hb2.mono hb.size)
    go_wp2_with fail
    refine (awake_any _).mono ?_
    rintro e w3 ⟨rfl, hb3⟩
    have hb3 := hb2.trans (hb3.mono hb2.size)
    go_wp2_with fail
    go_ret
    exact ⟨rfl, hb3⟩

end Go.Proofs.Ytfadnjeelhmcdaa
