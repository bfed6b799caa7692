/- The laws of the sum of bytes. -/
import Derived.Test.YtanplhmnmicdaaaC
namespace Go.Proofs.Ytanplhmnmicdaaa
open Go.RowKit
attribute [local go_sem] bs_size bs_getElem bs_list bs_append

set_option maxHeartbeats 400000 in
theorem law_sums (l : List UInt8) (w : World) (hl : l.length ≤ 9223372036854775807) :
    Calls Try.prog 3 #[.string (bs l)] w fun e w' => e = .returned (.bool true) ∧ Below w.heap.size w w' := by
  rcases Nat.lt_or_ge 100000 l.length with hlt | hge
  · have hd : decide (((l.length : Nat) : Int) > 100000) = true := by simp; omega
    go_enter Try.func3, Try.ntmps3
    go_wp2_with fail
    refine (awake_any _).mono ?_
    rintro e w1 ⟨rfl, hb⟩
    go_wp2_with fail
    go_ret
    exact ⟨rfl, hb⟩
  · have hd : decide (((l.length : Nat) : Int) > 100000) = false := by simp; omega
    go_enter Try.func3, Try.ntmps3
    go_wp2_with fail
    refine (sum_c l hl _).mono ?_
    rintro e w1 ⟨rfl, hb⟩
    go_wp2_with fail
    refine (sum_r l hl _).mono ?_
    rintro e w2 ⟨rfl, rfl⟩
    go_wp2_with fail
    refine (awake_any _).mono ?_
    rintro e w3 ⟨rfl, hb2⟩
    have hb3 := hb.trans (hb2.mono hb.size)
    go_wp2_with fail
    go_ret
    exact ⟨rfl, hb3⟩

set_option maxHeartbeats 400000 in
theorem law_more (s : Int) (l : List UInt8) (w : World) (hl : l.length ≤ 9223372036854775807) :
    Calls Try.prog 4 #[.int .i64 s, .string (bs l)] w fun e w' => e = .returned (.bool true) ∧ Below w.heap.size w w' := by
  rcases Nat.lt_or_ge 100000 l.length with hlt | hge
  · have hd : decide (((l.length : Nat) : Int) > 100000) = true := by simp; omega
    go_enter Try.func4, Try.ntmps4
    go_wp2_with fail
    refine (awake_any _).mono ?_
    rintro e w1 ⟨rfl, hb⟩
    go_wp2_with fail
    go_ret
    exact ⟨rfl, hb⟩
  · have hd : decide (((l.length : Nat) : Int) > 100000) = false := by simp; omega
    go_enter Try.func4, Try.ntmps4
    go_wp2_with fail
    refine (more_c s l hl _).mono ?_
    rintro e w1 ⟨rfl, hb⟩
    go_wp2_with fail
    refine (more_r s l hl _).mono ?_
    rintro e w2 ⟨rfl, rfl⟩
    go_wp2_with fail
    refine (awake_any _).mono ?_
    rintro e w3 ⟨rfl, hb2⟩
    have hb3 := hb.trans (hb2.mono hb.size)
    go_wp2_with fail
    go_ret
    exact ⟨rfl, hb3⟩

set_option maxHeartbeats 400000 in
theorem law_joins (a b : List UInt8) (w : World) (ha : a.length ≤ 9223372036854775807) (hb : b.length ≤ 9223372036854775807) :
    Calls Try.prog 5 #[.string (bs a), .string (bs b)] w fun e w' => e = .returned (.bool true) ∧ Below w.heap.size w w' := by
  rcases Nat.lt_or_ge 100000 a.length with hlt | hge
  · have hd : decide (((a.length : Nat) : Int) > 100000) = true := by simp; omega
    go_enter Try.func5, Try.ntmps5
    go_wp2_with fail
    refine (awake_any _).mono ?_
    rintro e w1 ⟨rfl, hb⟩
    go_wp2_with fail
    go_ret
    exact ⟨rfl, hb⟩
  · have hd : decide (((a.length : Nat) : Int) > 100000) = false := by simp; omega
    rcases Nat.lt_or_ge 100000 b.length with hlt' | hge'
    · have hd' : decide (((b.length : Nat) : Int) > 100000) = true := by simp; omega
      go_enter Try.func5, Try.ntmps5
      go_wp2_with fail
      refine (awake_any _).mono ?_
      rintro e w1 ⟨rfl, hb⟩
      go_wp2_with fail
      go_ret
      exact ⟨rfl, hb⟩
    · have hd' : decide (((b.length : Nat) : Int) > 100000) = false := by simp; omega
      have hs : a.length + b.length ≤ 200000 := by omega
      have hab : (a ++ b).length ≤ 9223372036854775807 := by simp; omega
      have HJ := Lib.hid (joins a b)
      have HAB := Lib.hid hab
      clear hab
      go_enter Try.func5, Try.ntmps5
      go_wp2_with fail
      refine (sum_c a ha _).mono ?_
      rintro e w1 ⟨rfl, hb1⟩
      go_wp2_with fail
      refine (more_c _ b hb _).mono ?_
      rintro e w2 ⟨rfl, hb2⟩
      rw [HJ.out]
      have hb2 := hb1.trans (hb2.mono hb1.size)
      go_wp2_with fail
      refine (sum_c _ HAB.out _).mono ?_
      rintro e w3 ⟨rfl, hb3⟩
      have hb3 := hb2.trans (hb3.mono hb2.size)
      clear hb1 hb2
      go_wp2_with fail
      refine (awake_any _).mono ?_
      rintro e w4 ⟨rfl, hb4⟩
      have hb4 := hb3.trans (hb4.mono hb3.size)
      go_wp2_with fail
      go_ret
      exact ⟨rfl, hb4⟩

set_option maxHeartbeats 400000 in
theorem law_small (s : Int) (l : List UInt8) (w : World) (hl : l.length ≤ 9223372036854775807) :
    Calls Try.prog 7 #[.int .i64 s, .string (bs l)] w fun e w' => e = .returned (.bool true) ∧ Below w.heap.size w w' := by
  rcases Nat.lt_or_ge 100000 l.length with hlt | hge
  · have hd : decide (((l.length : Nat) : Int) > 100000) = true := by simp; omega
    go_enter Try.func7, Try.ntmps7
    go_wp2_with fail
    refine (awake_any _).mono ?_
    rintro e w1 ⟨rfl, hb⟩
    go_wp2_with fail
    go_ret
    exact ⟨rfl, hb⟩
  · have hd : decide (((l.length : Nat) : Int) > 100000) = false := by simp; omega
    have hlt := moreL_lt s l
    have HS := Lib.hid (small s l)
    have hm : bits .and .i64 s 4294967295 = s % 4294967296 := by rw [and_m32]; unfold m32; omega
    have HM := Lib.hid hm
    clear hm
    go_enter Try.func7, Try.ntmps7
    go_wp2_with fail
    refine (more_c s l hl _).mono ?_
    rintro e w1 ⟨rfl, hb⟩
    have hd1 : decide (((moreL s l : Nat) : Int) ≥ 0) = true := by simp
    have hd2 : decide (((moreL s l : Nat) : Int) < 4294967296) = true := by simp; omega
    go_wp2_with fail
    rw [HM.out]
    refine (more_c _ l hl _).mono ?_
    rintro e w2 ⟨rfl, hb2⟩
    rw [HS.out]
    have hb2 := hb.trans (hb2.mono hb.size)
    go_wp2_with fail
    refine (awake_any _).mono ?_
    rintro e w3 ⟨rfl, hb3⟩
    have hb3 := hb2.trans (hb3.mono hb2.size)
    go_wp2_with fail
    go_ret
    exact ⟨rfl, hb3⟩
end Go.Proofs.Ytanplhmnmicdaaa
