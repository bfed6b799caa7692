/- The walks of clock.Next and its reference. -/
import Derived.Test.YtdoghihjanlgpaaA
namespace Go.Proofs.Ytdoghihjanlgpaa
open Go.RowKit

def nextV (who : Int) (xs : List (Int × Int)) : Value := .tuple #[.agg #[.int .i64 (nextR who xs).1, .int .i64 (nextR who xs).2.1], .int .i64 (nextR who xs).2.2]

set_option maxHeartbeats 400000 in
theorem next_any (who : Int) (A : Option Addr) (n c : Nat) (xs : List (Int × Int)) (w : World) (hx : Sl w 2 StampC A n c xs) :
    Calls Try.prog 13 #[.int .i64 who, .slice A n c] w fun e w' => e = .returned (nextV who xs) ∧ Below w.heap.size w w' := by
  have hcap := And.intro hx.le hx.max
  have hnn := maxC_nonneg xs
  have HL := Lib.hid hx.len
  by_cases hw : who < 0 ∨ 15 ≤ who
  · have e : nextV who xs = .tuple #[.agg #[.int .i64 0, .int .i64 0], .int .i64 1] := by simp [nextV, nextR, hw]
    rw [e]
    clear e
    have hB := Blk.new w 25 #[.int .i64 0, .int .i64 0]
    have c0 := hB.cell 0
    have c1 := hB.cell 1
    simp at c0 c1
    have hB2 := (hB.set_ 0 (.int .i64 0)).set_ 1 (.int .i64 0)
    have d0 := hB2.cell 0
    have d1 := hB2.cell 1
    simp at d0 d1
    by_cases h : who < 0
    all_goals
      first
        | have hd : decide (who < 0) = true := by simp; omega
        | (have hd : decide (who < 0) = false := by simp; omega
           have hd2 : decide (15 ≤ who) = true := by simp; omega)
      go_enter Try.func13, Try.ntmps13
      go_wp2
      refine bodyPost_ret (v := .tuple #[.agg #[.int .i64 0, .int .i64 0], .int .i64 1]) (by simp [results, Try.results13, go_sem, d0, d1]) rfl ⟨rfl, ?_⟩
      exact (Below.refl _ _).alloc (Nat.le_refl _) _
  have hd : decide (who < 0) = false := by simp; omega
  have hd2 : decide (15 ≤ who) = false := by simp; omega
  have HW := Lib.hid hw
  clear hw
  go_enter Try.func13, Try.ntmps13
  go_wp2
  go_loopw [6, 8, 18] (fun m _ i wr => ∃ k : Nat, k ≤ n ∧ i = .int .i64 k ∧ m = .int .i64 (maxC (xs.take k)) ∧ Below (w.heap.size + 1) (w.alloc (.cells #[.int .i64 0, .int .i64 0] 25)) wr) (fun _ _ i _ => n - (intOf i).toNat)
  case atStart => exact ⟨0, Nat.zero_le _, rfl, rfl, Below.refl _ _⟩
  case round =>
    obtain ⟨k, hk, rfl, rfl, hb⟩ := hrel
    have hb0 : Below w.heap.size w wr := (((Below.refl _ w).alloc (Nat.le_refl _) _).trans (hb.mono (by omega)))
    by_cases hlt : k < n
    · obtain ⟨b, off, rfl, had, hc1, hc2, hr1, hr2⟩ := (hx.below hb0).stamp_at hlt
      have hz := hb.size
      simp at hz
      have HS := Lib.hid (take_snocS (xs := xs) (k := k) (by rw [HL.out]; exact hlt))
      go_wp2
      all_goals
        go_roundw
        case rel => exact ⟨k + 1, by omega, by go_num, by rw [HS.out, maxC_snoc]; exact congrArg (Value.int .i64) (by omega), hb.alloc (by omega) _⟩
        case measure => simp [intOf]; omega
    · obtain rfl : k = n := by omega
      have e : xs.take k = xs := List.take_of_length_le (by rw [HL.out]; exact Nat.le_refl _)
      rw [e]
      clear e
      have hB : Blk wr w.heap.size 25 #[.int .i64 0, .int .i64 0] := (Blk.new w 25 _).below hb (by omega)
      have c0 := hB.cell 0
      have c1 := hB.cell 1
      have f0 := hB.frozen 0
      have f1 := hB.frozen 1
      simp at c0 c1
      have hz := hb.size
      simp at hz
      by_cases hm : 1099511627776 ≤ maxC xs
      · have hB2 := (hB.set_ 0 (.int .i64 0)).set_ 1 (.int .i64 0)
        have d0 := hB2.cell 0
        have d1 := hB2.cell 1
        simp at d0 d1
        go_wp2
        refine bodyPost_ret (v := .tuple #[.agg #[.int .i64 0, .int .i64 0], .int .i64 21]) (by simp [results, Try.results13, go_sem, d0, d1]) rfl ⟨?_, ?_⟩
        · unfold nextV nextR
          rw [if_neg HW.out, if_pos (by omega)]
        · exact (hb0.setCell (by simp) _).setCell (by simp) _
      · have hB2 := (hB.set_ 0 (.int .i64 (maxC xs + 1))).set_ 1 (.int .i64 who)
        have d0 := hB2.cell 0
        have d1 := hB2.cell 1
        simp at d0 d1
        go_wp2
        refine bodyPost_ret (v := .tuple #[.agg #[.int .i64 (maxC xs + 1), .int .i64 who], .int .i64 0]) (by simp [results, Try.results13, go_sem, d0, d1]) rfl ⟨?_, ?_⟩
        · unfold nextV nextR
          rw [if_neg HW.out, if_neg (by omega)]
        · exact (hb0.setCell (by simp) _).setCell (by simp) _

set_option maxHeartbeats 400000 in
theorem rnext_any (who : Int) (A : Option Addr) (n c : Nat) (xs : List (Int × Int)) (w : World) (hx : Sl w 2 StampC A n c xs) :
    Calls Try.prog 14 #[.int .i64 who, .slice A n c] w fun e w' => e = .returned (nextV who xs) ∧ Below w.heap.size w w' := by
  have hcap := And.intro hx.le hx.max
  have hnn := maxC_nonneg xs
  have HL := Lib.hid hx.len
  by_cases hw : who < 0 ∨ 15 ≤ who
  · have e : nextV who xs = .tuple #[.agg #[.int .i64 0, .int .i64 0], .int .i64 1] := by simp [nextV, nextR, hw]
    rw [e]
    clear e
    have hB := Blk.new w 25 #[.int .i64 0, .int .i64 0]
    have c0 := hB.cell 0
    have c1 := hB.cell 1
    simp at c0 c1
    have hB2 := (hB.set_ 0 (.int .i64 0)).set_ 1 (.int .i64 0)
    have d0 := hB2.cell 0
    have d1 := hB2.cell 1
    simp at d0 d1
    by_cases h : who < 0
    all_goals
      first
        | have hd : decide (who < 0) = true := by simp; omega
        | (have hd : decide (who < 0) = false := by simp; omega
           have hd2 : decide (15 ≤ who) = true := by simp; omega)
      go_enter Try.func14, Try.ntmps14
      go_wp2
      refine bodyPost_ret (v := .tuple #[.agg #[.int .i64 0, .int .i64 0], .int .i64 1]) (by simp [results, Try.results14, go_sem, d0, d1]) rfl ⟨rfl, ?_⟩
      exact (Below.refl _ _).alloc (Nat.le_refl _) _
  have hd : decide (who < 0) = false := by simp; omega
  have hd2 : decide (15 ≤ who) = false := by simp; omega
  have HW := Lib.hid hw
  clear hw
  go_enter Try.func14, Try.ntmps14
  go_wp2
  go_loop [6, 7] (fun m i => ∃ k : Nat, k ≤ n ∧ i = .int .i64 k ∧ m = .int .i64 (maxC (xs.take k))) (fun _ i => n - (intOf i).toNat)
  case atStart => exact ⟨0, Nat.zero_le _, rfl, rfl⟩
  case round =>
    obtain ⟨k, hk, rfl, rfl⟩ := hrel
    by_cases hlt : k < n
    · obtain ⟨b, off, rfl, had, hc1, hc2, hr1, hr2⟩ := hx.stamp_at hlt
      have HS := Lib.hid (take_snocS (xs := xs) (k := k) (by rw [HL.out]; exact hlt))
      go_wp2
      all_goals
        go_round
        case rel => exact ⟨k + 1, by omega, by go_num, by rw [HS.out, maxC_snoc]; exact congrArg (Value.int .i64) (by omega)⟩
        case measure => simp [intOf]; omega
    · obtain rfl : k = n := by omega
      have e : xs.take k = xs := List.take_of_length_le (by rw [HL.out]; exact Nat.le_refl _)
      rw [e]
      clear e
      by_cases hm : 1099511627776 ≤ maxC xs
      · go_wp2
        refine bodyPost_ret (v := .tuple #[.agg #[.int .i64 0, .int .i64 0], .int .i64 21]) (by simp [results, Try.results14, go_sem]) rfl ⟨?_, ?_⟩
        · unfold nextV nextR
          rw [if_neg HW.out, if_pos (by omega)]
        · exact (Below.refl _ _).alloc (Nat.le_refl _) _
      · go_wp2
        refine bodyPost_ret (v := .tuple #[.agg #[.int .i64 (maxC xs + 1), .int .i64 who], .int .i64 0]) (by simp [results, Try.results14, go_sem]) rfl ⟨?_, ?_⟩
        · unfold nextV nextR
          rw [if_neg HW.out, if_neg (by omega)]
        · exact (Below.refl _ _).alloc (Nat.le_refl _) _
end Go.Proofs.Ytdoghihjanlgpaa
