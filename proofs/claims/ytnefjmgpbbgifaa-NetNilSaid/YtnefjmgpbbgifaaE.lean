/- The law on a nil net; the law on a full one. -/
import Derived.Test.YtnefjmgpbbgifaaD
namespace Go.Proofs.Ytnefjmgpbbgifaa
open Go.RowKit
attribute [local go_sem] bs_size bs_getElem bs_list bs_append

set_option maxRecDepth 100000 in
set_option maxHeartbeats 1600000 in
theorem at_nil (k : Int) (w : World) : Calls Try.prog 26 #[.pointer none, .int .i64 k] w fun e w' => e = .returned (.tuple #[pv pk0, .int .i64 2]) ∧ Below w.heap.size w w' := by
  unfold pv pk0
  go_enter Try.func26, Try.ntmps26
  go_wp2_with fail
  refine bodyPost_ret (v := .tuple #[.agg #[.int .i64 0, .int .i64 0, .string (bs [])], .int .i64 2]) (by simp [results, Try.results26, go_sem, bs]) rfl ?_
  exact ⟨rfl, (Below.refl _ w).alloc (Nat.le_refl _) _⟩

set_option maxRecDepth 100000 in
set_option maxHeartbeats 1600000 in
theorem take_nil (k : Int) (w : World) : Calls Try.prog 14 #[.pointer none, .int .i64 k] w fun e w' => e = .returned (.tuple #[pv pk0, .int .i64 2]) ∧ Below w.heap.size w w' := by
  have hb1 : Below w.heap.size w (w.alloc (.cells #[.int .i64 0, .int .i64 0, .string ⟨#[]⟩] 30)) := (Below.refl _ w).alloc (Nat.le_refl _) _
  have hB1 := Blk.new w 30 #[.int .i64 0, .int .i64 0, .string ⟨#[]⟩]
  generalize hw1 : w.alloc (.cells #[.int .i64 0, .int .i64 0, .string ⟨#[]⟩] 30) = w1 at *
  have HW1 := Lib.hid hw1
  have HB1 := Lib.hid hb1
  have HBl := Lib.hid hB1
  clear hb1 hB1 hw1
  unfold pv pk0
  go_enter Try.func14, Try.ntmps14
  go_wp2_with fail
  rw [HW1.out]
  refine (at_nil k _).mono ?_
  rintro e w2 ⟨rfl, hb2⟩
  have hB2 := Blk.below HBl.out hb2 (Blk.lt HBl.out)
  have hB3 := Blk.alloc hB2 (.cells #[.int .i64 0, .int .i64 0, .string (bs [])] 30)
  have hk3 : Keeps (fun _ => False) w (w2.alloc (.cells #[.int .i64 0, .int .i64 0, .string (bs [])] 30)) := kp_alloc (kp_trans (kp_below HB1.out) (kp_below (S := fun _ => False) hb2) (fun _ _ h => h)) _
  have hf := fun i => Blk.frozen hB3 i
  obtain ⟨c0, c1, c2⟩ := blk3 hB3
  obtain ⟨d0, d1, d2⟩ := blk3 (Blk.new w2 30 #[.int .i64 0, .int .i64 0, .string (bs [])])
  obtain ⟨r0, r1, r2⟩ := blk3 (three (.int .i64 0) (.int .i64 0) (.string (bs [])) hB3)
  have hfin := kp_empty (three_kp hk3 w.heap.size (.int .i64 0) (.int .i64 0) (.string (bs [])) (Nat.le_refl _))
  have f0 := hf 0
  have f1 := hf 1
  have f2 := hf 2
  have HF := Lib.hid hfin
  clear hfin hf hB2 hB3 hk3 hb2
  unfold pv pk0
  go_wp2_with fail
  exact bodyPost_ret (v := .tuple #[.agg #[.int .i64 0, .int .i64 0, .string (bs [])], .int .i64 2]) (by simp [results, Try.results14, go_sem, r0, r1, r2]) rfl ⟨rfl, HF.out⟩

set_option maxRecDepth 100000 in
set_option maxHeartbeats 1600000 in
theorem twice_nil (k : Int) (w : World) : Calls Try.prog 15 #[.pointer none, .int .i64 k] w fun e w' => e = .returned (.int .i64 2) ∧ Below w.heap.size w w' := by
  go_enter Try.func15, Try.ntmps15
  go_wp2_with fail
  refine (at_nil k _).mono ?_
  rintro e w2 ⟨rfl, hb2⟩
  have hb3 := hb2.alloc hb2.size (.cells #[.int .i64 0, .int .i64 0, .string (bs [])] 30)
  unfold pv pk0
  go_wp2_with fail
  go_ret
  exact ⟨rfl, hb3⟩
theorem send_nil (x : Pk) (w : World) : Calls Try.prog 11 #[.pointer none, pv x] w fun e w' => e = .returned (.int .i64 2) ∧ Below w.heap.size w w' := by
  unfold pv
  go_enter Try.func11, Try.ntmps11
  go_wp2_with fail
  go_ret
  exact ⟨rfl, (Below.refl _ w).alloc (Nat.le_refl _) _⟩
theorem len_nil (w : World) : Calls Try.prog 12 #[.pointer none] w fun e w' => e = .returned (.int .i64 0) ∧ w = w' := by
  go_enter Try.func12, Try.ntmps12
  go_wp2_with fail
  go_ret
  exact ⟨rfl, rfl⟩
theorem sent_nil (w : World) : Calls Try.prog 13 #[.pointer none] w fun e w' => e = .returned (.int .i64 0) ∧ w = w' := by
  go_enter Try.func13, Try.ntmps13
  go_wp2_with fail
  go_ret
  exact ⟨rfl, rfl⟩
theorem cut_nil (k : Int) (w : World) : Calls Try.prog 20 #[.pointer none, .int .i64 k] w fun e w' => e = .returned (.int .i64 0) ∧ Below w.heap.size w w' := by
  go_enter Try.func20, Try.ntmps20
  go_wp2_with fail
  go_ret
  exact ⟨rfl, (Below.refl _ w).alloc (Nat.le_refl _) _⟩

set_option maxRecDepth 100000 in
set_option maxHeartbeats 1600000 in
theorem law_nil (k : Int) (w : World) : Calls Try.prog 7 #[.int .i64 k] w fun e w' => e = .returned (.bool true) ∧ Below w.heap.size w w' := by
  go_enter Try.func7, Try.ntmps7
  go_wp2_with fail
  refine (take_nil k _).mono ?_
  rintro e w1 ⟨rfl, hb1⟩
  have hb2 := hb1.alloc hb1.size (.cells #[.int .i64 0, .int .i64 0, .string (bs [])] 30)
  unfold pv pk0
  go_wp2_with fail
  refine (send_nil ⟨0, 1, []⟩ _).mono ?_
  rintro e w3 ⟨rfl, hb3⟩
  have hb4 := hb2.trans (hb3.mono hb2.size)
  clear hb3 hb2 hb1
  go_wp2_with fail
  refine (twice_nil k _).mono ?_
  rintro e w5 ⟨rfl, hb5⟩
  have hb6 := hb4.trans (hb5.mono hb4.size)
  clear hb4 hb5
  go_wp2_with fail
  refine (len_nil _).mono ?_
  rintro e w6 ⟨rfl, rfl⟩
  go_wp2_with fail
  refine (sent_nil _).mono ?_
  rintro e w6 ⟨rfl, rfl⟩
  go_wp2_with fail
  refine (cut_nil k _).mono ?_
  rintro e w7 ⟨rfl, hb7⟩
  have hb8 := hb6.trans (hb7.mono hb6.size)
  clear hb6 hb7
  go_wp2_with fail
  refine (awake_any _).mono ?_
  rintro e w9 ⟨rfl, hb9⟩
  have hb10 := hb8.trans (hb9.mono hb8.size)
  go_wp2_with fail
  go_ret
  exact ⟨rfl, hb10⟩
end Go.Proofs.Ytnefjmgpbbgifaa
