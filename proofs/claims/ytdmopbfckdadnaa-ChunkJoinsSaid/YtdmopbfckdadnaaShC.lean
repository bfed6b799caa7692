/- The walk of the document's eight. -/
import Derived.Test.YtdmopbfckdadnaaShB
namespace Go.Proofs.Ytdmopbfckdadnaa
open Go.RowKit
attribute [local go_sem] bs_size bs_getElem bs_list bs_append

set_option maxRecDepth 100000 in
set_option maxHeartbeats 1600000 in
theorem eight_any (x : Nat) (w : World) :
    Calls Try.prog 38 #[.int .u64 x] w fun e w' => ∃ v', e = .returned v' ∧ OwnC w' w.heap.size 1 v' 8 (bv (be8 x)) ∧ Below w.heap.size w w' := by
  obtain ⟨i0, hi, hz0, hz1, hz2⟩ := info_parts info5
  have HI := Lib.hid hi
  have HZ0 := Lib.hid hz0
  have HZ1 := Lib.hid hz1
  have HZ2 := Lib.hid hz2
  clear hi hz0 hz1 hz2
  go_enter Try.func38, Try.ntmps38
  go_wp2_with fail
  go_loopw [3, 4] (fun v i wr => ∃ k : Nat, k ≤ 8 ∧ i = .int .i64 (k : Int) ∧ Below w.heap.size w wr ∧ w.heap.size ≤ wr.heap.size ∧ OwnC wr w.heap.size 1 v k (bv ((be8 x).take k))) (fun _ i _ => 8 - (intOf i).toNat)
  case atStart => exact ⟨0, by omega, rfl, Below.refl _ _, Nat.le_refl _, OwnC.nil_ _ _ _⟩
  case round =>
    obtain ⟨k, hk, rfl, hb, hB2, hown⟩ := hrel
    have HO := Lib.hid hown
    have HB := Lib.hid hb
    clear hown hb
    rcases Nat.lt_or_ge k 8 with h8 | h8
    · have hge : (0 : Int) ≤ 56 - 8 * (k : Int) := by omega
      have htn : (56 - 8 * (k : Int)).toNat = 56 - 8 * k := by omega
      go_wp2_with (at_builtin; refine wpList_append_C _ rfl (.tmp 9) (.tmp 16) 37 37 rfl 5 i0 (.int .u8 0) 1 Try.underlying37 HI.out HZ0.out HZ1.out rfl (by decide) w.heap.size _ k _ rfl (HO.out.alloc _) (.slice (some ⟨wr.heap.size, 0, none⟩) 1 1) rfl 1 [.int .u8 ((x : Int) / 2 ^ (56 - 8 * k) % 256)] ?c1 ?c3 ?c4 ?c5 ?_)
      case c1 => exact Src.one Try.underlying37 (by simp) rfl
      case c3 => unfold maxLen; omega
      case c4 => rw [HZ2.out]; omega
      case c5 => first | omega | (simp; omega)
      intro v' w1 hown' hgrow hat
      have HO' := Lib.hid (show OwnC w1 w.heap.size 1 v' (k + 1) (bv ((be8 x).take (k + 1))) from by
        rw [be8_snoc x k h8, bv_append, bv_byte]
        exact hown')
      have hb1 : Below w.heap.size w w1 := gb_own (HB.out.alloc hB2 _) (Nat.le_refl _) (by simp; omega) (HO.out.alloc _) hgrow
      have hB3 : w.heap.size ≤ w1.heap.size := Nat.le_trans hB2 (Nat.le_trans (by simp) hgrow.size)
      clear hown' hgrow hat
      go_wp2_with fail
      exact ⟨⟨k + 1, by omega, by go_num, hb1, hB3, HO'.out⟩, by simp [intOf]; omega⟩
    · obtain rfl : k = 8 := by omega
      go_wp2_with fail
      go_ret
      refine ⟨_, rfl, ?_, HB.out⟩
      have := HO.out
      rwa [show (be8 x).take 8 = be8 x from List.take_of_length_le (by simp [be8])] at this
end Go.Proofs.Ytdmopbfckdadnaa
