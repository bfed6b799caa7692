/- The walk of lay: a number's bytes behind others. -/
import Derived.Test.YtnfbakldpjmbnaaShA
import Derived.Test.YtnfbakldpjmbnaaOwnC
namespace Go.Proofs.Ytnfbakldpjmbnaa
open Go.RowKit
attribute [local go_sem] bs_size bs_getElem bs_list bs_append

theorem info5 : (Try.prog.info? 5).map (fun i => (i.zero, i.size, i.bytes)) = some (some (.int .u8 0), 1, 1) := by kernel_rfl
/-- the byte of place i, the highest first -/
def byteAt (x i : Nat) : UInt8 := UInt8.ofNat (x / 2 ^ (56 - 8 * i) % 256)
def be8 (x : Nat) : List UInt8 := (List.range 8).map (byteAt x)
theorem be8_snoc (x k : Nat) (h : k < 8) : (be8 x).take (k + 1) = (be8 x).take k ++ [byteAt x k] := by
  have hl : k < (be8 x).length := by simp [be8]; exact h
  rw [List.take_succ_eq_append_getElem hl]
  simp [be8]
theorem byte_code (x k : Nat) : ((x : Int) / 2 ^ (56 - 8 * k)) % 256 = ((byteAt x k).toNat : Int) := by
  have e : (x : Int) / 2 ^ (56 - 8 * k) = ((x / 2 ^ (56 - 8 * k) : Nat) : Int) := by
    rw [Int.natCast_ediv, Int.natCast_pow]; rfl
  rw [e]
  unfold byteAt
  generalize x / 2 ^ (56 - 8 * k) = y
  simp

theorem bv_byte (x k : Nat) : bv [byteAt x k] = [.int .u8 ((x : Int) / 2 ^ (56 - 8 * k) % 256)] := by simp [bv, byte_code]

set_option maxRecDepth 100000 in
set_option maxHeartbeats 1600000 in
theorem lay_any (B : Nat) (w : World) (v : Value) (n x : Nat) (l : List UInt8) (hown : OwnC w B 1 v n (bv l)) (hB : B ≤ w.heap.size) (hn : n ≤ 1000000) :
    Calls Try.prog 32 #[v, .int .u64 x] w fun e w' => ∃ v', e = .returned v' ∧ OwnC w' B 1 v' (n + 8) (bv (l ++ be8 x)) ∧ Grew w v w' v' := by
  obtain ⟨i0, hi, hz0, hz1, hz2⟩ := info_parts info5
  have HI := Lib.hid hi
  have HZ0 := Lib.hid hz0
  have HZ1 := Lib.hid hz1
  have HZ2 := Lib.hid hz2
  have HO := Lib.hid hown
  clear hi hz0 hz1 hz2 hown
  go_enter Try.func32, Try.ntmps32
  go_wp2_with fail
  go_loopw [0, 5] (fun v' i wr => ∃ k : Nat, k ≤ 8 ∧ i = .int .i64 (56 - 8 * (k : Int)) ∧ OwnC wr B 1 v' (n + k) (bv (l ++ (be8 x).take k)) ∧ Grew w v wr v') (fun _ i _ => (intOf i + 8).toNat)
  case atStart => exact ⟨0, by omega, by simp, by simpa using HO.out, Grew.refl _ _⟩
  case round =>
    obtain ⟨k, hk, rfl, hown, hg⟩ := hrel
    have hB2 : B ≤ wr.heap.size := Nat.le_trans hB hg.1.size
    have HO := Lib.hid hown
    have HG := Lib.hid hg
    clear hown hg
    rcases Nat.lt_or_ge k 8 with h8 | h8
    · have hge : (0 : Int) ≤ 56 - 8 * (k : Int) := by omega
      have htn : (56 - 8 * (k : Int)).toNat = 56 - 8 * k := by omega
      go_wp2_with (at_builtin; refine wpList_append_C _ rfl (.tmp 10) (.tmp 15) 62 62 rfl 5 i0 (.int .u8 0) 1 Try.underlying62 HI.out HZ0.out HZ1.out rfl (by decide) B _ (n + k) _ rfl (HO.out.alloc _) (.slice (some ⟨wr.heap.size, 0, none⟩) 1 1) rfl 1 [.int .u8 ((x : Int) / 2 ^ (56 - 8 * k) % 256)] ?c1 ?c3 ?c4 ?c5 ?_)
      case c1 => exact Src.one Try.underlying62 (by simp) rfl
      case c3 => unfold maxLen; omega
      case c4 => rw [HZ2.out]; omega
      case c5 => first | omega | (simp; omega)
      intro v' w1 hown' hgrow hat
      have HO' := Lib.hid (show OwnC w1 B 1 v' (n + (k + 1)) (bv (l ++ (be8 x).take (k + 1))) from by
        rw [be8_snoc x k h8, ← List.append_assoc, bv_append, bv_byte]
        exact hown')
      have HG' := Lib.hid (HG.out.trans ((Grew.alloc _ _ _).trans (Grew.step hgrow hat (by simp))))
      clear hown' hgrow hat
      go_wp2_with fail
      exact ⟨⟨k + 1, by omega, congrArg (Value.int .i64) (by omega), HO'.out, HG'.out⟩, by simp [intOf]; omega⟩
    · obtain rfl : k = 8 := by omega
      go_wp2_with fail
      go_ret
      refine ⟨_, rfl, ?_, HG.out⟩
      have := HO.out
      rwa [show (be8 x).take 8 = be8 x from List.take_of_length_le (by simp [be8])] at this
end Go.Proofs.Ytnfbakldpjmbnaa
