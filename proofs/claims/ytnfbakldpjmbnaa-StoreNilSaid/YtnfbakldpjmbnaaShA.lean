/- The walks of the turns. -/
import Derived.Test.YtnfbakldpjmbnaaRows
import Derived.Test.YtnfbakldpjmbnaaWords
import Derived.Test.YtnfbakldpjmbnaaBs
namespace Go.Proofs.Ytnfbakldpjmbnaa
open Go.RowKit
attribute [local go_sem] bs_size bs_getElem bs_list bs_append

/-- x turned n places to the right -/
def tr (x n : Nat) : Nat := x / 2 ^ n ||| x * 2 ^ (64 - n) % 18446744073709551616
theorem neg63 (n : Nat) (h1 : 1 ≤ n) (h2 : n ≤ 63) : bits .and .u64 (IntKind.u64.wrap (-(n : Int))) 63 = ((64 - n : Nat) : Int) := by
  have e : IntKind.u64.wrap (-(n : Int)) = ((18446744073709551616 - n : Nat) : Int) := by rw [IntKind.wrap_u64]; omega
  rw [e]
  have := u64_and_nat (18446744073709551616 - n) 63 (by omega) (by decide)
  rw [show (63 : Nat) = 2 ^ 6 - 1 from rfl, Nat.and_two_pow_sub_one_eq_mod] at this
  refine Eq.trans this ?_
  omega

theorem tr_code (x n : Nat) (hx : x < 18446744073709551616) (hn : 1 ≤ n) (hn2 : n ≤ 63) : bits .or .u64 (IntKind.u64.wrap ((x : Int) * 2 ^ (64 - n))) ((x : Int) / 2 ^ (64 - (64 - n))) = ((tr x n : Nat) : Int) := by
  have e1 : IntKind.u64.wrap ((x : Int) * 2 ^ (64 - n)) = ((x * 2 ^ (64 - n) % 18446744073709551616 : Nat) : Int) := by
    rw [IntKind.wrap_u64, Int.natCast_emod, Int.natCast_mul, Int.natCast_pow]; rfl
  have e2 : (x : Int) / 2 ^ (64 - (64 - n)) = ((x / 2 ^ n : Nat) : Int) := by
    rw [show 64 - (64 - n) = n from by omega, Int.natCast_ediv, Int.natCast_pow]; rfl
  rw [e1, e2, u64_or_nat _ _ (Nat.mod_lt _ (by decide)) (Nat.lt_of_le_of_lt (Nat.div_le_self _ _) hx)]
  unfold tr
  rw [Nat.or_comm]

set_option maxRecDepth 100000 in
set_option maxHeartbeats 1600000 in
theorem turn_c (x n : Nat) (hx : x < 18446744073709551616) (hn : 1 ≤ n) (hn2 : n ≤ 63) (w : World) :
    Calls Try.prog 40 #[.int .u64 x, .int .i64 n] w fun e w' => e = .returned (.int .u64 (tr x n : Nat)) ∧ w = w' := by
  have h1 := neg63 n hn hn2
  have hm : (0 : Int) ≤ ((64 - n : Nat) : Int) := by omega
  have hm2 : ((64 - n : Nat) : Int) ≤ 64 := by omega
  go_enter Try.func40, Try.ntmps40
  go_wp2_with (first | (go_at_call 45; go_in))
  go_ret
  exact ⟨by rw [← tr_code x n hx hn hn2]; rfl, rfl⟩

theorem tr_code' (x n : Nat) (hx : x < 18446744073709551616) : bits .or .u64 ((x : Int) / 2 ^ n) (IntKind.u64.wrap ((x : Int) * 2 ^ (64 - n))) = ((tr x n : Nat) : Int) := by
  have e1 : IntKind.u64.wrap ((x : Int) * 2 ^ (64 - n)) = ((x * 2 ^ (64 - n) % 18446744073709551616 : Nat) : Int) := by
    rw [IntKind.wrap_u64, Int.natCast_emod, Int.natCast_mul, Int.natCast_pow]; rfl
  have e2 : (x : Int) / 2 ^ n = ((x / 2 ^ n : Nat) : Int) := by
    rw [Int.natCast_ediv, Int.natCast_pow]; rfl
  rw [e1, e2, u64_or_nat _ _ (Nat.lt_of_le_of_lt (Nat.div_le_self _ _) hx) (Nat.mod_lt _ (by decide))]
  rfl

/-- eight bytes as a number, the highest first -/
def num8 (l : List UInt8) : Nat := l.foldl (fun x b => x * 256 ||| b.toNat) 0

theorem num8_step (l : List UInt8) (k : Nat) (h : k < l.length) : num8 (l.take (k + 1)) = num8 (l.take k) * 256 ||| l[k].toNat := by
  unfold num8; rw [List.take_succ_eq_append_getElem h, List.foldl_append]; rfl
theorem num8_bound (X k : Nat) (b : UInt8) (h : X < 256 ^ k) : X * 256 ||| b.toNat < 256 ^ (k + 1) := by
  have hb := b.toNat_lt
  have e : (256 : Nat) ^ (k + 1) = 2 ^ (8 * (k + 1)) := by rw [show (256 : Nat) = 2 ^ 8 from rfl, ← Nat.pow_mul]
  have hp : 1 ≤ 256 ^ k := Nat.one_le_pow _ _ (by decide)
  rw [e]
  refine Nat.or_lt_two_pow ?_ ?_
  · rw [← e, Nat.pow_succ]; exact Nat.mul_lt_mul_of_pos_right h (by decide)
  · rw [← e, Nat.pow_succ]; omega
theorem num8_code (X k : Nat) (b : UInt8) (hk : k < 8) (h : X < 256 ^ k) : bits .or .u64 (IntKind.u64.wrap ((X : Int) * 256)) (IntKind.u64.wrap (b.toNat : Int)) = ((X * 256 ||| b.toNat : Nat) : Int) := by
  have hb := b.toNat_lt
  have h7 : 256 ^ k ≤ 256 ^ 7 := Nat.pow_le_pow_right (by decide) (by omega)
  have hX : X < 72057594037927936 := Nat.lt_of_lt_of_le h h7
  have e1 : IntKind.u64.wrap ((X : Int) * 256) = ((X * 256 : Nat) : Int) := by rw [IntKind.wrap_u64]; omega
  have e2 : IntKind.u64.wrap (b.toNat : Int) = ((b.toNat : Nat) : Int) := by rw [IntKind.wrap_u64]; omega
  rw [e1, e2]
  exact u64_or_nat _ _ (by omega) (by omega)

set_option maxRecDepth 100000 in
set_option maxHeartbeats 1600000 in
theorem number_c (l : List UInt8) (hl : 8 ≤ l.length) (hm : l.length ≤ 1000000) (w : World) :
    Calls Try.prog 44 #[.string (bs l)] w fun e w' => e = .returned (.int .u64 (num8 (l.take 8) : Nat)) ∧ w = w' := by
  go_enter Try.func44, Try.ntmps44
  go_wp2_with fail
  go_loopw [3, 5] (fun x i wr => ∃ k : Nat, k ≤ 8 ∧ i = .int .i64 k ∧ x = .int .u64 ((num8 (l.take k) : Nat) : Int) ∧ num8 (l.take k) < 256 ^ k ∧ wr = w) (fun _ i _ => 8 - (intOf i).toNat)
  case atStart => exact ⟨0, by omega, rfl, by simp [num8], by simp [num8], rfl⟩
  case round =>
    obtain ⟨k, hk, rfl, rfl, hlt, rfl⟩ := hrel
    rcases Nat.lt_or_ge k 8 with h8 | h8
    · have hkl : k < l.length := by omega
      have hs := num8_step l k hkl
      have hb := num8_bound (num8 (l.take k)) k l[k] hlt
      have hc := num8_code (num8 (l.take k)) k l[k] h8 hlt
      generalize num8 (l.take k) = X at *
      have HS := Lib.hid hs
      have HB := Lib.hid hb
      have HC := Lib.hid hc
      clear hs hb hc
      go_wp2_with fail
      exact ⟨⟨k + 1, by omega, by go_num, by rw [HC.out, HS.out], by rw [HS.out]; exact HB.out, trivial⟩, by simp [intOf]; omega⟩
    · obtain rfl : k = 8 := by omega
      go_wp2_with fail
      go_ret
      exact ⟨rfl, rfl⟩
end Go.Proofs.Ytnfbakldpjmbnaa
