/- The walks of the two writers of numbers. -/
import Derived.Test.YtnfbakldpjmbnaaOwnC
import Derived.Test.YtnfbakldpjmbnaaCdB
namespace Go.Proofs.Ytnfbakldpjmbnaa.Cd
open Go.RowKit
attribute [local go_sem] bs_size bs_getElem bs_list

theorem info5 : (Try.prog.info? 5).map (fun i => (i.zero, i.size, i.bytes)) = some (some (.int .u8 0), 1, 1) := by kernel_rfl

theorem own_bytes {w : World} {B : Nat} {v : Value} {n : Nat} {l : List UInt8} (h : w.ownsRow B 5 1 v n (bv l)) (hn : 0 < n) :
    ∃ g cap, v = .slice (some ⟨g, 0, none⟩) n cap ∧ l.length = n ∧ (convert 62 9 (.slice (some ⟨g, 0, none⟩) n cap)).run Try.prog w = .ok (.string (bs l)) w := by
  have hlen : l.length = n := by have := h.1; simpa [bv] using this
  rcases h.2 with ⟨rfl, rfl⟩ | ⟨g, cap, cur, rfl, hg, hh, hle, hmx, hsz, htk⟩
  · omega
  · have hB : Blk w g 5 cur := hh
    refine ⟨g, cap, rfl, hlen, ?_⟩
    have := run_convert_bytes_back (P := Try.prog) w 62 9 5 ⟨g, 0, none⟩ cap l Try.underlying62 Try.underlying5 Try.underlying9 (fun j hj => by
      have e1 := hB.cell j
      have e2 : (cur.toList.take (n * 1))[j]? = some (.int .u8 (l[j].toNat : Int)) := by rw [htk]; simp [bv, hj]
      rw [List.getElem?_take_of_lt (by omega), Array.getElem?_toList] at e2
      rw [e2] at e1
      have hadd : (Addr.mk g 0 none).add j = ⟨g, j, none⟩ := by unfold Addr.add; split <;> simp_all
      rw [hadd]
      simpa using e1)
    rw [hlen] at this
    exact this
theorem digit_cast (u m : Nat) : (u : Int) / 2 ^ (8 * m) % 256 = ((u / 256 ^ m % 256 : Nat) : Int) := by
  have e : (2 : Int) ^ (8 * m) = ((256 ^ m : Nat) : Int) := by rw [show (256 : Nat) = 2 ^ 8 from rfl, ← Nat.pow_mul, Int.natCast_pow]; rfl
  rw [e, ← Int.natCast_ediv]
  generalize u / 256 ^ m = x
  omega
theorem digs_snoc {u k j : Nat} (hk : (digs u).length = k) (hj : j < k) : (digs u).take (j + 1) = (digs u).take j ++ [u / 256 ^ (k - 1 - j) % 256] := by
  have h := digsF_get 8 u j (by unfold digs at hk; omega)
  have h2 : (digsF 8 u).length = k := hk
  rw [h2] at h
  rw [List.take_add_one]
  show _ ++ ((digsF 8 u)[j]?).toList = _
  rw [h]; rfl
theorem bv_digs (u : Nat) : (Value.int .u8 ((digs u).length : Int) :: ((digs u).map fun (d : Nat) => Value.int .u8 (d : Int))) = bv (numU u) := by
  have h8 := digs_len u
  unfold bv numU
  rw [List.map_cons, List.map_map]
  congr 1
  · rw [UInt8.toNat_ofNat']; congr 2; omega
  · apply List.map_congr_left
    intro d hd
    have := digsF_lt 8 u d hd
    show _ = Value.int .u8 ((UInt8.ofNat d).toNat : Int)
    rw [UInt8.toNat_ofNat']; congr 2; omega

theorem bitLen_le {u : Nat} (h : u < 18446744073709551616) : (Lib.bitLen u + 7) / 8 ≤ 8 := by rw [← len_digs h]; exact digs_len u

set_option maxHeartbeats 400000 in
theorem num_c (n : Int) (w : World) (hn : -9223372036854775808 ≤ n ∧ n ≤ 9223372036854775807) :
    Calls Try.prog 26 #[.int .i64 n] w fun e' w' => e' = .returned (.string (bs (numL n))) ∧ Below w.heap.size w w' := by
  unfold numL
  have hlt := u64_lt n
  have hw : IntKind.u64.wrap n = (u64 n : Int) := by unfold u64; simp [IntKind.wrap, IntKind.signed, IntKind.bits]; omega
  generalize u64 n = u at *
  have hk8 := bitLen_le hlt
  have HK := Lib.hid (len_digs hlt)
  generalize hk : (Lib.bitLen u + 7) / 8 = k at *
  have hki : ((Lib.bitLen u : Int) + 7) / 8 = (k : Int) := by omega
  have hbl : Lib.bitLen u ≤ 64 := by omega
  clear hk
  obtain ⟨i0, hi, hz0, hz1, hz2⟩ := info_parts info5
  have HI := Lib.hid hi
  have HZ0 := Lib.hid hz0
  have HZ1 := Lib.hid hz1
  have HZ2 := Lib.hid hz2
  clear hi hz0 hz1 hz2
  go_enter Try.func26, Try.ntmps26
  go_wp2_with fail
  refine (Try.bits_Len64 _ _ (by omega) (by omega)).mono ?_
  rintro e w' ⟨rfl, rfl⟩
  rw [Int.toNat_natCast]
  go_wp2_with fail
  clear hki
  go_loopw [4, 5] (fun v i wr => ∃ j : Nat, j ≤ k ∧ i = .int .i64 ((k : Int) - 1 - j) ∧ Below w'.heap.size w' wr ∧ wr.ownsRow w'.heap.size 5 1 v (1 + j) (.int .u8 k :: ((digs u).take j).map fun (d : Nat) => Value.int .u8 (d : Int))) (fun _ i _ => (intOf i + 1).toNat)
  case atStart => 
    refine ⟨0, Nat.zero_le _, ?_, (Below.refl _ _).alloc (Nat.le_refl _) _, rfl, .inr ⟨_, 1, _, rfl, Nat.le_refl _, Blk.new _ _ _, Nat.le_refl _, by decide, rfl, ?_⟩⟩
    · simp
    · simp
  case round =>
    obtain ⟨j, hj, rfl, hb, hown⟩ := hrel
    have HO := Lib.hid hown
    clear hown
    by_cases hlt2 : j < k
    · have hge : (0 : Int) ≤ (k : Int) - 1 - j := by omega
      have hbase := hb.size
      go_wp2_with (at_builtin; refine wpList_append_own _ rfl _ _ 62 rfl w'.heap.size 5 i0 (.int .u8 0) 1 1 Try.underlying62 HI.out HZ0.out HZ1.out HZ2.out rfl (by decide) _ _ _ rfl (HO.out.alloc _) ⟨wr.heap.size, 0, none⟩ 1 1 [.int .u8 ((u : Int) / 2 ^ (8 * (k - 1 - j)) % 256)] rfl rfl ?c1 ?c2 ?c3 ?c4 ?c5 ?_)
      case c1 => exact cell_one_new _ _ _
      case c2 => simp [Value.oneCell']
      case c3 => unfold maxLen; omega
      case c4 => omega
      case c5 => first | omega | (simp; omega)
      intro v' w1 hown' hgrow _
      have HO' : Hid (w1.ownsRow w'.heap.size 5 1 v' (1 + (j + 1)) (.int .u8 k :: ((digs u).take (j + 1)).map fun (d : Nat) => Value.int .u8 (d : Int))) := by
        show World.ownsRow _ _ _ _ _ _ _
        rw [digs_snoc HK.out hlt2, List.map_append, List.map_cons, List.map_nil, ← digit_cast, List.map_take]
        exact hown'
      have hb1 : Below w'.heap.size w' w1 := (hb.alloc hbase _).grown hgrow (by simp; omega) (by
        intro g hg
        rcases HO.out.2 with ⟨rfl, _⟩ | ⟨g', cap, cur, rfl, hge, _⟩
        · simp [Value.ownBlock] at hg
        · simp [Value.ownBlock] at hg; omega)
      clear hown' hgrow
      go_wp2_with fail
      go_roundw
      case rel => exact ⟨j + 1, by omega, congrArg (Value.int .i64) (by omega), hb1, HO'.out⟩
      case measure => simp [intOf]; omega
    · obtain rfl : j = k := by omega
      have ho : wr.ownsRow w'.heap.size 5 1 u4 (1 + j) (bv (numU u)) := by
        rw [← bv_digs, HK.out]
        have := HO.out
        rw [List.take_of_length_le (by rw [HK.out]; exact Nat.le_refl _)] at this
        exact this
      obtain ⟨g, cap, rfl, hlen, hconv⟩ := own_bytes ho (by omega)
      go_wp2_with fail
      go_ret
      exact ⟨rfl, hb⟩
end Go.Proofs.Ytnfbakldpjmbnaa.Cd
