/- The law of ChunkWhole. -/
import Derived.Test.YtdmopbfckdadnaaAw
namespace Go.Proofs.Ytdmopbfckdadnaa
open Go.RowKit
attribute [local go_sem] bs_size bs_getElem bs_list bs_append

theorem whole_succ (d : List UInt8) (k : Nat) : d.take (256 * (k + 1)) = d.take (256 * k) ++ piece d k := by
  rw [Nat.mul_succ, List.take_add]; rfl
theorem piece_full {d : List UInt8} {k : Nat} (h : k + 1 < pieces d.length) : (piece d k).length = 256 := by
  have := pieces_lt.1 h
  unfold piece; rw [List.length_take, List.length_drop]; omega
theorem piece_some {d : List UInt8} {k : Nat} (h : k < pieces d.length) : 1 ≤ (piece d k).length := by
  have := pieces_lt.1 h
  unfold piece; rw [List.length_take, List.length_drop]; omega

set_option maxRecDepth 100000 in
set_option maxHeartbeats 1600000 in
theorem law_whole (d : List UInt8) (w : World) (hl : d.length ≤ 9223372036854775807) :
    Calls Try.prog 5 #[.string (bs d)] w fun e w' => e = .returned (.bool true) ∧ Below w.heap.size w w' := by
  rcases Nat.lt_or_ge 10000 d.length with hlt | hge
  · have hd : decide (((d.length : Nat) : Int) > 10000) = true := decide_eq_true (by omega)
    go_enter Try.func5, Try.ntmps5
    go_wp2_with fail
    refine (awake_any _).mono ?_
    rintro e w1 ⟨rfl, hb⟩
    go_wp2_with fail
    go_ret
    exact ⟨rfl, hb⟩
  have hd : decide (((d.length : Nat) : Int) > 10000) = false := decide_eq_false (by omega)
  have HC := Lib.hid (fun w => cut_any d (by omega) w)
  have hsh := short_piece d
  have HSh := Lib.hid hsh
  have hcl := cutL_length d
  have HCl := Lib.hid hcl
  have hpm : (cutL d).length ≤ 100 := by rw [hcl]; unfold pieces; omega
  clear hsh hl hcl
  go_enter Try.func5, Try.ntmps5
  go_wp2_with fail
  refine (HC.out w).mono ?_
  rintro e w3 ⟨v3, rfl, hO3, hb3⟩
  have HB3 := Lib.hid hb3
  obtain ⟨A3, c3, rfl, hS3⟩ := OwnT.strs (OwnC.of_row hO3) HSh.out
  have HS3 := Lib.hid hS3
  have hmx := hS3.max
  have hle := hS3.le
  clear hb3 hO3 hS3
  go_wp2_with fail
  go_loopw [4, 5] (fun s i wr => ∃ k : Nat, k ≤ (cutL d).length ∧ i = .int .i64 k ∧ s = .string (bs (d.take (256 * k))) ∧ Below w3.heap.size w3 wr) (fun _ i _ => (cutL d).length - (intOf i).toNat)
  case atStart => exact ⟨0, by omega, rfl, rfl, Below.refl _ _⟩
  case round =>
    obtain ⟨k, hk, rfl, rfl, hb⟩ := hrel
    rcases Nat.lt_or_ge k (cutL d).length with hlt | hge2
    · obtain ⟨b, off, rfl, hbl, c0, hm⟩ := Strs.at_ (HS3.out.below hb) hlt
      rw [cutL_at hlt] at c0
      have hki : (k : Int) < ((cutL d).length : Int) := by omega
      have hp1 : 1 ≤ (piece d k).length := piece_some (by have := HCl.out; omega)
      have hp2 := piece_len d k
      have HNx := Lib.hid (whole_succ d k)
      have htl : (d.take (256 * k)).length ≤ 10000 := Nat.le_trans (List.length_take_le' _ _) hge
      have hfull : k + 1 < (cutL d).length → (piece d k).length = 256 := fun h => piece_full (by have := HCl.out; omega)
      have HF := Lib.hid hfull
      have HB := Lib.hid hb
      clear hb hfull hm
      generalize piece d k = pc at *
      generalize d.take (256 * k) = ac at *
      have hp3 : (1 : Int) ≤ (pc.length : Int) := by omega
      have hp4 : (pc.length : Int) ≤ 256 := by omega
      by_cases hlast : k + 1 < (cutL d).length
      · have hl1 : decide ((k : Int) < ((cutL d).length : Int) - 1) = true := decide_eq_true (by omega)
        have hf := HF.out hlast
        have hl2 : (((pc.length : Nat) : Int) != 256) = false := by rw [bne_eq_false_iff_eq]; omega
        clear hf
        go_wp2_with fail
        exact ⟨⟨k + 1, by omega, by go_num, by rw [HNx.out], HB.out⟩, by simp [intOf]; omega⟩
      · have hl1 : decide ((k : Int) < ((cutL d).length : Int) - 1) = false := decide_eq_false (by omega)
        go_wp2_with fail
        exact ⟨⟨k + 1, by omega, by go_num, by rw [HNx.out], HB.out⟩, by simp [intOf]; omega⟩
    · have hkn : ¬ (k : Int) < ((cutL d).length : Int) := by omega
      have hfin : d.take (256 * k) = d := List.take_of_length_le (by have := HCl.out; unfold pieces at this; omega)
      rw [hfin]
      have HB := Lib.hid (HB3.out.trans (hb.mono HB3.out.size))
      clear hb hfin
      go_wp2_with fail
      refine (awake_any wr).mono ?_
      rintro e w6 ⟨rfl, hb6⟩
      have HB6 := Lib.hid (HB.out.trans (hb6.mono HB.out.size))
      clear hb6
      go_wp2_with fail
      go_ret
      exact ⟨rfl, HB6.out⟩
end Go.Proofs.Ytdmopbfckdadnaa
