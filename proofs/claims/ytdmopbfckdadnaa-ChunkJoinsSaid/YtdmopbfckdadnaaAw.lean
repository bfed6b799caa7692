/- awake; the laws of Cut and Keys. -/
import Derived.Test.YtdmopbfckdadnaaMp
import Derived.Test.YtdmopbfckdadnaaKr
namespace Go.Proofs.Ytdmopbfckdadnaa
open Go.RowKit
attribute [local go_sem] bs_size bs_getElem bs_list bs_append

theorem man_nil (w : World) : Calls Try.prog 9 #[.string ⟨#[]⟩] w fun e w' => e = .returned (.tuple #[.string ⟨#[]⟩, .int .i64 0]) ∧ Below w.heap.size w w' :=
  (man_any [] (by decide) w).mono fun e w' h => h
theorem manL_a : manL [97] = 1 :: 1 :: keyL [97] := by
  have h1 : cutL [97] = [[97]] := by decide
  have h2 : Cd.numL (([97] : List UInt8).length : Int) = [1, 1] := by decide
  unfold manL
  rw [h1, h2]; simp
theorem man_a (w : World) : Calls Try.prog 9 #[.string ⟨#[97]⟩] w fun e w' => e = .returned (.tuple #[.string (bs (1 :: 1 :: keyL [97])), .int .i64 0]) ∧ Below w.heap.size w w' :=
  (man_any [97] (by decide) w).mono fun e w' h => by
    obtain ⟨h1, h2⟩ := h
    rw [if_pos ⟨by decide, by decide⟩, if_pos (by decide), manL_a] at h1
    exact ⟨h1, h2⟩
theorem keys_x (w : World) : Calls Try.prog 14 #[.string ⟨#[120]⟩] w fun e w' => ∃ v, e = .returned (.tuple #[v, .int .i64 0, .int .i64 11]) ∧ Below w.heap.size w w' :=
  (keys_any [120] (by decide) w).mono fun e w' h => by
    obtain ⟨v, h1, _, h2⟩ := h
    have hk : keysL [120] = ([], 0, 11) := by decide
    rw [hk] at h1
    exact ⟨v, h1, h2⟩
theorem cat_11 (l : List UInt8) : (⟨#[1, 1]⟩ : ByteArray) ++ bs l = bs (1 :: 1 :: l) := by
  rw [show (⟨#[1, 1]⟩ : ByteArray) = bs [1, 1] from rfl, bs_append]; rfl

set_option maxRecDepth 100000 in
set_option maxHeartbeats 1600000 in
theorem awake_any (w : World) : Calls Try.prog 8 #[] w fun e w' => e = .returned (.bool true) ∧ Below w.heap.size w w' := by
  have HA := Lib.hid man_a
  have HK := Lib.hid (fun w => key_c [97] (by decide) w)
  have hl : (keyL [97]).length ≤ 1000 := by rw [keyL_len]; decide
  unfold keyL at HA hl
  generalize (sumL [97]).take 32 = K at *
  have hcat := cat_11 K
  go_enter Try.func8, Try.ntmps8
  go_wp2_with fail
  refine (man_nil w).mono ?_
  rintro e w1 ⟨rfl, hb1⟩
  have HB1 := Lib.hid hb1
  clear hb1
  go_wp2_with fail
  refine (HA.out w1).mono ?_
  rintro e w2 ⟨rfl, hb2⟩
  have HB2 := Lib.hid (HB1.out.trans (hb2.mono HB1.out.size))
  clear hb2
  go_wp2_with fail
  refine (keys_x w2).mono ?_
  rintro e w3 ⟨v, rfl, hb3⟩
  have HB3 := Lib.hid (HB2.out.trans (hb3.mono HB2.out.size))
  clear hb3
  go_wp2_with fail
  refine (HK.out w3).mono ?_
  rintro e w4 ⟨rfl, hb4⟩
  have HB4 := Lib.hid (HB3.out.trans (hb4.mono HB3.out.size))
  clear hb4
  go_wp2_with fail
  go_ret
  exact ⟨rfl, HB4.out⟩

set_option maxRecDepth 100000 in
set_option maxHeartbeats 1600000 in
theorem law_cuts (d : List UInt8) (w : World) (hl : d.length ≤ 9223372036854775807) :
    Calls Try.prog 3 #[.string (bs d)] w fun e w' => e = .returned (.bool true) ∧ Below w.heap.size w w' := by
  rcases Nat.lt_or_ge 10000 d.length with hlt | hge
  · have hd : decide (((d.length : Nat) : Int) > 10000) = true := decide_eq_true (by omega)
    go_enter Try.func3, Try.ntmps3
    go_wp2_with fail
    refine (awake_any _).mono ?_
    rintro e w1 ⟨rfl, hb⟩
    go_wp2_with fail
    go_ret
    exact ⟨rfl, hb⟩
  have hd : decide (((d.length : Nat) : Int) > 10000) = false := decide_eq_false (by omega)
  have HM := Lib.hid (fun w => man_any d (by omega) w)
  have HR := Lib.hid (fun w => rman_any d (by omega) w)
  have HC := Lib.hid (fun w => cut_any d (by omega) w)
  have HRC := Lib.hid (fun w => rcut_any d (by omega) w)
  have hsh := short_piece d
  have HSh := Lib.hid hsh
  unfold ManP at HM HR
  generalize (if d.length ≤ 4096 ∧ d ≠ [] then manL d else []) = M at *
  generalize (if d.length ≤ 4096 then (0 : Int) else 40) = E at *
  generalize cutL d = cs at *
  clear hsh hl
  go_enter Try.func3, Try.ntmps3
  go_wp2_with fail
  refine (HM.out w).mono ?_
  rintro e w1 ⟨rfl, hb1⟩
  have HB1 := Lib.hid hb1
  clear hb1
  go_wp2_with fail
  refine (HR.out w1).mono ?_
  rintro e w2 ⟨rfl, hb2⟩
  have HB2 := Lib.hid (HB1.out.trans (hb2.mono HB1.out.size))
  clear hb2
  go_wp2_with fail
  refine (HC.out w2).mono ?_
  rintro e w3 ⟨v3, rfl, hO3, hb3⟩
  have HB3 := Lib.hid (HB2.out.trans (hb3.mono HB2.out.size))
  obtain ⟨A3, c3, rfl, hS3⟩ := OwnT.strs (OwnC.of_row hO3) HSh.out
  have HS3 := Lib.hid hS3
  clear hb3 hO3 hS3
  go_wp2_with fail
  refine (HRC.out w3).mono ?_
  rintro e w4 ⟨v4, rfl, hO4, hb4⟩
  have HB4 := Lib.hid (HB3.out.trans (hb4.mono HB3.out.size))
  obtain ⟨A4, c4, rfl, hS4⟩ := OwnT.strs hO4 HSh.out
  have HS4 := Lib.hid hS4
  have HS3b := Lib.hid (HS3.out.below hb4)
  clear hb4 hO4 hS4
  go_wp2_with fail
  refine (texts_any A3 A4 _ c3 c4 cs w4 HS3b.out HS4.out).mono ?_
  rintro e w5 ⟨rfl, hb5⟩
  have HB5 := Lib.hid (HB4.out.trans (hb5.mono HB4.out.size))
  clear hb5
  go_wp2_with fail
  refine (awake_any w5).mono ?_
  rintro e w6 ⟨rfl, hb6⟩
  have HB6 := Lib.hid (HB5.out.trans (hb6.mono HB5.out.size))
  clear hb6
  go_wp2_with fail
  go_ret
  exact ⟨rfl, HB6.out⟩

theorem short_keys (m : List UInt8) : ShortT (keysL m).1 := by
  unfold keysL
  split
  · exact fun x hx => absurd hx List.not_mem_nil
  · split
    · exact short_32 _ _
    · exact fun x hx => absurd hx List.not_mem_nil

set_option maxRecDepth 100000 in
set_option maxHeartbeats 1600000 in
theorem law_keys (m : List UInt8) (w : World) (hl : m.length ≤ 9223372036854775807) :
    Calls Try.prog 4 #[.string (bs m)] w fun e w' => e = .returned (.bool true) ∧ Below w.heap.size w w' := by
  rcases Nat.lt_or_ge 10000 m.length with hlt | hge
  · have hd : decide (((m.length : Nat) : Int) > 10000) = true := decide_eq_true (by omega)
    go_enter Try.func4, Try.ntmps4
    go_wp2_with fail
    refine (awake_any _).mono ?_
    rintro e w1 ⟨rfl, hb⟩
    go_wp2_with fail
    go_ret
    exact ⟨rfl, hb⟩
  have hd : decide (((m.length : Nat) : Int) > 10000) = false := decide_eq_false (by omega)
  have HM := Lib.hid (fun w => keys_any m (by omega) w)
  have HR := Lib.hid (fun w => rkeys_any m (by omega) w)
  have hsh := short_keys m
  have HSh := Lib.hid hsh
  unfold KeysP at HM HR
  generalize keysL m = K at *
  obtain ⟨ks, nn, ee⟩ := K
  dsimp only at HM HR HSh
  clear hsh hl
  go_enter Try.func4, Try.ntmps4
  go_wp2_with fail
  refine (HM.out w).mono ?_
  rintro e w1 ⟨v1, rfl, hO1, hb1⟩
  obtain ⟨A1, c1, rfl, hS1⟩ := OwnT.strs hO1 HSh.out
  have HS1 := Lib.hid hS1
  have HB1 := Lib.hid hb1
  clear hb1 hO1 hS1
  go_wp2_with fail
  refine (HR.out w1).mono ?_
  rintro e w2 ⟨v2, rfl, hO2, hb2⟩
  obtain ⟨A2, c2, rfl, hS2⟩ := OwnT.strs hO2 HSh.out
  have HS2 := Lib.hid hS2
  have HS1b := Lib.hid (HS1.out.below hb2)
  have HB2 := Lib.hid (HB1.out.trans (hb2.mono HB1.out.size))
  clear hb2 hO2 hS2
  go_wp2_with fail
  refine (texts_any A1 A2 _ c1 c2 ks w2 HS1b.out HS2.out).mono ?_
  rintro e w5 ⟨rfl, hb5⟩
  have HB5 := Lib.hid (HB2.out.trans (hb5.mono HB2.out.size))
  clear hb5
  go_wp2_with fail
  refine (awake_any w5).mono ?_
  rintro e w6 ⟨rfl, hb6⟩
  have HB6 := Lib.hid (HB5.out.trans (hb6.mono HB5.out.size))
  clear hb6
  go_wp2_with fail
  go_ret
  exact ⟨rfl, HB6.out⟩
end Go.Proofs.Ytdmopbfckdadnaa
