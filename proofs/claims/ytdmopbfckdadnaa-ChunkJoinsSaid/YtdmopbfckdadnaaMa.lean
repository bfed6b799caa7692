/- The law of ChunkMany. -/
import Derived.Test.YtdmopbfckdadnaaAw
import Derived.Test.YtdmopbfckdadnaaCdG2
namespace Go.Proofs.Ytdmopbfckdadnaa
open Go.RowKit
attribute [local go_sem] bs_size bs_getElem bs_list bs_append

theorem rnumR_num {n : Nat} (h : n < 18446744073709551616) (rest : List UInt8) : Cd.rnumR (Cd.numU n ++ rest) = (rest, 0, n) := by
  have h1 := Cd.num_app (d := Cd.numU n ++ rest) (a := 0) h (List.drop_zero ..)
  have h2 := Cd.rnum_num (Cd.numU n ++ rest) 0
  rw [List.drop_zero, h1] at h2
  obtain ⟨h3, h4, h5⟩ := h2
  have h6 := h5 rfl
  rw [Nat.zero_add, List.drop_left] at h6
  exact Prod.ext h6 (Prod.ext h3 h4)
theorem keys_len (l : List (List UInt8)) : (l.flatMap keyL).length = 32 * l.length := by
  induction l with
  | nil => rfl
  | cons x l ih => rw [List.flatMap_cons, List.length_append, ih, keyL_len, List.length_cons]; omega
theorem key32_map (l : List (List UInt8)) : cut32 (l.flatMap keyL) l.length = l.map keyL := by
  induction l with
  | nil => rfl
  | cons x l ih =>
    unfold cut32 at ih ⊢
    rw [List.length_cons, List.range_succ_eq_map, List.map_cons, List.map_map, List.map_cons]
    refine congr (congrArg List.cons ?_) ?_
    · unfold key32
      rw [List.flatMap_cons, Nat.mul_zero, List.drop_zero, ← keyL_len x, List.take_left]
    · rw [← ih]
      refine List.map_congr_left fun i _ => ?_
      show key32 _ (i + 1) = key32 _ i
      unfold key32
      rw [List.flatMap_cons]
      rw [show 32 * (i + 1) = (keyL x).length + 32 * i by rw [keyL_len]; omega, ← List.drop_drop, List.drop_left]
theorem man_keys {d : List UInt8} (h : d.length ≤ 4096) (h0 : d ≠ []) : keysL (manL d) = ((cutL d).map keyL, (d.length : Int), 0) := by
  have hd : 1 ≤ d.length := by cases d <;> simp_all
  have hn : Cd.numL (d.length : Int) = Cd.numU d.length := by unfold Cd.numL; rw [u64_small (by omega)]
  have hr : Cd.rnumR (manL d) = ((cutL d).flatMap keyL, 0, d.length) := by unfold manL; rw [hn, rnumR_num (by omega)]
  have ht : Cd.toI d.length = (d.length : Int) := by unfold Cd.toI; omega
  have hne : manL d ≠ [] := by unfold manL; rw [hn]; unfold Cd.numU; simp
  rw [keysL_ok hne (by rw [hr]) (by rw [hr]; show 1 ≤ Cd.toI d.length; omega) (by rw [hr]; show Cd.toI d.length ≤ 4096; omega) (by rw [hr]; show ((cutL d).flatMap keyL).length = _; rw [keys_len, cutL_length]), hr]
  dsimp only
  rw [ht, ← cutL_length, key32_map]
theorem after_key {W : World} (x : After W) {s : List UInt8} (hs : s.length ≤ 256) {K : List UInt8} (hK : keyL s = K) : Calls Try.prog 16 #[.string (bs s)] x.wd fun e w' => e = .returned (.string (bs K)) ∧ ∃ y : After W, w' = y.wd := after_call (by rw [← hK]; exact key_c s (by omega) x.wd)
theorem short_map (l : List (List UInt8)) : ShortT (l.map keyL) := fun x hx => by
  obtain ⟨y, _, rfl⟩ := List.mem_map.1 hx
  rw [keyL_len]; decide

set_option maxRecDepth 100000 in
set_option maxHeartbeats 1600000 in
theorem law_many (d : List UInt8) (w : World) (hl : d.length ≤ 9223372036854775807) :
    Calls Try.prog 6 #[.string (bs d)] w fun e w' => e = .returned (.bool true) ∧ Below w.heap.size w w' := by
  rcases Nat.lt_or_ge 4096 d.length with hlt | hge
  · have hd : decide (((d.length : Nat) : Int) > 4096) = true := decide_eq_true (by omega)
    go_enter Try.func6, Try.ntmps6
    go_wp2_with fail
    refine (awake_any _).mono ?_
    rintro e w1 ⟨rfl, hb⟩
    go_wp2_with fail
    go_ret
    exact ⟨rfl, hb⟩
  have hd : decide (((d.length : Nat) : Int) > 4096) = false := decide_eq_false (by omega)
  -- the manifest and its keys
  have hmk : ∃ M, (∀ w, Calls Try.prog 9 #[.string (bs d)] w fun e w' => e = .returned (.tuple #[.string (bs M), .int .i64 0]) ∧ Below w.heap.size w w') ∧ M.length ≤ 1000 ∧ keysL M = ((cutL d).map keyL, (d.length : Int), 0) := by
    by_cases h0 : d = []
    · subst h0
      exact ⟨[], man_nil, by decide, rfl⟩
    · refine ⟨manL d, fun w => (man_any d (by omega) w).mono fun e w' h => ?_, ?_, man_keys hge h0⟩
      · obtain ⟨h1, h2⟩ := h
        rw [if_pos ⟨hge, h0⟩, if_pos hge] at h1
        exact ⟨h1, h2⟩
      · have := manK_len d (pieces d.length)
        rw [manK_all] at this
        have hp : pieces d.length ≤ 16 := by unfold pieces; omega
        omega
  obtain ⟨M, hM, hMl, hKM⟩ := hmk
  have HM := Lib.hid hM
  have hK := fun w => keys_any M (by omega) w
  unfold KeysP at hK
  rw [hKM] at hK
  have HK := Lib.hid hK
  have HC := Lib.hid (fun w => cut_any d (by omega) w)
  have hsh := short_piece d
  have HSh := Lib.hid hsh
  have hcl := cutL_length d
  have HCl := Lib.hid hcl
  have hpm : (cutL d).length ≤ 100 := by rw [hcl]; unfold pieces; omega
  have hq2 : ((d.length : Int) + 255) / 256 = ((cutL d).length : Int) := by rw [hcl]; unfold pieces; omega
  have HSm := Lib.hid (short_map (cutL d))
  have hml : ((cutL d).map keyL).length = (cutL d).length := List.length_map ..
  clear hsh hl hcl hM hKM hK
  go_enter Try.func6, Try.ntmps6
  go_wp2_with fail
  refine (HM.out w).mono ?_
  rintro e w1 ⟨rfl, hb1⟩
  have HB1 := Lib.hid hb1
  clear hb1
  go_wp2_with fail
  refine (HK.out w1).mono ?_
  rintro e w2 ⟨v2, rfl, hO2, hb2⟩
  have HB2 := Lib.hid (HB1.out.trans (hb2.mono HB1.out.size))
  obtain ⟨A2, c2, rfl, hS2⟩ := OwnT.strs hO2 HSm.out
  rw [hml] at hS2
  have HS2 := Lib.hid hS2
  have hmx2 := hS2.max
  have hle2 := hS2.le
  clear hb2 hO2 hS2
  go_wp2_with fail
  refine (HC.out w2).mono ?_
  rintro e w3 ⟨v3, rfl, hO3, hb3⟩
  have HB3 := Lib.hid (HB2.out.trans (hb3.mono HB2.out.size))
  have HS2b := Lib.hid (HS2.out.below hb3)
  obtain ⟨A3, c3, rfl, hS3⟩ := OwnT.strs (OwnC.of_row hO3) HSh.out
  have HS3 := Lib.hid hS3
  have hmx := hS3.max
  have hle := hS3.le
  have HMl := Lib.hid hml
  clear hb3 hO3 hS3 hml
  go_wp2_with fail
  clear hq2
  go_loopw [9] (fun i wr => ∃ k : Nat, k ≤ (cutL d).length ∧ i = .int .i64 k ∧ Below w3.heap.size w3 wr) (fun i _ => (cutL d).length - (intOf i).toNat)
  case atStart => exact ⟨0, by omega, rfl, Below.refl _ _⟩
  case round =>
    obtain ⟨k, hk, rfl, hb⟩ := hrel
    rcases Nat.lt_or_ge k (cutL d).length with hlt | hge2
    · obtain ⟨b, off, rfl, hbl, c0, _⟩ := Strs.at_ (HS3.out.below hb) hlt
      obtain ⟨b2, off2, rfl, hbl2, d0, _⟩ := Strs.at_ (HS2b.out.below hb) (k := k) (by rw [HMl.out]; exact hlt)
      rw [List.getElem_map, cutL_at hlt] at d0
      rw [cutL_at hlt] at c0
      have hpl := piece_len d k
      have HK := Lib.hid (fun x : After wr => after_key x hpl rfl)
      generalize keyL (piece d k) = ky at *
      generalize piece d k = pc at *
      have hki : (k : Int) < ((cutL d).length : Int) := by omega
      have l0 := fun x : After wr => x.cell c0
      have l1 := fun x : After wr => x.cell d0
      have HB := Lib.hid hb
      clear hb
      go_upto_region 11 with (fail)
      refine wp_region_after (by kernel_rfl) (by kernel_rfl) ?_
      repeat (go_big_quiet_step ((go_at_call 16; exact HK.out _)))
      refine wpQuiet_nil ?_
      clear l0 l1
      rintro _ ⟨x2, rfl⟩
      have HBx := Lib.hid (HB.out.trans (x2.below.mono HB.out.size))
      go_wp2_with fail
      exact ⟨⟨k + 1, by omega, by go_num, HBx.out⟩, by simp [intOf]; omega⟩
    · have hkn : ¬ (k : Int) < ((cutL d).length : Int) := by omega
      have HB := Lib.hid (HB3.out.trans (hb.mono HB3.out.size))
      clear hb
      go_wp2_with fail
      refine (awake_any wr).mono ?_
      rintro e w6 ⟨rfl, hb6⟩
      have HB6 := Lib.hid (HB.out.trans (hb6.mono HB.out.size))
      clear hb6
      go_wp2_with fail
      go_ret
      exact ⟨rfl, HB6.out⟩
end Go.Proofs.Ytdmopbfckdadnaa
