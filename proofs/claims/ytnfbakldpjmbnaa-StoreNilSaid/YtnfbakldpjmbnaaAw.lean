/- awake; StoreNil. -/
import Derived.Test.YtnfbakldpjmbnaaCw
namespace Go.Proofs.Ytnfbakldpjmbnaa
open Go.RowKit Fm
attribute [local go_sem] bs_size bs_getElem bs_list bs_append

def ab : Bytes := [97, 98]
def cd : Bytes := [99, 100]
theorem keys_differ : keyL ab ≠ keyL cd := by decide +kernel
theorem cut_ab : cutL ab = [ab] := by decide
theorem man_ab (w : World) : Calls Try.prog 20 #[.string ⟨#[97, 98]⟩] w fun e w' => e = .returned (.tuple #[.string (bs (manL ab)), .int .i64 0]) ∧ Below w.heap.size w w' :=
  (man_any ab (by decide) w).mono fun e w' h => by
    obtain ⟨h1, h2⟩ := h
    rw [if_pos ⟨by decide, by decide⟩, if_pos (by decide)] at h1
    exact ⟨h1, h2⟩
theorem keys_ab : keysL (manL ab) = ([keyL ab], 2, 0) := by rw [man_keys (by decide) (by decide), cut_ab]; rfl
theorem man_len : (manL ab).length ≤ 1000000 := by
  unfold manL
  rw [cut_ab, List.length_append]
  have h1 : (Cd.numL ((ab.length : Nat) : Int)).length ≤ 9 := Cd.numU_len _
  have h2 : ([ab].flatMap keyL).length = 32 := by simp [keyL_len]
  omega

set_option maxHeartbeats 4000000 in
set_option maxRecDepth 100000 in
theorem awake_any (w : World) : Calls Try.prog 12 #[] w fun e w' => e = .returned (.bool true) ∧ Below w.heap.size w w' := by
  go_enter Try.func12, Try.ntmps12
  go_wp2_with fail
  refine (new_any 3 (by decide) (by decide) w).mono ?_
  rintro e w1 ⟨d, pb, kb, rfl, h1, hb1⟩
  obtain ⟨K, hK⟩ : ∃ K, K = keyL ab := ⟨_, rfl⟩
  have hp1 := (put_any h1 ab (by decide) (by decide) rfl (by decide) (by decide)).1 (by decide)
  rw [← hK] at hp1
  have HP1 := Lib.hid hp1
  have HB1 := Lib.hid hb1
  have HK := Lib.hid hK
  clear h1 hb1 hp1 hK
  go_wp2_with fail
  refine HP1.out.mono ?_
  rintro e w2 ⟨rfl, h2, hb2⟩
  have h2' : StI w.heap.size w2 d pb kb 3 2 [(K, ab)] := h2
  have hno : Fm.get [(K, ab)] (keyL cd) = none := by
    have : ¬ K = keyL cd := by rw [HK.out]; exact keys_differ
    simp [Fm.get, Fm.place, this]
  have hp2 := (put_any h2' cd (by decide) (by decide) hno (by decide) (by decide)).2 (by decide)
  have HP2 := Lib.hid hp2
  have HB2 := Lib.hid (HB1.out.trans hb2)
  clear h2 h2' hb2 hno hp2
  go_wp2_with fail
  refine HP2.out.mono ?_
  rintro e w3 ⟨rfl, h3, hb3⟩
  have H3 := Lib.hid h3
  have HB3 := Lib.hid (HB2.out.trans hb3)
  clear h3 hb3
  go_wp2_with fail
  refine (man_ab w3).mono ?_
  rintro e w4 ⟨rfl, hb4⟩
  have h4 := H3.out.later hb4
  have hm := missing_any h4 (manL ab) man_len (by rw [keys_ab]) (fun k hk => by
    rw [keys_ab] at hk
    rw [List.mem_singleton.1 hk, ← HK.out]
    simp [Fm.get, Fm.place])
  have HM := Lib.hid hm
  have H4 := Lib.hid h4
  have HB4 := Lib.hid (HB3.out.trans (hb4.mono HB3.out.size))
  obtain ⟨M, hM⟩ : ∃ M, M = manL ab := ⟨_, rfl⟩
  rw [← hM] at HM
  rw [← hM]
  clear hm h4 hb4 hM
  go_wp2_with fail
  refine HM.out.mono ?_
  rintro e w5 ⟨rfl, hb5⟩
  have H5 := Lib.hid (H4.out.later hb5)
  have HB5 := Lib.hid (HB4.out.trans (hb5.mono HB4.out.size))
  have hkey := key_c ab (by decide) w5
  have hkey' : Calls Try.prog 13 #[.string ⟨#[97, 98]⟩] w5 fun e w' => e = .returned (.string (bs K)) ∧ Below w5.heap.size w5 w' := by rw [HK.out]; exact hkey
  have HKEY := Lib.hid hkey'
  clear hb5 hkey hkey'
  go_wp2_with fail
  refine HKEY.out.mono ?_
  rintro e w6 ⟨rfl, hb6⟩
  have h6 := H5.out.later hb6
  have HB6 := Lib.hid (HB5.out.trans (hb6.mono HB5.out.size))
  have hcl := collect_one (x := ab) h6 (by decide) HB6.out.size
  have HCL := Lib.hid hcl
  clear h6 hb6 hcl
  go_wp2_with fail
  refine HCL.out.mono ?_
  rintro e w7 ⟨rfl, hb7⟩
  have HB7 := Lib.hid (HB6.out.trans hb7)
  clear hb7
  go_wp2_with fail
  go_ret
  exact ⟨rfl, HB7.out⟩

set_option maxHeartbeats 4000000 in
set_option maxRecDepth 100000 in
theorem law_nil (s : Bytes) (w : World) (_hs : s.length ≤ 9223372036854775807) : Calls Try.prog 3 #[.string (bs s)] w fun e w' => e = .returned (.bool true) ∧ Below w.heap.size w w' := by
  go_enter Try.func3, Try.ntmps3
  go_wp2_with fail
  refine (put_nil s w).mono ?_
  rintro e w1 ⟨rfl, rfl⟩
  go_wp2_with fail
  refine (get_nil s w).mono ?_
  rintro e w1 ⟨rfl, rfl⟩
  go_wp2_with fail
  refine (missing_nil s w).mono ?_
  rintro e w1 ⟨rfl, rfl⟩
  go_wp2_with fail
  refine (file_nil s w).mono ?_
  rintro e w1 ⟨rfl, rfl⟩
  go_wp2_with fail
  refine (hold_nil s w).mono ?_
  rintro e w1 ⟨rfl, rfl⟩
  go_wp2_with fail
  refine (free_nil s w).mono ?_
  rintro e w1 ⟨rfl, rfl⟩
  go_wp2_with fail
  refine (collect_nil w).mono ?_
  rintro e w1 ⟨rfl, rfl⟩
  go_wp2_with fail
  refine (used_nil w).mono ?_
  rintro e w1 ⟨rfl, rfl⟩
  go_wp2_with fail
  refine (awake_any w).mono ?_
  rintro e w1 ⟨rfl, hb1⟩
  have HB1 := Lib.hid hb1
  clear hb1
  go_wp2_with fail
  go_ret
  exact ⟨rfl, HB1.out⟩
end Go.Proofs.Ytnfbakldpjmbnaa
