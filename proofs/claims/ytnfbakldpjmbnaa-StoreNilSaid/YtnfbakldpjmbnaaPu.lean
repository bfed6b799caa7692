/- Put; Missing where nothing is missing. -/
import Derived.Test.YtnfbakldpjmbnaaSt
namespace Go.Proofs.Ytnfbakldpjmbnaa
open Go.RowKit Fm
attribute [local go_sem] bs_size bs_getElem bs_list bs_append

theorem zero9 (w : World) : (zeroValue 9).run Try.prog w = .ok (.string ⟨#[]⟩) w := Try.zeroValue9 w
set_option maxHeartbeats 2000000 in
set_option maxRecDepth 100000 in
theorem put_any {B d pb kb q u : Nat} {fs : Files} {w : World} (h : StI B w d pb kb q u fs) (x : Bytes) (h1 : 1 ≤ x.length) (h2 : x.length ≤ 256) (hno : get fs (keyL x) = none) (hu : u ≤ 100000000) (hq : q ≤ 16777216) :
    (u + x.length ≤ q → Calls Try.prog 4 #[.pointer (some ⟨d, 0, none⟩), .string (bs x)] w fun e w' => e = .returned (.tuple #[.string (bs (keyL x)), .int .i64 0]) ∧ StI B w' d pb kb q (u + x.length) (put fs (keyL x) x) ∧ Below B w w') ∧
    (q < u + x.length → Calls Try.prog 4 #[.pointer (some ⟨d, 0, none⟩), .string (bs x)] w fun e w' => e = .returned (.tuple #[.string ⟨#[]⟩, .int .i64 41]) ∧ StI B w' d pb kb q u fs ∧ Below B w w') := by
  have hB : B ≤ w.heap.size := Nat.le_of_lt (Nat.lt_of_le_of_lt h.bd h.blk.lt)
  have HK := Lib.hid (key_c x (by omega) w)
  have c0 : (x == []) = false := by
    rw [beq_eq_false_iff_ne]
    exact fun e => by rw [e] at h1; simp at h1
  obtain ⟨K, hK⟩ : ∃ K, K = keyL x := ⟨_, rfl⟩
  have HK : Hid (Calls Try.prog 13 #[.string (bs x)] w fun e w' => e = .returned (.string (bs K)) ∧ Below w.heap.size w w') := Lib.hid (by rw [hK]; exact HK.out)
  rw [← hK] at hno ⊢
  have H := Lib.hid h
  clear h hK
  have step : ∀ w1, Below w.heap.size w w1 → StI B w1 d pb kb q u fs := fun w1 hb => H.out.later hb
  constructor
  · intro hfit
    have hc : decide ((q : Int) < (u : Int) + (x.length : Int)) = false := by simp; omega
    go_enter Try.func4, Try.ntmps4
    go_wp2_with fail
    refine HK.out.mono ?_
    rintro e w1 ⟨rfl, hb1⟩
    have hs1 := step w1 hb1
    have q2 : w1.cell? ⟨d, 2, none⟩ = some (.map (some pb)) := hs1.blk.cell 2
    have hlk := hs1.fs.look2 Try.underlying40 Try.underlying9 zero9 K
    rw [hno] at hlk
    simp only [Option.getD_none, Option.isSome_none] at hlk
    have kd0 : ∀ y : After w1, y.wd.cell? ⟨d, 0, none⟩ = some (.int .i64 (q : Nat)) := fun y => y.cell (hs1.blk.cell 0)
    have HU := Lib.hid (fun y : After w1 => used_any (hs1.later y.below))
    have HS1 := Lib.hid hs1
    have HB1 := Lib.hid (hb1.mono hB)
    clear hs1 hb1
    go_wp2_with fail
    refine wp_region_after (by kernel_rfl) (by kernel_rfl) ?_
    repeat (go_big_quiet_step ((go_at_call 11; exact after_same (HU.out _))))
    refine wpQuiet_nil ?_
    rintro _ ⟨y, rfl⟩
    have hsy := HS1.out.later y.below
    have hc1 : y.wd.cell? ⟨d, 1, none⟩ = some (.int .i64 (u : Nat)) := hsy.blk.cell 1
    have hz1 := hsy.blk.frozen 1
    have hadd := add_any d (u : Nat) (x.length : Nat) ((u + x.length : Nat) : Int) y.wd hc1 hz1 (by unfold wrap64; omega)
    obtain ⟨w2, hw2⟩ : ∃ w2, w2 = y.wd.setCell ⟨d, 1, none⟩ (.int .i64 ((u + x.length : Nat) : Int)) := ⟨_, rfl⟩
    rw [← hw2] at hadd
    have hb2 : Blk w2 d 43 #[.int .i64 (q : Nat), .int .i64 ((u + x.length : Nat) : Int), .map (some pb), .map (some kb)] := by rw [hw2]; exact hsy.blk.set_ 1 _
    have hg2 : y.wd.grownBy w2 (some d) := by rw [hw2]; exact gb_setCell (gb_refl _ _) (p := ⟨d, 1, none⟩) (.inl rfl) _
    have hf2 : Fs w2 pb fs := hsy.fs.grown hg2 (fun e => hsy.fs.ne_blk hsy.blk (by cases e; rfl))
    have hdk : d ≠ kb := by
      rintro rfl
      have h1 := hsy.blk
      have h2 := hsy.kept
      unfold Blk at h1
      rw [h1] at h2
      cases h2
    have hklt : kb < y.wd.heap.size := by
      rcases Nat.lt_or_ge kb y.wd.heap.size with hlt | hge
      · exact hlt
      · have := hsy.kept; rw [Array.getElem?_eq_none hge] at this; cases this
    have hk2 : w2.heap[kb]? = some (.map #[] 0) := (hg2.block kb hklt (fun e => hdk (by cases e; rfl))).trans hsy.kept
    have q22 : w2.cell? ⟨d, 2, none⟩ = some (.map (some pb)) := hb2.cell 2
    obtain ⟨w3, hr3, hf3, hg3, _⟩ := hf2.store Try.underlying40 Try.underlying9 K x
    have hne := hsy.ne
    have h3 : StI B w3 d pb kb q (u + x.length) (put fs K x) :=
      ⟨hb2.grown hg3 (fun e => hf2.ne_blk hb2 (by cases e; rfl)), hf3, (hg3.block kb (Nat.lt_of_lt_of_le hklt hg2.size) (fun e => hne (by cases e; rfl))).trans hk2, hne, hsy.bd, hsy.bp⟩
    have hBy : Below B w y.wd := HB1.out.trans (y.below.mono (Nat.le_trans hB HB1.out.size))
    have hB2 : Below B w w2 := hBy.grown hg2 (Nat.le_trans hB hBy.size) (fun k e => by cases e; exact hsy.bd)
    have H3 := Lib.hid h3
    have HB3 := Lib.hid (hB2.grown hg3 (Nat.le_trans hB hB2.size) (fun k e => by cases e; exact hsy.bp))
    have HADD := Lib.hid hadd
    clear h3 hB2 hBy hadd hne hf2 hk2 hdk hklt hg2 hg3 hf3 hw2 hb2 hsy step
    go_wp2_with fail
    refine HADD.out.mono ?_
    rintro e w' ⟨rfl, hw'⟩
    rw [hw']
    clear hw'
    go_wp2_with fail
    go_ret2
    exact ⟨rfl, H3.out, HB3.out⟩
  · intro hfit
    have hc : decide ((q : Int) < (u : Int) + (x.length : Int)) = true := by simp; omega
    go_enter Try.func4, Try.ntmps4
    go_wp2_with fail
    refine HK.out.mono ?_
    rintro e w1 ⟨rfl, hb1⟩
    have hs1 := step w1 hb1
    have q2 : w1.cell? ⟨d, 2, none⟩ = some (.map (some pb)) := hs1.blk.cell 2
    have hlk := hs1.fs.look2 Try.underlying40 Try.underlying9 zero9 K
    rw [hno] at hlk
    simp only [Option.getD_none, Option.isSome_none] at hlk
    have kd0 : ∀ y : After w1, y.wd.cell? ⟨d, 0, none⟩ = some (.int .i64 (q : Nat)) := fun y => y.cell (hs1.blk.cell 0)
    have HU := Lib.hid (fun y : After w1 => used_any (hs1.later y.below))
    have HS1 := Lib.hid hs1
    have HB1 := Lib.hid (hb1.mono hB)
    clear hs1 hb1
    go_wp2_with fail
    refine wp_region_after (by kernel_rfl) (by kernel_rfl) ?_
    repeat (go_big_quiet_step ((go_at_call 11; exact after_same (HU.out _))))
    refine wpQuiet_nil ?_
    rintro _ ⟨y, rfl⟩
    have hsy := Lib.hid (HS1.out.later y.below)
    have HBy := Lib.hid (HB1.out.trans (y.below.mono (Nat.le_trans hB HB1.out.size)))
    clear step
    go_wp2_with fail
    go_ret2
    exact ⟨rfl, hsy.out, HBy.out⟩
end Go.Proofs.Ytnfbakldpjmbnaa
