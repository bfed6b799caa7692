/- The keys of a manifest are those of its pieces (after ChunkMany); what is missing where nothing is. -/
import Derived.Test.YtnfbakldpjmbnaaPu
import Derived.Test.YtnfbakldpjmbnaaCdG2
namespace Go.Proofs.Ytnfbakldpjmbnaa
open Go.RowKit Fm
attribute [local go_sem] bs_size bs_getElem bs_list bs_append

theorem rnumR_num {n : Nat} (h : n < 18446744073709551616) (rest : List UInt8) : Cd.rnumR (Cd.numU n ++ rest) = (rest, 0, n) := by
  have h1 := Cd.num_app (d := Cd.numU n ++ rest) (a := 0) h (List.drop_zero ..)
  have h2 := Cd.rnum_num (Cd.numU n ++ rest) 0
  rw [List.drop_zero, h1] at h2
  obtain ⟨h3, h4, h5⟩ := h2
  have h6 := h5 rfl
  rw [Nat.zero_add, List.drop_left] at h6
  exact Prod.ext h6 (Prod.ext h3 h4)
theorem keys_len (l : List (List UInt8)) : (l.flatMap keyL).length = 32 * l.length := by
  induction l with
  | nil => rfl
  | cons x l ih => rw [List.flatMap_cons, List.length_append, ih, keyL_len, List.length_cons]; omega
theorem key32_map (l : List (List UInt8)) : cut32 (l.flatMap keyL) l.length = l.map keyL := by
  induction l with
  | nil => rfl
  | cons x l ih =>
    unfold cut32 at ih ⊢
    rw [List.length_cons, List.range_succ_eq_map, List.map_cons, List.map_map, List.map_cons]
    refine congr (congrArg List.cons ?_) ?_
    · unfold key32
      rw [List.flatMap_cons, Nat.mul_zero, List.drop_zero, ← keyL_len x, List.take_left]
    · rw [← ih]
      refine List.map_congr_left fun i _ => ?_
      show key32 _ (i + 1) = key32 _ i
      unfold key32
      rw [List.flatMap_cons]
      rw [show 32 * (i + 1) = (keyL x).length + 32 * i by rw [keyL_len]; omega, ← List.drop_drop, List.drop_left]
theorem man_keys {d : List UInt8} (h : d.length ≤ 4096) (h0 : d ≠ []) : keysL (manL d) = ((cutL d).map keyL, (d.length : Int), 0) := by
  have hd : 1 ≤ d.length := by cases d <;> simp_all
  have hn : Cd.numL (d.length : Int) = Cd.numU d.length := by unfold Cd.numL; rw [u64_small (by omega)]
  have hr : Cd.rnumR (manL d) = ((cutL d).flatMap keyL, 0, d.length) := by unfold manL; rw [hn, rnumR_num (by omega)]
  have ht : Cd.toI d.length = (d.length : Int) := by unfold Cd.toI; omega
  have hne : manL d ≠ [] := by unfold manL; rw [hn]; unfold Cd.numU; simp
  rw [keysL_ok hne (by rw [hr]) (by rw [hr]; show 1 ≤ Cd.toI d.length; omega) (by rw [hr]; show Cd.toI d.length ≤ 4096; omega) (by rw [hr]; show ((cutL d).flatMap keyL).length = _; rw [keys_len, cutL_length]), hr]
  dsimp only
  rw [ht, ← cutL_length, key32_map]

theorem ShortT.keys (m : List UInt8) : ShortT (keysL m).1 := by
  intro x hx
  unfold keysL at hx
  split at hx
  · cases hx
  · split at hx
    · unfold cut32 at hx
      obtain ⟨i, _, rfl⟩ := List.mem_map.1 hx
      unfold key32
      rw [List.length_take]
      omega
    · cases hx
set_option maxHeartbeats 2000000 in
set_option maxRecDepth 100000 in
theorem missing_any {B d pb kb q u : Nat} {fs : Files} {w : World} (h : StI B w d pb kb q u fs) (m : Bytes) (hm : m.length ≤ 1000000) (hk : (keysL m).2.2 = 0) (hall : ∀ k ∈ (keysL m).1, (get fs k).isSome = true) :
    Calls Try.prog 6 #[.pointer (some ⟨d, 0, none⟩), .string (bs m)] w fun e w' => e = .returned (.tuple #[.slice none 0 0, .int .i64 0]) ∧ Below w.heap.size w w' := by
  have HK := Lib.hid (keys_any m hm w)
  have H := Lib.hid h
  have HALL := Lib.hid hall
  clear h hall
  go_enter Try.func6, Try.ntmps6
  go_wp2_with fail
  refine HK.out.mono ?_
  rintro e w1 ⟨v, rfl, ho, hb1⟩
  obtain ⟨A, c, rfl, hs⟩ := ho.strs (ShortT.keys m)
  obtain ⟨ks, hks⟩ : ∃ ks, ks = (keysL m).1 := ⟨_, rfl⟩
  rw [← hks] at hs
  rw [hk, ← hks]
  obtain ⟨kn, hkn⟩ : ∃ kn, kn = (keysL m).2.1 := ⟨_, rfl⟩
  rw [← hkn]
  have hmax : ks.length ≤ 9223372036854775807 := Nat.le_trans hs.le hs.max
  have hs1 := H.out.later hb1
  have q2 : w1.cell? ⟨d, 2, none⟩ = some (.map (some pb)) := hs1.blk.cell 2
  have HS := Lib.hid hs
  have HST := Lib.hid hs1
  have HB1 := Lib.hid hb1
  have HKS := Lib.hid hks
  clear hs hs1 hb1 hks ho hkn hk
  go_wp2_with fail
  go_loopw [9, 27] (fun o i wr => ∃ k : Nat, k ≤ ks.length ∧ o = .slice none 0 0 ∧ i = .int .i64 (k : Nat) ∧ wr = w1) (fun _ i _ => ks.length - (intOf i).toNat)
  case atStart => exact ⟨0, Nat.zero_le _, rfl, rfl, rfl⟩
  case round =>
    obtain ⟨k, hk2, rfl, rfl, rfl⟩ := hrel
    rcases Nat.lt_or_ge k ks.length with hlt | hge
    · obtain ⟨b, off, rfl, hblt, hcell, hml⟩ := HS.out.at_ hlt
      have hsome := HALL.out (ks[k]) (by rw [← HKS.out]; exact List.getElem_mem hlt)
      have hlk := HST.out.fs.look2 Try.underlying40 Try.underlying9 zero9 ks[k]
      rw [hsome] at hlk
      clear hsome
      go_wp2_with fail
      exact ⟨⟨k + 1, hlt, rfl, by go_num, trivial⟩, by simp [intOf]; omega⟩
    · have hnot : decide (k < ks.length) = false := by simp; omega
      go_wp2_with fail
      go_ret2
      exact ⟨rfl, HB1.out⟩
end Go.Proofs.Ytnfbakldpjmbnaa
