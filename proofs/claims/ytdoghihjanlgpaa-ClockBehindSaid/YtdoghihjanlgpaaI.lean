/- The walks of the laws on lists of stamps and on vectors. -/
import Derived.Test.YtdoghihjanlgpaaH
namespace Go.Proofs.Ytdoghihjanlgpaa
open Go.RowKit

theorem long_few {xs : List (List Int)} (h : fewB xs = true) : longL xs ≤ 1000000 := by
  unfold fewB at h
  rw [Bool.and_eq_true] at h
  have h2 := List.all_eq_true.1 h.2
  have H : ∀ (l : List (List Int)) (m : Nat), (∀ x ∈ l, x.length ≤ 1000) → m ≤ 1000 → l.foldl (fun m x => max m x.length) m ≤ 1000 := by
    intro l
    induction l with
    | nil => intro m _ h; exact h
    | cons a l ih =>
      intro m hl hm
      have := hl a (by simp)
      exact ih _ (fun x hx => hl x (by simp [hx])) (by simp only []; omega)
  have := H xs 0 (fun x hx => by simpa using h2 x hx) (by omega)
  unfold longL
  omega
theorem maxC_ge (xs : List (Int × Int)) : ∀ x ∈ xs, x.1 ≤ maxC xs := by
  have H : ∀ (l : List (Int × Int)) (m : Int), m ≤ l.foldl (fun m x => max m x.1) m ∧ ∀ x ∈ l, x.1 ≤ l.foldl (fun m x => max m x.1) m := by
    intro l
    induction l with
    | nil => intro m; exact ⟨Int.le_refl _, fun x hx => absurd hx (by simp)⟩
    | cons a l ih =>
      intro m
      obtain ⟨h1, h2⟩ := ih (max m a.1)
      refine ⟨by simp only [List.foldl_cons]; omega, fun x hx => ?_⟩
      rcases List.mem_cons.1 hx with rfl | hx
      · simp only [List.foldl_cons]; omega
      · exact h2 x hx
  exact (H xs 0).2

set_option maxHeartbeats 1000000 in
theorem law_next (who : Int) (A : Option Addr) (n c : Nat) (xs : List (Int × Int)) (w : World) (hx : Sl w 2 StampC A n c xs) :
    Calls Try.prog 3 #[.int .i64 who, .slice A n c] w fun e w' => e = .returned (.bool true) ∧ Below w.heap.size w w' := by
  have hcap := And.intro hx.le hx.max
  by_cases h : 1000 < n
  · go_enter Try.func3, Try.ntmps3
    go_wp2_with fail
    refine (awake_any _).mono ?_
    rintro e w' ⟨rfl, hb⟩
    go_wp2_with fail
    go_ret
    exact ⟨rfl, hb⟩
  have q1 := fun w => run_eql_stamp (nextR who xs).1 (nextR who xs).2.1 (nextR who xs).1 (nextR who xs).2.1 w
  simp only [and_self, decide_true] at q1
  go_enter Try.func3, Try.ntmps3
  go_wp2_with fail
  refine (next_any who _ _ _ xs _ hx).mono ?_
  rintro e w1 ⟨rfl, hb1⟩
  unfold nextV
  go_wp2_with fail
  refine (rnext_any who _ _ _ xs _ (hx.below (hb1.trans ((Below.refl _ _).alloc (by exact hb1.size) _)))).mono ?_
  rintro e w2 ⟨rfl, hb2⟩
  have hBk : Blk w2 w1.heap.size 25 #[.int .i64 (nextR who xs).1, .int .i64 (nextR who xs).2.1] := (Blk.new w1 25 _).below hb2 (by simp)
  have hB2 : Below w.heap.size w w2 := (hb1.alloc hb1.size _).trans (hb2.mono (by have := hb1.size; simp; omega))
  have d1 := hBk.cell 0
  have d2 := hBk.cell 1
  simp at d1 d2
  have hlt := hBk.lt
  unfold nextV
  go_wp2_with fail
  refine (awake_any _).mono ?_
  rintro e w3 ⟨rfl, hb3⟩
  go_wp2_with fail
  go_ret
  exact ⟨rfl, (hB2.alloc hB2.size _).trans (hb3.mono (by have := hB2.size; simp; omega))⟩

set_option maxHeartbeats 1000000 in
theorem law_joins (A : Option Addr) (n c : Nat) (xs : List (List Int)) (w : World) (hx : Rws w A n c xs) :
    Calls Try.prog 4 #[.slice A n c] w fun e w' => e = .returned (.bool true) ∧ Below w.heap.size w w' := by
  by_cases h : fewB xs = true
  · have hm : longL xs ≤ 1000000 := long_few h
    go_enter Try.func4, Try.ntmps4
    go_wp2_with fail
    refine (few_any _ _ _ xs _ hx).mono ?_
    rintro e w' ⟨rfl, rfl⟩
    rw [h]
    clear h
    go_wp2_with fail
    refine (join_any _ _ _ xs _ hx hm).mono ?_
    rintro e w1 ⟨a, l, c', rfl, hs, hb⟩
    go_wp2_with fail
    refine (rjoin_any _ _ _ xs _ (hx.below hb) hm).mono ?_
    rintro e w2 ⟨a2, l2, c2', rfl, hs2, hb2⟩
    have hB := hb.trans (hb2.mono hb.size)
    go_wp2_with fail
    refine (same_any _ _ _ _ _ _ _ _ _ (hs.below hb2) hs2).mono ?_
    rintro e w3 ⟨rfl, hb3⟩
    rw [show sameB (joinL xs) (joinL xs) = true from by simp [sameB]]
    have hB3 := hB.trans (hb3.mono hB.size)
    go_wp2_with fail
    refine (awake_any _).mono ?_
    rintro e w4 ⟨rfl, hb4⟩
    go_wp2_with fail
    go_ret
    exact ⟨rfl, hB3.trans (hb4.mono hB3.size)⟩
  · have h' : fewB xs = false := by simpa using h
    go_enter Try.func4, Try.ntmps4
    go_wp2_with fail
    refine (few_any _ _ _ xs _ hx).mono ?_
    rintro e w' ⟨rfl, rfl⟩
    rw [h']
    clear h h'
    go_wp2_with fail
    refine (awake_any _).mono ?_
    rintro e w4 ⟨rfl, hb4⟩
    go_wp2_with fail
    go_ret
    exact ⟨rfl, hb4⟩

set_option maxHeartbeats 1000000 in
theorem law_meets (A : Option Addr) (n c : Nat) (xs : List (List Int)) (w : World) (hx : Rws w A n c xs) :
    Calls Try.prog 5 #[.slice A n c] w fun e w' => e = .returned (.bool true) ∧ Below w.heap.size w w' := by
  by_cases h : fewB xs = true
  · have hm : longL xs ≤ 1000000 := long_few h
    go_enter Try.func5, Try.ntmps5
    go_wp2_with fail
    refine (few_any _ _ _ xs _ hx).mono ?_
    rintro e w' ⟨rfl, rfl⟩
    rw [h]
    clear h
    go_wp2_with fail
    refine (meet_any _ _ _ xs _ hx hm).mono ?_
    rintro e w1 ⟨a, l, c', rfl, hs, hb⟩
    go_wp2_with fail
    refine (rmeet_any _ _ _ xs _ (hx.below hb) hm).mono ?_
    rintro e w2 ⟨a2, l2, c2', rfl, hs2, hb2⟩
    have hB := hb.trans (hb2.mono hb.size)
    go_wp2_with fail
    refine (same_any _ _ _ _ _ _ _ _ _ (hs.below hb2) hs2).mono ?_
    rintro e w3 ⟨rfl, hb3⟩
    rw [show sameB (meetL xs) (meetL xs) = true from by simp [sameB]]
    have hB3 := hB.trans (hb3.mono hB.size)
    go_wp2_with fail
    refine (awake_any _).mono ?_
    rintro e w4 ⟨rfl, hb4⟩
    go_wp2_with fail
    go_ret
    exact ⟨rfl, hB3.trans (hb4.mono hB3.size)⟩
  · have h' : fewB xs = false := by simpa using h
    go_enter Try.func5, Try.ntmps5
    go_wp2_with fail
    refine (few_any _ _ _ xs _ hx).mono ?_
    rintro e w' ⟨rfl, rfl⟩
    rw [h']
    clear h h'
    go_wp2_with fail
    refine (awake_any _).mono ?_
    rintro e w4 ⟨rfl, hb4⟩
    go_wp2_with fail
    go_ret
    exact ⟨rfl, hb4⟩

set_option maxHeartbeats 1000000 in
theorem law_covers (A1 : Option Addr) (n1 c1 : Nat) (xs : List Int) (A2 : Option Addr) (n2 c2 : Nat) (ys : List Int) (w : World) (hx : Sl w 1 IntC A1 n1 c1 xs) (hy : Sl w 1 IntC A2 n2 c2 ys) :
    Calls Try.prog 6 #[.slice A1 n1 c1, .slice A2 n2 c2] w fun e w' => e = .returned (.bool true) ∧ Below w.heap.size w w' := by
  have hbw : Below w.heap.size w (w.alloc (.cells #[.slice A1 n1 c1, .slice A2 n2 c2] 34)) := (Below.refl _ _).alloc (Nat.le_refl _) _
  go_enter Try.func6, Try.ntmps6
  go_wp2_with fail
  refine (few_any _ _ _ [xs, ys] _ (rows_blk2 (hx.below hbw) (hy.below hbw) (Blk.new _ _ _))).mono ?_
  rintro e w' ⟨rfl, rfl⟩
  by_cases h : fewB [xs, ys] = true
  · rw [h]
    clear h
    go_wp2_with fail
    refine (covers_any _ _ _ xs _ _ _ ys _ (hx.below hbw) (hy.below hbw)).mono ?_
    rintro e w' ⟨rfl, rfl⟩
    go_wp2_with fail
    refine (rcovers_any _ _ _ xs _ _ _ ys _ (hx.below hbw) (hy.below hbw)).mono ?_
    rintro e w' ⟨rfl, rfl⟩
    go_wp2_with fail
    refine (awake_any _).mono ?_
    rintro e w4 ⟨rfl, hb4⟩
    go_wp2_with fail
    go_ret
    exact ⟨rfl, hbw.trans (hb4.mono (by simp))⟩
  · have h' : fewB [xs, ys] = false := by simpa using h
    rw [h']
    clear h h'
    go_wp2_with fail
    refine (awake_any _).mono ?_
    rintro e w4 ⟨rfl, hb4⟩
    go_wp2_with fail
    go_ret
    exact ⟨rfl, hbw.trans (hb4.mono (by simp))⟩

set_option maxHeartbeats 1000000 in
theorem law_behind (who : Int) (A : Option Addr) (n c : Nat) (xs : List (Int × Int)) (w : World) (hx : Sl w 2 StampC A n c xs) :
    Calls Try.prog 11 #[.int .i64 who, .slice A n c] w fun e w' => e = .returned (.bool true) ∧ Below w.heap.size w w' := by
  have hcap := And.intro hx.le hx.max
  by_cases h : 1000 < n
  · go_enter Try.func11, Try.ntmps11
    go_wp2_with fail
    refine (awake_any _).mono ?_
    rintro e w' ⟨rfl, hb⟩
    go_wp2_with fail
    go_ret
    exact ⟨rfl, hb⟩
  by_cases h1 : who < 0 ∨ 15 ≤ who
  · have e1 : nextV who xs = .tuple #[.agg #[.int .i64 0, .int .i64 0], .int .i64 1] := by simp [nextV, nextR, h1]
    go_enter Try.func11, Try.ntmps11
    go_wp2_with fail
    refine (next_any who _ _ _ xs _ hx).mono ?_
    rintro e w1 ⟨rfl, hb1⟩
    rw [e1]
    clear e1
    go_wp2_with fail
    refine (awake_any _).mono ?_
    rintro e w3 ⟨rfl, hb3⟩
    go_wp2_with fail
    go_ret
    exact ⟨rfl, (hb1.alloc hb1.size _).trans (hb3.mono (by have := hb1.size; simp; omega))⟩
  by_cases h2 : 1099511627776 ≤ maxC xs
  · have e1 : nextV who xs = .tuple #[.agg #[.int .i64 0, .int .i64 0], .int .i64 21] := by simp [nextV, nextR, h1, h2]
    go_enter Try.func11, Try.ntmps11
    go_wp2_with fail
    refine (next_any who _ _ _ xs _ hx).mono ?_
    rintro e w1 ⟨rfl, hb1⟩
    rw [e1]
    clear e1
    go_wp2_with fail
    refine (awake_any _).mono ?_
    rintro e w3 ⟨rfl, hb3⟩
    go_wp2_with fail
    go_ret
    exact ⟨rfl, (hb1.alloc hb1.size _).trans (hb3.mono (by have := hb1.size; simp; omega))⟩
  have e1 : nextV who xs = .tuple #[.agg #[.int .i64 (maxC xs + 1), .int .i64 who], .int .i64 0] := by simp [nextV, nextR, h1, h2]
  have HL := Lib.hid hx.len
  have HM := Lib.hid (maxC_ge xs)
  have hnn := maxC_nonneg xs
  have er : rightE (maxC xs + 1) who = 0 := by unfold rightE; rw [if_neg (by omega)]
  have HR := Lib.hid er
  clear er
  go_enter Try.func11, Try.ntmps11
  go_wp2_with fail
  refine (next_any who _ _ _ xs _ hx).mono ?_
  rintro e w1 ⟨rfl, hb1⟩
  rw [e1]
  clear e1
  go_wp2_with fail
  have hB0 : Below w.heap.size w (w1.alloc (.cells #[.int .i64 (maxC xs + 1), .int .i64 who] 25)) := hb1.alloc hb1.size _
  have hBk := Blk.new w1 25 #[.int .i64 (maxC xs + 1), .int .i64 who]
  generalize hg : w1.heap.size = g at *
  have hgw : w.heap.size ≤ g := by rw [← hg]; exact hb1.size
  clear hb1 hg
  go_loopw [7] (fun i wr => ∃ k : Nat, k ≤ n ∧ i = .int .i64 k ∧ Below w.heap.size w wr ∧ Blk wr g 25 #[.int .i64 (maxC xs + 1), .int .i64 who]) (fun i _ => n - (intOf i).toNat)
  case atStart => exact ⟨0, Nat.zero_le _, rfl, hB0, hBk⟩
  case round =>
    obtain ⟨k, hk, rfl, hB, hBk'⟩ := hrel
    clear hBk hB0
    have d1 := hBk'.cell 0
    have d2 := hBk'.cell 1
    simp at d1 d2
    have hlt0 := hBk'.lt
    by_cases hlt : k < n
    · obtain ⟨b, off, rfl, had, hc1, hc2, hr1, hr2⟩ := (hx.below hB).stamp_at hlt
      have e2 : lessB (nthS xs k).1 (nthS xs k).2 (maxC xs + 1) who = true := by
        have := HM.out (nthS xs k) (by rw [nthS_lt (by rw [HL.out]; exact hlt)]; exact List.getElem_mem _)
        simp [lessB]; omega
      have HE2 := Lib.hid e2
      clear e2
      go_wp2_with fail
      have k1 := fun x : After wr => x.cell hc1
      have k2 := fun x : After wr => x.cell hc2
      have k3 := fun x : After wr => x.cell d1
      have k4 := fun x : After wr => x.cell d2
      refine wp_region_after (by kernel_rfl) (by kernel_rfl) ?_
      repeat (go_big_quiet_step ((go_at_call 23; exact after_call (less_is _ _ _ _ true HE2.out _))))
      refine wpQuiet_nil ?_
      rintro _ ⟨x, rfl⟩
      clear k1 k2 k3 k4
      have hB2 : Below w.heap.size w x.wd := hB.trans (x.below.mono hB.size)
      have hBk2 := hBk'.below x.below hlt0
      generalize x.wd = wx at *
      go_wp2_with fail
      go_roundw
      case rel => exact ⟨k + 1, by omega, by go_num, hB2, hBk2⟩
      case measure => simp [intOf]; omega
    · obtain rfl : k = n := by omega
      go_wp2_with fail
      refine (right_any _ _ _).mono ?_
      rintro e w2 ⟨rfl, hb2⟩
      rw [HR.out]
      have hBk2 := hBk'.below hb2 hlt0
      have d1 := hBk2.cell 0
      have d2 := hBk2.cell 1
      simp at d1 d2
      have hB2 := hB.trans (hb2.mono hB.size)
      go_wp2_with fail
      refine (awake_any _).mono ?_
      rintro e w3 ⟨rfl, hb3⟩
      go_wp2_with fail
      go_ret
      exact ⟨rfl, hB2.trans (hb3.mono hB2.size)⟩
end Go.Proofs.Ytdoghihjanlgpaa
