/- trash, takes, may; some. -/
import Derived.Test.YthaekoeekpofpaaC
namespace Go.Proofs.Ythaekoeekpofpaa
open Go.RowKit
attribute [local go_sem] bs_size bs_getElem bs_list bs_append

theorem trash_st (w : World) : Calls Try.prog 31 #[] w fun e w' => e = .returned (.agg #[.int .i64 0, .int .i64 1]) ∧ Below w.heap.size w w' := by
  have HB := Lib.hid ((Below.refl w.heap.size w).alloc (Nat.le_refl _) (.cells #[.int .i64 0, .int .i64 1] 30))
  go_enter Try.func31, Try.ntmps31
  go_wp2_with fail
  exact bodyPost_ret (v := .agg #[.int .i64 0, .int .i64 1]) (by simp [results, Try.results31, go_sem]) rfl ⟨rfl, HB.out⟩
theorem rtrash_st (w : World) : Calls Try.prog 37 #[] w fun e w' => e = .returned (.agg #[.int .i64 0, .int .i64 1]) ∧ Below w.heap.size w w' := by
  have HB := Lib.hid ((Below.refl w.heap.size w).alloc (Nat.le_refl _) (.cells #[.int .i64 0, .int .i64 1] 30))
  go_enter Try.func37, Try.ntmps37
  go_wp2_with fail
  exact bodyPost_ret (v := .agg #[.int .i64 0, .int .i64 1]) (by simp [results, Try.results37, go_sem]) rfl ⟨rfl, HB.out⟩

/-- may nodes stand below a stamp? -/
def takesB (s : St) (xs : List Nd) : Bool := decide (s = (0, 0)) || hasN s xs && (findN s xs).dir

set_option maxRecDepth 100000 in
set_option maxHeartbeats 1600000 in
theorem takes_any (s : St) (A : Option Addr) (n c : Nat) (xs : List Nd) (w : World) (hx : Nds w A n c xs) :
    Calls Try.prog 30 #[.slice A n c, sv s] w fun e w' => e = .returned (.bool (takesB s xs)) ∧ Below w.heap.size w w' := by
  have hb1 : Below w.heap.size w (w.alloc (.cells #[.int .i64 s.1, .int .i64 s.2] 30)) := (Below.refl _ w).alloc (Nat.le_refl _) _
  have hB := Blk.new w 30 #[.int .i64 s.1, .int .i64 s.2]
  have q0 := hB.cell 0
  have q1 := hB.cell 1
  simp only [List.getElem?_toArray, List.getElem?_cons_zero, List.getElem?_cons_succ] at q0 q1
  have hx1 := hx.below hb1
  have hz := run_eql_st s (0, 0)
  obtain ⟨w1, hw1⟩ : ∃ w1, w1 = w.alloc (.cells #[.int .i64 s.1, .int .i64 s.2] 30) := ⟨_, rfl⟩
  rw [← hw1] at hb1 hx1 q0 q1
  have HW := Lib.hid hw1
  have HB := Lib.hid hb1
  have HF := Lib.hid (find_any s A n c xs w1 hx1)
  clear hw1 hx1 hb1 hB hx
  unfold takesB
  unfold sv nv at *
  by_cases h0 : s = (0, 0)
  · have hd : decide (s = (0, 0)) = true := decide_eq_true h0
    rw [hd, Bool.true_or]
    clear h0
    simp only [hd] at hz
    go_enter Try.func30, Try.ntmps30
    go_wp2_with fail
    rw [← HW.out]
    go_wp2_with fail
    go_ret
    exact ⟨rfl, HB.out⟩
  · have hd : decide (s = (0, 0)) = false := decide_eq_false h0
    rw [hd, Bool.false_or]
    clear h0
    simp only [hd] at hz
    generalize findN s xs = y at *
    go_enter Try.func30, Try.ntmps30
    go_wp2_with fail
    rw [← HW.out]
    go_wp2_with fail
    refine HF.out.mono ?_
    rintro e w2 ⟨rfl, hb2⟩
    have hb3 := HB.out.trans (hb2.mono HB.out.size)
    have hb4 := Lib.hid (hb3.alloc hb3.size (.cells (nc y).toArray 37))
    have g2 := (Blk.new w2 37 (nc y).toArray).cell 2
    unfold nc at g2 hb4
    simp only [List.getElem?_toArray, List.getElem?_cons_zero, List.getElem?_cons_succ] at g2
    clear hb2 hb3
    cases hh : hasN s xs with
    | true =>
      go_wp2_with fail
      go_ret
      exact ⟨by simp [hh], hb4.out⟩
    | false =>
      go_wp2_with fail
      go_ret
      exact ⟨by simp [hh], hb4.out⟩

set_option maxRecDepth 100000 in
set_option maxHeartbeats 1600000 in
theorem may_any (s : St) (A : Option Addr) (n c : Nat) (xs : List Nd) (w : World) (hx : Nds w A n c xs) :
    Calls Try.prog 36 #[.slice A n c, sv s] w fun e w' => e = .returned (.bool (takesB s xs)) ∧ Below w.heap.size w w' := by
  have hb1 : Below w.heap.size w (w.alloc (.cells #[.int .i64 s.1, .int .i64 s.2] 30)) := (Below.refl _ w).alloc (Nat.le_refl _) _
  have hB := Blk.new w 30 #[.int .i64 s.1, .int .i64 s.2]
  have hx1 := hx.below hb1
  have hz := run_eql_st s (0, 0)
  obtain ⟨w1, hw1⟩ : ∃ w1, w1 = w.alloc (.cells #[.int .i64 s.1, .int .i64 s.2] 30) := ⟨_, rfl⟩
  rw [← hw1] at hb1 hx1 hB
  have HW := Lib.hid hw1
  have HB := Lib.hid hb1
  have HBk := Lib.hid hB
  have HF := Lib.hid (rfind_any s A n c xs w1 hx1)
  have q0 := hB.cell 0
  have q1 := hB.cell 1
  simp only [List.getElem?_toArray, List.getElem?_cons_zero, List.getElem?_cons_succ] at q0 q1
  clear hw1 hx1 hb1 hB hx
  unfold takesB
  unfold sv nv at *
  generalize findN s xs = y at *
  cases hd : decide (s = (0, 0)) <;> cases hh : hasN s xs
  all_goals (
    simp only [hd] at hz
    rw [hh] at HF
    clear hd hh
    go_enter Try.func36, Try.ntmps36
    go_wp2_with fail
    rw [← HW.out]
    go_wp2_with fail
    refine HF.out.mono ?_
    rintro e w2 ⟨rfl, hb2⟩
    have hb3 := HB.out.trans (hb2.mono HB.out.size)
    have hb4 := Lib.hid (hb3.alloc hb3.size (.cells (nc y).toArray 37))
    have g2 := (Blk.new w2 37 (nc y).toArray).cell 2
    have hB2 := Blk.below HBk.out hb2 (Blk.lt HBk.out)
    have q0 := cell?_alloc_old (hB2.cell 0) (.cells (nc y).toArray 37)
    have q1 := cell?_alloc_old (hB2.cell 1) (.cells (nc y).toArray 37)
    unfold nc at g2 hb4 q0 q1
    simp only [List.getElem?_toArray, List.getElem?_cons_zero, List.getElem?_cons_succ] at g2 q0 q1
    clear hb2 hb3 hB2
    go_wp2_with fail
    go_ret
    exact ⟨by simp, hb4.out⟩)
end Go.Proofs.Ythaekoeekpofpaa
