/- The walks of the two writers of texts, of awake, and of the laws on numbers, texts, a nil reader. -/
import Derived.Test.YtabdgomlcaglbaaD
import Derived.Test.YtabdgomlcaglbaaE
namespace Go.Proofs.Ytabdgomlcaglbaa
open Go.RowKit
attribute [local go_sem] bs_size bs_getElem bs_list bs_append

theorem numU_len (u : Nat) : (numU u).length ≤ 9 := by
  have := digs_len u
  simp [numU]; omega

set_option maxHeartbeats 400000 in
theorem text_c (s : List UInt8) (w : World) (hs : s.length ≤ 4611686018427387904) :
    Calls Try.prog 12 #[.string (bs s)] w fun e' w' => e' = .returned (.string (bs (textL s))) ∧ Below w.heap.size w w' := by
  have hln : (numL (s.length : Int)).length ≤ 9 := numU_len _
  go_enter Try.func12, Try.ntmps12
  go_wp2_with fail
  refine (num_c s.length _ (by omega)).mono ?_
  rintro e w1 ⟨rfl, hb1⟩
  go_wp2_with fail
  go_ret
  exact ⟨rfl, hb1⟩

set_option maxHeartbeats 400000 in
theorem text_r (s : List UInt8) (w : World) (hs : s.length ≤ 4611686018427387904) :
    Calls Try.prog 13 #[.string (bs s)] w fun e' w' => e' = .returned (.string (bs (textL s))) ∧ Below w.heap.size w w' := by
  have hln : (numL (s.length : Int)).length ≤ 9 := numU_len _
  go_enter Try.func13, Try.ntmps13
  go_wp2_with fail
  refine (num_r s.length _ (by omega)).mono ?_
  rintro e w1 ⟨rfl, hb1⟩
  go_wp2_with fail
  go_ret
  exact ⟨rfl, hb1⟩

theorem Rd.below {w w' : World} {g : Nat} {d : List UInt8} {a : Nat} {e : Int} (h : Rd w g d a e) (hb : Below w.heap.size w w') : Rd w' g d a e := Blk.below h hb (Blk.lt h)
theorem Rd.far {w w' : World} {g g' : Nat} {d : List UInt8} {a : Nat} {e : Int} (h : Rd w g d a e) (hb : w.grownBy w' (some g')) (hne : g ≠ g') : Rd w' g d a e := Blk.grown h hb (by intro e; cases e; exact hne rfl)
theorem Rr.below {w w' : World} {g : Nat} {d : List UInt8} {e : Int} (h : Rr w g d e) (hb : Below w.heap.size w w') : Rr w' g d e := Blk.below h hb (Blk.lt h)
theorem Rr.far {w w' : World} {g g' : Nat} {d : List UInt8} {e : Int} (h : Rr w g d e) (hb : w.grownBy w' (some g')) (hne : g ≠ g') : Rr w' g d e := Blk.grown h hb (by intro e; cases e; exact hne rfl)

set_option maxHeartbeats 1000000 in
theorem awake_any (w : World) : Calls Try.prog 11 #[] w fun e' w' => e' = .returned (.bool true) ∧ Below w.heap.size w w' := by
  go_enter Try.func11, Try.ntmps11
  go_wp2_with fail
  refine (Read_any [2, 0, 1] _).mono ?_
  rintro e w1 ⟨rfl, hA1, hb1⟩
  have hl1 := hA1.lt
  go_wp2_with fail
  refine (Read_any [9] _).mono ?_
  rintro e w2 ⟨rfl, hB2, hb2⟩
  have hA2 := hA1.below hb2
  have hl2 := hB2.lt
  have hb2' := hb1.trans (hb2.mono hb1.size)
  clear hA1
  go_wp2_with fail
  refine (Read_any [2, 1] _).mono ?_
  rintro e w3 ⟨rfl, hC3, hb3⟩
  have hA3 := hA2.below hb3
  have hB3 := hB2.below hb3
  have hb3' := hb2'.trans (hb3.mono hb2'.size)
  clear hA2 hB2 hb2 hb3 hb1 hb2'
  generalize hga : w.heap.size = ga at *
  generalize hgb : w1.heap.size = gb at *
  generalize hgc : w2.heap.size = gc at *
  have HG := Lib.hid hga
  clear hga hgb hgc
  go_wp2_with fail
  refine (Num_any _ _ 0 0 _ hA3 (by decide) (by decide)).mono ?_
  rintro e w4 ⟨rfl, hA4, hg4⟩
  have hA4 : Rd w4 ga [2, 0, 1] 3 11 := hA4
  have hB4 := hB3.far hg4 (by omega)
  have hC4 := hC3.far hg4 (by omega)
  have hb4 := below_gb hb3' hg4 (Nat.le_refl _) (by have := hb3'.size; have := hC3.lt; omega)
  clear hA3 hB3 hC3 hg4
  go_wp2_with fail
  refine (Num_any _ _ 0 0 _ hB4 (by decide) (by decide)).mono ?_
  rintro e w5 ⟨rfl, hB5, hg5⟩
  have hB5 : Rd w5 gb [9] 1 11 := hB5
  have hA5 := hA4.far hg5 (by omega)
  have hC5 := hC4.far hg5 (by omega)
  have hb5 := below_gb hb4 hg5 (by omega) (by have := hC4.lt; omega)
  clear hA4 hB4 hC4 hg5
  go_wp2_with fail
  refine (Num_any _ _ 0 0 _ hC5 (by decide) (by decide)).mono ?_
  rintro e w6 ⟨rfl, hC6, hg6⟩
  have hC6 : Rd w6 gc [2, 1] 1 10 := hC6
  have hA6 := hA5.far hg6 (by omega)
  have hB6 := hB5.far hg6 (by omega)
  have hb6 := below_gb hb5 hg6 (by omega) (by have := hC5.lt; omega)
  clear hA5 hB5 hC5 hg6
  have hga6 : ga ≤ w6.heap.size := by have := hA6.lt; omega
  go_wp2_with fail
  refine (num_c 0 _ (by decide)).mono ?_
  rintro e w7 ⟨rfl, hb7⟩
  rw [show numL 0 = [0] from by decide]
  have hA7 := hA6.below hb7
  have hB7 := hB6.below hb7
  have hC7 := hC6.below hb7
  have hB7' := hb6.trans (hb7.mono hga6)
  have hga7 := Nat.le_trans hga6 hb7.size
  clear hA6 hB6 hC6 hb7 hga6
  go_wp2_with fail
  refine (num_c 258 _ (by decide)).mono ?_
  rintro e w8 ⟨rfl, hb8⟩
  rw [show numL 258 = [2, 1, 2] from by decide]
  have hA8 := hA7.below hb8
  have hB8 := hB7.below hb8
  have hC8 := hC7.below hb8
  have hB8' := hB7'.trans (hb8.mono hga7)
  have hga8 := Nat.le_trans hga7 hb8.size
  clear hA7 hB7 hC7 hb8 hga7 hB7'
  go_wp2_with fail
  refine (num_c (-1) _ (by decide)).mono ?_
  rintro e w9 ⟨rfl, hb9⟩
  rw [show numL (-1) = [8, 255, 255, 255, 255, 255, 255, 255, 255] from by decide]
  have hA9 := hA8.below hb9
  have hB9 := hB8.below hb9
  have hC9 := hC8.below hb9
  have hB9' := hB8'.trans (hb9.mono hga8)
  have hga9 := Nat.le_trans hga8 hb9.size
  clear hA8 hB8 hC8 hb9 hga8 hB8'
  go_wp2_with fail
  refine (text_c [97, 98] _ (by decide)).mono ?_
  rintro e w10 ⟨rfl, hb10⟩
  rw [show textL [97, 98] = [1, 2, 97, 98] from by decide]
  have hA10 := hA9.below hb10
  have hB10 := hB9.below hb10
  have hC10 := hC9.below hb10
  have hB10' := hB9'.trans (hb10.mono hga9)
  have hga10 := Nat.le_trans hga9 hb10.size
  clear hA9 hB9 hC9 hb10 hga9 hB9'
  go_wp2_with fail
  refine (End_any _ _ _ _ _ hA10 (by decide) (by decide)).mono ?_
  rintro e w11 ⟨rfl, hb11⟩
  rw [show endS [2, 0, 1] 3 11 = 11 from by decide]
  have hA11 := hA10.below hb11
  have hB11 := hB10.below hb11
  have hC11 := hC10.below hb11
  have hB11' := hB10'.trans (hb11.mono hga10)
  have hga11 := Nat.le_trans hga10 hb11.size
  clear hA10 hB10 hC10 hb11 hga10 hB10'
  go_wp2_with fail
  refine (End_any _ _ _ _ _ hB11 (by decide) (by decide)).mono ?_
  rintro e w12 ⟨rfl, hb12⟩
  rw [show endS [9] 1 11 = 11 from by decide]
  have hA12 := hA11.below hb12
  have hB12 := hB11.below hb12
  have hC12 := hC11.below hb12
  have hB12' := hB11'.trans (hb12.mono hga11)
  have hga12 := Nat.le_trans hga11 hb12.size
  clear hA11 hB11 hC11 hb12 hga11 hB11'
  go_wp2_with fail
  refine (End_any _ _ _ _ _ hC12 (by decide) (by decide)).mono ?_
  rintro e w13 ⟨rfl, hb13⟩
  rw [show endS [2, 1] 1 10 = 10 from by decide]
  have hA13 := hA12.below hb13
  have hB13 := hB12.below hb13
  have hC13 := hC12.below hb13
  have hB13' := hB12'.trans (hb13.mono hga12)
  have hga13 := Nat.le_trans hga12 hb13.size
  clear hA12 hB12 hC12 hb13 hga12 hB12'
  go_wp2_with fail
  go_ret
  exact ⟨rfl, by rw [HG.out]; exact hB13'⟩

set_option maxHeartbeats 400000 in
theorem law_num (n : Int) (w : World) (hn : -9223372036854775808 ≤ n ∧ n ≤ 9223372036854775807) :
    Calls Try.prog 3 #[.int .i64 n] w fun e' w' => e' = .returned (.bool true) ∧ Below w.heap.size w w' := by
  go_enter Try.func3, Try.ntmps3
  go_wp2_with fail
  refine (num_c n _ hn).mono ?_
  rintro e w1 ⟨rfl, hb1⟩
  go_wp2_with fail
  refine (num_r n _ hn).mono ?_
  rintro e w2 ⟨rfl, hb2⟩
  have hB2 := hb1.trans (hb2.mono hb1.size)
  go_wp2_with fail
  refine (awake_any _).mono ?_
  rintro e w3 ⟨rfl, hb3⟩
  go_wp2_with fail
  go_ret
  exact ⟨rfl, hB2.trans (hb3.mono hB2.size)⟩

set_option maxHeartbeats 400000 in
theorem law_text (s : List UInt8) (w : World) (hs : s.length ≤ 9223372036854775807) :
    Calls Try.prog 4 #[.string (bs s)] w fun e' w' => e' = .returned (.bool true) ∧ Below w.heap.size w w' := by
  by_cases h : 100000 < s.length
  · go_enter Try.func4, Try.ntmps4
    go_wp2_with fail
    refine (awake_any _).mono ?_
    rintro e w3 ⟨rfl, hb3⟩
    go_wp2_with fail
    go_ret
    exact ⟨rfl, hb3⟩
  · go_enter Try.func4, Try.ntmps4
    go_wp2_with fail
    refine (text_c s _ (by omega)).mono ?_
    rintro e w1 ⟨rfl, hb1⟩
    go_wp2_with fail
    refine (text_r s _ (by omega)).mono ?_
    rintro e w2 ⟨rfl, hb2⟩
    have hB2 := hb1.trans (hb2.mono hb1.size)
    go_wp2_with fail
    refine (awake_any _).mono ?_
    rintro e w3 ⟨rfl, hb3⟩
    go_wp2_with fail
    go_ret
    exact ⟨rfl, hB2.trans (hb3.mono hB2.size)⟩

set_option maxHeartbeats 400000 in
theorem law_nil (n : Int) (w : World) (hn : -9223372036854775808 ≤ n ∧ n ≤ 9223372036854775807) :
    Calls Try.prog 8 #[.int .i64 n] w fun e' w' => e' = .returned (.bool true) ∧ Below w.heap.size w w' := by
  have hem : (numL n).isEmpty = false := rfl
  go_enter Try.func8, Try.ntmps8
  go_wp2_with fail
  refine (Num_nil _).mono ?_
  rintro e w' ⟨rfl, rfl⟩
  go_wp2_with fail
  refine (Text_nil _).mono ?_
  rintro e w' ⟨rfl, rfl⟩
  go_wp2_with fail
  refine (Err_nil _).mono ?_
  rintro e w' ⟨rfl, rfl⟩
  go_wp2_with fail
  refine (End_nil _).mono ?_
  rintro e w' ⟨rfl, rfl⟩
  go_wp2_with fail
  refine (num_c n _ hn).mono ?_
  rintro e w1 ⟨rfl, hb1⟩
  go_wp2_with fail
  refine (awake_any _).mono ?_
  rintro e w3 ⟨rfl, hb3⟩
  go_wp2_with fail
  go_ret
  exact ⟨rfl, hb1.trans (hb3.mono hb1.size)⟩

end Go.Proofs.Ytabdgomlcaglbaa
