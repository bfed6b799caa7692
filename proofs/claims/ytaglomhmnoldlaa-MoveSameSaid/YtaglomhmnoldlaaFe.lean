/- few; two lists of operations that are the same. -/
import Derived.Test.YtaglomhmnoldlaaCm
import Derived.Test.YtaglomhmnoldlaaX4
namespace Go.Proofs.Ytaglomhmnoldlaa
open Go.RowKit
attribute [local go_sem] bs_size bs_getElem bs_list bs_append

def fewC (xs : List TOp) : Bool := decide (xs.length ≤ 120) && xs.all few1
theorem fewC_le {xs : List TOp} (h : fewC xs = true) : xs.length ≤ 120 := by
  unfold fewC at h
  rw [Bool.and_eq_true] at h
  exact of_decide_eq_true h.1

set_option maxRecDepth 100000 in
set_option maxHeartbeats 1600000 in
theorem few120_is (A : Option Addr) (n c : Nat) (xs : List TOp) (w : World) (hx : Ops w A n c xs) :
    Calls Try.prog 16 #[.slice A n c] w fun e w' => e = .returned (.bool (fewC xs)) ∧ Below w.heap.size w w' := by
  have hn := hx.len
  have hmx := hx.max
  have hle := hx.le
  by_cases h120 : (n : Int) > 120
  · have hd : decide ((n : Int) > 120) = true := decide_eq_true h120
    have hB : fewC xs = false := by unfold fewC; rw [decide_eq_false (by omega)]; rfl
    rw [hB]
    clear h120 hx hB
    go_enter Try.func16, Try.ntmps16
    go_wp2_with fail
    go_ret
    exact ⟨rfl, Below.refl _ _⟩
  have hd : decide ((n : Int) > 120) = false := decide_eq_false h120
  have hB : fewC xs = xs.all few1 := by unfold fewC; rw [decide_eq_true (by omega)]; simp
  rw [hB]
  have HX := Lib.hid hx
  clear hx h120 hB
  go_enter Try.func16, Try.ntmps16
  go_wp2_with fail
  go_loopw [3] (fun i wr => ∃ k : Nat, k ≤ n ∧ i = .int .i64 k ∧ Below w.heap.size w wr ∧ RowKit.Hid (∀ j (hj : j < xs.length), j < k → few1 xs[j] = true)) (fun i _ => n - (intOf i).toNat)
  case atStart => exact ⟨0, by omega, rfl, Below.refl _ _, Lib.hid (fun j hj h => by omega)⟩
  case round =>
    obtain ⟨k, hk, rfl, hb, hall⟩ := hrel
    rcases Nat.lt_or_ge k n with hlt | hge
    · have hki : (k : Int) < (n : Int) := by omega
      have hkl : k < xs.length := by omega
      obtain ⟨b, off, rfl, hbl, c0, c1, c2, c3, c4, c5, c6, c7, c8, c9, c10, m1, m2⟩ := Ops.at_ (HX.out.below hb) hkl
      have hnext : few1 xs[k] = true → RowKit.Hid (∀ j (hj : j < xs.length), j < k + 1 → few1 xs[j] = true) := fun h => Lib.hid (fun j hj h1 => by
        rcases Nat.lt_or_ge j k with h2 | h2
        · exact hall.out j hj h2
        · obtain rfl : j = k := by omega
          exact h)
      have hstop : few1 xs[k] = false → xs.all few1 = false := fun h => by
        rw [List.all_eq_false]
        exact ⟨xs[k], List.getElem_mem hkl, by rw [h]; decide⟩
      have HNx := Lib.hid hnext
      have HSt := Lib.hid hstop
      clear hnext hstop
      have hx1 : ∃ x, x = xs[k] := ⟨_, rfl⟩
      obtain ⟨x, hx1⟩ := hx1
      rw [← hx1] at c0 c1 c2 c3 c4 c5 c6 c7 c8 c9 c10 m1 m2 HNx HSt
      have hdef : few1 x = (!decide (((x.nm.length : Nat) : Int) > 200) && !decide (((x.mf.length : Nat) : Int) > 1000)) := rfl
      clear hx1
      have HB := Lib.hid hb
      clear hb
      cases e1 : decide (((x.nm.length : Nat) : Int) > 200) <;> cases e2 : decide (((x.mf.length : Nat) : Int) > 1000)
      all_goals (rw [e1, e2] at hdef; have HDef := Lib.hid hdef; clear hdef)
      all_goals go_wp2_with fail
      all_goals first
        | exact ⟨⟨k + 1, by omega, by go_num, HB.out, HNx.out HDef.out⟩, by simp [intOf]; omega⟩
        | (go_ret; exact ⟨by rw [HSt.out HDef.out]; rfl, HB.out⟩)
    · have hkn : ¬ (k : Int) < (n : Int) := by omega
      have hfin : RowKit.Hid (xs.all few1 = true) := Lib.hid (by
        rw [List.all_eq_true]
        intro y hy
        obtain ⟨j, hj, rfl⟩ := List.mem_iff_getElem.1 hy
        exact hall.out j hj (by omega))
      have HB := Lib.hid hb
      clear hb hall
      go_wp2_with fail
      go_ret
      exact ⟨by rw [hfin.out]; rfl, HB.out⟩


theorem run_neq_op (x : TOp) (w : World) : (binOp .neq 31 (ov x) (ov x)).run Try.prog w = .ok (.bool false) w := by
  unfold ov
  simp [go_sem]

set_option maxRecDepth 100000 in
set_option maxHeartbeats 1600000 in
/-- two lists that are the same -/
theorem osame_any (A A2 : Option Addr) (n c c2 : Nat) (xs : List TOp) (w : World) (hx : Ops w A n c xs) (hy : Ops w A2 n c2 xs) :
    Calls Try.prog 18 #[.slice A n c, .slice A2 n c2] w fun e w' => e = .returned (.bool true) ∧ Below w.heap.size w w' := by
  have hn := hx.len
  have hmx := hx.max
  have hle := hx.le
  have hmy := hy.max
  have hley := hy.le
  have HX := Lib.hid hx
  have HY := Lib.hid hy
  clear hx hy
  go_enter Try.func18, Try.ntmps18
  go_wp2_with fail
  go_loopw [5] (fun i wr => ∃ k : Nat, k ≤ n ∧ i = .int .i64 k ∧ Below w.heap.size w wr) (fun i _ => n - (intOf i).toNat)
  case atStart => exact ⟨0, by omega, rfl, Below.refl _ _⟩
  case round =>
    obtain ⟨k, hk, rfl, hb⟩ := hrel
    rcases Nat.lt_or_ge k n with hlt | hge
    · have hki : (k : Int) < (n : Int) := by omega
      obtain ⟨b, off, rfl, hbl, c0, c1, c2, c3, c4, c5, c6, c7, c8, c9, c10, _⟩ := Ops.at_ (HX.out.below hb) (by omega : k < xs.length)
      obtain ⟨b2, off2, rfl, hbl2, d0, d1, d2, d3, d4, d5, d6, d7, d8, d9, d10, _⟩ := Ops.at_ (HY.out.below hb) (by omega : k < xs.length)
      generalize xs[k] = x at *
      have he := run_neq_op x
      unfold ov at he
      have HB := Lib.hid hb
      clear hb
      go_wp2_with fail
      go_quiet (fail)
      have hb5 := Lib.hid (below_drewN HB.out nq)
      go_wp2_with fail
      exact ⟨⟨k + 1, by omega, by go_num, hb5.out⟩, by simp [intOf]; omega⟩
    · have hkn : ¬ (k : Int) < (n : Int) := by omega
      have HB := Lib.hid hb
      clear hb
      go_wp2_with fail
      go_ret
      exact ⟨rfl, HB.out⟩
end Go.Proofs.Ytaglomhmnoldlaa
