/- few and some, their answers known ahead. -/
import Derived.Test.YthaekoeekpofpaaX
namespace Go.Proofs.Ythaekoeekpofpaa
open Go.RowKit
attribute [local go_sem] bs_size bs_getElem bs_list bs_append

def some1 (x : Nd) : Bool := !decide (((x.nm.length : Nat) : Int) > 200) && !decide (((x.mf.length : Nat) : Int) > 1000)
def someB (xs : List Nd) : Bool := decide (xs.length ≤ 150) && xs.all some1
theorem someB_le {xs : List Nd} (h : someB xs = true) : xs.length ≤ 150 := by
  unfold someB at h
  rw [Bool.and_eq_true] at h
  exact of_decide_eq_true h.1
def few1 (x : TOp) : Bool := !decide (((x.nm.length : Nat) : Int) > 200) && !decide (((x.mf.length : Nat) : Int) > 1000)
def fewB (xs : List TOp) : Bool := decide (xs.length ≤ 150) && xs.all few1
theorem fewB_le {xs : List TOp} (h : fewB xs = true) : xs.length ≤ 150 := by
  unfold fewB at h
  rw [Bool.and_eq_true] at h
  exact of_decide_eq_true h.1

set_option maxRecDepth 100000 in
set_option maxHeartbeats 1600000 in
theorem some_is (A : Option Addr) (n c : Nat) (xs : List Nd) (w : World) (hx : Nds w A n c xs) :
    Calls Try.prog 16 #[.slice A n c] w fun e w' => e = .returned (.bool (someB xs)) ∧ Below w.heap.size w w' := by
  have hn := hx.len
  have hmx := hx.max
  have hle := hx.le
  by_cases h150 : (n : Int) > 150
  · have hd : decide ((n : Int) > 150) = true := decide_eq_true h150
    have hB : someB xs = false := by unfold someB; rw [decide_eq_false (by omega)]; rfl
    rw [hB]
    clear h150 hx hB
    go_enter Try.func16, Try.ntmps16
    go_wp2_with fail
    go_ret
    exact ⟨rfl, Below.refl _ _⟩
  have hd : decide ((n : Int) > 150) = false := decide_eq_false h150
  have hB : someB xs = xs.all some1 := by unfold someB; rw [decide_eq_true (by omega)]; simp
  rw [hB]
  have HX := Lib.hid hx
  clear hx h150 hB
  go_enter Try.func16, Try.ntmps16
  go_wp2_with fail
  go_loopw [3] (fun i wr => ∃ k : Nat, k ≤ n ∧ i = .int .i64 k ∧ Below w.heap.size w wr ∧ RowKit.Hid (∀ j (hj : j < xs.length), j < k → some1 xs[j] = true)) (fun i _ => n - (intOf i).toNat)
  case atStart => exact ⟨0, by omega, rfl, Below.refl _ _, Lib.hid (fun j hj h => by omega)⟩
  case round =>
    obtain ⟨k, hk, rfl, hb, hall⟩ := hrel
    rcases Nat.lt_or_ge k n with hlt | hge
    · have hki : (k : Int) < (n : Int) := by omega
      have hkl : k < xs.length := by omega
      obtain ⟨b, off, rfl, hbl, c0, c1, c2, c3, c4, c5, c6, m1, m2⟩ := Nds.at_ (HX.out.below hb) hkl
      have hnext : some1 xs[k] = true → RowKit.Hid (∀ j (hj : j < xs.length), j < k + 1 → some1 xs[j] = true) := fun h => Lib.hid (fun j hj h1 => by
        rcases Nat.lt_or_ge j k with h2 | h2
        · exact hall.out j hj h2
        · obtain rfl : j = k := by omega
          exact h)
      have hstop : some1 xs[k] = false → xs.all some1 = false := fun h => by
        rw [List.all_eq_false]
        exact ⟨xs[k], List.getElem_mem hkl, by rw [h]; decide⟩
      have HNx := Lib.hid hnext
      have HSt := Lib.hid hstop
      clear hnext hstop
      have hx1 : ∃ x, x = xs[k] := ⟨_, rfl⟩
      obtain ⟨x, hx1⟩ := hx1
      rw [← hx1] at c0 c1 c2 c3 c4 c5 c6  m1 m2 HNx HSt
      have hdef : some1 x = (!decide (((x.nm.length : Nat) : Int) > 200) && !decide (((x.mf.length : Nat) : Int) > 1000)) := rfl
      clear hx1
      have HB := Lib.hid hb
      clear hb
      cases e1 : decide (((x.nm.length : Nat) : Int) > 200) <;> cases e2 : decide (((x.mf.length : Nat) : Int) > 1000)
      all_goals (rw [e1, e2] at hdef; have HDef := Lib.hid hdef; clear hdef)
      all_goals go_wp2_with fail
      all_goals first
        | exact ⟨⟨k + 1, by omega, by go_num, HB.out, HNx.out HDef.out⟩, by simp [intOf]; omega⟩
        | (go_ret; exact ⟨by rw [HSt.out HDef.out]; rfl, HB.out⟩)
    · have hkn : ¬ (k : Int) < (n : Int) := by omega
      have hfin : RowKit.Hid (xs.all some1 = true) := Lib.hid (by
        rw [List.all_eq_true]
        intro y hy
        obtain ⟨j, hj, rfl⟩ := List.mem_iff_getElem.1 hy
        exact hall.out j hj (by omega))
      have HB := Lib.hid hb
      clear hb hall
      go_wp2_with fail
      go_ret
      exact ⟨by rw [hfin.out]; rfl, HB.out⟩


set_option maxRecDepth 100000 in
set_option maxHeartbeats 1600000 in
theorem few_is (A : Option Addr) (n c : Nat) (xs : List TOp) (w : World) (hx : Ops w A n c xs) :
    Calls Try.prog 11 #[.slice A n c] w fun e w' => e = .returned (.bool (fewB xs)) ∧ Below w.heap.size w w' := by
  have hn := hx.len
  have hmx := hx.max
  have hle := hx.le
  by_cases h150 : (n : Int) > 150
  · have hd : decide ((n : Int) > 150) = true := decide_eq_true h150
    have hB : fewB xs = false := by unfold fewB; rw [decide_eq_false (by omega)]; rfl
    rw [hB]
    clear h150 hx hB
    go_enter Try.func11, Try.ntmps11
    go_wp2_with fail
    go_ret
    exact ⟨rfl, Below.refl _ _⟩
  have hd : decide ((n : Int) > 150) = false := decide_eq_false h150
  have hB : fewB xs = xs.all few1 := by unfold fewB; rw [decide_eq_true (by omega)]; simp
  rw [hB]
  have HX := Lib.hid hx
  clear hx h150 hB
  go_enter Try.func11, Try.ntmps11
  go_wp2_with fail
  go_loopw [3] (fun i wr => ∃ k : Nat, k ≤ n ∧ i = .int .i64 k ∧ Below w.heap.size w wr ∧ RowKit.Hid (∀ j (hj : j < xs.length), j < k → few1 xs[j] = true)) (fun i _ => n - (intOf i).toNat)
  case atStart => exact ⟨0, by omega, rfl, Below.refl _ _, Lib.hid (fun j hj h => by omega)⟩
  case round =>
    obtain ⟨k, hk, rfl, hb, hall⟩ := hrel
    rcases Nat.lt_or_ge k n with hlt | hge
    · have hki : (k : Int) < (n : Int) := by omega
      have hkl : k < xs.length := by omega
      obtain ⟨b, off, rfl, hbl, c0, c1, c2, c3, c4, c5, c6, c7, c8, c9, c10, m1, m2⟩ := Ops.at_ (HX.out.below hb) hkl
      have hnext : few1 xs[k] = true → RowKit.Hid (∀ j (hj : j < xs.length), j < k + 1 → few1 xs[j] = true) := fun h => Lib.hid (fun j hj h1 => by
        rcases Nat.lt_or_ge j k with h2 | h2
        · exact hall.out j hj h2
        · obtain rfl : j = k := by omega
          exact h)
      have hstop : few1 xs[k] = false → xs.all few1 = false := fun h => by
        rw [List.all_eq_false]
        exact ⟨xs[k], List.getElem_mem hkl, by rw [h]; decide⟩
      have HNx := Lib.hid hnext
      have HSt := Lib.hid hstop
      clear hnext hstop
      have hx1 : ∃ x, x = xs[k] := ⟨_, rfl⟩
      obtain ⟨x, hx1⟩ := hx1
      rw [← hx1] at c0 c1 c2 c3 c4 c5 c6 c7 c8 c9 c10 m1 m2 HNx HSt
      have hdef : few1 x = (!decide (((x.nm.length : Nat) : Int) > 200) && !decide (((x.mf.length : Nat) : Int) > 1000)) := rfl
      clear hx1
      have HB := Lib.hid hb
      clear hb
      cases e1 : decide (((x.nm.length : Nat) : Int) > 200) <;> cases e2 : decide (((x.mf.length : Nat) : Int) > 1000)
      all_goals (rw [e1, e2] at hdef; have HDef := Lib.hid hdef; clear hdef)
      all_goals go_wp2_with fail
      all_goals first
        | exact ⟨⟨k + 1, by omega, by go_num, HB.out, HNx.out HDef.out⟩, by simp [intOf]; omega⟩
        | (go_ret; exact ⟨by rw [HSt.out HDef.out]; rfl, HB.out⟩)
    · have hkn : ¬ (k : Int) < (n : Int) := by omega
      have hfin : RowKit.Hid (xs.all few1 = true) := Lib.hid (by
        rw [List.all_eq_true]
        intro y hy
        obtain ⟨j, hj, rfl⟩ := List.mem_iff_getElem.1 hy
        exact hall.out j hj (by omega))
      have HB := Lib.hid hb
      clear hb hall
      go_wp2_with fail
      go_ret
      exact ⟨by rw [hfin.out]; rfl, HB.out⟩

end Go.Proofs.Ythaekoeekpofpaa
