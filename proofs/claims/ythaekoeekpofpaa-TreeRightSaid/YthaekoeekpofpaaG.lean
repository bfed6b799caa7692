/- Less of both; Same, stamps, some. -/
import Derived.Test.YthaekoeekpofpaaF2
namespace Go.Proofs.Ythaekoeekpofpaa
open Go.RowKit
attribute [local go_sem] bs_size bs_getElem bs_list bs_append

def lessS (a b : St) : Bool := decide (a.1 < b.1) || (decide (a.1 = b.1) && decide (a.2 < b.2))

set_option maxRecDepth 100000 in
theorem less_any (a b : St) (w : World) : Calls Try.prog 41 #[sv a, sv b] w fun e w' => e = .returned (.bool (lessS a b)) ∧ Below w.heap.size w w' := by
  have hb := ((Below.refl w.heap.size w).alloc (Nat.le_refl _) (.cells #[.int .i64 a.1, .int .i64 a.2] 30)).alloc (by simp) (.cells #[.int .i64 b.1, .int .i64 b.2] 30)
  have HB := Lib.hid hb
  clear hb
  unfold sv
  by_cases h : a.1 = b.1
  · have e : (a.1 == b.1) = true := beq_iff_eq.2 h
    have hf : lessS a b = decide (a.2 < b.2) := by unfold lessS; simp [h]
    rw [hf]
    have e2 : (a.1 != b.1) = false := by simp [h]
    clear h hf
    go_enter Try.func41, Try.ntmps41
    go_wp2_with fail
    go_ret
    exact ⟨rfl, HB.out⟩
  · have e : (a.1 == b.1) = false := beq_eq_false_iff_ne.2 h
    have e2 : (a.1 != b.1) = true := by simp [h]
    have hf : lessS a b = decide (a.1 < b.1) := by unfold lessS; simp [h]
    rw [hf]
    clear h hf
    go_enter Try.func41, Try.ntmps41
    go_wp2_with fail
    go_ret
    exact ⟨rfl, HB.out⟩

set_option maxRecDepth 100000 in
theorem rless_any (a b : St) (w : World) : Calls Try.prog 38 #[sv a, sv b] w fun e w' => e = .returned (.bool (lessS a b)) ∧ Below w.heap.size w w' := by
  have hb := ((Below.refl w.heap.size w).alloc (Nat.le_refl _) (.cells #[.int .i64 a.1, .int .i64 a.2] 30)).alloc (by simp) (.cells #[.int .i64 b.1, .int .i64 b.2] 30)
  have HB := Lib.hid hb
  clear hb
  unfold sv lessS
  have heq : decide (a.1 = b.1) = (a.1 == b.1) := rfl
  rw [heq]
  cases h1 : decide (a.1 < b.1) <;> cases h2 : (a.1 == b.1)
  all_goals (
    go_enter Try.func38, Try.ntmps38
    go_wp2_with fail
    go_ret
    exact ⟨by simp, HB.out⟩)

theorem run_neq_nd (x : Nd) (w : World) : (binOp .neq 37 (nv x) (nv x)).run Try.prog w = .ok (.bool false) w := by
  unfold nv
  simp [go_sem]
theorem run_eql_nd (x : Nd) (w : World) : (binOp .eql 37 (nv x) (nv x)).run Try.prog w = .ok (.bool true) w := by
  unfold nv
  simp [go_sem]
theorem run_neq_st (x : St) (w : World) : (binOp .neq 30 (sv x) (sv x)).run Try.prog w = .ok (.bool false) w := by
  unfold sv
  simp [go_sem]

set_option maxRecDepth 100000 in
set_option maxHeartbeats 1600000 in
/-- two lists that are the same -/
theorem same_any (A A2 : Option Addr) (n c c2 : Nat) (xs : List Nd) (w : World) (hx : Nds w A n c xs) (hy : Nds w A2 n c2 xs) :
    Calls Try.prog 12 #[.slice A n c, .slice A2 n c2] w fun e w' => e = .returned (.bool true) ∧ Below w.heap.size w w' := by
  have hn := hx.len
  have hmx := hx.max
  have hle := hx.le
  have hmy := hy.max
  have hley := hy.le
  have HX := Lib.hid hx
  have HY := Lib.hid hy
  clear hx hy
  go_enter Try.func12, Try.ntmps12
  go_wp2_with fail
  go_loopw [5] (fun i wr => ∃ k : Nat, k ≤ n ∧ i = .int .i64 k ∧ Below w.heap.size w wr) (fun i _ => n - (intOf i).toNat)
  case atStart => exact ⟨0, by omega, rfl, Below.refl _ _⟩
  case round =>
    obtain ⟨k, hk, rfl, hb⟩ := hrel
    rcases Nat.lt_or_ge k n with hlt | hge
    · have hki : (k : Int) < (n : Int) := by omega
      obtain ⟨b, off, rfl, hbl, c0, c1, c2, c3, c4, c5, c6, _⟩ := Nds.at_ (HX.out.below hb) (by omega : k < xs.length)
      obtain ⟨b2, off2, rfl, hbl2, d0, d1, d2, d3, d4, d5, d6, _⟩ := Nds.at_ (HY.out.below hb) (by omega : k < xs.length)
      generalize xs[k] = x at *
      have he := run_neq_nd x
      unfold nv at he
      have HB := Lib.hid hb
      clear hb
      go_wp2_with fail
      go_quiet (fail)
      have hb5 := Lib.hid (below_drewN HB.out nq)
      go_wp2_with fail
      exact ⟨⟨k + 1, by omega, by go_num, hb5.out⟩, by simp [intOf]; omega⟩
    · have hkn : ¬ (k : Int) < (n : Int) := by omega
      have HB := Lib.hid hb
      clear hb
      go_wp2_with fail
      go_ret
      exact ⟨rfl, HB.out⟩

set_option maxRecDepth 100000 in
set_option maxHeartbeats 1600000 in
theorem stamps_any (A A2 : Option Addr) (n c c2 : Nat) (xs : List St) (w : World) (hx : Sts w A n c xs) (hy : Sts w A2 n c2 xs) :
    Calls Try.prog 23 #[.slice A n c, .slice A2 n c2] w fun e w' => e = .returned (.bool true) ∧ Below w.heap.size w w' := by
  have hn := hx.len
  have hmx := hx.max
  have hle := hx.le
  have hmy := hy.max
  have hley := hy.le
  have HX := Lib.hid hx
  have HY := Lib.hid hy
  clear hx hy
  go_enter Try.func23, Try.ntmps23
  go_wp2_with fail
  go_loopw [5] (fun i wr => ∃ k : Nat, k ≤ n ∧ i = .int .i64 k ∧ Below w.heap.size w wr) (fun i _ => n - (intOf i).toNat)
  case atStart => exact ⟨0, by omega, rfl, Below.refl _ _⟩
  case round =>
    obtain ⟨k, hk, rfl, hb⟩ := hrel
    rcases Nat.lt_or_ge k n with hlt | hge
    · have hki : (k : Int) < (n : Int) := by omega
      obtain ⟨b, off, rfl, hbl, c0, c1⟩ := Sts.at_ (HX.out.below hb) (by omega : k < xs.length)
      obtain ⟨b2, off2, rfl, hbl2, d0, d1⟩ := Sts.at_ (HY.out.below hb) (by omega : k < xs.length)
      generalize xs[k] = x at *
      have he := run_neq_st x
      unfold sv at he
      have HB := Lib.hid hb
      clear hb
      go_wp2_with fail
      go_quiet (fail)
      have hb5 := Lib.hid (below_drewN HB.out nq)
      go_wp2_with fail
      exact ⟨⟨k + 1, by omega, by go_num, hb5.out⟩, by simp [intOf]; omega⟩
    · have hkn : ¬ (k : Int) < (n : Int) := by omega
      have HB := Lib.hid hb
      clear hb
      go_wp2_with fail
      go_ret
      exact ⟨rfl, HB.out⟩

/-- a yes says that there are few -/
def SomeR (n : Nat) (e : Ending) : Prop := ∃ r, e = .returned (.bool r) ∧ (r = true → n ≤ 150)

set_option maxRecDepth 100000 in
set_option maxHeartbeats 1600000 in
theorem some_any (A : Option Addr) (n c : Nat) (xs : List Nd) (w : World) (hx : Nds w A n c xs) :
    Calls Try.prog 16 #[.slice A n c] w fun e w' => SomeR n e ∧ Below w.heap.size w w' := by
  have hn := hx.len
  have hmx := hx.max
  have hle := hx.le
  by_cases h150 : (n : Int) > 150
  · have hd : decide ((n : Int) > 150) = true := decide_eq_true h150
    clear h150 hx
    go_enter Try.func16, Try.ntmps16
    go_wp2_with fail
    go_ret
    exact ⟨⟨false, rfl, fun h => by cases h⟩, Below.refl _ _⟩
  have hd : decide ((n : Int) > 150) = false := decide_eq_false h150
  have hle150 : n ≤ 150 := by omega
  have HL := Lib.hid hle150
  have HX := Lib.hid hx
  clear hx h150 hle150
  go_enter Try.func16, Try.ntmps16
  go_wp2_with fail
  go_loopw [3] (fun i wr => ∃ k : Nat, k ≤ n ∧ i = .int .i64 k ∧ Below w.heap.size w wr) (fun i _ => n - (intOf i).toNat)
  case atStart => exact ⟨0, by omega, rfl, Below.refl _ _⟩
  case round =>
    obtain ⟨k, hk, rfl, hb⟩ := hrel
    rcases Nat.lt_or_ge k n with hlt | hge
    · have hki : (k : Int) < (n : Int) := by omega
      obtain ⟨b, off, rfl, hbl, c0, c1, c2, c3, c4, c5, c6, m1, m2⟩ := Nds.at_ (HX.out.below hb) (by omega : k < xs.length)
      generalize xs[k] = x at *
      have HB := Lib.hid hb
      clear hb
      cases e1 : decide (((x.nm.length : Nat) : Int) > 200) <;> cases e2 : decide (((x.mf.length : Nat) : Int) > 1000)
      all_goals go_wp2_with fail
      all_goals first
        | exact ⟨⟨k + 1, by omega, by go_num, HB.out⟩, by simp [intOf]; omega⟩
        | (go_ret; exact ⟨⟨false, rfl, fun h => by cases h⟩, HB.out⟩)
    · have hkn : ¬ (k : Int) < (n : Int) := by omega
      have HB := Lib.hid hb
      clear hb
      go_wp2_with fail
      go_ret
      exact ⟨⟨true, rfl, fun _ => HL.out⟩, HB.out⟩
end Go.Proofs.Ythaekoeekpofpaa
