/- The walks of places, longest, few, Same, Covers. -/
import Derived.Test.YtdoghihjanlgpaaA
namespace Go.Proofs.Ytdoghihjanlgpaa
open Go.RowKit

def longL (xss : List (List Int)) : Nat := xss.foldl (fun m x => max m x.length) 0
theorem longL_snoc (xs : List (List Int)) (x : List Int) : longL (xs ++ [x]) = max (longL xs) x.length := by simp [longL]
def fewB (xss : List (List Int)) : Bool := decide (xss.length ≤ 50) && xss.all (fun x => decide (x.length ≤ 1000))
def sameB (xs ys : List Int) : Bool := decide (xs = ys)
def coversB (xs ys : List Int) : Bool := (List.range ys.length).all fun k => decide (atL ys k ≤ atL xs k)

set_option maxHeartbeats 400000 in
theorem places_any (A : Option Addr) (n c : Nat) (xs : List (List Int)) (w : World) (hx : Rws w A n c xs) :
    Calls Try.prog 28 #[.slice A n c] w fun e w' => e = .returned (.int .i64 (longL xs)) ∧ w = w' := by
  have hcap := And.intro hx.le hx.max
  have HL := Lib.hid hx.len
  go_enter Try.func28, Try.ntmps28
  go_wp2
  go_loop [3, 5, 8] (fun m _ i => ∃ k : Nat, k ≤ n ∧ i = .int .i64 k ∧ m = .int .i64 (longL (xs.take k))) (fun _ _ i => n - (intOf i).toNat)
  case atStart => exact ⟨0, Nat.zero_le _, rfl, rfl⟩
  case round =>
    obtain ⟨k, hk, rfl, rfl⟩ := hrel
    by_cases hlt : k < n
    · obtain ⟨b, off, A', n', c', rfl, had, hc1, hr⟩ := hx.row_at hlt
      have hcap' := And.intro hr.le hr.max
      have HL' := Lib.hid hr.len
      have HS := Lib.hid (take_snocR (xs := xs) (k := k) (by rw [HL.out]; exact hlt))
      go_wp2
      all_goals
        go_round
        case rel => exact ⟨k + 1, by omega, by go_num, by rw [HS.out, longL_snoc, HL'.out]; exact congrArg (Value.int .i64) (by omega)⟩
        case measure => simp [intOf]; omega
    · obtain rfl : k = n := by omega
      have e : xs.take k = xs := List.take_of_length_le (by rw [HL.out]; exact Nat.le_refl _)
      rw [e]
      clear e
      go_wp2
      go_ret
      exact ⟨rfl, rfl⟩

set_option maxHeartbeats 400000 in
theorem longest_any (A : Option Addr) (n c : Nat) (xs : List (List Int)) (w : World) (hx : Rws w A n c xs) :
    Calls Try.prog 31 #[.slice A n c] w fun e w' => e = .returned (.int .i64 (longL xs)) ∧ w = w' := by
  have hcap := And.intro hx.le hx.max
  have HL := Lib.hid hx.len
  go_enter Try.func31, Try.ntmps31
  go_wp2
  go_loop [3, 4] (fun m i => ∃ k : Nat, k ≤ n ∧ i = .int .i64 k ∧ m = .int .i64 (longL (xs.take k))) (fun _ i => n - (intOf i).toNat)
  case atStart => exact ⟨0, Nat.zero_le _, rfl, rfl⟩
  case round =>
    obtain ⟨k, hk, rfl, rfl⟩ := hrel
    by_cases hlt : k < n
    · obtain ⟨b, off, A', n', c', rfl, had, hc1, hr⟩ := hx.row_at hlt
      have hcap' := And.intro hr.le hr.max
      have HL' := Lib.hid hr.len
      have HS := Lib.hid (take_snocR (xs := xs) (k := k) (by rw [HL.out]; exact hlt))
      go_wp2
      all_goals
        go_round
        case rel => exact ⟨k + 1, by omega, by go_num, by rw [HS.out, longL_snoc, HL'.out]; exact congrArg (Value.int .i64) (by omega)⟩
        case measure => simp [intOf]; omega
    · obtain rfl : k = n := by omega
      have e : xs.take k = xs := List.take_of_length_le (by rw [HL.out]; exact Nat.le_refl _)
      rw [e]
      clear e
      go_wp2
      go_ret
      exact ⟨rfl, rfl⟩

set_option maxHeartbeats 400000 in
theorem few_any (A : Option Addr) (n c : Nat) (xs : List (List Int)) (w : World) (hx : Rws w A n c xs) :
    Calls Try.prog 15 #[.slice A n c] w fun e w' => e = .returned (.bool (fewB xs)) ∧ w = w' := by
  have hcap := And.intro hx.le hx.max
  have HL := Lib.hid hx.len
  by_cases h50 : 50 < n
  · go_enter Try.func15, Try.ntmps15
    go_wp2
    go_ret
    exact ⟨ret_bool (by unfold fewB; rw [HL.out]; simp; omega), rfl⟩
  go_enter Try.func15, Try.ntmps15
  go_wp2
  go_loop [3] (fun i => ∃ k : Nat, k ≤ n ∧ i = .int .i64 k ∧ (xs.take k).all (fun x => decide (x.length ≤ 1000)) = true) (fun i => n - (intOf i).toNat)
  case atStart => exact ⟨0, Nat.zero_le _, rfl, rfl⟩
  case round =>
    obtain ⟨k, hk, rfl, hall⟩ := hrel
    have HA := Lib.hid hall
    clear hall
    by_cases hlt : k < n
    · obtain ⟨b, off, A', n', c', rfl, had, hc1, hr⟩ := hx.row_at hlt
      have hcap' := And.intro hr.le hr.max
      have HL' := Lib.hid hr.len
      have HS := Lib.hid (take_snocR (xs := xs) (k := k) (by rw [HL.out]; exact hlt))
      by_cases h1000 : 1000 < n'
      · go_wp2
        go_ret
        refine ⟨ret_bool ?_, rfl⟩
        have hm : nthR xs k ∈ xs := by rw [nthR_lt (by rw [HL.out]; exact hlt)]; exact List.getElem_mem _
        unfold fewB
        rw [eq_comm, Bool.and_eq_false_iff]
        right
        rw [List.all_eq_false]
        exact ⟨_, hm, by rw [HL'.out]; simp; omega⟩
      · go_wp2
        go_round
        case rel => exact ⟨k + 1, by omega, by go_num, by rw [HS.out, List.all_append, HA.out]; simp [HL'.out]; omega⟩
        case measure => simp [intOf]; omega
    · obtain rfl : k = n := by omega
      have e : xs.take k = xs := List.take_of_length_le (by rw [HL.out]; exact Nat.le_refl _)
      rw [e] at HA
      clear e
      go_wp2
      go_ret
      exact ⟨ret_bool (by unfold fewB; rw [HA.out, HL.out]; simp; omega), rfl⟩

theorem same_take {xs ys : List Int} {k : Nat} (h : xs.take k = ys.take k) (hx : k < xs.length) (hy : k < ys.length) : nth xs k = nth ys k ↔ xs.take (k + 1) = ys.take (k + 1) := by
  rw [take_snocI hx, take_snocI hy, h]; simp

set_option maxHeartbeats 400000 in
theorem same_any (A : Option Addr) (n c : Nat) (xs : List Int) (A' : Option Addr) (n' c' : Nat) (ys : List Int) (w : World) (hx : Sl w 1 IntC A n c xs) (hy : Sl w 1 IntC A' n' c' ys) :
    Calls Try.prog 16 #[.slice A n c, .slice A' n' c'] w fun e w' => e = .returned (.bool (sameB xs ys)) ∧ Below w.heap.size w w' := by
  have hcap := And.intro hx.le hx.max
  have hcap' := And.intro hy.le hy.max
  have HL := Lib.hid hx.len
  have HL' := Lib.hid hy.len
  by_cases hn : n = n'
  · subst hn
    go_enter Try.func16, Try.ntmps16
    go_wp2
    go_loopw [5] (fun i wr => ∃ k : Nat, k ≤ n ∧ i = .int .i64 k ∧ xs.take k = ys.take k ∧ Below w.heap.size w wr) (fun i _ => n - (intOf i).toNat)
    case atStart => exact ⟨0, Nat.zero_le _, rfl, rfl, Below.refl _ _⟩
    case round =>
      obtain ⟨k, hk, rfl, hall, hb⟩ := hrel
      by_cases hlt : k < n
      · obtain ⟨b, off, rfl, had, hc1, hr1, hr2⟩ := (hx.below hb).int_at hlt
        obtain ⟨b', off', rfl, had', hc1', hr1', hr2'⟩ := (hy.below hb).int_at hlt
        have hst := same_take hall (by rw [HL.out]; exact hlt) (by rw [HL'.out]; exact hlt)
        have HST := Lib.hid hst
        clear hst hall
        by_cases he : nth xs k = nth ys k
        · have hne : (nth xs k != nth ys k) = false := by simp [he]
          have HE := Lib.hid he
          clear he
          go_wp2
          go_quiet (fail)
          go_wp2
          go_roundw
          case rel => exact ⟨k + 1, by omega, by go_num, HST.out.1 HE.out, below_drewN hb _⟩
          case measure => simp [intOf]; omega
        · have hne : (nth xs k != nth ys k) = true := by simp [he]
          go_wp2
          go_quiet (fail)
          go_wp2
          go_ret
          exact ⟨ret_bool (by unfold sameB; rw [eq_comm, decide_eq_false_iff_not]; rintro rfl; exact he rfl), below_drewN hb _⟩
      · obtain rfl : k = n := by omega
        have e : xs = ys := by rw [← List.take_of_length_le (l := xs) (i := k) (by rw [HL.out]; exact Nat.le_refl _), hall, List.take_of_length_le (by rw [HL'.out]; exact Nat.le_refl _)]
        have HE := Lib.hid e
        clear e hall
        go_wp2
        go_ret
        exact ⟨ret_bool (by unfold sameB; rw [HE.out]; simp), hb⟩
  · have hne : ((n : Int) != (n' : Int)) = true := by simp; omega
    go_enter Try.func16, Try.ntmps16
    go_wp2
    go_ret
    exact ⟨ret_bool (by unfold sameB; rw [eq_comm, decide_eq_false_iff_not]; rintro rfl; exact hn (HL.out.symm.trans HL'.out)), Below.refl _ _⟩

theorem all_snoc (xs ys : List Int) (k : Nat) : (List.range (k + 1)).all (fun k => decide (atL ys k ≤ atL xs k)) = ((List.range k).all (fun k => decide (atL ys k ≤ atL xs k)) && decide (atL ys k ≤ atL xs k)) := by
  rw [List.range_succ]; simp

set_option maxHeartbeats 400000 in
theorem covers_any (A : Option Addr) (n c : Nat) (xs : List Int) (A' : Option Addr) (n' c' : Nat) (ys : List Int) (w : World) (hx : Sl w 1 IntC A n c xs) (hy : Sl w 1 IntC A' n' c' ys) :
    Calls Try.prog 21 #[.slice A n c, .slice A' n' c'] w fun e w' => e = .returned (.bool (coversB xs ys)) ∧ w = w' := by
  have hcap := And.intro hx.le hx.max
  have hcap' := And.intro hy.le hy.max
  have HL := Lib.hid hx.len
  have HL' := Lib.hid hy.len
  go_enter Try.func21, Try.ntmps21
  go_wp2
  go_loop [5, 8] (fun _ i => ∃ k : Nat, k ≤ n' ∧ i = .int .i64 k ∧ (List.range k).all (fun k => decide (atL ys k ≤ atL xs k)) = true) (fun _ i => n' - (intOf i).toNat)
  case atStart => exact ⟨0, Nat.zero_le _, rfl, rfl⟩
  case round =>
    obtain ⟨k, hk, rfl, hall⟩ := hrel
    have HA := Lib.hid hall
    clear hall
    by_cases hlt : k < n'
    · by_cases hle : atL ys k ≤ atL xs k
      · go_wp2_with fail
        refine (at_any _ _ _ k xs _ hx (by omega)).mono ?_
        rintro e w' ⟨rfl, rfl⟩
        go_wp2_with fail
        refine (at_any _ _ _ k ys _ hy (by omega)).mono ?_
        rintro e w' ⟨rfl, rfl⟩
        go_wp2_with fail
        go_round
        case rel => exact ⟨k + 1, by omega, by go_num, by rw [all_snoc, HA.out]; simp [hle]⟩
        case measure => simp [intOf]; omega
      · go_wp2_with fail
        refine (at_any _ _ _ k xs _ hx (by omega)).mono ?_
        rintro e w' ⟨rfl, rfl⟩
        go_wp2_with fail
        refine (at_any _ _ _ k ys _ hy (by omega)).mono ?_
        rintro e w' ⟨rfl, rfl⟩
        go_wp2_with fail
        go_ret
        exact ⟨ret_bool (by unfold coversB; rw [eq_comm, List.all_eq_false]; exact ⟨k, by rw [HL'.out]; simpa using hlt, by simpa using hle⟩), rfl⟩
    · obtain rfl : k = n' := by omega
      go_wp2
      go_ret
      exact ⟨ret_bool (by unfold coversB; rw [HL'.out, HA.out]), rfl⟩

set_option maxHeartbeats 400000 in
theorem rcovers_any (A : Option Addr) (n c : Nat) (xs : List Int) (A' : Option Addr) (n' c' : Nat) (ys : List Int) (w : World) (hx : Sl w 1 IntC A n c xs) (hy : Sl w 1 IntC A' n' c' ys) :
    Calls Try.prog 22 #[.slice A n c, .slice A' n' c'] w fun e w' => e = .returned (.bool (coversB xs ys)) ∧ w = w' := by
  have hcap := And.intro hx.le hx.max
  have hcap' := And.intro hy.le hy.max
  have HL := Lib.hid hx.len
  have HL' := Lib.hid hy.len
  go_enter Try.func22, Try.ntmps22
  go_wp2
  go_loop [5] (fun i => ∃ k : Nat, k ≤ n' ∧ i = .int .i64 k ∧ (List.range k).all (fun k => decide (atL ys k ≤ atL xs k)) = true) (fun i => n' - (intOf i).toNat)
  case atStart => exact ⟨0, Nat.zero_le _, rfl, rfl⟩
  case round =>
    obtain ⟨k, hk, rfl, hall⟩ := hrel
    have HA := Lib.hid hall
    clear hall
    by_cases hlt : k < n'
    · by_cases hle : atL ys k ≤ atL xs k
      · go_wp2_with fail
        refine (rat_any _ _ _ k xs _ hx (by omega)).mono ?_
        rintro e w' ⟨rfl, rfl⟩
        go_wp2_with fail
        refine (rat_any _ _ _ k ys _ hy (by omega)).mono ?_
        rintro e w' ⟨rfl, rfl⟩
        go_wp2_with fail
        go_round
        case rel => exact ⟨k + 1, by omega, by go_num, by rw [all_snoc, HA.out]; simp [hle]⟩
        case measure => simp [intOf]; omega
      · go_wp2_with fail
        refine (rat_any _ _ _ k xs _ hx (by omega)).mono ?_
        rintro e w' ⟨rfl, rfl⟩
        go_wp2_with fail
        refine (rat_any _ _ _ k ys _ hy (by omega)).mono ?_
        rintro e w' ⟨rfl, rfl⟩
        go_wp2_with fail
        go_ret
        exact ⟨ret_bool (by unfold coversB; rw [eq_comm, List.all_eq_false]; exact ⟨k, by rw [HL'.out]; simpa using hlt, by simpa using hle⟩), rfl⟩
    · obtain rfl : k = n' := by omega
      go_wp2
      go_ret
      exact ⟨ret_bool (by unfold coversB; rw [HL'.out, HA.out]), rfl⟩
end Go.Proofs.Ytdoghihjanlgpaa
