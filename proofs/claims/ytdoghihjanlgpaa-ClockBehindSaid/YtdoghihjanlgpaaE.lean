/- The walks of the reference's cut, Join, Meet. -/
import Derived.Test.YtdoghihjanlgpaaD
namespace Go.Proofs.Ytdoghihjanlgpaa
open Go.RowKit

theorem Sl.take {α : Type} {w : World} {size n c : Nat} {R : List Value → α → Prop} {A : Option Addr} {xs : List α} (h : Sl w size R A n c xs) {l : Nat} (hl : l ≤ n) : Sl w size R A l c (xs.take l) :=
  ⟨by rw [List.length_take, h.len]; omega, Nat.le_trans hl h.le, h.max, fun i hi => by
    have hi2 : i < xs.length := by rw [List.length_take] at hi; omega
    rw [List.getElem_take]
    exact h.4 i hi2⟩

theorem own_slice {w : World} {B : Nat} {v : Value} {n : Nat} {xs : List Int} (h : w.ownsRow B 3 1 v n (xs.map (Value.int .i64))) (hb : ∀ x ∈ xs, I64 x) : ∃ a c, v = .slice a n c ∧ Sl w 1 IntC a n c xs := by
  have hlen : xs.length = n := by have := h.1; simpa using this
  rcases h.2 with ⟨rfl, rfl⟩ | ⟨g, cap, cur, rfl, hg, hh, hle, hmx, hsz, htk⟩
  · have : xs = [] := List.length_eq_zero_iff.1 hlen
    subst this
    exact ⟨none, 0, rfl, Sl.nil_⟩
  · have hB : Blk w g 3 cur := hh
    refine ⟨_, cap, rfl, hlen, hle, by unfold maxLen at hmx; omega, fun i hi => ⟨g, 0, [.int .i64 xs[i]], rfl, hB.lt, rfl, ⟨rfl, hb _ (List.getElem_mem hi)⟩, ?_⟩⟩
    intro j u hu
    match j, hu with
    | 0, hu =>
      simp at hu
      subst hu
      have e1 := hB.cell i
      have e2 : (cur.toList.take (n * 1))[i]? = some (.int .i64 xs[i]) := by rw [htk]; simp [hi]
      rw [List.getElem?_take_of_lt (by omega)] at e2
      rw [Array.getElem?_toList] at e2
      rw [e2] at e1
      simpa using e1

set_option maxHeartbeats 400000 in
theorem cut_any (A : Option Addr) (n c : Nat) (xs : List Int) (w : World) (hx : Sl w 1 IntC A n c xs) :
    Calls Try.prog 33 #[.slice A n c] w fun e w' => ∃ a l c', e = .returned (.slice a l c') ∧ Sl w' 1 IntC a l c' (cutL xs) ∧ w = w' := by
  have hcap := And.intro hx.le hx.max
  have HL := Lib.hid hx.len
  go_enter Try.func33, Try.ntmps33
  go_wp2
  go_loop [3] (fun i => ∃ l : Nat, l ≤ n ∧ i = .int .i64 l ∧ ∀ j, l ≤ j → j < n → nth xs j = 0) (fun i => (intOf i).toNat)
  case atStart => exact ⟨n, Nat.le_refl _, rfl, fun j h1 h2 => absurd h2 (by omega)⟩
  case round =>
    obtain ⟨l, hl, rfl, hz⟩ := hrel
    have HZ := Lib.hid hz
    clear hz
    have FIN : Hid ((l = 0 ∨ nth xs (l - 1) ≠ 0) → Sl w 1 IntC A l c (cutL xs)) := by
      intro h1
      rw [cutL_take xs l (by rw [HL.out]; exact hl) (fun j h1 h2 => HZ.out j h1 (by rw [← HL.out]; exact h2)) h1]
      exact hx.take hl
    by_cases h0 : l = 0
    · subst h0
      go_wp2
      go_ret
      exact ⟨_, _, _, rfl, FIN.out (by simp), rfl⟩
    · obtain ⟨q, rfl⟩ : ∃ q, l = q + 1 := ⟨l - 1, by omega⟩
      have eq1 : ((q + 1 : Nat) : Int) - 1 = (q : Int) := by omega
      obtain ⟨b, off, rfl, had, hcq, hr1, hr2⟩ := hx.int_at (k := q) (by omega)
      have hqn : q < n := by omega
      by_cases hv : nth xs q = 0
      · have HV := Lib.hid hv
        rw [hv] at hcq
        clear hv hr1 hr2
        go_wp2
        go_round
        case rel =>
          exact ⟨q, by omega, rfl, fun j h1 h2 => by
            by_cases e : j = q
            · subst e; exact HV.out
            · exact HZ.out j (by omega) h2⟩
        case measure => simp [intOf]
      · have hne : (nth xs q == 0) = false := by simp [hv]
        go_wp2
        go_ret
        exact ⟨_, _, _, rfl, FIN.out (.inr hv), rfl⟩

set_option maxHeartbeats 1000000 in
theorem rjoin_any (A : Option Addr) (n c : Nat) (xs : List (List Int)) (w : World) (hx : Rws w A n c xs) (hm : longL xs ≤ 1000000) :
    Calls Try.prog 18 #[.slice A n c] w fun e w' => ∃ a l c', e = .returned (.slice a l c') ∧ Sl w' 1 IntC a l c' (joinL xs) ∧ Below w.heap.size w w' := by
  have hcap := And.intro hx.le hx.max
  have HL := Lib.hid hx.len
  have hbd := fun k => joinN_bd hx.bounds k
  have HBD := Lib.hid hbd
  clear hbd
  obtain ⟨i0, hi, hz0, hz1, hz2⟩ := info_parts info3
  have HI := Lib.hid hi
  have HZ0 := Lib.hid hz0
  have HZ1 := Lib.hid hz1
  have HZ2 := Lib.hid hz2
  clear hi hz0 hz1 hz2
  go_enter Try.func18, Try.ntmps18
  go_wp2_with fail
  go_loopw [3, 4, 5, 6] (fun v i _ _ wr => ∃ k : Nat, k ≤ longL xs ∧ i = .int .i64 k ∧ Below w.heap.size w wr ∧ wr.ownsRow w.heap.size 3 1 v k ((row (joinN xs) k).map (Value.int .i64))) (fun _ i _ _ _ => longL xs - (intOf i).toNat)
  case atStart => exact ⟨0, Nat.zero_le _, rfl, Below.refl _ _, rfl, .inl ⟨rfl, rfl⟩⟩
  case round =>
    obtain ⟨k, hk, rfl, hb, hown⟩ := hrel
    have HO := Lib.hid hown
    clear hown
    go_wp2_with fail
    refine (longest_any _ _ _ xs _ (hx.below hb)).mono ?_
    rintro e w' ⟨rfl, rfl⟩
    by_cases hlt : k < longL xs
    · have hx' := hx.below hb

      go_wp2_with fail

      go_loop [5, 6] (fun m i => ∃ j : Nat, j ≤ n ∧ i = .int .i64 j ∧ m = .int .i64 (joinN (xs.take j) k)) (fun _ i => n - (intOf i).toNat)
      case atStart => exact ⟨0, Nat.zero_le _, rfl, rfl⟩
      case round =>
        obtain ⟨j, hj, rfl, rfl⟩ := hrel
        by_cases hlt2 : j < n
        · obtain ⟨b, off, A', n', c', rfl, had, hc1, hr⟩ := hx'.row_at hlt2
          have hcap' := And.intro hr.le hr.max
          have HS := Lib.hid (take_snocR (xs := xs) (k := j) (by rw [HL.out]; exact hlt2))
          go_wp2_with fail
          refine (rat_any _ _ _ k (nthR xs j) _ hr (by omega)).mono ?_
          rintro e w' ⟨rfl, rfl⟩
          go_wp2_with fail
          all_goals
            go_round
            case rel => exact ⟨j + 1, by omega, by go_num, by rw [HS.out, joinN_snoc]; exact congrArg (Value.int .i64) (by omega)⟩
            case measure => simp [intOf]; omega
        · obtain rfl : j = n := by omega
          have e : xs.take j = xs := List.take_of_length_le (by rw [HL.out]; exact Nat.le_refl _)
          rw [e]
          clear e
          have hbase := hb.size
          go_wp2_with (at_builtin; refine wpList_append_own _ rfl _ _ 34 rfl w.heap.size 3 i0 (.int .i64 0) 1 8 Try.underlying34 HI.out HZ0.out HZ1.out HZ2.out rfl (by decide) _ _ _ rfl (HO.out.alloc _) ⟨wr.heap.size, 0, none⟩ 1 1 [.int .i64 (joinN xs k)] rfl rfl ?c1 ?c2 ?c3 ?c4 ?c5 ?_)
          case c2 => simp [Value.oneCell']
          case c3 => unfold maxLen; omega
          case c4 => omega
          case c5 => first | omega | (simp; omega)
          intro v' w1 hown' hgrow _
          have HO' : Hid (w1.ownsRow w.heap.size 3 1 v' (k + 1) ((row (joinN xs) (k + 1)).map (Value.int .i64))) := by
            have e : (row (joinN xs) (k + 1)).map (Value.int .i64) = (row (joinN xs) k).map (Value.int .i64) ++ [Value.int .i64 (joinN xs k)] := by simp [row, List.range_succ]
            show World.ownsRow _ _ _ _ _ _ _
            rw [e]; exact hown'
          have hb1 : Below w.heap.size w w1 := (hb.alloc hbase _).grown hgrow (by simp; omega) (by
            intro g hg
            rcases HO.out.2 with ⟨rfl, _⟩ | ⟨g', cap, cur, rfl, hge, _⟩
            · simp [Value.ownBlock] at hg
            · simp [Value.ownBlock] at hg; omega)
          clear hown' hgrow
          go_wp2_with fail
          go_roundw
          case rel => exact ⟨k + 1, by omega, by go_num, hb1, HO'.out⟩
          case measure => simp [intOf]; omega
    · obtain rfl : k = longL xs := by omega
      obtain ⟨a, c', rfl, hs⟩ := own_slice HO.out (fun x hx => by
        unfold row at hx
        obtain ⟨i, _, rfl⟩ := List.mem_map.1 hx
        exact ⟨by have := HBD.out i; omega, (HBD.out i).2⟩)
      go_wp2_with fail
      refine (cut_any _ _ _ _ _ hs).mono ?_
      rintro e w' ⟨a1, l1, c1, rfl, hs1, rfl⟩
      go_wp2_with fail
      go_ret
      exact ⟨_, _, _, rfl, hs1, hb⟩
set_option maxHeartbeats 1000000 in
theorem rmeet_any (A : Option Addr) (n c : Nat) (xs : List (List Int)) (w : World) (hx : Rws w A n c xs) (hm : longL xs ≤ 1000000) :
    Calls Try.prog 20 #[.slice A n c] w fun e w' => ∃ a l c', e = .returned (.slice a l c') ∧ Sl w' 1 IntC a l c' (meetL xs) ∧ Below w.heap.size w w' := by
  have hcap := And.intro hx.le hx.max
  have HL := Lib.hid hx.len
  have hbd := fun k => meetN_bd hx.bounds k
  have HBD := Lib.hid hbd
  clear hbd
  obtain ⟨i0, hi, hz0, hz1, hz2⟩ := info_parts info3
  have HI := Lib.hid hi
  have HZ0 := Lib.hid hz0
  have HZ1 := Lib.hid hz1
  have HZ2 := Lib.hid hz2
  clear hi hz0 hz1 hz2
  go_enter Try.func20, Try.ntmps20
  go_wp2_with fail
  go_loopw [3, 4, 5, 6] (fun v i _ _ wr => ∃ k : Nat, k ≤ longL xs ∧ i = .int .i64 k ∧ Below w.heap.size w wr ∧ wr.ownsRow w.heap.size 3 1 v k ((row (meetN xs) k).map (Value.int .i64))) (fun _ i _ _ _ => longL xs - (intOf i).toNat)
  case atStart => exact ⟨0, Nat.zero_le _, rfl, Below.refl _ _, rfl, .inl ⟨rfl, rfl⟩⟩
  case round =>
    obtain ⟨k, hk, rfl, hb, hown⟩ := hrel
    have HO := Lib.hid hown
    clear hown
    go_wp2_with fail
    refine (longest_any _ _ _ xs _ (hx.below hb)).mono ?_
    rintro e w' ⟨rfl, rfl⟩
    by_cases hlt : k < longL xs
    · have hx' := hx.below hb
      have hn : 0 < n := by
        rcases Nat.eq_zero_or_pos n with e | hp
        · have e2 := hx.len
          rw [e] at e2
          have e3 : xs = [] := List.length_eq_zero_iff.1 e2
          rw [e3] at hlt
          exact absurd hlt (by simp [longL])
        · exact hp
      obtain ⟨b, off, A0, n0, c0, rfl, had0, hc0, hr0⟩ := hx'.row_at hn
      rw [Nat.add_zero] at hc0
      go_wp2_with fail
      refine (rat_any _ _ _ k _ _ hr0 (by omega)).mono ?_
      rintro e w' ⟨rfl, rfl⟩
      go_wp2_with fail
      go_loop [5, 6] (fun m i => ∃ j : Nat, j ≤ n ∧ i = .int .i64 j ∧ m = .int .i64 (meetF (atL (nthR xs 0) k) (xs.take j) k)) (fun _ i => n - (intOf i).toNat)
      case atStart => exact ⟨0, Nat.zero_le _, rfl, rfl⟩
      case round =>
        obtain ⟨j, hj, rfl, rfl⟩ := hrel
        by_cases hlt2 : j < n
        · obtain ⟨b', off', A', n', c', e, had, hc1, hr⟩ := hx'.row_at hlt2
          simp only [Option.some.injEq, Addr.mk.injEq, and_true] at e
          obtain ⟨rfl, rfl⟩ := e
          have hcap' := And.intro hr.le hr.max
          have HS := Lib.hid (take_snocR (xs := xs) (k := j) (by rw [HL.out]; exact hlt2))
          go_wp2_with fail
          refine (rat_any _ _ _ k (nthR xs j) _ hr (by omega)).mono ?_
          rintro e w' ⟨rfl, rfl⟩
          go_wp2_with fail
          all_goals
            go_round
            case rel => exact ⟨j + 1, by omega, by go_num, by rw [HS.out, meetF_snoc]; exact congrArg (Value.int .i64) (by omega)⟩
            case measure => simp [intOf]; omega
        · obtain rfl : j = n := by omega
          have e : xs.take j = xs := List.take_of_length_le (by rw [HL.out]; exact Nat.le_refl _)
          rw [e]
          clear e
          have hbase := hb.size
          go_wp2_with (at_builtin; refine wpList_append_own _ rfl _ _ 34 rfl w.heap.size 3 i0 (.int .i64 0) 1 8 Try.underlying34 HI.out HZ0.out HZ1.out HZ2.out rfl (by decide) _ _ _ rfl (HO.out.alloc _) ⟨wr.heap.size, 0, none⟩ 1 1 [.int .i64 (meetF (atL (nthR xs 0) k) xs k)] rfl rfl ?c1 ?c2 ?c3 ?c4 ?c5 ?_)
          case c2 => simp [Value.oneCell']
          case c3 => unfold maxLen; omega
          case c4 => omega
          case c5 => first | omega | (simp; omega)
          intro v' w1 hown' hgrow _
          have HO' : Hid (w1.ownsRow w.heap.size 3 1 v' (k + 1) ((row (meetN xs) (k + 1)).map (Value.int .i64))) := by
            have e : (row (meetN xs) (k + 1)).map (Value.int .i64) = (row (meetN xs) k).map (Value.int .i64) ++ [Value.int .i64 (meetF (atL (nthR xs 0) k) xs k)] := by simp [row, List.range_succ, meetN, meetF]
            show World.ownsRow _ _ _ _ _ _ _
            rw [e]; exact hown'
          have hb1 : Below w.heap.size w w1 := (hb.alloc hbase _).grown hgrow (by simp; omega) (by
            intro g hg
            rcases HO.out.2 with ⟨rfl, _⟩ | ⟨g', cap, cur, rfl, hge, _⟩
            · simp [Value.ownBlock] at hg
            · simp [Value.ownBlock] at hg; omega)
          clear hown' hgrow
          go_wp2_with fail
          go_roundw
          case rel => exact ⟨k + 1, by omega, by go_num, hb1, HO'.out⟩
          case measure => simp [intOf]; omega
    · obtain rfl : k = longL xs := by omega
      obtain ⟨a, c', rfl, hs⟩ := own_slice HO.out (fun x hx => by
        unfold row at hx
        obtain ⟨i, _, rfl⟩ := List.mem_map.1 hx
        exact ⟨by have := HBD.out i; omega, (HBD.out i).2⟩)
      go_wp2_with fail
      refine (cut_any _ _ _ _ _ hs).mono ?_
      rintro e w' ⟨a1, l1, c1, rfl, hs1, rfl⟩
      go_wp2_with fail
      go_ret
      exact ⟨_, _, _, rfl, hs1, hb⟩
end Go.Proofs.Ytdoghihjanlgpaa
