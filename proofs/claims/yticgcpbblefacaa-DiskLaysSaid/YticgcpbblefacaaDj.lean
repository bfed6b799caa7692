/- DiskLays. -/
import Derived.Test.YticgcpbblefacaaDh
namespace Go.Proofs.Yticgcpbblefacaa
open Go.RowKit
attribute [local go_sem] bs_size bs_getElem bs_list bs_append

def fileF : Bytes := [102]
theorem laid_first (s : Bytes) : laidL [] 0 s = s := by simp [laidL, zeros]
theorem laid_get (s data : Bytes) (k i : Nat) (h : i < (laidL s k data).length) : (laidL s k data)[i] = if h1 : k ≤ i ∧ i < k + data.length then data[i - k]'(by omega) else if h2 : i < s.length then s[i] else 0 := by
  have hl := h
  rw [laid_len] at hl
  simp only [laidL]
  by_cases c1 : i < k
  · rw [List.getElem_append_left (by simp [zeros]; omega), List.getElem_append_left (by simp [zeros]; omega), List.getElem_take, dif_neg (by omega)]
    by_cases c2 : i < s.length
    · rw [List.getElem_append_left c2, dif_pos c2]
    · rw [List.getElem_append_right (by omega), dif_neg c2]
      simp [zeros]
  · by_cases c3 : i < k + data.length
    · rw [List.getElem_append_left (by simp [zeros]; omega), List.getElem_append_right (by simp [zeros]; omega), dif_pos ⟨by omega, c3⟩]
      congr 1
      simp [zeros]
      omega
    · have hs : i < s.length := by omega
      rw [List.getElem_append_right (by simp [zeros]; omega), List.getElem_drop, dif_neg (by omega), dif_pos hs]
      rw [List.getElem_append_left (by simp [zeros]; omega)]
      congr 1
      simp [zeros]
      omega
theorem get_put_same (fs : Files) (k v : Bytes) : get (put fs k v) k = some v := by rw [get_put]; simp

set_option maxHeartbeats 4000000 in
set_option maxRecDepth 100000 in
theorem law_lays (s : Bytes) (n : Int) (data : Bytes) (w : World) (hs : s.length ≤ 9223372036854775807) (hn : I64 n) (hd : data.length ≤ 9223372036854775807) :
    Calls Try.prog 3 #[.string (bs s), .int .i64 n, .string (bs data)] w fun e w' => e = .returned (.bool true) ∧ Below w.heap.size w w' := by
  have HN := Lib.hid hn
  clear hn
  by_cases hgood : s.length ≤ 1000 ∧ 0 ≤ n ∧ n ≤ 2000 ∧ data.length ≤ 1000
  case neg =>
    have HG := Lib.hid hgood
    have HA := Lib.hid (awake_any w)
    clear hgood
    by_cases c1 : s.length ≤ 1000
    · have d1 : decide ((1000 : Int) < (s.length : Int)) = false := by simp; omega
      by_cases c2 : n < 0
      · have d2 : decide (n < 0) = true := by simpa using c2
        go_enter Try.func3, Try.ntmps3
        go_wp2_with fail
        refine HA.out.mono ?_
        rintro e w1 ⟨rfl, hb⟩
        go_wp2_with fail
        go_ret
        exact ⟨rfl, hb⟩
      · have d2 : decide (n < 0) = false := by simpa using c2
        by_cases c3 : 2000 < n
        · have d3 : decide (2000 < n) = true := by simpa using c3
          go_enter Try.func3, Try.ntmps3
          go_wp2_with fail
          refine HA.out.mono ?_
          rintro e w1 ⟨rfl, hb⟩
          go_wp2_with fail
          go_ret
          exact ⟨rfl, hb⟩
        · have d3 : decide (2000 < n) = false := by simpa using c3
          have d4 : 1000 < data.length := by have := HG.out; omega
          go_enter Try.func3, Try.ntmps3
          go_wp2_with fail
          refine HA.out.mono ?_
          rintro e w1 ⟨rfl, hb⟩
          go_wp2_with fail
          go_ret
          exact ⟨rfl, hb⟩
    · have d1 : 1000 < s.length := by omega
      go_enter Try.func3, Try.ntmps3
      go_wp2_with fail
      refine HA.out.mono ?_
      rintro e w1 ⟨rfl, hb⟩
      go_wp2_with fail
      go_ret
      exact ⟨rfl, hb⟩
  case pos =>
    obtain ⟨g1, g2, g3, g4⟩ := hgood
    obtain ⟨k, rfl⟩ : ∃ k : Nat, n = (k : Int) := ⟨n.toNat, by omega⟩
    have g3' : k ≤ 2000 := by omega
    go_enter Try.func3, Try.ntmps3
    go_wp2_with fail
    refine (new_any 10000 (by decide) (by decide) w).mono ?_
    rintro e w1 ⟨d, nb, fb, rfl, h1, hb1⟩
    have HB1 := Lib.hid hb1
    have HW1 := Lib.hid (write_ok (st := ⟨10000, [], [], [], 0, false⟩) ⟨fileF, 0, s⟩ h1 rfl rfl (Nat.le_of_ble_eq_true rfl) (Nat.le_of_ble_eq_true rfl) (Nat.le_of_ble_eq_true rfl) (Nat.le_of_ble_eq_true rfl) (Nat.le_of_ble_eq_true rfl) (short_of rfl) (by show s.length ≤ _; omega) (Nat.le_of_ble_eq_true rfl) (by show tot [] + (0 + s.length) ≤ 10000; simp [tot]; omega))
    clear h1 hb1
    go_wp2_with fail
    refine HW1.out.mono ?_
    rintro e w2 ⟨v2, rfl, h2, hb2⟩
    have hnow : (wrote ⟨10000, [], [], [], 0, false⟩ ⟨fileF, 0, s⟩).now = [(fileF, s)] := by
      show [(fileF, laidL [] 0 s)] = _
      rw [laid_first]
    have hsh : Short 100000000 (wrote ⟨10000, [], [], [], 0, false⟩ ⟨fileF, 0, s⟩).now := by
      rw [hnow]
      intro e he
      cases List.mem_singleton.1 he
      show s.length ≤ _
      omega
    have HB2 := Lib.hid (HB1.out.trans hb2)
    have HW2 := Lib.hid (write_ok (st := wrote ⟨10000, [], [], [], 0, false⟩ ⟨fileF, 0, s⟩) ⟨fileF, k, data⟩ h2 rfl rfl (Nat.le_of_ble_eq_true rfl) (Nat.le_of_ble_eq_true rfl) (by show k ≤ 10000; omega) (Nat.le_of_ble_eq_true rfl) (Nat.le_of_ble_eq_true rfl) hsh (by show data.length ≤ _; omega) (by show k ≤ _; omega) (by rw [hnow]; show s.length + 0 + (k + data.length) ≤ 10000; omega))
    have hget : get (wrote (wrote ⟨10000, [], [], [], 0, false⟩ ⟨fileF, 0, s⟩) ⟨fileF, k, data⟩).now fileF = some (laidL s k data) := by
      show get (doneL (wrote ⟨10000, [], [], [], 0, false⟩ ⟨fileF, 0, s⟩).now ⟨fileF, k, data⟩ false) fileF = _
      rw [hnow]
      rfl
    have HGET := Lib.hid hget
    clear h2 hb2 hnow hsh hget
    go_wp2_with fail
    refine HW2.out.mono ?_
    rintro e w3 ⟨v3, rfl, h3, hb3⟩
    have HB3 := Lib.hid (HB2.out.trans hb3)
    have hrd := read_any h3 rfl fileF (by decide) (by decide)
    rw [HGET.out] at hrd
    obtain ⟨T, hT⟩ : ∃ T, T = laidL s k data := ⟨_, rfl⟩
    simp only [Option.getD_some, Option.isSome_some, if_true] at hrd
    rw [← hT] at hrd
    have hTl : T.length = max s.length (k + data.length) := by rw [hT, laid_len]
    have HRD := Lib.hid hrd
    have HT := Lib.hid hT
    clear h3 hb3 hrd hT
    go_wp2_with fail
    refine HRD.out.mono ?_
    rintro e w4 ⟨rfl, rfl⟩
    have hmx : max (s.length : Int) ((k : Int) + (data.length : Int)) = (T.length : Int) := by omega
    have hTb : T.length ≤ 4000 := by omega
    have HTL := Lib.hid hTl
    clear hTl
    go_wp2_with fail
    go_loopw [11] (fun i wr => ∃ j : Nat, j ≤ T.length ∧ i = .int .i64 (j : Nat) ∧ wr = w3) (fun i _ => T.length - (intOf i).toNat)
    case atStart => exact ⟨0, Nat.zero_le _, rfl, rfl⟩
    case round =>
      obtain ⟨j, hj, rfl, rfl⟩ := hrel
      rcases Nat.lt_or_ge j T.length with hlt | hge
      · have hTj : T[j] = if h1 : k ≤ j ∧ j < k + data.length then data[j - k]'(by omega) else if h2 : j < s.length then s[j] else 0 := by
          have := laid_get s data k j (by rw [← HT.out]; exact hlt)
          rw [← this]
          congr 1
        by_cases c2 : k ≤ j ∧ j < k + data.length
        · rw [dif_pos c2] at hTj
          obtain ⟨c2, c3⟩ := c2
          have e1 : (j : Int) - (k : Int) = ((j - k : Nat) : Int) := by omega
          have e2 : j - k < data.length := by omega
          by_cases c1 : j < s.length
          · go_wp2_with fail
            exact ⟨⟨j + 1, hlt, by go_num, trivial⟩, by simp [intOf]; omega⟩
          · go_wp2_with fail
            exact ⟨⟨j + 1, hlt, by go_num, trivial⟩, by simp [intOf]; omega⟩
        · rw [dif_neg c2] at hTj
          by_cases c4 : k ≤ j
          · have c3 : ¬ j < k + data.length := fun h => c2 ⟨c4, h⟩
            clear c2
            by_cases c1 : j < s.length
            · rw [dif_pos c1] at hTj
              go_wp2_with fail
              exact ⟨⟨j + 1, hlt, by go_num, trivial⟩, by simp [intOf]; omega⟩
            · exfalso
              have := HTL.out
              omega
          · clear c2
            by_cases c1 : j < s.length
            · rw [dif_pos c1] at hTj
              go_wp2_with fail
              exact ⟨⟨j + 1, hlt, by go_num, trivial⟩, by simp [intOf]; omega⟩
            · rw [dif_neg c1] at hTj
              go_wp2_with fail
              exact ⟨⟨j + 1, hlt, by go_num, trivial⟩, by simp [intOf]; omega⟩
      · have hnot : decide ((j : Int) < (T.length : Int)) = false := by simp; omega
        go_wp2_with fail
        refine (awake_any _).mono ?_
        rintro e w5 ⟨rfl, hb5⟩
        have HB5 := Lib.hid (HB3.out.trans (hb5.mono HB3.out.size))
        clear hb5
        go_wp2_with fail
        go_ret
        exact ⟨rfl, HB5.out⟩
end Go.Proofs.Yticgcpbblefacaa
