/- The law on a full net. -/
import Derived.Test.YtnefjmgpbbgifaaE
namespace Go.Proofs.Ytnefjmgpbbgifaa
open Go.RowKit
attribute [local go_sem] bs_size bs_getElem bs_list bs_append

def zp : Pk := ⟨0, 1, []⟩
theorem pv_zp : pv zp = Value.agg #[.int .i64 0, .int .i64 1, .string ⟨#[]⟩] := rfl

/-- one more z in the net -/
theorem send_zp {B : Nat} {w0 w : World} {gN : Nat} {v : Value} (k : Nat) (hk : k ≤ 700) (h : Net B w0 w gN 2 ((min k 500 : Nat) : Int) v (List.replicate (min k 500) zp)) :
    Calls Try.prog 11 #[.pointer (some ⟨gN, 0, none⟩), .agg #[.int .i64 0, .int .i64 1, .string ⟨#[]⟩]] w fun e w' => ∃ v', e = .returned (.int .i64 (if 500 ≤ k then 41 else 0)) ∧ Net B w0 w' gN 2 ((min (k + 1) 500 : Nat) : Int) v' (List.replicate (min (k + 1) 500) zp) := by
  have h1 := send_rest gN 2 _ v _ zp w h.net (by decide) (by decide) (by decide) (by omega) (by omega) (by rw [List.length_replicate]; omega) (by decide)
  rw [pv_zp] at h1
  refine h1.mono ?_
  rintro e w' ⟨v', rfl, hN, hk', hv⟩
  have hzl : ¬ zp.d.length > 60000 := by decide
  simp only [hzl, if_false, false_or, List.length_replicate] at hN ⊢
  by_cases hf : 500 ≤ k
  · rw [if_pos (by omega), if_pos (by omega)] at hN
    rw [if_pos (by omega), if_pos hf]
    refine ⟨v', rfl, ?_⟩
    have e1 : min (k + 1) 500 = min k 500 := by omega
    rw [e1]
    exact h.step hN hk' hv
  · rw [if_neg (by omega), if_neg (by omega)] at hN
    rw [if_neg (by omega), if_neg hf]
    refine ⟨v', rfl, ?_⟩
    have e1 : min (k + 1) 500 = min k 500 + 1 := by omega
    rw [e1, List.replicate_succ']
    have := h.step hN hk' hv
    simpa using this

set_option maxRecDepth 100000 in
set_option maxHeartbeats 3200000 in
theorem law_full (many : Int) (w : World) : Calls Try.prog 4 #[.int .i64 many] w fun e w' => e = .returned (.bool true) ∧ Below w.heap.size w w' := by
  by_cases h0 : many < 0
  · have hd : decide (many < 0) = true := decide_eq_true h0
    go_enter Try.func4, Try.ntmps4
    go_wp2_with fail
    refine (awake_any _).mono ?_
    rintro e w9 ⟨rfl, hb9⟩
    go_wp2_with fail
    go_ret
    exact ⟨rfl, hb9⟩
  have hd0 : decide (many < 0) = false := decide_eq_false h0
  by_cases h1 : many > 600
  · have hd : decide (many > 600) = true := decide_eq_true h1
    go_enter Try.func4, Try.ntmps4
    go_wp2_with fail
    refine (awake_any _).mono ?_
    rintro e w9 ⟨rfl, hb9⟩
    go_wp2_with fail
    go_ret
    exact ⟨rfl, hb9⟩
  have hd1 : decide (many > 600) = false := decide_eq_false h1
  obtain ⟨m, rfl⟩ : ∃ m : Nat, many = m := ⟨many.toNat, by omega⟩
  have hm : m ≤ 600 := by omega
  clear h0 h1
  go_enter Try.func4, Try.ntmps4
  go_wp2_with fail
  refine (new_ok 2 (by decide) (by decide) _).mono ?_
  rintro e w1 ⟨gN, rfl, hN, hb, hge⟩
  have hN1 : Net w.heap.size w w1 gN 2 ((min 0 500 : Nat) : Int) _ (List.replicate (min 0 500) zp) := ⟨hN, hb, hge, fun g hg => by simp [Value.ownBlock] at hg, hb.size⟩
  have H1 := Lib.hid hN1
  clear hN hb hN1
  go_wp2_with fail
  go_loopw [5] (fun i wr => ∃ (k : Nat) (v : Value), k ≤ m ∧ i = .int .i64 k ∧ Net w.heap.size w wr gN 2 ((min k 500 : Nat) : Int) v (List.replicate (min k 500) zp)) (fun i _ => m - (intOf i).toNat)
  case atStart => exact ⟨0, _, by omega, rfl, H1.out⟩
  case round =>
    obtain ⟨k, v, hk, rfl, hR⟩ := hrel
    rcases Nat.lt_or_ge k m with hlt | hge'
    · have HS := Lib.hid (send_zp k (by omega) hR)
      clear hR
      by_cases hf : 500 ≤ k
      · have hdf : decide ((k : Int) < 500) = false := decide_eq_false (by omega)
        go_wp2_with fail
        refine HS.out.mono ?_
        rintro e w2 ⟨v2, rfl, hR2⟩
        rw [if_pos hf]
        have HR := Lib.hid hR2
        clear hR2
        go_wp2_with fail
        exact ⟨⟨k + 1, v2, by omega, by go_num, HR.out⟩, by simp [intOf]; omega⟩
      · have hdf : decide ((k : Int) < 500) = true := decide_eq_true (by omega)
        go_wp2_with fail
        refine HS.out.mono ?_
        rintro e w2 ⟨v2, rfl, hR2⟩
        rw [if_neg hf]
        have HR := Lib.hid hR2
        clear hR2
        go_wp2_with fail
        exact ⟨⟨k + 1, v2, by omega, by go_num, HR.out⟩, by simp [intOf]; omega⟩
    · obtain rfl : k = m := by omega
      rcases Nat.lt_or_ge k 500 with hA | hB
      · have hx : ¬ (500 : Int) < (k : Int) := by omega
        have hy : decide ((k : Int) < 500) = true := decide_eq_true (by omega)
        rw [Nat.min_eq_left (by omega)] at hR
        have HR := Lib.hid hR
        clear hR
        have hlen : (List.replicate k zp).length = k := List.length_replicate
        go_wp2_with fail
        refine (len_is gN 2 _ v _ _ HR.out.net).mono ?_
        rintro e w2 ⟨rfl, rfl⟩
        rw [hlen]
        go_wp2_with fail
        refine (sent_is gN 2 _ v _ _ HR.out.net).mono ?_
        rintro e w2 ⟨rfl, rfl⟩
        go_wp2_with fail
        refine (len_is gN 2 _ v _ _ HR.out.net).mono ?_
        rintro e w2 ⟨rfl, rfl⟩
        rw [hlen]
        go_wp2_with fail
        refine (awake_any _).mono ?_
        rintro e w3 ⟨rfl, hb3⟩
        have hb4 := (HR.out.stay hb3).below
        go_wp2_with fail
        go_ret
        exact ⟨rfl, hb4⟩
      · have hy : decide ((k : Int) < 500) = false := decide_eq_false (by omega)
        rw [Nat.min_eq_right (by omega)] at hR
        have HR := Lib.hid hR
        clear hR
        obtain ⟨ps, hps⟩ : ∃ ps, ps = List.replicate 500 zp := ⟨_, rfl⟩
        have hlen : ps.length = 500 := by rw [hps, List.length_replicate]
        rw [← hps] at HR
        clear hps
        have HT := Lib.hid (show (3 : Nat) < ps.length from by omega)
        have HT0 := Lib.hid (show (0 : Nat) < ps.length from by omega)
        have HT1 := Lib.hid (show (0 : Nat) < (ps.eraseIdx 3).length from by rw [List.length_eraseIdx_of_lt (by omega)]; omega)
        have HT2 := Lib.hid (show ¬ 500 ≤ (ps.eraseIdx 3).length from by rw [List.length_eraseIdx_of_lt (by omega)]; omega)
        have hm5 : ps.length ≤ 1000000 := by omega
        have HM5 := Lib.hid hm5
        have HL := Lib.hid hlen
        clear hlen hm5
        rcases Nat.lt_or_ge 500 k with hC | hC
        · have hx : (500 : Int) < (k : Int) := by omega
          go_wp2_with fail
          refine (len_is gN 2 _ v _ _ HR.out.net).mono ?_
          rintro e w2 ⟨rfl, rfl⟩
          rw [HL.out]
          go_wp2_with fail
          refine (sent_is gN 2 _ v _ _ HR.out.net).mono ?_
          rintro e w2 ⟨rfl, rfl⟩
          go_wp2_with fail
          refine (len_is gN 2 _ v _ _ HR.out.net).mono ?_
          rintro e w2 ⟨rfl, rfl⟩
          rw [HL.out]
          go_wp2_with fail
          refine (twice_ok gN 2 _ _ _ 0 _ HR.out.net HT0.out HM5.out).mono ?_
          rintro e w3 ⟨v3, rfl, hN3, hk3, hv3⟩
          have hge5 : 500 ≤ ps.length := by rw [HL.out]; exact Nat.le_refl _
          rw [if_pos hge5] at hN3 ⊢
          have H3 := Lib.hid (HR.out.step hN3 hk3 hv3)
          clear hN3 hk3 hv3 hge5
          go_wp2_with fail
          refine (take_ok gN 2 _ _ _ 3 _ H3.out.net HT.out HM5.out).mono ?_
          rintro e w4 ⟨v4, rfl, hN4, hk4, hv4⟩
          have H4 := Lib.hid (H3.out.step hN4 hk4 (Or.inl hv4))
          clear hN4 hk4 hv4
          generalize (ps[3]'HT.out) = y at *
          have H5 := Lib.hid (H4.out.stay ((Below.refl _ w4).alloc (Nat.le_refl _) (.cells #[.int .i64 y.f, .int .i64 y.t, .string (bs y.d)] 30)))
          unfold pv
          go_wp2_with fail
          refine (twice_ok gN 2 _ _ _ 0 _ H5.out.net HT1.out (Nat.le_trans (List.length_eraseIdx_le _ _) HM5.out)).mono ?_
          rintro e w6 ⟨v6, rfl, hN6, hk6, hv6⟩
          rw [if_neg HT2.out] at hN6 ⊢
          have H6 := Lib.hid (H5.out.step hN6 hk6 hv6)
          clear hN6 hk6 hv6
          go_wp2_with fail
          refine (len_is gN 2 _ _ _ _ H6.out.net).mono ?_
          rintro e w7 ⟨rfl, rfl⟩
          rw [show (ps.eraseIdx 3 ++ [(ps.eraseIdx 3)[0]'HT1.out]).length = 500 from by have h := List.length_eraseIdx_of_lt HT.out; rw [HL.out] at h; simp only [List.length_append, List.length_singleton, h]]
          go_wp2_with fail
          refine (awake_any _).mono ?_
          rintro e w8 ⟨rfl, hb8⟩
          have hb9 := (H6.out.stay hb8).below
          go_wp2_with fail
          go_ret
          exact ⟨rfl, hb9⟩
        · obtain rfl : k = 500 := by omega
          go_wp2_with fail
          refine (len_is gN 2 _ v _ _ HR.out.net).mono ?_
          rintro e w2 ⟨rfl, rfl⟩
          rw [HL.out]
          go_wp2_with fail
          refine (sent_is gN 2 _ v _ _ HR.out.net).mono ?_
          rintro e w2 ⟨rfl, rfl⟩
          go_wp2_with fail
          refine (len_is gN 2 _ v _ _ HR.out.net).mono ?_
          rintro e w2 ⟨rfl, rfl⟩
          rw [HL.out]
          go_wp2_with fail
          refine (twice_ok gN 2 _ _ _ 0 _ HR.out.net HT0.out HM5.out).mono ?_
          rintro e w3 ⟨v3, rfl, hN3, hk3, hv3⟩
          have hge5 : 500 ≤ ps.length := by rw [HL.out]; exact Nat.le_refl _
          rw [if_pos hge5] at hN3 ⊢
          have H3 := Lib.hid (HR.out.step hN3 hk3 hv3)
          clear hN3 hk3 hv3 hge5
          go_wp2_with fail
          refine (take_ok gN 2 _ _ _ 3 _ H3.out.net HT.out HM5.out).mono ?_
          rintro e w4 ⟨v4, rfl, hN4, hk4, hv4⟩
          have H4 := Lib.hid (H3.out.step hN4 hk4 (Or.inl hv4))
          clear hN4 hk4 hv4
          generalize (ps[3]'HT.out) = y at *
          have H5 := Lib.hid (H4.out.stay ((Below.refl _ w4).alloc (Nat.le_refl _) (.cells #[.int .i64 y.f, .int .i64 y.t, .string (bs y.d)] 30)))
          unfold pv
          go_wp2_with fail
          refine (twice_ok gN 2 _ _ _ 0 _ H5.out.net HT1.out (Nat.le_trans (List.length_eraseIdx_le _ _) HM5.out)).mono ?_
          rintro e w6 ⟨v6, rfl, hN6, hk6, hv6⟩
          rw [if_neg HT2.out] at hN6 ⊢
          have H6 := Lib.hid (H5.out.step hN6 hk6 hv6)
          clear hN6 hk6 hv6
          go_wp2_with fail
          refine (len_is gN 2 _ _ _ _ H6.out.net).mono ?_
          rintro e w7 ⟨rfl, rfl⟩
          rw [show (ps.eraseIdx 3 ++ [(ps.eraseIdx 3)[0]'HT1.out]).length = 500 from by have h := List.length_eraseIdx_of_lt HT.out; rw [HL.out] at h; simp only [List.length_append, List.length_singleton, h]]
          go_wp2_with fail
          refine (awake_any _).mono ?_
          rintro e w8 ⟨rfl, hb8⟩
          have hb9 := (H6.out.stay hb8).below
          go_wp2_with fail
          go_ret
          exact ⟨rfl, hb9⟩
end Go.Proofs.Ytnefjmgpbbgifaa
