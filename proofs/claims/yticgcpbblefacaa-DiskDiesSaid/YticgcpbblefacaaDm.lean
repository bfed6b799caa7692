/- DiskDies. -/
import Derived.Test.YticgcpbblefacaaDh
namespace Go.Proofs.Yticgcpbblefacaa
open Go.RowKit
attribute [local go_sem] bs_size bs_getElem bs_list bs_append

def wx : Wr := ⟨fileA, 0, [120]⟩
structure Inv (at_ : Int) (j : Nat) (st : DS) : Prop where
  lim : st.limit = 1000
  firm : st.firm = []
  now : st.now = [] ∨ st.now = [(fileA, [120])]
  acts : ∀ a ∈ st.acts, a = wx
  len : st.acts.length ≤ j
  live : (at_ < 1 ∨ (j : Int) < at_) → st.dead = false ∧ st.armed = (if at_ < 1 then 0 else at_ - j)
  gone : ¬ (at_ < 1 ∨ (j : Int) < at_) → st.dead = true
theorem Inv.start (at_ : Int) : Inv at_ 0 ⟨1000, [], [], [], max at_ 0, false⟩ :=
  ⟨rfl, rfl, .inl rfl, (fun _ h => by cases h), Nat.zero_le _, (fun h => ⟨rfl, by show max at_ 0 = _; split <;> omega⟩), (fun h => by exfalso; omega)⟩
theorem Inv.step {at_ : Int} {j : Nat} {st : DS} (h : Inv at_ j st) (hl : at_ < 1 ∨ (j : Int) < at_) : Inv at_ (j + 1) (writeSt st wx) ∧ (writeSt st wx).dead = decide (¬ at_ < 1 ∧ (j : Int) + 1 = at_) := by
  obtain ⟨hdead, harm⟩ := h.live hl
  obtain ⟨l, n, f, ac, ar, de⟩ := st
  simp only at hdead harm
  subst hdead
  have hacts : ∀ a ∈ ac ++ [wx], a = wx := by
    intro a ha
    rcases List.mem_append.1 ha with ha | ha
    · exact h.acts a ha
    · simpa using ha
  have hlen : (ac ++ [wx]).length ≤ j + 1 := by have := h.len; simp at this ⊢; omega
  have hdone : doneL n wx false = [(fileA, [120])] := by
    rcases h.now with e | e
    · simp only at e; subst e; rfl
    · simp only at e; subst e; rfl
  by_cases c : at_ < 1
  · rw [if_pos c] at harm
    subst harm
    have e : writeSt ⟨l, n, f, ac, 0, false⟩ wx = ⟨l, [(fileA, [120])], f, ac ++ [wx], 0, false⟩ := by
      rw [writeSt_calm rfl rfl]; simp only [wrote, hdone]
    rw [e]
    exact ⟨⟨h.lim, h.firm, .inr rfl, hacts, hlen, (fun _ => ⟨rfl, by rw [if_pos c]⟩), (fun hn => absurd (.inl c) hn)⟩, by simp [c]⟩
  · rw [if_neg c] at harm
    have hj : (j : Int) < at_ := by omega
    have hpos : 0 < ar := by omega
    have hd : diesSt ⟨l, n, f, ac ++ [wx], ar, false⟩ = ⟨l, n, f, ac ++ [wx], ar - 1, decide (ar - 1 = 0)⟩ := by unfold diesSt; rw [if_pos hpos]
    by_cases c1 : (j : Int) + 1 = at_
    · have hz : ar - 1 = 0 := by omega
      have e : writeSt ⟨l, n, f, ac, ar, false⟩ wx = ⟨l, n, f, ac ++ [wx], ar - 1, true⟩ := by
        unfold writeSt; simp only [hd]; simp [hz]
      rw [e]
      exact ⟨⟨h.lim, h.firm, h.now, hacts, hlen, (fun hl => by exfalso; omega), (fun _ => rfl)⟩, by simp [c1]; omega⟩
    · have hz : ¬ ar - 1 = 0 := by omega
      have e : writeSt ⟨l, n, f, ac, ar, false⟩ wx = ⟨l, [(fileA, [120])], f, ac ++ [wx], ar - 1, false⟩ := by
        unfold writeSt; simp only [hd]; simp [hz, hdone]
      rw [e]
      exact ⟨⟨h.lim, h.firm, .inr rfl, hacts, hlen, (fun _ => ⟨rfl, by rw [if_neg c]; show ar - 1 = _; omega⟩), (fun hn => by exfalso; omega)⟩, by simp [c1]⟩
theorem Inv.stay {at_ : Int} {j : Nat} {st : DS} (h : Inv at_ j st) (hl : ¬ (at_ < 1 ∨ (j : Int) < at_)) : Inv at_ (j + 1) st :=
  ⟨h.lim, h.firm, h.now, h.acts, Nat.le_succ_of_le h.len, (fun hl' => by exfalso; omega), (fun _ => h.gone hl)⟩
theorem kbit_zero (i : Nat) : kbit 0 i = false := by
  unfold kbit
  rw [Int.zero_ediv]
  kernel_rfl
theorem kept_none (f : Nat → Bool) (hf : ∀ i, f i = false) : ∀ (l : List Wr) (i : Nat), kept f i l = []
  | [], _ => rfl
  | _ :: l, i => by unfold kept; rw [hf, if_neg (by decide)]; exact kept_none f hf l (i + 1)

set_option maxHeartbeats 4000000 in
set_option maxRecDepth 100000 in
theorem law_dies (at_ many : Int) (w : World) (hat : I64 at_) (_hmany : I64 many) : Calls Try.prog 6 #[.int .i64 at_, .int .i64 many] w fun e w' => e = .returned (.bool true) ∧ Below w.heap.size w w' := by
  obtain ⟨M, hM⟩ : ∃ M : Int, M = max many 0 := ⟨_, rfl⟩
  obtain ⟨N, hN⟩ : ∃ N : Nat, (N : Int) = min M 200 := ⟨(min M 200).toNat, by omega⟩
  have r1 : max many 0 = M := hM.symm
  have r2 : min M 200 = (N : Int) := hN.symm
  have hN2 : N ≤ 200 := by omega
  have HAT := Lib.hid hat
  clear hM hN hat
  go_enter Try.func6, Try.ntmps6
  go_wp2_with fail
  refine (new_any 1000 (by decide) (by decide) w).mono ?_
  rintro e w1 ⟨d, nb, fb, rfl, h1, hb1⟩
  have HB1 := Lib.hid hb1
  have H1 := Lib.hid h1
  clear h1 hb1
  go_wp2_with fail
  refine (arm_any H1.out at_).mono ?_
  rintro e w2 ⟨rfl, h2, hg2⟩
  have H2 := Lib.hid h2
  have HB2 := Lib.hid (HB1.out.grown hg2 HB1.out.size (fun k hk => by cases hk; exact h2.bd))
  clear h2 hg2
  go_wp2_with fail
  go_loopw [8] (fun i wr => ∃ (j : Nat) (st : DS) (v : Value), j ≤ N ∧ i = .int .i64 (((j + 1 : Nat)) : Int) ∧ Inv at_ j st ∧ Dsk w.heap.size wr d nb fb v st ∧ Below w.heap.size w wr) (fun i _ => 300 - (intOf i).toNat)
  case atStart => exact ⟨0, _, _, Nat.zero_le _, rfl, Inv.start at_, H2.out, HB2.out⟩
  case round =>
    obtain ⟨j, st, v, hj, rfl, hI, hD, hB⟩ := hrel
    have HI := Lib.hid hI
    have HD := Lib.hid hD
    have HBX := Lib.hid hB
    clear hI hD hB
    rcases Nat.lt_or_ge j N with hlt | hge
    · have hwr : ∃ code : Int, code = (if at_ < 1 ∨ (j : Int) + 1 < at_ then 0 else 42) ∧ Calls Try.prog 10 #[.pointer (some ⟨d, 0, none⟩), .string ⟨#[97]⟩, .int .i64 0, .string ⟨#[120]⟩] wr fun e w' => e = .returned (.int .i64 code) ∧ ∃ v' st', Inv at_ (j + 1) st' ∧ Dsk w.heap.size w' d nb fb v' st' ∧ Below w.heap.size w w' := by
        have hI := HI.out
        by_cases hl : at_ < 1 ∨ (j : Int) < at_
        · obtain ⟨hdead, harm⟩ := hI.live hl
          obtain ⟨hs1, hs2⟩ := hI.step hl
          have hat := HAT.out
          have hlen := hI.len
          refine ⟨if (writeSt st wx).dead then 42 else 0, ?_, ?_⟩
          · rw [hs2]
            by_cases c : at_ < 1
            · simp [c]
            · by_cases c1 : (j : Int) + 1 = at_
              · simp [c1]; omega
              · have : (j : Int) + 1 < at_ := by omega
                simp [c1, this]
          · have hsn : Short 100000000 st.now := by rcases hI.now with e | e <;> rw [e] <;> exact short_of rfl
            have htn : tot st.now ≤ 1 := by rcases hI.now with e | e <;> rw [e] <;> decide
            have hw := write_any wx HD.out hdead (Nat.le_of_ble_eq_true rfl) (Nat.le_of_ble_eq_true rfl) (by rw [hI.lim]; exact Nat.le_of_ble_eq_true rfl) (by rw [hI.lim]; decide) (by omega) (by rw [harm]; unfold I64 at hat; split <;> omega) hsn (Nat.le_of_ble_eq_true rfl) (Nat.le_of_ble_eq_true rfl) (by rw [hI.lim]; show tot st.now + (0 + 1) ≤ 1000; omega)
            exact hw.mono fun e w' ⟨v', he, hd, hb⟩ => ⟨he, v', _, hs1, hd, HBX.out.trans hb⟩
        · have hw := write_dead (w := wr) fileA [120] 0 HD.out (hI.gone hl)
          refine ⟨42, by rw [if_neg (by omega)], hw.mono fun e w' ⟨he, hb⟩ => ⟨he, v, st, hI.stay hl, HD.out.later hb, HBX.out.trans (hb.mono HBX.out.size)⟩⟩
      obtain ⟨code, hcode, hcall⟩ := hwr
      have HC := Lib.hid hcall
      clear hcall HI HD HBX
      by_cases c : at_ < 1
      case' pos =>
        rw [if_pos (.inl c)] at hcode
        subst hcode
        go_wp2_with fail
        refine HC.out.mono ?_
        rintro e w3 ⟨rfl, v', st', hI, hD, hB⟩
        have HI := Lib.hid hI
        have HD := Lib.hid hD
        have HBX := Lib.hid hB
        clear hI hD hB
        go_wp2_with fail
      case' neg =>
        by_cases c1 : (j : Int) + 1 < at_
        case' pos =>
          rw [if_pos (.inr c1)] at hcode
        case' neg =>
          rw [if_neg (by omega)] at hcode
        all_goals
          subst hcode
          go_wp2_with fail
          refine HC.out.mono ?_
          rintro e w3 ⟨rfl, v', st', hI, hD, hB⟩
          have HI := Lib.hid hI
          have HD := Lib.hid hD
          have HBX := Lib.hid hB
          clear hI hD hB
          go_wp2_with fail
      all_goals exact ⟨⟨j + 1, st', v', hlt, by go_num, HI.out, HD.out, HBX.out⟩, by simp [intOf]; omega⟩
    · have hjN : j = N := by omega
      have hnot : ¬ (j : Int) + 1 ≤ (N : Int) := by omega
      have hI := HI.out
      have hacts : ∀ a ∈ st.acts, a.at_ + a.data.length ≤ 100000000 ∧ a.at_ ≤ 8192 := fun a ha => by rw [hI.acts a ha]; exact ⟨Nat.le_of_ble_eq_true rfl, Nat.le_of_ble_eq_true rfl⟩
      have hfs : Short 100000000 st.firm := by rw [hI.firm]; exact short_of rfl
      have hlen := hI.len
      have hlim := hI.lim
      have hcr := crash_any HD.out 0 false (by omega) hfs hacts
      rw [kept_none _ kbit_zero, hI.firm, hlim] at hcr
      have HCR := Lib.hid hcr
      have hdeadc := dead_any HD.out
      have tail : ∀ w4 nb' fs, fs = runN [] false [] 0 → Dsk w.heap.size w4 d nb' fb (.slice none 0 0) ⟨1000, fs, fs, [], 0, false⟩ → Below w.heap.size wr w4 →
          (Calls Try.prog 15 #[.pointer (some ⟨d, 0, none⟩)] w4 fun e w' => e = .returned (.bool false) ∧ w4 = w') ∧ (Calls Try.prog 16 #[.pointer (some ⟨d, 0, none⟩)] w4 fun e w' => e = .returned (.int .i64 0) ∧ Dsk w.heap.size w' d nb' fb (.slice none 0 0) ⟨1000, [], [], [], 0, false⟩ ∧ Below w.heap.size w w') := by
        intro w4 nb' fs hfs h4 hb4
        obtain rfl : fs = [] := hfs
        refine ⟨dead_any h4, ?_⟩
        refine (size_any d nb' _ [] w4 h4.blk rfl h4.now (by decide)).mono fun e w' ⟨he, hb⟩ => ⟨he, h4.later hb, (HBX.out.trans hb4).trans (hb.mono (Nat.le_trans HBX.out.size hb4.size))⟩
      have TAIL := Lib.hid tail
      rcases (show at_ < 1 ∨ (1 ≤ at_ ∧ (N : Int) < at_) ∨ (1 ≤ at_ ∧ at_ ≤ (N : Int)) from by omega) with c | ⟨c, c2⟩ | ⟨c, c2⟩
      case' inl =>
        have hd0 := (hI.live (.inl c)).1
        rw [hd0] at hdeadc
        have HDC := Lib.hid hdeadc
        clear hdeadc hd0 hI tail hcr hfs hacts hlen hlim HI
      case' inr.inr.inl =>
        have hd0 := (hI.live (.inr (by omega))).1
        rw [hd0] at hdeadc
        have HDC := Lib.hid hdeadc
        clear hdeadc hd0 hI tail hcr hfs hacts hlen hlim HI
      case' inr.inr.inr =>
        have hd1 := hI.gone (by omega)
        have HSY := Lib.hid (sync_dead HD.out hd1)
        rw [hd1] at hdeadc
        have HDC := Lib.hid hdeadc
        clear hdeadc hd1 hI tail hcr hfs hacts hlen hlim HI
      all_goals
        go_wp2_with fail
        refine HDC.out.mono ?_
        rintro e w3 ⟨rfl, rfl⟩
        go_wp2_with fail
      all_goals (try (refine HSY.out.mono ?_; rintro e w3 ⟨rfl, rfl⟩; go_wp2_with fail))
      all_goals
        refine HCR.out.mono ?_
        rintro e w4 ⟨nb', fs, rfl, hfs, h4, hb4⟩
        obtain ⟨t1, t2⟩ := TAIL.out w4 nb' fs hfs h4 hb4
        have T1 := Lib.hid t1
        have T2 := Lib.hid t2
        clear t1 t2 h4 hb4 hfs
        go_wp2_with fail
        refine T1.out.mono ?_
        rintro e w5 ⟨rfl, rfl⟩
        go_wp2_with fail
        refine T2.out.mono ?_
        rintro e w6 ⟨rfl, h6, hb6⟩
        have HW6 := Lib.hid (write_ok (st := ⟨1000, [], [], [], 0, false⟩) wx h6 rfl rfl (Nat.le_of_ble_eq_true rfl) (Nat.le_of_ble_eq_true rfl) (Nat.le_of_ble_eq_true rfl) (Nat.le_of_ble_eq_true rfl) (Nat.le_of_ble_eq_true rfl) (short_of rfl) (Nat.le_of_ble_eq_true rfl) (Nat.le_of_ble_eq_true rfl) (Nat.le_of_ble_eq_true rfl))
        have HB6 := Lib.hid hb6
        clear h6 hb6
        go_wp2_with fail
        refine HW6.out.mono ?_
        rintro e w7 ⟨v7, rfl, _, hb7⟩
        have HB7 := Lib.hid (HB6.out.trans hb7)
        clear hb7
        go_wp2_with fail
        refine (awake_any _).mono ?_
        rintro e w8 ⟨rfl, hb8⟩
        have HB8 := Lib.hid (HB7.out.trans (hb8.mono HB7.out.size))
        clear hb8
        go_wp2_with fail
        go_ret
        exact ⟨rfl, HB8.out⟩
end Go.Proofs.Yticgcpbblefacaa
