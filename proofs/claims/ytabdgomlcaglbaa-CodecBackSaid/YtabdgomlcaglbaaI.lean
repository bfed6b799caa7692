/- The walk of the law on what is written and read. -/
import Derived.Test.YtabdgomlcaglbaaH
import Derived.Test.YtabdgomlcaglbaaG2
import Derived.Deep.RegionHeld3
namespace Go.Proofs.Ytabdgomlcaglbaa
open Go.RowKit
attribute [local go_sem] bs_size bs_getElem bs_list bs_append

theorem Sl.str_at {w : World} {A : Option Addr} {n c k : Nat} {xs : List (List UInt8)} (h : Sl w 1 Opens.StrB A n c xs) (hk : k < n) :
    ∃ b off, ∃ hk' : k < xs.length, A = some ⟨b, off, none⟩ ∧ b < w.heap.size ∧ w.cell? ⟨b, off + k, none⟩ = some (.string (bs xs[k])) ∧ xs[k].length ≤ 9223372036854775807 := by
  obtain ⟨b, off, cs, e, hlt, hl, ⟨rfl, hm⟩, hc⟩ := h.4 k (by rw [h.len]; exact hk)
  exact ⟨b, off, by rw [h.len]; exact hk, e, hlt, by simpa using hc 0 _ rfl, hm⟩
theorem Sl.num_at {w : World} {A : Option Addr} {n c k : Nat} {xs : List Int} (h : Sl w 1 IntC A n c xs) (hk : k < n) :
    ∃ b off, ∃ hk' : k < xs.length, A = some ⟨b, off, none⟩ ∧ b < w.heap.size ∧ w.cell? ⟨b, off + k, none⟩ = some (.int .i64 xs[k]) ∧ I64 xs[k] := by
  obtain ⟨b, off, cs, e, hlt, hl, ⟨rfl, hm⟩, hc⟩ := h.4 k (by rw [h.len]; exact hk)
  exact ⟨b, off, by rw [h.len]; exact hk, e, hlt, by simpa using hc 0 _ rfl, hm⟩

theorem Num_is (g : Nat) (d : List UInt8) (a : Nat) (e : Int) (a' : Nat) (e' : Int) (u : Nat) (v : Int) (w : World) (h : numS d a e = (a', e', u)) (hv : toI u = v) (hR : Rd w g d a e) (ha : a ≤ d.length) (hd : d.length ≤ 9223372036854775807) :
    Calls Try.prog 17 #[.pointer (some ⟨g, 0, none⟩)] w fun r w' => r = .returned (.int .i64 v) ∧ Rd w' g d a' e' ∧ w.grownBy w' (some g) := by
  have := Num_any g d a e w hR ha hd
  rw [h] at this
  subst hv
  exact this
theorem Text_is (g : Nat) (d : List UInt8) (a : Nat) (e : Int) (a' : Nat) (e' : Int) (t : List UInt8) (w : World) (h : textS d a e = (a', e', t)) (hR : Rd w g d a e) (ha : a ≤ d.length) (hd : d.length ≤ 9223372036854775807) :
    Calls Try.prog 15 #[.pointer (some ⟨g, 0, none⟩)] w fun r w' => r = .returned (.string (bs t)) ∧ Rd w' g d a' e' ∧ w.grownBy w' (some g) := by
  have := Text_any g d a e w hR ha hd
  rw [h] at this
  exact this
theorem num_item {xs : List Int} {rest : List UInt8} {k : Nat} (hk : k < xs.length) : numS (encN xs ++ rest) (encN (xs.take k)).length 0 = ((encN (xs.take (k + 1))).length, 0, u64 xs[k]) := by
  unfold numS
  rw [if_pos rfl, num_app (u64_lt _) (encN_at xs rest hk), encN_take hk, List.length_append]; rfl
theorem text_item {pre : List UInt8} {ts : List (List UInt8)} {k : Nat} (hk : k < ts.length) (hl : ts[k].length ≤ 9223372036854775807) : textS (pre ++ encT ts) (pre ++ encT (ts.take k)).length 0 = ((pre ++ encT (ts.take (k + 1))).length, 0, ts[k]) := by
  rw [text_app hl (encT_at pre ts hk), encT_take hk]
  simp only [List.length_append, Nat.add_assoc]
theorem enc_le {xs : List Int} {rest : List UInt8} {k : Nat} : (encN (xs.take k)).length ≤ (encN xs ++ rest).length := by
  have : encN xs = encN (xs.take k) ++ encN (xs.drop k) := by
    conv => lhs; rw [← List.take_append_drop k xs]
    simp only [encN, List.flatMap_append]
  rw [this]; simp only [List.length_append]; omega
theorem encT_le {pre : List UInt8} {ts : List (List UInt8)} {k : Nat} : (pre ++ encT (ts.take k)).length ≤ (pre ++ encT ts).length := by
  have : encT ts = encT (ts.take k) ++ encT (ts.drop k) := by
    conv => lhs; rw [← List.take_append_drop k ts]
    simp only [encT, List.flatMap_append]
  rw [this]; simp only [List.length_append]; omega
theorem cell_gb {w w' : World} {g b o : Nat} {v : Value} (hg : w.grownBy w' (some g)) (hb : b < w.heap.size) (hne : b ≠ g) (h : w.cell? ⟨b, o, none⟩ = some v) : w'.cell? ⟨b, o, none⟩ = some v := by
  rw [World.cell?_of_block (hg.block b hb (by intro e; cases e; exact hne rfl))]; exact h

set_option maxHeartbeats 4000000 in
theorem law_back (A : Option Addr) (n c : Nat) (xs : List Int) (A' : Option Addr) (n' c' : Nat) (ts : List (List UInt8)) (at_ : Int) (w : World) (hx : Sl w 1 IntC A n c xs) (ht : Sl w 1 Opens.StrB A' n' c' ts) (hat : I64 at_) :
    Calls Try.prog 6 #[.slice A n c, .slice A' n' c', .int .i64 at_] w fun e' w' => e' = .returned (.bool true) ∧ Below w.heap.size w w' := by
  have hcap := And.intro hx.le hx.max
  have hcap' := And.intro ht.le ht.max
  have HL := Lib.hid hx.len
  have HL' := Lib.hid ht.len
  by_cases hn : 100 < n
  · go_enter Try.func6, Try.ntmps6
    go_wp2_with fail
    refine (awake_any _).mono ?_
    rintro e w3 ⟨rfl, hb3⟩
    go_wp2_with fail
    go_ret
    exact ⟨rfl, hb3⟩
  by_cases hn' : 100 < n'
  · go_enter Try.func6, Try.ntmps6
    go_wp2_with fail
    refine (awake_any _).mono ?_
    rintro e w3 ⟨rfl, hb3⟩
    go_wp2_with fail
    go_ret
    exact ⟨rfl, hb3⟩
  have d1 : decide ((100 : Int) < n) = false := by simp; omega
  have d2 : decide ((100 : Int) < n') = false := by simp; omega
  have D1 := Lib.hid d1
  have D2 := Lib.hid d2
  go_enter Try.func6, Try.ntmps6
  go_wp2_with fail
  clear d1 d2
  -- the numbers are written
  go_loopw [7, 8] (fun s i wr => ∃ k : Nat, k ≤ n ∧ i = .int .i64 k ∧ s = .string (bs (encN (xs.take k))) ∧ Below w.heap.size w wr) (fun _ i _ => n - (intOf i).toNat)
  case atStart => exact ⟨0, Nat.zero_le _, rfl, rfl, Below.refl _ _⟩
  case round =>
    obtain ⟨k, hk, rfl, rfl, hb⟩ := hrel
    by_cases hlt : k < n
    · obtain ⟨b, off, hkx, rfl, had, hc, hi⟩ := (hx.below hb).num_at hlt
      have HT := Lib.hid (encN_take hkx)
      have hl1 : (encN (xs.take k)).length ≤ 900 := by have := (encN_len (xs.take k)).2; rw [List.length_take] at this; omega
      have hl2 : (numL xs[k]).length ≤ 9 := (numL_len _).2
      go_wp2_with fail
      refine (num_c _ _ hi).mono ?_
      rintro e w1 ⟨rfl, hb1⟩
      go_wp2_with fail
      go_roundw
      case rel => exact ⟨k + 1, by omega, by go_num, by rw [HT.out], hb.trans (hb1.mono hb.size)⟩
      case measure => simp [intOf]; omega
    · obtain rfl : k = n := by omega
      have e : xs.take k = xs := List.take_of_length_le (by rw [HL.out]; exact Nat.le_refl _)
      rw [e]
      clear e
      have hlN : (encN xs).length ≤ 900 := by have := (encN_len xs).2; rw [HL.out] at this; omega
      obtain ⟨wo, hwo⟩ : ∃ wo : World, wo = wr := ⟨_, rfl⟩
      rw [← hwo] at hb
      rw [← hwo]
      clear hwo
      go_wp2_with fail
      go_loopw [7, 9] (fun s i wr => ∃ j : Nat, j ≤ n' ∧ i = .int .i64 j ∧ s = .string (bs (encN xs ++ encT (ts.take j))) ∧ Below w.heap.size w wr ∧ ∀ t ∈ ts.take j, t.length ≤ 1000) (fun _ i _ => n' - (intOf i).toNat)
      case atStart => exact ⟨0, Nat.zero_le _, rfl, by simp [encT], hb, fun t h => absurd h (by simp)⟩
      case round =>
        obtain ⟨j, hj, rfl, rfl, hb2, hall⟩ := hrel
        have HA := Lib.hid hall
        clear hall
        by_cases hlt2 : j < n'
        · obtain ⟨b, off, hkx, rfl, had, hc, hi⟩ := (ht.below hb2).str_at hlt2
          by_cases h1000 : 1000 < ts[j].length
          · go_wp2_with fail
            refine (awake_any _).mono ?_
            rintro e w3 ⟨rfl, hb3⟩
            go_wp2_with fail
            go_ret
            exact ⟨rfl, hb2.trans (hb3.mono hb2.size)⟩
          have HT := Lib.hid (encT_take hkx)
          have HTK : Hid (ts.take (j + 1) = ts.take j ++ [ts[j]]) := List.take_succ_eq_append_getElem hkx
          have hl1 : (encN xs).length + (encT (ts.take j)).length ≤ 200000 := by
            have := (encT_len (ts.take j) HA.out).2
            rw [List.length_take] at this
            omega
          have hl2 : (textL ts[j]).length ≤ 1009 := by unfold textL; have := (numL_len (ts[j].length : Int)).2; rw [List.length_append]; omega
          have HAS := Lib.hid (List.append_assoc (encN xs) (encT (ts.take j)) (textL ts[j]))
          go_wp2_with fail
          refine (text_c _ _ (by omega)).mono ?_
          rintro e w1 ⟨rfl, hb1⟩
          go_wp2_with fail
          go_roundw
          case rel => exact ⟨j + 1, by omega, by go_num, by rw [HT.out], hb2.trans (hb1.mono hb2.size), fun t h => by
            rw [HTK.out] at h
            rcases List.mem_append.1 h with h | h
            · exact HA.out t h
            · rw [List.mem_singleton.1 h]; omega⟩
          case measure => simp [intOf]; omega
        · obtain rfl : j = n' := by omega
          have e : ts.take j = ts := List.take_of_length_le (by rw [HL'.out]; exact Nat.le_refl _)
          rw [e] at HA ⊢
          clear e hb
          have hlS : (encN xs ++ encT ts).length ≤ 200000 := by
            have := (encT_len ts HA.out).2
            rw [HL'.out] at this
            rw [List.length_append]; omega
          have hall1000 := HA
          go_wp2_with fail
          refine (Read_any _ _).mono ?_
          rintro e w1 ⟨rfl, hA1, hb1⟩
          have hb3 := hb2.trans (hb1.mono hb2.size)
          have hgl := hA1.lt
          have hwg := hb2.size
          obtain ⟨g, hg⟩ : ∃ g, g = wr.heap.size := ⟨_, rfl⟩
          rw [← hg] at hA1 hgl hwg ⊢
          have HGW := Lib.hid hg
          clear hg hb1
          have hx1 := hx.below hb3
          have ht1 := ht.below hb3
          clear hall1000
          generalize hS : encN xs ++ encT ts = S at *
          have HS := Lib.hid hS
          clear hS
          go_wp2_with fail
          -- the numbers are read
          go_loopw [11] (fun i wr => ∃ q : Nat, q ≤ k ∧ i = .int .i64 q ∧ Below w.heap.size w wr ∧ Rd wr g S (encN (xs.take q)).length 0) (fun i _ => k - (intOf i).toNat)
          case atStart => exact ⟨0, Nat.zero_le _, rfl, hb3, hA1⟩
          case round =>
            obtain ⟨q, hq, rfl, hb4, hA4⟩ := hrel
            clear hA1 hgl hx1 ht1
            by_cases hlt3 : q < k
            · obtain ⟨b, off, hkx, rfl, had, hc, hi⟩ := (hx.below hb4).num_at hlt3
              have hbw : b < w.heap.size := by
                obtain ⟨b', off', _, e, h, _⟩ := hx.num_at hlt3
                cases e; exact h
              have hit := num_item (rest := encT ts) hkx
              rw [HS.out] at hit
              have hle : (encN (xs.take q)).length ≤ S.length := by rw [← HS.out]; exact enc_le
              have HIT := Lib.hid hit
              have hti := toI_u64 hi
              have HTI := Lib.hid hti
              clear hit hti
              have hgl := hA4.lt
              go_wp2_with fail
              go_region_held3 (fun w' => w'.cell? ⟨b, off + q, none⟩ = some (.int .i64 xs[q])) (first | exact hc | exact cell_gb (w := wr.drew) ‹_› had (by omega) hc)
                (first
                  | (go_at_call 17; refine (Num_is g S _ 0 _ 0 _ _ _ HIT.out HTI.out (Blk.drew hA4) hle (by omega)).mono ?_; rintro e w' ⟨rfl, hA5, hg5⟩))
              have hgw5 : w.heap.size ≤ wr.drew.heap.size := hb4.size
              have hb5 := below_gb (hb4.drew) hg5 hwg hgw5
              clear hb4 hA4 hc had hgl hg5 hgw5
              go_wp2_with fail
              go_roundw
              case rel => exact ⟨q + 1, by omega, by go_num, hb5, hA5⟩
              case measure => simp [intOf]; omega
            · obtain rfl : q = k := by omega
              have e : xs.take q = xs := List.take_of_length_le (by rw [HL.out]; exact Nat.le_refl _)
              rw [e] at hA4
              clear e
              obtain ⟨wo2, hwo⟩ : ∃ wo : World, wo = wr := ⟨_, rfl⟩
              rw [← hwo] at hb4 hA4
              rw [← hwo]
              clear hwo
              have hA4' : Rd wo2 g S (encN xs ++ encT (ts.take 0)).length 0 := by simpa [encT] using hA4
              clear hA4
              go_wp2_with fail
              -- the texts are read
              go_loopw [12] (fun i wr => ∃ q : Nat, q ≤ j ∧ i = .int .i64 q ∧ Below w.heap.size w wr ∧ Rd wr g S (encN xs ++ encT (ts.take q)).length 0) (fun i _ => j - (intOf i).toNat)
              case atStart => exact ⟨0, Nat.zero_le _, rfl, hb4, hA4'⟩
              case round =>
                obtain ⟨r, hr, rfl, hb5, hA5⟩ := hrel
                clear hA4' hb4
                by_cases hlt4 : r < j
                · obtain ⟨b, off, hkx, rfl, had, hc, hi⟩ := (ht.below hb5).str_at hlt4
                  have hbw : b < w.heap.size := by
                    obtain ⟨b', off', _, e, h, _⟩ := ht.str_at hlt4
                    cases e; exact h
                  have hit := text_item (pre := encN xs) hkx hi
                  have hle : (encN xs ++ encT (ts.take r)).length ≤ (encN xs ++ encT ts).length := encT_le
                  rw [HS.out] at hit hle
                  have HIT := Lib.hid hit
                  clear hit
                  go_wp2_with fail
                  go_region_held3 (fun w' => w'.cell? ⟨b, off + r, none⟩ = some (.string (bs ts[r]))) (first | exact hc | exact cell_gb (w := wr.drew) ‹_› had (by omega) hc)
                    (first
                      | (go_at_call 15; refine (Text_is g S _ 0 _ 0 _ _ HIT.out (Blk.drew hA5) hle (by omega)).mono ?_; rintro e w' ⟨rfl, hA6, hg6⟩))
                  have hgw6 : w.heap.size ≤ wr.drew.heap.size := hb5.size
                  have hb6 := below_gb (hb5.drew) hg6 hwg hgw6
                  clear hb5 hA5 hc had hg6 hgw6
                  go_wp2_with fail
                  go_roundw
                  case rel => exact ⟨r + 1, by omega, by go_num, hb6, hA6⟩
                  case measure => simp [intOf]; omega
                · obtain rfl : r = j := by omega
                  have e : ts.take r = ts := List.take_of_length_le (by rw [HL'.out]; exact Nat.le_refl _)
                  rw [e, HS.out] at hA5
                  clear e
                  have hend : endS S S.length 0 = 0 := by unfold endS; rw [if_pos rfl, if_neg (by omega)]
                  have HE := Lib.hid hend
                  clear hend
                  have hgl5 := hA5.lt
                  go_wp2_with fail
                  refine (End_any _ _ _ _ _ hA5 (Nat.le_refl _) (by omega)).mono ?_
                  rintro e w6 ⟨rfl, hb6⟩
                  rw [HE.out]
                  have hb7 := hb5.trans (hb6.mono hb5.size)
                  clear hb5 hA5 hb6
                  by_cases hz : S.length = 0
                  · have hS0 : S = [] := List.length_eq_zero_iff.1 hz
                    have hxs : xs = [] ∧ ts = [] := by
                      have h1 := (encN_len xs).1
                      have h2 := (encT_len ts HA.out).1
                      have h3 := congrArg List.length HS.out
                      rw [List.length_append] at h3
                      exact ⟨List.length_eq_zero_iff.1 (by omega), List.length_eq_zero_iff.1 (by omega)⟩
                    have hq0 : q = 0 := by have := HL.out; rw [hxs.1] at this; simpa using this.symm
                    have hr0 : r = 0 := by have := HL'.out; rw [hxs.2] at this; simpa using this.symm
                    have hzi : ((S.length : Int) == 0) = true := by simp [hz]
                    subst hq0
                    subst hr0
                    clear hS0 hxs hz
                    go_wp2_with fail
                    refine (awake_any _).mono ?_
                    rintro e w9 ⟨rfl, hb9⟩
                    go_wp2_with fail
                    go_ret
                    exact ⟨rfl, hb7.trans (hb9.mono hb7.size)⟩
                  · have hL0 : (0 : Int) < (S.length : Int) := by omega
                    have hzi : ((S.length : Int) == 0) = false := by simp [hz]
                    have ht1 := Int.tmod_lt_of_pos at_ hL0
                    have ht2 := Int.lt_tmod_of_pos at_ hL0
                    obtain ⟨m, hm, hmL⟩ : ∃ m : Nat, (at_.tmod (S.length : Int) + S.length) % (S.length : Int) = (m : Int) ∧ m < S.length := by
                      have h1 := Int.emod_nonneg (at_.tmod (S.length : Int) + S.length) (by omega : (S.length : Int) ≠ 0)
                      have h2 := Int.emod_lt_of_pos (at_.tmod (S.length : Int) + S.length) hL0
                      exact ⟨((at_.tmod (S.length : Int) + S.length) % (S.length : Int)).toNat, by omega, by omega⟩
                    have hex : (bs S).extract 0 m = bs (S.take m) := by rw [bs_extract, List.drop_zero, Nat.sub_zero]
                    have hlm : (S.take m).length = m := by rw [List.length_take]; omega
                    have HLM := Lib.hid hlm
                    clear hlm
                    unfold I64 at hat
                    clear hb2 hb3
                    go_wp2_with fail
                    refine (Read_any _ _).mono ?_
                    rintro e w7 ⟨rfl, hA7, hb8⟩
                    have hb9 := hb7.trans (hb8.mono hb7.size)
                    have hwg7 := hb7.size
                    obtain ⟨g7, hg7⟩ : ∃ g7, g7 = w6.heap.size := ⟨_, rfl⟩
                    rw [← hg7] at hA7 hwg7 ⊢
                    have HG7 := Lib.hid hg7
                    clear hg7 hb7 hb8 hm hex ht1 ht2
                    have HML := Lib.hid hmL
                    clear hmL
                    go_wp2_with fail
                    go_loopw [13] (fun i wr => ∃ (z a : Nat) (e : Int), z ≤ q ∧ i = .int .i64 z ∧ Below w.heap.size w wr ∧ Rd wr g7 (S.take m) a e ∧ a ≤ (S.take m).length ∧ Early S m (encN (xs.take z)).length a e) (fun i _ => q - (intOf i).toNat)
                    case atStart => exact ⟨0, 0, 0, Nat.zero_le _, rfl, hb9, hA7, Nat.zero_le _, .inl ⟨rfl, rfl, Nat.zero_le _⟩⟩
                    case round =>
                      obtain ⟨z, a, e, hz1, rfl, hb10, hA10, hle10, hearly⟩ := hrel
                      have HEA := Lib.hid hearly
                      clear hearly hA7 hb9
                      by_cases hlt5 : z < q
                      · have hkx : z < xs.length := by rw [HL.out]; exact hlt5
                        have hs1 := encN_at xs (encT ts) hkx
                        rw [HS.out] at hs1
                        have hne := early_num (Nat.le_of_lt HML.out) HEA.out hs1
                        rw [← List.length_append, ← encN_take hkx] at hne
                        have HNE := Lib.hid hne
                        clear hne hs1
                        have hls : (S.take m).length ≤ 9223372036854775807 := by rw [HLM.out]; have := HML.out; omega
                        have hnl := numS_le (e := e) hle10
                        have hgw10 := hb10.size
                        go_wp2_with fail
                        refine (Num_any _ _ _ _ _ hA10 hle10 hls).mono ?_
                        rintro e1 w11 ⟨rfl, hA11, hg11⟩
                        have hb11 := below_gb hb10 hg11 hwg7 hgw10
                        go_wp2_with fail
                        go_roundw
                        case rel => exact ⟨z + 1, _, _, by omega, by go_num, hb11, hA11, hnl, HNE.out⟩
                        case measure => simp [intOf]; omega
                      · obtain rfl : z = q := by omega
                        have he0 : xs.take z = xs := List.take_of_length_le (by rw [HL.out]; exact Nat.le_refl _)
                        rw [he0] at HEA
                        clear he0
                        have HEA0 : Hid (Early S m (encN xs ++ encT (ts.take 0)).length a e) := by
                          show Early _ _ _ _ _
                          simpa [encT] using HEA.out
                        clear HEA
                        obtain ⟨wo3, hwo⟩ : ∃ wo : World, wo = wr := ⟨_, rfl⟩
                        go_wp2_with fail
                        go_loopw [14] (fun i wr => ∃ (y a : Nat) (e : Int), y ≤ r ∧ i = .int .i64 y ∧ Below w.heap.size w wr ∧ Rd wr g7 (S.take m) a e ∧ a ≤ (S.take m).length ∧ Early S m (encN xs ++ encT (ts.take y)).length a e) (fun i _ => r - (intOf i).toNat)
                        case atStart => exact ⟨0, a, e, Nat.zero_le _, rfl, hb10, hA10, hle10, HEA0.out⟩
                        case round =>
                          obtain ⟨y, a2, e2, hy1, rfl, hb12, hA12, hle12, hearly⟩ := hrel
                          have HEA := Lib.hid hearly
                          clear hearly hA10 hb10 HEA0 hle10
                          have hls : (S.take m).length ≤ 9223372036854775807 := by rw [HLM.out]; have := HML.out; omega
                          have hgw12 := hb12.size
                          by_cases hlt6 : y < r
                          · have hkx : y < ts.length := by rw [HL'.out]; exact hlt6
                            have hs1 := encT_at (encN xs) ts hkx
                            rw [HS.out] at hs1
                            have hts : (ts[y]).length ≤ 9223372036854775807 := by have := HA.out ts[y] (List.getElem_mem _); omega
                            have hne := early_text hts (Nat.le_of_lt HML.out) HEA.out hs1
                            rw [← List.length_append, List.append_assoc, ← encT_take hkx] at hne
                            have HNE := Lib.hid hne
                            clear hne hs1 hts
                            have hnl := textS_le (e := e2) hle12
                            go_wp2_with fail
                            refine (Text_any _ _ _ _ _ hA12 hle12 hls).mono ?_
                            rintro e1 w13 ⟨rfl, hA13, hg13⟩
                            have hb13 := below_gb hb12 hg13 hwg7 hgw12
                            go_wp2_with fail
                            go_roundw
                            case rel => exact ⟨y + 1, _, _, by omega, by go_num, hb13, hA13, hnl, HNE.out⟩
                            case measure => simp [intOf]; omega
                          · obtain rfl : y = r := by omega
                            have he0 : ts.take y = ts := List.take_of_length_le (by rw [HL'.out]; exact Nat.le_refl _)
                            rw [he0, HS.out] at HEA
                            clear he0
                            have he10 : e2 = 10 := by
                              rcases HEA.out with ⟨_, _, h⟩ | h
                              · exact absurd HML.out (by omega)
                              · exact h
                            have hend : endS (S.take m) a2 e2 = 10 := by unfold endS; rw [he10, if_neg (by decide)]
                            have HE2 := Lib.hid hend
                            clear hend he10
                            go_wp2_with fail
                            refine (End_any _ _ _ _ _ hA12 hle12 hls).mono ?_
                            rintro e1 w14 ⟨rfl, hb14⟩
                            rw [HE2.out]
                            have hb15 := hb12.trans (hb14.mono hgw12)
                            clear hb12 hb14 hA12
                            go_wp2_with fail
                            refine (awake_any _).mono ?_
                            rintro e1 w15 ⟨rfl, hb16⟩
                            go_wp2_with fail
                            go_ret
                            exact ⟨rfl, hb15.trans (hb16.mono hb15.size)⟩
end Go.Proofs.Ytabdgomlcaglbaa
